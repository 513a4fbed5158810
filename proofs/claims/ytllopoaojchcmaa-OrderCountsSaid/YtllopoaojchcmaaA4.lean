/- layer 2: places in lists, lists that are the same, numbers that are put in -/
import Derived.Test.YtllopoaojchcmaaA3
namespace Go.Proofs.Ytllopoaojchcmaa
open Go.Px
set_option linter.unusedVariables false
set_option linter.unusedSimpArgs false

set_option maxRecDepth 10000 in
set_option maxHeartbeats 1600000 in
theorem bsearch_hand (av : Option Addr) (l : List H2) (c : Nat) (ti tg : Int) (w : World) (hav : Arr w 2 av l.length c (flat fH l)) (hbav : l.length ≤ 1000000) (hrs : Rises ltH l) :
    Calls Try.prog 39 #[.slice av l.length c, .agg #[iV ti, iV tg], .func (.func 34) #[] #[]] w (Ret fun v w' => v = .tuple #[iV ((pos ltH l (⟨ti, tg⟩ : H2) : Nat) : Int), bV (inS l (⟨ti, tg⟩ : H2))] ∧ Keep Nn w w') := by
 refine sxenter (n := 49) (args := [.slice av l.length c, .agg #[iV ti, iV tg], .func (.func 34) #[] #[]]) Try.func39 rfl rfl rfl fun a hf => ?_
 replace hf : Fr 49 [(0, eS av l.length c), (1, .val (.agg #[iV ti, iV tg])), (2, .val (.func (.func 34) #[] #[]))] a := hf
 have hM : MemOk [] w := MemOk.nil w
 have hk0 : Keep Nn w w := Keep.refl _ _
 refine wp_seq_k (fun K1 hK1 => ?_)
 refine wp_region_lit ?_
 refine q1 hf hM [0, 2] [{ os := [.nw] }, {}, {}] (nw := fun B1 => [(7, eB false), (6, eI 0), (4, eP B1 0)]) (M' := fun B1 => [⟨B1, 28, [iV ti, iV tg]⟩]) (ob := fun B1 => []) (fun B1 => An) ?_
 clear hf hM; intro a w1 B1 hf hM hB hk
 have hbB1 : w.heap.size ≤ B1 := by have := hk0.size; omega
 have hk0 := hk0.then hk (by intro i _ h; cases h)
 clear hk hB
 refine wpList_nil ?_
 refine hK1 _ _ ?_
 refine wp_seq_k (fun K2 hK2 => ?_)
 refine wp_region_lit ?_
 refine q0 hf hM [7, 6, 4, 0, 2] [{}, {}, {}] (nw := [(8, eI (l.length : Int))]) An ?_
 clear hf; intro a hf
 refine wpList_nil ?_
 refine hK2 _ _ ?_
 refine wp_seq_k (fun K3 hK3 => ?_)
 refine wp_region_lit ?_
 refine q0 hf hM [8, 7, 6, 4, 0, 2] [{}, {}, {}] (nw := [(10, eI (l.length : Int)), (9, eI 0)]) An ?_
 clear hf; intro a hf
 refine wpList_nil ?_
 refine hK3 _ _ ?_
 refine wp_seq_k (fun K4 hK4 => ?_)
 refine wp_block ?_
 have hf := (hf.prune [0, 2, 4, 6, 7, 8, 9, 10]).to (env' := [(0, eS av l.length c), (2, .val (.func (.func 34) #[] #[])), (4, eP B1 0), (6, eI 0), (7, eB false), (8, eI (l.length : Int)), (9, eI 0), (10, eI (l.length : Int))]) (by kernel_rfl)
 refine sxloop (fun zm a w1 => ∃ (i j : Int), zm = (j - i).toNat ∧ Fr 49 [(0, eS av l.length c), (2, .val (.func (.func 34) #[] #[])), (4, eP B1 0), (6, eI 0), (7, eB false), (8, eI (l.length : Int)), (9, eI i), (10, eI j)] a ∧ MemOk [⟨B1, 28, [iV ti, iV tg]⟩] w1 ∧ Keep Nn w w1 ∧ (Half ltH l (⟨ti, tg⟩ : H2) ⟨0, 0⟩ i j)) _ ⟨0, (l.length : Int), rfl, hf.conv (Ac rfl (Ac rfl (Ac rfl (Ac rfl (Ac rfl (Ac rfl (Ac rfl (Ao rfl)))))))), hM, hk0, Half.start _ _ _⟩ ?_
 clear hf hM hk0
 rintro _ a w2 ⟨i, j, rfl, hf, hM, hk0, hhf⟩ L1 hL1
 have hh1 := hhf.le
 refine wp_seq_k (fun K5 hK5 => ?_)
 refine wp_seq_k (fun K6 hK6 => ?_)
 refine wp_region_lit ?_
 refine q0 hf hM [0, 2, 4, 6, 7, 8, 9, 10] [{}, {}, {}] (nw := [(17, eB (decide ((i : Int) < j)))]) An ?_
 clear hf; intro a hf
 refine wpList_nil ?_
 refine hK6 _ _ ?_
 refine qc hf (b := (decide ((i : Int) < j))) (fun hc1r => ?_) (fun hc1r => ?_)
 · have hc1 := (nT hc1r)
   refine wp_skip ?_
   refine hK5 _ _ ?_
   refine wp_block ?_
   refine wp_seq_k (fun K7 hK7 => ?_)
   refine wp_region_lit ?_
   refine q0 hf hM [0, 2, 4, 6, 7, 8, 9, 10] [{}, {}, { hint := some (iV (i + j)) }, { hint := some (uV (i + j)) }, { sp := true, hint := some (uV ((i + j) / 2)) }, { hint := some (iV ((i + j) / 2)) }, {}] (nw := [(11, eI ((i + j) / 2))]) (ob := [(iV (IntKind.i64.wrap (i + j)) : Value) = (iV (i + j) : Value), (uV (IntKind.u64.wrap (i + j)) : Value) = (uV (i + j) : Value), 0 ≤ (1 : Int), (uV (Int.fdiv (i + j) (2 ^ (min (1 : Int).toNat IntKind.u64.bits))) : Value) = (uV ((i + j) / 2) : Value), (iV (IntKind.i64.wrap ((i + j) / 2)) : Value) = (iV ((i + j) / 2) : Value)]) (Ac (wr (by omega)) (Ac (wru (by omega)) (Ac (by omega) (Ac (shrOne (by omega)) (Ao (wr (by omega))))))) ?_
   clear hf; intro a hf
   refine wpList_nil ?_
   refine hK7 _ _ ?_
   refine wp_seq_k (fun K8 hK8 => ?_)
   replace hM := hM.drew; replace hk0 := hk0.drew
   obtain ⟨C1, hC1i, hC1e⟩ := qcls fun w' => MemOk [⟨B1, 28, [iV ti, iV tg]⟩] w' ∧ Keep Nn w w' ∧ True
   refine sxdraw (C := C1) (.leaf [(0, true), (1, true), (2, true), (3, true), (4, true), (5, true), (6, false), (7, true)]) (by kernel_rfl) (by kernel_rfl) (by as_aux_lemma => kernel_rfl) rfl (by as_aux_lemma => kernel_rfl) (by kernel_rfl) (hC1i _ ⟨hM.sub (.cons_cons _ .slnil), hk0, trivial⟩) ?_
   refine sxleaf ?_
   have hC := (hC1i _ ⟨hM.sub (.cons_cons _ .slnil), hk0, trivial⟩)
   refine qd hf hC (fun w' h => (hC1e w' h).1) [11, 0, 2, 4, 6, 7, 8, 9, 10] [{}, {}, {}, { sp := true }, { os := [.ex (iV ((l.getD ((i + j) / 2).toNat ⟨0, 0⟩).i)), .ex (iV ((l.getD ((i + j) / 2).toNat ⟨0, 0⟩).g))] }, { os := [.ld 0 0, .ld 0 1] }] (nw := [(29, .val (.agg #[iV ti, iV tg])), (28, .val (.agg #[iV ((l.getD ((i + j) / 2).toNat ⟨0, 0⟩).i), iV ((l.getD ((i + j) / 2).toNat ⟨0, 0⟩).g)])), (27, .val (.pointer (some ((sa av : Addr).add (((i + j) / 2).toNat * 2))))), (26, eI ((i + j) / 2)), (25, eS av l.length c), (24, .val (.func (.func 34) #[] #[]))]) (ob := [(0 : Int) ≤ ((i + j) / 2) ∧ ((i + j) / 2) < (l.length : Int), (av : Option Addr).isSome = true, (∀ w', C1 w' → w'.cell? (((sa av : Addr).add (((i + j) / 2).toNat * 2)).add 0) = some (iV ((l.getD ((i + j) / 2).toNat ⟨0, 0⟩).i))), (∀ w', C1 w' → w'.cell? (((sa av : Addr).add (((i + j) / 2).toNat * 2)).add 1) = some (iV ((l.getD ((i + j) / 2).toNat ⟨0, 0⟩).g))), Ad B1 0, Ad B1 1]) (Ac (by first | omega | (simp; done)) (Ac ((hav.keepNn hk0).some_ (by first | omega | (simp; done))) (Ac (fun w' hc => by obtain ⟨hM, hk0, hO⟩ := hC1e w' hc; exact ((hav.keepNn hk0).get (fun _ => rfl) (by first | omega | (simp; done)) rfl)) (Ac (fun w' hc => by obtain ⟨hM, hk0, hO⟩ := hC1e w' hc; exact ((hav.keepNn hk0).get (fun _ => rfl) (by first | omega | (simp; done)) rfl)) (Ac (ad _ _) (Ao (ad _ _))))))) ?_
   clear hf; intro a hf
   refine scstep rfl ?_
   refine sxcall hf rfl rfl rfl rfl (g := 34) (vs := [.agg #[iV ((l.getD ((i + j) / 2).toNat ⟨0, 0⟩).i), iV ((l.getD ((i + j) / 2).toNat ⟨0, 0⟩).g)], .agg #[iV ti, iV tg]]) (ob := []) (by as_aux_lemma => kernel_rfl) An enters34 (ocompare ((l.getD ((i + j) / 2).toNat ⟨0, 0⟩).i) ((l.getD ((i + j) / 2).toNat ⟨0, 0⟩).g) ti tg w2.drew  ) ?_
   clear hf; rintro _ w3 a ⟨rfl, hk⟩ hf
   have hM := hM.keepNn hk
   have hk0 := hk0.trans hk.nn
   clear hk
   have hC := (hC1i _ ⟨hM.sub (.cons_cons _ .slnil), hk0, trivial⟩)
   refine scdone hC ?_
   refine qd hf hC (fun w' h => (hC1e w' h).1) [30, 29, 28, 27, 26, 25, 24, 11, 0, 2, 4, 6, 7, 8, 9, 10] [{}] (nw := [(31, eB (decide (((cmpH ⟨((l.getD ((i + j) / 2).toNat ⟨0, 0⟩).i), ((l.getD ((i + j) / 2).toNat ⟨0, 0⟩).g)⟩ ⟨ti, tg⟩) : Int) < 0)))]) An ?_
   clear hf; intro a hf
   clear hC
   show K8 _ _
   refine hK8 _ _ ?_
   refine qc hf (b := (decide (((cmpH ⟨((l.getD ((i + j) / 2).toNat ⟨0, 0⟩).i), ((l.getD ((i + j) / 2).toNat ⟨0, 0⟩).g)⟩ ⟨ti, tg⟩) : Int) < 0))) (fun hc2r => ?_) (fun hc2r => ?_)
   · have hc2 := (nT hc2r)
     refine wp_region_lit ?_
     refine q0 hf hM [31, 30, 29, 28, 27, 26, 25, 24, 0, 2, 4, 6, 7, 8, 10] [{}, { hint := some (iV (((i + j) / 2) + 1)) }, {}] (nw := [(9, eI (((i + j) / 2) + 1))]) (ob := [(iV (IntKind.i64.wrap (((i + j) / 2) + 1)) : Value) = (iV (((i + j) / 2) + 1) : Value)]) (Ao (wr (by omega))) ?_
     clear hf; intro a hf
     refine wpList_nil ?_
     have hhf2 := hhf.low ordH hrs (m := (i + j) / 2) ⟨by omega, by omega⟩ ((cmpH_neg _ _).1 (by assumption))
     have hf := (hf.prune [0, 2, 4, 6, 7, 8, 9, 10]).to (env' := [(0, eS av l.length c), (2, .val (.func (.func 34) #[] #[])), (4, eP B1 0), (6, eI 0), (7, eB false), (8, eI (l.length : Int)), (9, eI (((i + j) / 2) + 1)), (10, eI j)]) (by kernel_rfl)
     refine hL1 _ _ _ (by omega) ⟨((i + j) / 2) + 1, j, rfl, hf.conv (Ac rfl (Ac rfl (Ac rfl (Ac rfl (Ac rfl (Ac rfl (Ac rfl (Ao rfl)))))))), hM, hk0, hhf2⟩
   · have hc2 := (nU hc2r)
     refine wp_region_lit ?_
     refine q0 hf hM [31, 30, 29, 28, 27, 26, 25, 24, 0, 2, 4, 6, 7, 8, 9] [{}, {}] (nw := [(10, eI ((i + j) / 2))]) An ?_
     clear hf; intro a hf
     refine wpList_nil ?_
     have hhf2 := hhf.high ordH hrs (m := (i + j) / 2) ⟨by omega, by omega⟩ (by rw [← Bool.not_eq_true, ← cmpH_neg]; assumption)
     have hf := (hf.prune [0, 2, 4, 6, 7, 8, 9, 10]).to (env' := [(0, eS av l.length c), (2, .val (.func (.func 34) #[] #[])), (4, eP B1 0), (6, eI 0), (7, eB false), (8, eI (l.length : Int)), (9, eI i), (10, eI ((i + j) / 2))]) (by kernel_rfl)
     refine hL1 _ _ _ (by omega) ⟨i, (i + j) / 2, rfl, hf.conv (Ac rfl (Ac rfl (Ac rfl (Ac rfl (Ac rfl (Ac rfl (Ac rfl (Ao rfl)))))))), hM, hk0, hhf2⟩
 · have hc1 := (nU hc1r)
   refine wp_exit ?_
   refine hK4 _ _ ?_
   refine wp_seq_k (fun K9 hK9 => ?_)
   replace hM := hM.drew; replace hk0 := hk0.drew
   obtain ⟨C2, hC2i, hC2e⟩ := qcls fun w' => MemOk [⟨B1, 28, [iV ti, iV tg]⟩] w' ∧ Keep Nn w w' ∧ True
   refine sxdraw (C := C2) (.leaf [(0, true), (1, true), (2, true), (3, true), (4, true), (5, true), (6, true), (7, true), (8, true), (9, true), (10, true), (11, false), (12, true), (13, true), (14, true), (15, true)]) (by kernel_rfl) (by kernel_rfl) (by as_aux_lemma => kernel_rfl) rfl (by as_aux_lemma => kernel_rfl) (by kernel_rfl) (hC2i _ ⟨hM.sub (.cons_cons _ .slnil), hk0, trivial⟩) ?_
   refine sxleaf ?_
   have hC := (hC2i _ ⟨hM.sub (.cons_cons _ .slnil), hk0, trivial⟩)
   refine qd hf hC (fun w' h => (hC2e w' h).1) [0, 2, 4, 6, 7, 9] [{}, {}, {}, {}, {}] (nw := [(39, eB (decide ((i : Int) < (l.length : Int)))), (35, eI i)]) An ?_
   clear hf; intro a hf
   rcases Bool.eq_false_or_eq_true (decide ((i : Int) < (l.length : Int))) with hg1r | hg1r
   · have hg1 := (nT hg1r)
     have hf := hf.setb 39 hg1r
     refine qd hf hC (fun w' h => (hC2e w' h).1) [39, 35, 6, 7] [{}, {}, {}, { sp := true }, { os := [.ex (iV (l.getD i.toNat ⟨0, 0⟩).i), .ex (iV (l.getD i.toNat ⟨0, 0⟩).g)] }, { os := [.ld 0 0, .ld 0 1] }] (nw := [(45, .val (.agg #[iV ti, iV tg])), (44, .val (.agg #[iV (l.getD i.toNat ⟨0, 0⟩).i, iV (l.getD i.toNat ⟨0, 0⟩).g])), (40, .val (.func (.func 34) #[] #[]))]) (ob := [true = true, true = true, true = true, true = true, (0 : Int) ≤ i ∧ i < (l.length : Int), (av : Option Addr).isSome = true, true = true, (∀ w', C2 w' → w'.cell? (((sa av : Addr).add (i.toNat * 2)).add 0) = some (iV (l.getD i.toNat ⟨0, 0⟩).i)), (∀ w', C2 w' → w'.cell? (((sa av : Addr).add (i.toNat * 2)).add 1) = some (iV (l.getD i.toNat ⟨0, 0⟩).g)), true = true, Ad B1 0, Ad B1 1]) (Ac rfl (Ac rfl (Ac rfl (Ac rfl (Ac (by first | omega | (simp; done)) (Ac ((hav.keepNn hk0).some_ (by first | omega | (simp; done))) (Ac rfl (Ac (fun w' hc => by obtain ⟨hM, hk0, hO⟩ := hC2e w' hc; exact ((hav.keepNn hk0).get (fun _ => rfl) (by first | omega | (simp; done)) rfl)) (Ac (fun w' hc => by obtain ⟨hM, hk0, hO⟩ := hC2e w' hc; exact ((hav.keepNn hk0).get (fun _ => rfl) (by first | omega | (simp; done)) rfl)) (Ac rfl (Ac (ad _ _) (Ao (ad _ _))))))))))))) ?_
     clear hf; intro a hf
     refine scstep rfl ?_
     refine sxcallg hf rfl rfl rfl rfl rfl (g := 34) (vs := [.agg #[iV (l.getD i.toNat ⟨0, 0⟩).i, iV (l.getD i.toNat ⟨0, 0⟩).g], .agg #[iV ti, iV tg]]) (ob := []) (by as_aux_lemma => kernel_rfl) An enters34 (ocompare (l.getD i.toNat ⟨0, 0⟩).i (l.getD i.toNat ⟨0, 0⟩).g ti tg w2.drew  ) ?_
     clear hf; rintro _ w4 a ⟨rfl, hk⟩ hf
     have hM := hM.keepNn hk
     have hk0 := hk0.trans hk.nn
     clear hk
     have hC := (hC2i _ ⟨hM.sub (.cons_cons _ .slnil), hk0, trivial⟩)
     refine scdone hC ?_
     refine qd hf hC (fun w' h => (hC2e w' h).1) [] [{}, {}, {}, {}] (nw := [(7, eB (((cmpH ⟨(l.getD i.toNat ⟨0, 0⟩).i, (l.getD i.toNat ⟨0, 0⟩).g⟩ ⟨ti, tg⟩) : Int) == 0)), (6, eI i)]) (ob := [true = true]) (Ao rfl) ?_
     clear hf; intro a hf
     clear hC
     show K9 _ _
     refine hK9 _ _ ?_
     refine wp_ret ?_
     refine qr (fn := Try.f39) hf hM [] (l := [iV i, bV (((cmpH ⟨(l.getD i.toNat ⟨0, 0⟩).i, (l.getD i.toNat ⟨0, 0⟩).g⟩ ⟨ti, tg⟩) : Int) == 0)]) (ob := []) An ?_
     show (.tuple #[iV i, bV (((cmpH ⟨(l.getD i.toNat ⟨0, 0⟩).i, (l.getD i.toNat ⟨0, 0⟩).g⟩ ⟨ti, tg⟩) : Int) == 0)] : Value) = .tuple #[iV ((pos ltH l (⟨ti, tg⟩ : H2) : Nat) : Int), bV (inS l (⟨ti, tg⟩ : H2))] ∧ Keep Nn w w4
     have hd := hhf.done (by omega)
     have hm := half_inH (d := ⟨0, 0⟩) hrs hd (by omega)
     rw [← hd, ← hm]
     exact ⟨rfl, hk0⟩
   · have hg1 := (nU hg1r)
     have hf := hf.setb 39 hg1r
     refine qd hf hC (fun w' h => (hC2e w' h).1) [39, 35, 6, 7] [{ g := .off }, { g := .off }, { g := .off }, { g := .off }, { g := .off }, { g := .off }] (nw := [(45, .val (undef)), (44, .val (undef)), (40, .val (undef))]) (ob := [false = !true, false = !true, false = !true, false = !true, false = !true, false = !true]) (Ac rfl (Ac rfl (Ac rfl (Ac rfl (Ac rfl (Ao rfl)))))) ?_
     clear hf; intro a hf
     refine scstep rfl ?_
     refine q0 hf hM [39, 35, 6, 7] [{ g := .off }] (nw := [(46, .val (undef))]) (ob := [false = !true]) (Ao rfl) ?_
     clear hf; intro a hf
     have hC := (hC2i _ ⟨hM.sub (.cons_cons _ .slnil), hk0, trivial⟩)
     refine scdone hC ?_
     refine qd hf hC (fun w' h => (hC2e w' h).1) [7] [{ g := .off }, {}, {}, {}] (nw := [(6, eI i)]) (ob := [false = !true]) (Ao rfl) ?_
     clear hf; intro a hf
     clear hC
     show K9 _ _
     refine hK9 _ _ ?_
     refine wp_ret ?_
     refine qr (fn := Try.f39) hf hM [] (l := [iV i, bV false]) (ob := []) An ?_
     show (.tuple #[iV i, bV false] : Value) = .tuple #[iV ((pos ltH l (⟨ti, tg⟩ : H2) : Nat) : Int), bV (inS l (⟨ti, tg⟩ : H2))] ∧ Keep Nn w w2.drew
     have hd := hhf.done (by omega)
     first
       | (have hm := half_out ordH hrs hd (by omega) ⟨0, 0⟩
          rw [← hd, hm]
          exact ⟨rfl, hk0⟩)
       | (have hm := half_inI (d := 0) hrs hd (by omega)
          have hz : (l.getD i.toNat 0 == t) = false := by assumption
          rw [← hd, ← hm, hz]
          exact ⟨rfl, hk0⟩)

set_option maxRecDepth 10000 in
set_option maxHeartbeats 1600000 in
theorem bsearch_int (av : Option Addr) (l : List Int) (c : Nat) (t : Int) (w : World) (hav : Arr w 1 av l.length c (flat fI l)) (hbav : l.length ≤ 1000000) (hrs : Rises ltI l) :
    Calls Try.prog 46 #[.slice av l.length c, iV t] w (Ret fun v w' => v = .tuple #[iV ((pos ltI l t : Nat) : Int), bV (inS l t)] ∧ Keep Nn w w') := by
 refine sxenter (n := 54) (args := [.slice av l.length c, iV t]) Try.func46 rfl rfl rfl fun a hf => ?_
 replace hf : Fr 54 [(0, eS av l.length c), (1, eI t)] a := hf
 have hM : MemOk [] w := MemOk.nil w
 have hk0 : Keep Nn w w := Keep.refl _ _
 refine wp_seq_k (fun K1 hK1 => ?_)
 refine wp_region_lit ?_
 refine q0 hf hM [0, 1] [{}, {}] (nw := []) An ?_
 clear hf; intro a hf
 refine wpList_nil ?_
 refine hK1 _ _ ?_
 refine wp_seq_k (fun K2 hK2 => ?_)
 refine wp_region_lit ?_
 refine q0 hf hM [0, 1] [{}, {}, {}] (nw := [(6, eI (l.length : Int))]) An ?_
 clear hf; intro a hf
 refine wpList_nil ?_
 refine hK2 _ _ ?_
 refine wp_seq_k (fun K3 hK3 => ?_)
 refine wp_region_lit ?_
 refine q0 hf hM [6, 0, 1] [{}, {}, {}] (nw := [(8, eI (l.length : Int)), (7, eI 0)]) An ?_
 clear hf; intro a hf
 refine wpList_nil ?_
 refine hK3 _ _ ?_
 refine wp_seq_k (fun K4 hK4 => ?_)
 refine wp_block ?_
 have hf := (hf.prune [0, 1, 6, 7, 8]).to (env' := [(0, eS av l.length c), (1, eI t), (6, eI (l.length : Int)), (7, eI 0), (8, eI (l.length : Int))]) (by kernel_rfl)
 refine sxloop (fun zm a w1 => ∃ (i j : Int), zm = (j - i).toNat ∧ Fr 54 [(0, eS av l.length c), (1, eI t), (6, eI (l.length : Int)), (7, eI i), (8, eI j)] a ∧ MemOk [] w1 ∧ Keep Nn w w1 ∧ (Half ltI l t 0 i j)) _ ⟨0, (l.length : Int), rfl, hf.conv (Ac rfl (Ac rfl (Ac rfl (Ac rfl (Ao rfl))))), hM, hk0, Half.start _ _ _⟩ ?_
 clear hf hM hk0
 rintro _ a w1 ⟨i, j, rfl, hf, hM, hk0, hhf⟩ L1 hL1
 have hh1 := hhf.le
 refine wp_seq_k (fun K5 hK5 => ?_)
 refine wp_seq_k (fun K6 hK6 => ?_)
 refine wp_region_lit ?_
 refine q0 hf hM [0, 1, 6, 7, 8] [{}, {}, {}] (nw := [(15, eB (decide ((i : Int) < j)))]) An ?_
 clear hf; intro a hf
 refine wpList_nil ?_
 refine hK6 _ _ ?_
 refine qc hf (b := (decide ((i : Int) < j))) (fun hc1r => ?_) (fun hc1r => ?_)
 · have hc1 := (nT hc1r)
   refine wp_skip ?_
   refine hK5 _ _ ?_
   refine wp_block ?_
   refine wp_seq_k (fun K7 hK7 => ?_)
   refine wp_region_lit ?_
   refine q0 hf hM [0, 1, 6, 7, 8] [{}, {}, { hint := some (iV (i + j)) }, { hint := some (uV (i + j)) }, { sp := true, hint := some (uV ((i + j) / 2)) }, { hint := some (iV ((i + j) / 2)) }, {}] (nw := [(9, eI ((i + j) / 2))]) (ob := [(iV (IntKind.i64.wrap (i + j)) : Value) = (iV (i + j) : Value), (uV (IntKind.u64.wrap (i + j)) : Value) = (uV (i + j) : Value), 0 ≤ (1 : Int), (uV (Int.fdiv (i + j) (2 ^ (min (1 : Int).toNat IntKind.u64.bits))) : Value) = (uV ((i + j) / 2) : Value), (iV (IntKind.i64.wrap ((i + j) / 2)) : Value) = (iV ((i + j) / 2) : Value)]) (Ac (wr (by omega)) (Ac (wru (by omega)) (Ac (by omega) (Ac (shrOne (by omega)) (Ao (wr (by omega))))))) ?_
   clear hf; intro a hf
   refine wpList_nil ?_
   refine hK7 _ _ ?_
   refine wp_seq_k (fun K8 hK8 => ?_)
   refine wp_region_lit ?_
   refine q0 hf hM [9, 0, 1, 6, 7, 8] [{}, {}, { sp := true }, { os := [.ex (iV (l.getD ((i + j) / 2).toNat 0))] }, {}] (nw := [(26, eI t), (25, eI (l.getD ((i + j) / 2).toNat 0))]) (ob := [(0 : Int) ≤ ((i + j) / 2) ∧ ((i + j) / 2) < (l.length : Int), (av : Option Addr).isSome = true, w1.cell? ((sa av : Addr).add (((i + j) / 2).toNat * 1)) = some (iV (l.getD ((i + j) / 2).toNat 0))]) (Ac (by first | omega | (simp; done)) (Ac ((hav.keepNn hk0).some_ (by first | omega | (simp; done))) (Ao ((hav.keepNn hk0).get0 (fun _ => rfl) (by first | omega | (simp; done)) rfl)))) ?_
   clear hf; intro a hf
   refine sxcall hf rfl rfl rfl rfl (g := 62) (vs := [iV (l.getD ((i + j) / 2).toNat 0), iV t]) (ob := []) (by as_aux_lemma => kernel_rfl) An enters62 (less_int (l.getD ((i + j) / 2).toNat 0) t w1  ) ?_
   clear hf; rintro _ w2 a ⟨rfl, hk⟩ hf
   have hM := hM.keepNn hk
   have hk0 := hk0.trans hk.nn
   clear hk
   refine wpList_nil ?_
   refine hK8 _ _ ?_
   refine qc hf (b := ltI (l.getD ((i + j) / 2).toNat 0) t) (fun hc2r => ?_) (fun hc2r => ?_)
   · have hc2 := hc2r
     refine wp_region_lit ?_
     refine q0 hf hM [0, 1, 6, 8] [{}, { hint := some (iV (((i + j) / 2) + 1)) }, {}] (nw := [(7, eI (((i + j) / 2) + 1))]) (ob := [(iV (IntKind.i64.wrap (((i + j) / 2) + 1)) : Value) = (iV (((i + j) / 2) + 1) : Value)]) (Ao (wr (by omega))) ?_
     clear hf; intro a hf
     refine wpList_nil ?_
     have hhf2 := hhf.low ordI hrs (m := (i + j) / 2) ⟨by omega, by omega⟩ (by assumption)
     have hf := (hf.prune [0, 1, 6, 7, 8]).to (env' := [(0, eS av l.length c), (1, eI t), (6, eI (l.length : Int)), (7, eI (((i + j) / 2) + 1)), (8, eI j)]) (by kernel_rfl)
     refine hL1 _ _ _ (by omega) ⟨((i + j) / 2) + 1, j, rfl, hf.conv (Ac rfl (Ac rfl (Ac rfl (Ac rfl (Ao rfl))))), hM, hk0, hhf2⟩
   · have hc2 := hc2r
     refine wp_region_lit ?_
     refine q0 hf hM [0, 1, 6, 7] [{}, {}] (nw := [(8, eI ((i + j) / 2))]) An ?_
     clear hf; intro a hf
     refine wpList_nil ?_
     have hhf2 := hhf.high ordI hrs (m := (i + j) / 2) ⟨by omega, by omega⟩ (by assumption)
     have hf := (hf.prune [0, 1, 6, 7, 8]).to (env' := [(0, eS av l.length c), (1, eI t), (6, eI (l.length : Int)), (7, eI i), (8, eI ((i + j) / 2))]) (by kernel_rfl)
     refine hL1 _ _ _ (by omega) ⟨i, (i + j) / 2, rfl, hf.conv (Ac rfl (Ac rfl (Ac rfl (Ac rfl (Ao rfl))))), hM, hk0, hhf2⟩
 · have hc1 := (nU hc1r)
   refine wp_exit ?_
   refine hK4 _ _ ?_
   refine wp_seq_k (fun K9 hK9 => ?_)
   refine wp_region_lit ?_
   refine q0 hf hM [0, 1, 7] [{}, {}, {}, {}, {}] (nw := [(35, eB (decide ((i : Int) < (l.length : Int)))), (31, eI i)]) An ?_
   clear hf; intro a hf
   rcases Bool.eq_false_or_eq_true (decide ((i : Int) < (l.length : Int))) with hg1r | hg1r
   · have hg1 := (nT hg1r)
     have hf := hf.setb 35 hg1r
     refine q0 hf hM [35, 31, 0, 1, 7] [{}, {}, { sp := true }, { os := [.ex (iV (l.getD i.toNat 0))] }, {}, {}, {}] (nw := [(42, eB (((l.getD i.toNat 0) : Int) == t))]) (ob := [true = true, true = true, true = true, (0 : Int) ≤ i ∧ i < (l.length : Int), (av : Option Addr).isSome = true, true = true, w1.cell? ((sa av : Addr).add (i.toNat * 1)) = some (iV (l.getD i.toNat 0)), true = true, true = true, true = true]) (Ac rfl (Ac rfl (Ac rfl (Ac (by first | omega | (simp; done)) (Ac ((hav.keepNn hk0).some_ (by first | omega | (simp; done))) (Ac rfl (Ac ((hav.keepNn hk0).get0 (fun _ => rfl) (by first | omega | (simp; done)) rfl) (Ac rfl (Ac rfl (Ao rfl)))))))))) ?_
     clear hf; intro a hf
     rcases Bool.eq_false_or_eq_true (((l.getD i.toNat 0) : Int) == t) with hg2r | hg2r
     · have hg2 := (nE hg2r)
       have hf := hf.setb 42 hg2r
       refine q0 hf hM [42, 35, 31, 1] [{ g := .off }, { g := .off }, { g := .off }, { g := .off }] (nw := [(46, .val (undef))]) (ob := [true = !false, true = !false, true = !false, true = !false]) (Ac rfl (Ac rfl (Ac rfl (Ao rfl)))) ?_
       clear hf; intro a hf
       refine q0 hf hM [42, 35, 31] [{ g := .off }, { g := .off }, { g := .off }] (nw := [(49, .val (undef)), (48, .val (undef))]) (ob := [true = !false, true = !false]) (Ac rfl (Ao rfl)) ?_
       clear hf; intro a hf
       refine q0 hf hM [] [{ g := .off }, { g := .off }, {}, {}, {}, {}] (nw := [(5, eB true), (4, eI i)]) (ob := [true = !false, true = true]) (Ac rfl (Ao rfl)) ?_
       clear hf; intro a hf
       refine wpList_nil ?_
       refine hK9 _ _ ?_
       refine wp_ret ?_
       refine qr (fn := Try.f46) hf hM [] (l := [iV i, bV true]) (ob := []) An ?_
       show (.tuple #[iV i, bV true] : Value) = .tuple #[iV ((pos ltI l t : Nat) : Int), bV (inS l t)] ∧ Keep Nn w w1
       have hd := hhf.done (by omega)
       have hm := half_inI (d := 0) hrs hd (by omega)
       have hz : (l.getD i.toNat 0 == t) = true := by assumption
       rw [← hd, ← hm, hz]
       exact ⟨rfl, hk0⟩
     · have hg2 := (nF hg2r)
       have hf := hf.setb 42 hg2r
       refine q0 hf hM [42, 35, 31, 1] [{}, {}, { sp := true }, { os := [.ex (iV (l.getD i.toNat 0))] }] (nw := [(46, eI (l.getD i.toNat 0))]) (ob := [false = false, false = false, false = false, (0 : Int) ≤ i ∧ i < (l.length : Int), (av : Option Addr).isSome = true, false = false, w1.cell? ((sa av : Addr).add (i.toNat * 1)) = some (iV (l.getD i.toNat 0))]) (Ac rfl (Ac rfl (Ac rfl (Ac (by first | omega | (simp; done)) (Ac ((hav.keepNn hk0).some_ (by first | omega | (simp; done))) (Ac rfl (Ao ((hav.keepNn hk0).get0 (fun _ => rfl) (by first | omega | (simp; done)) rfl)))))))) ?_
       clear hf; intro a hf
       refine sxcallg hf rfl rfl rfl rfl rfl (g := 63) (vs := [iV (l.getD i.toNat 0)]) (ob := []) (by as_aux_lemma => kernel_rfl) An enters63 (isnan2 (l.getD i.toNat 0) w1  ) ?_
       clear hf; rintro _ w3 a ⟨rfl, hk⟩ hf
       have hM := hM.keepNn hk
       have hk0 := hk0.trans hk.nn
       clear hk
       refine q0 hf hM [42, 35, 31] [{}, { g := .off }] (nw := [(49, .val (undef)), (48, eB false)]) (ob := [false = false, false = !true]) (Ac rfl (Ao rfl)) ?_
       clear hf; intro a hf
       refine q0 hf hM [] [{ g := .off }, {}, {}, {}, {}, {}] (nw := [(5, eB false), (4, eI i)]) (ob := [false = !true, false = false, true = true]) (Ac rfl (Ac rfl (Ao rfl))) ?_
       clear hf; intro a hf
       refine wpList_nil ?_
       refine hK9 _ _ ?_
       refine wp_ret ?_
       refine qr (fn := Try.f46) hf hM [] (l := [iV i, bV false]) (ob := []) An ?_
       show (.tuple #[iV i, bV false] : Value) = .tuple #[iV ((pos ltI l t : Nat) : Int), bV (inS l t)] ∧ Keep Nn w w3
       have hd := hhf.done (by omega)
       first
         | (have hm := half_out ordI hrs hd (by omega) 0
            rw [← hd, hm]
            exact ⟨rfl, hk0⟩)
         | (have hm := half_inI (d := 0) hrs hd (by omega)
            have hz : (l.getD i.toNat 0 == t) = false := by assumption
            rw [← hd, ← hm, hz]
            exact ⟨rfl, hk0⟩)
   · have hg1 := (nU hg1r)
     have hf := hf.setb 35 hg1r
     refine q0 hf hM [35, 31, 1] [{ g := .off }, { g := .off }, { g := .off }, { g := .off }, { g := .off }, { g := .off }, { g := .off }, { g := .off }, { g := .off }, { g := .off }, { g := .off }] (nw := [(46, .val (undef)), (42, .val (undef))]) (ob := [false = !true, false = !true, false = !true, false = !true, false = !true, false = !true, false = !true]) (Ac rfl (Ac rfl (Ac rfl (Ac rfl (Ac rfl (Ac rfl (Ao rfl))))))) ?_
     clear hf; intro a hf
     refine q0 hf hM [42, 35, 31] [{ g := .off }, { g := .off }, { g := .off }] (nw := [(49, .val (undef)), (48, .val (undef))]) An ?_
     clear hf; intro a hf
     refine q0 hf hM [] [{ g := .off }, { g := .off }, { g := .off }, {}, {}, {}] (nw := [(5, eB false), (4, eI i)]) (ob := [false = !true]) (Ao rfl) ?_
     clear hf; intro a hf
     refine wpList_nil ?_
     refine hK9 _ _ ?_
     refine wp_ret ?_
     refine qr (fn := Try.f46) hf hM [] (l := [iV i, bV false]) (ob := []) An ?_
     show (.tuple #[iV i, bV false] : Value) = .tuple #[iV ((pos ltI l t : Nat) : Int), bV (inS l t)] ∧ Keep Nn w w1
     have hd := hhf.done (by omega)
     first
       | (have hm := half_out ordI hrs hd (by omega) 0
          rw [← hd, hm]
          exact ⟨rfl, hk0⟩)
       | (have hm := half_inI (d := 0) hrs hd (by omega)
          have hz : (l.getD i.toNat 0 == t) = false := by assumption
          rw [← hd, ← hm, hz]
          exact ⟨rfl, hk0⟩)

set_option maxRecDepth 10000 in
set_option maxHeartbeats 1600000 in
theorem ofind (av : Option Addr) (l : List H2) (c : Nat) (ti tg : Int) (w : World) (hav : Arr w 2 av l.length c (flat fH l)) (hbav : l.length ≤ 1000000) (hrs : Rises ltH l) :
    Calls Try.prog 22 #[.slice av l.length c, .agg #[iV ti, iV tg]] w (Ret fun v w' => v = .int .i64 (findS ltH l (⟨ti, tg⟩ : H2)) ∧ Keep Nn w w') := by
 refine sxenter (n := 16) (args := [.slice av l.length c, .agg #[iV ti, iV tg]]) Try.func22 rfl rfl rfl fun a hf => ?_
 replace hf : Fr 16 [(0, eS av l.length c), (1, .val (.agg #[iV ti, iV tg]))] a := hf
 have hM : MemOk [] w := MemOk.nil w
 have hk0 : Keep Nn w w := Keep.refl _ _
 refine wp_seq_k (fun K1 hK1 => ?_)
 refine wp_region_lit ?_
 refine q1 hf hM [0] [{ os := [.nw] }, {}] (nw := fun B1 => [(3, eP B1 0)]) (M' := fun B1 => [⟨B1, 28, [iV ti, iV tg]⟩]) (ob := fun B1 => []) (fun B1 => An) ?_
 clear hf hM; intro a w1 B1 hf hM hB hk
 have hbB1 : w.heap.size ≤ B1 := by have := hk0.size; omega
 have hk0 := hk0.then hk (by intro i _ h; cases h)
 clear hk hB
 refine wpList_nil ?_
 refine hK1 _ _ ?_
 refine wp_seq_k (fun K2 hK2 => ?_)
 refine wp_region_lit ?_
 refine q0 hf hM [] [{}, { os := [.ld 0 0, .ld 0 1] }] (nw := [(9, .val (.agg #[iV ti, iV tg])), (8, eS av l.length c)]) (ob := [Ad B1 0, Ad B1 1]) (Ac (ad _ _) (Ao (ad _ _))) ?_
 clear hf; intro a hf
 refine sxcall hf rfl rfl rfl rfl (g := 39) (vs := [.slice av l.length c, .agg #[iV ti, iV tg], .func (.func 34) #[] #[]]) (ob := []) (by as_aux_lemma => kernel_rfl) An enters39 (bsearch_hand av l c ti tg w1  (hav.keepNn hk0) (by first | omega | (simp; omega) | (simp; done) | exact Nat.le_trans (byKinds_len _ _) (by omega) | decide) (by first | assumption | exact ordS_rises ordH _ | exact ordS_rises ordI _ | (unfold Rises; decide))) ?_
 clear hf; rintro _ w2 a ⟨rfl, hk⟩ hf
 have hM := hM.keepNn hk
 have hk0 := hk0.trans hk.nn
 clear hk
 refine q0 hf hM [] [{}, {}, {}, {}, {}] (nw := [(6, eB (inS l (⟨ti, tg⟩ : H2))), (5, eI ((pos ltH l (⟨ti, tg⟩ : H2) : Nat) : Int))]) An ?_
 clear hf; intro a hf
 refine wpList_nil ?_
 refine hK2 _ _ ?_
 refine wp_seq_k (fun K3 hK3 => ?_)
 refine wp_seq_k (fun K4 hK4 => ?_)
 refine wp_region_lit ?_
 refine q0 hf hM [5] [{}, {}] (nw := [(14, eB (!(inS l (⟨ti, tg⟩ : H2))))]) An ?_
 clear hf; intro a hf
 refine wpList_nil ?_
 refine hK4 _ _ ?_
 refine qc hf (b := !(inS l (⟨ti, tg⟩ : H2))) (fun hc1r => ?_) (fun hc1r => ?_)
 · have hc1 := hc1r
   try simp only [Bool.or_eq_true, Bool.and_eq_true, Bool.not_eq_true', Bool.not_eq_false', Bool.or_eq_false_iff, Bool.and_eq_false_iff, decide_eq_true_eq, decide_eq_false_iff_not, beq_iff_eq, bne_iff_ne, beq_eq_false_iff_ne, bne_eq_false_iff_eq, Bool.and_true, Bool.true_and, ne_eq] at hc1
   refine wp_seq_k (fun K5 hK5 => ?_)
   refine wp_region_lit ?_
   refine q0 hf hM [] [{}] (nw := [(4, eI (-1))]) An ?_
   clear hf; intro a hf
   refine wpList_nil ?_
   refine hK5 _ _ ?_
   refine wp_ret ?_
   refine qr (fn := Try.f22) hf hM [] (l := [iV (-1)]) (ob := []) An ?_
   show (iV (-1) : Value) = .int .i64 (findS ltH l (⟨ti, tg⟩ : H2)) ∧ Keep Nn w w2
   refine ⟨congrArg _ ?_, hk0⟩
   simp_all [findS, inS]
 · have hc1 := hc1r
   try simp only [Bool.or_eq_true, Bool.and_eq_true, Bool.not_eq_true', Bool.not_eq_false', Bool.or_eq_false_iff, Bool.and_eq_false_iff, decide_eq_true_eq, decide_eq_false_iff_not, beq_iff_eq, bne_iff_ne, beq_eq_false_iff_ne, bne_eq_false_iff_eq, Bool.and_true, Bool.true_and, ne_eq] at hc1
   refine wp_skip ?_
   refine hK3 _ _ ?_
   refine wp_seq_k (fun K6 hK6 => ?_)
   refine wp_region_lit ?_
   refine q0 hf hM [] [{}, {}] (nw := [(4, eI ((pos ltH l (⟨ti, tg⟩ : H2) : Nat) : Int))]) An ?_
   clear hf; intro a hf
   refine wpList_nil ?_
   refine hK6 _ _ ?_
   refine wp_ret ?_
   refine qr (fn := Try.f22) hf hM [] (l := [iV ((pos ltH l (⟨ti, tg⟩ : H2) : Nat) : Int)]) (ob := []) An ?_
   show (iV ((pos ltH l (⟨ti, tg⟩ : H2) : Nat) : Int) : Value) = .int .i64 (findS ltH l (⟨ti, tg⟩ : H2)) ∧ Keep Nn w w2
   refine ⟨congrArg _ ?_, hk0⟩
   simp_all [findS, inS]

set_option maxRecDepth 10000 in
set_option maxHeartbeats 1600000 in
theorem rsameH (av : Option Addr) (l : List H2) (c : Nat) (bv : Option Addr) (m : List H2) (cm : Nat) (w : World) (hav : Arr w 2 av l.length c (flat fH l)) (hbav : l.length ≤ 1000000) (hbv : Arr w 2 bv m.length cm (flat fH m)) (hbbv : m.length ≤ 1000000) :
    Calls Try.prog 14 #[.slice av l.length c, .slice bv m.length cm] w (Ret fun v w' => v = .bool (sameL l m) ∧ Keep Nn w w') := by
 refine sxenter (n := 26) (args := [.slice av l.length c, .slice bv m.length cm]) Try.func14 rfl rfl rfl fun a hf => ?_
 replace hf : Fr 26 [(0, eS av l.length c), (1, eS bv m.length cm)] a := hf
 have hM : MemOk [] w := MemOk.nil w
 have hk0 : Keep Nn w w := Keep.refl _ _
 refine wp_seq_k (fun K1 hK1 => ?_)
 refine wp_region_lit ?_
 refine q0 hf hM [0, 1] [{}] (nw := []) An ?_
 clear hf; intro a hf
 refine wpList_nil ?_
 refine hK1 _ _ ?_
 refine wp_seq_k (fun K2 hK2 => ?_)
 refine wp_seq_k (fun K3 hK3 => ?_)
 refine wp_region_lit ?_
 refine q0 hf hM [0, 1] [{}, {}, {}, {}, {}] (nw := [(10, eB (((l.length : Int) : Int) != (m.length : Int)))]) An ?_
 clear hf; intro a hf
 refine wpList_nil ?_
 refine hK3 _ _ ?_
 refine qc hf (b := (((l.length : Int) : Int) != (m.length : Int))) (fun hc1r => ?_) (fun hc1r => ?_)
 · have hc1 := (nN hc1r)
   refine wp_seq_k (fun K4 hK4 => ?_)
   refine wp_region_lit ?_
   refine q0 hf hM [] [{}] (nw := [(4, eB false)]) An ?_
   clear hf; intro a hf
   refine wpList_nil ?_
   refine hK4 _ _ ?_
   refine wp_ret ?_
   refine qr (fn := Try.f14) hf hM [] (l := [bV false]) (ob := []) An ?_
   show (bV false : Value) = .bool (sameL l m) ∧ Keep Nn w w
   first | exact ⟨congrArg Value.bool (sameL_len (by assumption)).symm, hk0⟩ | exact ⟨congrArg Value.bool (sameL_at (j := i.toNat) ⟨0, 0⟩ (h2_neB (by assumption))).symm, hk0⟩
 · have hc1 := (nM hc1r)
   refine wp_skip ?_
   refine hK2 _ _ ?_
   refine wp_seq_k (fun K5 hK5 => ?_)
   refine wp_seq_k (fun K6 hK6 => ?_)
   refine wp_region_lit ?_
   refine q0 hf hM [0, 1] [{}, {}, {}] (nw := [(13, eI 0), (12, eI (l.length : Int))]) An ?_
   clear hf; intro a hf
   refine wpList_nil ?_
   refine hK6 _ _ ?_
   refine wp_block ?_
   have hf := (hf.prune [0, 1, 12, 13]).to (env' := [(0, eS av l.length c), (1, eS bv m.length cm), (12, eI (l.length : Int)), (13, eI 0)]) (by kernel_rfl)
   refine sxloop (fun zm a w1 => ∃ (i : Int), zm = ((l.length : Int) - i).toNat ∧ Fr 26 [(0, eS av l.length c), (1, eS bv m.length cm), (12, eI (l.length : Int)), (13, eI i)] a ∧ MemOk [] w1 ∧ Keep Nn w w1 ∧ (0 ≤ i ∧ i ≤ (l.length : Int)) ∧ (∀ j, j < i.toNat → l.getD j ⟨0, 0⟩ = m.getD j ⟨0, 0⟩)) _ ⟨0, rfl, hf.conv (Ac rfl (Ac rfl (Ac rfl (Ao rfl)))), hM, hk0, (by omega), (fun j hj => by simp at hj)⟩ ?_
   clear hf hM hk0
   rintro _ a w1 ⟨i, rfl, hf, hM, hk0, hi, hsm⟩ L1 hL1
   refine wp_seq_k (fun K7 hK7 => ?_)
   refine wp_region_lit ?_
   refine q0 hf hM [0, 1, 12, 13] [{}] (nw := [(14, eB (decide ((i : Int) < (l.length : Int))))]) An ?_
   clear hf; intro a hf
   refine wpList_nil ?_
   refine hK7 _ _ ?_
   refine wp_seq_k (fun K8 hK8 => ?_)
   refine qc hf (b := (decide ((i : Int) < (l.length : Int)))) (fun hc2r => ?_) (fun hc2r => ?_)
   · have hc2 := (nT hc2r)
     refine wp_skip ?_
     refine hK8 _ _ ?_
     refine wp_seq_k (fun K9 hK9 => ?_)
     refine wp_block ?_
     refine wp_seq_k (fun K10 hK10 => ?_)
     refine wp_region_lit ?_
     refine q0 hf hM [0, 1, 12, 13] [{}, {}] (nw := [(5, eI i)]) An ?_
     clear hf; intro a hf
     refine wpList_nil ?_
     refine hK10 _ _ ?_
     refine wp_seq_k (fun K11 hK11 => ?_)
     replace hM := hM.drew; replace hk0 := hk0.drew
     obtain ⟨C1, hC1i, hC1e⟩ := qcls fun w' => MemOk [] w' ∧ Keep Nn w w' ∧ True
     refine sxdraw (C := C1) (.leaf [(0, true), (1, true), (2, true), (3, true), (4, true), (5, true), (6, true), (7, true), (8, true)]) (by kernel_rfl) (by kernel_rfl) (by as_aux_lemma => kernel_rfl) rfl (by as_aux_lemma => kernel_rfl) (by kernel_rfl) (hC1i _ ⟨hM.sub (.slnil), hk0, trivial⟩) ?_
     refine sxleaf ?_
     have hC := (hC1i _ ⟨hM.sub (.slnil), hk0, trivial⟩)
     refine qd hf hC (fun w' h => (hC1e w' h).1) [0, 1, 12, 13] [{}, {}, { sp := true }, { os := [.ex (iV (l.getD i.toNat ⟨0, 0⟩).i), .ex (iV (l.getD i.toNat ⟨0, 0⟩).g)] }, {}, {}, { sp := true }, { os := [.ex (iV (m.getD i.toNat ⟨0, 0⟩).i), .ex (iV (m.getD i.toNat ⟨0, 0⟩).g)] }, { sp := true, hint := some (bV (!((((l.getD i.toNat ⟨0, 0⟩).i : Int) == (m.getD i.toNat ⟨0, 0⟩).i) && (((l.getD i.toNat ⟨0, 0⟩).g : Int) == (m.getD i.toNat ⟨0, 0⟩).g)))) }] (nw := [(24, eB (!((((l.getD i.toNat ⟨0, 0⟩).i : Int) == (m.getD i.toNat ⟨0, 0⟩).i) && (((l.getD i.toNat ⟨0, 0⟩).g : Int) == (m.getD i.toNat ⟨0, 0⟩).g)))), (23, .val (.agg #[iV (m.getD i.toNat ⟨0, 0⟩).i, iV (m.getD i.toNat ⟨0, 0⟩).g])), (22, .val (.pointer (some ((sa bv : Addr).add (i.toNat * 2))))), (21, eI i), (20, eS bv m.length cm), (19, .val (.agg #[iV (l.getD i.toNat ⟨0, 0⟩).i, iV (l.getD i.toNat ⟨0, 0⟩).g])), (18, .val (.pointer (some ((sa av : Addr).add (i.toNat * 2))))), (17, eI i), (16, eS av l.length c)]) (ob := [(0 : Int) ≤ i ∧ i < (l.length : Int), (av : Option Addr).isSome = true, (∀ w', C1 w' → w'.cell? (((sa av : Addr).add (i.toNat * 2)).add 0) = some (iV (l.getD i.toNat ⟨0, 0⟩).i)), (∀ w', C1 w' → w'.cell? (((sa av : Addr).add (i.toNat * 2)).add 1) = some (iV (l.getD i.toNat ⟨0, 0⟩).g)), (0 : Int) ≤ i ∧ i < (m.length : Int), (bv : Option Addr).isSome = true, (∀ w', C1 w' → w'.cell? (((sa bv : Addr).add (i.toNat * 2)).add 0) = some (iV (m.getD i.toNat ⟨0, 0⟩).i)), (∀ w', C1 w' → w'.cell? (((sa bv : Addr).add (i.toNat * 2)).add 1) = some (iV (m.getD i.toNat ⟨0, 0⟩).g)), (bV (!((((l.getD i.toNat ⟨0, 0⟩).i : Int) == (m.getD i.toNat ⟨0, 0⟩).i) && ((((l.getD i.toNat ⟨0, 0⟩).g : Int) == (m.getD i.toNat ⟨0, 0⟩).g) && true))) : Value) = (bV (!((((l.getD i.toNat ⟨0, 0⟩).i : Int) == (m.getD i.toNat ⟨0, 0⟩).i) && (((l.getD i.toNat ⟨0, 0⟩).g : Int) == (m.getD i.toNat ⟨0, 0⟩).g))) : Value)]) (Ac (by first | omega | (simp; done)) (Ac ((hav.keepNn hk0).some_ (by first | omega | (simp; done))) (Ac (fun w' hc => by obtain ⟨hM, hk0, hO⟩ := hC1e w' hc; exact ((hav.keepNn hk0).get (fun _ => rfl) (by first | omega | (simp; done)) rfl)) (Ac (fun w' hc => by obtain ⟨hM, hk0, hO⟩ := hC1e w' hc; exact ((hav.keepNn hk0).get (fun _ => rfl) (by first | omega | (simp; done)) rfl)) (Ac (by first | omega | (simp; done)) (Ac ((hbv.keepNn hk0).some_ (by first | omega | (simp; done))) (Ac (fun w' hc => by obtain ⟨hM, hk0, hO⟩ := hC1e w' hc; exact ((hbv.keepNn hk0).get (fun _ => rfl) (by first | omega | (simp; done)) rfl)) (Ac (fun w' hc => by obtain ⟨hM, hk0, hO⟩ := hC1e w' hc; exact ((hbv.keepNn hk0).get (fun _ => rfl) (by first | omega | (simp; done)) rfl)) (Ao (by simp)))))))))) ?_
     clear hf; intro a hf
     clear hC
     show K11 _ _
     refine hK11 _ _ ?_
     refine qc hf (b := (!((((l.getD i.toNat ⟨0, 0⟩).i : Int) == (m.getD i.toNat ⟨0, 0⟩).i) && (((l.getD i.toNat ⟨0, 0⟩).g : Int) == (m.getD i.toNat ⟨0, 0⟩).g)))) (fun hc3r => ?_) (fun hc3r => ?_)
     · have hc3 := hc3r
       try simp only [Bool.or_eq_true, Bool.and_eq_true, Bool.not_eq_true', Bool.not_eq_false', Bool.or_eq_false_iff, Bool.and_eq_false_iff, decide_eq_true_eq, decide_eq_false_iff_not, beq_iff_eq, bne_iff_ne, beq_eq_false_iff_ne, bne_eq_false_iff_eq, Bool.and_true, Bool.true_and, ne_eq] at hc3
       refine wp_seq_k (fun K12 hK12 => ?_)
       refine wp_region_lit ?_
       refine q0 hf hM [] [{}] (nw := [(4, eB false)]) An ?_
       clear hf; intro a hf
       refine wpList_nil ?_
       refine hK12 _ _ ?_
       refine wp_ret ?_
       refine qr (fn := Try.f14) hf hM [] (l := [bV false]) (ob := []) An ?_
       show (bV false : Value) = .bool (sameL l m) ∧ Keep Nn w w1.drew
       first | exact ⟨congrArg Value.bool (sameL_len (by assumption)).symm, hk0⟩ | exact ⟨congrArg Value.bool (sameL_at (j := i.toNat) ⟨0, 0⟩ (h2_neB (by assumption))).symm, hk0⟩
     · have hc3 := hc3r
       try simp only [Bool.or_eq_true, Bool.and_eq_true, Bool.not_eq_true', Bool.not_eq_false', Bool.or_eq_false_iff, Bool.and_eq_false_iff, decide_eq_true_eq, decide_eq_false_iff_not, beq_iff_eq, bne_iff_ne, beq_eq_false_iff_ne, bne_eq_false_iff_eq, Bool.and_true, Bool.true_and, ne_eq] at hc3
       refine wp_skip ?_
       refine hK9 _ _ ?_
       refine wp_region_lit ?_
       refine q0 hf hM [24, 23, 22, 21, 20, 19, 18, 17, 16, 0, 1, 12] [{ hint := some (iV (i + 1)) }, {}] (nw := [(13, eI (i + 1))]) (ob := [(iV (IntKind.i64.wrap (i + 1)) : Value) = (iV (i + 1) : Value)]) (Ao (wr (by omega))) ?_
       clear hf; intro a hf
       refine wpList_nil ?_
       have hsm2 := same_next ⟨0, 0⟩ (l := l) (m := m) (i := i) (by omega) hsm (h2_eqB (by assumption))
       have hf := (hf.prune [0, 1, 12, 13]).to (env' := [(0, eS av l.length c), (1, eS bv m.length cm), (12, eI (l.length : Int)), (13, eI (i + 1))]) (by kernel_rfl)
       refine hL1 _ _ _ (by omega) ⟨i + 1, rfl, hf.conv (Ac rfl (Ac rfl (Ac rfl (Ao rfl)))), hM, hk0, (by omega), hsm2⟩
   · have hc2 := (nU hc2r)
     refine wp_exit ?_
     refine hK5 _ _ ?_
     refine wp_seq_k (fun K13 hK13 => ?_)
     refine wp_region_lit ?_
     refine q0 hf hM [] [{}] (nw := [(4, eB true)]) An ?_
     clear hf; intro a hf
     refine wpList_nil ?_
     refine hK13 _ _ ?_
     refine wp_ret ?_
     refine qr (fn := Try.f14) hf hM [] (l := [bV true]) (ob := []) An ?_
     show (bV true : Value) = .bool (sameL l m) ∧ Keep Nn w w1
     exact ⟨congrArg Value.bool (sameL_all ⟨0, 0⟩ (by omega) fun j hj => hsm j (by omega)).symm, hk0⟩

set_option maxRecDepth 10000 in
set_option maxHeartbeats 1600000 in
theorem rsameP (av : Option Addr) (l : List P4) (c : Nat) (bv : Option Addr) (m : List P4) (cm : Nat) (w : World) (hav : Arr w 4 av l.length c (flat fP l)) (hbav : l.length ≤ 1000000) (hbv : Arr w 4 bv m.length cm (flat fP m)) (hbbv : m.length ≤ 1000000) :
    Calls Try.prog 19 #[.slice av l.length c, .slice bv m.length cm] w (Ret fun v w' => v = .bool (sameL l m) ∧ Keep Nn w w') := by
 refine sxenter (n := 26) (args := [.slice av l.length c, .slice bv m.length cm]) Try.func19 rfl rfl rfl fun a hf => ?_
 replace hf : Fr 26 [(0, eS av l.length c), (1, eS bv m.length cm)] a := hf
 have hM : MemOk [] w := MemOk.nil w
 have hk0 : Keep Nn w w := Keep.refl _ _
 refine wp_seq_k (fun K1 hK1 => ?_)
 refine wp_region_lit ?_
 refine q0 hf hM [0, 1] [{}] (nw := []) An ?_
 clear hf; intro a hf
 refine wpList_nil ?_
 refine hK1 _ _ ?_
 refine wp_seq_k (fun K2 hK2 => ?_)
 refine wp_seq_k (fun K3 hK3 => ?_)
 refine wp_region_lit ?_
 refine q0 hf hM [0, 1] [{}, {}, {}, {}, {}] (nw := [(10, eB (((l.length : Int) : Int) != (m.length : Int)))]) An ?_
 clear hf; intro a hf
 refine wpList_nil ?_
 refine hK3 _ _ ?_
 refine qc hf (b := (((l.length : Int) : Int) != (m.length : Int))) (fun hc1r => ?_) (fun hc1r => ?_)
 · have hc1 := (nN hc1r)
   refine wp_seq_k (fun K4 hK4 => ?_)
   refine wp_region_lit ?_
   refine q0 hf hM [] [{}] (nw := [(4, eB false)]) An ?_
   clear hf; intro a hf
   refine wpList_nil ?_
   refine hK4 _ _ ?_
   refine wp_ret ?_
   refine qr (fn := Try.f19) hf hM [] (l := [bV false]) (ob := []) An ?_
   show (bV false : Value) = .bool (sameL l m) ∧ Keep Nn w w
   first | exact ⟨congrArg Value.bool (sameL_len (by assumption)).symm, hk0⟩ | exact ⟨congrArg Value.bool (sameL_at (j := i.toNat) ⟨⟨0, 0⟩, ⟨0, 0⟩⟩ (p4_neB (by assumption))).symm, hk0⟩
 · have hc1 := (nM hc1r)
   refine wp_skip ?_
   refine hK2 _ _ ?_
   refine wp_seq_k (fun K5 hK5 => ?_)
   refine wp_seq_k (fun K6 hK6 => ?_)
   refine wp_region_lit ?_
   refine q0 hf hM [0, 1] [{}, {}, {}] (nw := [(13, eI 0), (12, eI (l.length : Int))]) An ?_
   clear hf; intro a hf
   refine wpList_nil ?_
   refine hK6 _ _ ?_
   refine wp_block ?_
   have hf := (hf.prune [0, 1, 12, 13]).to (env' := [(0, eS av l.length c), (1, eS bv m.length cm), (12, eI (l.length : Int)), (13, eI 0)]) (by kernel_rfl)
   refine sxloop (fun zm a w1 => ∃ (i : Int), zm = ((l.length : Int) - i).toNat ∧ Fr 26 [(0, eS av l.length c), (1, eS bv m.length cm), (12, eI (l.length : Int)), (13, eI i)] a ∧ MemOk [] w1 ∧ Keep Nn w w1 ∧ (0 ≤ i ∧ i ≤ (l.length : Int)) ∧ (∀ j, j < i.toNat → l.getD j ⟨⟨0, 0⟩, ⟨0, 0⟩⟩ = m.getD j ⟨⟨0, 0⟩, ⟨0, 0⟩⟩)) _ ⟨0, rfl, hf.conv (Ac rfl (Ac rfl (Ac rfl (Ao rfl)))), hM, hk0, (by omega), (fun j hj => by simp at hj)⟩ ?_
   clear hf hM hk0
   rintro _ a w1 ⟨i, rfl, hf, hM, hk0, hi, hsm⟩ L1 hL1
   refine wp_seq_k (fun K7 hK7 => ?_)
   refine wp_region_lit ?_
   refine q0 hf hM [0, 1, 12, 13] [{}] (nw := [(14, eB (decide ((i : Int) < (l.length : Int))))]) An ?_
   clear hf; intro a hf
   refine wpList_nil ?_
   refine hK7 _ _ ?_
   refine wp_seq_k (fun K8 hK8 => ?_)
   refine qc hf (b := (decide ((i : Int) < (l.length : Int)))) (fun hc2r => ?_) (fun hc2r => ?_)
   · have hc2 := (nT hc2r)
     refine wp_skip ?_
     refine hK8 _ _ ?_
     refine wp_seq_k (fun K9 hK9 => ?_)
     refine wp_block ?_
     refine wp_seq_k (fun K10 hK10 => ?_)
     refine wp_region_lit ?_
     refine q0 hf hM [0, 1, 12, 13] [{}, {}] (nw := [(5, eI i)]) An ?_
     clear hf; intro a hf
     refine wpList_nil ?_
     refine hK10 _ _ ?_
     refine wp_seq_k (fun K11 hK11 => ?_)
     replace hM := hM.drew; replace hk0 := hk0.drew
     obtain ⟨C1, hC1i, hC1e⟩ := qcls fun w' => MemOk [] w' ∧ Keep Nn w w' ∧ True
     refine sxdraw (C := C1) (.leaf [(0, true), (1, true), (2, true), (3, true), (4, true), (5, true), (6, true), (7, true), (8, true)]) (by kernel_rfl) (by kernel_rfl) (by as_aux_lemma => kernel_rfl) rfl (by as_aux_lemma => kernel_rfl) (by kernel_rfl) (hC1i _ ⟨hM.sub (.slnil), hk0, trivial⟩) ?_
     refine sxleaf ?_
     have hC := (hC1i _ ⟨hM.sub (.slnil), hk0, trivial⟩)
     refine qd hf hC (fun w' h => (hC1e w' h).1) [0, 1, 12, 13] [{}, {}, { sp := true }, { os := [.ex (iV (l.getD i.toNat ⟨⟨0, 0⟩, ⟨0, 0⟩⟩).a.i), .ex (iV (l.getD i.toNat ⟨⟨0, 0⟩, ⟨0, 0⟩⟩).a.g), .ex (iV (l.getD i.toNat ⟨⟨0, 0⟩, ⟨0, 0⟩⟩).b.i), .ex (iV (l.getD i.toNat ⟨⟨0, 0⟩, ⟨0, 0⟩⟩).b.g)] }, {}, {}, { sp := true }, { os := [.ex (iV (m.getD i.toNat ⟨⟨0, 0⟩, ⟨0, 0⟩⟩).a.i), .ex (iV (m.getD i.toNat ⟨⟨0, 0⟩, ⟨0, 0⟩⟩).a.g), .ex (iV (m.getD i.toNat ⟨⟨0, 0⟩, ⟨0, 0⟩⟩).b.i), .ex (iV (m.getD i.toNat ⟨⟨0, 0⟩, ⟨0, 0⟩⟩).b.g)] }, { sp := true, hint := some (bV (!((((l.getD i.toNat ⟨⟨0, 0⟩, ⟨0, 0⟩⟩).a.i : Int) == (m.getD i.toNat ⟨⟨0, 0⟩, ⟨0, 0⟩⟩).a.i) && ((((l.getD i.toNat ⟨⟨0, 0⟩, ⟨0, 0⟩⟩).a.g : Int) == (m.getD i.toNat ⟨⟨0, 0⟩, ⟨0, 0⟩⟩).a.g) && ((((l.getD i.toNat ⟨⟨0, 0⟩, ⟨0, 0⟩⟩).b.i : Int) == (m.getD i.toNat ⟨⟨0, 0⟩, ⟨0, 0⟩⟩).b.i) && (((l.getD i.toNat ⟨⟨0, 0⟩, ⟨0, 0⟩⟩).b.g : Int) == (m.getD i.toNat ⟨⟨0, 0⟩, ⟨0, 0⟩⟩).b.g)))))) }] (nw := [(24, eB (!((((l.getD i.toNat ⟨⟨0, 0⟩, ⟨0, 0⟩⟩).a.i : Int) == (m.getD i.toNat ⟨⟨0, 0⟩, ⟨0, 0⟩⟩).a.i) && ((((l.getD i.toNat ⟨⟨0, 0⟩, ⟨0, 0⟩⟩).a.g : Int) == (m.getD i.toNat ⟨⟨0, 0⟩, ⟨0, 0⟩⟩).a.g) && ((((l.getD i.toNat ⟨⟨0, 0⟩, ⟨0, 0⟩⟩).b.i : Int) == (m.getD i.toNat ⟨⟨0, 0⟩, ⟨0, 0⟩⟩).b.i) && (((l.getD i.toNat ⟨⟨0, 0⟩, ⟨0, 0⟩⟩).b.g : Int) == (m.getD i.toNat ⟨⟨0, 0⟩, ⟨0, 0⟩⟩).b.g)))))), (23, .val (.agg #[iV (m.getD i.toNat ⟨⟨0, 0⟩, ⟨0, 0⟩⟩).a.i, iV (m.getD i.toNat ⟨⟨0, 0⟩, ⟨0, 0⟩⟩).a.g, iV (m.getD i.toNat ⟨⟨0, 0⟩, ⟨0, 0⟩⟩).b.i, iV (m.getD i.toNat ⟨⟨0, 0⟩, ⟨0, 0⟩⟩).b.g])), (22, .val (.pointer (some ((sa bv : Addr).add (i.toNat * 4))))), (21, eI i), (20, eS bv m.length cm), (19, .val (.agg #[iV (l.getD i.toNat ⟨⟨0, 0⟩, ⟨0, 0⟩⟩).a.i, iV (l.getD i.toNat ⟨⟨0, 0⟩, ⟨0, 0⟩⟩).a.g, iV (l.getD i.toNat ⟨⟨0, 0⟩, ⟨0, 0⟩⟩).b.i, iV (l.getD i.toNat ⟨⟨0, 0⟩, ⟨0, 0⟩⟩).b.g])), (18, .val (.pointer (some ((sa av : Addr).add (i.toNat * 4))))), (17, eI i), (16, eS av l.length c)]) (ob := [(0 : Int) ≤ i ∧ i < (l.length : Int), (av : Option Addr).isSome = true, (∀ w', C1 w' → w'.cell? (((sa av : Addr).add (i.toNat * 4)).add 0) = some (iV (l.getD i.toNat ⟨⟨0, 0⟩, ⟨0, 0⟩⟩).a.i)), (∀ w', C1 w' → w'.cell? (((sa av : Addr).add (i.toNat * 4)).add 1) = some (iV (l.getD i.toNat ⟨⟨0, 0⟩, ⟨0, 0⟩⟩).a.g)), (∀ w', C1 w' → w'.cell? (((sa av : Addr).add (i.toNat * 4)).add 2) = some (iV (l.getD i.toNat ⟨⟨0, 0⟩, ⟨0, 0⟩⟩).b.i)), (∀ w', C1 w' → w'.cell? (((sa av : Addr).add (i.toNat * 4)).add 3) = some (iV (l.getD i.toNat ⟨⟨0, 0⟩, ⟨0, 0⟩⟩).b.g)), (0 : Int) ≤ i ∧ i < (m.length : Int), (bv : Option Addr).isSome = true, (∀ w', C1 w' → w'.cell? (((sa bv : Addr).add (i.toNat * 4)).add 0) = some (iV (m.getD i.toNat ⟨⟨0, 0⟩, ⟨0, 0⟩⟩).a.i)), (∀ w', C1 w' → w'.cell? (((sa bv : Addr).add (i.toNat * 4)).add 1) = some (iV (m.getD i.toNat ⟨⟨0, 0⟩, ⟨0, 0⟩⟩).a.g)), (∀ w', C1 w' → w'.cell? (((sa bv : Addr).add (i.toNat * 4)).add 2) = some (iV (m.getD i.toNat ⟨⟨0, 0⟩, ⟨0, 0⟩⟩).b.i)), (∀ w', C1 w' → w'.cell? (((sa bv : Addr).add (i.toNat * 4)).add 3) = some (iV (m.getD i.toNat ⟨⟨0, 0⟩, ⟨0, 0⟩⟩).b.g)), (bV (!(((((l.getD i.toNat ⟨⟨0, 0⟩, ⟨0, 0⟩⟩).a.i : Int) == (m.getD i.toNat ⟨⟨0, 0⟩, ⟨0, 0⟩⟩).a.i) && ((((l.getD i.toNat ⟨⟨0, 0⟩, ⟨0, 0⟩⟩).a.g : Int) == (m.getD i.toNat ⟨⟨0, 0⟩, ⟨0, 0⟩⟩).a.g) && true)) && (((((l.getD i.toNat ⟨⟨0, 0⟩, ⟨0, 0⟩⟩).b.i : Int) == (m.getD i.toNat ⟨⟨0, 0⟩, ⟨0, 0⟩⟩).b.i) && ((((l.getD i.toNat ⟨⟨0, 0⟩, ⟨0, 0⟩⟩).b.g : Int) == (m.getD i.toNat ⟨⟨0, 0⟩, ⟨0, 0⟩⟩).b.g) && true)) && true))) : Value) = (bV (!((((l.getD i.toNat ⟨⟨0, 0⟩, ⟨0, 0⟩⟩).a.i : Int) == (m.getD i.toNat ⟨⟨0, 0⟩, ⟨0, 0⟩⟩).a.i) && ((((l.getD i.toNat ⟨⟨0, 0⟩, ⟨0, 0⟩⟩).a.g : Int) == (m.getD i.toNat ⟨⟨0, 0⟩, ⟨0, 0⟩⟩).a.g) && ((((l.getD i.toNat ⟨⟨0, 0⟩, ⟨0, 0⟩⟩).b.i : Int) == (m.getD i.toNat ⟨⟨0, 0⟩, ⟨0, 0⟩⟩).b.i) && (((l.getD i.toNat ⟨⟨0, 0⟩, ⟨0, 0⟩⟩).b.g : Int) == (m.getD i.toNat ⟨⟨0, 0⟩, ⟨0, 0⟩⟩).b.g))))) : Value)]) (Ac (by first | omega | (simp; done)) (Ac ((hav.keepNn hk0).some_ (by first | omega | (simp; done))) (Ac (fun w' hc => by obtain ⟨hM, hk0, hO⟩ := hC1e w' hc; exact ((hav.keepNn hk0).get (fun _ => rfl) (by first | omega | (simp; done)) rfl)) (Ac (fun w' hc => by obtain ⟨hM, hk0, hO⟩ := hC1e w' hc; exact ((hav.keepNn hk0).get (fun _ => rfl) (by first | omega | (simp; done)) rfl)) (Ac (fun w' hc => by obtain ⟨hM, hk0, hO⟩ := hC1e w' hc; exact ((hav.keepNn hk0).get (fun _ => rfl) (by first | omega | (simp; done)) rfl)) (Ac (fun w' hc => by obtain ⟨hM, hk0, hO⟩ := hC1e w' hc; exact ((hav.keepNn hk0).get (fun _ => rfl) (by first | omega | (simp; done)) rfl)) (Ac (by first | omega | (simp; done)) (Ac ((hbv.keepNn hk0).some_ (by first | omega | (simp; done))) (Ac (fun w' hc => by obtain ⟨hM, hk0, hO⟩ := hC1e w' hc; exact ((hbv.keepNn hk0).get (fun _ => rfl) (by first | omega | (simp; done)) rfl)) (Ac (fun w' hc => by obtain ⟨hM, hk0, hO⟩ := hC1e w' hc; exact ((hbv.keepNn hk0).get (fun _ => rfl) (by first | omega | (simp; done)) rfl)) (Ac (fun w' hc => by obtain ⟨hM, hk0, hO⟩ := hC1e w' hc; exact ((hbv.keepNn hk0).get (fun _ => rfl) (by first | omega | (simp; done)) rfl)) (Ac (fun w' hc => by obtain ⟨hM, hk0, hO⟩ := hC1e w' hc; exact ((hbv.keepNn hk0).get (fun _ => rfl) (by first | omega | (simp; done)) rfl)) (Ao (by simp [Bool.and_assoc, Bool.or_assoc])))))))))))))) ?_
     clear hf; intro a hf
     clear hC
     show K11 _ _
     refine hK11 _ _ ?_
     refine qc hf (b := (!((((l.getD i.toNat ⟨⟨0, 0⟩, ⟨0, 0⟩⟩).a.i : Int) == (m.getD i.toNat ⟨⟨0, 0⟩, ⟨0, 0⟩⟩).a.i) && ((((l.getD i.toNat ⟨⟨0, 0⟩, ⟨0, 0⟩⟩).a.g : Int) == (m.getD i.toNat ⟨⟨0, 0⟩, ⟨0, 0⟩⟩).a.g) && ((((l.getD i.toNat ⟨⟨0, 0⟩, ⟨0, 0⟩⟩).b.i : Int) == (m.getD i.toNat ⟨⟨0, 0⟩, ⟨0, 0⟩⟩).b.i) && (((l.getD i.toNat ⟨⟨0, 0⟩, ⟨0, 0⟩⟩).b.g : Int) == (m.getD i.toNat ⟨⟨0, 0⟩, ⟨0, 0⟩⟩).b.g)))))) (fun hc3r => ?_) (fun hc3r => ?_)
     · have hc3 := hc3r
       try simp only [Bool.or_eq_true, Bool.and_eq_true, Bool.not_eq_true', Bool.not_eq_false', Bool.or_eq_false_iff, Bool.and_eq_false_iff, decide_eq_true_eq, decide_eq_false_iff_not, beq_iff_eq, bne_iff_ne, beq_eq_false_iff_ne, bne_eq_false_iff_eq, Bool.and_true, Bool.true_and, ne_eq] at hc3
       refine wp_seq_k (fun K12 hK12 => ?_)
       refine wp_region_lit ?_
       refine q0 hf hM [] [{}] (nw := [(4, eB false)]) An ?_
       clear hf; intro a hf
       refine wpList_nil ?_
       refine hK12 _ _ ?_
       refine wp_ret ?_
       refine qr (fn := Try.f19) hf hM [] (l := [bV false]) (ob := []) An ?_
       show (bV false : Value) = .bool (sameL l m) ∧ Keep Nn w w1.drew
       first | exact ⟨congrArg Value.bool (sameL_len (by assumption)).symm, hk0⟩ | exact ⟨congrArg Value.bool (sameL_at (j := i.toNat) ⟨⟨0, 0⟩, ⟨0, 0⟩⟩ (p4_neB (by assumption))).symm, hk0⟩
     · have hc3 := hc3r
       try simp only [Bool.or_eq_true, Bool.and_eq_true, Bool.not_eq_true', Bool.not_eq_false', Bool.or_eq_false_iff, Bool.and_eq_false_iff, decide_eq_true_eq, decide_eq_false_iff_not, beq_iff_eq, bne_iff_ne, beq_eq_false_iff_ne, bne_eq_false_iff_eq, Bool.and_true, Bool.true_and, ne_eq] at hc3
       refine wp_skip ?_
       refine hK9 _ _ ?_
       refine wp_region_lit ?_
       refine q0 hf hM [24, 23, 22, 21, 20, 19, 18, 17, 16, 0, 1, 12] [{ hint := some (iV (i + 1)) }, {}] (nw := [(13, eI (i + 1))]) (ob := [(iV (IntKind.i64.wrap (i + 1)) : Value) = (iV (i + 1) : Value)]) (Ao (wr (by omega))) ?_
       clear hf; intro a hf
       refine wpList_nil ?_
       have hsm2 := same_next ⟨⟨0, 0⟩, ⟨0, 0⟩⟩ (l := l) (m := m) (i := i) (by omega) hsm (p4_eqB (by assumption))
       have hf := (hf.prune [0, 1, 12, 13]).to (env' := [(0, eS av l.length c), (1, eS bv m.length cm), (12, eI (l.length : Int)), (13, eI (i + 1))]) (by kernel_rfl)
       refine hL1 _ _ _ (by omega) ⟨i + 1, rfl, hf.conv (Ac rfl (Ac rfl (Ac rfl (Ao rfl)))), hM, hk0, (by omega), hsm2⟩
   · have hc2 := (nU hc2r)
     refine wp_exit ?_
     refine hK5 _ _ ?_
     refine wp_seq_k (fun K13 hK13 => ?_)
     refine wp_region_lit ?_
     refine q0 hf hM [] [{}] (nw := [(4, eB true)]) An ?_
     clear hf; intro a hf
     refine wpList_nil ?_
     refine hK13 _ _ ?_
     refine wp_ret ?_
     refine qr (fn := Try.f19) hf hM [] (l := [bV true]) (ob := []) An ?_
     show (bV true : Value) = .bool (sameL l m) ∧ Keep Nn w w1
     exact ⟨congrArg Value.bool (sameL_all ⟨⟨0, 0⟩, ⟨0, 0⟩⟩ (by omega) fun j hj => hsm j (by omega)).symm, hk0⟩

set_option maxRecDepth 10000 in
set_option maxHeartbeats 1600000 in
theorem same_ints (av : Option Addr) (l : List Int) (c : Nat) (bv : Option Addr) (m : List Int) (cm : Nat) (w : World) (hav : Arr w 1 av l.length c (flat fI l)) (hbav : l.length ≤ 1000000) (hbv : Arr w 1 bv m.length cm (flat fI m)) (hbbv : m.length ≤ 1000000) :
    Calls Try.prog 29 #[.slice av l.length c, .slice bv m.length cm] w (Ret fun v w' => v = .bool (sameL l m) ∧ Keep Nn w w') := by
 refine sxenter (n := 26) (args := [.slice av l.length c, .slice bv m.length cm]) Try.func29 rfl rfl rfl fun a hf => ?_
 replace hf : Fr 26 [(0, eS av l.length c), (1, eS bv m.length cm)] a := hf
 have hM : MemOk [] w := MemOk.nil w
 have hk0 : Keep Nn w w := Keep.refl _ _
 refine wp_seq_k (fun K1 hK1 => ?_)
 refine wp_region_lit ?_
 refine q0 hf hM [0, 1] [{}] (nw := []) An ?_
 clear hf; intro a hf
 refine wpList_nil ?_
 refine hK1 _ _ ?_
 refine wp_seq_k (fun K2 hK2 => ?_)
 refine wp_seq_k (fun K3 hK3 => ?_)
 refine wp_region_lit ?_
 refine q0 hf hM [0, 1] [{}, {}, {}, {}, {}] (nw := [(10, eB (((l.length : Int) : Int) != (m.length : Int)))]) An ?_
 clear hf; intro a hf
 refine wpList_nil ?_
 refine hK3 _ _ ?_
 refine qc hf (b := (((l.length : Int) : Int) != (m.length : Int))) (fun hc1r => ?_) (fun hc1r => ?_)
 · have hc1 := (nN hc1r)
   refine wp_seq_k (fun K4 hK4 => ?_)
   refine wp_region_lit ?_
   refine q0 hf hM [] [{}] (nw := [(4, eB false)]) An ?_
   clear hf; intro a hf
   refine wpList_nil ?_
   refine hK4 _ _ ?_
   refine wp_ret ?_
   refine qr (fn := Try.f29) hf hM [] (l := [bV false]) (ob := []) An ?_
   show (bV false : Value) = .bool (sameL l m) ∧ Keep Nn w w
   first | exact ⟨congrArg Value.bool (sameL_len (by assumption)).symm, hk0⟩ | exact ⟨congrArg Value.bool (sameL_at (j := i.toNat) 0 (nec_int (by assumption))).symm, hk0⟩
 · have hc1 := (nM hc1r)
   refine wp_skip ?_
   refine hK2 _ _ ?_
   refine wp_seq_k (fun K5 hK5 => ?_)
   refine wp_seq_k (fun K6 hK6 => ?_)
   refine wp_region_lit ?_
   refine q0 hf hM [0, 1] [{}, {}, {}] (nw := [(13, eI 0), (12, eI (l.length : Int))]) An ?_
   clear hf; intro a hf
   refine wpList_nil ?_
   refine hK6 _ _ ?_
   refine wp_block ?_
   have hf := (hf.prune [0, 1, 12, 13]).to (env' := [(0, eS av l.length c), (1, eS bv m.length cm), (12, eI (l.length : Int)), (13, eI 0)]) (by kernel_rfl)
   refine sxloop (fun zm a w1 => ∃ (i : Int), zm = ((l.length : Int) - i).toNat ∧ Fr 26 [(0, eS av l.length c), (1, eS bv m.length cm), (12, eI (l.length : Int)), (13, eI i)] a ∧ MemOk [] w1 ∧ Keep Nn w w1 ∧ (0 ≤ i ∧ i ≤ (l.length : Int)) ∧ (∀ j, j < i.toNat → l.getD j 0 = m.getD j 0)) _ ⟨0, rfl, hf.conv (Ac rfl (Ac rfl (Ac rfl (Ao rfl)))), hM, hk0, (by omega), (fun j hj => by simp at hj)⟩ ?_
   clear hf hM hk0
   rintro _ a w1 ⟨i, rfl, hf, hM, hk0, hi, hsm⟩ L1 hL1
   refine wp_seq_k (fun K7 hK7 => ?_)
   refine wp_region_lit ?_
   refine q0 hf hM [0, 1, 12, 13] [{}] (nw := [(14, eB (decide ((i : Int) < (l.length : Int))))]) An ?_
   clear hf; intro a hf
   refine wpList_nil ?_
   refine hK7 _ _ ?_
   refine wp_seq_k (fun K8 hK8 => ?_)
   refine qc hf (b := (decide ((i : Int) < (l.length : Int)))) (fun hc2r => ?_) (fun hc2r => ?_)
   · have hc2 := (nT hc2r)
     refine wp_skip ?_
     refine hK8 _ _ ?_
     refine wp_seq_k (fun K9 hK9 => ?_)
     refine wp_block ?_
     refine wp_seq_k (fun K10 hK10 => ?_)
     refine wp_region_lit ?_
     refine q0 hf hM [0, 1, 12, 13] [{}, {}] (nw := [(5, eI i)]) An ?_
     clear hf; intro a hf
     refine wpList_nil ?_
     refine hK10 _ _ ?_
     refine wp_seq_k (fun K11 hK11 => ?_)
     replace hM := hM.drew; replace hk0 := hk0.drew
     obtain ⟨C1, hC1i, hC1e⟩ := qcls fun w' => MemOk [] w' ∧ Keep Nn w w' ∧ True
     refine sxdraw (C := C1) (.leaf [(0, true), (1, true), (2, true), (3, true), (4, true), (5, true), (6, true), (7, true), (8, true)]) (by kernel_rfl) (by kernel_rfl) (by as_aux_lemma => kernel_rfl) rfl (by as_aux_lemma => kernel_rfl) (by kernel_rfl) (hC1i _ ⟨hM.sub (.slnil), hk0, trivial⟩) ?_
     refine sxleaf ?_
     have hC := (hC1i _ ⟨hM.sub (.slnil), hk0, trivial⟩)
     refine qd hf hC (fun w' h => (hC1e w' h).1) [0, 1, 12, 13] [{}, {}, { sp := true }, { os := [.ex (iV (l.getD i.toNat 0))] }, {}, {}, { sp := true }, { os := [.ex (iV (m.getD i.toNat 0))] }, {}] (nw := [(24, eB (((l.getD i.toNat 0) : Int) != (m.getD i.toNat 0))), (23, eI (m.getD i.toNat 0)), (22, .val (.pointer (some ((sa bv : Addr).add (i.toNat * 1))))), (21, eI i), (20, eS bv m.length cm), (19, eI (l.getD i.toNat 0)), (18, .val (.pointer (some ((sa av : Addr).add (i.toNat * 1))))), (17, eI i), (16, eS av l.length c)]) (ob := [(0 : Int) ≤ i ∧ i < (l.length : Int), (av : Option Addr).isSome = true, (∀ w', C1 w' → w'.cell? ((sa av : Addr).add (i.toNat * 1)) = some (iV (l.getD i.toNat 0))), (0 : Int) ≤ i ∧ i < (m.length : Int), (bv : Option Addr).isSome = true, (∀ w', C1 w' → w'.cell? ((sa bv : Addr).add (i.toNat * 1)) = some (iV (m.getD i.toNat 0)))]) (Ac (by first | omega | (simp; done)) (Ac ((hav.keepNn hk0).some_ (by first | omega | (simp; done))) (Ac (fun w' hc => by obtain ⟨hM, hk0, hO⟩ := hC1e w' hc; exact ((hav.keepNn hk0).get0 (fun _ => rfl) (by first | omega | (simp; done)) rfl)) (Ac (by first | omega | (simp; done)) (Ac ((hbv.keepNn hk0).some_ (by first | omega | (simp; done))) (Ao (fun w' hc => by obtain ⟨hM, hk0, hO⟩ := hC1e w' hc; exact ((hbv.keepNn hk0).get0 (fun _ => rfl) (by first | omega | (simp; done)) rfl)))))))) ?_
     clear hf; intro a hf
     clear hC
     show K11 _ _
     refine hK11 _ _ ?_
     refine qc hf (b := (((l.getD i.toNat 0) : Int) != (m.getD i.toNat 0))) (fun hc3r => ?_) (fun hc3r => ?_)
     · have hc3 := (nN hc3r)
       refine wp_seq_k (fun K12 hK12 => ?_)
       refine wp_region_lit ?_
       refine q0 hf hM [] [{}] (nw := [(4, eB false)]) An ?_
       clear hf; intro a hf
       refine wpList_nil ?_
       refine hK12 _ _ ?_
       refine wp_ret ?_
       refine qr (fn := Try.f29) hf hM [] (l := [bV false]) (ob := []) An ?_
       show (bV false : Value) = .bool (sameL l m) ∧ Keep Nn w w1.drew
       first | exact ⟨congrArg Value.bool (sameL_len (by assumption)).symm, hk0⟩ | exact ⟨congrArg Value.bool (sameL_at (j := i.toNat) 0 (nec_int (by assumption))).symm, hk0⟩
     · have hc3 := (nM hc3r)
       refine wp_skip ?_
       refine hK9 _ _ ?_
       refine wp_region_lit ?_
       refine q0 hf hM [24, 23, 22, 21, 20, 19, 18, 17, 16, 0, 1, 12] [{ hint := some (iV (i + 1)) }, {}] (nw := [(13, eI (i + 1))]) (ob := [(iV (IntKind.i64.wrap (i + 1)) : Value) = (iV (i + 1) : Value)]) (Ao (wr (by omega))) ?_
       clear hf; intro a hf
       refine wpList_nil ?_
       have hsm2 := same_next 0 (l := l) (m := m) (i := i) (by omega) hsm (eqc_int (by assumption))
       have hf := (hf.prune [0, 1, 12, 13]).to (env' := [(0, eS av l.length c), (1, eS bv m.length cm), (12, eI (l.length : Int)), (13, eI (i + 1))]) (by kernel_rfl)
       refine hL1 _ _ _ (by omega) ⟨i + 1, rfl, hf.conv (Ac rfl (Ac rfl (Ac rfl (Ao rfl)))), hM, hk0, (by omega), hsm2⟩
   · have hc2 := (nU hc2r)
     refine wp_exit ?_
     refine hK5 _ _ ?_
     refine wp_seq_k (fun K13 hK13 => ?_)
     refine wp_region_lit ?_
     refine q0 hf hM [] [{}] (nw := [(4, eB true)]) An ?_
     clear hf; intro a hf
     refine wpList_nil ?_
     refine hK13 _ _ ?_
     refine wp_ret ?_
     refine qr (fn := Try.f29) hf hM [] (l := [bV true]) (ob := []) An ?_
     show (bV true : Value) = .bool (sameL l m) ∧ Keep Nn w w1
     exact ⟨congrArg Value.bool (sameL_all 0 (by omega) fun j hj => hsm j (by omega)).symm, hk0⟩

theorem insert_int {w : World} {base c i vb : Nat} {av : Option Addr} {l : List Int} {x : Int} (hown : w.ownsRow base 3 1 (.slice av l.length c) l.length (flat fI l)) (hi : i ≤ l.length) (hb : l.length ≤ 1000000)
    (hv : w.heap[vb]? = some (.cells #[.int .i64 x] 3 (0, 0))) (hne : Value.ownBlock (.slice av l.length c) ≠ some vb) (hbw : base ≤ w.heap.size) :
    Calls Try.prog 48 #[.slice av l.length c, .int .i64 i, .slice (some ⟨vb, 0, none⟩) 1 1] w (Ret fun v w' => ∃ a' c', v = .slice a' (l.length + 1) c' ∧
      w'.ownsRow base 3 1 (.slice a' (l.length + 1) c') (l.length + 1) (flat fI (l.take i ++ x :: l.drop i)) ∧ Keep (fun j => Value.ownBlock (.slice av l.length c) = some j) w w') :=
  insert_own Try.insI hown hi hb hv hne hbw

set_option maxRecDepth 10000 in
set_option maxHeartbeats 1600000 in
theorem oput (av : Option Addr) (l : List Int) (c : Nat) (n : Int) (w : World) (hav : Arr w 1 av l.length c (flat fI l)) (hbav : l.length ≤ 1000000) (hrs : Rises ltI l) :
    Calls Try.prog 31 #[.slice av l.length c, iV n] w (Ret fun v w' => ∃ a' c', v = .slice a' (putS ltI l n).length c' ∧ Keep Nn w w' ∧ World.ownsRow w' w.heap.size 3 1 (.slice a' (putS ltI l n).length c') (putS ltI l n).length (flat fI (putS ltI l n))) := by
 refine sxenter (n := 22) (args := [.slice av l.length c, iV n]) Try.func31 rfl rfl rfl fun a hf => ?_
 replace hf : Fr 22 [(0, eS av l.length c), (1, eI n)] a := hf
 have hM : MemOk [] w := MemOk.nil w
 have hk0 : Keep Nn w w := Keep.refl _ _
 refine wp_seq_k (fun K1 hK1 => ?_)
 refine wp_region_lit ?_
 refine q0 hf hM [0, 1] [{}] (nw := []) An ?_
 clear hf; intro a hf
 refine wpList_nil ?_
 refine hK1 _ _ ?_
 refine wp_seq_k (fun K2 hK2 => ?_)
 refine wp_region_lit ?_
 refine q0 hf hM [0, 1] [{}, {}] (nw := [(9, eI n), (8, eS av l.length c)]) An ?_
 clear hf; intro a hf
 refine sxcall hf rfl rfl rfl rfl (g := 46) (vs := [.slice av l.length c, iV n]) (ob := []) (by as_aux_lemma => kernel_rfl) An enters46 (bsearch_int av l c n w  (hav.keepNn hk0) (by first | omega | (simp; omega) | (simp; done) | exact Nat.le_trans (byKinds_len _ _) (by omega) | decide) (by first | assumption | exact ordS_rises ordH _ | exact ordS_rises ordI _ | (unfold Rises; decide))) ?_
 clear hf; rintro _ w1 a ⟨rfl, hk⟩ hf
 have hM := hM.keepNn hk
 have hk0 := hk0.trans hk.nn
 clear hk
 refine q0 hf hM [0, 1] [{}, {}, {}, {}, {}] (nw := [(6, eB (inS l n)), (5, eI ((pos ltI l n : Nat) : Int))]) An ?_
 clear hf; intro a hf
 refine wpList_nil ?_
 refine hK2 _ _ ?_
 refine wp_seq_k (fun K3 hK3 => ?_)
 refine wp_seq_k (fun K4 hK4 => ?_)
 refine wp_region_lit ?_
 refine q0 hf hM [5, 0, 1] [{}] (nw := [(13, eB (inS l n))]) An ?_
 clear hf; intro a hf
 refine wpList_nil ?_
 refine hK4 _ _ ?_
 refine qc hf (b := inS l n) (fun hc1r => ?_) (fun hc1r => ?_)
 · have hc1 := hc1r
   refine wp_seq_k (fun K5 hK5 => ?_)
   refine wp_region_lit ?_
   refine q0 hf hM [] [{}] (nw := [(14, eS av l.length c)]) An ?_
   clear hf; intro a hf
   refine sxcall hf rfl rfl rfl rfl (g := 47) (vs := [.slice av l.length c]) (ob := []) (by as_aux_lemma => kernel_rfl) An enters47 (clone_int av l c w1  (hav.keepNn hk0) (by first | omega | (simp; omega) | (simp; done) | exact Nat.le_trans (byKinds_len _ _) (by omega) | decide)) ?_
   clear hf; rintro _ w2 a ⟨a'1, c'1, rfl, hk, hx1⟩ hf
   have hO : OwnOk w.heap.size [] [] w1 := OwnOk.nil hM
   have hO := hO.more hM hk (by have := hk0.size; omega) hx1
   replace hO : OwnOk w.heap.size [] [⟨3, 1, .slice a'1 l.length c'1, l.length, flat fI l⟩] _ := hO
   have hM := hM.keepNn hk
   have hk0 := hk0.trans hk.nn
   clear hk
   refine q0 hf hM [] [{}] (nw := [(4, eS a'1 l.length c'1)]) An ?_
   clear hf; intro a hf
   refine wpList_nil ?_
   refine hK5 _ _ ?_
   refine wp_ret ?_
   refine qr (fn := Try.f31) hf hM [] (l := [.slice a'1 l.length c'1]) (ob := []) An ?_
   show ∃ a' c', (.slice a'1 l.length c'1 : Value) = .slice a' (putS ltI l n).length c' ∧ Keep Nn w w2 ∧ World.ownsRow w2 w.heap.size 3 1 (.slice a' (putS ltI l n).length c') (putS ltI l n).length (flat fI (putS ltI l n))
   have e : (putS ltI l n) = l := putS_in (of_decide_eq_true (hc1r))
   rw [e]
   exact ⟨_, _, rfl, hk0, hO.own _ (List.Mem.head _)⟩
 · have hc1 := hc1r
   refine wp_skip ?_
   refine hK3 _ _ ?_
   refine wp_seq_k (fun K6 hK6 => ?_)
   refine wp_region_lit ?_
   refine q0 hf hM [5, 1] [{}] (nw := [(16, eS av l.length c)]) An ?_
   clear hf; intro a hf
   refine sxcall hf rfl rfl rfl rfl (g := 47) (vs := [.slice av l.length c]) (ob := []) (by as_aux_lemma => kernel_rfl) An enters47 (clone_int av l c w1  (hav.keepNn hk0) (by first | omega | (simp; omega) | (simp; done) | exact Nat.le_trans (byKinds_len _ _) (by omega) | decide)) ?_
   clear hf; rintro _ w3 a ⟨a'2, c'2, rfl, hk, hx2⟩ hf
   have hO : OwnOk w.heap.size [] [] w1 := OwnOk.nil hM
   have hO := hO.more hM hk (by have := hk0.size; omega) hx2
   replace hO : OwnOk w.heap.size [] [⟨3, 1, .slice a'2 l.length c'2, l.length, flat fI l⟩] _ := hO
   have hM := hM.keepNn hk
   have hk0 := hk0.trans hk.nn
   clear hk
   refine q0 hf hM [17] [{}, {}] (nw := [(19, eI n), (18, eI ((pos ltI l n : Nat) : Int))]) An ?_
   clear hf; intro a hf
   refine sxbslice hf hM (t := 43) (e := 3) (len := 1) (cs := [iV n]) (ob := []) rfl rfl rfl rfl (by as_aux_lemma => kernel_rfl) An (by as_aux_lemma => kernel_rfl) ?_
   clear hf hM; intro a w4 B9 hf hM hB hk
   replace hM : MemOk [⟨B9, 3, [iV n]⟩] w4 := hM
   have hbB9 : w.heap.size ≤ B9 := by have := hk0.size; omega
   have hk0 := hk0.trans hk.nn
   have hO := hO.step hM hk.nn (by intro i h; simp only [Mem.names, List.map_cons, List.map_nil, List.mem_cons, List.not_mem_nil, or_false, List.map_append, List.cons_append, List.nil_append] at h ⊢; omega)
   clear hk hB
   have hm : ¬ n ∈ l := of_decide_eq_false (hc1r)
   have hvb := hM.at_ _ (List.Mem.head _)
   refine sxcall hf rfl rfl rfl rfl (g := 48) (vs := [.slice a'2 l.length c'2, iV ((pos ltI l n : Nat) : Int), .slice (some ⟨B9, 0, none⟩) 1 1]) (ob := []) (by as_aux_lemma => kernel_rfl) An enters48 (insert_int (i := pos ltI l n) (x := n) (hO.own _ (List.Mem.head _)) (pos_le _ _) (by omega) hvb (fun h => hO.apart (List.Mem.head _) h (by simp [Mem.names])) (by have := hk0.size; omega)) ?_
   clear hf; rintro _ w5 a ⟨a2, c2, rfl, hx, hk⟩ hf
   have hk0 := hk0.then hk (by intro i hi h; have := (hO.lt (List.Mem.head _) h).1; omega)
   have en := putS_lenOut (lt := ltI) hm
   rw [← putS_out hm, en] at hx; rw [en] at hf
   have hM := MemOk.nil w5; have hO := OwnOk.one hx; clear hx hk hvb
   replace hf := (hf.prune [21]).to (env' := [(21, eS a2 (putS ltI l n).length c2)]) (by kernel_rfl)
   replace hO : OwnOk w.heap.size [] [⟨3, 1, .slice a2 (putS ltI l n).length c2, (putS ltI l n).length, flat fI (putS ltI l n)⟩] w5 := hO
   refine q0 hf hM [] [{}] (nw := [(4, eS a2 (putS ltI l n).length c2)]) An ?_
   clear hf; intro a hf
   refine wpList_nil ?_
   refine hK6 _ _ ?_
   refine wp_ret ?_
   refine qr (fn := Try.f31) hf hM [] (l := [.slice a2 (putS ltI l n).length c2]) (ob := []) An ?_
   show ∃ a' c', (.slice a2 (putS ltI l n).length c2 : Value) = .slice a' (putS ltI l n).length c' ∧ Keep Nn w w5 ∧ World.ownsRow w5 w.heap.size 3 1 (.slice a' (putS ltI l n).length c') (putS ltI l n).length (flat fI (putS ltI l n))
   exact ⟨_, _, rfl, hk0, hO.own _ (List.Mem.head _)⟩
end Go.Proofs.Ytllopoaojchcmaa
