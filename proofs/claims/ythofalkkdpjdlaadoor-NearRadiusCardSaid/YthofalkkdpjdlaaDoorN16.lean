/- layer 13: the document's answers -/
import Derived.Test.YthofalkkdpjdlaaDoorN10
import Derived.Test.YthofalkkdpjdlaaDoorXp13f
import Derived.Test.YthofalkkdpjdlaaDoorXpB
namespace Go.Proofs.YthofalkkdpjdlaaDoor
open Go.Px
set_option linter.unusedVariables false
set_option linter.unusedSimpArgs false

set_option maxRecDepth 10000 in
set_option maxHeartbeats 1600000 in
theorem rput_in (av : Option Addr) (l : List H2) (c : Nat) (ti tg : Int) (w : World) (hn0 : (inS l (⟨ti, tg⟩ : H2)) = true) (hav : Arr w 2 av l.length c (flat fH l)) (hbav : l.length ≤ 1000000) (hrs : Rises ltH l) :
    Calls Tryd.prog 73 #[.slice av l.length c, .agg #[iV ti, iV tg]] w (Ret fun v w' => v = .slice av l.length c ∧ Keep Nn w w') := by
 refine sxenter (n := 48) (args := [.slice av l.length c, .agg #[iV ti, iV tg]]) Tryd.func73 rfl rfl rfl fun a hf => ?_
 replace hf : Fr 48 [(0, eS av l.length c), (1, .val (.agg #[iV ti, iV tg]))] a := hf
 have hM : MemOk [] w := MemOk.nil w
 have hk0 : Keep Nn w w := Keep.refl _ _
 refine wp_seq_k (fun K1 hK1 => ?_)
 refine wp_region_lit ?_
 refine q1 hf hM [0] [{ os := [.nw] }, {}] (nw := fun B1 => [(3, eP B1 0)]) (M' := fun B1 => [⟨B1, 39, [iV ti, iV tg]⟩]) (ob := fun B1 => []) (fun B1 => An) ?_
 clear hf hM; intro a w1 B1 hf hM hB hk
 have hbB1 : w.heap.size ≤ B1 := by have := hk0.size; omega
 have hk0 := hk0.then hk (by intro i _ h; cases h)
 clear hk hB
 refine wpList_nil ?_
 refine hK1 _ _ ?_
 refine wp_seq_k (fun K2 hK2 => ?_)
 refine wp_region_lit ?_
 refine q0 hf hM [3, 0] [{}] (nw := [(5, eI 0)]) An ?_
 clear hf; intro a hf
 refine wpList_nil ?_
 refine hK2 _ _ ?_
 refine wp_seq_k (fun K3 hK3 => ?_)
 refine wp_block ?_
 have hf := (hf.prune [0, 3, 5]).to (env' := [(0, eS av l.length c), (3, eP B1 0), (5, eI 0)]) (by kernel_rfl)
 refine sxloop (fun zm a w1 => ∃ (kk : Int), zm = ((l.length : Int) - kk).toNat ∧ Fr 48 [(0, eS av l.length c), (3, eP B1 0), (5, eI kk)] a ∧ MemOk [⟨B1, 39, [iV ti, iV tg]⟩] w1 ∧ Keep Nn w w1 ∧ (0 ≤ kk ∧ kk ≤ (l.length : Int)) ∧ (∀ j, j < kk.toNat → ltH (l.getD j ⟨0, 0⟩) (⟨ti, tg⟩ : H2) = true)) _ ⟨0, rfl, hf.conv (Ac rfl (Ac rfl (Ao rfl))), hM, hk0, (by omega), (fun j hj => by simp at hj)⟩ ?_
 clear hf hM hk0
 rintro _ a w2 ⟨kk, rfl, hf, hM, hk0, hi, hkf⟩ L1 hL1
 refine wp_seq_k (fun K4 hK4 => ?_)
 refine wp_seq_k (fun K5 hK5 => ?_)
 replace hM := hM.drew; replace hk0 := hk0.drew
 obtain ⟨Cq1, hCq1i, hCq1e⟩ := qcls fun w' => MemOk [⟨B1, 39, [iV ti, iV tg]⟩] w' ∧ Keep Nn w w' ∧ True
 refine sxdraw (C := Cq1) (.leaf [(0, true), (1, true), (2, true), (3, true), (4, true), (5, true), (6, true), (7, true), (8, true), (9, true), (10, false), (11, true)]) (by kernel_rfl) (by kernel_rfl) (by as_aux_lemma => kernel_rfl) rfl (by as_aux_lemma => kernel_rfl) (by kernel_rfl) (hCq1i _ ⟨hM.sub (.cons_cons _ .slnil), hk0, trivial⟩) ?_
 refine sxleaf ?_
 have hC := (hCq1i _ ⟨hM.sub (.cons_cons _ .slnil), hk0, trivial⟩)
 refine qd hf hC (fun w' h => (hCq1e w' h).1) [0, 3, 5] [{}, {}, {}, {}, {}] (nw := [(11, eB (decide ((kk : Int) < (l.length : Int)))), (10, eB (decide ((kk : Int) < (l.length : Int)))), (9, eI (l.length : Int)), (8, eS av l.length c), (7, eI kk)]) An ?_
 clear hf; intro a hf
 rcases Bool.eq_false_or_eq_true (decide ((kk : Int) < (l.length : Int))) with hg1r | hg1r
 · have hg1 := (nT hg1r)
   have hf := (hf.setb 11 hg1r).setb 10 hg1r
   refine qd hf hC (fun w' h => (hCq1e w' h).1) [11, 10, 9, 8, 7, 0, 3, 5] [{}, {}, { sp := true }, { os := [.ex (iV (l.getD kk.toNat ⟨0, 0⟩).i), .ex (iV (l.getD kk.toNat ⟨0, 0⟩).g)] }, { os := [.ld 0 0, .ld 0 1] }] (nw := [(16, .val (.agg #[iV ti, iV tg])), (15, .val (.agg #[iV (l.getD kk.toNat ⟨0, 0⟩).i, iV (l.getD kk.toNat ⟨0, 0⟩).g])), (14, .val (.pointer (some ((sa av : Addr).add (kk.toNat * 2))))), (13, eI kk), (12, eS av l.length c)]) (ob := [true = true, true = true, true = true, (0 : Int) ≤ kk ∧ kk < (l.length : Int), (av : Option Addr).isSome = true, true = true, (∀ w', Cq1 w' → w'.cell? (((sa av : Addr).add (kk.toNat * 2)).add 0) = some (iV (l.getD kk.toNat ⟨0, 0⟩).i)), (∀ w', Cq1 w' → w'.cell? (((sa av : Addr).add (kk.toNat * 2)).add 1) = some (iV (l.getD kk.toNat ⟨0, 0⟩).g)), true = true, Ad B1 0, Ad B1 1]) (Ac rfl (Ac rfl (Ac rfl (Ac (by first | omega | (simp; done)) (Ac ((hav.keepNn hk0).some_ (by first | omega | (simp; done))) (Ac rfl (Ac (fun w' hc => by obtain ⟨hM, hk0, hO⟩ := hCq1e w' hc; exact ((hav.keepNn hk0).get (fun _ => rfl) (by first | omega | (simp; done)) rfl)) (Ac (fun w' hc => by obtain ⟨hM, hk0, hO⟩ := hCq1e w' hc; exact ((hav.keepNn hk0).get (fun _ => rfl) (by first | omega | (simp; done)) rfl)) (Ac rfl (Ac (ad _ _) (Ao (ad _ _)))))))))))) ?_
   clear hf; intro a hf
   refine scstep rfl ?_
   refine sxcallg hf rfl rfl rfl rfl rfl (g := 55) (vs := [.agg #[iV (l.getD kk.toNat ⟨0, 0⟩).i, iV (l.getD kk.toNat ⟨0, 0⟩).g], .agg #[iV ti, iV tg]]) (ob := []) (by as_aux_lemma => kernel_rfl) An enters55 (rless (l.getD kk.toNat ⟨0, 0⟩).i (l.getD kk.toNat ⟨0, 0⟩).g ti tg w2.drew  ) ?_
   clear hf; rintro _ w3 a ⟨rfl, hk⟩ hf
   have hM := hM.keepNn hk
   have hk0 := hk0.trans hk.nn
   clear hk
   have hC := (hCq1i _ ⟨hM.sub (.cons_cons _ .slnil), hk0, trivial⟩)
   refine scdone hC ?_
   refine qd hf hC (fun w' h => (hCq1e w' h).1) [17, 16, 15, 14, 13, 12, 11, 10, 9, 8, 7, 0, 3, 5] [{}] (nw := [(18, eB (ltH ⟨(l.getD kk.toNat ⟨0, 0⟩).i, (l.getD kk.toNat ⟨0, 0⟩).g⟩ ⟨ti, tg⟩))]) An ?_
   clear hf; intro a hf
   clear hC
   show K5 _ _
   refine hK5 _ _ ?_
   refine qc hf (b := ltH ⟨(l.getD kk.toNat ⟨0, 0⟩).i, (l.getD kk.toNat ⟨0, 0⟩).g⟩ ⟨ti, tg⟩) (fun hc1r => ?_) (fun hc1r => ?_)
   · have hc1 := hc1r
     refine wp_skip ?_
     refine hK4 _ _ ?_
     refine wp_block ?_
     refine wp_region_lit ?_
     refine q0 hf hM [18, 17, 16, 15, 14, 13, 12, 11, 10, 9, 8, 7, 0, 3] [{}, { hint := some (iV (kk + 1)) }, {}] (nw := [(5, eI (kk + 1))]) (ob := [(iV (IntKind.i64.wrap (kk + 1)) : Value) = (iV (kk + 1) : Value)]) (Ao (wr (by omega))) ?_
     clear hf; intro a hf
     refine wpList_nil ?_
     have hkf2 : ∀ j, j < (kk + 1).toNat → ltH (l.getD j ⟨0, 0⟩) (⟨ti, tg⟩ : H2) = true := fun j hj => by
       rcases Nat.lt_or_ge j kk.toNat with h | h
       · exact hkf j h
       · obtain rfl : j = kk.toNat := by omega
         assumption
     have hf := (hf.prune [0, 3, 5]).to (env' := [(0, eS av l.length c), (3, eP B1 0), (5, eI (kk + 1))]) (by kernel_rfl)
     refine hL1 _ _ _ (by omega) ⟨kk + 1, rfl, hf.conv (Ac rfl (Ac rfl (Ao rfl))), hM, hk0, (by omega), hkf2⟩
   · have hc1 := hc1r
     refine wp_exit ?_
     refine hK3 _ _ ?_
     refine wp_seq_k (fun K6 hK6 => ?_)
     refine wp_seq_k (fun K7 hK7 => ?_)
     replace hM := hM.drew; replace hk0 := hk0.drew
     obtain ⟨Cq2, hCq2i, hCq2e⟩ := qcls fun w' => MemOk [⟨B1, 39, [iV ti, iV tg]⟩] w' ∧ Keep Nn w w' ∧ True
     refine sxdraw (C := Cq2) (.leaf [(0, true), (1, true), (2, true), (3, true), (4, true), (5, true), (6, true), (7, true), (8, true), (9, true), (10, true), (11, true)]) (by kernel_rfl) (by kernel_rfl) (by as_aux_lemma => kernel_rfl) rfl (by as_aux_lemma => kernel_rfl) (by kernel_rfl) (hCq2i _ ⟨hM.sub (.cons_cons _ .slnil), hk0, trivial⟩) ?_
     refine sxleaf ?_
     have hC := (hCq2i _ ⟨hM.sub (.cons_cons _ .slnil), hk0, trivial⟩)
     refine qd hf hC (fun w' h => (hCq2e w' h).1) [0, 3, 5] [{}, {}, {}, {}, {}] (nw := [(25, eB (decide ((kk : Int) < (l.length : Int))))]) An ?_
     clear hf; intro a hf
     have hf := hf.setb 25 hg1r
     refine qd hf hC (fun w' h => (hCq2e w' h).1) [0, 3, 5] [{}, {}, { sp := true }, { os := [.ex (iV (l.getD kk.toNat ⟨0, 0⟩).i), .ex (iV (l.getD kk.toNat ⟨0, 0⟩).g)] }, { os := [.ld 0 0, .ld 0 1] }, { sp := true, hint := some (bV ((((l.getD kk.toNat ⟨0, 0⟩).i : Int) == ti) && (((l.getD kk.toNat ⟨0, 0⟩).g : Int) == tg))) }, {}] (nw := [(32, eB ((((l.getD kk.toNat ⟨0, 0⟩).i : Int) == ti) && (((l.getD kk.toNat ⟨0, 0⟩).g : Int) == tg)))]) (ob := [true = true, true = true, true = true, (0 : Int) ≤ kk ∧ kk < (l.length : Int), (av : Option Addr).isSome = true, true = true, (∀ w', Cq2 w' → w'.cell? (((sa av : Addr).add (kk.toNat * 2)).add 0) = some (iV (l.getD kk.toNat ⟨0, 0⟩).i)), (∀ w', Cq2 w' → w'.cell? (((sa av : Addr).add (kk.toNat * 2)).add 1) = some (iV (l.getD kk.toNat ⟨0, 0⟩).g)), true = true, Ad B1 0, Ad B1 1, true = true, (bV ((((l.getD kk.toNat ⟨0, 0⟩).i : Int) == ti) && ((((l.getD kk.toNat ⟨0, 0⟩).g : Int) == tg) && true)) : Value) = (bV ((((l.getD kk.toNat ⟨0, 0⟩).i : Int) == ti) && (((l.getD kk.toNat ⟨0, 0⟩).g : Int) == tg)) : Value)]) (Ac rfl (Ac rfl (Ac rfl (Ac (by first | omega | (simp; done)) (Ac ((hav.keepNn hk0).some_ (by first | omega | (simp; done))) (Ac rfl (Ac (fun w' hc => by obtain ⟨hM, hk0, hO⟩ := hCq2e w' hc; exact ((hav.keepNn hk0).get (fun _ => rfl) (by first | omega | (simp; done)) rfl)) (Ac (fun w' hc => by obtain ⟨hM, hk0, hO⟩ := hCq2e w' hc; exact ((hav.keepNn hk0).get (fun _ => rfl) (by first | omega | (simp; done)) rfl)) (Ac rfl (Ac (ad _ _) (Ac (ad _ _) (Ac rfl (Ao (by simp)))))))))))))) ?_
     clear hf; intro a hf
     clear hC
     show K7 _ _
     refine hK7 _ _ ?_
     refine qc hf (b := ((((l.getD kk.toNat ⟨0, 0⟩).i : Int) == ti) && (((l.getD kk.toNat ⟨0, 0⟩).g : Int) == tg))) (fun hc2r => ?_) (fun hc2r => ?_)
     · have hc2 := hc2r
       try simp only [Bool.or_eq_true, Bool.and_eq_true, Bool.not_eq_true', Bool.not_eq_false', Bool.or_eq_false_iff, Bool.and_eq_false_iff, decide_eq_true_eq, decide_eq_false_iff_not, beq_iff_eq, bne_iff_ne, beq_eq_false_iff_ne, bne_eq_false_iff_eq, Bool.and_true, Bool.true_and, ne_eq] at hc2
       refine wp_seq_k (fun K8 hK8 => ?_)
       refine wp_region_lit ?_
       refine q0 hf hM [] [{}, {}] (nw := [(4, eS av l.length c)]) An ?_
       clear hf; intro a hf
       refine wpList_nil ?_
       refine hK8 _ _ ?_
       refine wp_ret ?_
       refine qr (fn := Tryd.f73) hf hM [] (l := [.slice av l.length c]) (ob := []) An ?_
       show (.slice av l.length c : Value) = .slice av l.length c ∧ Keep Nn w w3.drew
       exact ⟨rfl, hk0⟩
     · have hc2 := hc2r
       try simp only [Bool.or_eq_true, Bool.and_eq_true, Bool.not_eq_true', Bool.not_eq_false', Bool.or_eq_false_iff, Bool.and_eq_false_iff, decide_eq_true_eq, decide_eq_false_iff_not, beq_iff_eq, bne_iff_ne, beq_eq_false_iff_ne, bne_eq_false_iff_eq, Bool.and_true, Bool.true_and, ne_eq] at hc2
       refine wp_skip ?_
       refine hK6 _ _ ?_
       refine wp_seq_k (fun K9 hK9 => ?_)
       refine wp_region_lit ?_
       refine sxbslice hf hM (t := 50) (e := 39) (len := 0) (cs := []) (ob := []) rfl rfl rfl rfl (by as_aux_lemma => kernel_rfl) An (by as_aux_lemma => kernel_rfl) ?_
       clear hf hM; intro a w4 B5 hf hM hB hk
       replace hM : MemOk [⟨B1, 39, [iV ti, iV tg]⟩, ⟨B5, 39, []⟩] w4 := hM
       have hbB5 : w.heap.size ≤ B5 := by have := hk0.size; omega
       have hk0 := hk0.trans hk.nn
       clear hk hB
       refine q0 hf hM [34, 0, 3, 5] [{}, {}, { sp := true, hint := some (.slice av (l.take kk.toNat).length c) }] (nw := [(37, eS av (l.take kk.toNat).length c)]) (ob := [0 ≤ (kk : Int) ∧ (kk : Int) ≤ ((c : Nat) : Int), (.slice av (kk : Int).toNat c : Value) = (.slice av (l.take kk.toNat).length c : Value)]) (Ac (by have := ((hav.keepNn hk0)).le; omega) (Ao (by first | rfl | (simp; done) | (simp; omega)))) ?_
       clear hf; intro a hf
       have hO : OwnOk w.heap.size [⟨B1, 39, [iV ti, iV tg]⟩, ⟨B5, 39, []⟩] [] w4 := OwnOk.nil hM
       replace hO := OwnOk.took (M1 := [⟨B1, 39, [iV ti, iV tg]⟩]) (M2 := []) (sz := 2) hO hM (n := 0) (c := 0) (by have := hk0.size; omega) (by decide) (by decide) rfl
       replace hM : MemOk [⟨B1, 39, [iV ti, iV tg]⟩] w4 := hM.sub (.cons_cons _ (.cons _ .slnil))
       replace hO : OwnOk w.heap.size [⟨B1, 39, [iV ti, iV tg]⟩] [oS 39 2 (.slice (some ⟨B5, 0, none⟩) 0 0) 0 (flat fH ([] : List H2))] w4 := hO
       replace hO : OwnOk w.heap.size [⟨B1, 39, [iV ti, iV tg]⟩] [oS 39 2 (.slice (some ⟨B5, 0, none⟩) 0 0) 0 (flat fH ([] : List H2))] w4 := OwnOk.front (l1 := []) (l2 := []) hO
       refine sxappend hf hM (e := 39) (sz := 2) (by_ := 16) (k := 0) (v := .slice (some ⟨B5, 0, none⟩) 0 0) (xs := flat fH ([] : List H2)) hO rfl rfl rfl rfl (av := av) (m := (l.take kk.toNat).length) (c := c) rfl rfl Tryd.underlying50 (by kernel_rfl) rfl (news := flat fH (l.take kk.toNat)) (Arr.takef (m := kk.toNat) (l := l) (hav.keepNn hk0) (fun _ => rfl) (by first | rfl | (simp; done) | omega) (by omega)) (flat_one1 fH_one) (by simp only [maxLen]; constructor <;> (first | omega | (simp; omega))) (by have := hk0.size; omega) ?_
       clear hf hM hO; intro a w5 av1 cv1 hf hM hO hk
       have en : (0 + (l.take kk.toNat).length : Nat) = (l.take kk.toNat).length := (by first | (simp; done) | (simp; omega))
       have ec : flat fH ([] : List H2) ++ flat fH (l.take kk.toNat) = flat fH (l.take kk.toNat) := (by first | rfl | exact (flat_app _ _ _).symm | simp [flat_app, flat_nil])
       rw [en] at hf hO; rw [ec] at hO; clear en ec
       replace hO : OwnOk w.heap.size [⟨B1, 39, [iV ti, iV tg]⟩] [oS 39 2 (.slice av1 (l.take kk.toNat).length cv1) (l.take kk.toNat).length (flat fH (l.take kk.toNat))] w5 := hO
       have hk0 := hk0.then hk (by intro i hi h; have := h.1; omega)
       clear hk
       refine q0 hf hM [0, 3, 5] [{}] (nw := [(6, eS av1 (l.take kk.toNat).length cv1)]) An ?_
       clear hf; intro a hf
       refine wpList_nil ?_
       refine hK9 _ _ ?_
       refine wp_seq_k (fun K10 hK10 => ?_)
       refine wp_region_lit ?_
       refine q0 hf hM [6, 0, 5] [{}, { os := [.ld 0 0, .ld 0 1] }] (nw := [(40, .val (.agg #[iV ti, iV tg])), (39, eS av1 (l.take kk.toNat).length cv1)]) (ob := [Ad B1 0, Ad B1 1]) (Ac (ad _ _) (Ao (ad _ _))) ?_
       clear hf; intro a hf
       refine sxbslice hf hM (t := 50) (e := 39) (len := 1) (cs := [iV ti, iV tg]) (ob := []) rfl rfl rfl rfl (by as_aux_lemma => kernel_rfl) An (by as_aux_lemma => kernel_rfl) ?_
       clear hf hM; intro a w6 B9 hf hM hB hk
       replace hM : MemOk [⟨B1, 39, [iV ti, iV tg]⟩, ⟨B9, 39, [iV ti, iV tg]⟩] w6 := hM
       have hbB9 : w.heap.size ≤ B9 := by have := hk0.size; omega
       have hk0 := hk0.trans hk.nn
       have hO := hO.step hM hk.nn (by intro i h; simp only [Mem.names, List.map_cons, List.map_nil, List.mem_cons, List.not_mem_nil, or_false, List.map_append, List.cons_append, List.nil_append] at h ⊢; omega)
       clear hk hB
       replace hO : OwnOk w.heap.size [⟨B1, 39, [iV ti, iV tg]⟩, ⟨B9, 39, [iV ti, iV tg]⟩] [oS 39 2 (.slice av1 (l.take kk.toNat).length cv1) (l.take kk.toNat).length (flat fH (l.take kk.toNat))] w6 := OwnOk.front (l1 := []) (l2 := []) hO
       refine sxappend hf hM (e := 39) (sz := 2) (by_ := 16) (k := (l.take kk.toNat).length) (v := .slice av1 (l.take kk.toNat).length cv1) (xs := flat fH (l.take kk.toNat)) hO rfl rfl rfl rfl (av := some ⟨B9, 0, none⟩) (m := 1) (c := 1) rfl rfl Tryd.underlying50 (by kernel_rfl) rfl (news := flat fH ([⟨ti, tg⟩] : List H2)) (Arr.of_memT (sz := 2) (f := fH) (L := ([⟨ti, tg⟩] : List H2)) (l := ([⟨ti, tg⟩] : List H2)) hM (List.Mem.tail _ (List.Mem.head _)) (fun _ => rfl) rfl rfl) (flat_one1 fH_one) (by simp only [maxLen]; constructor <;> (first | omega | (simp; omega))) (by have := hk0.size; omega) ?_
       clear hf hM hO; intro a w7 av2 cv2 hf hM hO hk
       have en : ((l.take kk.toNat).length + 1 : Nat) = ((l.take kk.toNat) ++ ([⟨ti, tg⟩] : List H2)).length := (by first | (simp; done) | (simp; omega))
       have ec : flat fH (l.take kk.toNat) ++ flat fH ([⟨ti, tg⟩] : List H2) = flat fH ((l.take kk.toNat) ++ ([⟨ti, tg⟩] : List H2)) := (by first | rfl | exact (flat_app _ _ _).symm | simp [flat_app, flat_nil])
       rw [en] at hf hO; rw [ec] at hO; clear en ec
       replace hO : OwnOk w.heap.size [⟨B1, 39, [iV ti, iV tg]⟩, ⟨B9, 39, [iV ti, iV tg]⟩] [oS 39 2 (.slice av2 (((l.take kk.toNat) ++ ([⟨ti, tg⟩] : List H2)).length) cv2) (((l.take kk.toNat) ++ ([⟨ti, tg⟩] : List H2)).length) (flat fH ((l.take kk.toNat) ++ ([⟨ti, tg⟩] : List H2)))] w7 := hO
       have hk0 := hk0.then hk (by intro i hi h; have := h.1; omega)
       clear hk
       refine q0 hf hM [0, 5] [{}] (nw := [(6, eS av2 (((l.take kk.toNat) ++ ([⟨ti, tg⟩] : List H2)).length) cv2)]) An ?_
       clear hf; intro a hf
       refine wpList_nil ?_
       refine hK10 _ _ ?_
       refine wp_seq_k (fun K11 hK11 => ?_)
       refine wp_region_lit ?_
       refine q0 hf hM [] [{}, {}, {}, { sp := true, hint := some (.slice (cutA av kk.toNat c 2) (l.drop kk.toNat).length (c - kk.toNat)) }] (nw := [(46, eS (cutA av kk.toNat c 2) (l.drop kk.toNat).length (c - kk.toNat)), (43, eS av2 (((l.take kk.toNat) ++ ([⟨ti, tg⟩] : List H2)).length) cv2)]) (ob := [0 ≤ (kk : Int) ∧ (kk : Int) ≤ ((l.length : Nat) : Int), (.slice (cutA av (kk : Int).toNat c 2) (l.length - (kk : Int).toNat) (c - (kk : Int).toNat) : Value) = (.slice (cutA av kk.toNat c 2) (l.drop kk.toNat).length (c - kk.toNat) : Value)]) (Ac (by have := ((hav.keepNn hk0)).le; omega) (Ao (by first | rfl | (simp; done) | (simp; omega)))) ?_
       clear hf; intro a hf
       replace hO : OwnOk w.heap.size [⟨B1, 39, [iV ti, iV tg]⟩, ⟨B9, 39, [iV ti, iV tg]⟩] [oS 39 2 (.slice av2 (((l.take kk.toNat) ++ ([⟨ti, tg⟩] : List H2)).length) cv2) (((l.take kk.toNat) ++ ([⟨ti, tg⟩] : List H2)).length) (flat fH ((l.take kk.toNat) ++ ([⟨ti, tg⟩] : List H2)))] w7 := OwnOk.front (l1 := []) (l2 := []) hO
       refine sxappend hf hM (e := 39) (sz := 2) (by_ := 16) (k := ((l.take kk.toNat) ++ ([⟨ti, tg⟩] : List H2)).length) (v := .slice av2 (((l.take kk.toNat) ++ ([⟨ti, tg⟩] : List H2)).length) cv2) (xs := flat fH ((l.take kk.toNat) ++ ([⟨ti, tg⟩] : List H2))) hO rfl rfl rfl rfl (av := cutA av kk.toNat c 2) (m := (l.drop kk.toNat).length) (c := (c - kk.toNat)) rfl rfl Tryd.underlying50 (by kernel_rfl) rfl (news := flat fH (l.drop kk.toNat)) (Arr.dropf (m := kk.toNat) (l := l) (hav.keepNn hk0) (fun _ => rfl) (by first | rfl | (simp; done) | omega) (by omega)) (flat_one1 fH_one) (by simp only [maxLen]; constructor <;> (first | omega | (simp; omega))) (by have := hk0.size; omega) ?_
       clear hf hM hO; intro a w8 av3 cv3 hf hM hO hk
       have en : (((l.take kk.toNat) ++ ([⟨ti, tg⟩] : List H2)).length + (l.drop kk.toNat).length : Nat) = (((l.take kk.toNat) ++ ([⟨ti, tg⟩] : List H2)) ++ (l.drop kk.toNat)).length := (by first | (simp; done) | (simp; omega))
       have ec : flat fH ((l.take kk.toNat) ++ ([⟨ti, tg⟩] : List H2)) ++ flat fH (l.drop kk.toNat) = flat fH (((l.take kk.toNat) ++ ([⟨ti, tg⟩] : List H2)) ++ (l.drop kk.toNat)) := (by first | rfl | exact (flat_app _ _ _).symm | simp [flat_app, flat_nil])
       rw [en] at hf hO; rw [ec] at hO; clear en ec
       replace hO : OwnOk w.heap.size [⟨B1, 39, [iV ti, iV tg]⟩, ⟨B9, 39, [iV ti, iV tg]⟩] [oS 39 2 (.slice av3 ((((l.take kk.toNat) ++ ([⟨ti, tg⟩] : List H2)) ++ (l.drop kk.toNat)).length) cv3) ((((l.take kk.toNat) ++ ([⟨ti, tg⟩] : List H2)) ++ (l.drop kk.toNat)).length) (flat fH (((l.take kk.toNat) ++ ([⟨ti, tg⟩] : List H2)) ++ (l.drop kk.toNat)))] w8 := hO
       have hk0 := hk0.then hk (by intro i hi h; have := h.1; omega)
       clear hk
       refine q0 hf hM [] [{}] (nw := [(4, eS av3 ((((l.take kk.toNat) ++ ([⟨ti, tg⟩] : List H2)) ++ (l.drop kk.toNat)).length) cv3)]) An ?_
       clear hf; intro a hf
       refine wpList_nil ?_
       refine hK11 _ _ ?_
       refine wp_ret ?_
       refine qr (fn := Tryd.f73) hf hM [] (l := [.slice av3 ((((l.take kk.toNat) ++ ([⟨ti, tg⟩] : List H2)) ++ (l.drop kk.toNat)).length) cv3]) (ob := []) An ?_
       show (.slice av3 ((((l.take kk.toNat) ++ ([⟨ti, tg⟩] : List H2)) ++ (l.drop kk.toNat)).length) cv3 : Value) = .slice av l.length c ∧ Keep Nn w w8
       exfalso
       have hp : kk.toNat = pos ltH l (⟨ti, tg⟩ : H2) := pos_unique (d := ⟨0, 0⟩) (by omega) hkf (fun h => by first | assumption | (exfalso; omega))
       first
         | (have hm := half_out ordH hrs (by omega : kk = (pos ltH l (⟨ti, tg⟩ : H2) : Nat)) (by omega) ⟨0, 0⟩
            rw [hm] at hn0
            cases hn0)
         | (have hm := half_in ordH hrs (by omega : kk = (pos ltH l (⟨ti, tg⟩ : H2) : Nat)) (by omega) (d := ⟨0, 0⟩)
            rw [hn0] at hm
            have h1 := of_decide_eq_true hm.symm
            exact nec_hT (by omega) h1)
 · have hg1 := (nU hg1r)
   have hf := (hf.setb 11 hg1r).setb 10 hg1r
   refine qd hf hC (fun w' h => (hCq1e w' h).1) [11, 10, 9, 8, 7, 0, 3, 5] [{ g := .off }, { g := .off }, { g := .off }, { g := .off }, { g := .off }] (nw := [(16, .val (undef)), (15, .val (undef)), (14, .val (undef)), (13, .val (undef)), (12, .val (undef))]) (ob := [false = !true, false = !true, false = !true, false = !true, false = !true]) (Ac rfl (Ac rfl (Ac rfl (Ac rfl (Ao rfl))))) ?_
   clear hf; intro a hf
   refine scstep rfl ?_
   refine q0 hf hM [16, 15, 14, 13, 12, 11, 10, 9, 8, 7, 0, 3, 5] [{ g := .off }] (nw := [(17, .val (undef))]) (ob := [false = !true]) (Ao rfl) ?_
   clear hf; intro a hf
   have hC := (hCq1i _ ⟨hM.sub (.cons_cons _ .slnil), hk0, trivial⟩)
   refine scdone hC ?_
   refine qd hf hC (fun w' h => (hCq1e w' h).1) [17, 16, 15, 14, 13, 12, 11, 10, 9, 8, 7, 0, 3, 5] [{}] (nw := [(18, eB false)]) An ?_
   clear hf; intro a hf
   clear hC
   show K5 _ _
   refine hK5 _ _ ?_
   refine sxcond hf (b := false) (by kernel_rfl) (fun h => by cases h) (fun _ => ?_)
   refine wp_exit ?_
   refine hK3 _ _ ?_
   refine wp_seq_k (fun K12 hK12 => ?_)
   refine wp_seq_k (fun K13 hK13 => ?_)
   replace hM := hM.drew; replace hk0 := hk0.drew
   obtain ⟨Cq3, hCq3i, hCq3e⟩ := qcls fun w' => MemOk [⟨B1, 39, [iV ti, iV tg]⟩] w' ∧ Keep Nn w w' ∧ True
   refine sxdraw (C := Cq3) (.leaf [(0, true), (1, true), (2, true), (3, true), (4, true), (5, true), (6, true), (7, true), (8, true), (9, true), (10, true), (11, true)]) (by kernel_rfl) (by kernel_rfl) (by as_aux_lemma => kernel_rfl) rfl (by as_aux_lemma => kernel_rfl) (by kernel_rfl) (hCq3i _ ⟨hM.sub (.cons_cons _ .slnil), hk0, trivial⟩) ?_
   refine sxleaf ?_
   have hC := (hCq3i _ ⟨hM.sub (.cons_cons _ .slnil), hk0, trivial⟩)
   refine qd hf hC (fun w' h => (hCq3e w' h).1) [0, 3, 5] [{}, {}, {}, {}, {}] (nw := [(25, eB (decide ((kk : Int) < (l.length : Int))))]) An ?_
   clear hf; intro a hf
   have hf := hf.setb 25 hg1r
   refine qd hf hC (fun w' h => (hCq3e w' h).1) [0, 3, 5] [{ g := .off }, { g := .off }, { g := .off }, { g := .off }, { g := .off }, { g := .off }, {}] (nw := [(32, eB false)]) (ob := [false = !true, false = !true, false = !true, false = !true, false = !true, false = !true]) (Ac rfl (Ac rfl (Ac rfl (Ac rfl (Ac rfl (Ao rfl)))))) ?_
   clear hf; intro a hf
   clear hC
   show K13 _ _
   refine hK13 _ _ ?_
   refine sxcond hf (b := false) (by kernel_rfl) (fun h => by cases h) (fun _ => ?_)
   refine wp_skip ?_
   refine hK12 _ _ ?_
   refine wp_seq_k (fun K14 hK14 => ?_)
   refine wp_region_lit ?_
   refine sxbslice hf hM (t := 50) (e := 39) (len := 0) (cs := []) (ob := []) rfl rfl rfl rfl (by as_aux_lemma => kernel_rfl) An (by as_aux_lemma => kernel_rfl) ?_
   clear hf hM; intro a w9 B13 hf hM hB hk
   replace hM : MemOk [⟨B1, 39, [iV ti, iV tg]⟩, ⟨B13, 39, []⟩] w9 := hM
   have hbB13 : w.heap.size ≤ B13 := by have := hk0.size; omega
   have hk0 := hk0.trans hk.nn
   clear hk hB
   refine q0 hf hM [34, 0, 3, 5] [{}, {}, { sp := true, hint := some (.slice av (l.take kk.toNat).length c) }] (nw := [(37, eS av (l.take kk.toNat).length c)]) (ob := [0 ≤ (kk : Int) ∧ (kk : Int) ≤ ((c : Nat) : Int), (.slice av (kk : Int).toNat c : Value) = (.slice av (l.take kk.toNat).length c : Value)]) (Ac (by have := ((hav.keepNn hk0)).le; omega) (Ao (by first | rfl | (simp; done) | (simp; omega)))) ?_
   clear hf; intro a hf
   have hO : OwnOk w.heap.size [⟨B1, 39, [iV ti, iV tg]⟩, ⟨B13, 39, []⟩] [] w9 := OwnOk.nil hM
   replace hO := OwnOk.took (M1 := [⟨B1, 39, [iV ti, iV tg]⟩]) (M2 := []) (sz := 2) hO hM (n := 0) (c := 0) (by have := hk0.size; omega) (by decide) (by decide) rfl
   replace hM : MemOk [⟨B1, 39, [iV ti, iV tg]⟩] w9 := hM.sub (.cons_cons _ (.cons _ .slnil))
   replace hO : OwnOk w.heap.size [⟨B1, 39, [iV ti, iV tg]⟩] [oS 39 2 (.slice (some ⟨B13, 0, none⟩) 0 0) 0 (flat fH ([] : List H2))] w9 := hO
   replace hO : OwnOk w.heap.size [⟨B1, 39, [iV ti, iV tg]⟩] [oS 39 2 (.slice (some ⟨B13, 0, none⟩) 0 0) 0 (flat fH ([] : List H2))] w9 := OwnOk.front (l1 := []) (l2 := []) hO
   refine sxappend hf hM (e := 39) (sz := 2) (by_ := 16) (k := 0) (v := .slice (some ⟨B13, 0, none⟩) 0 0) (xs := flat fH ([] : List H2)) hO rfl rfl rfl rfl (av := av) (m := (l.take kk.toNat).length) (c := c) rfl rfl Tryd.underlying50 (by kernel_rfl) rfl (news := flat fH (l.take kk.toNat)) (Arr.takef (m := kk.toNat) (l := l) (hav.keepNn hk0) (fun _ => rfl) (by first | rfl | (simp; done) | omega) (by omega)) (flat_one1 fH_one) (by simp only [maxLen]; constructor <;> (first | omega | (simp; omega))) (by have := hk0.size; omega) ?_
   clear hf hM hO; intro a w10 av4 cv4 hf hM hO hk
   have en : (0 + (l.take kk.toNat).length : Nat) = (l.take kk.toNat).length := (by first | (simp; done) | (simp; omega))
   have ec : flat fH ([] : List H2) ++ flat fH (l.take kk.toNat) = flat fH (l.take kk.toNat) := (by first | rfl | exact (flat_app _ _ _).symm | simp [flat_app, flat_nil])
   rw [en] at hf hO; rw [ec] at hO; clear en ec
   replace hO : OwnOk w.heap.size [⟨B1, 39, [iV ti, iV tg]⟩] [oS 39 2 (.slice av4 (l.take kk.toNat).length cv4) (l.take kk.toNat).length (flat fH (l.take kk.toNat))] w10 := hO
   have hk0 := hk0.then hk (by intro i hi h; have := h.1; omega)
   clear hk
   refine q0 hf hM [0, 3, 5] [{}] (nw := [(6, eS av4 (l.take kk.toNat).length cv4)]) An ?_
   clear hf; intro a hf
   refine wpList_nil ?_
   refine hK14 _ _ ?_
   refine wp_seq_k (fun K15 hK15 => ?_)
   refine wp_region_lit ?_
   refine q0 hf hM [6, 0, 5] [{}, { os := [.ld 0 0, .ld 0 1] }] (nw := [(40, .val (.agg #[iV ti, iV tg])), (39, eS av4 (l.take kk.toNat).length cv4)]) (ob := [Ad B1 0, Ad B1 1]) (Ac (ad _ _) (Ao (ad _ _))) ?_
   clear hf; intro a hf
   refine sxbslice hf hM (t := 50) (e := 39) (len := 1) (cs := [iV ti, iV tg]) (ob := []) rfl rfl rfl rfl (by as_aux_lemma => kernel_rfl) An (by as_aux_lemma => kernel_rfl) ?_
   clear hf hM; intro a w11 B17 hf hM hB hk
   replace hM : MemOk [⟨B1, 39, [iV ti, iV tg]⟩, ⟨B17, 39, [iV ti, iV tg]⟩] w11 := hM
   have hbB17 : w.heap.size ≤ B17 := by have := hk0.size; omega
   have hk0 := hk0.trans hk.nn
   have hO := hO.step hM hk.nn (by intro i h; simp only [Mem.names, List.map_cons, List.map_nil, List.mem_cons, List.not_mem_nil, or_false, List.map_append, List.cons_append, List.nil_append] at h ⊢; omega)
   clear hk hB
   replace hO : OwnOk w.heap.size [⟨B1, 39, [iV ti, iV tg]⟩, ⟨B17, 39, [iV ti, iV tg]⟩] [oS 39 2 (.slice av4 (l.take kk.toNat).length cv4) (l.take kk.toNat).length (flat fH (l.take kk.toNat))] w11 := OwnOk.front (l1 := []) (l2 := []) hO
   refine sxappend hf hM (e := 39) (sz := 2) (by_ := 16) (k := (l.take kk.toNat).length) (v := .slice av4 (l.take kk.toNat).length cv4) (xs := flat fH (l.take kk.toNat)) hO rfl rfl rfl rfl (av := some ⟨B17, 0, none⟩) (m := 1) (c := 1) rfl rfl Tryd.underlying50 (by kernel_rfl) rfl (news := flat fH ([⟨ti, tg⟩] : List H2)) (Arr.of_memT (sz := 2) (f := fH) (L := ([⟨ti, tg⟩] : List H2)) (l := ([⟨ti, tg⟩] : List H2)) hM (List.Mem.tail _ (List.Mem.head _)) (fun _ => rfl) rfl rfl) (flat_one1 fH_one) (by simp only [maxLen]; constructor <;> (first | omega | (simp; omega))) (by have := hk0.size; omega) ?_
   clear hf hM hO; intro a w12 av5 cv5 hf hM hO hk
   have en : ((l.take kk.toNat).length + 1 : Nat) = ((l.take kk.toNat) ++ ([⟨ti, tg⟩] : List H2)).length := (by first | (simp; done) | (simp; omega))
   have ec : flat fH (l.take kk.toNat) ++ flat fH ([⟨ti, tg⟩] : List H2) = flat fH ((l.take kk.toNat) ++ ([⟨ti, tg⟩] : List H2)) := (by first | rfl | exact (flat_app _ _ _).symm | simp [flat_app, flat_nil])
   rw [en] at hf hO; rw [ec] at hO; clear en ec
   replace hO : OwnOk w.heap.size [⟨B1, 39, [iV ti, iV tg]⟩, ⟨B17, 39, [iV ti, iV tg]⟩] [oS 39 2 (.slice av5 (((l.take kk.toNat) ++ ([⟨ti, tg⟩] : List H2)).length) cv5) (((l.take kk.toNat) ++ ([⟨ti, tg⟩] : List H2)).length) (flat fH ((l.take kk.toNat) ++ ([⟨ti, tg⟩] : List H2)))] w12 := hO
   have hk0 := hk0.then hk (by intro i hi h; have := h.1; omega)
   clear hk
   refine q0 hf hM [0, 5] [{}] (nw := [(6, eS av5 (((l.take kk.toNat) ++ ([⟨ti, tg⟩] : List H2)).length) cv5)]) An ?_
   clear hf; intro a hf
   refine wpList_nil ?_
   refine hK15 _ _ ?_
   refine wp_seq_k (fun K16 hK16 => ?_)
   refine wp_region_lit ?_
   refine q0 hf hM [] [{}, {}, {}, { sp := true, hint := some (.slice (cutA av kk.toNat c 2) (l.drop kk.toNat).length (c - kk.toNat)) }] (nw := [(46, eS (cutA av kk.toNat c 2) (l.drop kk.toNat).length (c - kk.toNat)), (43, eS av5 (((l.take kk.toNat) ++ ([⟨ti, tg⟩] : List H2)).length) cv5)]) (ob := [0 ≤ (kk : Int) ∧ (kk : Int) ≤ ((l.length : Nat) : Int), (.slice (cutA av (kk : Int).toNat c 2) (l.length - (kk : Int).toNat) (c - (kk : Int).toNat) : Value) = (.slice (cutA av kk.toNat c 2) (l.drop kk.toNat).length (c - kk.toNat) : Value)]) (Ac (by have := ((hav.keepNn hk0)).le; omega) (Ao (by first | rfl | (simp; done) | (simp; omega)))) ?_
   clear hf; intro a hf
   replace hO : OwnOk w.heap.size [⟨B1, 39, [iV ti, iV tg]⟩, ⟨B17, 39, [iV ti, iV tg]⟩] [oS 39 2 (.slice av5 (((l.take kk.toNat) ++ ([⟨ti, tg⟩] : List H2)).length) cv5) (((l.take kk.toNat) ++ ([⟨ti, tg⟩] : List H2)).length) (flat fH ((l.take kk.toNat) ++ ([⟨ti, tg⟩] : List H2)))] w12 := OwnOk.front (l1 := []) (l2 := []) hO
   refine sxappend hf hM (e := 39) (sz := 2) (by_ := 16) (k := ((l.take kk.toNat) ++ ([⟨ti, tg⟩] : List H2)).length) (v := .slice av5 (((l.take kk.toNat) ++ ([⟨ti, tg⟩] : List H2)).length) cv5) (xs := flat fH ((l.take kk.toNat) ++ ([⟨ti, tg⟩] : List H2))) hO rfl rfl rfl rfl (av := cutA av kk.toNat c 2) (m := (l.drop kk.toNat).length) (c := (c - kk.toNat)) rfl rfl Tryd.underlying50 (by kernel_rfl) rfl (news := flat fH (l.drop kk.toNat)) (Arr.dropf (m := kk.toNat) (l := l) (hav.keepNn hk0) (fun _ => rfl) (by first | rfl | (simp; done) | omega) (by omega)) (flat_one1 fH_one) (by simp only [maxLen]; constructor <;> (first | omega | (simp; omega))) (by have := hk0.size; omega) ?_
   clear hf hM hO; intro a w13 av6 cv6 hf hM hO hk
   have en : (((l.take kk.toNat) ++ ([⟨ti, tg⟩] : List H2)).length + (l.drop kk.toNat).length : Nat) = (((l.take kk.toNat) ++ ([⟨ti, tg⟩] : List H2)) ++ (l.drop kk.toNat)).length := (by first | (simp; done) | (simp; omega))
   have ec : flat fH ((l.take kk.toNat) ++ ([⟨ti, tg⟩] : List H2)) ++ flat fH (l.drop kk.toNat) = flat fH (((l.take kk.toNat) ++ ([⟨ti, tg⟩] : List H2)) ++ (l.drop kk.toNat)) := (by first | rfl | exact (flat_app _ _ _).symm | simp [flat_app, flat_nil])
   rw [en] at hf hO; rw [ec] at hO; clear en ec
   replace hO : OwnOk w.heap.size [⟨B1, 39, [iV ti, iV tg]⟩, ⟨B17, 39, [iV ti, iV tg]⟩] [oS 39 2 (.slice av6 ((((l.take kk.toNat) ++ ([⟨ti, tg⟩] : List H2)) ++ (l.drop kk.toNat)).length) cv6) ((((l.take kk.toNat) ++ ([⟨ti, tg⟩] : List H2)) ++ (l.drop kk.toNat)).length) (flat fH (((l.take kk.toNat) ++ ([⟨ti, tg⟩] : List H2)) ++ (l.drop kk.toNat)))] w13 := hO
   have hk0 := hk0.then hk (by intro i hi h; have := h.1; omega)
   clear hk
   refine q0 hf hM [] [{}] (nw := [(4, eS av6 ((((l.take kk.toNat) ++ ([⟨ti, tg⟩] : List H2)) ++ (l.drop kk.toNat)).length) cv6)]) An ?_
   clear hf; intro a hf
   refine wpList_nil ?_
   refine hK16 _ _ ?_
   refine wp_ret ?_
   refine qr (fn := Tryd.f73) hf hM [] (l := [.slice av6 ((((l.take kk.toNat) ++ ([⟨ti, tg⟩] : List H2)) ++ (l.drop kk.toNat)).length) cv6]) (ob := []) An ?_
   show (.slice av6 ((((l.take kk.toNat) ++ ([⟨ti, tg⟩] : List H2)) ++ (l.drop kk.toNat)).length) cv6 : Value) = .slice av l.length c ∧ Keep Nn w w13
   exfalso
   have hp : kk.toNat = pos ltH l (⟨ti, tg⟩ : H2) := pos_unique (d := ⟨0, 0⟩) (by omega) hkf (fun h => by first | assumption | (exfalso; omega))
   first
     | (have hm := half_out ordH hrs (by omega : kk = (pos ltH l (⟨ti, tg⟩ : H2) : Nat)) (by omega) ⟨0, 0⟩
        rw [hm] at hn0
        cases hn0)
     | (have hm := half_in ordH hrs (by omega : kk = (pos ltH l (⟨ti, tg⟩ : H2) : Nat)) (by omega) (d := ⟨0, 0⟩)
        rw [hn0] at hm
        have h1 := of_decide_eq_true hm.symm
        exact nec_hT (by omega) h1)

set_option maxRecDepth 10000 in
set_option maxHeartbeats 1600000 in
theorem rput_out (av : Option Addr) (l : List H2) (c : Nat) (ti tg : Int) (w : World) (hn0 : (inS l (⟨ti, tg⟩ : H2)) = false) (hav : Arr w 2 av l.length c (flat fH l)) (hbav : l.length ≤ 1000000) (hrs : Rises ltH l) :
    Calls Tryd.prog 73 #[.slice av l.length c, .agg #[iV ti, iV tg]] w (Ret fun v w' => ∃ a' c', v = .slice a' (putS ltH l (⟨ti, tg⟩ : H2)).length c' ∧ Keep Nn w w' ∧ World.ownsRow w' w.heap.size 39 2 (.slice a' (putS ltH l (⟨ti, tg⟩ : H2)).length c') (putS ltH l (⟨ti, tg⟩ : H2)).length (flat fH (putS ltH l (⟨ti, tg⟩ : H2)))) := by
 refine sxenter (n := 48) (args := [.slice av l.length c, .agg #[iV ti, iV tg]]) Tryd.func73 rfl rfl rfl fun a hf => ?_
 replace hf : Fr 48 [(0, eS av l.length c), (1, .val (.agg #[iV ti, iV tg]))] a := hf
 have hM : MemOk [] w := MemOk.nil w
 have hk0 : Keep Nn w w := Keep.refl _ _
 refine wp_seq_k (fun K1 hK1 => ?_)
 refine wp_region_lit ?_
 refine q1 hf hM [0] [{ os := [.nw] }, {}] (nw := fun B1 => [(3, eP B1 0)]) (M' := fun B1 => [⟨B1, 39, [iV ti, iV tg]⟩]) (ob := fun B1 => []) (fun B1 => An) ?_
 clear hf hM; intro a w1 B1 hf hM hB hk
 have hbB1 : w.heap.size ≤ B1 := by have := hk0.size; omega
 have hk0 := hk0.then hk (by intro i _ h; cases h)
 clear hk hB
 refine wpList_nil ?_
 refine hK1 _ _ ?_
 refine wp_seq_k (fun K2 hK2 => ?_)
 refine wp_region_lit ?_
 refine q0 hf hM [3, 0] [{}] (nw := [(5, eI 0)]) An ?_
 clear hf; intro a hf
 refine wpList_nil ?_
 refine hK2 _ _ ?_
 refine wp_seq_k (fun K3 hK3 => ?_)
 refine wp_block ?_
 have hf := (hf.prune [0, 3, 5]).to (env' := [(0, eS av l.length c), (3, eP B1 0), (5, eI 0)]) (by kernel_rfl)
 refine sxloop (fun zm a w1 => ∃ (kk : Int), zm = ((l.length : Int) - kk).toNat ∧ Fr 48 [(0, eS av l.length c), (3, eP B1 0), (5, eI kk)] a ∧ MemOk [⟨B1, 39, [iV ti, iV tg]⟩] w1 ∧ Keep Nn w w1 ∧ (0 ≤ kk ∧ kk ≤ (l.length : Int)) ∧ (∀ j, j < kk.toNat → ltH (l.getD j ⟨0, 0⟩) (⟨ti, tg⟩ : H2) = true)) _ ⟨0, rfl, hf.conv (Ac rfl (Ac rfl (Ao rfl))), hM, hk0, (by omega), (fun j hj => by simp at hj)⟩ ?_
 clear hf hM hk0
 rintro _ a w2 ⟨kk, rfl, hf, hM, hk0, hi, hkf⟩ L1 hL1
 refine wp_seq_k (fun K4 hK4 => ?_)
 refine wp_seq_k (fun K5 hK5 => ?_)
 replace hM := hM.drew; replace hk0 := hk0.drew
 obtain ⟨Cq1, hCq1i, hCq1e⟩ := qcls fun w' => MemOk [⟨B1, 39, [iV ti, iV tg]⟩] w' ∧ Keep Nn w w' ∧ True
 refine sxdraw (C := Cq1) (.leaf [(0, true), (1, true), (2, true), (3, true), (4, true), (5, true), (6, true), (7, true), (8, true), (9, true), (10, false), (11, true)]) (by kernel_rfl) (by kernel_rfl) (by as_aux_lemma => kernel_rfl) rfl (by as_aux_lemma => kernel_rfl) (by kernel_rfl) (hCq1i _ ⟨hM.sub (.cons_cons _ .slnil), hk0, trivial⟩) ?_
 refine sxleaf ?_
 have hC := (hCq1i _ ⟨hM.sub (.cons_cons _ .slnil), hk0, trivial⟩)
 refine qd hf hC (fun w' h => (hCq1e w' h).1) [0, 3, 5] [{}, {}, {}, {}, {}] (nw := [(11, eB (decide ((kk : Int) < (l.length : Int)))), (10, eB (decide ((kk : Int) < (l.length : Int)))), (9, eI (l.length : Int)), (8, eS av l.length c), (7, eI kk)]) An ?_
 clear hf; intro a hf
 rcases Bool.eq_false_or_eq_true (decide ((kk : Int) < (l.length : Int))) with hg1r | hg1r
 · have hg1 := (nT hg1r)
   have hf := (hf.setb 11 hg1r).setb 10 hg1r
   refine qd hf hC (fun w' h => (hCq1e w' h).1) [11, 10, 9, 8, 7, 0, 3, 5] [{}, {}, { sp := true }, { os := [.ex (iV (l.getD kk.toNat ⟨0, 0⟩).i), .ex (iV (l.getD kk.toNat ⟨0, 0⟩).g)] }, { os := [.ld 0 0, .ld 0 1] }] (nw := [(16, .val (.agg #[iV ti, iV tg])), (15, .val (.agg #[iV (l.getD kk.toNat ⟨0, 0⟩).i, iV (l.getD kk.toNat ⟨0, 0⟩).g])), (14, .val (.pointer (some ((sa av : Addr).add (kk.toNat * 2))))), (13, eI kk), (12, eS av l.length c)]) (ob := [true = true, true = true, true = true, (0 : Int) ≤ kk ∧ kk < (l.length : Int), (av : Option Addr).isSome = true, true = true, (∀ w', Cq1 w' → w'.cell? (((sa av : Addr).add (kk.toNat * 2)).add 0) = some (iV (l.getD kk.toNat ⟨0, 0⟩).i)), (∀ w', Cq1 w' → w'.cell? (((sa av : Addr).add (kk.toNat * 2)).add 1) = some (iV (l.getD kk.toNat ⟨0, 0⟩).g)), true = true, Ad B1 0, Ad B1 1]) (Ac rfl (Ac rfl (Ac rfl (Ac (by first | omega | (simp; done)) (Ac ((hav.keepNn hk0).some_ (by first | omega | (simp; done))) (Ac rfl (Ac (fun w' hc => by obtain ⟨hM, hk0, hO⟩ := hCq1e w' hc; exact ((hav.keepNn hk0).get (fun _ => rfl) (by first | omega | (simp; done)) rfl)) (Ac (fun w' hc => by obtain ⟨hM, hk0, hO⟩ := hCq1e w' hc; exact ((hav.keepNn hk0).get (fun _ => rfl) (by first | omega | (simp; done)) rfl)) (Ac rfl (Ac (ad _ _) (Ao (ad _ _)))))))))))) ?_
   clear hf; intro a hf
   refine scstep rfl ?_
   refine sxcallg hf rfl rfl rfl rfl rfl (g := 55) (vs := [.agg #[iV (l.getD kk.toNat ⟨0, 0⟩).i, iV (l.getD kk.toNat ⟨0, 0⟩).g], .agg #[iV ti, iV tg]]) (ob := []) (by as_aux_lemma => kernel_rfl) An enters55 (rless (l.getD kk.toNat ⟨0, 0⟩).i (l.getD kk.toNat ⟨0, 0⟩).g ti tg w2.drew  ) ?_
   clear hf; rintro _ w3 a ⟨rfl, hk⟩ hf
   have hM := hM.keepNn hk
   have hk0 := hk0.trans hk.nn
   clear hk
   have hC := (hCq1i _ ⟨hM.sub (.cons_cons _ .slnil), hk0, trivial⟩)
   refine scdone hC ?_
   refine qd hf hC (fun w' h => (hCq1e w' h).1) [17, 16, 15, 14, 13, 12, 11, 10, 9, 8, 7, 0, 3, 5] [{}] (nw := [(18, eB (ltH ⟨(l.getD kk.toNat ⟨0, 0⟩).i, (l.getD kk.toNat ⟨0, 0⟩).g⟩ ⟨ti, tg⟩))]) An ?_
   clear hf; intro a hf
   clear hC
   show K5 _ _
   refine hK5 _ _ ?_
   refine qc hf (b := ltH ⟨(l.getD kk.toNat ⟨0, 0⟩).i, (l.getD kk.toNat ⟨0, 0⟩).g⟩ ⟨ti, tg⟩) (fun hc1r => ?_) (fun hc1r => ?_)
   · have hc1 := hc1r
     refine wp_skip ?_
     refine hK4 _ _ ?_
     refine wp_block ?_
     refine wp_region_lit ?_
     refine q0 hf hM [18, 17, 16, 15, 14, 13, 12, 11, 10, 9, 8, 7, 0, 3] [{}, { hint := some (iV (kk + 1)) }, {}] (nw := [(5, eI (kk + 1))]) (ob := [(iV (IntKind.i64.wrap (kk + 1)) : Value) = (iV (kk + 1) : Value)]) (Ao (wr (by omega))) ?_
     clear hf; intro a hf
     refine wpList_nil ?_
     have hkf2 : ∀ j, j < (kk + 1).toNat → ltH (l.getD j ⟨0, 0⟩) (⟨ti, tg⟩ : H2) = true := fun j hj => by
       rcases Nat.lt_or_ge j kk.toNat with h | h
       · exact hkf j h
       · obtain rfl : j = kk.toNat := by omega
         assumption
     have hf := (hf.prune [0, 3, 5]).to (env' := [(0, eS av l.length c), (3, eP B1 0), (5, eI (kk + 1))]) (by kernel_rfl)
     refine hL1 _ _ _ (by omega) ⟨kk + 1, rfl, hf.conv (Ac rfl (Ac rfl (Ao rfl))), hM, hk0, (by omega), hkf2⟩
   · have hc1 := hc1r
     refine wp_exit ?_
     refine hK3 _ _ ?_
     refine wp_seq_k (fun K6 hK6 => ?_)
     refine wp_seq_k (fun K7 hK7 => ?_)
     replace hM := hM.drew; replace hk0 := hk0.drew
     obtain ⟨Cq2, hCq2i, hCq2e⟩ := qcls fun w' => MemOk [⟨B1, 39, [iV ti, iV tg]⟩] w' ∧ Keep Nn w w' ∧ True
     refine sxdraw (C := Cq2) (.leaf [(0, true), (1, true), (2, true), (3, true), (4, true), (5, true), (6, true), (7, true), (8, true), (9, true), (10, true), (11, true)]) (by kernel_rfl) (by kernel_rfl) (by as_aux_lemma => kernel_rfl) rfl (by as_aux_lemma => kernel_rfl) (by kernel_rfl) (hCq2i _ ⟨hM.sub (.cons_cons _ .slnil), hk0, trivial⟩) ?_
     refine sxleaf ?_
     have hC := (hCq2i _ ⟨hM.sub (.cons_cons _ .slnil), hk0, trivial⟩)
     refine qd hf hC (fun w' h => (hCq2e w' h).1) [0, 3, 5] [{}, {}, {}, {}, {}] (nw := [(25, eB (decide ((kk : Int) < (l.length : Int))))]) An ?_
     clear hf; intro a hf
     have hf := hf.setb 25 hg1r
     refine qd hf hC (fun w' h => (hCq2e w' h).1) [0, 3, 5] [{}, {}, { sp := true }, { os := [.ex (iV (l.getD kk.toNat ⟨0, 0⟩).i), .ex (iV (l.getD kk.toNat ⟨0, 0⟩).g)] }, { os := [.ld 0 0, .ld 0 1] }, { sp := true, hint := some (bV ((((l.getD kk.toNat ⟨0, 0⟩).i : Int) == ti) && (((l.getD kk.toNat ⟨0, 0⟩).g : Int) == tg))) }, {}] (nw := [(32, eB ((((l.getD kk.toNat ⟨0, 0⟩).i : Int) == ti) && (((l.getD kk.toNat ⟨0, 0⟩).g : Int) == tg)))]) (ob := [true = true, true = true, true = true, (0 : Int) ≤ kk ∧ kk < (l.length : Int), (av : Option Addr).isSome = true, true = true, (∀ w', Cq2 w' → w'.cell? (((sa av : Addr).add (kk.toNat * 2)).add 0) = some (iV (l.getD kk.toNat ⟨0, 0⟩).i)), (∀ w', Cq2 w' → w'.cell? (((sa av : Addr).add (kk.toNat * 2)).add 1) = some (iV (l.getD kk.toNat ⟨0, 0⟩).g)), true = true, Ad B1 0, Ad B1 1, true = true, (bV ((((l.getD kk.toNat ⟨0, 0⟩).i : Int) == ti) && ((((l.getD kk.toNat ⟨0, 0⟩).g : Int) == tg) && true)) : Value) = (bV ((((l.getD kk.toNat ⟨0, 0⟩).i : Int) == ti) && (((l.getD kk.toNat ⟨0, 0⟩).g : Int) == tg)) : Value)]) (Ac rfl (Ac rfl (Ac rfl (Ac (by first | omega | (simp; done)) (Ac ((hav.keepNn hk0).some_ (by first | omega | (simp; done))) (Ac rfl (Ac (fun w' hc => by obtain ⟨hM, hk0, hO⟩ := hCq2e w' hc; exact ((hav.keepNn hk0).get (fun _ => rfl) (by first | omega | (simp; done)) rfl)) (Ac (fun w' hc => by obtain ⟨hM, hk0, hO⟩ := hCq2e w' hc; exact ((hav.keepNn hk0).get (fun _ => rfl) (by first | omega | (simp; done)) rfl)) (Ac rfl (Ac (ad _ _) (Ac (ad _ _) (Ac rfl (Ao (by simp)))))))))))))) ?_
     clear hf; intro a hf
     clear hC
     show K7 _ _
     refine hK7 _ _ ?_
     refine qc hf (b := ((((l.getD kk.toNat ⟨0, 0⟩).i : Int) == ti) && (((l.getD kk.toNat ⟨0, 0⟩).g : Int) == tg))) (fun hc2r => ?_) (fun hc2r => ?_)
     · have hc2 := hc2r
       try simp only [Bool.or_eq_true, Bool.and_eq_true, Bool.not_eq_true', Bool.not_eq_false', Bool.or_eq_false_iff, Bool.and_eq_false_iff, decide_eq_true_eq, decide_eq_false_iff_not, beq_iff_eq, bne_iff_ne, beq_eq_false_iff_ne, bne_eq_false_iff_eq, Bool.and_true, Bool.true_and, ne_eq] at hc2
       refine wp_seq_k (fun K8 hK8 => ?_)
       refine wp_region_lit ?_
       refine q0 hf hM [] [{}, {}] (nw := [(4, eS av l.length c)]) An ?_
       clear hf; intro a hf
       refine wpList_nil ?_
       refine hK8 _ _ ?_
       refine wp_ret ?_
       refine qr (fn := Tryd.f73) hf hM [] (l := [.slice av l.length c]) (ob := []) An ?_
       show ∃ a' c', (.slice av l.length c : Value) = .slice a' (putS ltH l (⟨ti, tg⟩ : H2)).length c' ∧ Keep Nn w w3.drew ∧ World.ownsRow w3.drew w.heap.size 39 2 (.slice a' (putS ltH l (⟨ti, tg⟩ : H2)).length c') (putS ltH l (⟨ti, tg⟩ : H2)).length (flat fH (putS ltH l (⟨ti, tg⟩ : H2)))
       exfalso
       have hp : kk.toNat = pos ltH l (⟨ti, tg⟩ : H2) := pos_unique (d := ⟨0, 0⟩) (by omega) hkf (fun h => by first | assumption | (exfalso; omega))
       first
         | (have hm := half_out ordH hrs (by omega : kk = (pos ltH l (⟨ti, tg⟩ : H2) : Nat)) (by omega) ⟨0, 0⟩
            rw [hm] at hn0
            cases hn0)
         | (have hm := half_in ordH hrs (by omega : kk = (pos ltH l (⟨ti, tg⟩ : H2) : Nat)) (by omega) (d := ⟨0, 0⟩)
            rw [hn0] at hm
            exact of_decide_eq_false hm.symm (eqc_hT (by omega)))
     · have hc2 := hc2r
       try simp only [Bool.or_eq_true, Bool.and_eq_true, Bool.not_eq_true', Bool.not_eq_false', Bool.or_eq_false_iff, Bool.and_eq_false_iff, decide_eq_true_eq, decide_eq_false_iff_not, beq_iff_eq, bne_iff_ne, beq_eq_false_iff_ne, bne_eq_false_iff_eq, Bool.and_true, Bool.true_and, ne_eq] at hc2
       refine wp_skip ?_
       refine hK6 _ _ ?_
       refine wp_seq_k (fun K9 hK9 => ?_)
       refine wp_region_lit ?_
       refine sxbslice hf hM (t := 50) (e := 39) (len := 0) (cs := []) (ob := []) rfl rfl rfl rfl (by as_aux_lemma => kernel_rfl) An (by as_aux_lemma => kernel_rfl) ?_
       clear hf hM; intro a w4 B5 hf hM hB hk
       replace hM : MemOk [⟨B1, 39, [iV ti, iV tg]⟩, ⟨B5, 39, []⟩] w4 := hM
       have hbB5 : w.heap.size ≤ B5 := by have := hk0.size; omega
       have hk0 := hk0.trans hk.nn
       clear hk hB
       refine q0 hf hM [34, 0, 3, 5] [{}, {}, { sp := true, hint := some (.slice av (l.take kk.toNat).length c) }] (nw := [(37, eS av (l.take kk.toNat).length c)]) (ob := [0 ≤ (kk : Int) ∧ (kk : Int) ≤ ((c : Nat) : Int), (.slice av (kk : Int).toNat c : Value) = (.slice av (l.take kk.toNat).length c : Value)]) (Ac (by have := ((hav.keepNn hk0)).le; omega) (Ao (by first | rfl | (simp; done) | (simp; omega)))) ?_
       clear hf; intro a hf
       have hO : OwnOk w.heap.size [⟨B1, 39, [iV ti, iV tg]⟩, ⟨B5, 39, []⟩] [] w4 := OwnOk.nil hM
       replace hO := OwnOk.took (M1 := [⟨B1, 39, [iV ti, iV tg]⟩]) (M2 := []) (sz := 2) hO hM (n := 0) (c := 0) (by have := hk0.size; omega) (by decide) (by decide) rfl
       replace hM : MemOk [⟨B1, 39, [iV ti, iV tg]⟩] w4 := hM.sub (.cons_cons _ (.cons _ .slnil))
       replace hO : OwnOk w.heap.size [⟨B1, 39, [iV ti, iV tg]⟩] [oS 39 2 (.slice (some ⟨B5, 0, none⟩) 0 0) 0 (flat fH ([] : List H2))] w4 := hO
       replace hO : OwnOk w.heap.size [⟨B1, 39, [iV ti, iV tg]⟩] [oS 39 2 (.slice (some ⟨B5, 0, none⟩) 0 0) 0 (flat fH ([] : List H2))] w4 := OwnOk.front (l1 := []) (l2 := []) hO
       refine sxappend hf hM (e := 39) (sz := 2) (by_ := 16) (k := 0) (v := .slice (some ⟨B5, 0, none⟩) 0 0) (xs := flat fH ([] : List H2)) hO rfl rfl rfl rfl (av := av) (m := (l.take kk.toNat).length) (c := c) rfl rfl Tryd.underlying50 (by kernel_rfl) rfl (news := flat fH (l.take kk.toNat)) (Arr.takef (m := kk.toNat) (l := l) (hav.keepNn hk0) (fun _ => rfl) (by first | rfl | (simp; done) | omega) (by omega)) (flat_one1 fH_one) (by simp only [maxLen]; constructor <;> (first | omega | (simp; omega))) (by have := hk0.size; omega) ?_
       clear hf hM hO; intro a w5 av1 cv1 hf hM hO hk
       have en : (0 + (l.take kk.toNat).length : Nat) = (l.take kk.toNat).length := (by first | (simp; done) | (simp; omega))
       have ec : flat fH ([] : List H2) ++ flat fH (l.take kk.toNat) = flat fH (l.take kk.toNat) := (by first | rfl | exact (flat_app _ _ _).symm | simp [flat_app, flat_nil])
       rw [en] at hf hO; rw [ec] at hO; clear en ec
       replace hO : OwnOk w.heap.size [⟨B1, 39, [iV ti, iV tg]⟩] [oS 39 2 (.slice av1 (l.take kk.toNat).length cv1) (l.take kk.toNat).length (flat fH (l.take kk.toNat))] w5 := hO
       have hk0 := hk0.then hk (by intro i hi h; have := h.1; omega)
       clear hk
       refine q0 hf hM [0, 3, 5] [{}] (nw := [(6, eS av1 (l.take kk.toNat).length cv1)]) An ?_
       clear hf; intro a hf
       refine wpList_nil ?_
       refine hK9 _ _ ?_
       refine wp_seq_k (fun K10 hK10 => ?_)
       refine wp_region_lit ?_
       refine q0 hf hM [6, 0, 5] [{}, { os := [.ld 0 0, .ld 0 1] }] (nw := [(40, .val (.agg #[iV ti, iV tg])), (39, eS av1 (l.take kk.toNat).length cv1)]) (ob := [Ad B1 0, Ad B1 1]) (Ac (ad _ _) (Ao (ad _ _))) ?_
       clear hf; intro a hf
       refine sxbslice hf hM (t := 50) (e := 39) (len := 1) (cs := [iV ti, iV tg]) (ob := []) rfl rfl rfl rfl (by as_aux_lemma => kernel_rfl) An (by as_aux_lemma => kernel_rfl) ?_
       clear hf hM; intro a w6 B9 hf hM hB hk
       replace hM : MemOk [⟨B1, 39, [iV ti, iV tg]⟩, ⟨B9, 39, [iV ti, iV tg]⟩] w6 := hM
       have hbB9 : w.heap.size ≤ B9 := by have := hk0.size; omega
       have hk0 := hk0.trans hk.nn
       have hO := hO.step hM hk.nn (by intro i h; simp only [Mem.names, List.map_cons, List.map_nil, List.mem_cons, List.not_mem_nil, or_false, List.map_append, List.cons_append, List.nil_append] at h ⊢; omega)
       clear hk hB
       replace hO : OwnOk w.heap.size [⟨B1, 39, [iV ti, iV tg]⟩, ⟨B9, 39, [iV ti, iV tg]⟩] [oS 39 2 (.slice av1 (l.take kk.toNat).length cv1) (l.take kk.toNat).length (flat fH (l.take kk.toNat))] w6 := OwnOk.front (l1 := []) (l2 := []) hO
       refine sxappend hf hM (e := 39) (sz := 2) (by_ := 16) (k := (l.take kk.toNat).length) (v := .slice av1 (l.take kk.toNat).length cv1) (xs := flat fH (l.take kk.toNat)) hO rfl rfl rfl rfl (av := some ⟨B9, 0, none⟩) (m := 1) (c := 1) rfl rfl Tryd.underlying50 (by kernel_rfl) rfl (news := flat fH ([⟨ti, tg⟩] : List H2)) (Arr.of_memT (sz := 2) (f := fH) (L := ([⟨ti, tg⟩] : List H2)) (l := ([⟨ti, tg⟩] : List H2)) hM (List.Mem.tail _ (List.Mem.head _)) (fun _ => rfl) rfl rfl) (flat_one1 fH_one) (by simp only [maxLen]; constructor <;> (first | omega | (simp; omega))) (by have := hk0.size; omega) ?_
       clear hf hM hO; intro a w7 av2 cv2 hf hM hO hk
       have en : ((l.take kk.toNat).length + 1 : Nat) = ((l.take kk.toNat) ++ ([⟨ti, tg⟩] : List H2)).length := (by first | (simp; done) | (simp; omega))
       have ec : flat fH (l.take kk.toNat) ++ flat fH ([⟨ti, tg⟩] : List H2) = flat fH ((l.take kk.toNat) ++ ([⟨ti, tg⟩] : List H2)) := (by first | rfl | exact (flat_app _ _ _).symm | simp [flat_app, flat_nil])
       rw [en] at hf hO; rw [ec] at hO; clear en ec
       replace hO : OwnOk w.heap.size [⟨B1, 39, [iV ti, iV tg]⟩, ⟨B9, 39, [iV ti, iV tg]⟩] [oS 39 2 (.slice av2 (((l.take kk.toNat) ++ ([⟨ti, tg⟩] : List H2)).length) cv2) (((l.take kk.toNat) ++ ([⟨ti, tg⟩] : List H2)).length) (flat fH ((l.take kk.toNat) ++ ([⟨ti, tg⟩] : List H2)))] w7 := hO
       have hk0 := hk0.then hk (by intro i hi h; have := h.1; omega)
       clear hk
       refine q0 hf hM [0, 5] [{}] (nw := [(6, eS av2 (((l.take kk.toNat) ++ ([⟨ti, tg⟩] : List H2)).length) cv2)]) An ?_
       clear hf; intro a hf
       refine wpList_nil ?_
       refine hK10 _ _ ?_
       refine wp_seq_k (fun K11 hK11 => ?_)
       refine wp_region_lit ?_
       refine q0 hf hM [] [{}, {}, {}, { sp := true, hint := some (.slice (cutA av kk.toNat c 2) (l.drop kk.toNat).length (c - kk.toNat)) }] (nw := [(46, eS (cutA av kk.toNat c 2) (l.drop kk.toNat).length (c - kk.toNat)), (43, eS av2 (((l.take kk.toNat) ++ ([⟨ti, tg⟩] : List H2)).length) cv2)]) (ob := [0 ≤ (kk : Int) ∧ (kk : Int) ≤ ((l.length : Nat) : Int), (.slice (cutA av (kk : Int).toNat c 2) (l.length - (kk : Int).toNat) (c - (kk : Int).toNat) : Value) = (.slice (cutA av kk.toNat c 2) (l.drop kk.toNat).length (c - kk.toNat) : Value)]) (Ac (by have := ((hav.keepNn hk0)).le; omega) (Ao (by first | rfl | (simp; done) | (simp; omega)))) ?_
       clear hf; intro a hf
       replace hO : OwnOk w.heap.size [⟨B1, 39, [iV ti, iV tg]⟩, ⟨B9, 39, [iV ti, iV tg]⟩] [oS 39 2 (.slice av2 (((l.take kk.toNat) ++ ([⟨ti, tg⟩] : List H2)).length) cv2) (((l.take kk.toNat) ++ ([⟨ti, tg⟩] : List H2)).length) (flat fH ((l.take kk.toNat) ++ ([⟨ti, tg⟩] : List H2)))] w7 := OwnOk.front (l1 := []) (l2 := []) hO
       refine sxappend hf hM (e := 39) (sz := 2) (by_ := 16) (k := ((l.take kk.toNat) ++ ([⟨ti, tg⟩] : List H2)).length) (v := .slice av2 (((l.take kk.toNat) ++ ([⟨ti, tg⟩] : List H2)).length) cv2) (xs := flat fH ((l.take kk.toNat) ++ ([⟨ti, tg⟩] : List H2))) hO rfl rfl rfl rfl (av := cutA av kk.toNat c 2) (m := (l.drop kk.toNat).length) (c := (c - kk.toNat)) rfl rfl Tryd.underlying50 (by kernel_rfl) rfl (news := flat fH (l.drop kk.toNat)) (Arr.dropf (m := kk.toNat) (l := l) (hav.keepNn hk0) (fun _ => rfl) (by first | rfl | (simp; done) | omega) (by omega)) (flat_one1 fH_one) (by simp only [maxLen]; constructor <;> (first | omega | (simp; omega))) (by have := hk0.size; omega) ?_
       clear hf hM hO; intro a w8 av3 cv3 hf hM hO hk
       have en : (((l.take kk.toNat) ++ ([⟨ti, tg⟩] : List H2)).length + (l.drop kk.toNat).length : Nat) = (((l.take kk.toNat) ++ ([⟨ti, tg⟩] : List H2)) ++ (l.drop kk.toNat)).length := (by first | (simp; done) | (simp; omega))
       have ec : flat fH ((l.take kk.toNat) ++ ([⟨ti, tg⟩] : List H2)) ++ flat fH (l.drop kk.toNat) = flat fH (((l.take kk.toNat) ++ ([⟨ti, tg⟩] : List H2)) ++ (l.drop kk.toNat)) := (by first | rfl | exact (flat_app _ _ _).symm | simp [flat_app, flat_nil])
       rw [en] at hf hO; rw [ec] at hO; clear en ec
       replace hO : OwnOk w.heap.size [⟨B1, 39, [iV ti, iV tg]⟩, ⟨B9, 39, [iV ti, iV tg]⟩] [oS 39 2 (.slice av3 ((((l.take kk.toNat) ++ ([⟨ti, tg⟩] : List H2)) ++ (l.drop kk.toNat)).length) cv3) ((((l.take kk.toNat) ++ ([⟨ti, tg⟩] : List H2)) ++ (l.drop kk.toNat)).length) (flat fH (((l.take kk.toNat) ++ ([⟨ti, tg⟩] : List H2)) ++ (l.drop kk.toNat)))] w8 := hO
       have hk0 := hk0.then hk (by intro i hi h; have := h.1; omega)
       clear hk
       refine q0 hf hM [] [{}] (nw := [(4, eS av3 ((((l.take kk.toNat) ++ ([⟨ti, tg⟩] : List H2)) ++ (l.drop kk.toNat)).length) cv3)]) An ?_
       clear hf; intro a hf
       refine wpList_nil ?_
       refine hK11 _ _ ?_
       refine wp_ret ?_
       refine qr (fn := Tryd.f73) hf hM [] (l := [.slice av3 ((((l.take kk.toNat) ++ ([⟨ti, tg⟩] : List H2)) ++ (l.drop kk.toNat)).length) cv3]) (ob := []) An ?_
       show ∃ a' c', (.slice av3 ((((l.take kk.toNat) ++ ([⟨ti, tg⟩] : List H2)) ++ (l.drop kk.toNat)).length) cv3 : Value) = .slice a' (putS ltH l (⟨ti, tg⟩ : H2)).length c' ∧ Keep Nn w w8 ∧ World.ownsRow w8 w.heap.size 39 2 (.slice a' (putS ltH l (⟨ti, tg⟩ : H2)).length c') (putS ltH l (⟨ti, tg⟩ : H2)).length (flat fH (putS ltH l (⟨ti, tg⟩ : H2)))
       have hp : kk.toNat = pos ltH l (⟨ti, tg⟩ : H2) := pos_unique (d := ⟨0, 0⟩) (by omega) hkf (fun h => by first | assumption | (exfalso; omega))
       rw [← putS_cut hp hn0] at hO
       exact ⟨_, _, by rw [putS_cut hp hn0], hk0, hO.own _ (List.Mem.head _)⟩
 · have hg1 := (nU hg1r)
   have hf := (hf.setb 11 hg1r).setb 10 hg1r
   refine qd hf hC (fun w' h => (hCq1e w' h).1) [11, 10, 9, 8, 7, 0, 3, 5] [{ g := .off }, { g := .off }, { g := .off }, { g := .off }, { g := .off }] (nw := [(16, .val (undef)), (15, .val (undef)), (14, .val (undef)), (13, .val (undef)), (12, .val (undef))]) (ob := [false = !true, false = !true, false = !true, false = !true, false = !true]) (Ac rfl (Ac rfl (Ac rfl (Ac rfl (Ao rfl))))) ?_
   clear hf; intro a hf
   refine scstep rfl ?_
   refine q0 hf hM [16, 15, 14, 13, 12, 11, 10, 9, 8, 7, 0, 3, 5] [{ g := .off }] (nw := [(17, .val (undef))]) (ob := [false = !true]) (Ao rfl) ?_
   clear hf; intro a hf
   have hC := (hCq1i _ ⟨hM.sub (.cons_cons _ .slnil), hk0, trivial⟩)
   refine scdone hC ?_
   refine qd hf hC (fun w' h => (hCq1e w' h).1) [17, 16, 15, 14, 13, 12, 11, 10, 9, 8, 7, 0, 3, 5] [{}] (nw := [(18, eB false)]) An ?_
   clear hf; intro a hf
   clear hC
   show K5 _ _
   refine hK5 _ _ ?_
   refine sxcond hf (b := false) (by kernel_rfl) (fun h => by cases h) (fun _ => ?_)
   refine wp_exit ?_
   refine hK3 _ _ ?_
   refine wp_seq_k (fun K12 hK12 => ?_)
   refine wp_seq_k (fun K13 hK13 => ?_)
   replace hM := hM.drew; replace hk0 := hk0.drew
   obtain ⟨Cq3, hCq3i, hCq3e⟩ := qcls fun w' => MemOk [⟨B1, 39, [iV ti, iV tg]⟩] w' ∧ Keep Nn w w' ∧ True
   refine sxdraw (C := Cq3) (.leaf [(0, true), (1, true), (2, true), (3, true), (4, true), (5, true), (6, true), (7, true), (8, true), (9, true), (10, true), (11, true)]) (by kernel_rfl) (by kernel_rfl) (by as_aux_lemma => kernel_rfl) rfl (by as_aux_lemma => kernel_rfl) (by kernel_rfl) (hCq3i _ ⟨hM.sub (.cons_cons _ .slnil), hk0, trivial⟩) ?_
   refine sxleaf ?_
   have hC := (hCq3i _ ⟨hM.sub (.cons_cons _ .slnil), hk0, trivial⟩)
   refine qd hf hC (fun w' h => (hCq3e w' h).1) [0, 3, 5] [{}, {}, {}, {}, {}] (nw := [(25, eB (decide ((kk : Int) < (l.length : Int))))]) An ?_
   clear hf; intro a hf
   have hf := hf.setb 25 hg1r
   refine qd hf hC (fun w' h => (hCq3e w' h).1) [0, 3, 5] [{ g := .off }, { g := .off }, { g := .off }, { g := .off }, { g := .off }, { g := .off }, {}] (nw := [(32, eB false)]) (ob := [false = !true, false = !true, false = !true, false = !true, false = !true, false = !true]) (Ac rfl (Ac rfl (Ac rfl (Ac rfl (Ac rfl (Ao rfl)))))) ?_
   clear hf; intro a hf
   clear hC
   show K13 _ _
   refine hK13 _ _ ?_
   refine sxcond hf (b := false) (by kernel_rfl) (fun h => by cases h) (fun _ => ?_)
   refine wp_skip ?_
   refine hK12 _ _ ?_
   refine wp_seq_k (fun K14 hK14 => ?_)
   refine wp_region_lit ?_
   refine sxbslice hf hM (t := 50) (e := 39) (len := 0) (cs := []) (ob := []) rfl rfl rfl rfl (by as_aux_lemma => kernel_rfl) An (by as_aux_lemma => kernel_rfl) ?_
   clear hf hM; intro a w9 B13 hf hM hB hk
   replace hM : MemOk [⟨B1, 39, [iV ti, iV tg]⟩, ⟨B13, 39, []⟩] w9 := hM
   have hbB13 : w.heap.size ≤ B13 := by have := hk0.size; omega
   have hk0 := hk0.trans hk.nn
   clear hk hB
   refine q0 hf hM [34, 0, 3, 5] [{}, {}, { sp := true, hint := some (.slice av (l.take kk.toNat).length c) }] (nw := [(37, eS av (l.take kk.toNat).length c)]) (ob := [0 ≤ (kk : Int) ∧ (kk : Int) ≤ ((c : Nat) : Int), (.slice av (kk : Int).toNat c : Value) = (.slice av (l.take kk.toNat).length c : Value)]) (Ac (by have := ((hav.keepNn hk0)).le; omega) (Ao (by first | rfl | (simp; done) | (simp; omega)))) ?_
   clear hf; intro a hf
   have hO : OwnOk w.heap.size [⟨B1, 39, [iV ti, iV tg]⟩, ⟨B13, 39, []⟩] [] w9 := OwnOk.nil hM
   replace hO := OwnOk.took (M1 := [⟨B1, 39, [iV ti, iV tg]⟩]) (M2 := []) (sz := 2) hO hM (n := 0) (c := 0) (by have := hk0.size; omega) (by decide) (by decide) rfl
   replace hM : MemOk [⟨B1, 39, [iV ti, iV tg]⟩] w9 := hM.sub (.cons_cons _ (.cons _ .slnil))
   replace hO : OwnOk w.heap.size [⟨B1, 39, [iV ti, iV tg]⟩] [oS 39 2 (.slice (some ⟨B13, 0, none⟩) 0 0) 0 (flat fH ([] : List H2))] w9 := hO
   replace hO : OwnOk w.heap.size [⟨B1, 39, [iV ti, iV tg]⟩] [oS 39 2 (.slice (some ⟨B13, 0, none⟩) 0 0) 0 (flat fH ([] : List H2))] w9 := OwnOk.front (l1 := []) (l2 := []) hO
   refine sxappend hf hM (e := 39) (sz := 2) (by_ := 16) (k := 0) (v := .slice (some ⟨B13, 0, none⟩) 0 0) (xs := flat fH ([] : List H2)) hO rfl rfl rfl rfl (av := av) (m := (l.take kk.toNat).length) (c := c) rfl rfl Tryd.underlying50 (by kernel_rfl) rfl (news := flat fH (l.take kk.toNat)) (Arr.takef (m := kk.toNat) (l := l) (hav.keepNn hk0) (fun _ => rfl) (by first | rfl | (simp; done) | omega) (by omega)) (flat_one1 fH_one) (by simp only [maxLen]; constructor <;> (first | omega | (simp; omega))) (by have := hk0.size; omega) ?_
   clear hf hM hO; intro a w10 av4 cv4 hf hM hO hk
   have en : (0 + (l.take kk.toNat).length : Nat) = (l.take kk.toNat).length := (by first | (simp; done) | (simp; omega))
   have ec : flat fH ([] : List H2) ++ flat fH (l.take kk.toNat) = flat fH (l.take kk.toNat) := (by first | rfl | exact (flat_app _ _ _).symm | simp [flat_app, flat_nil])
   rw [en] at hf hO; rw [ec] at hO; clear en ec
   replace hO : OwnOk w.heap.size [⟨B1, 39, [iV ti, iV tg]⟩] [oS 39 2 (.slice av4 (l.take kk.toNat).length cv4) (l.take kk.toNat).length (flat fH (l.take kk.toNat))] w10 := hO
   have hk0 := hk0.then hk (by intro i hi h; have := h.1; omega)
   clear hk
   refine q0 hf hM [0, 3, 5] [{}] (nw := [(6, eS av4 (l.take kk.toNat).length cv4)]) An ?_
   clear hf; intro a hf
   refine wpList_nil ?_
   refine hK14 _ _ ?_
   refine wp_seq_k (fun K15 hK15 => ?_)
   refine wp_region_lit ?_
   refine q0 hf hM [6, 0, 5] [{}, { os := [.ld 0 0, .ld 0 1] }] (nw := [(40, .val (.agg #[iV ti, iV tg])), (39, eS av4 (l.take kk.toNat).length cv4)]) (ob := [Ad B1 0, Ad B1 1]) (Ac (ad _ _) (Ao (ad _ _))) ?_
   clear hf; intro a hf
   refine sxbslice hf hM (t := 50) (e := 39) (len := 1) (cs := [iV ti, iV tg]) (ob := []) rfl rfl rfl rfl (by as_aux_lemma => kernel_rfl) An (by as_aux_lemma => kernel_rfl) ?_
   clear hf hM; intro a w11 B17 hf hM hB hk
   replace hM : MemOk [⟨B1, 39, [iV ti, iV tg]⟩, ⟨B17, 39, [iV ti, iV tg]⟩] w11 := hM
   have hbB17 : w.heap.size ≤ B17 := by have := hk0.size; omega
   have hk0 := hk0.trans hk.nn
   have hO := hO.step hM hk.nn (by intro i h; simp only [Mem.names, List.map_cons, List.map_nil, List.mem_cons, List.not_mem_nil, or_false, List.map_append, List.cons_append, List.nil_append] at h ⊢; omega)
   clear hk hB
   replace hO : OwnOk w.heap.size [⟨B1, 39, [iV ti, iV tg]⟩, ⟨B17, 39, [iV ti, iV tg]⟩] [oS 39 2 (.slice av4 (l.take kk.toNat).length cv4) (l.take kk.toNat).length (flat fH (l.take kk.toNat))] w11 := OwnOk.front (l1 := []) (l2 := []) hO
   refine sxappend hf hM (e := 39) (sz := 2) (by_ := 16) (k := (l.take kk.toNat).length) (v := .slice av4 (l.take kk.toNat).length cv4) (xs := flat fH (l.take kk.toNat)) hO rfl rfl rfl rfl (av := some ⟨B17, 0, none⟩) (m := 1) (c := 1) rfl rfl Tryd.underlying50 (by kernel_rfl) rfl (news := flat fH ([⟨ti, tg⟩] : List H2)) (Arr.of_memT (sz := 2) (f := fH) (L := ([⟨ti, tg⟩] : List H2)) (l := ([⟨ti, tg⟩] : List H2)) hM (List.Mem.tail _ (List.Mem.head _)) (fun _ => rfl) rfl rfl) (flat_one1 fH_one) (by simp only [maxLen]; constructor <;> (first | omega | (simp; omega))) (by have := hk0.size; omega) ?_
   clear hf hM hO; intro a w12 av5 cv5 hf hM hO hk
   have en : ((l.take kk.toNat).length + 1 : Nat) = ((l.take kk.toNat) ++ ([⟨ti, tg⟩] : List H2)).length := (by first | (simp; done) | (simp; omega))
   have ec : flat fH (l.take kk.toNat) ++ flat fH ([⟨ti, tg⟩] : List H2) = flat fH ((l.take kk.toNat) ++ ([⟨ti, tg⟩] : List H2)) := (by first | rfl | exact (flat_app _ _ _).symm | simp [flat_app, flat_nil])
   rw [en] at hf hO; rw [ec] at hO; clear en ec
   replace hO : OwnOk w.heap.size [⟨B1, 39, [iV ti, iV tg]⟩, ⟨B17, 39, [iV ti, iV tg]⟩] [oS 39 2 (.slice av5 (((l.take kk.toNat) ++ ([⟨ti, tg⟩] : List H2)).length) cv5) (((l.take kk.toNat) ++ ([⟨ti, tg⟩] : List H2)).length) (flat fH ((l.take kk.toNat) ++ ([⟨ti, tg⟩] : List H2)))] w12 := hO
   have hk0 := hk0.then hk (by intro i hi h; have := h.1; omega)
   clear hk
   refine q0 hf hM [0, 5] [{}] (nw := [(6, eS av5 (((l.take kk.toNat) ++ ([⟨ti, tg⟩] : List H2)).length) cv5)]) An ?_
   clear hf; intro a hf
   refine wpList_nil ?_
   refine hK15 _ _ ?_
   refine wp_seq_k (fun K16 hK16 => ?_)
   refine wp_region_lit ?_
   refine q0 hf hM [] [{}, {}, {}, { sp := true, hint := some (.slice (cutA av kk.toNat c 2) (l.drop kk.toNat).length (c - kk.toNat)) }] (nw := [(46, eS (cutA av kk.toNat c 2) (l.drop kk.toNat).length (c - kk.toNat)), (43, eS av5 (((l.take kk.toNat) ++ ([⟨ti, tg⟩] : List H2)).length) cv5)]) (ob := [0 ≤ (kk : Int) ∧ (kk : Int) ≤ ((l.length : Nat) : Int), (.slice (cutA av (kk : Int).toNat c 2) (l.length - (kk : Int).toNat) (c - (kk : Int).toNat) : Value) = (.slice (cutA av kk.toNat c 2) (l.drop kk.toNat).length (c - kk.toNat) : Value)]) (Ac (by have := ((hav.keepNn hk0)).le; omega) (Ao (by first | rfl | (simp; done) | (simp; omega)))) ?_
   clear hf; intro a hf
   replace hO : OwnOk w.heap.size [⟨B1, 39, [iV ti, iV tg]⟩, ⟨B17, 39, [iV ti, iV tg]⟩] [oS 39 2 (.slice av5 (((l.take kk.toNat) ++ ([⟨ti, tg⟩] : List H2)).length) cv5) (((l.take kk.toNat) ++ ([⟨ti, tg⟩] : List H2)).length) (flat fH ((l.take kk.toNat) ++ ([⟨ti, tg⟩] : List H2)))] w12 := OwnOk.front (l1 := []) (l2 := []) hO
   refine sxappend hf hM (e := 39) (sz := 2) (by_ := 16) (k := ((l.take kk.toNat) ++ ([⟨ti, tg⟩] : List H2)).length) (v := .slice av5 (((l.take kk.toNat) ++ ([⟨ti, tg⟩] : List H2)).length) cv5) (xs := flat fH ((l.take kk.toNat) ++ ([⟨ti, tg⟩] : List H2))) hO rfl rfl rfl rfl (av := cutA av kk.toNat c 2) (m := (l.drop kk.toNat).length) (c := (c - kk.toNat)) rfl rfl Tryd.underlying50 (by kernel_rfl) rfl (news := flat fH (l.drop kk.toNat)) (Arr.dropf (m := kk.toNat) (l := l) (hav.keepNn hk0) (fun _ => rfl) (by first | rfl | (simp; done) | omega) (by omega)) (flat_one1 fH_one) (by simp only [maxLen]; constructor <;> (first | omega | (simp; omega))) (by have := hk0.size; omega) ?_
   clear hf hM hO; intro a w13 av6 cv6 hf hM hO hk
   have en : (((l.take kk.toNat) ++ ([⟨ti, tg⟩] : List H2)).length + (l.drop kk.toNat).length : Nat) = (((l.take kk.toNat) ++ ([⟨ti, tg⟩] : List H2)) ++ (l.drop kk.toNat)).length := (by first | (simp; done) | (simp; omega))
   have ec : flat fH ((l.take kk.toNat) ++ ([⟨ti, tg⟩] : List H2)) ++ flat fH (l.drop kk.toNat) = flat fH (((l.take kk.toNat) ++ ([⟨ti, tg⟩] : List H2)) ++ (l.drop kk.toNat)) := (by first | rfl | exact (flat_app _ _ _).symm | simp [flat_app, flat_nil])
   rw [en] at hf hO; rw [ec] at hO; clear en ec
   replace hO : OwnOk w.heap.size [⟨B1, 39, [iV ti, iV tg]⟩, ⟨B17, 39, [iV ti, iV tg]⟩] [oS 39 2 (.slice av6 ((((l.take kk.toNat) ++ ([⟨ti, tg⟩] : List H2)) ++ (l.drop kk.toNat)).length) cv6) ((((l.take kk.toNat) ++ ([⟨ti, tg⟩] : List H2)) ++ (l.drop kk.toNat)).length) (flat fH (((l.take kk.toNat) ++ ([⟨ti, tg⟩] : List H2)) ++ (l.drop kk.toNat)))] w13 := hO
   have hk0 := hk0.then hk (by intro i hi h; have := h.1; omega)
   clear hk
   refine q0 hf hM [] [{}] (nw := [(4, eS av6 ((((l.take kk.toNat) ++ ([⟨ti, tg⟩] : List H2)) ++ (l.drop kk.toNat)).length) cv6)]) An ?_
   clear hf; intro a hf
   refine wpList_nil ?_
   refine hK16 _ _ ?_
   refine wp_ret ?_
   refine qr (fn := Tryd.f73) hf hM [] (l := [.slice av6 ((((l.take kk.toNat) ++ ([⟨ti, tg⟩] : List H2)) ++ (l.drop kk.toNat)).length) cv6]) (ob := []) An ?_
   show ∃ a' c', (.slice av6 ((((l.take kk.toNat) ++ ([⟨ti, tg⟩] : List H2)) ++ (l.drop kk.toNat)).length) cv6 : Value) = .slice a' (putS ltH l (⟨ti, tg⟩ : H2)).length c' ∧ Keep Nn w w13 ∧ World.ownsRow w13 w.heap.size 39 2 (.slice a' (putS ltH l (⟨ti, tg⟩ : H2)).length c') (putS ltH l (⟨ti, tg⟩ : H2)).length (flat fH (putS ltH l (⟨ti, tg⟩ : H2)))
   have hp : kk.toNat = pos ltH l (⟨ti, tg⟩ : H2) := pos_unique (d := ⟨0, 0⟩) (by omega) hkf (fun h => by first | assumption | (exfalso; omega))
   rw [← putS_cut hp hn0] at hO
   exact ⟨_, _, by rw [putS_cut hp hn0], hk0, hO.own _ (List.Mem.head _)⟩

set_option maxRecDepth 10000 in
set_option maxHeartbeats 1600000 in
theorem rHandles (av : Option Addr) (l : List H2) (c : Nat) (w : World) (hav : Arr w 2 av l.length c (flat fH l)) (hbav : l.length ≤ 1000000) :
    Calls Tryd.prog 54 #[.slice av l.length c] w (Ret fun v w' => ∃ a' c', v = .slice a' (ordS ltH l).length c' ∧ Keep Nn w w' ∧ World.ownsRow w' w.heap.size 39 2 (.slice a' (ordS ltH l).length c') (ordS ltH l).length (flat fH (ordS ltH l))) := by
 refine sxenter (n := 18) (args := [.slice av l.length c]) Tryd.func54 rfl rfl rfl fun a hf => ?_
 replace hf : Fr 18 [(0, eS av l.length c)] a := hf
 have hM : MemOk [] w := MemOk.nil w
 have hk0 : Keep Nn w w := Keep.refl _ _
 refine wp_seq_k (fun K1 hK1 => ?_)
 refine wp_region_lit ?_
 refine q0 hf hM [0] [{}] (nw := []) An ?_
 clear hf; intro a hf
 refine wpList_nil ?_
 refine hK1 _ _ ?_
 refine wp_seq_k (fun K2 hK2 => ?_)
 refine wp_region_lit ?_
 refine sxbslice hf hM (t := 50) (e := 39) (len := 0) (cs := []) (ob := []) rfl rfl rfl rfl (by as_aux_lemma => kernel_rfl) An (by as_aux_lemma => kernel_rfl) ?_
 clear hf hM; intro a w1 B2 hf hM hB hk
 replace hM : MemOk [⟨B2, 39, []⟩] w1 := hM
 have hbB2 : w.heap.size ≤ B2 := by have := hk0.size; omega
 have hk0 := hk0.trans hk.nn
 clear hk hB
 refine q0 hf hM [0] [{}] (nw := [(3, eS (some ⟨B2, 0, none⟩) 0 0)]) An ?_
 clear hf; intro a hf
 refine wpList_nil ?_
 refine hK2 _ _ ?_
 refine wp_seq_k (fun K3 hK3 => ?_)
 refine wp_seq_k (fun K4 hK4 => ?_)
 refine wp_region_lit ?_
 refine q0 hf hM [3] [{}, {}, {}] (nw := [(9, eI 0), (8, eI (l.length : Int)), (7, eS av l.length c)]) An ?_
 clear hf; intro a hf
 refine wpList_nil ?_
 refine hK4 _ _ ?_
 refine wp_block ?_
 have hO : OwnOk w.heap.size [⟨B2, 39, []⟩] [] w1 := OwnOk.nil hM
 replace hO := OwnOk.took (M1 := []) (M2 := []) (sz := 2) hO hM (n := 0) (c := 0) (by have := hk0.size; omega) (by decide) (by decide) rfl
 replace hM : MemOk [] w1 := hM.sub (.cons _ .slnil)
 replace hO : OwnOk w.heap.size [] [oS 39 2 (.slice (some ⟨B2, 0, none⟩) 0 0) 0 (flat fH ([] : List H2))] w1 := hO
 have hf := (hf.prune [3, 7, 8, 9]).to (env' := [(3, eS (some ⟨B2, 0, none⟩) 0 0), (7, eS av l.length c), (8, eI (l.length : Int)), (9, eI 0)]) (by kernel_rfl)
 replace hO : OwnOk w.heap.size [] [oS 39 2 (.slice (some ⟨B2, 0, none⟩) ((ordS ltH (l.take (0 : Int).toNat)).length) 0) ((ordS ltH (l.take (0 : Int).toNat)).length) (flat fH (ordS ltH (l.take (0 : Int).toNat)))] w1 := by
  first | exact hO | (have e : ([oS 39 2 (.slice (some ⟨B2, 0, none⟩) 0 0) 0 (flat fH ([] : List H2))] : List Own) = [oS 39 2 (.slice (some ⟨B2, 0, none⟩) ((ordS ltH (l.take (0 : Int).toNat)).length) 0) ((ordS ltH (l.take (0 : Int).toNat)).length) (flat fH (ordS ltH (l.take (0 : Int).toNat)))] := by rfl) <;> (rw [← e]; exact hO)
 refine sxloop (fun zm a w1 => ∃ (i : Int) (a3 : Option Addr) (c3 : Nat), zm = ((l.length : Int) - i).toNat ∧ Fr 18 [(3, eS a3 ((ordS ltH (l.take i.toNat)).length) c3), (7, eS av l.length c), (8, eI (l.length : Int)), (9, eI i)] a ∧ MemOk [] w1 ∧ Keep Nn w w1 ∧ OwnOk w.heap.size [] [oS 39 2 (.slice a3 ((ordS ltH (l.take i.toNat)).length) c3) ((ordS ltH (l.take i.toNat)).length) (flat fH (ordS ltH (l.take i.toNat)))] w1 ∧ (0 ≤ i ∧ i ≤ (l.length : Int))) _ ⟨0, some ⟨B2, 0, none⟩, 0, rfl, hf.conv (Ac rfl (Ac rfl (Ac rfl (Ao rfl)))), hM, hk0, hO, (by omega)⟩ ?_
 clear hf hM hk0 hO
 rintro _ a w2 ⟨i, a3, c3, rfl, hf, hM, hk0, hO, hi⟩ L1 hL1
 have hol := ordS_takeLen (lt := ltH) l i.toNat
 refine wp_seq_k (fun K5 hK5 => ?_)
 refine wp_region_lit ?_
 refine q0 hf hM [3, 7, 8, 9] [{}] (nw := [(10, eB (decide ((i : Int) < (l.length : Int))))]) An ?_
 clear hf; intro a hf
 refine wpList_nil ?_
 refine hK5 _ _ ?_
 refine wp_seq_k (fun K6 hK6 => ?_)
 refine qc hf (b := (decide ((i : Int) < (l.length : Int)))) (fun hc1r => ?_) (fun hc1r => ?_)
 · have hc1 := (nT hc1r)
   refine wp_skip ?_
   refine hK6 _ _ ?_
   refine wp_seq_k (fun K7 hK7 => ?_)
   refine wp_block ?_
   refine wp_seq_k (fun K8 hK8 => ?_)
   refine wp_region_lit ?_
   refine q1 hf hM [3, 7, 8, 9] [{ sp := true }, { os := [.ex (iV (l.getD i.toNat ⟨0, 0⟩).i), .ex (iV (l.getD i.toNat ⟨0, 0⟩).g)] }, { os := [.nw] }, { os := [.st 0 0, .st 0 1] }] (nw := fun B6 => [(5, eP B6 0)]) (M' := fun B6 => [⟨B6, 39, [iV (l.getD i.toNat ⟨0, 0⟩).i, iV (l.getD i.toNat ⟨0, 0⟩).g]⟩]) (ob := fun B6 => [(0 : Int) ≤ i ∧ i < (l.length : Int), (av : Option Addr).isSome = true, w2.cell? (((sa av : Addr).add (i.toNat * 2)).add 0) = some (iV (l.getD i.toNat ⟨0, 0⟩).i), w2.cell? (((sa av : Addr).add (i.toNat * 2)).add 1) = some (iV (l.getD i.toNat ⟨0, 0⟩).g), Ad B6 0, Ad B6 1]) (fun B6 => (Ac (by first | omega | (simp; done)) (Ac ((hav.keepNn hk0).some_ (by first | omega | (simp; done))) (Ac ((hav.keepNn hk0).get (fun _ => rfl) (by first | omega | (simp; done)) rfl) (Ac ((hav.keepNn hk0).get (fun _ => rfl) (by first | omega | (simp; done)) rfl) (Ac (ad _ _) (Ao (ad _ _)))))))) ?_
   clear hf hM; intro a w3 B6 hf hM hB hk
   have hbB6 : w.heap.size ≤ B6 := by have := hk0.size; omega
   have hk0 := hk0.then hk (by intro i _ h; cases h)
   have hO := hO.step hM (hk.mono (by intro _ _ h; cases h)) (by intro i h; simp only [Mem.names, List.map_cons, List.map_nil, List.mem_cons, List.not_mem_nil, or_false, List.map_append, List.cons_append, List.nil_append] at h ⊢; omega)
   clear hk hB
   refine wpList_nil ?_
   refine hK8 _ _ ?_
   refine wp_region_lit ?_
   refine q0 hf hM [3, 7, 8, 9] [{}, { os := [.ld 0 0, .ld 0 1] }] (nw := [(14, .val (.agg #[iV (l.getD i.toNat ⟨0, 0⟩).i, iV (l.getD i.toNat ⟨0, 0⟩).g])), (13, eS a3 ((ordS ltH (l.take i.toNat)).length) c3)]) (ob := [Ad B6 0, Ad B6 1]) (Ac (ad _ _) (Ao (ad _ _))) ?_
   clear hf; intro a hf
   rcases Bool.eq_false_or_eq_true (inS (ordS ltH (l.take i.toNat)) (⟨(l.getD i.toNat ⟨0, 0⟩).i, (l.getD i.toNat ⟨0, 0⟩).g⟩ : H2)) with hs1r | hs1r
   · have hs1 := hs1r
     refine sxcall hf rfl rfl rfl rfl (g := 73) (vs := [.slice a3 ((ordS ltH (l.take i.toNat)).length) c3, .agg #[iV (l.getD i.toNat ⟨0, 0⟩).i, iV (l.getD i.toNat ⟨0, 0⟩).g]]) (ob := []) (by as_aux_lemma => kernel_rfl) An enters73 (rput_in a3 (ordS ltH (l.take i.toNat)) c3 (l.getD i.toNat ⟨0, 0⟩).i (l.getD i.toNat ⟨0, 0⟩).g w3 hs1r (own_arr (hO.own _ (List.Mem.head _))) (by first | omega | (simp; omega) | (simp; done) | exact Nat.le_trans (byKinds_len _ _) (by omega) | decide) (by first | assumption | exact ordS_rises ordH _ | exact ordS_rises ordI _ | (unfold Rises; decide))) ?_
     clear hf; rintro _ w4 a ⟨rfl, hk⟩ hf
     have hO := hO.keepNn hk
     have hM := hM.keepNn hk
     have hk0 := hk0.trans hk.nn
     clear hk
     refine q0 hf hM [3, 7, 8, 9] [{}] (nw := []) An ?_
     clear hf; intro a hf
     refine wpList_nil ?_
     refine hK7 _ _ ?_
     refine wp_region_lit ?_
     refine q0 hf hM [3, 7, 8] [{ hint := some (iV (i + 1)) }, {}] (nw := [(9, eI (i + 1))]) (ob := [(iV (IntKind.i64.wrap (i + 1)) : Value) = (iV (i + 1) : Value)]) (Ao (wr (by omega))) ?_
     clear hf; intro a hf
     refine wpList_nil ?_
     have hf := (hf.prune [3, 7, 8, 9]).to (env' := [(3, eS a3 ((ordS ltH (l.take i.toNat)).length) c3), (7, eS av l.length c), (8, eI (l.length : Int)), (9, eI (i + 1))]) (by kernel_rfl)
     replace hO : OwnOk w.heap.size [] [oS 39 2 (.slice a3 ((ordS ltH (l.take i.toNat)).length) c3) ((ordS ltH (l.take i.toNat)).length) (flat fH (ordS ltH (l.take i.toNat)))] w4 := hO.sub (.cons _ .slnil) (List.Sublist.refl _)
     replace hM : MemOk [] w4 := hM.sub (.cons _ .slnil)
     replace hO : OwnOk w.heap.size [] [oS 39 2 (.slice a3 ((ordS ltH (l.take (i + 1).toNat)).length) c3) ((ordS ltH (l.take (i + 1).toNat)).length) (flat fH (ordS ltH (l.take (i + 1).toNat)))] w4 := by
      first | exact hO | (have e : ([oS 39 2 (.slice a3 ((ordS ltH (l.take i.toNat)).length) c3) ((ordS ltH (l.take i.toNat)).length) (flat fH (ordS ltH (l.take i.toNat)))] : List Own) = [oS 39 2 (.slice a3 ((ordS ltH (l.take (i + 1).toNat)).length) c3) ((ordS ltH (l.take (i + 1).toNat)).length) (flat fH (ordS ltH (l.take (i + 1).toNat)))] := by first | (rw [ordS_nextIn ⟨0, 0⟩ (by omega) (by assumption)]; try rfl) | (rw [ordS_next ⟨0, 0⟩ (by omega)]; try rfl)) <;> (rw [← e]; exact hO)
     refine hL1 _ _ _ (by omega) ⟨i + 1, a3, c3, rfl, hf.conv (Ac (by first | (rw [ordS_nextIn ⟨0, 0⟩ (by omega) (by assumption)]; rfl) | (rw [ordS_next ⟨0, 0⟩ (by omega)]; rfl)) (Ac rfl (Ac rfl (Ao rfl)))), hM, hk0, hO, (by omega)⟩
   · have hs1 := hs1r
     refine sxcall hf rfl rfl rfl rfl (g := 73) (vs := [.slice a3 ((ordS ltH (l.take i.toNat)).length) c3, .agg #[iV (l.getD i.toNat ⟨0, 0⟩).i, iV (l.getD i.toNat ⟨0, 0⟩).g]]) (ob := []) (by as_aux_lemma => kernel_rfl) An enters73 (rput_out a3 (ordS ltH (l.take i.toNat)) c3 (l.getD i.toNat ⟨0, 0⟩).i (l.getD i.toNat ⟨0, 0⟩).g w3 hs1r (own_arr (hO.own _ (List.Mem.head _))) (by first | omega | (simp; omega) | (simp; done) | exact Nat.le_trans (byKinds_len _ _) (by omega) | decide) (by first | assumption | exact ordS_rises ordH _ | exact ordS_rises ordI _ | (unfold Rises; decide))) ?_
     clear hf; rintro _ w5 a ⟨a'1, c'1, rfl, hk, hx1⟩ hf
     have hO := hO.more hM hk (by have := hk0.size; omega) hx1
     replace hO : OwnOk w.heap.size [⟨B6, 39, [iV (l.getD i.toNat ⟨0, 0⟩).i, iV (l.getD i.toNat ⟨0, 0⟩).g]⟩] [oS 39 2 (.slice a'1 ((putS ltH (ordS ltH (l.take i.toNat)) (⟨(l.getD i.toNat ⟨0, 0⟩).i, (l.getD i.toNat ⟨0, 0⟩).g⟩ : H2)).length) c'1) ((putS ltH (ordS ltH (l.take i.toNat)) (⟨(l.getD i.toNat ⟨0, 0⟩).i, (l.getD i.toNat ⟨0, 0⟩).g⟩ : H2)).length) (flat fH (putS ltH (ordS ltH (l.take i.toNat)) (⟨(l.getD i.toNat ⟨0, 0⟩).i, (l.getD i.toNat ⟨0, 0⟩).g⟩ : H2))), oS 39 2 (.slice a3 ((ordS ltH (l.take i.toNat)).length) c3) ((ordS ltH (l.take i.toNat)).length) (flat fH (ordS ltH (l.take i.toNat)))] _ := hO
     have hM := hM.keepNn hk
     have hk0 := hk0.trans hk.nn
     clear hk
     refine q0 hf hM [7, 8, 9] [{}] (nw := [(3, eS a'1 ((putS ltH (ordS ltH (l.take i.toNat)) (⟨(l.getD i.toNat ⟨0, 0⟩).i, (l.getD i.toNat ⟨0, 0⟩).g⟩ : H2)).length) c'1)]) An ?_
     clear hf; intro a hf
     refine wpList_nil ?_
     refine hK7 _ _ ?_
     refine wp_region_lit ?_
     refine q0 hf hM [3, 7, 8] [{ hint := some (iV (i + 1)) }, {}] (nw := [(9, eI (i + 1))]) (ob := [(iV (IntKind.i64.wrap (i + 1)) : Value) = (iV (i + 1) : Value)]) (Ao (wr (by omega))) ?_
     clear hf; intro a hf
     refine wpList_nil ?_
     have hf := (hf.prune [3, 7, 8, 9]).to (env' := [(3, eS a'1 ((putS ltH (ordS ltH (l.take i.toNat)) (⟨(l.getD i.toNat ⟨0, 0⟩).i, (l.getD i.toNat ⟨0, 0⟩).g⟩ : H2)).length) c'1), (7, eS av l.length c), (8, eI (l.length : Int)), (9, eI (i + 1))]) (by kernel_rfl)
     replace hO : OwnOk w.heap.size [] [oS 39 2 (.slice a'1 ((putS ltH (ordS ltH (l.take i.toNat)) (⟨(l.getD i.toNat ⟨0, 0⟩).i, (l.getD i.toNat ⟨0, 0⟩).g⟩ : H2)).length) c'1) ((putS ltH (ordS ltH (l.take i.toNat)) (⟨(l.getD i.toNat ⟨0, 0⟩).i, (l.getD i.toNat ⟨0, 0⟩).g⟩ : H2)).length) (flat fH (putS ltH (ordS ltH (l.take i.toNat)) (⟨(l.getD i.toNat ⟨0, 0⟩).i, (l.getD i.toNat ⟨0, 0⟩).g⟩ : H2))), oS 39 2 (.slice a3 ((ordS ltH (l.take i.toNat)).length) c3) ((ordS ltH (l.take i.toNat)).length) (flat fH (ordS ltH (l.take i.toNat)))] w5 := hO.sub (.cons _ .slnil) (List.Sublist.refl _)
     replace hM : MemOk [] w5 := hM.sub (.cons _ .slnil)
     replace hO : OwnOk w.heap.size [] [oS 39 2 (.slice a'1 ((putS ltH (ordS ltH (l.take i.toNat)) (⟨(l.getD i.toNat ⟨0, 0⟩).i, (l.getD i.toNat ⟨0, 0⟩).g⟩ : H2)).length) c'1) ((putS ltH (ordS ltH (l.take i.toNat)) (⟨(l.getD i.toNat ⟨0, 0⟩).i, (l.getD i.toNat ⟨0, 0⟩).g⟩ : H2)).length) (flat fH (putS ltH (ordS ltH (l.take i.toNat)) (⟨(l.getD i.toNat ⟨0, 0⟩).i, (l.getD i.toNat ⟨0, 0⟩).g⟩ : H2)))] w5 := hO.sub (List.Sublist.refl _) (.cons_cons _ (.cons _ .slnil))
     replace hO : OwnOk w.heap.size [] [oS 39 2 (.slice a'1 ((ordS ltH (l.take (i + 1).toNat)).length) c'1) ((ordS ltH (l.take (i + 1).toNat)).length) (flat fH (ordS ltH (l.take (i + 1).toNat)))] w5 := by
      first | exact hO | (have e : ([oS 39 2 (.slice a'1 ((putS ltH (ordS ltH (l.take i.toNat)) (⟨(l.getD i.toNat ⟨0, 0⟩).i, (l.getD i.toNat ⟨0, 0⟩).g⟩ : H2)).length) c'1) ((putS ltH (ordS ltH (l.take i.toNat)) (⟨(l.getD i.toNat ⟨0, 0⟩).i, (l.getD i.toNat ⟨0, 0⟩).g⟩ : H2)).length) (flat fH (putS ltH (ordS ltH (l.take i.toNat)) (⟨(l.getD i.toNat ⟨0, 0⟩).i, (l.getD i.toNat ⟨0, 0⟩).g⟩ : H2)))] : List Own) = [oS 39 2 (.slice a'1 ((ordS ltH (l.take (i + 1).toNat)).length) c'1) ((ordS ltH (l.take (i + 1).toNat)).length) (flat fH (ordS ltH (l.take (i + 1).toNat)))] := by first | (rw [ordS_nextIn ⟨0, 0⟩ (by omega) (by assumption)]; try rfl) | (rw [ordS_next ⟨0, 0⟩ (by omega)]; try rfl)) <;> (rw [← e]; exact hO)
     refine hL1 _ _ _ (by omega) ⟨i + 1, a'1, c'1, rfl, hf.conv (Ac (by first | (rw [ordS_nextIn ⟨0, 0⟩ (by omega) (by assumption)]; rfl) | (rw [ordS_next ⟨0, 0⟩ (by omega)]; rfl)) (Ac rfl (Ac rfl (Ao rfl)))), hM, hk0, hO, (by omega)⟩
 · have hc1 := (nU hc1r)
   refine wp_exit ?_
   refine hK3 _ _ ?_
   refine wp_seq_k (fun K9 hK9 => ?_)
   refine wp_region_lit ?_
   refine q0 hf hM [] [{}, {}] (nw := [(2, eS a3 ((ordS ltH (l.take i.toNat)).length) c3)]) An ?_
   clear hf; intro a hf
   refine wpList_nil ?_
   refine hK9 _ _ ?_
   refine wp_ret ?_
   refine qr (fn := Tryd.f54) hf hM [] (l := [.slice a3 ((ordS ltH (l.take i.toNat)).length) c3]) (ob := []) An ?_
   show ∃ a' c', (.slice a3 ((ordS ltH (l.take i.toNat)).length) c3 : Value) = .slice a' (ordS ltH l).length c' ∧ Keep Nn w w2 ∧ World.ownsRow w2 w.heap.size 39 2 (.slice a' (ordS ltH l).length c') (ordS ltH l).length (flat fH (ordS ltH l))
   have e : l.take i.toNat = l := List.take_of_length_le (by omega)
   rw [e] at hO
   exact ⟨_, _, by rw [e], hk0, hO.own _ (List.Mem.head _)⟩

set_option maxRecDepth 10000 in
set_option maxHeartbeats 1600000 in
theorem half_any (n : Int) (w : World) (hn : -4611686018427387904 ≤ n ∧ n ≤ 4611686018427387904) :
    Calls Tryd.prog 72 #[iV n] w (Ret fun v w' => v = .int .i64 (n / 2) ∧ Keep Nn w w') := by
 refine sxenter (n := 11) (args := [iV n]) Tryd.func72 rfl rfl rfl fun a hf => ?_
 replace hf : Fr 11 [(0, eI n)] a := hf
 have hM : MemOk [] w := MemOk.nil w
 have hk0 : Keep Nn w w := Keep.refl _ _
 refine wp_seq_k (fun K1 hK1 => ?_)
 refine wp_region_lit ?_
 refine q0 hf hM [0] [{}] (nw := []) An ?_
 clear hf; intro a hf
 refine wpList_nil ?_
 refine hK1 _ _ ?_
 refine wp_seq_k (fun K2 hK2 => ?_)
 refine wp_seq_k (fun K3 hK3 => ?_)
 refine wp_region_lit ?_
 refine q0 hf hM [0] [{}, {}] (nw := [(4, eB (decide ((n : Int) < 0)))]) An ?_
 clear hf; intro a hf
 refine wpList_nil ?_
 refine hK3 _ _ ?_
 refine qc hf (b := (decide ((n : Int) < 0))) (fun hc1r => ?_) (fun hc1r => ?_)
 · have hc1 := (nT hc1r)
   refine wp_seq_k (fun K4 hK4 => ?_)
   refine wp_region_lit ?_
   refine q0 hf hM [] [{}, { hint := some (iV (1 - n)) }, { sp := true, hint := some (iV ((1 - n) / 2)) }, { hint := some (iV (0 - ((1 - n) / 2))) }, {}] (nw := [(2, eI (0 - ((1 - n) / 2)))]) (ob := [(iV (IntKind.i64.wrap (1 - n)) : Value) = (iV (1 - n) : Value), (2 : Int) ≠ 0, (iV (IntKind.i64.wrap (Int.tdiv (1 - n) 2)) : Value) = (iV ((1 - n) / 2) : Value), (iV (IntKind.i64.wrap (0 - ((1 - n) / 2))) : Value) = (iV (0 - ((1 - n) / 2)) : Value)]) (Ac (wr (by omega)) (Ac (by omega) (Ac (quo2 (by omega)) (Ao (wr (by omega)))))) ?_
   clear hf; intro a hf
   refine wpList_nil ?_
   refine hK4 _ _ ?_
   refine wp_ret ?_
   refine qr (fn := Tryd.f72) hf hM [] (l := [iV (0 - ((1 - n) / 2))]) (ob := []) An ?_
   show (iV (0 - ((1 - n) / 2)) : Value) = .int .i64 (n / 2) ∧ Keep Nn w w
   exact ⟨by first | rfl | (congr 1; omega), hk0⟩
 · have hc1 := (nU hc1r)
   refine wp_skip ?_
   refine hK2 _ _ ?_
   refine wp_seq_k (fun K5 hK5 => ?_)
   refine wp_region_lit ?_
   refine q0 hf hM [] [{}, { sp := true, hint := some (iV (n / 2)) }, {}] (nw := [(2, eI (n / 2))]) (ob := [(2 : Int) ≠ 0, (iV (IntKind.i64.wrap (Int.tdiv n 2)) : Value) = (iV (n / 2) : Value)]) (Ac (by omega) (Ao (quo2 (by omega)))) ?_
   clear hf; intro a hf
   refine wpList_nil ?_
   refine hK5 _ _ ?_
   refine wp_ret ?_
   refine qr (fn := Tryd.f72) hf hM [] (l := [iV (n / 2)]) (ob := []) An ?_
   show (iV (n / 2) : Value) = .int .i64 (n / 2) ∧ Keep Nn w w
   exact ⟨by first | rfl | (congr 1; omega), hk0⟩

set_option maxRecDepth 10000 in
set_option maxHeartbeats 1600000 in
theorem rcentre (x0 y0 x1 y1 : Int) (w : World) (hn0 : (boxRight x0 y0 x1 y1) = true) :
    Calls Tryd.prog 53 #[.agg #[iV x0, iV y0, iV x1, iV y1]] w (Ret fun v w' => v = .agg #[iV ((x0 + x1) / 2), iV ((y0 + y1) / 2)] ∧ Keep Nn w w') := by
 refine sxenter (n := 16) (args := [.agg #[iV x0, iV y0, iV x1, iV y1]]) Tryd.func53 rfl rfl rfl fun a hf => ?_
 replace hf : Fr 16 [(0, .val (.agg #[iV x0, iV y0, iV x1, iV y1]))] a := hf
 have hM : MemOk [] w := MemOk.nil w
 have hk0 : Keep Nn w w := Keep.refl _ _
 have hb := boxRight_iff.1 hn0
 refine wp_seq_k (fun K1 hK1 => ?_)
 refine wp_region_lit ?_
 refine q1 hf hM [] [{ os := [.nw] }, { os := [.nw] }] (nw := fun B1 => [(2, eP (B1 + 1) 0), (1, eP B1 0)]) (M' := fun B1 => [⟨B1, 32, [iV x0, iV y0, iV x1, iV y1]⟩, ⟨B1 + 1, 46, [iV 0, iV 0]⟩]) (ob := fun B1 => []) (fun B1 => An) ?_
 clear hf hM; intro a w1 B1 hf hM hB hk
 have hbB1 : w.heap.size ≤ B1 := by have := hk0.size; omega
 have hk0 := hk0.then hk (by intro i _ h; cases h)
 clear hk hB
 refine wpList_nil ?_
 refine hK1 _ _ ?_
 refine wp_seq_k (fun K2 hK2 => ?_)
 replace hM := hM.drew; replace hk0 := hk0.drew
 obtain ⟨Cq1, hCq1i, hCq1e⟩ := qcls fun w' => MemOk [⟨B1, 32, [iV x0, iV y0, iV x1, iV y1]⟩, ⟨B1 + 1, 46, [iV 0, iV 0]⟩] w' ∧ Keep Nn w w' ∧ True
 obtain ⟨Cq2, hCq2i, hCq2e⟩ := qcls fun w' => MemOk [⟨B1, 32, [iV x0, iV y0, iV x1, iV y1]⟩] w' ∧ Keep Nn w w' ∧ True
 refine sxdraw2 (C := Cq1) (C2 := Cq2) (.leaf [(0, true), (1, true), (2, true), (3, true), (4, true), (6, true), (7, true), (8, true), (9, true), (10, true), (5, false), (11, false), (12, true)]) (.leaf [(13, false)]) [0, 1, 2, 3, 4, 5, 6, 7, 8, 9, 10, 11, 12] (by kernel_rfl) (by kernel_rfl) (by as_aux_lemma => kernel_rfl) rfl (by as_aux_lemma => kernel_rfl) (by kernel_rfl) (by as_aux_lemma => kernel_rfl) (by kernel_rfl) (by kernel_rfl) (hCq1i _ ⟨hM.sub (.cons_cons _ (.cons_cons _ .slnil)), hk0, trivial⟩) ?_
 refine sxleaf ?_
 have hC := (hCq1i _ ⟨hM.sub (.cons_cons _ (.cons_cons _ .slnil)), hk0, trivial⟩)
 refine qd hf hC (fun w' h => (hCq1e w' h).1) [2] [{}, { os := [.ld 0 0] }, {}, { os := [.ld 0 2] }, { hint := some (iV (x0 + x1)) }, {}, { os := [.ld 0 1] }, {}, { os := [.ld 0 3] }, { hint := some (iV (y0 + y1)) }] (nw := [(13, eI (y0 + y1)), (7, eI (x0 + x1))]) (ob := [Ad B1 0, Ad B1 2, (iV (IntKind.i64.wrap (x0 + x1)) : Value) = (iV (x0 + x1) : Value), Ad B1 1, Ad B1 3, (iV (IntKind.i64.wrap (y0 + y1)) : Value) = (iV (y0 + y1) : Value)]) (Ac (ad _ _) (Ac (ad _ _) (Ac (wr (by omega)) (Ac (ad _ _) (Ac (ad _ _) (Ao (wr (by omega)))))))) ?_
 clear hf; intro a hf
 refine scstep rfl ?_
 refine sxcall hf rfl rfl rfl rfl (g := 72) (vs := [iV (x0 + x1)]) (ob := []) (by as_aux_lemma => kernel_rfl) An enters72 (half_any (x0 + x1) w1.drew  (by omega)) ?_
 clear hf; rintro _ w2 a ⟨rfl, hk⟩ hf
 have hM := hM.keepNn hk
 have hk0 := hk0.trans hk.nn
 clear hk
 have hC := (hCq1i _ ⟨hM.sub (.cons_cons _ (.cons_cons _ .slnil)), hk0, trivial⟩)
 refine scdone hC ?_
 refine scstep rfl ?_
 refine sxcall hf rfl rfl rfl rfl (g := 72) (vs := [iV (y0 + y1)]) (ob := []) (by as_aux_lemma => kernel_rfl) An enters72 (half_any (y0 + y1) w2  (by omega)) ?_
 clear hf; rintro _ w3 a ⟨rfl, hk⟩ hf
 have hM := hM.keepNn hk
 have hk0 := hk0.trans hk.nn
 clear hk
 have hC := (hCq1i _ ⟨hM.sub (.cons_cons _ (.cons_cons _ .slnil)), hk0, trivial⟩)
 refine scdone hC ?_
 refine qd hf hC (fun w' h => (hCq1e w' h).1) [2] [{ sp := true }] (nw := [(15, .val (.agg #[iV ((x0 + x1) / 2), iV ((y0 + y1) / 2)]))]) An ?_
 clear hf; intro a hf
 refine sxnext (hCq2i _ ⟨hM.sub (.cons_cons _ (.cons _ .slnil)), hk0, trivial⟩) ?_
 refine sxleaf ?_
 have hC := (hCq2i _ ⟨hM.sub (.cons_cons _ (.cons _ .slnil)), hk0, trivial⟩)
 refine scstep rfl ?_
 have hMs : MemOk [⟨B1 + 1, 46, [iV 0, iV 0]⟩] w3 := hM.sub (.cons _ (.cons_cons _ .slnil))
 refine q1 hf hMs [2] [{ os := [.st 0 0, .st 0 1] }] (nw := fun B2 => []) (M' := fun B2 => [⟨B1 + 1, 46, [iV ((x0 + x1) / 2), iV ((y0 + y1) / 2)]⟩]) (ob := fun B2 => [Ad (B1 + 1) 0, Ad (B1 + 1) 1]) (fun B2 => (Ac (ad _ _) (Ao (ad _ _)))) ?_
 clear hf hMs; intro a w4 B2 hf hMs hB hk; clear hB
 have hM : MemOk [⟨B1, 32, [iV x0, iV y0, iV x1, iV y1]⟩, ⟨B1 + 1, 46, [iV ((x0 + x1) / 2), iV ((y0 + y1) / 2)]⟩] w4 := MemOk.upd (M1 := [⟨B1, 32, [iV x0, iV y0, iV x1, iV y1]⟩]) (M2 := []) hM hk hMs rfl
 have hk0 := hk0.thenNew hk (by simp [Mem.names] <;> omega)
 clear hk hMs
 have hC := (hCq2i _ ⟨hM.sub (.cons_cons _ (.cons _ .slnil)), hk0, trivial⟩)
 refine scdone hC ?_
 clear hC
 show K2 _ _
 refine hK2 _ _ ?_
 refine wp_ret ?_
 refine qr (fn := Tryd.f53) hf hM [.ld 1 0, .ld 1 1] (l := [.agg #[iV ((x0 + x1) / 2), iV ((y0 + y1) / 2)]]) (ob := [Ad (B1 + 1) 0, Ad (B1 + 1) 1]) (Ac (ad _ _) (Ao (ad _ _))) ?_
 show (.agg #[iV ((x0 + x1) / 2), iV ((y0 + y1) / 2)] : Value) = .agg #[iV ((x0 + x1) / 2), iV ((y0 + y1) / 2)] ∧ Keep Nn w w4
 exact ⟨rfl, hk0⟩

set_option maxRecDepth 10000 in
set_option maxHeartbeats 1600000 in
theorem rsquare (px py qx qy : Int) (w : World) (hn0 : (reach px py) = true) (hn1 : (reach qx qy) = true) :
    Calls Tryd.prog 52 #[.agg #[iV px, iV py], .agg #[iV qx, iV qy]] w (Ret fun v w' => v = .int .i64 (dist2 px py qx qy) ∧ Keep Nn w w') := by
 refine sxenter (n := 28) (args := [.agg #[iV px, iV py], .agg #[iV qx, iV qy]]) Tryd.func52 rfl rfl rfl fun a hf => ?_
 replace hf : Fr 28 [(0, .val (.agg #[iV px, iV py])), (1, .val (.agg #[iV qx, iV qy]))] a := hf
 have hM : MemOk [] w := MemOk.nil w
 have hk0 : Keep Nn w w := Keep.refl _ _
 have hr0 := of_decide_eq_true hn0
 have hr1 := of_decide_eq_true hn1
 refine wp_seq_k (fun K1 hK1 => ?_)
 refine wp_region_lit ?_
 refine q1 hf hM [] [{ os := [.nw] }, { os := [.nw] }, {}] (nw := fun B1 => [(3, eP (B1 + 1) 0), (2, eP B1 0)]) (M' := fun B1 => [⟨B1, 46, [iV px, iV py]⟩, ⟨B1 + 1, 46, [iV qx, iV qy]⟩]) (ob := fun B1 => []) (fun B1 => An) ?_
 clear hf hM; intro a w1 B1 hf hM hB hk
 have hbB1 : w.heap.size ≤ B1 := by have := hk0.size; omega
 have hk0 := hk0.then hk (by intro i _ h; cases h)
 clear hk hB
 refine wpList_nil ?_
 refine hK1 _ _ ?_
 refine wp_seq_k (fun K2 hK2 => ?_)
 refine wp_region_lit ?_
 refine q0 hf hM [] [{}, { os := [.ld 0 0] }, {}, { os := [.ld 1 0] }, { hint := some (iV (px - qx)) }, {}, { os := [.ld 0 0] }, {}, { os := [.ld 1 0] }, { hint := some (iV (px - qx)) }, { hint := some (iV ((px - qx) * (px - qx))) }, {}, { os := [.ld 0 1] }, {}, { os := [.ld 1 1] }, { hint := some (iV (py - qy)) }, {}, { os := [.ld 0 1] }, {}, { os := [.ld 1 1] }, { hint := some (iV (py - qy)) }, { hint := some (iV ((py - qy) * (py - qy))) }, { hint := some (iV (((px - qx) * (px - qx)) + ((py - qy) * (py - qy)))) }, {}] (nw := [(4, eI (((px - qx) * (px - qx)) + ((py - qy) * (py - qy))))]) (ob := [Ad B1 0, Ad (B1 + 1) 0, (iV (IntKind.i64.wrap (px - qx)) : Value) = (iV (px - qx) : Value), Ad B1 0, Ad (B1 + 1) 0, (iV (IntKind.i64.wrap (px - qx)) : Value) = (iV (px - qx) : Value), (iV (IntKind.i64.wrap ((px - qx) * (px - qx))) : Value) = (iV ((px - qx) * (px - qx)) : Value), Ad B1 1, Ad (B1 + 1) 1, (iV (IntKind.i64.wrap (py - qy)) : Value) = (iV (py - qy) : Value), Ad B1 1, Ad (B1 + 1) 1, (iV (IntKind.i64.wrap (py - qy)) : Value) = (iV (py - qy) : Value), (iV (IntKind.i64.wrap ((py - qy) * (py - qy))) : Value) = (iV ((py - qy) * (py - qy)) : Value), (iV (IntKind.i64.wrap (((px - qx) * (px - qx)) + ((py - qy) * (py - qy)))) : Value) = (iV (((px - qx) * (px - qx)) + ((py - qy) * (py - qy))) : Value)]) (Ac (ad _ _) (Ac (ad _ _) (Ac (wr (by omega)) (Ac (ad _ _) (Ac (ad _ _) (Ac (wr (by omega)) (Ac (wr (by have := sq_bd (a := px - qx) (m := 8388608) (by omega); omega)) (Ac (ad _ _) (Ac (ad _ _) (Ac (wr (by omega)) (Ac (ad _ _) (Ac (ad _ _) (Ac (wr (by omega)) (Ac (wr (by have := sq_bd (a := py - qy) (m := 8388608) (by omega); omega)) (Ao (wr (by have h1 := sq_bd (a := px - qx) (m := 8388608) (by omega); have h2 := sq_bd (a := py - qy) (m := 8388608) (by omega); omega))))))))))))))))) ?_
 clear hf; intro a hf
 refine wpList_nil ?_
 refine hK2 _ _ ?_
 refine wp_ret ?_
 refine qr (fn := Tryd.f52) hf hM [] (l := [iV (((px - qx) * (px - qx)) + ((py - qy) * (py - qy)))]) (ob := []) An ?_
 show (iV (((px - qx) * (px - qx)) + ((py - qy) * (py - qy))) : Value) = .int .i64 (dist2 px py qx qy) ∧ Keep Nn w w1
 exact ⟨rfl, hk0⟩

set_option maxRecDepth 10000 in
set_option maxHeartbeats 1600000 in
theorem rradius (av : Option Addr) (l : List (H2 × B4)) (c : Nat) (px py r : Int) (w : World) (hn0 : (reach px py) = true) (hav : Arr w 6 av l.length c (flat fBx l)) (hbav : l.length ≤ 1000000) (hok : ∀ x ∈ l, okB x.2 = true) (hrr : 0 ≤ r ∧ r ≤ 4194304) :
    Calls Tryd.prog 28 #[.slice av l.length c, .agg #[iV px, iV py], iV r] w (Ret fun v w' => ∃ a' c', v = .slice a' (ordS ltH (radL px py r l)).length c' ∧ Keep Nn w w' ∧ World.ownsRow w' w.heap.size 39 2 (.slice a' (ordS ltH (radL px py r l)).length c') (ordS ltH (radL px py r l)).length (flat fH (ordS ltH (radL px py r l)))) := by
 refine sxenter (n := 34) (args := [.slice av l.length c, .agg #[iV px, iV py], iV r]) Tryd.func28 rfl rfl rfl fun a hf => ?_
 replace hf : Fr 34 [(0, eS av l.length c), (1, .val (.agg #[iV px, iV py])), (2, eI r)] a := hf
 have hM : MemOk [] w := MemOk.nil w
 have hk0 : Keep Nn w w := Keep.refl _ _
 refine wp_seq_k (fun K1 hK1 => ?_)
 refine wp_region_lit ?_
 refine q1 hf hM [0, 2] [{ os := [.nw] }, {}] (nw := fun B1 => [(4, eP B1 0)]) (M' := fun B1 => [⟨B1, 46, [iV px, iV py]⟩]) (ob := fun B1 => []) (fun B1 => An) ?_
 clear hf hM; intro a w1 B1 hf hM hB hk
 have hbB1 : w.heap.size ≤ B1 := by have := hk0.size; omega
 have hk0 := hk0.then hk (by intro i _ h; cases h)
 clear hk hB
 refine wpList_nil ?_
 refine hK1 _ _ ?_
 refine wp_seq_k (fun K2 hK2 => ?_)
 refine wp_region_lit ?_
 refine sxbslice hf hM (t := 50) (e := 39) (len := 0) (cs := []) (ob := []) rfl rfl rfl rfl (by as_aux_lemma => kernel_rfl) An (by as_aux_lemma => kernel_rfl) ?_
 clear hf hM; intro a w2 B2 hf hM hB hk
 replace hM : MemOk [⟨B1, 46, [iV px, iV py]⟩, ⟨B2, 39, []⟩] w2 := hM
 have hbB2 : w.heap.size ≤ B2 := by have := hk0.size; omega
 have hk0 := hk0.trans hk.nn
 clear hk hB
 refine q0 hf hM [4, 0, 2] [{}] (nw := [(7, eS (some ⟨B2, 0, none⟩) 0 0)]) An ?_
 clear hf; intro a hf
 refine wpList_nil ?_
 refine hK2 _ _ ?_
 refine wp_seq_k (fun K3 hK3 => ?_)
 refine wp_seq_k (fun K4 hK4 => ?_)
 refine wp_region_lit ?_
 refine q0 hf hM [7, 4, 2] [{}, {}, {}] (nw := [(13, eI 0), (12, eI (l.length : Int)), (11, eS av l.length c)]) An ?_
 clear hf; intro a hf
 refine wpList_nil ?_
 refine hK4 _ _ ?_
 refine wp_block ?_
 have hO : OwnOk w.heap.size [⟨B1, 46, [iV px, iV py]⟩, ⟨B2, 39, []⟩] [] w2 := OwnOk.nil hM
 replace hO := OwnOk.took (M1 := [⟨B1, 46, [iV px, iV py]⟩]) (M2 := []) (sz := 2) hO hM (n := 0) (c := 0) (by have := hk0.size; omega) (by decide) (by decide) rfl
 replace hM : MemOk [⟨B1, 46, [iV px, iV py]⟩] w2 := hM.sub (.cons_cons _ (.cons _ .slnil))
 replace hO : OwnOk w.heap.size [⟨B1, 46, [iV px, iV py]⟩] [oS 39 2 (.slice (some ⟨B2, 0, none⟩) 0 0) 0 (flat fH ([] : List H2))] w2 := hO
 have hf := (hf.prune [2, 4, 7, 11, 12, 13]).to (env' := [(2, eI r), (4, eP B1 0), (7, eS (some ⟨B2, 0, none⟩) 0 0), (11, eS av l.length c), (12, eI (l.length : Int)), (13, eI 0)]) (by kernel_rfl)
 replace hO : OwnOk w.heap.size [⟨B1, 46, [iV px, iV py]⟩] [oS 39 2 (.slice (some ⟨B2, 0, none⟩) ((radL px py r (l.take (0 : Int).toNat)).length) 0) ((radL px py r (l.take (0 : Int).toNat)).length) (flat fH (radL px py r (l.take (0 : Int).toNat)))] w2 := by
  first | exact hO | (have e : ([oS 39 2 (.slice (some ⟨B2, 0, none⟩) 0 0) 0 (flat fH ([] : List H2))] : List Own) = [oS 39 2 (.slice (some ⟨B2, 0, none⟩) ((radL px py r (l.take (0 : Int).toNat)).length) 0) ((radL px py r (l.take (0 : Int).toNat)).length) (flat fH (radL px py r (l.take (0 : Int).toNat)))] := by rfl) <;> (rw [← e]; exact hO)
 refine sxloop (fun zm a w1 => ∃ (i : Int) (a7 : Option Addr) (c7 : Nat), zm = ((l.length : Int) - i).toNat ∧ Fr 34 [(2, eI r), (4, eP B1 0), (7, eS a7 ((radL px py r (l.take i.toNat)).length) c7), (11, eS av l.length c), (12, eI (l.length : Int)), (13, eI i)] a ∧ MemOk [⟨B1, 46, [iV px, iV py]⟩] w1 ∧ Keep Nn w w1 ∧ OwnOk w.heap.size [⟨B1, 46, [iV px, iV py]⟩] [oS 39 2 (.slice a7 ((radL px py r (l.take i.toNat)).length) c7) ((radL px py r (l.take i.toNat)).length) (flat fH (radL px py r (l.take i.toNat)))] w1 ∧ (0 ≤ i ∧ i ≤ (l.length : Int))) _ ⟨0, some ⟨B2, 0, none⟩, 0, rfl, hf.conv (Ac rfl (Ac rfl (Ac rfl (Ac rfl (Ac rfl (Ao rfl)))))), hM, hk0, hO, (by omega)⟩ ?_
 clear hf hM hk0 hO
 rintro _ a w3 ⟨i, a7, c7, rfl, hf, hM, hk0, hO, hi⟩ L1 hL1
 have hrl := radL_len px py r (l.take i.toNat)
 rw [List.length_take] at hrl
 refine wp_seq_k (fun K5 hK5 => ?_)
 refine wp_region_lit ?_
 refine q0 hf hM [2, 4, 7, 11, 12, 13] [{}] (nw := [(14, eB (decide ((i : Int) < (l.length : Int))))]) An ?_
 clear hf; intro a hf
 refine wpList_nil ?_
 refine hK5 _ _ ?_
 refine wp_seq_k (fun K6 hK6 => ?_)
 refine qc hf (b := (decide ((i : Int) < (l.length : Int)))) (fun hc1r => ?_) (fun hc1r => ?_)
 · have hc1 := (nT hc1r)
   refine wp_skip ?_
   refine hK6 _ _ ?_
   refine wp_seq_k (fun K7 hK7 => ?_)
   refine wp_block ?_
   refine wp_seq_k (fun K8 hK8 => ?_)
   obtain ⟨bb, hbb⟩ : ∃ b : H2 × B4, b = l.getD i.toNat (⟨0, 0⟩, ⟨0, 0, 0, 0⟩) := ⟨_, rfl⟩
   have hbo : okB bb.2 = true := by rw [hbb]; exact hok _ (by rw [List.getD_eq_getElem?_getD, List.getElem?_eq_getElem (by omega)]; exact List.getElem_mem _)
   unfold okB at hbo
   rw [Bool.and_eq_true] at hbo
   have hbr := boxRight_iff.1 hbo.1
   have hb1 := hbo.1
   have hrq : reach ((bb.2.x0 + bb.2.x1) / 2) ((bb.2.y0 + bb.2.y1) / 2) = true := by unfold reach; exact decide_eq_true (by omega)
   refine wp_region_lit ?_
   refine q1 hf hM [2, 4, 7, 11, 12, 13] [{ sp := true }, { os := [.ex (iV ((l.getD i.toNat (⟨0, 0⟩, ⟨0, 0, 0, 0⟩)).1.i)), .ex (iV ((l.getD i.toNat (⟨0, 0⟩, ⟨0, 0, 0, 0⟩)).1.g)), .ex (iV ((l.getD i.toNat (⟨0, 0⟩, ⟨0, 0, 0, 0⟩)).2.x0)), .ex (iV ((l.getD i.toNat (⟨0, 0⟩, ⟨0, 0, 0, 0⟩)).2.y0)), .ex (iV ((l.getD i.toNat (⟨0, 0⟩, ⟨0, 0, 0, 0⟩)).2.x1)), .ex (iV ((l.getD i.toNat (⟨0, 0⟩, ⟨0, 0, 0, 0⟩)).2.y1))], hint := some (.agg #[iV bb.1.i, iV bb.1.g, iV bb.2.x0, iV bb.2.y0, iV bb.2.x1, iV bb.2.y1]) }, { os := [.nw] }, { os := [.st 1 0, .st 1 1, .st 1 2, .st 1 3, .st 1 4, .st 1 5] }] (nw := fun B6 => [(9, eP B6 0)]) (M' := fun B6 => [⟨B1, 46, [iV px, iV py]⟩, ⟨B6, 85, [iV bb.1.i, iV bb.1.g, iV bb.2.x0, iV bb.2.y0, iV bb.2.x1, iV bb.2.y1]⟩]) (ob := fun B6 => [(0 : Int) ≤ i ∧ i < (l.length : Int), (av : Option Addr).isSome = true, w3.cell? (((sa av : Addr).add (i.toNat * 6)).add 0) = some (iV ((l.getD i.toNat (⟨0, 0⟩, ⟨0, 0, 0, 0⟩)).1.i)), w3.cell? (((sa av : Addr).add (i.toNat * 6)).add 1) = some (iV ((l.getD i.toNat (⟨0, 0⟩, ⟨0, 0, 0, 0⟩)).1.g)), w3.cell? (((sa av : Addr).add (i.toNat * 6)).add 2) = some (iV ((l.getD i.toNat (⟨0, 0⟩, ⟨0, 0, 0, 0⟩)).2.x0)), w3.cell? (((sa av : Addr).add (i.toNat * 6)).add 3) = some (iV ((l.getD i.toNat (⟨0, 0⟩, ⟨0, 0, 0, 0⟩)).2.y0)), w3.cell? (((sa av : Addr).add (i.toNat * 6)).add 4) = some (iV ((l.getD i.toNat (⟨0, 0⟩, ⟨0, 0, 0, 0⟩)).2.x1)), w3.cell? (((sa av : Addr).add (i.toNat * 6)).add 5) = some (iV ((l.getD i.toNat (⟨0, 0⟩, ⟨0, 0, 0, 0⟩)).2.y1)), (.agg #[iV ((l.getD i.toNat (⟨0, 0⟩, ⟨0, 0, 0, 0⟩)).1.i), iV ((l.getD i.toNat (⟨0, 0⟩, ⟨0, 0, 0, 0⟩)).1.g), iV ((l.getD i.toNat (⟨0, 0⟩, ⟨0, 0, 0, 0⟩)).2.x0), iV ((l.getD i.toNat (⟨0, 0⟩, ⟨0, 0, 0, 0⟩)).2.y0), iV ((l.getD i.toNat (⟨0, 0⟩, ⟨0, 0, 0, 0⟩)).2.x1), iV ((l.getD i.toNat (⟨0, 0⟩, ⟨0, 0, 0, 0⟩)).2.y1)] : Value) = (.agg #[iV bb.1.i, iV bb.1.g, iV bb.2.x0, iV bb.2.y0, iV bb.2.x1, iV bb.2.y1] : Value), Ad B6 0, Ad B6 1, Ad B6 2, Ad B6 3, Ad B6 4, Ad B6 5]) (fun B6 => (Ac (by first | omega | (simp; done)) (Ac ((hav.keepNn hk0).some_ (by first | omega | (simp; done))) (Ac ((hav.keepNn hk0).get (fun _ => rfl) (by first | omega | (simp; done)) rfl) (Ac ((hav.keepNn hk0).get (fun _ => rfl) (by first | omega | (simp; done)) rfl) (Ac ((hav.keepNn hk0).get (fun _ => rfl) (by first | omega | (simp; done)) rfl) (Ac ((hav.keepNn hk0).get (fun _ => rfl) (by first | omega | (simp; done)) rfl) (Ac ((hav.keepNn hk0).get (fun _ => rfl) (by first | omega | (simp; done)) rfl) (Ac ((hav.keepNn hk0).get (fun _ => rfl) (by first | omega | (simp; done)) rfl) (Ac (by rw [hbb]) (Ac (ad _ _) (Ac (ad _ _) (Ac (ad _ _) (Ac (ad _ _) (Ac (ad _ _) (Ao (ad _ _))))))))))))))))) ?_
   clear hf hM; intro a w4 B6 hf hM hB hk
   have hbB6 : w.heap.size ≤ B6 := by have := hk0.size; omega
   have hk0 := hk0.thenNew hk (by simp [Mem.names] <;> omega)
   have hO := hO.step hM hk (by intro i h; simp only [Mem.names, List.map_cons, List.map_nil, List.mem_cons, List.not_mem_nil, or_false, List.map_append, List.cons_append, List.nil_append] at h ⊢; omega)
   clear hk hB
   refine wpList_nil ?_
   refine hK8 _ _ ?_
   refine wp_seq_k (fun K9 hK9 => ?_)
   replace hM := hM.drew; replace hk0 := hk0.drew; replace hO := hO.drew
   obtain ⟨Cq1, hCq1i, hCq1e⟩ := qcls fun w' => MemOk [⟨B1, 46, [iV px, iV py]⟩, ⟨B6, 85, [iV bb.1.i, iV bb.1.g, iV bb.2.x0, iV bb.2.y0, iV bb.2.x1, iV bb.2.y1]⟩] w' ∧ Keep Nn w w' ∧ OwnOk w.heap.size [⟨B1, 46, [iV px, iV py]⟩, ⟨B6, 85, [iV bb.1.i, iV bb.1.g, iV bb.2.x0, iV bb.2.y0, iV bb.2.x1, iV bb.2.y1]⟩] [oS 39 2 (.slice a7 ((radL px py r (l.take i.toNat)).length) c7) ((radL px py r (l.take i.toNat)).length) (flat fH (radL px py r (l.take i.toNat)))] w'
   refine sxdraw (C := Cq1) (.leaf [(0, true), (1, true), (2, true), (5, true), (6, true), (7, true), (3, false), (4, false), (8, true)]) (by kernel_rfl) (by kernel_rfl) (by as_aux_lemma => kernel_rfl) rfl (by as_aux_lemma => kernel_rfl) (by kernel_rfl) (hCq1i _ ⟨hM.sub (.cons_cons _ (.cons_cons _ .slnil)), hk0, hO.sub (.cons_cons _ (.cons_cons _ .slnil)) (.cons_cons _ .slnil)⟩) ?_
   refine sxleaf ?_
   have hC := (hCq1i _ ⟨hM.sub (.cons_cons _ (.cons_cons _ .slnil)), hk0, hO.sub (.cons_cons _ (.cons_cons _ .slnil)) (.cons_cons _ .slnil)⟩)
   refine qd hf hC (fun w' h => (hCq1e w' h).1) [9, 2, 4, 7, 11, 12, 13] [{ os := [.ld 0 0, .ld 0 1] }, {}, { os := [.ld 1 2, .ld 1 3, .ld 1 4, .ld 1 5] }, {}, {}, { hint := some (iV (r * r)) }] (nw := [(24, eI (r * r)), (23, eI r), (22, eI r), (19, .val (.agg #[iV bb.2.x0, iV bb.2.y0, iV bb.2.x1, iV bb.2.y1])), (18, eP B6 2), (17, .val (.agg #[iV px, iV py]))]) (ob := [Ad B1 0, Ad B1 1, Ad B6 2, Ad B6 3, Ad B6 4, Ad B6 5, (iV (IntKind.i64.wrap (r * r)) : Value) = (iV (r * r) : Value)]) (Ac (ad _ _) (Ac (ad _ _) (Ac (ad _ _) (Ac (ad _ _) (Ac (ad _ _) (Ac (ad _ _) (Ao (wr (by have := sq_bd (a := r) (m := 4194304) (by omega); omega))))))))) ?_
   clear hf; intro a hf
   refine scstep rfl ?_
   refine sxcall hf rfl rfl rfl rfl (g := 53) (vs := [.agg #[iV bb.2.x0, iV bb.2.y0, iV bb.2.x1, iV bb.2.y1]]) (ob := []) (by as_aux_lemma => kernel_rfl) An enters53 (rcentre bb.2.x0 bb.2.y0 bb.2.x1 bb.2.y1 w4.drew hb1 ) ?_
   clear hf; rintro _ w5 a ⟨rfl, hk⟩ hf
   have hO := hO.keepNn hk
   have hM := hM.keepNn hk
   have hk0 := hk0.trans hk.nn
   clear hk
   have hC := (hCq1i _ ⟨hM.sub (.cons_cons _ (.cons_cons _ .slnil)), hk0, hO.sub (.cons_cons _ (.cons_cons _ .slnil)) (.cons_cons _ .slnil)⟩)
   refine scdone hC ?_
   refine scstep rfl ?_
   refine sxcall hf rfl rfl rfl rfl (g := 52) (vs := [.agg #[iV px, iV py], .agg #[iV ((bb.2.x0 + bb.2.x1) / 2), iV ((bb.2.y0 + bb.2.y1) / 2)]]) (ob := []) (by as_aux_lemma => kernel_rfl) An enters52 (rsquare px py ((bb.2.x0 + bb.2.x1) / 2) ((bb.2.y0 + bb.2.y1) / 2) w5 hn0 hrq ) ?_
   clear hf; rintro _ w6 a ⟨rfl, hk⟩ hf
   have hO := hO.keepNn hk
   have hM := hM.keepNn hk
   have hk0 := hk0.trans hk.nn
   clear hk
   have hC := (hCq1i _ ⟨hM.sub (.cons_cons _ (.cons_cons _ .slnil)), hk0, hO.sub (.cons_cons _ (.cons_cons _ .slnil)) (.cons_cons _ .slnil)⟩)
   refine scdone hC ?_
   refine qd hf hC (fun w' h => (hCq1e w' h).1) [21, 20, 24, 23, 22, 19, 18, 17, 9, 2, 4, 7, 11, 12, 13] [{}] (nw := [(25, eB (decide (((dist2 px py ((bb.2.x0 + bb.2.x1) / 2) ((bb.2.y0 + bb.2.y1) / 2)) : Int) ≤ (r * r))))]) An ?_
   clear hf; intro a hf
   clear hC
   show K9 _ _
   refine hK9 _ _ ?_
   refine qc hf (b := (decide (((dist2 px py ((bb.2.x0 + bb.2.x1) / 2) ((bb.2.y0 + bb.2.y1) / 2)) : Int) ≤ (r * r)))) (fun hc2r => ?_) (fun hc2r => ?_)
   · have hc2 := (nT hc2r)
     refine wp_region_lit ?_
     refine q0 hf hM [25, 21, 20, 24, 23, 22, 19, 18, 17, 2, 4, 7, 11, 12, 13] [{}, {}, { os := [.ld 1 0, .ld 1 1] }] (nw := [(28, .val (.agg #[iV bb.1.i, iV bb.1.g])), (26, eS a7 ((radL px py r (l.take i.toNat)).length) c7)]) (ob := [Ad B6 0, Ad B6 1]) (Ac (ad _ _) (Ao (ad _ _))) ?_
     clear hf; intro a hf
     refine sxbslice hf hM (t := 50) (e := 39) (len := 1) (cs := [iV bb.1.i, iV bb.1.g]) (ob := []) rfl rfl rfl rfl (by as_aux_lemma => kernel_rfl) An (by as_aux_lemma => kernel_rfl) ?_
     clear hf hM; intro a w7 B8 hf hM hB hk
     replace hM : MemOk [⟨B1, 46, [iV px, iV py]⟩, ⟨B6, 85, [iV bb.1.i, iV bb.1.g, iV bb.2.x0, iV bb.2.y0, iV bb.2.x1, iV bb.2.y1]⟩, ⟨B8, 39, [iV bb.1.i, iV bb.1.g]⟩] w7 := hM
     have hbB8 : w.heap.size ≤ B8 := by have := hk0.size; omega
     have hk0 := hk0.trans hk.nn
     have hO := hO.step hM hk.nn (by intro i h; simp only [Mem.names, List.map_cons, List.map_nil, List.mem_cons, List.not_mem_nil, or_false, List.map_append, List.cons_append, List.nil_append] at h ⊢; omega)
     clear hk hB
     replace hO : OwnOk w.heap.size [⟨B1, 46, [iV px, iV py]⟩, ⟨B6, 85, [iV bb.1.i, iV bb.1.g, iV bb.2.x0, iV bb.2.y0, iV bb.2.x1, iV bb.2.y1]⟩, ⟨B8, 39, [iV bb.1.i, iV bb.1.g]⟩] [oS 39 2 (.slice a7 ((radL px py r (l.take i.toNat)).length) c7) ((radL px py r (l.take i.toNat)).length) (flat fH (radL px py r (l.take i.toNat)))] w7 := OwnOk.front (l1 := []) (l2 := []) hO
     refine sxappend hf hM (e := 39) (sz := 2) (by_ := 16) (k := (radL px py r (l.take i.toNat)).length) (v := .slice a7 ((radL px py r (l.take i.toNat)).length) c7) (xs := flat fH (radL px py r (l.take i.toNat))) hO rfl rfl rfl rfl (av := some ⟨B8, 0, none⟩) (m := 1) (c := 1) rfl rfl Tryd.underlying50 (by kernel_rfl) rfl (news := flat fH ([⟨bb.1.i, bb.1.g⟩] : List H2)) (Arr.of_memT (sz := 2) (f := fH) (L := ([⟨bb.1.i, bb.1.g⟩] : List H2)) (l := ([⟨bb.1.i, bb.1.g⟩] : List H2)) hM (List.Mem.tail _ (List.Mem.tail _ (List.Mem.head _))) (fun _ => rfl) rfl rfl) (flat_one1 fH_one) (by simp only [maxLen]; constructor <;> (first | omega | (simp; omega))) (by have := hk0.size; omega) ?_
     clear hf hM hO; intro a w8 av1 cv1 hf hM hO hk
     have en : ((radL px py r (l.take i.toNat)).length + 1 : Nat) = ((radL px py r (l.take i.toNat)) ++ ([⟨bb.1.i, bb.1.g⟩] : List H2)).length := (by first | (simp; done) | (simp; omega))
     have ec : flat fH (radL px py r (l.take i.toNat)) ++ flat fH ([⟨bb.1.i, bb.1.g⟩] : List H2) = flat fH ((radL px py r (l.take i.toNat)) ++ ([⟨bb.1.i, bb.1.g⟩] : List H2)) := (by first | rfl | exact (flat_app _ _ _).symm | simp [flat_app, flat_nil])
     rw [en] at hf hO; rw [ec] at hO; clear en ec
     replace hO : OwnOk w.heap.size [⟨B1, 46, [iV px, iV py]⟩, ⟨B6, 85, [iV bb.1.i, iV bb.1.g, iV bb.2.x0, iV bb.2.y0, iV bb.2.x1, iV bb.2.y1]⟩, ⟨B8, 39, [iV bb.1.i, iV bb.1.g]⟩] [oS 39 2 (.slice av1 (((radL px py r (l.take i.toNat)) ++ ([⟨bb.1.i, bb.1.g⟩] : List H2)).length) cv1) (((radL px py r (l.take i.toNat)) ++ ([⟨bb.1.i, bb.1.g⟩] : List H2)).length) (flat fH ((radL px py r (l.take i.toNat)) ++ ([⟨bb.1.i, bb.1.g⟩] : List H2)))] w8 := hO
     have hk0 := hk0.then hk (by intro i hi h; have := h.1; omega)
     clear hk
     refine q0 hf hM [25, 21, 20, 24, 23, 22, 19, 18, 17, 2, 4, 11, 12, 13] [{}] (nw := [(7, eS av1 (((radL px py r (l.take i.toNat)) ++ ([⟨bb.1.i, bb.1.g⟩] : List H2)).length) cv1)]) An ?_
     clear hf; intro a hf
     refine wpList_nil ?_
     refine hK7 _ _ ?_
     refine wp_region_lit ?_
     refine q0 hf hM [7, 25, 21, 20, 24, 23, 22, 19, 18, 17, 2, 4, 11, 12] [{ hint := some (iV (i + 1)) }, {}] (nw := [(13, eI (i + 1))]) (ob := [(iV (IntKind.i64.wrap (i + 1)) : Value) = (iV (i + 1) : Value)]) (Ao (wr (by omega))) ?_
     clear hf; intro a hf
     refine wpList_nil ?_
     have hnx : radL px py r (l.take (i + 1).toNat) = ((radL px py r (l.take i.toNat)) ++ ([⟨bb.1.i, bb.1.g⟩] : List H2)) := by
       rw [take_nextI (d := ((⟨0, 0⟩, ⟨0, 0, 0, 0⟩) : H2 × B4)) (by omega), ← hbb]
       have h2 := radL_snoc (px := px) (py := py) (r := r) (vis := l.take i.toNat) (h := bb.1) (b := bb.2)
       rw [if_pos (show awayV px py bb.2.x0 bb.2.y0 bb.2.x1 bb.2.y1 ≤ r * r from of_decide_eq_true hc2r)] at h2
       exact h2
     have hf := (hf.prune [2, 4, 7, 11, 12, 13]).to (env' := [(2, eI r), (4, eP B1 0), (7, eS av1 (((radL px py r (l.take i.toNat)) ++ ([⟨bb.1.i, bb.1.g⟩] : List H2)).length) cv1), (11, eS av l.length c), (12, eI (l.length : Int)), (13, eI (i + 1))]) (by kernel_rfl)
     replace hO : OwnOk w.heap.size [⟨B1, 46, [iV px, iV py]⟩] [oS 39 2 (.slice av1 (((radL px py r (l.take i.toNat)) ++ ([⟨bb.1.i, bb.1.g⟩] : List H2)).length) cv1) (((radL px py r (l.take i.toNat)) ++ ([⟨bb.1.i, bb.1.g⟩] : List H2)).length) (flat fH ((radL px py r (l.take i.toNat)) ++ ([⟨bb.1.i, bb.1.g⟩] : List H2)))] w8 := hO.sub (.cons_cons _ (.cons _ (.cons _ .slnil))) (List.Sublist.refl _)
     replace hM : MemOk [⟨B1, 46, [iV px, iV py]⟩] w8 := hM.sub (.cons_cons _ (.cons _ (.cons _ .slnil)))
     replace hO : OwnOk w.heap.size [⟨B1, 46, [iV px, iV py]⟩] [oS 39 2 (.slice av1 ((radL px py r (l.take (i + 1).toNat)).length) cv1) ((radL px py r (l.take (i + 1).toNat)).length) (flat fH (radL px py r (l.take (i + 1).toNat)))] w8 := by
      first | exact hO | (have e : ([oS 39 2 (.slice av1 (((radL px py r (l.take i.toNat)) ++ ([⟨bb.1.i, bb.1.g⟩] : List H2)).length) cv1) (((radL px py r (l.take i.toNat)) ++ ([⟨bb.1.i, bb.1.g⟩] : List H2)).length) (flat fH ((radL px py r (l.take i.toNat)) ++ ([⟨bb.1.i, bb.1.g⟩] : List H2)))] : List Own) = [oS 39 2 (.slice av1 ((radL px py r (l.take (i + 1).toNat)).length) cv1) ((radL px py r (l.take (i + 1).toNat)).length) (flat fH (radL px py r (l.take (i + 1).toNat)))] := by (rw [hnx]; try rfl)) <;> (rw [← e]; exact hO)
     refine hL1 _ _ _ (by omega) ⟨i + 1, av1, cv1, rfl, hf.conv (Ac rfl (Ac rfl (Ac (by rw [hnx]; rfl) (Ac rfl (Ac rfl (Ao rfl)))))), hM, hk0, hO, (by omega)⟩
   · have hc2 := (nU hc2r)
     refine wp_skip ?_
     refine hK7 _ _ ?_
     refine wp_region_lit ?_
     refine q0 hf hM [25, 21, 20, 24, 23, 22, 19, 18, 17, 2, 4, 7, 11, 12] [{ hint := some (iV (i + 1)) }, {}] (nw := [(13, eI (i + 1))]) (ob := [(iV (IntKind.i64.wrap (i + 1)) : Value) = (iV (i + 1) : Value)]) (Ao (wr (by omega))) ?_
     clear hf; intro a hf
     refine wpList_nil ?_
     have hnx : radL px py r (l.take (i + 1).toNat) = (radL px py r (l.take i.toNat)) := by
       rw [take_nextI (d := ((⟨0, 0⟩, ⟨0, 0, 0, 0⟩) : H2 × B4)) (by omega), ← hbb]
       have h2 := radL_snoc (px := px) (py := py) (r := r) (vis := l.take i.toNat) (h := bb.1) (b := bb.2)
       rw [if_neg (show ¬ awayV px py bb.2.x0 bb.2.y0 bb.2.x1 bb.2.y1 ≤ r * r from of_decide_eq_false hc2r)] at h2
       exact h2
     have hf := (hf.prune [2, 4, 7, 11, 12, 13]).to (env' := [(2, eI r), (4, eP B1 0), (7, eS a7 ((radL px py r (l.take i.toNat)).length) c7), (11, eS av l.length c), (12, eI (l.length : Int)), (13, eI (i + 1))]) (by kernel_rfl)
     replace hO : OwnOk w.heap.size [⟨B1, 46, [iV px, iV py]⟩] [oS 39 2 (.slice a7 ((radL px py r (l.take i.toNat)).length) c7) ((radL px py r (l.take i.toNat)).length) (flat fH (radL px py r (l.take i.toNat)))] w6 := hO.sub (.cons_cons _ (.cons _ .slnil)) (List.Sublist.refl _)
     replace hM : MemOk [⟨B1, 46, [iV px, iV py]⟩] w6 := hM.sub (.cons_cons _ (.cons _ .slnil))
     replace hO : OwnOk w.heap.size [⟨B1, 46, [iV px, iV py]⟩] [oS 39 2 (.slice a7 ((radL px py r (l.take (i + 1).toNat)).length) c7) ((radL px py r (l.take (i + 1).toNat)).length) (flat fH (radL px py r (l.take (i + 1).toNat)))] w6 := by
      first | exact hO | (have e : ([oS 39 2 (.slice a7 ((radL px py r (l.take i.toNat)).length) c7) ((radL px py r (l.take i.toNat)).length) (flat fH (radL px py r (l.take i.toNat)))] : List Own) = [oS 39 2 (.slice a7 ((radL px py r (l.take (i + 1).toNat)).length) c7) ((radL px py r (l.take (i + 1).toNat)).length) (flat fH (radL px py r (l.take (i + 1).toNat)))] := by (rw [hnx]; try rfl)) <;> (rw [← e]; exact hO)
     refine hL1 _ _ _ (by omega) ⟨i + 1, a7, c7, rfl, hf.conv (Ac rfl (Ac rfl (Ac (by rw [hnx]; rfl) (Ac rfl (Ac rfl (Ao rfl)))))), hM, hk0, hO, (by omega)⟩
 · have hc1 := (nU hc1r)
   refine wp_exit ?_
   refine hK3 _ _ ?_
   refine wp_seq_k (fun K10 hK10 => ?_)
   refine wp_region_lit ?_
   refine q0 hf hM [] [{}] (nw := [(32, eS a7 ((radL px py r (l.take i.toNat)).length) c7)]) An ?_
   clear hf; intro a hf
   refine sxcall hf rfl rfl rfl rfl (g := 54) (vs := [.slice a7 ((radL px py r (l.take i.toNat)).length) c7]) (ob := []) (by as_aux_lemma => kernel_rfl) An enters54 (rHandles a7 (radL px py r (l.take i.toNat)) c7 w3  (own_arr (hO.own _ (List.Mem.head _))) (by first | omega | (simp; omega) | (simp; done) | exact Nat.le_trans (byKinds_len _ _) (by omega) | decide)) ?_
   clear hf; rintro _ w9 a ⟨a'1, c'1, rfl, hk, hx1⟩ hf
   have hO := hO.more hM hk (by have := hk0.size; omega) hx1
   replace hO : OwnOk w.heap.size [⟨B1, 46, [iV px, iV py]⟩] [oS 39 2 (.slice a'1 ((ordS ltH (radL px py r (l.take i.toNat))).length) c'1) ((ordS ltH (radL px py r (l.take i.toNat))).length) (flat fH (ordS ltH (radL px py r (l.take i.toNat)))), oS 39 2 (.slice a7 ((radL px py r (l.take i.toNat)).length) c7) ((radL px py r (l.take i.toNat)).length) (flat fH (radL px py r (l.take i.toNat)))] _ := hO
   have hM := hM.keepNn hk
   have hk0 := hk0.trans hk.nn
   clear hk
   refine q0 hf hM [] [{}] (nw := [(6, eS a'1 ((ordS ltH (radL px py r (l.take i.toNat))).length) c'1)]) An ?_
   clear hf; intro a hf
   refine wpList_nil ?_
   refine hK10 _ _ ?_
   refine wp_ret ?_
   refine qr (fn := Tryd.f28) hf hM [] (l := [.slice a'1 ((ordS ltH (radL px py r (l.take i.toNat))).length) c'1]) (ob := []) An ?_
   show ∃ a' c', (.slice a'1 ((ordS ltH (radL px py r (l.take i.toNat))).length) c'1 : Value) = .slice a' (ordS ltH (radL px py r l)).length c' ∧ Keep Nn w w9 ∧ World.ownsRow w9 w.heap.size 39 2 (.slice a' (ordS ltH (radL px py r l)).length c') (ordS ltH (radL px py r l)).length (flat fH (ordS ltH (radL px py r l)))
   have e : l.take i.toNat = l := List.take_of_length_le (by omega)
   rw [e] at hO
   exact ⟨_, _, by rw [e], hk0, hO.own _ (List.Mem.head _)⟩
end Go.Proofs.YthofalkkdpjdlaaDoor
