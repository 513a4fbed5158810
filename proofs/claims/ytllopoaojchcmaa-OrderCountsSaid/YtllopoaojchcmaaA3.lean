/- layer 2: lists in order -/
import Derived.Test.YtllopoaojchcmaaA2
import Derived.Test.YtllopoaojchcmaaSh
import Derived.Test.YtllopoaojchcmaaXI
import Derived.Test.YtllopoaojchcmaaXT
namespace Go.Proofs.Ytllopoaojchcmaa
open Go.Px
set_option linter.unusedVariables false
set_option linter.unusedSimpArgs false

theorem sort_int {w : World} {base c : Nat} {av : Option Addr} {l : List Int} (hown : w.ownsRow base 3 1 (.slice av l.length c) l.length (flat fI l)) (hb : l.length ≤ 1000000) :
    Calls Try.prog 59 #[.slice av l.length c, .func (.func 45) #[] #[]] w (Ret fun v w' => v = .tuple #[] ∧ ∃ l', l'.Perm l ∧ (l'.Pairwise fun x y => ltI y x = false) ∧
      w'.ownsRow base 3 1 (.slice av l.length c) l.length (flat fI l') ∧ Keep (fun i => Value.ownBlock (.slice av l.length c) = some i) w w') := by
  have h := sortInts_own (cf := cmpN) Try.sortI (swo_of ordI cmpN_lt) (g := 45) (enters_of Try.func45 (by kernel_rfl) rfl) (fun x y w => compare_int x y w) hown (by omega)
  refine Calls.mono h fun e w' he => ?_
  obtain ⟨v, rfl, rfl, l', hp, hs, hx, hk⟩ := he
  exact ⟨_, rfl, rfl, l', hp, pair_of cmpN_lt hs, hx, hk⟩

theorem sort_hand {w : World} {base c : Nat} {av : Option Addr} {l : List H2} (hown : w.ownsRow base 28 2 (.slice av l.length c) l.length (flat fH l)) (hb : l.length ≤ 1000000) :
    Calls Try.prog 51 #[.slice av l.length c, .func (.func 34) #[] #[]] w (Ret fun v w' => v = .tuple #[] ∧ ∃ l', l'.Perm l ∧ (l'.Pairwise fun x y => ltH y x = false) ∧
      w'.ownsRow base 28 2 (.slice av l.length c) l.length (flat fH l') ∧ Keep (fun i => Value.ownBlock (.slice av l.length c) = some i) w w') := by
  have h := sortFunc_own (enc := fH) (cf := cmpH) Try.sortH (k := 2) (fun w => by kernel_rfl) (fun w => by kernel_rfl) (fun _ => rfl) fH_one (swo_of ordH cmpH_neg) (g := 34) (enters_of Try.func34 (by kernel_rfl) rfl) (fun x y w => ocompare x.i x.g y.i y.g w) hown (by omega)
  refine Calls.mono h fun e w' he => ?_
  obtain ⟨v, rfl, rfl, l', hp, hs, hx, hk⟩ := he
  exact ⟨_, rfl, rfl, l', hp, pair_of cmpH_neg hs, hx, hk⟩

theorem sort_pair {w : World} {base c : Nat} {av : Option Addr} {l : List P4} (hown : w.ownsRow base 31 4 (.slice av l.length c) l.length (flat fP l)) (hb : l.length ≤ 1000000) :
    Calls Try.prog 55 #[.slice av l.length c, .func (.func 37) #[] #[]] w (Ret fun v w' => v = .tuple #[] ∧ ∃ l', l'.Perm l ∧ (l'.Pairwise fun x y => ltP y x = false) ∧
      w'.ownsRow base 31 4 (.slice av l.length c) l.length (flat fP l') ∧ Keep (fun i => Value.ownBlock (.slice av l.length c) = some i) w w') := by
  have h := sortFunc_own (enc := fP) (cf := cmpP) Try.sortP (k := 4) (fun w => by kernel_rfl) (fun w => by kernel_rfl) (fun _ => rfl) fP_one (swo_of ordP cmpP_neg) (g := 37) (enters_of Try.func37 (by kernel_rfl) rfl) (fun x y w => ocompareP x.a.i x.a.g x.b.i x.b.g y.a.i y.a.g y.b.i y.b.g w) hown (by omega)
  refine Calls.mono h fun e w' he => ?_
  obtain ⟨v, rfl, rfl, l', hp, hs, hx, hk⟩ := he
  exact ⟨_, rfl, rfl, l', hp, pair_of cmpP_neg hs, hx, hk⟩

set_option maxRecDepth 10000 in
set_option maxHeartbeats 1600000 in
theorem compact_int (base : Nat) (av : Option Addr) (l : List Int) (c : Nat) (w : World) (hown : w.ownsRow base 3 1 (.slice av l.length c) l.length (flat fI l)) (hbw : base ≤ w.heap.size) (hbav : l.length ≤ 1000000) :
    Calls Try.prog 60 #[.slice av l.length c] w (Ret fun v w' => v = .slice av (comp l).length c ∧ World.ownsRow w' base 3 1 (.slice av (comp l).length c) (comp l).length (flat fI (comp l)) ∧ Keep (fun i => Value.ownBlock (.slice av l.length c) = some i) w w') := by
 refine sxenter (n := 61) (args := [.slice av l.length c]) Try.func60 rfl rfl rfl fun a hf => ?_
 replace hf : Fr 61 [(0, eS av l.length c)] a := hf
 have hM : MemOk [] w := MemOk.nil w
 have hk0 : Keep (fun i => Value.ownBlock (.slice av l.length c) = some i) w w := Keep.refl _ _
 have hO : OwnOk base [] [⟨3, 1, .slice av l.length c, l.length, flat fI l⟩] w := OwnOk.one hown
 refine wp_seq_k (fun K1 hK1 => ?_)
 refine wp_region_lit ?_
 refine q0 hf hM [0] [{}] (nw := []) An ?_
 clear hf; intro a hf
 refine wpList_nil ?_
 refine hK1 _ _ ?_
 refine wp_seq_k (fun K2 hK2 => ?_)
 refine wp_seq_k (fun K3 hK3 => ?_)
 refine wp_region_lit ?_
 refine q0 hf hM [0] [{}, {}, {}] (nw := [(8, eB (decide (((l.length : Int) : Int) < 2)))]) An ?_
 clear hf; intro a hf
 refine wpList_nil ?_
 refine hK3 _ _ ?_
 refine qc hf (b := (decide (((l.length : Int) : Int) < 2))) (fun hc1r => ?_) (fun hc1r => ?_)
 · have hc1 := (nT hc1r)
   refine wp_seq_k (fun K4 hK4 => ?_)
   refine wp_region_lit ?_
   refine q0 hf hM [] [{}, {}] (nw := [(2, eS av l.length c)]) An ?_
   clear hf; intro a hf
   refine wpList_nil ?_
   refine hK4 _ _ ?_
   refine wp_ret ?_
   refine qr (fn := Try.f60) hf hM [] (l := [.slice av l.length c]) (ob := []) An ?_
   show (.slice av l.length c : Value) = .slice av (comp l).length c ∧ World.ownsRow w base 3 1 (.slice av (comp l).length c) (comp l).length (flat fI (comp l)) ∧ Keep (fun i => Value.ownBlock (.slice av l.length c) = some i) w w
   first
     | (rw [comp_one l (by omega)]; exact ⟨rfl, hO.own _ (List.Mem.head _), hk0⟩)
     | (have e : comp l = l := by have h1 : l.take k.toNat = l := List.take_of_length_le (by omega)
                                  rw [h1] at hcp; exact hcp
        rw [e]; exact ⟨rfl, hO.own _ (List.Mem.head _), hk0⟩)
 · have hc1 := (nU hc1r)
   refine wp_skip ?_
   refine hK2 _ _ ?_
   refine wp_seq_k (fun K5 hK5 => ?_)
   refine wp_seq_k (fun K6 hK6 => ?_)
   refine wp_region_lit ?_
   refine q0 hf hM [0] [{}] (nw := [(3, eI 1)]) An ?_
   clear hf; intro a hf
   refine wpList_nil ?_
   refine hK6 _ _ ?_
   refine wp_block ?_
   have hf := (hf.prune [0, 3]).to (env' := [(0, eS av l.length c), (3, eI 1)]) (by kernel_rfl)
   refine sxloop (fun zm a w1 => ∃ (k : Int), zm = ((l.length : Int) - k).toNat ∧ Fr 61 [(0, eS av l.length c), (3, eI k)] a ∧ MemOk [] w1 ∧ Keep (fun i => Value.ownBlock (.slice av l.length c) = some i) w w1 ∧ OwnOk base [] [⟨3, 1, .slice av l.length c, l.length, flat fI l⟩] w1 ∧ (1 ≤ k ∧ k ≤ (l.length : Int)) ∧ (comp (l.take k.toNat) = l.take k.toNat)) _ ⟨1, rfl, hf.conv (Ac rfl (Ao rfl)), hM, hk0, hO, (by omega), (comp_one _ (by rw [List.length_take]; omega))⟩ ?_
   clear hf hM hk0 hO
   rintro _ a w1 ⟨k, rfl, hf, hM, hk0, hO, hkk, hcp⟩ L1 hL1
   refine wp_seq_k (fun K7 hK7 => ?_)
   refine wp_seq_k (fun K8 hK8 => ?_)
   refine wp_region_lit ?_
   refine q0 hf hM [0, 3] [{}, {}, {}, {}] (nw := [(13, eB (decide ((k : Int) < (l.length : Int))))]) An ?_
   clear hf; intro a hf
   refine wpList_nil ?_
   refine hK8 _ _ ?_
   refine qc hf (b := (decide ((k : Int) < (l.length : Int)))) (fun hc2r => ?_) (fun hc2r => ?_)
   · have hc2 := (nT hc2r)
     refine wp_skip ?_
     refine hK7 _ _ ?_
     refine wp_seq_k (fun K9 hK9 => ?_)
     refine wp_block ?_
     refine wp_seq_k (fun K10 hK10 => ?_)
     replace hM := hM.drew; replace hk0 := hk0.drew; replace hO := hO.drew
     obtain ⟨C1, hC1i, hC1e⟩ := qcls fun w' => MemOk [] w' ∧ Keep (fun i => Value.ownBlock (.slice av l.length c) = some i) w w' ∧ OwnOk base [] [⟨3, 1, .slice av l.length c, l.length, flat fI l⟩] w'
     refine sxdraw (C := C1) (.leaf [(0, true), (1, true), (2, true), (3, true), (4, true), (5, true), (6, true), (7, true), (8, true), (9, true)]) (by kernel_rfl) (by kernel_rfl) (by as_aux_lemma => kernel_rfl) rfl (by as_aux_lemma => kernel_rfl) (by kernel_rfl) (hC1i _ ⟨hM.sub (.slnil), hk0, hO.sub (.slnil) (.cons_cons _ .slnil)⟩) ?_
     refine sxleaf ?_
     have hC := (hC1i _ ⟨hM.sub (.slnil), hk0, hO.sub (.slnil) (.cons_cons _ .slnil)⟩)
     refine qd hf hC (fun w' h => (hC1e w' h).1) [0, 3] [{}, {}, { sp := true }, { os := [.ex (iV (l.getD k.toNat 0))] }, {}, {}, { hint := some (iV (k - 1)) }, { sp := true }, { os := [.ex (iV (l.getD (k - 1).toNat 0))] }, {}] (nw := [(25, eB (((l.getD k.toNat 0) : Int) == (l.getD (k - 1).toNat 0))), (24, eI (l.getD (k - 1).toNat 0)), (23, .val (.pointer (some ((sa av : Addr).add ((k - 1).toNat * 1))))), (22, eI (k - 1)), (21, eI k), (20, eS av l.length c), (19, eI (l.getD k.toNat 0)), (18, .val (.pointer (some ((sa av : Addr).add (k.toNat * 1))))), (17, eI k), (16, eS av l.length c)]) (ob := [(0 : Int) ≤ k ∧ k < (l.length : Int), (av : Option Addr).isSome = true, (∀ w', C1 w' → w'.cell? ((sa av : Addr).add (k.toNat * 1)) = some (iV (l.getD k.toNat 0))), (iV (IntKind.i64.wrap (k - 1)) : Value) = (iV (k - 1) : Value), (0 : Int) ≤ (k - 1) ∧ (k - 1) < (l.length : Int), (av : Option Addr).isSome = true, (∀ w', C1 w' → w'.cell? ((sa av : Addr).add ((k - 1).toNat * 1)) = some (iV (l.getD (k - 1).toNat 0)))]) (Ac (by first | omega | (simp; done)) (Ac ((own_arr (hO.own _ (List.Mem.head _))).some_ (by first | omega | (simp; done))) (Ac (fun w' hc => by obtain ⟨hM, hk0, hO⟩ := hC1e w' hc; exact ((own_arr (hO.own _ (List.Mem.head _))).get0 (fun _ => rfl) (by first | omega | (simp; done)) rfl)) (Ac (wr (by omega)) (Ac (by first | omega | (simp; done)) (Ac ((own_arr (hO.own _ (List.Mem.head _))).some_ (by first | omega | (simp; done))) (Ao (fun w' hc => by obtain ⟨hM, hk0, hO⟩ := hC1e w' hc; exact ((own_arr (hO.own _ (List.Mem.head _))).get0 (fun _ => rfl) (by first | omega | (simp; done)) rfl))))))))) ?_
     clear hf; intro a hf
     clear hC
     show K10 _ _
     refine hK10 _ _ ?_
     refine qc hf (b := (((l.getD k.toNat 0) : Int) == (l.getD (k - 1).toNat 0))) (fun hc3r => ?_) (fun hc3r => ?_)
     · have hc3 := (nE hc3r)
       refine wp_seq_k (fun K11 hK11 => ?_)
       refine wp_region_lit ?_
       refine q0 hf hM [0, 3] [{}, {}, { sp := true, hint := some (.slice (cutA av k.toNat c 1) (l.length - k.toNat) (c - k.toNat)) }, {}] (nw := [(4, eS (cutA av k.toNat c 1) (l.length - k.toNat) (c - k.toNat))]) (ob := [0 ≤ (k : Int) ∧ (k : Int) ≤ ((l.length : Nat) : Int), (.slice (cutA av (k : Int).toNat c 1) (l.length - (k : Int).toNat) (c - (k : Int).toNat) : Value) = (.slice (cutA av k.toNat c 1) (l.length - k.toNat) (c - k.toNat) : Value)]) (Ac (by have := ((own_arr (hO.own _ (List.Mem.head _)))).le; omega) (Ao (by first | rfl | (simp; done) | (simp; omega)))) ?_
       clear hf; intro a hf
       refine wpList_nil ?_
       refine hK11 _ _ ?_
       refine wp_seq_k (fun K12 hK12 => ?_)
       refine wp_seq_k (fun K13 hK13 => ?_)
       refine wp_region_lit ?_
       refine q0 hf hM [4, 0, 3] [{}] (nw := [(5, eI 1)]) An ?_
       clear hf; intro a hf
       refine wpList_nil ?_
       refine hK13 _ _ ?_
       refine wp_block ?_
       have hf := (hf.prune [0, 3, 4, 5]).to (env' := [(0, eS av l.length c), (3, eI k), (4, eS (cutA av k.toNat c 1) (l.length - k.toNat) (c - k.toNat)), (5, eI 1)]) (by kernel_rfl)
       refine sxloop (fun zm a w1 => ∃ (m k2 : Int) (ll : List Int), zm = ((l.length : Int) - k2).toNat ∧ Fr 61 [(0, eS av l.length c), (3, eI m), (4, eS (cutA av k.toNat c 1) (l.length - k.toNat) (c - k.toNat)), (5, eI k2)] a ∧ MemOk [] w1 ∧ Keep (fun i => Value.ownBlock (.slice av l.length c) = some i) w w1 ∧ OwnOk base [] [⟨3, 1, .slice av l.length c, l.length, flat fI ll⟩] w1 ∧ (Cmp l ll m.toNat (k + k2).toNat) ∧ (0 ≤ m ∧ 1 ≤ k2)) _ ⟨k, 1, l, rfl, hf.conv (Ac rfl (Ac rfl (Ac rfl (Ao rfl)))), hM, hk0, hO, (by rw [show (k + 1).toNat = k.toNat + 1 by omega]; exact Cmp.start (d := 0) (by omega) (by omega) hcp (by rw [show k.toNat - 1 = (k - 1).toNat by omega]; exact (eqc_int (by omega)))), (by omega)⟩ ?_
       clear hf hM hk0 hO
       rintro _ a w2 ⟨m, k2, ll, rfl, hf, hM, hk0, hO, hct, hij⟩ L2 hL2
       have hl1 := hct.le; have hl2 := hct.jl; have hl3 := hct.len; have hl4 := hct.k1; have hl5 : (ll.drop k.toNat).length = ll.length - k.toNat := List.length_drop
       refine wp_seq_k (fun K14 hK14 => ?_)
       refine wp_seq_k (fun K15 hK15 => ?_)
       refine wp_region_lit ?_
       refine q0 hf hM [0, 3, 4, 5] [{}, {}, {}, {}] (nw := [(32, eB (decide ((k2 : Int) < (((l.length - k.toNat) : Nat) : Int))))]) An ?_
       clear hf; intro a hf
       refine wpList_nil ?_
       refine hK15 _ _ ?_
       refine qc hf (b := (decide ((k2 : Int) < (((l.length - k.toNat) : Nat) : Int)))) (fun hc4r => ?_) (fun hc4r => ?_)
       · have hc4 := (nT hc4r)
         refine wp_skip ?_
         refine hK14 _ _ ?_
         refine wp_seq_k (fun K16 hK16 => ?_)
         refine wp_block ?_
         refine wp_seq_k (fun K17 hK17 => ?_)
         replace hM := hM.drew; replace hk0 := hk0.drew; replace hO := hO.drew
         obtain ⟨C2, hC2i, hC2e⟩ := qcls fun w' => MemOk [] w' ∧ Keep (fun i => Value.ownBlock (.slice av l.length c) = some i) w w' ∧ OwnOk base [] [⟨3, 1, .slice av l.length c, l.length, flat fI ll⟩] w'
         refine sxdraw (C := C2) (.leaf [(0, true), (1, true), (2, true), (3, true), (4, true), (5, true), (6, true), (7, true), (8, true), (9, true)]) (by kernel_rfl) (by kernel_rfl) (by as_aux_lemma => kernel_rfl) rfl (by as_aux_lemma => kernel_rfl) (by kernel_rfl) (hC2i _ ⟨hM.sub (.slnil), hk0, hO.sub (.slnil) (.cons_cons _ .slnil)⟩) ?_
         refine sxleaf ?_
         have hC := (hC2i _ ⟨hM.sub (.slnil), hk0, hO.sub (.slnil) (.cons_cons _ .slnil)⟩)
         refine qd hf hC (fun w' h => (hC2e w' h).1) [0, 3, 4, 5] [{}, {}, { sp := true }, { os := [.ex (iV ((ll.drop k.toNat).getD k2.toNat 0))] }, {}, {}, { hint := some (iV (k2 - 1)) }, { sp := true }, { os := [.ex (iV ((ll.drop k.toNat).getD (k2 - 1).toNat 0))] }, {}] (nw := [(44, eB ((((ll.drop k.toNat).getD k2.toNat 0) : Int) != ((ll.drop k.toNat).getD (k2 - 1).toNat 0))), (43, eI ((ll.drop k.toNat).getD (k2 - 1).toNat 0)), (42, .val (.pointer (some ((sa (cutA av k.toNat c 1) : Addr).add ((k2 - 1).toNat * 1))))), (41, eI (k2 - 1)), (40, eI k2), (39, eS (cutA av k.toNat c 1) (l.length - k.toNat) (c - k.toNat)), (38, eI ((ll.drop k.toNat).getD k2.toNat 0)), (37, .val (.pointer (some ((sa (cutA av k.toNat c 1) : Addr).add (k2.toNat * 1))))), (36, eI k2), (35, eS (cutA av k.toNat c 1) (l.length - k.toNat) (c - k.toNat))]) (ob := [(0 : Int) ≤ k2 ∧ k2 < (((l.length - k.toNat) : Nat) : Int), (cutA av k.toNat c 1 : Option Addr).isSome = true, (∀ w', C2 w' → w'.cell? ((sa (cutA av k.toNat c 1) : Addr).add (k2.toNat * 1)) = some (iV ((ll.drop k.toNat).getD k2.toNat 0))), (iV (IntKind.i64.wrap (k2 - 1)) : Value) = (iV (k2 - 1) : Value), (0 : Int) ≤ (k2 - 1) ∧ (k2 - 1) < (((l.length - k.toNat) : Nat) : Int), (cutA av k.toNat c 1 : Option Addr).isSome = true, (∀ w', C2 w' → w'.cell? ((sa (cutA av k.toNat c 1) : Addr).add ((k2 - 1).toNat * 1)) = some (iV ((ll.drop k.toNat).getD (k2 - 1).toNat 0)))]) (Ac (by first | omega | (simp; done)) (Ac ((Arr.dropf (m := k.toNat) (l := ll) (own_arr (hO.own _ (List.Mem.head _))) (fun _ => rfl) (by omega) (by omega)).some_ (by first | omega | (simp; done))) (Ac (fun w' hc => by obtain ⟨hM, hk0, hO⟩ := hC2e w' hc; exact ((Arr.dropf (m := k.toNat) (l := ll) (own_arr (hO.own _ (List.Mem.head _))) (fun _ => rfl) (by omega) (by omega)).get0 (fun _ => rfl) (by first | omega | (simp; done)) rfl)) (Ac (wr (by omega)) (Ac (by first | omega | (simp; done)) (Ac ((Arr.dropf (m := k.toNat) (l := ll) (own_arr (hO.own _ (List.Mem.head _))) (fun _ => rfl) (by omega) (by omega)).some_ (by first | omega | (simp; done))) (Ao (fun w' hc => by obtain ⟨hM, hk0, hO⟩ := hC2e w' hc; exact ((Arr.dropf (m := k.toNat) (l := ll) (own_arr (hO.own _ (List.Mem.head _))) (fun _ => rfl) (by omega) (by omega)).get0 (fun _ => rfl) (by first | omega | (simp; done)) rfl))))))))) ?_
         clear hf; intro a hf
         clear hC
         show K17 _ _
         refine hK17 _ _ ?_
         refine qc hf (b := ((((ll.drop k.toNat).getD k2.toNat 0) : Int) != ((ll.drop k.toNat).getD (k2 - 1).toNat 0))) (fun hc5r => ?_) (fun hc5r => ?_)
         · have hc5 := (nN hc5r)
           refine wp_seq_k (fun K18 hK18 => ?_)
           refine wp_region_lit ?_
           refine q0 hf hM [44, 43, 42, 41, 40, 39, 38, 37, 36, 35, 0, 3, 4, 5] [{}, {}, {}, {}, { sp := true }, { os := [.ex (iV ((ll.drop k.toNat).getD k2.toNat 0))] }, { sp := true }] (nw := [(51, .val (.pointer (some ((sa av : Addr).add (m.toNat * 1))))), (50, eI ((ll.drop k.toNat).getD k2.toNat 0))]) (ob := [(0 : Int) ≤ k2 ∧ k2 < (((l.length - k.toNat) : Nat) : Int), (cutA av k.toNat c 1 : Option Addr).isSome = true, w2.drew.cell? ((sa (cutA av k.toNat c 1) : Addr).add (k2.toNat * 1)) = some (iV ((ll.drop k.toNat).getD k2.toNat 0)), (0 : Int) ≤ m ∧ m < (l.length : Int), (av : Option Addr).isSome = true]) (Ac (by first | omega | (simp; done)) (Ac ((Arr.dropf (m := k.toNat) (l := ll) (own_arr (hO.own _ (List.Mem.head _))) (fun _ => rfl) (by omega) (by omega)).some_ (by first | omega | (simp; done))) (Ac ((Arr.dropf (m := k.toNat) (l := ll) (own_arr (hO.own _ (List.Mem.head _))) (fun _ => rfl) (by omega) (by omega)).get0 (fun _ => rfl) (by first | omega | (simp; done)) rfl) (Ac (by first | omega | (simp; done)) (Ao ((own_arr (hO.own _ (List.Mem.head _))).some_ (by first | omega | (simp; done)))))))) ?_
           clear hf; intro a hf
           refine sxset hf hM hO rfl rfl rfl (val := iV ((ll.drop k.toNat).getD k2.toNat 0)) rfl rfl (i := m.toNat) (q := 0) (x := ((ll.drop k.toNat).getD k2.toNat 0)) (d := 0) rfl (by kernel_rfl) (fun _ => rfl) (by omega) hl3 rfl rfl rfl (by intro u hu; simp [Value.cells] at hu; first | (subst hu; rfl) | (rcases hu with rfl | rfl <;> rfl) | (rcases hu with rfl | rfl | rfl <;> rfl) | (rcases hu with rfl | rfl | rfl | rfl <;> rfl) | (rcases hu with rfl | rfl | rfl | rfl | rfl <;> rfl)) ?_
           clear hf; intro a w3 hf hM hO hk
           have hk0 := hk0.then hk (by intro i hi h; exact h)
           clear hk
           refine wpList_nil ?_
           refine hK18 _ _ ?_
           refine wp_region_lit ?_
           refine q0 hf hM [44, 43, 42, 41, 40, 39, 38, 37, 36, 35, 0, 4, 5] [{}, { hint := some (iV (m + 1)) }, {}] (nw := [(3, eI (m + 1))]) (ob := [(iV (IntKind.i64.wrap (m + 1)) : Value) = (iV (m + 1) : Value)]) (Ao (wr (by omega))) ?_
           clear hf; intro a hf
           refine wpList_nil ?_
           refine hK16 _ _ ?_
           refine wp_region_lit ?_
           refine q0 hf hM [3, 44, 43, 42, 41, 40, 39, 38, 37, 36, 35, 0, 4] [{}, { hint := some (iV (k2 + 1)) }, {}] (nw := [(5, eI (k2 + 1))]) (ob := [(iV (IntKind.i64.wrap (k2 + 1)) : Value) = (iV (k2 + 1) : Value)]) (Ao (wr (by omega))) ?_
           clear hf; intro a hf
           refine wpList_nil ?_
           have hd0 : (ll.drop k.toNat).getD k2.toNat 0 = ll.getD (k + k2).toNat 0 := by rw [getD_drop]; congr 1; omega
           have hd1 : (ll.drop k.toNat).getD (k2 - 1).toNat 0 = ll.getD ((k + k2).toNat - 1) 0 := by rw [getD_drop]; congr 1; omega
           have hct2 : Cmp l (ll.set m.toNat ((ll.drop k.toNat).getD k2.toNat 0)) (m + 1).toNat (k + (k2 + 1)).toNat := by
             rw [show (k + (k2 + 1)).toNat = (k + k2).toNat + 1 by omega, show (m + 1).toNat = m.toNat + 1 by omega]
             have h1 : ll.getD (k + k2).toNat 0 ≠ ll.getD ((k + k2).toNat - 1) 0 := by rw [← hd0, ← hd1]; exact (nec_int (by omega))
             have h2 := hct.keep (d := 0) (by omega) h1
             rw [← hd0] at h2
             exact h2
           have hf := (hf.prune [0, 3, 4, 5]).to (env' := [(0, eS av l.length c), (3, eI (m + 1)), (4, eS (cutA av k.toNat c 1) (l.length - k.toNat) (c - k.toNat)), (5, eI (k2 + 1))]) (by kernel_rfl)
           refine hL2 _ _ _ (by omega) ⟨m + 1, k2 + 1, (ll.set m.toNat ((ll.drop k.toNat).getD k2.toNat 0)), rfl, hf.conv (Ac rfl (Ac rfl (Ac rfl (Ao rfl)))), hM, hk0, hO, hct2, (by omega)⟩
         · have hc5 := (nM hc5r)
           refine wp_skip ?_
           refine hK16 _ _ ?_
           refine wp_region_lit ?_
           refine q0 hf hM [44, 43, 42, 41, 40, 39, 38, 37, 36, 35, 0, 3, 4] [{}, { hint := some (iV (k2 + 1)) }, {}] (nw := [(5, eI (k2 + 1))]) (ob := [(iV (IntKind.i64.wrap (k2 + 1)) : Value) = (iV (k2 + 1) : Value)]) (Ao (wr (by omega))) ?_
           clear hf; intro a hf
           refine wpList_nil ?_
           have hd0 : (ll.drop k.toNat).getD k2.toNat 0 = ll.getD (k + k2).toNat 0 := by rw [getD_drop]; congr 1; omega
           have hd1 : (ll.drop k.toNat).getD (k2 - 1).toNat 0 = ll.getD ((k + k2).toNat - 1) 0 := by rw [getD_drop]; congr 1; omega
           have hct2 : Cmp l ll m.toNat (k + (k2 + 1)).toNat := by
             rw [show (k + (k2 + 1)).toNat = (k + k2).toNat + 1 by omega]
             have h1 : ll.getD (k + k2).toNat 0 = ll.getD ((k + k2).toNat - 1) 0 := by rw [← hd0, ← hd1]; exact (eqc_int (by omega))
             exact hct.skip (d := 0) (by omega) h1
           have hf := (hf.prune [0, 3, 4, 5]).to (env' := [(0, eS av l.length c), (3, eI m), (4, eS (cutA av k.toNat c 1) (l.length - k.toNat) (c - k.toNat)), (5, eI (k2 + 1))]) (by kernel_rfl)
           refine hL2 _ _ _ (by omega) ⟨m, k2 + 1, ll, rfl, hf.conv (Ac rfl (Ac rfl (Ac rfl (Ao rfl)))), hM, hk0, hO, hct2, (by omega)⟩
       · have hc4 := (nU hc4r)
         refine wp_exit ?_
         refine hK12 _ _ ?_
         refine wp_seq_k (fun K19 hK19 => ?_)
         refine wp_region_lit ?_
         refine q0 hf hM [0, 3] [{}, {}, { sp := true, hint := some (.slice (cutA av m.toNat c 1) (l.length - m.toNat) (c - m.toNat)) }] (nw := [(56, eS (cutA av m.toNat c 1) (l.length - m.toNat) (c - m.toNat))]) (ob := [0 ≤ (m : Int) ∧ (m : Int) ≤ ((l.length : Nat) : Int), (.slice (cutA av (m : Int).toNat c 1) (l.length - (m : Int).toNat) (c - (m : Int).toNat) : Value) = (.slice (cutA av m.toNat c 1) (l.length - m.toNat) (c - m.toNat) : Value)]) (Ac (by have := ((own_arr (hO.own _ (List.Mem.head _)))).le; omega) (Ao (by first | rfl | (simp; done) | (simp; omega)))) ?_
         clear hf; intro a hf
         refine sxclear hf hM hO rfl rfl rfl (m := m.toNat) rfl Try.underlying43 (z := 0) (by kernel_rfl) (fun _ => rfl) fI_one rfl (by omega) ?_
         clear hf; intro a w4 hf hM hO hk
         have hk0 := hk0.then hk (by intro i hi h; exact h)
         clear hk
         refine wpList_nil ?_
         refine hK19 _ _ ?_
         refine wp_seq_k (fun K20 hK20 => ?_)
         refine wp_region_lit ?_
         refine q0 hf hM [] [{}, {}] (nw := [(58, eI m), (57, eS av l.length c)]) An ?_
         clear hf; intro a hf
         refine sxval hf rfl rfl rfl rfl (v := .slice av m.toNat c) (ob := []) (by kernel_rfl) An (by rw [show (.slice av m.toNat c : Value) = .slice av (m : Int).toNat c from (by simp)]; exact ox_slice_h rfl rfl rfl Try.underlying43 (sz := 1) (by kernel_rfl) (by have := ((own_arr (hO.own _ (List.Mem.head _)))).le; omega)) ?_
         clear hf; intro a hf
         have hO := hO.cut (fun _ => rfl) (m := m.toNat) (by omega)
         replace hO : OwnOk base [] [⟨3, 1, .slice av m.toNat c, m.toNat, flat fI ((ll.take m.toNat ++ List.replicate (l.length - m.toNat) 0).take m.toNat)⟩] w4 := hO
         have el : ((ll.take m.toNat ++ List.replicate (l.length - m.toNat) 0).take m.toNat) = (comp l) := (hct.done (by omega) _)
         rw [el] at hO; clear el
         have en : (m.toNat : Nat) = (comp l).length := (hct.lenEq (by omega))
         replace hO := hO.lenTo en
         have hf := (hf.prune [59, 58, 57]).to (env' := [(59, eS av m.toNat c), (58, eI m), (57, eS av l.length c)]) (by kernel_rfl)
         replace hf : Fr 61 [(59, eS av (comp l).length c), (58, eI m), (57, eS av l.length c)] a := hf.conv (Ac (by rw [en]; rfl) (Ac rfl (Ao rfl)))
         clear en
         replace hO : OwnOk base [] [⟨3, 1, .slice av (comp l).length c, (comp l).length, flat fI (comp l)⟩] w4 := hO
         refine q0 hf hM [] [{}] (nw := [(2, eS av (comp l).length c)]) An ?_
         clear hf; intro a hf
         refine wpList_nil ?_
         refine hK20 _ _ ?_
         refine wp_ret ?_
         refine qr (fn := Try.f60) hf hM [] (l := [.slice av (comp l).length c]) (ob := []) An ?_
         show (.slice av (comp l).length c : Value) = .slice av (comp l).length c ∧ World.ownsRow w4 base 3 1 (.slice av (comp l).length c) (comp l).length (flat fI (comp l)) ∧ Keep (fun i => Value.ownBlock (.slice av l.length c) = some i) w w4
         exact ⟨rfl, hO.own _ (List.Mem.head _), hk0⟩
     · have hc3 := (nF hc3r)
       refine wp_skip ?_
       refine hK9 _ _ ?_
       refine wp_region_lit ?_
       refine q0 hf hM [25, 24, 23, 22, 21, 20, 19, 18, 17, 16, 0] [{}, { hint := some (iV (k + 1)) }, {}] (nw := [(3, eI (k + 1))]) (ob := [(iV (IntKind.i64.wrap (k + 1)) : Value) = (iV (k + 1) : Value)]) (Ao (wr (by omega))) ?_
       clear hf; intro a hf
       refine wpList_nil ?_
       have hcp2 : comp (l.take (k + 1).toNat) = l.take (k + 1).toNat := by
         have h1 := comp_go (d := 0) (l := l) (k := k.toNat) (by omega) (by omega) hcp (by rw [show k.toNat - 1 = (k - 1).toNat by omega]; exact (nec_int (by omega)))
         rw [show (k + 1).toNat = k.toNat + 1 by omega]
         exact h1
       have hf := (hf.prune [0, 3]).to (env' := [(0, eS av l.length c), (3, eI (k + 1))]) (by kernel_rfl)
       refine hL1 _ _ _ (by omega) ⟨k + 1, rfl, hf.conv (Ac rfl (Ao rfl)), hM, hk0, hO, (by omega), hcp2⟩
   · have hc2 := (nU hc2r)
     refine wp_exit ?_
     refine hK5 _ _ ?_
     refine wp_seq_k (fun K21 hK21 => ?_)
     refine wp_region_lit ?_
     refine q0 hf hM [] [{}, {}] (nw := [(2, eS av l.length c)]) An ?_
     clear hf; intro a hf
     refine wpList_nil ?_
     refine hK21 _ _ ?_
     refine wp_ret ?_
     refine qr (fn := Try.f60) hf hM [] (l := [.slice av l.length c]) (ob := []) An ?_
     show (.slice av l.length c : Value) = .slice av (comp l).length c ∧ World.ownsRow w1 base 3 1 (.slice av (comp l).length c) (comp l).length (flat fI (comp l)) ∧ Keep (fun i => Value.ownBlock (.slice av l.length c) = some i) w w1
     first
       | (rw [comp_one l (by omega)]; exact ⟨rfl, hO.own _ (List.Mem.head _), hk0⟩)
       | (have e : comp l = l := by have h1 : l.take k.toNat = l := List.take_of_length_le (by omega)
                                    rw [h1] at hcp; exact hcp
          rw [e]; exact ⟨rfl, hO.own _ (List.Mem.head _), hk0⟩)

set_option maxRecDepth 10000 in
set_option maxHeartbeats 1600000 in
theorem compact_hand (base : Nat) (av : Option Addr) (l : List H2) (c : Nat) (w : World) (hown : w.ownsRow base 28 2 (.slice av l.length c) l.length (flat fH l)) (hbw : base ≤ w.heap.size) (hbav : l.length ≤ 1000000) :
    Calls Try.prog 52 #[.slice av l.length c] w (Ret fun v w' => v = .slice av (comp l).length c ∧ World.ownsRow w' base 28 2 (.slice av (comp l).length c) (comp l).length (flat fH (comp l)) ∧ Keep (fun i => Value.ownBlock (.slice av l.length c) = some i) w w') := by
 refine sxenter (n := 61) (args := [.slice av l.length c]) Try.func52 rfl rfl rfl fun a hf => ?_
 replace hf : Fr 61 [(0, eS av l.length c)] a := hf
 have hM : MemOk [] w := MemOk.nil w
 have hk0 : Keep (fun i => Value.ownBlock (.slice av l.length c) = some i) w w := Keep.refl _ _
 have hO : OwnOk base [] [⟨28, 2, .slice av l.length c, l.length, flat fH l⟩] w := OwnOk.one hown
 refine wp_seq_k (fun K1 hK1 => ?_)
 refine wp_region_lit ?_
 refine q0 hf hM [0] [{}] (nw := []) An ?_
 clear hf; intro a hf
 refine wpList_nil ?_
 refine hK1 _ _ ?_
 refine wp_seq_k (fun K2 hK2 => ?_)
 refine wp_seq_k (fun K3 hK3 => ?_)
 refine wp_region_lit ?_
 refine q0 hf hM [0] [{}, {}, {}] (nw := [(8, eB (decide (((l.length : Int) : Int) < 2)))]) An ?_
 clear hf; intro a hf
 refine wpList_nil ?_
 refine hK3 _ _ ?_
 refine qc hf (b := (decide (((l.length : Int) : Int) < 2))) (fun hc1r => ?_) (fun hc1r => ?_)
 · have hc1 := (nT hc1r)
   refine wp_seq_k (fun K4 hK4 => ?_)
   refine wp_region_lit ?_
   refine q0 hf hM [] [{}, {}] (nw := [(2, eS av l.length c)]) An ?_
   clear hf; intro a hf
   refine wpList_nil ?_
   refine hK4 _ _ ?_
   refine wp_ret ?_
   refine qr (fn := Try.f52) hf hM [] (l := [.slice av l.length c]) (ob := []) An ?_
   show (.slice av l.length c : Value) = .slice av (comp l).length c ∧ World.ownsRow w base 28 2 (.slice av (comp l).length c) (comp l).length (flat fH (comp l)) ∧ Keep (fun i => Value.ownBlock (.slice av l.length c) = some i) w w
   first
     | (rw [comp_one l (by omega)]; exact ⟨rfl, hO.own _ (List.Mem.head _), hk0⟩)
     | (have e : comp l = l := by have h1 : l.take k.toNat = l := List.take_of_length_le (by omega)
                                  rw [h1] at hcp; exact hcp
        rw [e]; exact ⟨rfl, hO.own _ (List.Mem.head _), hk0⟩)
 · have hc1 := (nU hc1r)
   refine wp_skip ?_
   refine hK2 _ _ ?_
   refine wp_seq_k (fun K5 hK5 => ?_)
   refine wp_seq_k (fun K6 hK6 => ?_)
   refine wp_region_lit ?_
   refine q0 hf hM [0] [{}] (nw := [(3, eI 1)]) An ?_
   clear hf; intro a hf
   refine wpList_nil ?_
   refine hK6 _ _ ?_
   refine wp_block ?_
   have hf := (hf.prune [0, 3]).to (env' := [(0, eS av l.length c), (3, eI 1)]) (by kernel_rfl)
   refine sxloop (fun zm a w1 => ∃ (k : Int), zm = ((l.length : Int) - k).toNat ∧ Fr 61 [(0, eS av l.length c), (3, eI k)] a ∧ MemOk [] w1 ∧ Keep (fun i => Value.ownBlock (.slice av l.length c) = some i) w w1 ∧ OwnOk base [] [⟨28, 2, .slice av l.length c, l.length, flat fH l⟩] w1 ∧ (1 ≤ k ∧ k ≤ (l.length : Int)) ∧ (comp (l.take k.toNat) = l.take k.toNat)) _ ⟨1, rfl, hf.conv (Ac rfl (Ao rfl)), hM, hk0, hO, (by omega), (comp_one _ (by rw [List.length_take]; omega))⟩ ?_
   clear hf hM hk0 hO
   rintro _ a w1 ⟨k, rfl, hf, hM, hk0, hO, hkk, hcp⟩ L1 hL1
   refine wp_seq_k (fun K7 hK7 => ?_)
   refine wp_seq_k (fun K8 hK8 => ?_)
   refine wp_region_lit ?_
   refine q0 hf hM [0, 3] [{}, {}, {}, {}] (nw := [(13, eB (decide ((k : Int) < (l.length : Int))))]) An ?_
   clear hf; intro a hf
   refine wpList_nil ?_
   refine hK8 _ _ ?_
   refine qc hf (b := (decide ((k : Int) < (l.length : Int)))) (fun hc2r => ?_) (fun hc2r => ?_)
   · have hc2 := (nT hc2r)
     refine wp_skip ?_
     refine hK7 _ _ ?_
     refine wp_seq_k (fun K9 hK9 => ?_)
     refine wp_block ?_
     refine wp_seq_k (fun K10 hK10 => ?_)
     replace hM := hM.drew; replace hk0 := hk0.drew; replace hO := hO.drew
     obtain ⟨C1, hC1i, hC1e⟩ := qcls fun w' => MemOk [] w' ∧ Keep (fun i => Value.ownBlock (.slice av l.length c) = some i) w w' ∧ OwnOk base [] [⟨28, 2, .slice av l.length c, l.length, flat fH l⟩] w'
     refine sxdraw (C := C1) (.leaf [(0, true), (1, true), (2, true), (3, true), (4, true), (5, true), (6, true), (7, true), (8, true), (9, true)]) (by kernel_rfl) (by kernel_rfl) (by as_aux_lemma => kernel_rfl) rfl (by as_aux_lemma => kernel_rfl) (by kernel_rfl) (hC1i _ ⟨hM.sub (.slnil), hk0, hO.sub (.slnil) (.cons_cons _ .slnil)⟩) ?_
     refine sxleaf ?_
     have hC := (hC1i _ ⟨hM.sub (.slnil), hk0, hO.sub (.slnil) (.cons_cons _ .slnil)⟩)
     refine qd hf hC (fun w' h => (hC1e w' h).1) [0, 3] [{}, {}, { sp := true }, { os := [.ex (iV (l.getD k.toNat ⟨0, 0⟩).i), .ex (iV (l.getD k.toNat ⟨0, 0⟩).g)] }, {}, {}, { hint := some (iV (k - 1)) }, { sp := true }, { os := [.ex (iV ((l.getD (k - 1).toNat ⟨0, 0⟩).i)), .ex (iV ((l.getD (k - 1).toNat ⟨0, 0⟩).g))] }, { sp := true, hint := some (bV ((((l.getD k.toNat ⟨0, 0⟩).i : Int) == ((l.getD (k - 1).toNat ⟨0, 0⟩).i)) && (((l.getD k.toNat ⟨0, 0⟩).g : Int) == ((l.getD (k - 1).toNat ⟨0, 0⟩).g)))) }] (nw := [(25, eB ((((l.getD k.toNat ⟨0, 0⟩).i : Int) == ((l.getD (k - 1).toNat ⟨0, 0⟩).i)) && (((l.getD k.toNat ⟨0, 0⟩).g : Int) == ((l.getD (k - 1).toNat ⟨0, 0⟩).g)))), (24, .val (.agg #[iV ((l.getD (k - 1).toNat ⟨0, 0⟩).i), iV ((l.getD (k - 1).toNat ⟨0, 0⟩).g)])), (23, .val (.pointer (some ((sa av : Addr).add ((k - 1).toNat * 2))))), (22, eI (k - 1)), (21, eI k), (20, eS av l.length c), (19, .val (.agg #[iV (l.getD k.toNat ⟨0, 0⟩).i, iV (l.getD k.toNat ⟨0, 0⟩).g])), (18, .val (.pointer (some ((sa av : Addr).add (k.toNat * 2))))), (17, eI k), (16, eS av l.length c)]) (ob := [(0 : Int) ≤ k ∧ k < (l.length : Int), (av : Option Addr).isSome = true, (∀ w', C1 w' → w'.cell? (((sa av : Addr).add (k.toNat * 2)).add 0) = some (iV (l.getD k.toNat ⟨0, 0⟩).i)), (∀ w', C1 w' → w'.cell? (((sa av : Addr).add (k.toNat * 2)).add 1) = some (iV (l.getD k.toNat ⟨0, 0⟩).g)), (iV (IntKind.i64.wrap (k - 1)) : Value) = (iV (k - 1) : Value), (0 : Int) ≤ (k - 1) ∧ (k - 1) < (l.length : Int), (av : Option Addr).isSome = true, (∀ w', C1 w' → w'.cell? (((sa av : Addr).add ((k - 1).toNat * 2)).add 0) = some (iV ((l.getD (k - 1).toNat ⟨0, 0⟩).i))), (∀ w', C1 w' → w'.cell? (((sa av : Addr).add ((k - 1).toNat * 2)).add 1) = some (iV ((l.getD (k - 1).toNat ⟨0, 0⟩).g))), (bV ((((l.getD k.toNat ⟨0, 0⟩).i : Int) == ((l.getD (k - 1).toNat ⟨0, 0⟩).i)) && ((((l.getD k.toNat ⟨0, 0⟩).g : Int) == ((l.getD (k - 1).toNat ⟨0, 0⟩).g)) && true)) : Value) = (bV ((((l.getD k.toNat ⟨0, 0⟩).i : Int) == ((l.getD (k - 1).toNat ⟨0, 0⟩).i)) && (((l.getD k.toNat ⟨0, 0⟩).g : Int) == ((l.getD (k - 1).toNat ⟨0, 0⟩).g))) : Value)]) (Ac (by first | omega | (simp; done)) (Ac ((own_arr (hO.own _ (List.Mem.head _))).some_ (by first | omega | (simp; done))) (Ac (fun w' hc => by obtain ⟨hM, hk0, hO⟩ := hC1e w' hc; exact ((own_arr (hO.own _ (List.Mem.head _))).get (fun _ => rfl) (by first | omega | (simp; done)) rfl)) (Ac (fun w' hc => by obtain ⟨hM, hk0, hO⟩ := hC1e w' hc; exact ((own_arr (hO.own _ (List.Mem.head _))).get (fun _ => rfl) (by first | omega | (simp; done)) rfl)) (Ac (wr (by omega)) (Ac (by first | omega | (simp; done)) (Ac ((own_arr (hO.own _ (List.Mem.head _))).some_ (by first | omega | (simp; done))) (Ac (fun w' hc => by obtain ⟨hM, hk0, hO⟩ := hC1e w' hc; exact ((own_arr (hO.own _ (List.Mem.head _))).get (fun _ => rfl) (by first | omega | (simp; done)) rfl)) (Ac (fun w' hc => by obtain ⟨hM, hk0, hO⟩ := hC1e w' hc; exact ((own_arr (hO.own _ (List.Mem.head _))).get (fun _ => rfl) (by first | omega | (simp; done)) rfl)) (Ao (by simp))))))))))) ?_
     clear hf; intro a hf
     clear hC
     show K10 _ _
     refine hK10 _ _ ?_
     refine qc hf (b := ((((l.getD k.toNat ⟨0, 0⟩).i : Int) == ((l.getD (k - 1).toNat ⟨0, 0⟩).i)) && (((l.getD k.toNat ⟨0, 0⟩).g : Int) == ((l.getD (k - 1).toNat ⟨0, 0⟩).g)))) (fun hc3r => ?_) (fun hc3r => ?_)
     · have hc3 := hc3r
       try simp only [Bool.or_eq_true, Bool.and_eq_true, Bool.not_eq_true', Bool.not_eq_false', Bool.or_eq_false_iff, Bool.and_eq_false_iff, decide_eq_true_eq, decide_eq_false_iff_not, beq_iff_eq, bne_iff_ne, beq_eq_false_iff_ne, bne_eq_false_iff_eq, Bool.and_true, Bool.true_and, ne_eq] at hc3
       refine wp_seq_k (fun K11 hK11 => ?_)
       refine wp_region_lit ?_
       refine q0 hf hM [0, 3] [{}, {}, { sp := true, hint := some (.slice (cutA av k.toNat c 2) (l.length - k.toNat) (c - k.toNat)) }, {}] (nw := [(4, eS (cutA av k.toNat c 2) (l.length - k.toNat) (c - k.toNat))]) (ob := [0 ≤ (k : Int) ∧ (k : Int) ≤ ((l.length : Nat) : Int), (.slice (cutA av (k : Int).toNat c 2) (l.length - (k : Int).toNat) (c - (k : Int).toNat) : Value) = (.slice (cutA av k.toNat c 2) (l.length - k.toNat) (c - k.toNat) : Value)]) (Ac (by have := ((own_arr (hO.own _ (List.Mem.head _)))).le; omega) (Ao (by first | rfl | (simp; done) | (simp; omega)))) ?_
       clear hf; intro a hf
       refine wpList_nil ?_
       refine hK11 _ _ ?_
       refine wp_seq_k (fun K12 hK12 => ?_)
       refine wp_seq_k (fun K13 hK13 => ?_)
       refine wp_region_lit ?_
       refine q0 hf hM [4, 0, 3] [{}] (nw := [(5, eI 1)]) An ?_
       clear hf; intro a hf
       refine wpList_nil ?_
       refine hK13 _ _ ?_
       refine wp_block ?_
       have hf := (hf.prune [0, 3, 4, 5]).to (env' := [(0, eS av l.length c), (3, eI k), (4, eS (cutA av k.toNat c 2) (l.length - k.toNat) (c - k.toNat)), (5, eI 1)]) (by kernel_rfl)
       refine sxloop (fun zm a w1 => ∃ (m k2 : Int) (ll : List H2), zm = ((l.length : Int) - k2).toNat ∧ Fr 61 [(0, eS av l.length c), (3, eI m), (4, eS (cutA av k.toNat c 2) (l.length - k.toNat) (c - k.toNat)), (5, eI k2)] a ∧ MemOk [] w1 ∧ Keep (fun i => Value.ownBlock (.slice av l.length c) = some i) w w1 ∧ OwnOk base [] [⟨28, 2, .slice av l.length c, l.length, flat fH ll⟩] w1 ∧ (Cmp l ll m.toNat (k + k2).toNat) ∧ (0 ≤ m ∧ 1 ≤ k2)) _ ⟨k, 1, l, rfl, hf.conv (Ac rfl (Ac rfl (Ac rfl (Ao rfl)))), hM, hk0, hO, (by rw [show (k + 1).toNat = k.toNat + 1 by omega]; exact Cmp.start (d := ⟨0, 0⟩) (by omega) (by omega) hcp (by rw [show k.toNat - 1 = (k - 1).toNat by omega]; exact (eqc_hand (by omega)))), (by omega)⟩ ?_
       clear hf hM hk0 hO
       rintro _ a w2 ⟨m, k2, ll, rfl, hf, hM, hk0, hO, hct, hij⟩ L2 hL2
       have hl1 := hct.le; have hl2 := hct.jl; have hl3 := hct.len; have hl4 := hct.k1; have hl5 : (ll.drop k.toNat).length = ll.length - k.toNat := List.length_drop
       refine wp_seq_k (fun K14 hK14 => ?_)
       refine wp_seq_k (fun K15 hK15 => ?_)
       refine wp_region_lit ?_
       refine q0 hf hM [0, 3, 4, 5] [{}, {}, {}, {}] (nw := [(32, eB (decide ((k2 : Int) < (((l.length - k.toNat) : Nat) : Int))))]) An ?_
       clear hf; intro a hf
       refine wpList_nil ?_
       refine hK15 _ _ ?_
       refine qc hf (b := (decide ((k2 : Int) < (((l.length - k.toNat) : Nat) : Int)))) (fun hc4r => ?_) (fun hc4r => ?_)
       · have hc4 := (nT hc4r)
         refine wp_skip ?_
         refine hK14 _ _ ?_
         refine wp_seq_k (fun K16 hK16 => ?_)
         refine wp_block ?_
         refine wp_seq_k (fun K17 hK17 => ?_)
         replace hM := hM.drew; replace hk0 := hk0.drew; replace hO := hO.drew
         obtain ⟨C2, hC2i, hC2e⟩ := qcls fun w' => MemOk [] w' ∧ Keep (fun i => Value.ownBlock (.slice av l.length c) = some i) w w' ∧ OwnOk base [] [⟨28, 2, .slice av l.length c, l.length, flat fH ll⟩] w'
         refine sxdraw (C := C2) (.leaf [(0, true), (1, true), (2, true), (3, true), (4, true), (5, true), (6, true), (7, true), (8, true), (9, true)]) (by kernel_rfl) (by kernel_rfl) (by as_aux_lemma => kernel_rfl) rfl (by as_aux_lemma => kernel_rfl) (by kernel_rfl) (hC2i _ ⟨hM.sub (.slnil), hk0, hO.sub (.slnil) (.cons_cons _ .slnil)⟩) ?_
         refine sxleaf ?_
         have hC := (hC2i _ ⟨hM.sub (.slnil), hk0, hO.sub (.slnil) (.cons_cons _ .slnil)⟩)
         refine qd hf hC (fun w' h => (hC2e w' h).1) [0, 3, 4, 5] [{}, {}, { sp := true }, { os := [.ex (iV (((ll.drop k.toNat).getD k2.toNat ⟨0, 0⟩).i)), .ex (iV (((ll.drop k.toNat).getD k2.toNat ⟨0, 0⟩).g))] }, {}, {}, { hint := some (iV (k2 - 1)) }, { sp := true }, { os := [.ex (iV (((ll.drop k.toNat).getD (k2 - 1).toNat ⟨0, 0⟩).i)), .ex (iV (((ll.drop k.toNat).getD (k2 - 1).toNat ⟨0, 0⟩).g))] }, { sp := true, hint := some (bV (!((((((ll.drop k.toNat).getD k2.toNat ⟨0, 0⟩).i) : Int) == (((ll.drop k.toNat).getD (k2 - 1).toNat ⟨0, 0⟩).i)) && (((((ll.drop k.toNat).getD k2.toNat ⟨0, 0⟩).g) : Int) == (((ll.drop k.toNat).getD (k2 - 1).toNat ⟨0, 0⟩).g))))) }] (nw := [(44, eB (!((((((ll.drop k.toNat).getD k2.toNat ⟨0, 0⟩).i) : Int) == (((ll.drop k.toNat).getD (k2 - 1).toNat ⟨0, 0⟩).i)) && (((((ll.drop k.toNat).getD k2.toNat ⟨0, 0⟩).g) : Int) == (((ll.drop k.toNat).getD (k2 - 1).toNat ⟨0, 0⟩).g))))), (43, .val (.agg #[iV (((ll.drop k.toNat).getD (k2 - 1).toNat ⟨0, 0⟩).i), iV (((ll.drop k.toNat).getD (k2 - 1).toNat ⟨0, 0⟩).g)])), (42, .val (.pointer (some ((sa (cutA av k.toNat c 2) : Addr).add ((k2 - 1).toNat * 2))))), (41, eI (k2 - 1)), (40, eI k2), (39, eS (cutA av k.toNat c 2) (l.length - k.toNat) (c - k.toNat)), (38, .val (.agg #[iV (((ll.drop k.toNat).getD k2.toNat ⟨0, 0⟩).i), iV (((ll.drop k.toNat).getD k2.toNat ⟨0, 0⟩).g)])), (37, .val (.pointer (some ((sa (cutA av k.toNat c 2) : Addr).add (k2.toNat * 2))))), (36, eI k2), (35, eS (cutA av k.toNat c 2) (l.length - k.toNat) (c - k.toNat))]) (ob := [(0 : Int) ≤ k2 ∧ k2 < (((l.length - k.toNat) : Nat) : Int), (cutA av k.toNat c 2 : Option Addr).isSome = true, (∀ w', C2 w' → w'.cell? (((sa (cutA av k.toNat c 2) : Addr).add (k2.toNat * 2)).add 0) = some (iV (((ll.drop k.toNat).getD k2.toNat ⟨0, 0⟩).i))), (∀ w', C2 w' → w'.cell? (((sa (cutA av k.toNat c 2) : Addr).add (k2.toNat * 2)).add 1) = some (iV (((ll.drop k.toNat).getD k2.toNat ⟨0, 0⟩).g))), (iV (IntKind.i64.wrap (k2 - 1)) : Value) = (iV (k2 - 1) : Value), (0 : Int) ≤ (k2 - 1) ∧ (k2 - 1) < (((l.length - k.toNat) : Nat) : Int), (cutA av k.toNat c 2 : Option Addr).isSome = true, (∀ w', C2 w' → w'.cell? (((sa (cutA av k.toNat c 2) : Addr).add ((k2 - 1).toNat * 2)).add 0) = some (iV (((ll.drop k.toNat).getD (k2 - 1).toNat ⟨0, 0⟩).i))), (∀ w', C2 w' → w'.cell? (((sa (cutA av k.toNat c 2) : Addr).add ((k2 - 1).toNat * 2)).add 1) = some (iV (((ll.drop k.toNat).getD (k2 - 1).toNat ⟨0, 0⟩).g))), (bV (!((((((ll.drop k.toNat).getD k2.toNat ⟨0, 0⟩).i) : Int) == (((ll.drop k.toNat).getD (k2 - 1).toNat ⟨0, 0⟩).i)) && ((((((ll.drop k.toNat).getD k2.toNat ⟨0, 0⟩).g) : Int) == (((ll.drop k.toNat).getD (k2 - 1).toNat ⟨0, 0⟩).g)) && true))) : Value) = (bV (!((((((ll.drop k.toNat).getD k2.toNat ⟨0, 0⟩).i) : Int) == (((ll.drop k.toNat).getD (k2 - 1).toNat ⟨0, 0⟩).i)) && (((((ll.drop k.toNat).getD k2.toNat ⟨0, 0⟩).g) : Int) == (((ll.drop k.toNat).getD (k2 - 1).toNat ⟨0, 0⟩).g)))) : Value)]) (Ac (by first | omega | (simp; done)) (Ac ((Arr.dropf (m := k.toNat) (l := ll) (own_arr (hO.own _ (List.Mem.head _))) (fun _ => rfl) (by omega) (by omega)).some_ (by first | omega | (simp; done))) (Ac (fun w' hc => by obtain ⟨hM, hk0, hO⟩ := hC2e w' hc; exact ((Arr.dropf (m := k.toNat) (l := ll) (own_arr (hO.own _ (List.Mem.head _))) (fun _ => rfl) (by omega) (by omega)).get (fun _ => rfl) (by first | omega | (simp; done)) rfl)) (Ac (fun w' hc => by obtain ⟨hM, hk0, hO⟩ := hC2e w' hc; exact ((Arr.dropf (m := k.toNat) (l := ll) (own_arr (hO.own _ (List.Mem.head _))) (fun _ => rfl) (by omega) (by omega)).get (fun _ => rfl) (by first | omega | (simp; done)) rfl)) (Ac (wr (by omega)) (Ac (by first | omega | (simp; done)) (Ac ((Arr.dropf (m := k.toNat) (l := ll) (own_arr (hO.own _ (List.Mem.head _))) (fun _ => rfl) (by omega) (by omega)).some_ (by first | omega | (simp; done))) (Ac (fun w' hc => by obtain ⟨hM, hk0, hO⟩ := hC2e w' hc; exact ((Arr.dropf (m := k.toNat) (l := ll) (own_arr (hO.own _ (List.Mem.head _))) (fun _ => rfl) (by omega) (by omega)).get (fun _ => rfl) (by first | omega | (simp; done)) rfl)) (Ac (fun w' hc => by obtain ⟨hM, hk0, hO⟩ := hC2e w' hc; exact ((Arr.dropf (m := k.toNat) (l := ll) (own_arr (hO.own _ (List.Mem.head _))) (fun _ => rfl) (by omega) (by omega)).get (fun _ => rfl) (by first | omega | (simp; done)) rfl)) (Ao (by simp))))))))))) ?_
         clear hf; intro a hf
         clear hC
         show K17 _ _
         refine hK17 _ _ ?_
         refine qc hf (b := (!((((((ll.drop k.toNat).getD k2.toNat ⟨0, 0⟩).i) : Int) == (((ll.drop k.toNat).getD (k2 - 1).toNat ⟨0, 0⟩).i)) && (((((ll.drop k.toNat).getD k2.toNat ⟨0, 0⟩).g) : Int) == (((ll.drop k.toNat).getD (k2 - 1).toNat ⟨0, 0⟩).g))))) (fun hc5r => ?_) (fun hc5r => ?_)
         · have hc5 := hc5r
           try simp only [Bool.or_eq_true, Bool.and_eq_true, Bool.not_eq_true', Bool.not_eq_false', Bool.or_eq_false_iff, Bool.and_eq_false_iff, decide_eq_true_eq, decide_eq_false_iff_not, beq_iff_eq, bne_iff_ne, beq_eq_false_iff_ne, bne_eq_false_iff_eq, Bool.and_true, Bool.true_and, ne_eq] at hc5
           refine wp_seq_k (fun K18 hK18 => ?_)
           refine wp_region_lit ?_
           refine q0 hf hM [44, 43, 42, 41, 40, 39, 38, 37, 36, 35, 0, 3, 4, 5] [{}, {}, {}, {}, { sp := true }, { os := [.ex (iV (((ll.drop k.toNat).getD k2.toNat ⟨0, 0⟩).i)), .ex (iV (((ll.drop k.toNat).getD k2.toNat ⟨0, 0⟩).g))] }, { sp := true }] (nw := [(51, .val (.pointer (some ((sa av : Addr).add (m.toNat * 2))))), (50, .val (.agg #[iV (((ll.drop k.toNat).getD k2.toNat ⟨0, 0⟩).i), iV (((ll.drop k.toNat).getD k2.toNat ⟨0, 0⟩).g)]))]) (ob := [(0 : Int) ≤ k2 ∧ k2 < (((l.length - k.toNat) : Nat) : Int), (cutA av k.toNat c 2 : Option Addr).isSome = true, w2.drew.cell? (((sa (cutA av k.toNat c 2) : Addr).add (k2.toNat * 2)).add 0) = some (iV (((ll.drop k.toNat).getD k2.toNat ⟨0, 0⟩).i)), w2.drew.cell? (((sa (cutA av k.toNat c 2) : Addr).add (k2.toNat * 2)).add 1) = some (iV (((ll.drop k.toNat).getD k2.toNat ⟨0, 0⟩).g)), (0 : Int) ≤ m ∧ m < (l.length : Int), (av : Option Addr).isSome = true]) (Ac (by first | omega | (simp; done)) (Ac ((Arr.dropf (m := k.toNat) (l := ll) (own_arr (hO.own _ (List.Mem.head _))) (fun _ => rfl) (by omega) (by omega)).some_ (by first | omega | (simp; done))) (Ac ((Arr.dropf (m := k.toNat) (l := ll) (own_arr (hO.own _ (List.Mem.head _))) (fun _ => rfl) (by omega) (by omega)).get (fun _ => rfl) (by first | omega | (simp; done)) rfl) (Ac ((Arr.dropf (m := k.toNat) (l := ll) (own_arr (hO.own _ (List.Mem.head _))) (fun _ => rfl) (by omega) (by omega)).get (fun _ => rfl) (by first | omega | (simp; done)) rfl) (Ac (by first | omega | (simp; done)) (Ao ((own_arr (hO.own _ (List.Mem.head _))).some_ (by first | omega | (simp; done))))))))) ?_
           clear hf; intro a hf
           refine sxset hf hM hO rfl rfl rfl (val := .agg #[iV (((ll.drop k.toNat).getD k2.toNat ⟨0, 0⟩).i), iV (((ll.drop k.toNat).getD k2.toNat ⟨0, 0⟩).g)]) rfl rfl (i := m.toNat) (q := 0) (x := ⟨((ll.drop k.toNat).getD k2.toNat ⟨0, 0⟩).i, ((ll.drop k.toNat).getD k2.toNat ⟨0, 0⟩).g⟩) (d := ⟨0, 0⟩) rfl (by kernel_rfl) (fun _ => rfl) (by omega) hl3 rfl rfl rfl (by intro u hu; simp [Value.cells] at hu; first | (subst hu; rfl) | (rcases hu with rfl | rfl <;> rfl) | (rcases hu with rfl | rfl | rfl <;> rfl) | (rcases hu with rfl | rfl | rfl | rfl <;> rfl) | (rcases hu with rfl | rfl | rfl | rfl | rfl <;> rfl)) ?_
           clear hf; intro a w3 hf hM hO hk
           have hk0 := hk0.then hk (by intro i hi h; exact h)
           clear hk
           refine wpList_nil ?_
           refine hK18 _ _ ?_
           refine wp_region_lit ?_
           refine q0 hf hM [44, 43, 42, 41, 40, 39, 38, 37, 36, 35, 0, 4, 5] [{}, { hint := some (iV (m + 1)) }, {}] (nw := [(3, eI (m + 1))]) (ob := [(iV (IntKind.i64.wrap (m + 1)) : Value) = (iV (m + 1) : Value)]) (Ao (wr (by omega))) ?_
           clear hf; intro a hf
           refine wpList_nil ?_
           refine hK16 _ _ ?_
           refine wp_region_lit ?_
           refine q0 hf hM [3, 44, 43, 42, 41, 40, 39, 38, 37, 36, 35, 0, 4] [{}, { hint := some (iV (k2 + 1)) }, {}] (nw := [(5, eI (k2 + 1))]) (ob := [(iV (IntKind.i64.wrap (k2 + 1)) : Value) = (iV (k2 + 1) : Value)]) (Ao (wr (by omega))) ?_
           clear hf; intro a hf
           refine wpList_nil ?_
           have hd0 : (ll.drop k.toNat).getD k2.toNat ⟨0, 0⟩ = ll.getD (k + k2).toNat ⟨0, 0⟩ := by rw [getD_drop]; congr 1; omega
           have hd1 : (ll.drop k.toNat).getD (k2 - 1).toNat ⟨0, 0⟩ = ll.getD ((k + k2).toNat - 1) ⟨0, 0⟩ := by rw [getD_drop]; congr 1; omega
           have hct2 : Cmp l (ll.set m.toNat ⟨((ll.drop k.toNat).getD k2.toNat ⟨0, 0⟩).i, ((ll.drop k.toNat).getD k2.toNat ⟨0, 0⟩).g⟩) (m + 1).toNat (k + (k2 + 1)).toNat := by
             rw [show (k + (k2 + 1)).toNat = (k + k2).toNat + 1 by omega, show (m + 1).toNat = m.toNat + 1 by omega]
             have h1 : ll.getD (k + k2).toNat ⟨0, 0⟩ ≠ ll.getD ((k + k2).toNat - 1) ⟨0, 0⟩ := by rw [← hd0, ← hd1]; exact (nec_hand (by omega))
             have h2 := hct.keep (d := ⟨0, 0⟩) (by omega) h1
             rw [← hd0] at h2
             exact h2
           have hf := (hf.prune [0, 3, 4, 5]).to (env' := [(0, eS av l.length c), (3, eI (m + 1)), (4, eS (cutA av k.toNat c 2) (l.length - k.toNat) (c - k.toNat)), (5, eI (k2 + 1))]) (by kernel_rfl)
           refine hL2 _ _ _ (by omega) ⟨m + 1, k2 + 1, (ll.set m.toNat ⟨((ll.drop k.toNat).getD k2.toNat ⟨0, 0⟩).i, ((ll.drop k.toNat).getD k2.toNat ⟨0, 0⟩).g⟩), rfl, hf.conv (Ac rfl (Ac rfl (Ac rfl (Ao rfl)))), hM, hk0, hO, hct2, (by omega)⟩
         · have hc5 := hc5r
           try simp only [Bool.or_eq_true, Bool.and_eq_true, Bool.not_eq_true', Bool.not_eq_false', Bool.or_eq_false_iff, Bool.and_eq_false_iff, decide_eq_true_eq, decide_eq_false_iff_not, beq_iff_eq, bne_iff_ne, beq_eq_false_iff_ne, bne_eq_false_iff_eq, Bool.and_true, Bool.true_and, ne_eq] at hc5
           refine wp_skip ?_
           refine hK16 _ _ ?_
           refine wp_region_lit ?_
           refine q0 hf hM [44, 43, 42, 41, 40, 39, 38, 37, 36, 35, 0, 3, 4] [{}, { hint := some (iV (k2 + 1)) }, {}] (nw := [(5, eI (k2 + 1))]) (ob := [(iV (IntKind.i64.wrap (k2 + 1)) : Value) = (iV (k2 + 1) : Value)]) (Ao (wr (by omega))) ?_
           clear hf; intro a hf
           refine wpList_nil ?_
           have hd0 : (ll.drop k.toNat).getD k2.toNat ⟨0, 0⟩ = ll.getD (k + k2).toNat ⟨0, 0⟩ := by rw [getD_drop]; congr 1; omega
           have hd1 : (ll.drop k.toNat).getD (k2 - 1).toNat ⟨0, 0⟩ = ll.getD ((k + k2).toNat - 1) ⟨0, 0⟩ := by rw [getD_drop]; congr 1; omega
           have hct2 : Cmp l ll m.toNat (k + (k2 + 1)).toNat := by
             rw [show (k + (k2 + 1)).toNat = (k + k2).toNat + 1 by omega]
             have h1 : ll.getD (k + k2).toNat ⟨0, 0⟩ = ll.getD ((k + k2).toNat - 1) ⟨0, 0⟩ := by rw [← hd0, ← hd1]; exact (eqc_hand (by omega))
             exact hct.skip (d := ⟨0, 0⟩) (by omega) h1
           have hf := (hf.prune [0, 3, 4, 5]).to (env' := [(0, eS av l.length c), (3, eI m), (4, eS (cutA av k.toNat c 2) (l.length - k.toNat) (c - k.toNat)), (5, eI (k2 + 1))]) (by kernel_rfl)
           refine hL2 _ _ _ (by omega) ⟨m, k2 + 1, ll, rfl, hf.conv (Ac rfl (Ac rfl (Ac rfl (Ao rfl)))), hM, hk0, hO, hct2, (by omega)⟩
       · have hc4 := (nU hc4r)
         refine wp_exit ?_
         refine hK12 _ _ ?_
         refine wp_seq_k (fun K19 hK19 => ?_)
         refine wp_region_lit ?_
         refine q0 hf hM [0, 3] [{}, {}, { sp := true, hint := some (.slice (cutA av m.toNat c 2) (l.length - m.toNat) (c - m.toNat)) }] (nw := [(56, eS (cutA av m.toNat c 2) (l.length - m.toNat) (c - m.toNat))]) (ob := [0 ≤ (m : Int) ∧ (m : Int) ≤ ((l.length : Nat) : Int), (.slice (cutA av (m : Int).toNat c 2) (l.length - (m : Int).toNat) (c - (m : Int).toNat) : Value) = (.slice (cutA av m.toNat c 2) (l.length - m.toNat) (c - m.toNat) : Value)]) (Ac (by have := ((own_arr (hO.own _ (List.Mem.head _)))).le; omega) (Ao (by first | rfl | (simp; done) | (simp; omega)))) ?_
         clear hf; intro a hf
         refine sxclear hf hM hO rfl rfl rfl (m := m.toNat) rfl Try.underlying22 (z := (⟨0, 0⟩ : H2)) (by kernel_rfl) (fun _ => rfl) fH_one rfl (by omega) ?_
         clear hf; intro a w4 hf hM hO hk
         have hk0 := hk0.then hk (by intro i hi h; exact h)
         clear hk
         refine wpList_nil ?_
         refine hK19 _ _ ?_
         refine wp_seq_k (fun K20 hK20 => ?_)
         refine wp_region_lit ?_
         refine q0 hf hM [] [{}, {}] (nw := [(58, eI m), (57, eS av l.length c)]) An ?_
         clear hf; intro a hf
         refine sxval hf rfl rfl rfl rfl (v := .slice av m.toNat c) (ob := []) (by kernel_rfl) An (by rw [show (.slice av m.toNat c : Value) = .slice av (m : Int).toNat c from (by simp)]; exact ox_slice_h rfl rfl rfl Try.underlying22 (sz := 2) (by kernel_rfl) (by have := ((own_arr (hO.own _ (List.Mem.head _)))).le; omega)) ?_
         clear hf; intro a hf
         have hO := hO.cut (fun _ => rfl) (m := m.toNat) (by omega)
         replace hO : OwnOk base [] [⟨28, 2, .slice av m.toNat c, m.toNat, flat fH ((ll.take m.toNat ++ List.replicate (l.length - m.toNat) (⟨0, 0⟩ : H2)).take m.toNat)⟩] w4 := hO
         have el : ((ll.take m.toNat ++ List.replicate (l.length - m.toNat) (⟨0, 0⟩ : H2)).take m.toNat) = (comp l) := (hct.done (by omega) _)
         rw [el] at hO; clear el
         have en : (m.toNat : Nat) = (comp l).length := (hct.lenEq (by omega))
         replace hO := hO.lenTo en
         have hf := (hf.prune [59, 58, 57]).to (env' := [(59, eS av m.toNat c), (58, eI m), (57, eS av l.length c)]) (by kernel_rfl)
         replace hf : Fr 61 [(59, eS av (comp l).length c), (58, eI m), (57, eS av l.length c)] a := hf.conv (Ac (by rw [en]; rfl) (Ac rfl (Ao rfl)))
         clear en
         replace hO : OwnOk base [] [⟨28, 2, .slice av (comp l).length c, (comp l).length, flat fH (comp l)⟩] w4 := hO
         refine q0 hf hM [] [{}] (nw := [(2, eS av (comp l).length c)]) An ?_
         clear hf; intro a hf
         refine wpList_nil ?_
         refine hK20 _ _ ?_
         refine wp_ret ?_
         refine qr (fn := Try.f52) hf hM [] (l := [.slice av (comp l).length c]) (ob := []) An ?_
         show (.slice av (comp l).length c : Value) = .slice av (comp l).length c ∧ World.ownsRow w4 base 28 2 (.slice av (comp l).length c) (comp l).length (flat fH (comp l)) ∧ Keep (fun i => Value.ownBlock (.slice av l.length c) = some i) w w4
         exact ⟨rfl, hO.own _ (List.Mem.head _), hk0⟩
     · have hc3 := hc3r
       try simp only [Bool.or_eq_true, Bool.and_eq_true, Bool.not_eq_true', Bool.not_eq_false', Bool.or_eq_false_iff, Bool.and_eq_false_iff, decide_eq_true_eq, decide_eq_false_iff_not, beq_iff_eq, bne_iff_ne, beq_eq_false_iff_ne, bne_eq_false_iff_eq, Bool.and_true, Bool.true_and, ne_eq] at hc3
       refine wp_skip ?_
       refine hK9 _ _ ?_
       refine wp_region_lit ?_
       refine q0 hf hM [25, 24, 23, 22, 21, 20, 19, 18, 17, 16, 0] [{}, { hint := some (iV (k + 1)) }, {}] (nw := [(3, eI (k + 1))]) (ob := [(iV (IntKind.i64.wrap (k + 1)) : Value) = (iV (k + 1) : Value)]) (Ao (wr (by omega))) ?_
       clear hf; intro a hf
       refine wpList_nil ?_
       have hcp2 : comp (l.take (k + 1).toNat) = l.take (k + 1).toNat := by
         have h1 := comp_go (d := ⟨0, 0⟩) (l := l) (k := k.toNat) (by omega) (by omega) hcp (by rw [show k.toNat - 1 = (k - 1).toNat by omega]; exact (nec_hand (by omega)))
         rw [show (k + 1).toNat = k.toNat + 1 by omega]
         exact h1
       have hf := (hf.prune [0, 3]).to (env' := [(0, eS av l.length c), (3, eI (k + 1))]) (by kernel_rfl)
       refine hL1 _ _ _ (by omega) ⟨k + 1, rfl, hf.conv (Ac rfl (Ao rfl)), hM, hk0, hO, (by omega), hcp2⟩
   · have hc2 := (nU hc2r)
     refine wp_exit ?_
     refine hK5 _ _ ?_
     refine wp_seq_k (fun K21 hK21 => ?_)
     refine wp_region_lit ?_
     refine q0 hf hM [] [{}, {}] (nw := [(2, eS av l.length c)]) An ?_
     clear hf; intro a hf
     refine wpList_nil ?_
     refine hK21 _ _ ?_
     refine wp_ret ?_
     refine qr (fn := Try.f52) hf hM [] (l := [.slice av l.length c]) (ob := []) An ?_
     show (.slice av l.length c : Value) = .slice av (comp l).length c ∧ World.ownsRow w1 base 28 2 (.slice av (comp l).length c) (comp l).length (flat fH (comp l)) ∧ Keep (fun i => Value.ownBlock (.slice av l.length c) = some i) w w1
     first
       | (rw [comp_one l (by omega)]; exact ⟨rfl, hO.own _ (List.Mem.head _), hk0⟩)
       | (have e : comp l = l := by have h1 : l.take k.toNat = l := List.take_of_length_le (by omega)
                                    rw [h1] at hcp; exact hcp
          rw [e]; exact ⟨rfl, hO.own _ (List.Mem.head _), hk0⟩)

set_option maxRecDepth 10000 in
set_option maxHeartbeats 1600000 in
theorem compact_pair (base : Nat) (av : Option Addr) (l : List P4) (c : Nat) (w : World) (hown : w.ownsRow base 31 4 (.slice av l.length c) l.length (flat fP l)) (hbw : base ≤ w.heap.size) (hbav : l.length ≤ 1000000) :
    Calls Try.prog 56 #[.slice av l.length c] w (Ret fun v w' => v = .slice av (comp l).length c ∧ World.ownsRow w' base 31 4 (.slice av (comp l).length c) (comp l).length (flat fP (comp l)) ∧ Keep (fun i => Value.ownBlock (.slice av l.length c) = some i) w w') := by
 refine sxenter (n := 61) (args := [.slice av l.length c]) Try.func56 rfl rfl rfl fun a hf => ?_
 replace hf : Fr 61 [(0, eS av l.length c)] a := hf
 have hM : MemOk [] w := MemOk.nil w
 have hk0 : Keep (fun i => Value.ownBlock (.slice av l.length c) = some i) w w := Keep.refl _ _
 have hO : OwnOk base [] [⟨31, 4, .slice av l.length c, l.length, flat fP l⟩] w := OwnOk.one hown
 refine wp_seq_k (fun K1 hK1 => ?_)
 refine wp_region_lit ?_
 refine q0 hf hM [0] [{}] (nw := []) An ?_
 clear hf; intro a hf
 refine wpList_nil ?_
 refine hK1 _ _ ?_
 refine wp_seq_k (fun K2 hK2 => ?_)
 refine wp_seq_k (fun K3 hK3 => ?_)
 refine wp_region_lit ?_
 refine q0 hf hM [0] [{}, {}, {}] (nw := [(8, eB (decide (((l.length : Int) : Int) < 2)))]) An ?_
 clear hf; intro a hf
 refine wpList_nil ?_
 refine hK3 _ _ ?_
 refine qc hf (b := (decide (((l.length : Int) : Int) < 2))) (fun hc1r => ?_) (fun hc1r => ?_)
 · have hc1 := (nT hc1r)
   refine wp_seq_k (fun K4 hK4 => ?_)
   refine wp_region_lit ?_
   refine q0 hf hM [] [{}, {}] (nw := [(2, eS av l.length c)]) An ?_
   clear hf; intro a hf
   refine wpList_nil ?_
   refine hK4 _ _ ?_
   refine wp_ret ?_
   refine qr (fn := Try.f56) hf hM [] (l := [.slice av l.length c]) (ob := []) An ?_
   show (.slice av l.length c : Value) = .slice av (comp l).length c ∧ World.ownsRow w base 31 4 (.slice av (comp l).length c) (comp l).length (flat fP (comp l)) ∧ Keep (fun i => Value.ownBlock (.slice av l.length c) = some i) w w
   first
     | (rw [comp_one l (by omega)]; exact ⟨rfl, hO.own _ (List.Mem.head _), hk0⟩)
     | (have e : comp l = l := by have h1 : l.take k.toNat = l := List.take_of_length_le (by omega)
                                  rw [h1] at hcp; exact hcp
        rw [e]; exact ⟨rfl, hO.own _ (List.Mem.head _), hk0⟩)
 · have hc1 := (nU hc1r)
   refine wp_skip ?_
   refine hK2 _ _ ?_
   refine wp_seq_k (fun K5 hK5 => ?_)
   refine wp_seq_k (fun K6 hK6 => ?_)
   refine wp_region_lit ?_
   refine q0 hf hM [0] [{}] (nw := [(3, eI 1)]) An ?_
   clear hf; intro a hf
   refine wpList_nil ?_
   refine hK6 _ _ ?_
   refine wp_block ?_
   have hf := (hf.prune [0, 3]).to (env' := [(0, eS av l.length c), (3, eI 1)]) (by kernel_rfl)
   refine sxloop (fun zm a w1 => ∃ (k : Int), zm = ((l.length : Int) - k).toNat ∧ Fr 61 [(0, eS av l.length c), (3, eI k)] a ∧ MemOk [] w1 ∧ Keep (fun i => Value.ownBlock (.slice av l.length c) = some i) w w1 ∧ OwnOk base [] [⟨31, 4, .slice av l.length c, l.length, flat fP l⟩] w1 ∧ (1 ≤ k ∧ k ≤ (l.length : Int)) ∧ (comp (l.take k.toNat) = l.take k.toNat)) _ ⟨1, rfl, hf.conv (Ac rfl (Ao rfl)), hM, hk0, hO, (by omega), (comp_one _ (by rw [List.length_take]; omega))⟩ ?_
   clear hf hM hk0 hO
   rintro _ a w1 ⟨k, rfl, hf, hM, hk0, hO, hkk, hcp⟩ L1 hL1
   refine wp_seq_k (fun K7 hK7 => ?_)
   refine wp_seq_k (fun K8 hK8 => ?_)
   refine wp_region_lit ?_
   refine q0 hf hM [0, 3] [{}, {}, {}, {}] (nw := [(13, eB (decide ((k : Int) < (l.length : Int))))]) An ?_
   clear hf; intro a hf
   refine wpList_nil ?_
   refine hK8 _ _ ?_
   refine qc hf (b := (decide ((k : Int) < (l.length : Int)))) (fun hc2r => ?_) (fun hc2r => ?_)
   · have hc2 := (nT hc2r)
     refine wp_skip ?_
     refine hK7 _ _ ?_
     refine wp_seq_k (fun K9 hK9 => ?_)
     refine wp_block ?_
     refine wp_seq_k (fun K10 hK10 => ?_)
     replace hM := hM.drew; replace hk0 := hk0.drew; replace hO := hO.drew
     obtain ⟨C1, hC1i, hC1e⟩ := qcls fun w' => MemOk [] w' ∧ Keep (fun i => Value.ownBlock (.slice av l.length c) = some i) w w' ∧ OwnOk base [] [⟨31, 4, .slice av l.length c, l.length, flat fP l⟩] w'
     refine sxdraw (C := C1) (.leaf [(0, true), (1, true), (2, true), (3, true), (4, true), (5, true), (6, true), (7, true), (8, true), (9, true)]) (by kernel_rfl) (by kernel_rfl) (by as_aux_lemma => kernel_rfl) rfl (by as_aux_lemma => kernel_rfl) (by kernel_rfl) (hC1i _ ⟨hM.sub (.slnil), hk0, hO.sub (.slnil) (.cons_cons _ .slnil)⟩) ?_
     refine sxleaf ?_
     have hC := (hC1i _ ⟨hM.sub (.slnil), hk0, hO.sub (.slnil) (.cons_cons _ .slnil)⟩)
     refine qd hf hC (fun w' h => (hC1e w' h).1) [0, 3] [{}, {}, { sp := true }, { os := [.ex (iV (l.getD k.toNat ⟨⟨0, 0⟩, ⟨0, 0⟩⟩).a.i), .ex (iV (l.getD k.toNat ⟨⟨0, 0⟩, ⟨0, 0⟩⟩).a.g), .ex (iV (l.getD k.toNat ⟨⟨0, 0⟩, ⟨0, 0⟩⟩).b.i), .ex (iV (l.getD k.toNat ⟨⟨0, 0⟩, ⟨0, 0⟩⟩).b.g)] }, {}, {}, { hint := some (iV (k - 1)) }, { sp := true }, { os := [.ex (iV ((l.getD (k - 1).toNat ⟨⟨0, 0⟩, ⟨0, 0⟩⟩).a.i)), .ex (iV ((l.getD (k - 1).toNat ⟨⟨0, 0⟩, ⟨0, 0⟩⟩).a.g)), .ex (iV ((l.getD (k - 1).toNat ⟨⟨0, 0⟩, ⟨0, 0⟩⟩).b.i)), .ex (iV ((l.getD (k - 1).toNat ⟨⟨0, 0⟩, ⟨0, 0⟩⟩).b.g))] }, { sp := true, hint := some (bV ((((l.getD k.toNat ⟨⟨0, 0⟩, ⟨0, 0⟩⟩).a.i : Int) == ((l.getD (k - 1).toNat ⟨⟨0, 0⟩, ⟨0, 0⟩⟩).a.i)) && ((((l.getD k.toNat ⟨⟨0, 0⟩, ⟨0, 0⟩⟩).a.g : Int) == ((l.getD (k - 1).toNat ⟨⟨0, 0⟩, ⟨0, 0⟩⟩).a.g)) && ((((l.getD k.toNat ⟨⟨0, 0⟩, ⟨0, 0⟩⟩).b.i : Int) == ((l.getD (k - 1).toNat ⟨⟨0, 0⟩, ⟨0, 0⟩⟩).b.i)) && (((l.getD k.toNat ⟨⟨0, 0⟩, ⟨0, 0⟩⟩).b.g : Int) == ((l.getD (k - 1).toNat ⟨⟨0, 0⟩, ⟨0, 0⟩⟩).b.g)))))) }] (nw := [(25, eB ((((l.getD k.toNat ⟨⟨0, 0⟩, ⟨0, 0⟩⟩).a.i : Int) == ((l.getD (k - 1).toNat ⟨⟨0, 0⟩, ⟨0, 0⟩⟩).a.i)) && ((((l.getD k.toNat ⟨⟨0, 0⟩, ⟨0, 0⟩⟩).a.g : Int) == ((l.getD (k - 1).toNat ⟨⟨0, 0⟩, ⟨0, 0⟩⟩).a.g)) && ((((l.getD k.toNat ⟨⟨0, 0⟩, ⟨0, 0⟩⟩).b.i : Int) == ((l.getD (k - 1).toNat ⟨⟨0, 0⟩, ⟨0, 0⟩⟩).b.i)) && (((l.getD k.toNat ⟨⟨0, 0⟩, ⟨0, 0⟩⟩).b.g : Int) == ((l.getD (k - 1).toNat ⟨⟨0, 0⟩, ⟨0, 0⟩⟩).b.g)))))), (24, .val (.agg #[iV ((l.getD (k - 1).toNat ⟨⟨0, 0⟩, ⟨0, 0⟩⟩).a.i), iV ((l.getD (k - 1).toNat ⟨⟨0, 0⟩, ⟨0, 0⟩⟩).a.g), iV ((l.getD (k - 1).toNat ⟨⟨0, 0⟩, ⟨0, 0⟩⟩).b.i), iV ((l.getD (k - 1).toNat ⟨⟨0, 0⟩, ⟨0, 0⟩⟩).b.g)])), (23, .val (.pointer (some ((sa av : Addr).add ((k - 1).toNat * 4))))), (22, eI (k - 1)), (21, eI k), (20, eS av l.length c), (19, .val (.agg #[iV (l.getD k.toNat ⟨⟨0, 0⟩, ⟨0, 0⟩⟩).a.i, iV (l.getD k.toNat ⟨⟨0, 0⟩, ⟨0, 0⟩⟩).a.g, iV (l.getD k.toNat ⟨⟨0, 0⟩, ⟨0, 0⟩⟩).b.i, iV (l.getD k.toNat ⟨⟨0, 0⟩, ⟨0, 0⟩⟩).b.g])), (18, .val (.pointer (some ((sa av : Addr).add (k.toNat * 4))))), (17, eI k), (16, eS av l.length c)]) (ob := [(0 : Int) ≤ k ∧ k < (l.length : Int), (av : Option Addr).isSome = true, (∀ w', C1 w' → w'.cell? (((sa av : Addr).add (k.toNat * 4)).add 0) = some (iV (l.getD k.toNat ⟨⟨0, 0⟩, ⟨0, 0⟩⟩).a.i)), (∀ w', C1 w' → w'.cell? (((sa av : Addr).add (k.toNat * 4)).add 1) = some (iV (l.getD k.toNat ⟨⟨0, 0⟩, ⟨0, 0⟩⟩).a.g)), (∀ w', C1 w' → w'.cell? (((sa av : Addr).add (k.toNat * 4)).add 2) = some (iV (l.getD k.toNat ⟨⟨0, 0⟩, ⟨0, 0⟩⟩).b.i)), (∀ w', C1 w' → w'.cell? (((sa av : Addr).add (k.toNat * 4)).add 3) = some (iV (l.getD k.toNat ⟨⟨0, 0⟩, ⟨0, 0⟩⟩).b.g)), (iV (IntKind.i64.wrap (k - 1)) : Value) = (iV (k - 1) : Value), (0 : Int) ≤ (k - 1) ∧ (k - 1) < (l.length : Int), (av : Option Addr).isSome = true, (∀ w', C1 w' → w'.cell? (((sa av : Addr).add ((k - 1).toNat * 4)).add 0) = some (iV ((l.getD (k - 1).toNat ⟨⟨0, 0⟩, ⟨0, 0⟩⟩).a.i))), (∀ w', C1 w' → w'.cell? (((sa av : Addr).add ((k - 1).toNat * 4)).add 1) = some (iV ((l.getD (k - 1).toNat ⟨⟨0, 0⟩, ⟨0, 0⟩⟩).a.g))), (∀ w', C1 w' → w'.cell? (((sa av : Addr).add ((k - 1).toNat * 4)).add 2) = some (iV ((l.getD (k - 1).toNat ⟨⟨0, 0⟩, ⟨0, 0⟩⟩).b.i))), (∀ w', C1 w' → w'.cell? (((sa av : Addr).add ((k - 1).toNat * 4)).add 3) = some (iV ((l.getD (k - 1).toNat ⟨⟨0, 0⟩, ⟨0, 0⟩⟩).b.g))), (bV (((((l.getD k.toNat ⟨⟨0, 0⟩, ⟨0, 0⟩⟩).a.i : Int) == ((l.getD (k - 1).toNat ⟨⟨0, 0⟩, ⟨0, 0⟩⟩).a.i)) && ((((l.getD k.toNat ⟨⟨0, 0⟩, ⟨0, 0⟩⟩).a.g : Int) == ((l.getD (k - 1).toNat ⟨⟨0, 0⟩, ⟨0, 0⟩⟩).a.g)) && true)) && (((((l.getD k.toNat ⟨⟨0, 0⟩, ⟨0, 0⟩⟩).b.i : Int) == ((l.getD (k - 1).toNat ⟨⟨0, 0⟩, ⟨0, 0⟩⟩).b.i)) && ((((l.getD k.toNat ⟨⟨0, 0⟩, ⟨0, 0⟩⟩).b.g : Int) == ((l.getD (k - 1).toNat ⟨⟨0, 0⟩, ⟨0, 0⟩⟩).b.g)) && true)) && true)) : Value) = (bV ((((l.getD k.toNat ⟨⟨0, 0⟩, ⟨0, 0⟩⟩).a.i : Int) == ((l.getD (k - 1).toNat ⟨⟨0, 0⟩, ⟨0, 0⟩⟩).a.i)) && ((((l.getD k.toNat ⟨⟨0, 0⟩, ⟨0, 0⟩⟩).a.g : Int) == ((l.getD (k - 1).toNat ⟨⟨0, 0⟩, ⟨0, 0⟩⟩).a.g)) && ((((l.getD k.toNat ⟨⟨0, 0⟩, ⟨0, 0⟩⟩).b.i : Int) == ((l.getD (k - 1).toNat ⟨⟨0, 0⟩, ⟨0, 0⟩⟩).b.i)) && (((l.getD k.toNat ⟨⟨0, 0⟩, ⟨0, 0⟩⟩).b.g : Int) == ((l.getD (k - 1).toNat ⟨⟨0, 0⟩, ⟨0, 0⟩⟩).b.g))))) : Value)]) (Ac (by first | omega | (simp; done)) (Ac ((own_arr (hO.own _ (List.Mem.head _))).some_ (by first | omega | (simp; done))) (Ac (fun w' hc => by obtain ⟨hM, hk0, hO⟩ := hC1e w' hc; exact ((own_arr (hO.own _ (List.Mem.head _))).get (fun _ => rfl) (by first | omega | (simp; done)) rfl)) (Ac (fun w' hc => by obtain ⟨hM, hk0, hO⟩ := hC1e w' hc; exact ((own_arr (hO.own _ (List.Mem.head _))).get (fun _ => rfl) (by first | omega | (simp; done)) rfl)) (Ac (fun w' hc => by obtain ⟨hM, hk0, hO⟩ := hC1e w' hc; exact ((own_arr (hO.own _ (List.Mem.head _))).get (fun _ => rfl) (by first | omega | (simp; done)) rfl)) (Ac (fun w' hc => by obtain ⟨hM, hk0, hO⟩ := hC1e w' hc; exact ((own_arr (hO.own _ (List.Mem.head _))).get (fun _ => rfl) (by first | omega | (simp; done)) rfl)) (Ac (wr (by omega)) (Ac (by first | omega | (simp; done)) (Ac ((own_arr (hO.own _ (List.Mem.head _))).some_ (by first | omega | (simp; done))) (Ac (fun w' hc => by obtain ⟨hM, hk0, hO⟩ := hC1e w' hc; exact ((own_arr (hO.own _ (List.Mem.head _))).get (fun _ => rfl) (by first | omega | (simp; done)) rfl)) (Ac (fun w' hc => by obtain ⟨hM, hk0, hO⟩ := hC1e w' hc; exact ((own_arr (hO.own _ (List.Mem.head _))).get (fun _ => rfl) (by first | omega | (simp; done)) rfl)) (Ac (fun w' hc => by obtain ⟨hM, hk0, hO⟩ := hC1e w' hc; exact ((own_arr (hO.own _ (List.Mem.head _))).get (fun _ => rfl) (by first | omega | (simp; done)) rfl)) (Ac (fun w' hc => by obtain ⟨hM, hk0, hO⟩ := hC1e w' hc; exact ((own_arr (hO.own _ (List.Mem.head _))).get (fun _ => rfl) (by first | omega | (simp; done)) rfl)) (Ao (by simp [Bool.and_assoc, Bool.or_assoc]))))))))))))))) ?_
     clear hf; intro a hf
     clear hC
     show K10 _ _
     refine hK10 _ _ ?_
     refine qc hf (b := ((((l.getD k.toNat ⟨⟨0, 0⟩, ⟨0, 0⟩⟩).a.i : Int) == ((l.getD (k - 1).toNat ⟨⟨0, 0⟩, ⟨0, 0⟩⟩).a.i)) && ((((l.getD k.toNat ⟨⟨0, 0⟩, ⟨0, 0⟩⟩).a.g : Int) == ((l.getD (k - 1).toNat ⟨⟨0, 0⟩, ⟨0, 0⟩⟩).a.g)) && ((((l.getD k.toNat ⟨⟨0, 0⟩, ⟨0, 0⟩⟩).b.i : Int) == ((l.getD (k - 1).toNat ⟨⟨0, 0⟩, ⟨0, 0⟩⟩).b.i)) && (((l.getD k.toNat ⟨⟨0, 0⟩, ⟨0, 0⟩⟩).b.g : Int) == ((l.getD (k - 1).toNat ⟨⟨0, 0⟩, ⟨0, 0⟩⟩).b.g)))))) (fun hc3r => ?_) (fun hc3r => ?_)
     · have hc3 := hc3r
       try simp only [Bool.or_eq_true, Bool.and_eq_true, Bool.not_eq_true', Bool.not_eq_false', Bool.or_eq_false_iff, Bool.and_eq_false_iff, decide_eq_true_eq, decide_eq_false_iff_not, beq_iff_eq, bne_iff_ne, beq_eq_false_iff_ne, bne_eq_false_iff_eq, Bool.and_true, Bool.true_and, ne_eq] at hc3
       refine wp_seq_k (fun K11 hK11 => ?_)
       refine wp_region_lit ?_
       refine q0 hf hM [0, 3] [{}, {}, { sp := true, hint := some (.slice (cutA av k.toNat c 4) (l.length - k.toNat) (c - k.toNat)) }, {}] (nw := [(4, eS (cutA av k.toNat c 4) (l.length - k.toNat) (c - k.toNat))]) (ob := [0 ≤ (k : Int) ∧ (k : Int) ≤ ((l.length : Nat) : Int), (.slice (cutA av (k : Int).toNat c 4) (l.length - (k : Int).toNat) (c - (k : Int).toNat) : Value) = (.slice (cutA av k.toNat c 4) (l.length - k.toNat) (c - k.toNat) : Value)]) (Ac (by have := ((own_arr (hO.own _ (List.Mem.head _)))).le; omega) (Ao (by first | rfl | (simp; done) | (simp; omega)))) ?_
       clear hf; intro a hf
       refine wpList_nil ?_
       refine hK11 _ _ ?_
       refine wp_seq_k (fun K12 hK12 => ?_)
       refine wp_seq_k (fun K13 hK13 => ?_)
       refine wp_region_lit ?_
       refine q0 hf hM [4, 0, 3] [{}] (nw := [(5, eI 1)]) An ?_
       clear hf; intro a hf
       refine wpList_nil ?_
       refine hK13 _ _ ?_
       refine wp_block ?_
       have hf := (hf.prune [0, 3, 4, 5]).to (env' := [(0, eS av l.length c), (3, eI k), (4, eS (cutA av k.toNat c 4) (l.length - k.toNat) (c - k.toNat)), (5, eI 1)]) (by kernel_rfl)
       refine sxloop (fun zm a w1 => ∃ (m k2 : Int) (ll : List P4), zm = ((l.length : Int) - k2).toNat ∧ Fr 61 [(0, eS av l.length c), (3, eI m), (4, eS (cutA av k.toNat c 4) (l.length - k.toNat) (c - k.toNat)), (5, eI k2)] a ∧ MemOk [] w1 ∧ Keep (fun i => Value.ownBlock (.slice av l.length c) = some i) w w1 ∧ OwnOk base [] [⟨31, 4, .slice av l.length c, l.length, flat fP ll⟩] w1 ∧ (Cmp l ll m.toNat (k + k2).toNat) ∧ (0 ≤ m ∧ 1 ≤ k2)) _ ⟨k, 1, l, rfl, hf.conv (Ac rfl (Ac rfl (Ac rfl (Ao rfl)))), hM, hk0, hO, (by rw [show (k + 1).toNat = k.toNat + 1 by omega]; exact Cmp.start (d := ⟨⟨0, 0⟩, ⟨0, 0⟩⟩) (by omega) (by omega) hcp (by rw [show k.toNat - 1 = (k - 1).toNat by omega]; exact (eqc_pair (by omega)))), (by omega)⟩ ?_
       clear hf hM hk0 hO
       rintro _ a w2 ⟨m, k2, ll, rfl, hf, hM, hk0, hO, hct, hij⟩ L2 hL2
       have hl1 := hct.le; have hl2 := hct.jl; have hl3 := hct.len; have hl4 := hct.k1; have hl5 : (ll.drop k.toNat).length = ll.length - k.toNat := List.length_drop
       refine wp_seq_k (fun K14 hK14 => ?_)
       refine wp_seq_k (fun K15 hK15 => ?_)
       refine wp_region_lit ?_
       refine q0 hf hM [0, 3, 4, 5] [{}, {}, {}, {}] (nw := [(32, eB (decide ((k2 : Int) < (((l.length - k.toNat) : Nat) : Int))))]) An ?_
       clear hf; intro a hf
       refine wpList_nil ?_
       refine hK15 _ _ ?_
       refine qc hf (b := (decide ((k2 : Int) < (((l.length - k.toNat) : Nat) : Int)))) (fun hc4r => ?_) (fun hc4r => ?_)
       · have hc4 := (nT hc4r)
         refine wp_skip ?_
         refine hK14 _ _ ?_
         refine wp_seq_k (fun K16 hK16 => ?_)
         refine wp_block ?_
         refine wp_seq_k (fun K17 hK17 => ?_)
         replace hM := hM.drew; replace hk0 := hk0.drew; replace hO := hO.drew
         obtain ⟨C2, hC2i, hC2e⟩ := qcls fun w' => MemOk [] w' ∧ Keep (fun i => Value.ownBlock (.slice av l.length c) = some i) w w' ∧ OwnOk base [] [⟨31, 4, .slice av l.length c, l.length, flat fP ll⟩] w'
         refine sxdraw (C := C2) (.leaf [(0, true), (1, true), (2, true), (3, true), (4, true), (5, true), (6, true), (7, true), (8, true), (9, true)]) (by kernel_rfl) (by kernel_rfl) (by as_aux_lemma => kernel_rfl) rfl (by as_aux_lemma => kernel_rfl) (by kernel_rfl) (hC2i _ ⟨hM.sub (.slnil), hk0, hO.sub (.slnil) (.cons_cons _ .slnil)⟩) ?_
         refine sxleaf ?_
         have hC := (hC2i _ ⟨hM.sub (.slnil), hk0, hO.sub (.slnil) (.cons_cons _ .slnil)⟩)
         refine qd hf hC (fun w' h => (hC2e w' h).1) [0, 3, 4, 5] [{}, {}, { sp := true }, { os := [.ex (iV (((ll.drop k.toNat).getD k2.toNat ⟨⟨0, 0⟩, ⟨0, 0⟩⟩).a.i)), .ex (iV (((ll.drop k.toNat).getD k2.toNat ⟨⟨0, 0⟩, ⟨0, 0⟩⟩).a.g)), .ex (iV (((ll.drop k.toNat).getD k2.toNat ⟨⟨0, 0⟩, ⟨0, 0⟩⟩).b.i)), .ex (iV (((ll.drop k.toNat).getD k2.toNat ⟨⟨0, 0⟩, ⟨0, 0⟩⟩).b.g))] }, {}, {}, { hint := some (iV (k2 - 1)) }, { sp := true }, { os := [.ex (iV (((ll.drop k.toNat).getD (k2 - 1).toNat ⟨⟨0, 0⟩, ⟨0, 0⟩⟩).a.i)), .ex (iV (((ll.drop k.toNat).getD (k2 - 1).toNat ⟨⟨0, 0⟩, ⟨0, 0⟩⟩).a.g)), .ex (iV (((ll.drop k.toNat).getD (k2 - 1).toNat ⟨⟨0, 0⟩, ⟨0, 0⟩⟩).b.i)), .ex (iV (((ll.drop k.toNat).getD (k2 - 1).toNat ⟨⟨0, 0⟩, ⟨0, 0⟩⟩).b.g))] }, { sp := true, hint := some (bV (!((((((ll.drop k.toNat).getD k2.toNat ⟨⟨0, 0⟩, ⟨0, 0⟩⟩).a.i) : Int) == (((ll.drop k.toNat).getD (k2 - 1).toNat ⟨⟨0, 0⟩, ⟨0, 0⟩⟩).a.i)) && ((((((ll.drop k.toNat).getD k2.toNat ⟨⟨0, 0⟩, ⟨0, 0⟩⟩).a.g) : Int) == (((ll.drop k.toNat).getD (k2 - 1).toNat ⟨⟨0, 0⟩, ⟨0, 0⟩⟩).a.g)) && ((((((ll.drop k.toNat).getD k2.toNat ⟨⟨0, 0⟩, ⟨0, 0⟩⟩).b.i) : Int) == (((ll.drop k.toNat).getD (k2 - 1).toNat ⟨⟨0, 0⟩, ⟨0, 0⟩⟩).b.i)) && (((((ll.drop k.toNat).getD k2.toNat ⟨⟨0, 0⟩, ⟨0, 0⟩⟩).b.g) : Int) == (((ll.drop k.toNat).getD (k2 - 1).toNat ⟨⟨0, 0⟩, ⟨0, 0⟩⟩).b.g))))))) }] (nw := [(44, eB (!((((((ll.drop k.toNat).getD k2.toNat ⟨⟨0, 0⟩, ⟨0, 0⟩⟩).a.i) : Int) == (((ll.drop k.toNat).getD (k2 - 1).toNat ⟨⟨0, 0⟩, ⟨0, 0⟩⟩).a.i)) && ((((((ll.drop k.toNat).getD k2.toNat ⟨⟨0, 0⟩, ⟨0, 0⟩⟩).a.g) : Int) == (((ll.drop k.toNat).getD (k2 - 1).toNat ⟨⟨0, 0⟩, ⟨0, 0⟩⟩).a.g)) && ((((((ll.drop k.toNat).getD k2.toNat ⟨⟨0, 0⟩, ⟨0, 0⟩⟩).b.i) : Int) == (((ll.drop k.toNat).getD (k2 - 1).toNat ⟨⟨0, 0⟩, ⟨0, 0⟩⟩).b.i)) && (((((ll.drop k.toNat).getD k2.toNat ⟨⟨0, 0⟩, ⟨0, 0⟩⟩).b.g) : Int) == (((ll.drop k.toNat).getD (k2 - 1).toNat ⟨⟨0, 0⟩, ⟨0, 0⟩⟩).b.g))))))), (43, .val (.agg #[iV (((ll.drop k.toNat).getD (k2 - 1).toNat ⟨⟨0, 0⟩, ⟨0, 0⟩⟩).a.i), iV (((ll.drop k.toNat).getD (k2 - 1).toNat ⟨⟨0, 0⟩, ⟨0, 0⟩⟩).a.g), iV (((ll.drop k.toNat).getD (k2 - 1).toNat ⟨⟨0, 0⟩, ⟨0, 0⟩⟩).b.i), iV (((ll.drop k.toNat).getD (k2 - 1).toNat ⟨⟨0, 0⟩, ⟨0, 0⟩⟩).b.g)])), (42, .val (.pointer (some ((sa (cutA av k.toNat c 4) : Addr).add ((k2 - 1).toNat * 4))))), (41, eI (k2 - 1)), (40, eI k2), (39, eS (cutA av k.toNat c 4) (l.length - k.toNat) (c - k.toNat)), (38, .val (.agg #[iV (((ll.drop k.toNat).getD k2.toNat ⟨⟨0, 0⟩, ⟨0, 0⟩⟩).a.i), iV (((ll.drop k.toNat).getD k2.toNat ⟨⟨0, 0⟩, ⟨0, 0⟩⟩).a.g), iV (((ll.drop k.toNat).getD k2.toNat ⟨⟨0, 0⟩, ⟨0, 0⟩⟩).b.i), iV (((ll.drop k.toNat).getD k2.toNat ⟨⟨0, 0⟩, ⟨0, 0⟩⟩).b.g)])), (37, .val (.pointer (some ((sa (cutA av k.toNat c 4) : Addr).add (k2.toNat * 4))))), (36, eI k2), (35, eS (cutA av k.toNat c 4) (l.length - k.toNat) (c - k.toNat))]) (ob := [(0 : Int) ≤ k2 ∧ k2 < (((l.length - k.toNat) : Nat) : Int), (cutA av k.toNat c 4 : Option Addr).isSome = true, (∀ w', C2 w' → w'.cell? (((sa (cutA av k.toNat c 4) : Addr).add (k2.toNat * 4)).add 0) = some (iV (((ll.drop k.toNat).getD k2.toNat ⟨⟨0, 0⟩, ⟨0, 0⟩⟩).a.i))), (∀ w', C2 w' → w'.cell? (((sa (cutA av k.toNat c 4) : Addr).add (k2.toNat * 4)).add 1) = some (iV (((ll.drop k.toNat).getD k2.toNat ⟨⟨0, 0⟩, ⟨0, 0⟩⟩).a.g))), (∀ w', C2 w' → w'.cell? (((sa (cutA av k.toNat c 4) : Addr).add (k2.toNat * 4)).add 2) = some (iV (((ll.drop k.toNat).getD k2.toNat ⟨⟨0, 0⟩, ⟨0, 0⟩⟩).b.i))), (∀ w', C2 w' → w'.cell? (((sa (cutA av k.toNat c 4) : Addr).add (k2.toNat * 4)).add 3) = some (iV (((ll.drop k.toNat).getD k2.toNat ⟨⟨0, 0⟩, ⟨0, 0⟩⟩).b.g))), (iV (IntKind.i64.wrap (k2 - 1)) : Value) = (iV (k2 - 1) : Value), (0 : Int) ≤ (k2 - 1) ∧ (k2 - 1) < (((l.length - k.toNat) : Nat) : Int), (cutA av k.toNat c 4 : Option Addr).isSome = true, (∀ w', C2 w' → w'.cell? (((sa (cutA av k.toNat c 4) : Addr).add ((k2 - 1).toNat * 4)).add 0) = some (iV (((ll.drop k.toNat).getD (k2 - 1).toNat ⟨⟨0, 0⟩, ⟨0, 0⟩⟩).a.i))), (∀ w', C2 w' → w'.cell? (((sa (cutA av k.toNat c 4) : Addr).add ((k2 - 1).toNat * 4)).add 1) = some (iV (((ll.drop k.toNat).getD (k2 - 1).toNat ⟨⟨0, 0⟩, ⟨0, 0⟩⟩).a.g))), (∀ w', C2 w' → w'.cell? (((sa (cutA av k.toNat c 4) : Addr).add ((k2 - 1).toNat * 4)).add 2) = some (iV (((ll.drop k.toNat).getD (k2 - 1).toNat ⟨⟨0, 0⟩, ⟨0, 0⟩⟩).b.i))), (∀ w', C2 w' → w'.cell? (((sa (cutA av k.toNat c 4) : Addr).add ((k2 - 1).toNat * 4)).add 3) = some (iV (((ll.drop k.toNat).getD (k2 - 1).toNat ⟨⟨0, 0⟩, ⟨0, 0⟩⟩).b.g))), (bV (!(((((((ll.drop k.toNat).getD k2.toNat ⟨⟨0, 0⟩, ⟨0, 0⟩⟩).a.i) : Int) == (((ll.drop k.toNat).getD (k2 - 1).toNat ⟨⟨0, 0⟩, ⟨0, 0⟩⟩).a.i)) && ((((((ll.drop k.toNat).getD k2.toNat ⟨⟨0, 0⟩, ⟨0, 0⟩⟩).a.g) : Int) == (((ll.drop k.toNat).getD (k2 - 1).toNat ⟨⟨0, 0⟩, ⟨0, 0⟩⟩).a.g)) && true)) && (((((((ll.drop k.toNat).getD k2.toNat ⟨⟨0, 0⟩, ⟨0, 0⟩⟩).b.i) : Int) == (((ll.drop k.toNat).getD (k2 - 1).toNat ⟨⟨0, 0⟩, ⟨0, 0⟩⟩).b.i)) && ((((((ll.drop k.toNat).getD k2.toNat ⟨⟨0, 0⟩, ⟨0, 0⟩⟩).b.g) : Int) == (((ll.drop k.toNat).getD (k2 - 1).toNat ⟨⟨0, 0⟩, ⟨0, 0⟩⟩).b.g)) && true)) && true))) : Value) = (bV (!((((((ll.drop k.toNat).getD k2.toNat ⟨⟨0, 0⟩, ⟨0, 0⟩⟩).a.i) : Int) == (((ll.drop k.toNat).getD (k2 - 1).toNat ⟨⟨0, 0⟩, ⟨0, 0⟩⟩).a.i)) && ((((((ll.drop k.toNat).getD k2.toNat ⟨⟨0, 0⟩, ⟨0, 0⟩⟩).a.g) : Int) == (((ll.drop k.toNat).getD (k2 - 1).toNat ⟨⟨0, 0⟩, ⟨0, 0⟩⟩).a.g)) && ((((((ll.drop k.toNat).getD k2.toNat ⟨⟨0, 0⟩, ⟨0, 0⟩⟩).b.i) : Int) == (((ll.drop k.toNat).getD (k2 - 1).toNat ⟨⟨0, 0⟩, ⟨0, 0⟩⟩).b.i)) && (((((ll.drop k.toNat).getD k2.toNat ⟨⟨0, 0⟩, ⟨0, 0⟩⟩).b.g) : Int) == (((ll.drop k.toNat).getD (k2 - 1).toNat ⟨⟨0, 0⟩, ⟨0, 0⟩⟩).b.g)))))) : Value)]) (Ac (by first | omega | (simp; done)) (Ac ((Arr.dropf (m := k.toNat) (l := ll) (own_arr (hO.own _ (List.Mem.head _))) (fun _ => rfl) (by omega) (by omega)).some_ (by first | omega | (simp; done))) (Ac (fun w' hc => by obtain ⟨hM, hk0, hO⟩ := hC2e w' hc; exact ((Arr.dropf (m := k.toNat) (l := ll) (own_arr (hO.own _ (List.Mem.head _))) (fun _ => rfl) (by omega) (by omega)).get (fun _ => rfl) (by first | omega | (simp; done)) rfl)) (Ac (fun w' hc => by obtain ⟨hM, hk0, hO⟩ := hC2e w' hc; exact ((Arr.dropf (m := k.toNat) (l := ll) (own_arr (hO.own _ (List.Mem.head _))) (fun _ => rfl) (by omega) (by omega)).get (fun _ => rfl) (by first | omega | (simp; done)) rfl)) (Ac (fun w' hc => by obtain ⟨hM, hk0, hO⟩ := hC2e w' hc; exact ((Arr.dropf (m := k.toNat) (l := ll) (own_arr (hO.own _ (List.Mem.head _))) (fun _ => rfl) (by omega) (by omega)).get (fun _ => rfl) (by first | omega | (simp; done)) rfl)) (Ac (fun w' hc => by obtain ⟨hM, hk0, hO⟩ := hC2e w' hc; exact ((Arr.dropf (m := k.toNat) (l := ll) (own_arr (hO.own _ (List.Mem.head _))) (fun _ => rfl) (by omega) (by omega)).get (fun _ => rfl) (by first | omega | (simp; done)) rfl)) (Ac (wr (by omega)) (Ac (by first | omega | (simp; done)) (Ac ((Arr.dropf (m := k.toNat) (l := ll) (own_arr (hO.own _ (List.Mem.head _))) (fun _ => rfl) (by omega) (by omega)).some_ (by first | omega | (simp; done))) (Ac (fun w' hc => by obtain ⟨hM, hk0, hO⟩ := hC2e w' hc; exact ((Arr.dropf (m := k.toNat) (l := ll) (own_arr (hO.own _ (List.Mem.head _))) (fun _ => rfl) (by omega) (by omega)).get (fun _ => rfl) (by first | omega | (simp; done)) rfl)) (Ac (fun w' hc => by obtain ⟨hM, hk0, hO⟩ := hC2e w' hc; exact ((Arr.dropf (m := k.toNat) (l := ll) (own_arr (hO.own _ (List.Mem.head _))) (fun _ => rfl) (by omega) (by omega)).get (fun _ => rfl) (by first | omega | (simp; done)) rfl)) (Ac (fun w' hc => by obtain ⟨hM, hk0, hO⟩ := hC2e w' hc; exact ((Arr.dropf (m := k.toNat) (l := ll) (own_arr (hO.own _ (List.Mem.head _))) (fun _ => rfl) (by omega) (by omega)).get (fun _ => rfl) (by first | omega | (simp; done)) rfl)) (Ac (fun w' hc => by obtain ⟨hM, hk0, hO⟩ := hC2e w' hc; exact ((Arr.dropf (m := k.toNat) (l := ll) (own_arr (hO.own _ (List.Mem.head _))) (fun _ => rfl) (by omega) (by omega)).get (fun _ => rfl) (by first | omega | (simp; done)) rfl)) (Ao (by simp [Bool.and_assoc, Bool.or_assoc]))))))))))))))) ?_
         clear hf; intro a hf
         clear hC
         show K17 _ _
         refine hK17 _ _ ?_
         refine qc hf (b := (!((((((ll.drop k.toNat).getD k2.toNat ⟨⟨0, 0⟩, ⟨0, 0⟩⟩).a.i) : Int) == (((ll.drop k.toNat).getD (k2 - 1).toNat ⟨⟨0, 0⟩, ⟨0, 0⟩⟩).a.i)) && ((((((ll.drop k.toNat).getD k2.toNat ⟨⟨0, 0⟩, ⟨0, 0⟩⟩).a.g) : Int) == (((ll.drop k.toNat).getD (k2 - 1).toNat ⟨⟨0, 0⟩, ⟨0, 0⟩⟩).a.g)) && ((((((ll.drop k.toNat).getD k2.toNat ⟨⟨0, 0⟩, ⟨0, 0⟩⟩).b.i) : Int) == (((ll.drop k.toNat).getD (k2 - 1).toNat ⟨⟨0, 0⟩, ⟨0, 0⟩⟩).b.i)) && (((((ll.drop k.toNat).getD k2.toNat ⟨⟨0, 0⟩, ⟨0, 0⟩⟩).b.g) : Int) == (((ll.drop k.toNat).getD (k2 - 1).toNat ⟨⟨0, 0⟩, ⟨0, 0⟩⟩).b.g))))))) (fun hc5r => ?_) (fun hc5r => ?_)
         · have hc5 := hc5r
           try simp only [Bool.or_eq_true, Bool.and_eq_true, Bool.not_eq_true', Bool.not_eq_false', Bool.or_eq_false_iff, Bool.and_eq_false_iff, decide_eq_true_eq, decide_eq_false_iff_not, beq_iff_eq, bne_iff_ne, beq_eq_false_iff_ne, bne_eq_false_iff_eq, Bool.and_true, Bool.true_and, ne_eq] at hc5
           refine wp_seq_k (fun K18 hK18 => ?_)
           refine wp_region_lit ?_
           refine q0 hf hM [44, 43, 42, 41, 40, 39, 38, 37, 36, 35, 0, 3, 4, 5] [{}, {}, {}, {}, { sp := true }, { os := [.ex (iV (((ll.drop k.toNat).getD k2.toNat ⟨⟨0, 0⟩, ⟨0, 0⟩⟩).a.i)), .ex (iV (((ll.drop k.toNat).getD k2.toNat ⟨⟨0, 0⟩, ⟨0, 0⟩⟩).a.g)), .ex (iV (((ll.drop k.toNat).getD k2.toNat ⟨⟨0, 0⟩, ⟨0, 0⟩⟩).b.i)), .ex (iV (((ll.drop k.toNat).getD k2.toNat ⟨⟨0, 0⟩, ⟨0, 0⟩⟩).b.g))] }, { sp := true }] (nw := [(51, .val (.pointer (some ((sa av : Addr).add (m.toNat * 4))))), (50, .val (.agg #[iV (((ll.drop k.toNat).getD k2.toNat ⟨⟨0, 0⟩, ⟨0, 0⟩⟩).a.i), iV (((ll.drop k.toNat).getD k2.toNat ⟨⟨0, 0⟩, ⟨0, 0⟩⟩).a.g), iV (((ll.drop k.toNat).getD k2.toNat ⟨⟨0, 0⟩, ⟨0, 0⟩⟩).b.i), iV (((ll.drop k.toNat).getD k2.toNat ⟨⟨0, 0⟩, ⟨0, 0⟩⟩).b.g)]))]) (ob := [(0 : Int) ≤ k2 ∧ k2 < (((l.length - k.toNat) : Nat) : Int), (cutA av k.toNat c 4 : Option Addr).isSome = true, w2.drew.cell? (((sa (cutA av k.toNat c 4) : Addr).add (k2.toNat * 4)).add 0) = some (iV (((ll.drop k.toNat).getD k2.toNat ⟨⟨0, 0⟩, ⟨0, 0⟩⟩).a.i)), w2.drew.cell? (((sa (cutA av k.toNat c 4) : Addr).add (k2.toNat * 4)).add 1) = some (iV (((ll.drop k.toNat).getD k2.toNat ⟨⟨0, 0⟩, ⟨0, 0⟩⟩).a.g)), w2.drew.cell? (((sa (cutA av k.toNat c 4) : Addr).add (k2.toNat * 4)).add 2) = some (iV (((ll.drop k.toNat).getD k2.toNat ⟨⟨0, 0⟩, ⟨0, 0⟩⟩).b.i)), w2.drew.cell? (((sa (cutA av k.toNat c 4) : Addr).add (k2.toNat * 4)).add 3) = some (iV (((ll.drop k.toNat).getD k2.toNat ⟨⟨0, 0⟩, ⟨0, 0⟩⟩).b.g)), (0 : Int) ≤ m ∧ m < (l.length : Int), (av : Option Addr).isSome = true]) (Ac (by first | omega | (simp; done)) (Ac ((Arr.dropf (m := k.toNat) (l := ll) (own_arr (hO.own _ (List.Mem.head _))) (fun _ => rfl) (by omega) (by omega)).some_ (by first | omega | (simp; done))) (Ac ((Arr.dropf (m := k.toNat) (l := ll) (own_arr (hO.own _ (List.Mem.head _))) (fun _ => rfl) (by omega) (by omega)).get (fun _ => rfl) (by first | omega | (simp; done)) rfl) (Ac ((Arr.dropf (m := k.toNat) (l := ll) (own_arr (hO.own _ (List.Mem.head _))) (fun _ => rfl) (by omega) (by omega)).get (fun _ => rfl) (by first | omega | (simp; done)) rfl) (Ac ((Arr.dropf (m := k.toNat) (l := ll) (own_arr (hO.own _ (List.Mem.head _))) (fun _ => rfl) (by omega) (by omega)).get (fun _ => rfl) (by first | omega | (simp; done)) rfl) (Ac ((Arr.dropf (m := k.toNat) (l := ll) (own_arr (hO.own _ (List.Mem.head _))) (fun _ => rfl) (by omega) (by omega)).get (fun _ => rfl) (by first | omega | (simp; done)) rfl) (Ac (by first | omega | (simp; done)) (Ao ((own_arr (hO.own _ (List.Mem.head _))).some_ (by first | omega | (simp; done))))))))))) ?_
           clear hf; intro a hf
           refine sxset hf hM hO rfl rfl rfl (val := .agg #[iV (((ll.drop k.toNat).getD k2.toNat ⟨⟨0, 0⟩, ⟨0, 0⟩⟩).a.i), iV (((ll.drop k.toNat).getD k2.toNat ⟨⟨0, 0⟩, ⟨0, 0⟩⟩).a.g), iV (((ll.drop k.toNat).getD k2.toNat ⟨⟨0, 0⟩, ⟨0, 0⟩⟩).b.i), iV (((ll.drop k.toNat).getD k2.toNat ⟨⟨0, 0⟩, ⟨0, 0⟩⟩).b.g)]) rfl rfl (i := m.toNat) (q := 0) (x := ⟨⟨((ll.drop k.toNat).getD k2.toNat ⟨⟨0, 0⟩, ⟨0, 0⟩⟩).a.i, ((ll.drop k.toNat).getD k2.toNat ⟨⟨0, 0⟩, ⟨0, 0⟩⟩).a.g⟩, ⟨((ll.drop k.toNat).getD k2.toNat ⟨⟨0, 0⟩, ⟨0, 0⟩⟩).b.i, ((ll.drop k.toNat).getD k2.toNat ⟨⟨0, 0⟩, ⟨0, 0⟩⟩).b.g⟩⟩) (d := ⟨⟨0, 0⟩, ⟨0, 0⟩⟩) rfl (by kernel_rfl) (fun _ => rfl) (by omega) hl3 rfl rfl rfl (by intro u hu; simp [Value.cells] at hu; first | (subst hu; rfl) | (rcases hu with rfl | rfl <;> rfl) | (rcases hu with rfl | rfl | rfl <;> rfl) | (rcases hu with rfl | rfl | rfl | rfl <;> rfl) | (rcases hu with rfl | rfl | rfl | rfl | rfl <;> rfl)) ?_
           clear hf; intro a w3 hf hM hO hk
           have hk0 := hk0.then hk (by intro i hi h; exact h)
           clear hk
           refine wpList_nil ?_
           refine hK18 _ _ ?_
           refine wp_region_lit ?_
           refine q0 hf hM [44, 43, 42, 41, 40, 39, 38, 37, 36, 35, 0, 4, 5] [{}, { hint := some (iV (m + 1)) }, {}] (nw := [(3, eI (m + 1))]) (ob := [(iV (IntKind.i64.wrap (m + 1)) : Value) = (iV (m + 1) : Value)]) (Ao (wr (by omega))) ?_
           clear hf; intro a hf
           refine wpList_nil ?_
           refine hK16 _ _ ?_
           refine wp_region_lit ?_
           refine q0 hf hM [3, 44, 43, 42, 41, 40, 39, 38, 37, 36, 35, 0, 4] [{}, { hint := some (iV (k2 + 1)) }, {}] (nw := [(5, eI (k2 + 1))]) (ob := [(iV (IntKind.i64.wrap (k2 + 1)) : Value) = (iV (k2 + 1) : Value)]) (Ao (wr (by omega))) ?_
           clear hf; intro a hf
           refine wpList_nil ?_
           have hd0 : (ll.drop k.toNat).getD k2.toNat ⟨⟨0, 0⟩, ⟨0, 0⟩⟩ = ll.getD (k + k2).toNat ⟨⟨0, 0⟩, ⟨0, 0⟩⟩ := by rw [getD_drop]; congr 1; omega
           have hd1 : (ll.drop k.toNat).getD (k2 - 1).toNat ⟨⟨0, 0⟩, ⟨0, 0⟩⟩ = ll.getD ((k + k2).toNat - 1) ⟨⟨0, 0⟩, ⟨0, 0⟩⟩ := by rw [getD_drop]; congr 1; omega
           have hct2 : Cmp l (ll.set m.toNat ⟨⟨((ll.drop k.toNat).getD k2.toNat ⟨⟨0, 0⟩, ⟨0, 0⟩⟩).a.i, ((ll.drop k.toNat).getD k2.toNat ⟨⟨0, 0⟩, ⟨0, 0⟩⟩).a.g⟩, ⟨((ll.drop k.toNat).getD k2.toNat ⟨⟨0, 0⟩, ⟨0, 0⟩⟩).b.i, ((ll.drop k.toNat).getD k2.toNat ⟨⟨0, 0⟩, ⟨0, 0⟩⟩).b.g⟩⟩) (m + 1).toNat (k + (k2 + 1)).toNat := by
             rw [show (k + (k2 + 1)).toNat = (k + k2).toNat + 1 by omega, show (m + 1).toNat = m.toNat + 1 by omega]
             have h1 : ll.getD (k + k2).toNat ⟨⟨0, 0⟩, ⟨0, 0⟩⟩ ≠ ll.getD ((k + k2).toNat - 1) ⟨⟨0, 0⟩, ⟨0, 0⟩⟩ := by rw [← hd0, ← hd1]; exact (nec_pair (by omega))
             have h2 := hct.keep (d := ⟨⟨0, 0⟩, ⟨0, 0⟩⟩) (by omega) h1
             rw [← hd0] at h2
             exact h2
           have hf := (hf.prune [0, 3, 4, 5]).to (env' := [(0, eS av l.length c), (3, eI (m + 1)), (4, eS (cutA av k.toNat c 4) (l.length - k.toNat) (c - k.toNat)), (5, eI (k2 + 1))]) (by kernel_rfl)
           refine hL2 _ _ _ (by omega) ⟨m + 1, k2 + 1, (ll.set m.toNat ⟨⟨((ll.drop k.toNat).getD k2.toNat ⟨⟨0, 0⟩, ⟨0, 0⟩⟩).a.i, ((ll.drop k.toNat).getD k2.toNat ⟨⟨0, 0⟩, ⟨0, 0⟩⟩).a.g⟩, ⟨((ll.drop k.toNat).getD k2.toNat ⟨⟨0, 0⟩, ⟨0, 0⟩⟩).b.i, ((ll.drop k.toNat).getD k2.toNat ⟨⟨0, 0⟩, ⟨0, 0⟩⟩).b.g⟩⟩), rfl, hf.conv (Ac rfl (Ac rfl (Ac rfl (Ao rfl)))), hM, hk0, hO, hct2, (by omega)⟩
         · have hc5 := hc5r
           try simp only [Bool.or_eq_true, Bool.and_eq_true, Bool.not_eq_true', Bool.not_eq_false', Bool.or_eq_false_iff, Bool.and_eq_false_iff, decide_eq_true_eq, decide_eq_false_iff_not, beq_iff_eq, bne_iff_ne, beq_eq_false_iff_ne, bne_eq_false_iff_eq, Bool.and_true, Bool.true_and, ne_eq] at hc5
           refine wp_skip ?_
           refine hK16 _ _ ?_
           refine wp_region_lit ?_
           refine q0 hf hM [44, 43, 42, 41, 40, 39, 38, 37, 36, 35, 0, 3, 4] [{}, { hint := some (iV (k2 + 1)) }, {}] (nw := [(5, eI (k2 + 1))]) (ob := [(iV (IntKind.i64.wrap (k2 + 1)) : Value) = (iV (k2 + 1) : Value)]) (Ao (wr (by omega))) ?_
           clear hf; intro a hf
           refine wpList_nil ?_
           have hd0 : (ll.drop k.toNat).getD k2.toNat ⟨⟨0, 0⟩, ⟨0, 0⟩⟩ = ll.getD (k + k2).toNat ⟨⟨0, 0⟩, ⟨0, 0⟩⟩ := by rw [getD_drop]; congr 1; omega
           have hd1 : (ll.drop k.toNat).getD (k2 - 1).toNat ⟨⟨0, 0⟩, ⟨0, 0⟩⟩ = ll.getD ((k + k2).toNat - 1) ⟨⟨0, 0⟩, ⟨0, 0⟩⟩ := by rw [getD_drop]; congr 1; omega
           have hct2 : Cmp l ll m.toNat (k + (k2 + 1)).toNat := by
             rw [show (k + (k2 + 1)).toNat = (k + k2).toNat + 1 by omega]
             have h1 : ll.getD (k + k2).toNat ⟨⟨0, 0⟩, ⟨0, 0⟩⟩ = ll.getD ((k + k2).toNat - 1) ⟨⟨0, 0⟩, ⟨0, 0⟩⟩ := by rw [← hd0, ← hd1]; exact (eqc_pair (by omega))
             exact hct.skip (d := ⟨⟨0, 0⟩, ⟨0, 0⟩⟩) (by omega) h1
           have hf := (hf.prune [0, 3, 4, 5]).to (env' := [(0, eS av l.length c), (3, eI m), (4, eS (cutA av k.toNat c 4) (l.length - k.toNat) (c - k.toNat)), (5, eI (k2 + 1))]) (by kernel_rfl)
           refine hL2 _ _ _ (by omega) ⟨m, k2 + 1, ll, rfl, hf.conv (Ac rfl (Ac rfl (Ac rfl (Ao rfl)))), hM, hk0, hO, hct2, (by omega)⟩
       · have hc4 := (nU hc4r)
         refine wp_exit ?_
         refine hK12 _ _ ?_
         refine wp_seq_k (fun K19 hK19 => ?_)
         refine wp_region_lit ?_
         refine q0 hf hM [0, 3] [{}, {}, { sp := true, hint := some (.slice (cutA av m.toNat c 4) (l.length - m.toNat) (c - m.toNat)) }] (nw := [(56, eS (cutA av m.toNat c 4) (l.length - m.toNat) (c - m.toNat))]) (ob := [0 ≤ (m : Int) ∧ (m : Int) ≤ ((l.length : Nat) : Int), (.slice (cutA av (m : Int).toNat c 4) (l.length - (m : Int).toNat) (c - (m : Int).toNat) : Value) = (.slice (cutA av m.toNat c 4) (l.length - m.toNat) (c - m.toNat) : Value)]) (Ac (by have := ((own_arr (hO.own _ (List.Mem.head _)))).le; omega) (Ao (by first | rfl | (simp; done) | (simp; omega)))) ?_
         clear hf; intro a hf
         refine sxclear hf hM hO rfl rfl rfl (m := m.toNat) rfl Try.underlying35 (z := (⟨⟨0, 0⟩, ⟨0, 0⟩⟩ : P4)) (by kernel_rfl) (fun _ => rfl) fP_one rfl (by omega) ?_
         clear hf; intro a w4 hf hM hO hk
         have hk0 := hk0.then hk (by intro i hi h; exact h)
         clear hk
         refine wpList_nil ?_
         refine hK19 _ _ ?_
         refine wp_seq_k (fun K20 hK20 => ?_)
         refine wp_region_lit ?_
         refine q0 hf hM [] [{}, {}] (nw := [(58, eI m), (57, eS av l.length c)]) An ?_
         clear hf; intro a hf
         refine sxval hf rfl rfl rfl rfl (v := .slice av m.toNat c) (ob := []) (by kernel_rfl) An (by rw [show (.slice av m.toNat c : Value) = .slice av (m : Int).toNat c from (by simp)]; exact ox_slice_h rfl rfl rfl Try.underlying35 (sz := 4) (by kernel_rfl) (by have := ((own_arr (hO.own _ (List.Mem.head _)))).le; omega)) ?_
         clear hf; intro a hf
         have hO := hO.cut (fun _ => rfl) (m := m.toNat) (by omega)
         replace hO : OwnOk base [] [⟨31, 4, .slice av m.toNat c, m.toNat, flat fP ((ll.take m.toNat ++ List.replicate (l.length - m.toNat) (⟨⟨0, 0⟩, ⟨0, 0⟩⟩ : P4)).take m.toNat)⟩] w4 := hO
         have el : ((ll.take m.toNat ++ List.replicate (l.length - m.toNat) (⟨⟨0, 0⟩, ⟨0, 0⟩⟩ : P4)).take m.toNat) = (comp l) := (hct.done (by omega) _)
         rw [el] at hO; clear el
         have en : (m.toNat : Nat) = (comp l).length := (hct.lenEq (by omega))
         replace hO := hO.lenTo en
         have hf := (hf.prune [59, 58, 57]).to (env' := [(59, eS av m.toNat c), (58, eI m), (57, eS av l.length c)]) (by kernel_rfl)
         replace hf : Fr 61 [(59, eS av (comp l).length c), (58, eI m), (57, eS av l.length c)] a := hf.conv (Ac (by rw [en]; rfl) (Ac rfl (Ao rfl)))
         clear en
         replace hO : OwnOk base [] [⟨31, 4, .slice av (comp l).length c, (comp l).length, flat fP (comp l)⟩] w4 := hO
         refine q0 hf hM [] [{}] (nw := [(2, eS av (comp l).length c)]) An ?_
         clear hf; intro a hf
         refine wpList_nil ?_
         refine hK20 _ _ ?_
         refine wp_ret ?_
         refine qr (fn := Try.f56) hf hM [] (l := [.slice av (comp l).length c]) (ob := []) An ?_
         show (.slice av (comp l).length c : Value) = .slice av (comp l).length c ∧ World.ownsRow w4 base 31 4 (.slice av (comp l).length c) (comp l).length (flat fP (comp l)) ∧ Keep (fun i => Value.ownBlock (.slice av l.length c) = some i) w w4
         exact ⟨rfl, hO.own _ (List.Mem.head _), hk0⟩
     · have hc3 := hc3r
       try simp only [Bool.or_eq_true, Bool.and_eq_true, Bool.not_eq_true', Bool.not_eq_false', Bool.or_eq_false_iff, Bool.and_eq_false_iff, decide_eq_true_eq, decide_eq_false_iff_not, beq_iff_eq, bne_iff_ne, beq_eq_false_iff_ne, bne_eq_false_iff_eq, Bool.and_true, Bool.true_and, ne_eq] at hc3
       refine wp_skip ?_
       refine hK9 _ _ ?_
       refine wp_region_lit ?_
       refine q0 hf hM [25, 24, 23, 22, 21, 20, 19, 18, 17, 16, 0] [{}, { hint := some (iV (k + 1)) }, {}] (nw := [(3, eI (k + 1))]) (ob := [(iV (IntKind.i64.wrap (k + 1)) : Value) = (iV (k + 1) : Value)]) (Ao (wr (by omega))) ?_
       clear hf; intro a hf
       refine wpList_nil ?_
       have hcp2 : comp (l.take (k + 1).toNat) = l.take (k + 1).toNat := by
         have h1 := comp_go (d := ⟨⟨0, 0⟩, ⟨0, 0⟩⟩) (l := l) (k := k.toNat) (by omega) (by omega) hcp (by rw [show k.toNat - 1 = (k - 1).toNat by omega]; exact (nec_pair (by omega)))
         rw [show (k + 1).toNat = k.toNat + 1 by omega]
         exact h1
       have hf := (hf.prune [0, 3]).to (env' := [(0, eS av l.length c), (3, eI (k + 1))]) (by kernel_rfl)
       refine hL1 _ _ _ (by omega) ⟨k + 1, rfl, hf.conv (Ac rfl (Ao rfl)), hM, hk0, hO, (by omega), hcp2⟩
   · have hc2 := (nU hc2r)
     refine wp_exit ?_
     refine hK5 _ _ ?_
     refine wp_seq_k (fun K21 hK21 => ?_)
     refine wp_region_lit ?_
     refine q0 hf hM [] [{}, {}] (nw := [(2, eS av l.length c)]) An ?_
     clear hf; intro a hf
     refine wpList_nil ?_
     refine hK21 _ _ ?_
     refine wp_ret ?_
     refine qr (fn := Try.f56) hf hM [] (l := [.slice av l.length c]) (ob := []) An ?_
     show (.slice av l.length c : Value) = .slice av (comp l).length c ∧ World.ownsRow w1 base 31 4 (.slice av (comp l).length c) (comp l).length (flat fP (comp l)) ∧ Keep (fun i => Value.ownBlock (.slice av l.length c) = some i) w w1
     first
       | (rw [comp_one l (by omega)]; exact ⟨rfl, hO.own _ (List.Mem.head _), hk0⟩)
       | (have e : comp l = l := by have h1 : l.take k.toNat = l := List.take_of_length_le (by omega)
                                    rw [h1] at hcp; exact hcp
          rw [e]; exact ⟨rfl, hO.own _ (List.Mem.head _), hk0⟩)

set_option maxRecDepth 10000 in
set_option maxHeartbeats 1600000 in
theorem sorted_int (av : Option Addr) (l : List Int) (c : Nat) (w : World) (hav : Arr w 1 av l.length c (flat fI l)) (hbav : l.length ≤ 1000000) :
    Calls Try.prog 44 #[.slice av l.length c, .func (.func 45) #[] #[]] w (Ret fun v w' => ∃ a' c', v = .slice a' (ordS ltI l).length c' ∧ Keep Nn w w' ∧ World.ownsRow w' w.heap.size 3 1 (.slice a' (ordS ltI l).length c') (ordS ltI l).length (flat fI (ordS ltI l))) := by
 refine sxenter (n := 13) (args := [.slice av l.length c, .func (.func 45) #[] #[]]) Try.func44 rfl rfl rfl fun a hf => ?_
 replace hf : Fr 13 [(0, eS av l.length c), (1, .val (.func (.func 45) #[] #[]))] a := hf
 have hM : MemOk [] w := MemOk.nil w
 have hk0 : Keep Nn w w := Keep.refl _ _
 refine wp_seq_k (fun K1 hK1 => ?_)
 refine wp_region_lit ?_
 refine q0 hf hM [0, 1] [{}] (nw := []) An ?_
 clear hf; intro a hf
 refine wpList_nil ?_
 refine hK1 _ _ ?_
 refine wp_seq_k (fun K2 hK2 => ?_)
 refine wp_region_lit ?_
 refine q0 hf hM [1] [{}] (nw := [(6, eS av l.length c)]) An ?_
 clear hf; intro a hf
 refine sxcall hf rfl rfl rfl rfl (g := 47) (vs := [.slice av l.length c]) (ob := []) (by as_aux_lemma => kernel_rfl) An enters47 (clone_int av l c w  (hav.keepNn hk0) (by first | omega | (simp; omega) | (simp; done) | exact Nat.le_trans (byKinds_len _ _) (by omega) | decide)) ?_
 clear hf; rintro _ w1 a ⟨a'1, c'1, rfl, hk, hx1⟩ hf
 have hO : OwnOk w.heap.size [] [] w := OwnOk.nil hM
 have hO := hO.more hM hk (by have := hk0.size; omega) hx1
 replace hO : OwnOk w.heap.size [] [⟨3, 1, .slice a'1 l.length c'1, l.length, flat fI l⟩] _ := hO
 have hM := hM.keepNn hk
 have hk0 := hk0.trans hk.nn
 clear hk
 refine q0 hf hM [1] [{}] (nw := [(5, eS a'1 l.length c'1)]) An ?_
 clear hf; intro a hf
 refine wpList_nil ?_
 refine hK2 _ _ ?_
 refine wp_seq_k (fun K3 hK3 => ?_)
 refine wp_region_lit ?_
 refine q0 hf hM [5] [{}, {}] (nw := [(9, .val (.func (.func 45) #[] #[])), (8, eS a'1 l.length c'1)]) An ?_
 clear hf; intro a hf
 replace hO : OwnOk w.heap.size [] [⟨3, 1, .slice a'1 l.length c'1, l.length, flat fI l⟩] w1 := OwnOk.front (l1 := []) (l2 := []) hO
 refine sxcall hf rfl rfl rfl rfl (g := 59) (vs := [.slice a'1 l.length c'1, .func (.func 45) #[] #[]]) (ob := []) (by as_aux_lemma => kernel_rfl) An enters59 (sort_int (hO.own _ (List.Mem.head _)) hbav) ?_
 clear hf; rintro _ w2 a ⟨rfl, ls1, hpm1, hsd1, hx, hk⟩ hf
 have hM := hO.memTurn hM hk; have hO := hO.turn hk hx; have hk0 := hk0.then hk (by intro i hi h; have := ((hO.own _ (List.Mem.head _)).lt i h).1; omega); clear hk hx
 have hlls1 : l.length = ls1.length := hpm1.length_eq.symm
 rw [hlls1] at hf hO
 have hf := (hf.prune [10, 9, 8, 5]).to (env' := [(10, .val (.tuple #[])), (9, .val (.func (.func 45) #[] #[])), (8, eS a'1 ls1.length c'1), (5, eS a'1 ls1.length c'1)]) (by kernel_rfl)
 replace hO : OwnOk w.heap.size [] [⟨3, 1, .slice a'1 ls1.length c'1, ls1.length, flat fI ls1⟩] w2 := hO
 refine wpList_nil ?_
 refine hK3 _ _ ?_
 refine wp_seq_k (fun K4 hK4 => ?_)
 refine wp_region_lit ?_
 refine q0 hf hM [] [{}] (nw := [(11, eS a'1 ls1.length c'1)]) An ?_
 clear hf; intro a hf
 replace hO : OwnOk w.heap.size [] [⟨3, 1, .slice a'1 ls1.length c'1, ls1.length, flat fI ls1⟩] w2 := OwnOk.front (l1 := []) (l2 := []) hO
 refine sxcall hf rfl rfl rfl rfl (g := 60) (vs := [.slice a'1 ls1.length c'1]) (ob := []) (by as_aux_lemma => kernel_rfl) An enters60 (compact_int _ a'1 ls1 c'1 w2 (hO.own _ (List.Mem.head _)) (by have := hk0.size; omega) (by omega)) ?_
 clear hf; rintro _ w3 a ⟨rfl, hx, hk⟩ hf
 have hM := hO.memTurn hM hk; have hk0 := hk0.then hk (by intro i hi h; have := ((hO.own _ (List.Mem.head _)).lt i h).1; omega); have hO := hO.turn2 hk hx; clear hk hx
 replace hO : OwnOk w.heap.size [] [⟨3, 1, .slice a'1 (comp ls1).length c'1, (comp ls1).length, flat fI (comp ls1)⟩] w3 := hO
 refine q0 hf hM [] [{}] (nw := [(4, eS a'1 (comp ls1).length c'1)]) An ?_
 clear hf; intro a hf
 refine wpList_nil ?_
 refine hK4 _ _ ?_
 refine wp_ret ?_
 refine qr (fn := Try.f44) hf hM [] (l := [.slice a'1 (comp ls1).length c'1]) (ob := []) An ?_
 show ∃ a' c', (.slice a'1 (comp ls1).length c'1 : Value) = .slice a' (ordS ltI l).length c' ∧ Keep Nn w w3 ∧ World.ownsRow w3 w.heap.size 3 1 (.slice a' (ordS ltI l).length c') (ordS ltI l).length (flat fI (ordS ltI l))
 have e := comp_ordS ordI hpm1 hsd1
 rw [e] at hO
 exact ⟨_, _, by rw [e], hk0, hO.own _ (List.Mem.head _)⟩

set_option maxRecDepth 10000 in
set_option maxHeartbeats 1600000 in
theorem sorted_hand (av : Option Addr) (l : List H2) (c : Nat) (w : World) (hav : Arr w 2 av l.length c (flat fH l)) (hbav : l.length ≤ 1000000) :
    Calls Try.prog 33 #[.slice av l.length c, .func (.func 34) #[] #[]] w (Ret fun v w' => ∃ a' c', v = .slice a' (ordS ltH l).length c' ∧ Keep Nn w w' ∧ World.ownsRow w' w.heap.size 28 2 (.slice a' (ordS ltH l).length c') (ordS ltH l).length (flat fH (ordS ltH l))) := by
 refine sxenter (n := 13) (args := [.slice av l.length c, .func (.func 34) #[] #[]]) Try.func33 rfl rfl rfl fun a hf => ?_
 replace hf : Fr 13 [(0, eS av l.length c), (1, .val (.func (.func 34) #[] #[]))] a := hf
 have hM : MemOk [] w := MemOk.nil w
 have hk0 : Keep Nn w w := Keep.refl _ _
 refine wp_seq_k (fun K1 hK1 => ?_)
 refine wp_region_lit ?_
 refine q0 hf hM [0, 1] [{}] (nw := []) An ?_
 clear hf; intro a hf
 refine wpList_nil ?_
 refine hK1 _ _ ?_
 refine wp_seq_k (fun K2 hK2 => ?_)
 refine wp_region_lit ?_
 refine q0 hf hM [1] [{}] (nw := [(6, eS av l.length c)]) An ?_
 clear hf; intro a hf
 refine sxcall hf rfl rfl rfl rfl (g := 42) (vs := [.slice av l.length c]) (ob := []) (by as_aux_lemma => kernel_rfl) An enters42 (clone_hand av l c w  (hav.keepNn hk0) (by first | omega | (simp; omega) | (simp; done) | exact Nat.le_trans (byKinds_len _ _) (by omega) | decide)) ?_
 clear hf; rintro _ w1 a ⟨a'1, c'1, rfl, hk, hx1⟩ hf
 have hO : OwnOk w.heap.size [] [] w := OwnOk.nil hM
 have hO := hO.more hM hk (by have := hk0.size; omega) hx1
 replace hO : OwnOk w.heap.size [] [⟨28, 2, .slice a'1 l.length c'1, l.length, flat fH l⟩] _ := hO
 have hM := hM.keepNn hk
 have hk0 := hk0.trans hk.nn
 clear hk
 refine q0 hf hM [1] [{}] (nw := [(5, eS a'1 l.length c'1)]) An ?_
 clear hf; intro a hf
 refine wpList_nil ?_
 refine hK2 _ _ ?_
 refine wp_seq_k (fun K3 hK3 => ?_)
 refine wp_region_lit ?_
 refine q0 hf hM [5] [{}, {}] (nw := [(9, .val (.func (.func 34) #[] #[])), (8, eS a'1 l.length c'1)]) An ?_
 clear hf; intro a hf
 replace hO : OwnOk w.heap.size [] [⟨28, 2, .slice a'1 l.length c'1, l.length, flat fH l⟩] w1 := OwnOk.front (l1 := []) (l2 := []) hO
 refine sxcall hf rfl rfl rfl rfl (g := 51) (vs := [.slice a'1 l.length c'1, .func (.func 34) #[] #[]]) (ob := []) (by as_aux_lemma => kernel_rfl) An enters51 (sort_hand (hO.own _ (List.Mem.head _)) hbav) ?_
 clear hf; rintro _ w2 a ⟨rfl, ls1, hpm1, hsd1, hx, hk⟩ hf
 have hM := hO.memTurn hM hk; have hO := hO.turn hk hx; have hk0 := hk0.then hk (by intro i hi h; have := ((hO.own _ (List.Mem.head _)).lt i h).1; omega); clear hk hx
 have hlls1 : l.length = ls1.length := hpm1.length_eq.symm
 rw [hlls1] at hf hO
 have hf := (hf.prune [10, 9, 8, 5]).to (env' := [(10, .val (.tuple #[])), (9, .val (.func (.func 34) #[] #[])), (8, eS a'1 ls1.length c'1), (5, eS a'1 ls1.length c'1)]) (by kernel_rfl)
 replace hO : OwnOk w.heap.size [] [⟨28, 2, .slice a'1 ls1.length c'1, ls1.length, flat fH ls1⟩] w2 := hO
 refine wpList_nil ?_
 refine hK3 _ _ ?_
 refine wp_seq_k (fun K4 hK4 => ?_)
 refine wp_region_lit ?_
 refine q0 hf hM [] [{}] (nw := [(11, eS a'1 ls1.length c'1)]) An ?_
 clear hf; intro a hf
 replace hO : OwnOk w.heap.size [] [⟨28, 2, .slice a'1 ls1.length c'1, ls1.length, flat fH ls1⟩] w2 := OwnOk.front (l1 := []) (l2 := []) hO
 refine sxcall hf rfl rfl rfl rfl (g := 52) (vs := [.slice a'1 ls1.length c'1]) (ob := []) (by as_aux_lemma => kernel_rfl) An enters52 (compact_hand _ a'1 ls1 c'1 w2 (hO.own _ (List.Mem.head _)) (by have := hk0.size; omega) (by omega)) ?_
 clear hf; rintro _ w3 a ⟨rfl, hx, hk⟩ hf
 have hM := hO.memTurn hM hk; have hk0 := hk0.then hk (by intro i hi h; have := ((hO.own _ (List.Mem.head _)).lt i h).1; omega); have hO := hO.turn2 hk hx; clear hk hx
 replace hO : OwnOk w.heap.size [] [⟨28, 2, .slice a'1 (comp ls1).length c'1, (comp ls1).length, flat fH (comp ls1)⟩] w3 := hO
 refine q0 hf hM [] [{}] (nw := [(4, eS a'1 (comp ls1).length c'1)]) An ?_
 clear hf; intro a hf
 refine wpList_nil ?_
 refine hK4 _ _ ?_
 refine wp_ret ?_
 refine qr (fn := Try.f33) hf hM [] (l := [.slice a'1 (comp ls1).length c'1]) (ob := []) An ?_
 show ∃ a' c', (.slice a'1 (comp ls1).length c'1 : Value) = .slice a' (ordS ltH l).length c' ∧ Keep Nn w w3 ∧ World.ownsRow w3 w.heap.size 28 2 (.slice a' (ordS ltH l).length c') (ordS ltH l).length (flat fH (ordS ltH l))
 have e := comp_ordS ordH hpm1 hsd1
 rw [e] at hO
 exact ⟨_, _, by rw [e], hk0, hO.own _ (List.Mem.head _)⟩

set_option maxRecDepth 10000 in
set_option maxHeartbeats 1600000 in
theorem sorted_pair (av : Option Addr) (l : List P4) (c : Nat) (w : World) (hav : Arr w 4 av l.length c (flat fP l)) (hbav : l.length ≤ 1000000) :
    Calls Try.prog 36 #[.slice av l.length c, .func (.func 37) #[] #[]] w (Ret fun v w' => ∃ a' c', v = .slice a' (ordS ltP l).length c' ∧ Keep Nn w w' ∧ World.ownsRow w' w.heap.size 31 4 (.slice a' (ordS ltP l).length c') (ordS ltP l).length (flat fP (ordS ltP l))) := by
 refine sxenter (n := 13) (args := [.slice av l.length c, .func (.func 37) #[] #[]]) Try.func36 rfl rfl rfl fun a hf => ?_
 replace hf : Fr 13 [(0, eS av l.length c), (1, .val (.func (.func 37) #[] #[]))] a := hf
 have hM : MemOk [] w := MemOk.nil w
 have hk0 : Keep Nn w w := Keep.refl _ _
 refine wp_seq_k (fun K1 hK1 => ?_)
 refine wp_region_lit ?_
 refine q0 hf hM [0, 1] [{}] (nw := []) An ?_
 clear hf; intro a hf
 refine wpList_nil ?_
 refine hK1 _ _ ?_
 refine wp_seq_k (fun K2 hK2 => ?_)
 refine wp_region_lit ?_
 refine q0 hf hM [1] [{}] (nw := [(6, eS av l.length c)]) An ?_
 clear hf; intro a hf
 refine sxcall hf rfl rfl rfl rfl (g := 54) (vs := [.slice av l.length c]) (ob := []) (by as_aux_lemma => kernel_rfl) An enters54 (clone_pair av l c w  (hav.keepNn hk0) (by first | omega | (simp; omega) | (simp; done) | exact Nat.le_trans (byKinds_len _ _) (by omega) | decide)) ?_
 clear hf; rintro _ w1 a ⟨a'1, c'1, rfl, hk, hx1⟩ hf
 have hO : OwnOk w.heap.size [] [] w := OwnOk.nil hM
 have hO := hO.more hM hk (by have := hk0.size; omega) hx1
 replace hO : OwnOk w.heap.size [] [⟨31, 4, .slice a'1 l.length c'1, l.length, flat fP l⟩] _ := hO
 have hM := hM.keepNn hk
 have hk0 := hk0.trans hk.nn
 clear hk
 refine q0 hf hM [1] [{}] (nw := [(5, eS a'1 l.length c'1)]) An ?_
 clear hf; intro a hf
 refine wpList_nil ?_
 refine hK2 _ _ ?_
 refine wp_seq_k (fun K3 hK3 => ?_)
 refine wp_region_lit ?_
 refine q0 hf hM [5] [{}, {}] (nw := [(9, .val (.func (.func 37) #[] #[])), (8, eS a'1 l.length c'1)]) An ?_
 clear hf; intro a hf
 replace hO : OwnOk w.heap.size [] [⟨31, 4, .slice a'1 l.length c'1, l.length, flat fP l⟩] w1 := OwnOk.front (l1 := []) (l2 := []) hO
 refine sxcall hf rfl rfl rfl rfl (g := 55) (vs := [.slice a'1 l.length c'1, .func (.func 37) #[] #[]]) (ob := []) (by as_aux_lemma => kernel_rfl) An enters55 (sort_pair (hO.own _ (List.Mem.head _)) hbav) ?_
 clear hf; rintro _ w2 a ⟨rfl, ls1, hpm1, hsd1, hx, hk⟩ hf
 have hM := hO.memTurn hM hk; have hO := hO.turn hk hx; have hk0 := hk0.then hk (by intro i hi h; have := ((hO.own _ (List.Mem.head _)).lt i h).1; omega); clear hk hx
 have hlls1 : l.length = ls1.length := hpm1.length_eq.symm
 rw [hlls1] at hf hO
 have hf := (hf.prune [10, 9, 8, 5]).to (env' := [(10, .val (.tuple #[])), (9, .val (.func (.func 37) #[] #[])), (8, eS a'1 ls1.length c'1), (5, eS a'1 ls1.length c'1)]) (by kernel_rfl)
 replace hO : OwnOk w.heap.size [] [⟨31, 4, .slice a'1 ls1.length c'1, ls1.length, flat fP ls1⟩] w2 := hO
 refine wpList_nil ?_
 refine hK3 _ _ ?_
 refine wp_seq_k (fun K4 hK4 => ?_)
 refine wp_region_lit ?_
 refine q0 hf hM [] [{}] (nw := [(11, eS a'1 ls1.length c'1)]) An ?_
 clear hf; intro a hf
 replace hO : OwnOk w.heap.size [] [⟨31, 4, .slice a'1 ls1.length c'1, ls1.length, flat fP ls1⟩] w2 := OwnOk.front (l1 := []) (l2 := []) hO
 refine sxcall hf rfl rfl rfl rfl (g := 56) (vs := [.slice a'1 ls1.length c'1]) (ob := []) (by as_aux_lemma => kernel_rfl) An enters56 (compact_pair _ a'1 ls1 c'1 w2 (hO.own _ (List.Mem.head _)) (by have := hk0.size; omega) (by omega)) ?_
 clear hf; rintro _ w3 a ⟨rfl, hx, hk⟩ hf
 have hM := hO.memTurn hM hk; have hk0 := hk0.then hk (by intro i hi h; have := ((hO.own _ (List.Mem.head _)).lt i h).1; omega); have hO := hO.turn2 hk hx; clear hk hx
 replace hO : OwnOk w.heap.size [] [⟨31, 4, .slice a'1 (comp ls1).length c'1, (comp ls1).length, flat fP (comp ls1)⟩] w3 := hO
 refine q0 hf hM [] [{}] (nw := [(4, eS a'1 (comp ls1).length c'1)]) An ?_
 clear hf; intro a hf
 refine wpList_nil ?_
 refine hK4 _ _ ?_
 refine wp_ret ?_
 refine qr (fn := Try.f36) hf hM [] (l := [.slice a'1 (comp ls1).length c'1]) (ob := []) An ?_
 show ∃ a' c', (.slice a'1 (comp ls1).length c'1 : Value) = .slice a' (ordS ltP l).length c' ∧ Keep Nn w w3 ∧ World.ownsRow w3 w.heap.size 31 4 (.slice a' (ordS ltP l).length c') (ordS ltP l).length (flat fP (ordS ltP l))
 have e := comp_ordS ordP hpm1 hsd1
 rw [e] at hO
 exact ⟨_, _, by rw [e], hk0, hO.own _ (List.Mem.head _)⟩

set_option maxRecDepth 10000 in
set_option maxHeartbeats 1600000 in
theorem oHandles (av : Option Addr) (l : List H2) (c : Nat) (w : World) (hav : Arr w 2 av l.length c (flat fH l)) (hbav : l.length ≤ 1000000) :
    Calls Try.prog 13 #[.slice av l.length c] w (Ret fun v w' => ∃ a' c', v = .slice a' (ordS ltH l).length c' ∧ Keep Nn w w' ∧ World.ownsRow w' w.heap.size 28 2 (.slice a' (ordS ltH l).length c') (ordS ltH l).length (flat fH (ordS ltH l))) := by
 refine sxenter (n := 5) (args := [.slice av l.length c]) Try.func13 rfl rfl rfl fun a hf => ?_
 replace hf : Fr 5 [(0, eS av l.length c)] a := hf
 have hM : MemOk [] w := MemOk.nil w
 have hk0 : Keep Nn w w := Keep.refl _ _
 refine wp_seq_k (fun K1 hK1 => ?_)
 refine wp_region_lit ?_
 refine q0 hf hM [0] [{}] (nw := []) An ?_
 clear hf; intro a hf
 refine wpList_nil ?_
 refine hK1 _ _ ?_
 refine wp_seq_k (fun K2 hK2 => ?_)
 refine wp_region_lit ?_
 refine q0 hf hM [] [{}] (nw := [(3, eS av l.length c)]) An ?_
 clear hf; intro a hf
 refine sxcall hf rfl rfl rfl rfl (g := 33) (vs := [.slice av l.length c, .func (.func 34) #[] #[]]) (ob := []) (by as_aux_lemma => kernel_rfl) An enters33 (sorted_hand av l c w  (hav.keepNn hk0) (by first | omega | (simp; omega) | (simp; done) | exact Nat.le_trans (byKinds_len _ _) (by omega) | decide)) ?_
 clear hf; rintro _ w1 a ⟨a'1, c'1, rfl, hk, hx1⟩ hf
 have hO : OwnOk w.heap.size [] [] w := OwnOk.nil hM
 have hO := hO.more hM hk (by have := hk0.size; omega) hx1
 replace hO : OwnOk w.heap.size [] [⟨28, 2, .slice a'1 (ordS ltH l).length c'1, (ordS ltH l).length, flat fH (ordS ltH l)⟩] _ := hO
 have hM := hM.keepNn hk
 have hk0 := hk0.trans hk.nn
 clear hk
 refine q0 hf hM [] [{}] (nw := [(2, eS a'1 (ordS ltH l).length c'1)]) An ?_
 clear hf; intro a hf
 refine wpList_nil ?_
 refine hK2 _ _ ?_
 refine wp_ret ?_
 refine qr (fn := Try.f13) hf hM [] (l := [.slice a'1 (ordS ltH l).length c'1]) (ob := []) An ?_
 show ∃ a' c', (.slice a'1 (ordS ltH l).length c'1 : Value) = .slice a' (ordS ltH l).length c' ∧ Keep Nn w w1 ∧ World.ownsRow w1 w.heap.size 28 2 (.slice a' (ordS ltH l).length c') (ordS ltH l).length (flat fH (ordS ltH l))
 exact ⟨_, _, rfl, hk0, hO.own _ (List.Mem.head _)⟩

set_option maxRecDepth 10000 in
set_option maxHeartbeats 1600000 in
theorem oInts (av : Option Addr) (l : List Int) (c : Nat) (w : World) (hav : Arr w 1 av l.length c (flat fI l)) (hbav : l.length ≤ 1000000) :
    Calls Try.prog 27 #[.slice av l.length c] w (Ret fun v w' => ∃ a' c', v = .slice a' (ordS ltI l).length c' ∧ Keep Nn w w' ∧ World.ownsRow w' w.heap.size 3 1 (.slice a' (ordS ltI l).length c') (ordS ltI l).length (flat fI (ordS ltI l))) := by
 refine sxenter (n := 5) (args := [.slice av l.length c]) Try.func27 rfl rfl rfl fun a hf => ?_
 replace hf : Fr 5 [(0, eS av l.length c)] a := hf
 have hM : MemOk [] w := MemOk.nil w
 have hk0 : Keep Nn w w := Keep.refl _ _
 refine wp_seq_k (fun K1 hK1 => ?_)
 refine wp_region_lit ?_
 refine q0 hf hM [0] [{}] (nw := []) An ?_
 clear hf; intro a hf
 refine wpList_nil ?_
 refine hK1 _ _ ?_
 refine wp_seq_k (fun K2 hK2 => ?_)
 refine wp_region_lit ?_
 refine q0 hf hM [] [{}] (nw := [(3, eS av l.length c)]) An ?_
 clear hf; intro a hf
 refine sxcall hf rfl rfl rfl rfl (g := 44) (vs := [.slice av l.length c, .func (.func 45) #[] #[]]) (ob := []) (by as_aux_lemma => kernel_rfl) An enters44 (sorted_int av l c w  (hav.keepNn hk0) (by first | omega | (simp; omega) | (simp; done) | exact Nat.le_trans (byKinds_len _ _) (by omega) | decide)) ?_
 clear hf; rintro _ w1 a ⟨a'1, c'1, rfl, hk, hx1⟩ hf
 have hO : OwnOk w.heap.size [] [] w := OwnOk.nil hM
 have hO := hO.more hM hk (by have := hk0.size; omega) hx1
 replace hO : OwnOk w.heap.size [] [⟨3, 1, .slice a'1 (ordS ltI l).length c'1, (ordS ltI l).length, flat fI (ordS ltI l)⟩] _ := hO
 have hM := hM.keepNn hk
 have hk0 := hk0.trans hk.nn
 clear hk
 refine q0 hf hM [] [{}] (nw := [(2, eS a'1 (ordS ltI l).length c'1)]) An ?_
 clear hf; intro a hf
 refine wpList_nil ?_
 refine hK2 _ _ ?_
 refine wp_ret ?_
 refine qr (fn := Try.f27) hf hM [] (l := [.slice a'1 (ordS ltI l).length c'1]) (ob := []) An ?_
 show ∃ a' c', (.slice a'1 (ordS ltI l).length c'1 : Value) = .slice a' (ordS ltI l).length c' ∧ Keep Nn w w1 ∧ World.ownsRow w1 w.heap.size 3 1 (.slice a' (ordS ltI l).length c') (ordS ltI l).length (flat fI (ordS ltI l))
 exact ⟨_, _, rfl, hk0, hO.own _ (List.Mem.head _)⟩
end Go.Proofs.Ytllopoaojchcmaa
