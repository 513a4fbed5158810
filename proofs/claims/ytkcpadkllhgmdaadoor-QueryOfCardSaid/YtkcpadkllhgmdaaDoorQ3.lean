/- layers 3 and 9 -/
import Derived.Test.YtkcpadkllhgmdaaDoorQ2
import Derived.Test.YtkcpadkllhgmdaaDoorXA
import Derived.Test.YtkcpadkllhgmdaaDoorXp9
import Derived.Test.YtkcpadkllhgmdaaDoorXp6g
namespace Go.Proofs.YtkcpadkllhgmdaaDoor
open Go.Px
set_option linter.unusedVariables false
set_option linter.unusedSimpArgs false

set_option maxRecDepth 10000 in
set_option maxHeartbeats 1600000 in
theorem r3kind (k : Int) (w : World) :
    Calls Tryd.prog 45 #[iV k] w (Ret fun v w' => v = .bool (okK k) ∧ Keep Nn w w') := by
 refine sxenter (n := 9) (args := [iV k]) Tryd.func45 rfl rfl rfl fun a hf => ?_
 replace hf : Fr 9 [(0, eI k)] a := hf
 have hM : MemOk [] w := MemOk.nil w
 have hk0 : Keep Nn w w := Keep.refl _ _
 refine wp_seq_k (fun K1 hK1 => ?_)
 refine wp_region_lit ?_
 refine q0 hf hM [0] [{}] (nw := []) An ?_
 clear hf; intro a hf
 refine wpList_nil ?_
 refine hK1 _ _ ?_
 refine wp_seq_k (fun K2 hK2 => ?_)
 refine wp_region_lit ?_
 refine q0 hf hM [] [{}, {}, {}, { g := .sym }, { g := .sym }, { hint := some (bV ((decide ((k : Int) ≥ 0)) && (decide ((k : Int) < 10)))) }, {}] (nw := [(2, eB ((decide ((k : Int) ≥ 0)) && (decide ((k : Int) < 10))))]) (ob := [((decide ((k : Int) ≥ 0)) = true → (decide ((k : Int) ≥ 0)) = (decide ((k : Int) ≥ 0))), ((decide ((k : Int) ≥ 0)) = true → (decide ((k : Int) ≥ 0)) = (decide ((k : Int) ≥ 0))), (bif (decide ((k : Int) ≥ 0)) then (bV (decide ((k : Int) < 10)) : Value) else bV false) = .bool ((decide ((k : Int) ≥ 0)) && (decide ((k : Int) < 10)))]) (Ac (fun hgd => rfl) (Ac (fun _ => rfl) (Ao (pick_and _ _)))) ?_
 clear hf; intro a hf
 refine wpList_nil ?_
 refine hK2 _ _ ?_
 refine wp_ret ?_
 refine qr (fn := Tryd.f45) hf hM [] (l := [bV ((decide ((k : Int) ≥ 0)) && (decide ((k : Int) < 10)))]) (ob := []) An ?_
 show (bV ((decide ((k : Int) ≥ 0)) && (decide ((k : Int) < 10))) : Value) = .bool (okK k) ∧ Keep Nn w w
 refine ⟨congrArg Value.bool ?_, hk0⟩
 rw [Bool.eq_iff_iff]
 simp only [okK, Bool.or_eq_true, Bool.and_eq_true, Bool.not_eq_true', Bool.not_eq_false', Bool.or_eq_false_iff, Bool.and_eq_false_iff, decide_eq_true_eq, decide_eq_false_iff_not, beq_iff_eq, Bool.false_eq_true, Bool.true_eq_false, false_iff, true_iff, iff_true, iff_false, not_true, not_false_iff, true_and, and_true, false_and, and_false, ge_iff_le, gt_iff_lt] at *
 try omega

set_option maxRecDepth 10000 in
set_option maxHeartbeats 1600000 in
theorem set_ok (L : List Bool) (av : Option Addr) (l : List Int) (c : Nat) (w : World) (hn0 : (kindsOk l) = true) (hL : L.length = 64) (hav : Arr w 1 av l.length c (flat fI l)) (hbav : l.length ≤ 1000000) :
    Calls Tryd.prog 23 #[.agg (flat fB L).toArray, .slice av l.length c, bV true] w (Ret fun v w' => v = .tuple #[.agg (flat fB (setB L l)).toArray, bV true] ∧ Keep Nn w w') := by
 refine sxenter (n := 25) (args := [.agg (flat fB L).toArray, .slice av l.length c, bV true]) Tryd.func23 rfl rfl rfl fun a hf => ?_
 replace hf : Fr 25 [(0, .val (.agg (flat fB L).toArray)), (1, eS av l.length c), (2, eB true)] a := hf
 have hM : MemOk [] w := MemOk.nil w
 have hk0 : Keep Nn w w := Keep.refl _ _
 refine wp_seq_k (fun K1 hK1 => ?_)
 refine wp_region_lit ?_
 have hO : OwnOk w.heap.size [] [] w := OwnOk.nil hM
 refine sxboxown hf hM hO (t := 66) (xs := flat fB L) (k := 64) rfl rfl rfl (by have := hk0.size; omega) (by rw [fB_len]; exact hL) (by decide) rfl (v := .agg (flat fB L).toArray) rfl rfl ?_
 clear hf hM hO; intro a w1 B1 hf hM hO hk
 replace hO : OwnOk w.heap.size [] [⟨66, 1, .slice (some ⟨B1, 0, none⟩) 64 64, 64, flat fB L⟩] w1 := hO
 have hk0 := hk0.trans hk.nn
 clear hk
 refine sxnewown hf hM hO (t := 66) (xs := flat fB zeroB) (k := 64) rfl rfl rfl (by have := hk0.size; omega) (by rw [fB_len]; exact rfl) (by decide) (ox_alloc (z := .agg (flat fB zeroB).toArray) rfl (by kernel_rfl) rfl) ?_
 clear hf hM hO; intro a w2 B2 hf hM hO hk
 replace hO : OwnOk w.heap.size [] [⟨66, 1, .slice (some ⟨B2, 0, none⟩) 64 64, 64, flat fB zeroB⟩, ⟨66, 1, .slice (some ⟨B1, 0, none⟩) 64 64, 64, flat fB L⟩] w2 := hO
 have hk0 := hk0.trans hk.nn
 clear hk
 refine q0 hf hM [6, 3, 1, 2] [{}] (nw := []) An ?_
 clear hf; intro a hf
 refine wpList_nil ?_
 refine hK1 _ _ ?_
 refine wp_seq_k (fun K2 hK2 => ?_)
 refine wp_seq_k (fun K3 hK3 => ?_)
 refine wp_region_lit ?_
 refine q0 hf hM [6, 3, 2] [{}, {}, {}] (nw := [(12, eI 0), (11, eI (l.length : Int)), (10, eS av l.length c)]) An ?_
 clear hf; intro a hf
 refine wpList_nil ?_
 refine hK3 _ _ ?_
 refine wp_block ?_
 have hf := (hf.prune [2, 3, 6, 10, 11, 12]).to (env' := [(2, eB true), (3, eP B1 0), (6, eP B2 0), (10, eS av l.length c), (11, eI (l.length : Int)), (12, eI 0)]) (by kernel_rfl)
 replace hO : OwnOk w.heap.size [] [⟨66, 1, .slice (some ⟨B2, 0, none⟩) 64 64, 64, flat fB zeroB⟩, ⟨66, 1, .slice (some ⟨B1, 0, none⟩) 64 64, 64, flat fB (setB L (l.take (0 : Int).toNat))⟩] w2 := by
  first | exact hO | (have e : ([⟨66, 1, .slice (some ⟨B2, 0, none⟩) 64 64, 64, flat fB zeroB⟩, ⟨66, 1, .slice (some ⟨B1, 0, none⟩) 64 64, 64, flat fB L⟩] : List Own) = [⟨66, 1, .slice (some ⟨B2, 0, none⟩) 64 64, 64, flat fB zeroB⟩, ⟨66, 1, .slice (some ⟨B1, 0, none⟩) 64 64, 64, flat fB (setB L (l.take (0 : Int).toNat))⟩] := by rfl) <;> (rw [← e]; exact hO)
 refine sxloop (fun zm a w1 => ∃ (i : Int), zm = ((l.length : Int) - i).toNat ∧ Fr 25 [(2, eB true), (3, eP B1 0), (6, eP B2 0), (10, eS av l.length c), (11, eI (l.length : Int)), (12, eI i)] a ∧ MemOk [] w1 ∧ Keep Nn w w1 ∧ OwnOk w.heap.size [] [⟨66, 1, .slice (some ⟨B2, 0, none⟩) 64 64, 64, flat fB zeroB⟩, ⟨66, 1, .slice (some ⟨B1, 0, none⟩) 64 64, 64, flat fB (setB L (l.take i.toNat))⟩] w1 ∧ (0 ≤ i ∧ i ≤ (l.length : Int))) _ ⟨0, rfl, hf.conv (Ac rfl (Ac rfl (Ac rfl (Ac rfl (Ac rfl (Ao rfl)))))), hM, hk0, hO, (by omega)⟩ ?_
 clear hf hM hk0 hO
 rintro _ a w3 ⟨i, rfl, hf, hM, hk0, hO, hi⟩ L1 hL1
 refine wp_seq_k (fun K4 hK4 => ?_)
 refine wp_region_lit ?_
 refine q0 hf hM [2, 3, 6, 10, 11, 12] [{}] (nw := [(13, eB (decide ((i : Int) < (l.length : Int))))]) An ?_
 clear hf; intro a hf
 refine wpList_nil ?_
 refine hK4 _ _ ?_
 refine wp_seq_k (fun K5 hK5 => ?_)
 refine qc hf (b := (decide ((i : Int) < (l.length : Int)))) (fun hc1r => ?_) (fun hc1r => ?_)
 · have hc1 := (nT hc1r)
   have hka := kindsOk_at hn0 (i := i) ⟨by omega, by omega⟩
   have hkl : okK (l.getD i.toNat 0) = true := decide_eq_true hka
   refine wp_skip ?_
   refine hK5 _ _ ?_
   refine wp_seq_k (fun K6 hK6 => ?_)
   refine wp_block ?_
   refine wp_seq_k (fun K7 hK7 => ?_)
   refine wp_region_lit ?_
   refine q0 hf hM [2, 3, 6, 10, 11, 12] [{ sp := true }, { os := [.ex (iV (l.getD i.toNat 0))] }, {}] (nw := [(9, eI (l.getD i.toNat 0))]) (ob := [(0 : Int) ≤ i ∧ i < (l.length : Int), (av : Option Addr).isSome = true, w3.cell? ((sa av : Addr).add (i.toNat * 1)) = some (iV (l.getD i.toNat 0))]) (Ac (by first | omega | (simp; done)) (Ac ((hav.keepNn hk0).some_ (by first | omega | (simp; done))) (Ao ((hav.keepNn hk0).get0 (fun _ => rfl) (by first | omega | (simp; done)) rfl)))) ?_
   clear hf; intro a hf
   refine wpList_nil ?_
   refine hK7 _ _ ?_
   refine wp_seq_k (fun K8 hK8 => ?_)
   refine wp_seq_k (fun K9 hK9 => ?_)
   refine wp_region_lit ?_
   refine q0 hf hM [9, 2, 3, 6, 10, 11, 12] [{}] (nw := [(16, eI (l.getD i.toNat 0))]) An ?_
   clear hf; intro a hf
   refine sxcall hf rfl rfl rfl rfl (g := 45) (vs := [iV (l.getD i.toNat 0)]) (ob := []) (by as_aux_lemma => kernel_rfl) An enters45 (r3kind (l.getD i.toNat 0) w3  ) ?_
   clear hf; rintro _ w4 a ⟨rfl, hk⟩ hf
   have hO := hO.keepNn hk
   have hM := hM.keepNn hk
   have hk0 := hk0.trans hk.nn
   clear hk
   refine q0 hf hM [9, 2, 3, 6, 10, 11, 12] [{}] (nw := [(18, eB (!(okK (l.getD i.toNat 0))))]) An ?_
   clear hf; intro a hf
   refine wpList_nil ?_
   refine hK9 _ _ ?_
   refine sxcond hf (b := !(okK (l.getD i.toNat 0))) (by kernel_rfl) (fun h => absurd (h.symm.trans ((congrArg Bool.not hkl).trans rfl : (!(okK (l.getD i.toNat 0)) : Bool) = false)) (by simp)) (fun _ => ?_)
   refine wp_skip ?_
   refine hK8 _ _ ?_
   refine wp_region_lit ?_
   refine q0 hf hM [2, 3, 6, 10, 11, 12] [{}, {}, { sp := true }] (nw := [(22, .val (.pointer (some ((sa (some ⟨B1, 0, none⟩) : Addr).add ((l.getD i.toNat 0).toNat * 1))))), (21, eB true)]) (ob := [(0 : Int) ≤ (l.getD i.toNat 0) ∧ (l.getD i.toNat 0) < (64 : Int)]) (Ao (by have := okK_of (show okK (l.getD i.toNat 0) = true by assumption); omega)) ?_
   clear hf; intro a hf
   replace hO : OwnOk w.heap.size [] [⟨66, 1, .slice (some ⟨B1, 0, none⟩) 64 64, 64, flat fB (setB L (l.take i.toNat))⟩, ⟨66, 1, .slice (some ⟨B2, 0, none⟩) 64 64, 64, flat fB zeroB⟩] w4 := OwnOk.front (l1 := [⟨66, 1, .slice (some ⟨B2, 0, none⟩) 64 64, 64, flat fB zeroB⟩]) (l2 := []) hO
   refine sxset hf hM hO rfl rfl rfl (val := bV true) rfl rfl (i := (l.getD i.toNat 0).toNat) (q := 0) (x := true) (d := false) rfl (by kernel_rfl) (fun _ => rfl) (by rw [setB_len, hL]; have := okK_of (show okK (l.getD i.toNat 0) = true by assumption); omega) (by rw [setB_len]; exact hL) rfl rfl rfl (by intro u hu; simp [Value.cells] at hu; first | (subst hu; rfl) | (rcases hu with rfl | rfl <;> rfl) | (rcases hu with rfl | rfl | rfl <;> rfl) | (rcases hu with rfl | rfl | rfl | rfl <;> rfl) | (rcases hu with rfl | rfl | rfl | rfl | rfl <;> rfl)) ?_
   clear hf; intro a w5 hf hM hO hk
   have hk0 := hk0.then hk (by intro i hi h; have := ((hO.own _ (List.Mem.head _)).lt i h).1; omega)
   clear hk
   refine wpList_nil ?_
   refine hK6 _ _ ?_
   refine wp_region_lit ?_
   refine q0 hf hM [2, 3, 6, 10, 11] [{ hint := some (iV (i + 1)) }, {}] (nw := [(12, eI (i + 1))]) (ob := [(iV (IntKind.i64.wrap (i + 1)) : Value) = (iV (i + 1) : Value)]) (Ao (wr (by omega))) ?_
   clear hf; intro a hf
   refine wpList_nil ?_
   have hf := (hf.prune [2, 3, 6, 10, 11, 12]).to (env' := [(2, eB true), (3, eP B1 0), (6, eP B2 0), (10, eS av l.length c), (11, eI (l.length : Int)), (12, eI (i + 1))]) (by kernel_rfl)
   replace hO : OwnOk w.heap.size [] [⟨66, 1, .slice (some ⟨B2, 0, none⟩) 64 64, 64, flat fB zeroB⟩, ⟨66, 1, .slice (some ⟨B1, 0, none⟩) 64 64, 64, flat fB ((setB L (l.take i.toNat)).set (l.getD i.toNat 0).toNat true)⟩] w5 := OwnOk.front (l1 := [⟨66, 1, .slice (some ⟨B1, 0, none⟩) 64 64, 64, flat fB ((setB L (l.take i.toNat)).set (l.getD i.toNat 0).toNat true)⟩]) (l2 := []) hO
   replace hO : OwnOk w.heap.size [] [⟨66, 1, .slice (some ⟨B2, 0, none⟩) 64 64, 64, flat fB zeroB⟩, ⟨66, 1, .slice (some ⟨B1, 0, none⟩) 64 64, 64, flat fB (setB L (l.take (i + 1).toNat))⟩] w5 := by
    first | exact hO | (have e : ([⟨66, 1, .slice (some ⟨B2, 0, none⟩) 64 64, 64, flat fB zeroB⟩, ⟨66, 1, .slice (some ⟨B1, 0, none⟩) 64 64, 64, flat fB ((setB L (l.take i.toNat)).set (l.getD i.toNat 0).toNat true)⟩] : List Own) = [⟨66, 1, .slice (some ⟨B2, 0, none⟩) 64 64, 64, flat fB zeroB⟩, ⟨66, 1, .slice (some ⟨B1, 0, none⟩) 64 64, 64, flat fB (setB L (l.take (i + 1).toNat))⟩] := by (rw [setB_next (by omega)]; try rfl)) <;> (rw [← e]; exact hO)
   refine hL1 _ _ _ (by omega) ⟨i + 1, rfl, hf.conv (Ac rfl (Ac rfl (Ac rfl (Ac rfl (Ac rfl (Ao rfl)))))), hM, hk0, hO, (by omega)⟩
 · have hc1 := (nU hc1r)
   refine wp_exit ?_
   refine hK2 _ _ ?_
   refine wp_seq_k (fun K10 hK10 => ?_)
   refine wp_region_lit ?_
   replace hO : OwnOk w.heap.size [] [⟨66, 1, .slice (some ⟨B1, 0, none⟩) 64 64, 64, flat fB (setB L (l.take i.toNat))⟩, ⟨66, 1, .slice (some ⟨B2, 0, none⟩) 64 64, 64, flat fB zeroB⟩] w3 := OwnOk.front (l1 := [⟨66, 1, .slice (some ⟨B2, 0, none⟩) 64 64, 64, flat fB zeroB⟩]) (l2 := []) hO
   refine sxloadown hf hM hO rfl rfl rfl rfl rfl Tryd.underlying66 rfl (by kernel_rfl) ?_; clear hf; intro a hf
   replace hO : OwnOk w.heap.size [] [⟨66, 1, .slice (some ⟨B2, 0, none⟩) 64 64, 64, flat fB zeroB⟩, ⟨66, 1, .slice (some ⟨B1, 0, none⟩) 64 64, 64, flat fB (setB L (l.take i.toNat))⟩] w3 := OwnOk.front (l1 := [⟨66, 1, .slice (some ⟨B1, 0, none⟩) 64 64, 64, flat fB (setB L (l.take i.toNat))⟩]) (l2 := []) hO
   refine sxsetall hf hM hO rfl rfl rfl rfl (y := .agg (flat fB (setB L (l.take i.toNat))).toArray) rfl (ys := flat fB (setB L (l.take i.toNat))) rfl (by rw [fB_len]; exact (by rw [setB_len]; exact hL)) (by decide) (by kernel_rfl) (flat_one1 fB_one) ?_
   clear hf; intro a w6 hf hM hO hk
   have hk0 := hk0.then hk (by intro i hi h; have := ((hO.own _ (List.Mem.head _)).lt i h).1; omega)
   clear hk
   refine q0 hf hM [6] [{}] (nw := [(7, eB true)]) An ?_
   clear hf; intro a hf
   refine wpList_nil ?_
   refine hK10 _ _ ?_
   refine wp_ret ?_
   refine sxretR hf (fn := Tryd.f23) (l := [.agg (flat fB (setB L (l.take i.toNat))).toArray, bV true]) (rs := [.cell 6 66, .tmp 7]) rfl (by kernel_rfl) (resL_arr rfl (hO.own _ (List.Mem.head _)) Tryd.underlying66 rfl (by kernel_rfl) (resL_tmp rfl resL_nil)) ?_
   show (.tuple #[.agg (flat fB (setB L (l.take i.toNat))).toArray, bV true] : Value) = .tuple #[.agg (flat fB (setB L l)).toArray, bV true] ∧ Keep Nn w w6
   have e : l.take i.toNat = l := List.take_of_length_le (by omega)
   exact ⟨by rw [e], hk0⟩

set_option maxRecDepth 10000 in
set_option maxHeartbeats 1600000 in
theorem set_no (L : List Bool) (av : Option Addr) (l : List Int) (c : Nat) (w : World) (hn0 : (kindsOk l) = false) (hL : L.length = 64) (hav : Arr w 1 av l.length c (flat fI l)) (hbav : l.length ≤ 1000000) :
    Calls Tryd.prog 23 #[.agg (flat fB L).toArray, .slice av l.length c, bV true] w (Ret fun v w' => v = .tuple #[.agg (flat fB zeroB).toArray, bV false] ∧ Keep Nn w w') := by
 refine sxenter (n := 25) (args := [.agg (flat fB L).toArray, .slice av l.length c, bV true]) Tryd.func23 rfl rfl rfl fun a hf => ?_
 replace hf : Fr 25 [(0, .val (.agg (flat fB L).toArray)), (1, eS av l.length c), (2, eB true)] a := hf
 have hM : MemOk [] w := MemOk.nil w
 have hk0 : Keep Nn w w := Keep.refl _ _
 refine wp_seq_k (fun K1 hK1 => ?_)
 refine wp_region_lit ?_
 have hO : OwnOk w.heap.size [] [] w := OwnOk.nil hM
 refine sxboxown hf hM hO (t := 66) (xs := flat fB L) (k := 64) rfl rfl rfl (by have := hk0.size; omega) (by rw [fB_len]; exact hL) (by decide) rfl (v := .agg (flat fB L).toArray) rfl rfl ?_
 clear hf hM hO; intro a w1 B1 hf hM hO hk
 replace hO : OwnOk w.heap.size [] [⟨66, 1, .slice (some ⟨B1, 0, none⟩) 64 64, 64, flat fB L⟩] w1 := hO
 have hk0 := hk0.trans hk.nn
 clear hk
 refine sxnewown hf hM hO (t := 66) (xs := flat fB zeroB) (k := 64) rfl rfl rfl (by have := hk0.size; omega) (by rw [fB_len]; exact rfl) (by decide) (ox_alloc (z := .agg (flat fB zeroB).toArray) rfl (by kernel_rfl) rfl) ?_
 clear hf hM hO; intro a w2 B2 hf hM hO hk
 replace hO : OwnOk w.heap.size [] [⟨66, 1, .slice (some ⟨B2, 0, none⟩) 64 64, 64, flat fB zeroB⟩, ⟨66, 1, .slice (some ⟨B1, 0, none⟩) 64 64, 64, flat fB L⟩] w2 := hO
 have hk0 := hk0.trans hk.nn
 clear hk
 refine q0 hf hM [6, 3, 1, 2] [{}] (nw := []) An ?_
 clear hf; intro a hf
 refine wpList_nil ?_
 refine hK1 _ _ ?_
 refine wp_seq_k (fun K2 hK2 => ?_)
 refine wp_seq_k (fun K3 hK3 => ?_)
 refine wp_region_lit ?_
 refine q0 hf hM [6, 3, 2] [{}, {}, {}] (nw := [(12, eI 0), (11, eI (l.length : Int)), (10, eS av l.length c)]) An ?_
 clear hf; intro a hf
 refine wpList_nil ?_
 refine hK3 _ _ ?_
 refine wp_block ?_
 have hf := (hf.prune [2, 3, 6, 10, 11, 12]).to (env' := [(2, eB true), (3, eP B1 0), (6, eP B2 0), (10, eS av l.length c), (11, eI (l.length : Int)), (12, eI 0)]) (by kernel_rfl)
 replace hO : OwnOk w.heap.size [] [⟨66, 1, .slice (some ⟨B2, 0, none⟩) 64 64, 64, flat fB zeroB⟩, ⟨66, 1, .slice (some ⟨B1, 0, none⟩) 64 64, 64, flat fB (setB L (l.take (0 : Int).toNat))⟩] w2 := by
  first | exact hO | (have e : ([⟨66, 1, .slice (some ⟨B2, 0, none⟩) 64 64, 64, flat fB zeroB⟩, ⟨66, 1, .slice (some ⟨B1, 0, none⟩) 64 64, 64, flat fB L⟩] : List Own) = [⟨66, 1, .slice (some ⟨B2, 0, none⟩) 64 64, 64, flat fB zeroB⟩, ⟨66, 1, .slice (some ⟨B1, 0, none⟩) 64 64, 64, flat fB (setB L (l.take (0 : Int).toNat))⟩] := by rfl) <;> (rw [← e]; exact hO)
 refine sxloop (fun zm a w1 => ∃ (i : Int), zm = ((l.length : Int) - i).toNat ∧ Fr 25 [(2, eB true), (3, eP B1 0), (6, eP B2 0), (10, eS av l.length c), (11, eI (l.length : Int)), (12, eI i)] a ∧ MemOk [] w1 ∧ Keep Nn w w1 ∧ OwnOk w.heap.size [] [⟨66, 1, .slice (some ⟨B2, 0, none⟩) 64 64, 64, flat fB zeroB⟩, ⟨66, 1, .slice (some ⟨B1, 0, none⟩) 64 64, 64, flat fB (setB L (l.take i.toNat))⟩] w1 ∧ (0 ≤ i ∧ i ≤ (l.length : Int)) ∧ (kindsOk (l.take i.toNat) = true)) _ ⟨0, rfl, hf.conv (Ac rfl (Ac rfl (Ac rfl (Ac rfl (Ac rfl (Ao rfl)))))), hM, hk0, hO, (by omega), (by simp [kindsOk])⟩ ?_
 clear hf hM hk0 hO
 rintro _ a w3 ⟨i, rfl, hf, hM, hk0, hO, hi, hko⟩ L1 hL1
 refine wp_seq_k (fun K4 hK4 => ?_)
 refine wp_region_lit ?_
 refine q0 hf hM [2, 3, 6, 10, 11, 12] [{}] (nw := [(13, eB (decide ((i : Int) < (l.length : Int))))]) An ?_
 clear hf; intro a hf
 refine wpList_nil ?_
 refine hK4 _ _ ?_
 refine wp_seq_k (fun K5 hK5 => ?_)
 refine qc hf (b := (decide ((i : Int) < (l.length : Int)))) (fun hc1r => ?_) (fun hc1r => ?_)
 · have hc1 := (nT hc1r)
   refine wp_skip ?_
   refine hK5 _ _ ?_
   refine wp_seq_k (fun K6 hK6 => ?_)
   refine wp_block ?_
   refine wp_seq_k (fun K7 hK7 => ?_)
   refine wp_region_lit ?_
   refine q0 hf hM [2, 3, 6, 10, 11, 12] [{ sp := true }, { os := [.ex (iV (l.getD i.toNat 0))] }, {}] (nw := [(9, eI (l.getD i.toNat 0))]) (ob := [(0 : Int) ≤ i ∧ i < (l.length : Int), (av : Option Addr).isSome = true, w3.cell? ((sa av : Addr).add (i.toNat * 1)) = some (iV (l.getD i.toNat 0))]) (Ac (by first | omega | (simp; done)) (Ac ((hav.keepNn hk0).some_ (by first | omega | (simp; done))) (Ao ((hav.keepNn hk0).get0 (fun _ => rfl) (by first | omega | (simp; done)) rfl)))) ?_
   clear hf; intro a hf
   refine wpList_nil ?_
   refine hK7 _ _ ?_
   refine wp_seq_k (fun K8 hK8 => ?_)
   refine wp_seq_k (fun K9 hK9 => ?_)
   refine wp_region_lit ?_
   refine q0 hf hM [9, 2, 3, 6, 10, 11, 12] [{}] (nw := [(16, eI (l.getD i.toNat 0))]) An ?_
   clear hf; intro a hf
   refine sxcall hf rfl rfl rfl rfl (g := 45) (vs := [iV (l.getD i.toNat 0)]) (ob := []) (by as_aux_lemma => kernel_rfl) An enters45 (r3kind (l.getD i.toNat 0) w3  ) ?_
   clear hf; rintro _ w4 a ⟨rfl, hk⟩ hf
   have hO := hO.keepNn hk
   have hM := hM.keepNn hk
   have hk0 := hk0.trans hk.nn
   clear hk
   refine q0 hf hM [9, 2, 3, 6, 10, 11, 12] [{}] (nw := [(18, eB (!(okK (l.getD i.toNat 0))))]) An ?_
   clear hf; intro a hf
   refine wpList_nil ?_
   refine hK9 _ _ ?_
   refine qc hf (b := !(okK (l.getD i.toNat 0))) (fun hc2r => ?_) (fun hc2r => ?_)
   · have hc2 := hc2r
     try simp only [Bool.or_eq_true, Bool.and_eq_true, Bool.not_eq_true', Bool.not_eq_false', Bool.or_eq_false_iff, Bool.and_eq_false_iff, decide_eq_true_eq, decide_eq_false_iff_not, beq_iff_eq, bne_iff_ne, beq_eq_false_iff_ne, bne_eq_false_iff_eq, Bool.and_true, Bool.true_and, ne_eq] at hc2
     refine wp_seq_k (fun K10 hK10 => ?_)
     refine wp_region_lit ?_
     refine q0 hf hM [6] [{ sp := true, hint := some (.agg (flat fB zeroB).toArray) }] (nw := [(19, .val (.agg (flat fB zeroB).toArray))]) (ob := [(.agg #[bV false, bV false, bV false, bV false, bV false, bV false, bV false, bV false, bV false, bV false, bV false, bV false, bV false, bV false, bV false, bV false, bV false, bV false, bV false, bV false, bV false, bV false, bV false, bV false, bV false, bV false, bV false, bV false, bV false, bV false, bV false, bV false, bV false, bV false, bV false, bV false, bV false, bV false, bV false, bV false, bV false, bV false, bV false, bV false, bV false, bV false, bV false, bV false, bV false, bV false, bV false, bV false, bV false, bV false, bV false, bV false, bV false, bV false, bV false, bV false, bV false, bV false, bV false, bV false] : Value) = (.agg (flat fB zeroB).toArray : Value)]) (Ao rfl) ?_
     clear hf; intro a hf
     refine sxsetall hf hM hO rfl rfl rfl rfl (y := .agg (flat fB zeroB).toArray) rfl (ys := flat fB zeroB) rfl (by rw [fB_len]; exact rfl) (by decide) (by kernel_rfl) (flat_one1 fB_one) ?_
     clear hf; intro a w5 hf hM hO hk
     have hk0 := hk0.then hk (by intro i hi h; have := ((hO.own _ (List.Mem.head _)).lt i h).1; omega)
     clear hk
     refine q0 hf hM [6] [{}] (nw := [(7, eB false)]) An ?_
     clear hf; intro a hf
     refine wpList_nil ?_
     refine hK10 _ _ ?_
     refine wp_ret ?_
     refine sxretR hf (fn := Tryd.f23) (l := [.agg (flat fB zeroB).toArray, bV false]) (rs := [.cell 6 66, .tmp 7]) rfl (by kernel_rfl) (resL_arr rfl (hO.own _ (List.Mem.head _)) Tryd.underlying66 rfl (by kernel_rfl) (resL_tmp rfl resL_nil)) ?_
     show (.tuple #[.agg (flat fB zeroB).toArray, bV false] : Value) = .tuple #[.agg (flat fB zeroB).toArray, bV false] ∧ Keep Nn w w5
     exact ⟨rfl, hk0⟩
   · have hc2 := hc2r
     try simp only [Bool.or_eq_true, Bool.and_eq_true, Bool.not_eq_true', Bool.not_eq_false', Bool.or_eq_false_iff, Bool.and_eq_false_iff, decide_eq_true_eq, decide_eq_false_iff_not, beq_iff_eq, bne_iff_ne, beq_eq_false_iff_ne, bne_eq_false_iff_eq, Bool.and_true, Bool.true_and, ne_eq] at hc2
     refine wp_skip ?_
     refine hK8 _ _ ?_
     refine wp_region_lit ?_
     refine q0 hf hM [2, 3, 6, 10, 11, 12] [{}, {}, { sp := true }] (nw := [(22, .val (.pointer (some ((sa (some ⟨B1, 0, none⟩) : Addr).add ((l.getD i.toNat 0).toNat * 1))))), (21, eB true)]) (ob := [(0 : Int) ≤ (l.getD i.toNat 0) ∧ (l.getD i.toNat 0) < (64 : Int)]) (Ao (by have := okK_of (show okK (l.getD i.toNat 0) = true by assumption); omega)) ?_
     clear hf; intro a hf
     replace hO : OwnOk w.heap.size [] [⟨66, 1, .slice (some ⟨B1, 0, none⟩) 64 64, 64, flat fB (setB L (l.take i.toNat))⟩, ⟨66, 1, .slice (some ⟨B2, 0, none⟩) 64 64, 64, flat fB zeroB⟩] w4 := OwnOk.front (l1 := [⟨66, 1, .slice (some ⟨B2, 0, none⟩) 64 64, 64, flat fB zeroB⟩]) (l2 := []) hO
     refine sxset hf hM hO rfl rfl rfl (val := bV true) rfl rfl (i := (l.getD i.toNat 0).toNat) (q := 0) (x := true) (d := false) rfl (by kernel_rfl) (fun _ => rfl) (by rw [setB_len, hL]; have := okK_of (show okK (l.getD i.toNat 0) = true by assumption); omega) (by rw [setB_len]; exact hL) rfl rfl rfl (by intro u hu; simp [Value.cells] at hu; first | (subst hu; rfl) | (rcases hu with rfl | rfl <;> rfl) | (rcases hu with rfl | rfl | rfl <;> rfl) | (rcases hu with rfl | rfl | rfl | rfl <;> rfl) | (rcases hu with rfl | rfl | rfl | rfl | rfl <;> rfl)) ?_
     clear hf; intro a w6 hf hM hO hk
     have hk0 := hk0.then hk (by intro i hi h; have := ((hO.own _ (List.Mem.head _)).lt i h).1; omega)
     clear hk
     refine wpList_nil ?_
     refine hK6 _ _ ?_
     refine wp_region_lit ?_
     refine q0 hf hM [2, 3, 6, 10, 11] [{ hint := some (iV (i + 1)) }, {}] (nw := [(12, eI (i + 1))]) (ob := [(iV (IntKind.i64.wrap (i + 1)) : Value) = (iV (i + 1) : Value)]) (Ao (wr (by omega))) ?_
     clear hf; intro a hf
     refine wpList_nil ?_
     have hko2 := kindsOk_next (by omega) hko (okK_of (by assumption))
     have hf := (hf.prune [2, 3, 6, 10, 11, 12]).to (env' := [(2, eB true), (3, eP B1 0), (6, eP B2 0), (10, eS av l.length c), (11, eI (l.length : Int)), (12, eI (i + 1))]) (by kernel_rfl)
     replace hO : OwnOk w.heap.size [] [⟨66, 1, .slice (some ⟨B2, 0, none⟩) 64 64, 64, flat fB zeroB⟩, ⟨66, 1, .slice (some ⟨B1, 0, none⟩) 64 64, 64, flat fB ((setB L (l.take i.toNat)).set (l.getD i.toNat 0).toNat true)⟩] w6 := OwnOk.front (l1 := [⟨66, 1, .slice (some ⟨B1, 0, none⟩) 64 64, 64, flat fB ((setB L (l.take i.toNat)).set (l.getD i.toNat 0).toNat true)⟩]) (l2 := []) hO
     replace hO : OwnOk w.heap.size [] [⟨66, 1, .slice (some ⟨B2, 0, none⟩) 64 64, 64, flat fB zeroB⟩, ⟨66, 1, .slice (some ⟨B1, 0, none⟩) 64 64, 64, flat fB (setB L (l.take (i + 1).toNat))⟩] w6 := by
      first | exact hO | (have e : ([⟨66, 1, .slice (some ⟨B2, 0, none⟩) 64 64, 64, flat fB zeroB⟩, ⟨66, 1, .slice (some ⟨B1, 0, none⟩) 64 64, 64, flat fB ((setB L (l.take i.toNat)).set (l.getD i.toNat 0).toNat true)⟩] : List Own) = [⟨66, 1, .slice (some ⟨B2, 0, none⟩) 64 64, 64, flat fB zeroB⟩, ⟨66, 1, .slice (some ⟨B1, 0, none⟩) 64 64, 64, flat fB (setB L (l.take (i + 1).toNat))⟩] := by (rw [setB_next (by omega)]; try rfl)) <;> (rw [← e]; exact hO)
     refine hL1 _ _ _ (by omega) ⟨i + 1, rfl, hf.conv (Ac rfl (Ac rfl (Ac rfl (Ac rfl (Ac rfl (Ao rfl)))))), hM, hk0, hO, (by omega), hko2⟩
 · have hc1 := (nU hc1r)
   refine wp_exit ?_
   refine hK2 _ _ ?_
   refine wp_seq_k (fun K11 hK11 => ?_)
   refine wp_region_lit ?_
   replace hO : OwnOk w.heap.size [] [⟨66, 1, .slice (some ⟨B1, 0, none⟩) 64 64, 64, flat fB (setB L (l.take i.toNat))⟩, ⟨66, 1, .slice (some ⟨B2, 0, none⟩) 64 64, 64, flat fB zeroB⟩] w3 := OwnOk.front (l1 := [⟨66, 1, .slice (some ⟨B2, 0, none⟩) 64 64, 64, flat fB zeroB⟩]) (l2 := []) hO
   refine sxloadown hf hM hO rfl rfl rfl rfl rfl Tryd.underlying66 rfl (by kernel_rfl) ?_; clear hf; intro a hf
   replace hO : OwnOk w.heap.size [] [⟨66, 1, .slice (some ⟨B2, 0, none⟩) 64 64, 64, flat fB zeroB⟩, ⟨66, 1, .slice (some ⟨B1, 0, none⟩) 64 64, 64, flat fB (setB L (l.take i.toNat))⟩] w3 := OwnOk.front (l1 := [⟨66, 1, .slice (some ⟨B1, 0, none⟩) 64 64, 64, flat fB (setB L (l.take i.toNat))⟩]) (l2 := []) hO
   refine sxsetall hf hM hO rfl rfl rfl rfl (y := .agg (flat fB (setB L (l.take i.toNat))).toArray) rfl (ys := flat fB (setB L (l.take i.toNat))) rfl (by rw [fB_len]; exact (by rw [setB_len]; exact hL)) (by decide) (by kernel_rfl) (flat_one1 fB_one) ?_
   clear hf; intro a w7 hf hM hO hk
   have hk0 := hk0.then hk (by intro i hi h; have := ((hO.own _ (List.Mem.head _)).lt i h).1; omega)
   clear hk
   refine q0 hf hM [6] [{}] (nw := [(7, eB true)]) An ?_
   clear hf; intro a hf
   refine wpList_nil ?_
   refine hK11 _ _ ?_
   refine wp_ret ?_
   refine sxretR hf (fn := Tryd.f23) (l := [.agg (flat fB (setB L (l.take i.toNat))).toArray, bV true]) (rs := [.cell 6 66, .tmp 7]) rfl (by kernel_rfl) (resL_arr rfl (hO.own _ (List.Mem.head _)) Tryd.underlying66 rfl (by kernel_rfl) (resL_tmp rfl resL_nil)) ?_
   show (.tuple #[.agg (flat fB (setB L (l.take i.toNat))).toArray, bV true] : Value) = .tuple #[.agg (flat fB zeroB).toArray, bV false] ∧ Keep Nn w w7
   exfalso
   have e : l.take i.toNat = l := List.take_of_length_le (by omega)
   rw [e, hn0] at hko
   cases hko

set_option maxRecDepth 10000 in
set_option maxHeartbeats 1600000 in
theorem bnum (L : List Bool) (w : World) (hL : L.length = 64) :
    Calls Tryd.prog 24 #[.agg (flat fB L).toArray] w (Ret fun v w' => v = uV (((numB L) : Nat) : Int) ∧ Keep Nn w w') := by
 refine sxenter (n := 17) (args := [.agg (flat fB L).toArray]) Tryd.func24 rfl rfl rfl fun a hf => ?_
 replace hf : Fr 17 [(0, .val (.agg (flat fB L).toArray))] a := hf
 have hM : MemOk [] w := MemOk.nil w
 have hk0 : Keep Nn w w := Keep.refl _ _
 refine wp_seq_k (fun K1 hK1 => ?_)
 refine wp_region_lit ?_
 have hO : OwnOk w.heap.size [] [] w := OwnOk.nil hM
 refine sxboxown hf hM hO (t := 66) (xs := flat fB L) (k := 64) rfl rfl rfl (by have := hk0.size; omega) (by rw [fB_len]; exact hL) (by decide) rfl (v := .agg (flat fB L).toArray) rfl rfl ?_
 clear hf hM hO; intro a w1 B1 hf hM hO hk
 replace hO : OwnOk w.heap.size [] [⟨66, 1, .slice (some ⟨B1, 0, none⟩) 64 64, 64, flat fB L⟩] w1 := hO
 have hk0 := hk0.trans hk.nn
 clear hk
 refine q0 hf hM [1] [{}] (nw := []) An ?_
 clear hf; intro a hf
 refine wpList_nil ?_
 refine hK1 _ _ ?_
 refine wp_seq_k (fun K2 hK2 => ?_)
 refine wp_region_lit ?_
 refine q0 hf hM [1] [{}] (nw := [(3, eU 0)]) An ?_
 clear hf; intro a hf
 refine wpList_nil ?_
 refine hK2 _ _ ?_
 refine wp_seq_k (fun K3 hK3 => ?_)
 refine wp_seq_k (fun K4 hK4 => ?_)
 refine wp_region_lit ?_
 refine q0 hf hM [3, 1] [{}] (nw := [(4, eI 63)]) An ?_
 clear hf; intro a hf
 refine wpList_nil ?_
 refine hK4 _ _ ?_
 refine wp_block ?_
 have hf := (hf.prune [1, 3, 4]).to (env' := [(1, eP B1 0), (3, eU 0), (4, eI 63)]) (by kernel_rfl)
 refine sxloop (fun zm a w1 => ∃ (i : Int), zm = (i + 1).toNat ∧ Fr 17 [(1, eP B1 0), (3, eU (((numB (L.drop (i + 1).toNat)) : Nat) : Int)), (4, eI i)] a ∧ MemOk [] w1 ∧ Keep Nn w w1 ∧ OwnOk w.heap.size [] [⟨66, 1, .slice (some ⟨B1, 0, none⟩) 64 64, 64, flat fB L⟩] w1 ∧ (-1 ≤ i ∧ i ≤ 63)) _ ⟨63, rfl, hf.conv (Ac rfl (Ac (congrArg (Value.int .u64) (numB_start hL).symm) (Ao rfl))), hM, hk0, hO, (by omega)⟩ ?_
 clear hf hM hk0 hO
 rintro _ a w2 ⟨i, rfl, hf, hM, hk0, hO, hi⟩ L1 hL1
 refine wp_seq_k (fun K5 hK5 => ?_)
 refine wp_seq_k (fun K6 hK6 => ?_)
 refine wp_region_lit ?_
 refine q0 hf hM [1, 3, 4] [{}, {}] (nw := [(6, eB (decide ((i : Int) ≥ 0)))]) An ?_
 clear hf; intro a hf
 refine wpList_nil ?_
 refine hK6 _ _ ?_
 refine qc hf (b := (decide ((i : Int) ≥ 0))) (fun hc1r => ?_) (fun hc1r => ?_)
 · have hc1 := (nT hc1r)
   have hnr := numB_room hL (i := i) (by omega)
   refine wp_skip ?_
   refine hK5 _ _ ?_
   refine wp_seq_k (fun K7 hK7 => ?_)
   refine wp_block ?_
   refine wp_seq_k (fun K8 hK8 => ?_)
   refine wp_region_lit ?_
   refine q0 hf hM [1, 4] [{}, { hint := some (uV ((((numB (L.drop (i + 1).toNat)) : Nat) : Int) * 2)) }, {}] (nw := [(3, eU ((((numB (L.drop (i + 1).toNat)) : Nat) : Int) * 2))]) (ob := [(uV (IntKind.u64.wrap ((((numB (L.drop (i + 1).toNat)) : Nat) : Int) * 2)) : Value) = (uV ((((numB (L.drop (i + 1).toNat)) : Nat) : Int) * 2) : Value)]) (Ao (wru (by omega))) ?_
   clear hf; intro a hf
   refine wpList_nil ?_
   refine hK8 _ _ ?_
   refine wp_seq_k (fun K9 hK9 => ?_)
   refine wp_region_lit ?_
   refine q0 hf hM [3, 1, 4] [{}, { sp := true }, { os := [.ex (bV (L.getD i.toNat false))] }] (nw := [(13, eB (L.getD i.toNat false))]) (ob := [(0 : Int) ≤ i ∧ i < (64 : Int), w2.cell? ((sa (some ⟨B1, 0, none⟩) : Addr).add (i.toNat * 1)) = some (bV (L.getD i.toNat false))]) (Ac (by omega) (Ao ((own_arr (hO.own _ (List.Mem.head _))).get0 (fun _ => rfl) (by first | omega | (simp; done)) rfl))) ?_
   clear hf; intro a hf
   refine wpList_nil ?_
   refine hK9 _ _ ?_
   refine qc hf (b := (L.getD i.toNat false)) (fun hc2r => ?_) (fun hc2r => ?_)
   · have hc2 := hc2r
     refine wp_region_lit ?_
     refine q0 hf hM [1, 4] [{}, { hint := some (uV (((((numB (L.drop (i + 1).toNat)) : Nat) : Int) * 2) + 1)) }, {}] (nw := [(3, eU (((((numB (L.drop (i + 1).toNat)) : Nat) : Int) * 2) + 1))]) (ob := [(uV (IntKind.u64.wrap (((((numB (L.drop (i + 1).toNat)) : Nat) : Int) * 2) + 1)) : Value) = (uV (((((numB (L.drop (i + 1).toNat)) : Nat) : Int) * 2) + 1) : Value)]) (Ao (wru (by omega))) ?_
     clear hf; intro a hf
     refine wpList_nil ?_
     refine hK7 _ _ ?_
     refine wp_region_lit ?_
     refine q0 hf hM [3, 1] [{}, { hint := some (iV (i - 1)) }, {}] (nw := [(4, eI (i - 1))]) (ob := [(iV (IntKind.i64.wrap (i - 1)) : Value) = (iV (i - 1) : Value)]) (Ao (wr (by omega))) ?_
     clear hf; intro a hf
     refine wpList_nil ?_
     have hf := (hf.prune [1, 3, 4]).to (env' := [(1, eP B1 0), (3, eU (((((numB (L.drop (i + 1).toNat)) : Nat) : Int) * 2) + 1)), (4, eI (i - 1))]) (by kernel_rfl)
     refine hL1 _ _ _ (by omega) ⟨i - 1, rfl, hf.conv (Ac rfl (Ac (congrArg (Value.int .u64) (by first | exact numB_stepT (by omega) hL (by assumption) | exact numB_stepF (by omega) hL (by assumption))) (Ao rfl))), hM, hk0, hO, (by omega)⟩
   · have hc2 := hc2r
     refine wp_skip ?_
     refine hK7 _ _ ?_
     refine wp_region_lit ?_
     refine q0 hf hM [3, 1] [{}, { hint := some (iV (i - 1)) }, {}] (nw := [(4, eI (i - 1))]) (ob := [(iV (IntKind.i64.wrap (i - 1)) : Value) = (iV (i - 1) : Value)]) (Ao (wr (by omega))) ?_
     clear hf; intro a hf
     refine wpList_nil ?_
     have hf := (hf.prune [1, 3, 4]).to (env' := [(1, eP B1 0), (3, eU ((((numB (L.drop (i + 1).toNat)) : Nat) : Int) * 2)), (4, eI (i - 1))]) (by kernel_rfl)
     refine hL1 _ _ _ (by omega) ⟨i - 1, rfl, hf.conv (Ac rfl (Ac (congrArg (Value.int .u64) (by first | exact numB_stepT (by omega) hL (by assumption) | exact numB_stepF (by omega) hL (by assumption))) (Ao rfl))), hM, hk0, hO, (by omega)⟩
 · have hc1 := (nU hc1r)
   refine wp_exit ?_
   refine hK3 _ _ ?_
   refine wp_seq_k (fun K10 hK10 => ?_)
   refine wp_region_lit ?_
   refine q0 hf hM [] [{}, {}] (nw := [(2, eU (((numB (L.drop (i + 1).toNat)) : Nat) : Int))]) An ?_
   clear hf; intro a hf
   refine wpList_nil ?_
   refine hK10 _ _ ?_
   refine wp_ret ?_
   refine qr (fn := Tryd.f24) hf hM [] (l := [uV (((numB (L.drop (i + 1).toNat)) : Nat) : Int)]) (ob := []) An ?_
   show (uV (((numB (L.drop (i + 1).toNat)) : Nat) : Int) : Value) = uV (((numB L) : Nat) : Int) ∧ Keep Nn w w2
   refine ⟨congrArg (Value.int .u64) ?_, hk0⟩
   rw [show (i + 1).toNat = 0 by omega, List.drop_zero]

set_option maxRecDepth 10000 in
set_option maxHeartbeats 1600000 in
theorem bfrom (n : Nat) (w : World) (hn : n < 2 ^ 64) :
    Calls Tryd.prog 31 #[uV ((n : Nat) : Int)] w (Ret fun v w' => v = .agg (flat fB (bitsN n)).toArray ∧ Keep Nn w w') := by
 refine sxenter (n := 18) (args := [uV ((n : Nat) : Int)]) Tryd.func31 rfl rfl rfl fun a hf => ?_
 replace hf : Fr 18 [(0, eU ((n : Nat) : Int))] a := hf
 have hM : MemOk [] w := MemOk.nil w
 have hk0 : Keep Nn w w := Keep.refl _ _
 refine wp_seq_k (fun K1 hK1 => ?_)
 refine wp_region_lit ?_
 have hO : OwnOk w.heap.size [] [] w := OwnOk.nil hM
 refine sxnewown hf hM hO (t := 66) (xs := flat fB zeroB) (k := 64) rfl rfl rfl (by have := hk0.size; omega) (by rw [fB_len]; exact rfl) (by decide) (ox_alloc (z := .agg (flat fB zeroB).toArray) rfl (by kernel_rfl) rfl) ?_
 clear hf hM hO; intro a w1 B1 hf hM hO hk
 replace hO : OwnOk w.heap.size [] [⟨66, 1, .slice (some ⟨B1, 0, none⟩) 64 64, 64, flat fB zeroB⟩] w1 := hO
 have hk0 := hk0.trans hk.nn
 clear hk
 refine wpList_nil ?_
 refine hK1 _ _ ?_
 refine wp_seq_k (fun K2 hK2 => ?_)
 refine wp_region_lit ?_
 refine q0 hf hM [2, 0] [{ sp := true, hint := some (.agg (flat fB zeroB).toArray) }] (nw := [(5, .val (.agg (flat fB zeroB).toArray))]) (ob := [(.agg #[bV false, bV false, bV false, bV false, bV false, bV false, bV false, bV false, bV false, bV false, bV false, bV false, bV false, bV false, bV false, bV false, bV false, bV false, bV false, bV false, bV false, bV false, bV false, bV false, bV false, bV false, bV false, bV false, bV false, bV false, bV false, bV false, bV false, bV false, bV false, bV false, bV false, bV false, bV false, bV false, bV false, bV false, bV false, bV false, bV false, bV false, bV false, bV false, bV false, bV false, bV false, bV false, bV false, bV false, bV false, bV false, bV false, bV false, bV false, bV false, bV false, bV false, bV false, bV false] : Value) = (.agg (flat fB zeroB).toArray : Value)]) (Ao rfl) ?_
 clear hf; intro a hf
 refine sxnewown hf hM hO (t := 66) (xs := flat fB zeroB) (k := 64) rfl rfl rfl (by have := hk0.size; omega) (by rw [fB_len]; exact rfl) (by decide) (ox_alloc (z := .agg (flat fB zeroB).toArray) rfl (by kernel_rfl) rfl) ?_
 clear hf hM hO; intro a w2 B3 hf hM hO hk
 replace hO : OwnOk w.heap.size [] [⟨66, 1, .slice (some ⟨B3, 0, none⟩) 64 64, 64, flat fB zeroB⟩, ⟨66, 1, .slice (some ⟨B1, 0, none⟩) 64 64, 64, flat fB zeroB⟩] w2 := hO
 have hk0 := hk0.trans hk.nn
 clear hk
 refine sxsetall hf hM hO rfl rfl rfl rfl (y := .agg (flat fB zeroB).toArray) rfl (ys := flat fB zeroB) rfl (by rw [fB_len]; exact rfl) (by decide) (by kernel_rfl) (flat_one1 fB_one) ?_
 clear hf; intro a w3 hf hM hO hk
 have hk0 := hk0.then hk (by intro i hi h; have := ((hO.own _ (List.Mem.head _)).lt i h).1; omega)
 clear hk
 refine wpList_nil ?_
 refine hK2 _ _ ?_
 refine wp_seq_k (fun K3 hK3 => ?_)
 refine wp_seq_k (fun K4 hK4 => ?_)
 refine wp_region_lit ?_
 refine q0 hf hM [3, 2, 0] [{}] (nw := [(4, eI 0)]) An ?_
 clear hf; intro a hf
 refine wpList_nil ?_
 refine hK4 _ _ ?_
 refine wp_block ?_
 have hf := (hf.prune [0, 2, 3, 4]).to (env' := [(0, eU ((n : Nat) : Int)), (2, eP B1 0), (3, eP B3 0), (4, eI 0)]) (by kernel_rfl)
 replace hO : OwnOk w.heap.size [] [⟨66, 1, .slice (some ⟨B3, 0, none⟩) 64 64, 64, flat fB (bitsT n (0 : Int).toNat)⟩, ⟨66, 1, .slice (some ⟨B1, 0, none⟩) 64 64, 64, flat fB zeroB⟩] w3 := by
  first | exact hO | (have e : ([⟨66, 1, .slice (some ⟨B3, 0, none⟩) 64 64, 64, flat fB zeroB⟩, ⟨66, 1, .slice (some ⟨B1, 0, none⟩) 64 64, 64, flat fB zeroB⟩] : List Own) = [⟨66, 1, .slice (some ⟨B3, 0, none⟩) 64 64, 64, flat fB (bitsT n (0 : Int).toNat)⟩, ⟨66, 1, .slice (some ⟨B1, 0, none⟩) 64 64, 64, flat fB zeroB⟩] := by (rw [show bitsT n (0 : Int).toNat = zeroB from bitsT_zero n])) <;> (rw [← e]; exact hO)
 refine sxloop (fun zm a w1 => ∃ (i : Int), zm = (64 - i).toNat ∧ Fr 18 [(0, eU (((n / 2 ^ i.toNat) : Nat) : Int)), (2, eP B1 0), (3, eP B3 0), (4, eI i)] a ∧ MemOk [] w1 ∧ Keep Nn w w1 ∧ OwnOk w.heap.size [] [⟨66, 1, .slice (some ⟨B3, 0, none⟩) 64 64, 64, flat fB (bitsT n i.toNat)⟩, ⟨66, 1, .slice (some ⟨B1, 0, none⟩) 64 64, 64, flat fB zeroB⟩] w1 ∧ (0 ≤ i ∧ i ≤ 64)) _ ⟨0, rfl, hf.conv (Ac (congrArg (Value.int .u64) (by simp)) (Ac rfl (Ac rfl (Ao rfl)))), hM, hk0, hO, (by omega)⟩ ?_
 clear hf hM hk0 hO
 rintro _ a w4 ⟨i, rfl, hf, hM, hk0, hO, hi⟩ L1 hL1
 refine wp_seq_k (fun K5 hK5 => ?_)
 refine wp_seq_k (fun K6 hK6 => ?_)
 refine wp_region_lit ?_
 refine q0 hf hM [0, 2, 3, 4] [{}, {}] (nw := [(7, eB (decide ((i : Int) < 64)))]) An ?_
 clear hf; intro a hf
 refine wpList_nil ?_
 refine hK6 _ _ ?_
 refine qc hf (b := (decide ((i : Int) < 64))) (fun hc1r => ?_) (fun hc1r => ?_)
 · have hc1 := (nT hc1r)
   refine wp_skip ?_
   refine hK5 _ _ ?_
   refine wp_seq_k (fun K7 hK7 => ?_)
   refine wp_block ?_
   refine wp_seq_k (fun K8 hK8 => ?_)
   refine wp_region_lit ?_
   refine q0 hf hM [0, 2, 3, 4] [{}, {}, { sp := true, hint := some (uV (((n / 2 ^ i.toNat % 2) : Nat) : Int)) }, {}, { sp := true }] (nw := [(14, .val (.pointer (some ((sa (some ⟨B3, 0, none⟩) : Addr).add (i.toNat * 1))))), (13, eB (((((n / 2 ^ i.toNat % 2) : Nat) : Int) : Int) == 1))]) (ob := [(2 : Int) ≠ 0, (uV (Int.tmod (((n / 2 ^ i.toNat) : Nat) : Int) 2) : Value) = (uV (((n / 2 ^ i.toNat % 2) : Nat) : Int) : Value), (0 : Int) ≤ i ∧ i < (64 : Int)]) (Ac (by omega) (Ac (congrArg (Value.int .u64) (tmod_nat2 _)) (Ao (by first | omega | (simp; done))))) ?_
   clear hf; intro a hf
   refine sxset hf hM hO rfl rfl rfl (val := bV (((((n / 2 ^ i.toNat % 2) : Nat) : Int) : Int) == 1)) rfl rfl (i := i.toNat) (q := 0) (x := (((((n / 2 ^ i.toNat % 2) : Nat) : Int) : Int) == 1)) (d := false) rfl (by kernel_rfl) (fun _ => rfl) (by rw [bitsT_len]; omega) (bitsT_len _ _) rfl rfl rfl (by intro u hu; simp [Value.cells] at hu; first | (subst hu; rfl) | (rcases hu with rfl | rfl <;> rfl) | (rcases hu with rfl | rfl | rfl <;> rfl) | (rcases hu with rfl | rfl | rfl | rfl <;> rfl) | (rcases hu with rfl | rfl | rfl | rfl | rfl <;> rfl)) ?_
   clear hf; intro a w5 hf hM hO hk
   have hk0 := hk0.then hk (by intro i hi h; have := ((hO.own _ (List.Mem.head _)).lt i h).1; omega)
   clear hk
   refine wpList_nil ?_
   refine hK8 _ _ ?_
   refine wp_region_lit ?_
   refine q0 hf hM [2, 3, 4] [{}, { sp := true, hint := some (uV (((n / 2 ^ i.toNat / 2) : Nat) : Int)) }, {}] (nw := [(0, eU (((n / 2 ^ i.toNat / 2) : Nat) : Int))]) (ob := [(2 : Int) ≠ 0, (uV (IntKind.u64.wrap (Int.tdiv (((n / 2 ^ i.toNat) : Nat) : Int) 2)) : Value) = (uV (((n / 2 ^ i.toNat / 2) : Nat) : Int) : Value)]) (Ac (by omega) (Ao (quo_nat2 (Nat.lt_of_le_of_lt (Nat.div_le_self _ _) hn)))) ?_
   clear hf; intro a hf
   refine wpList_nil ?_
   refine hK7 _ _ ?_
   refine wp_region_lit ?_
   refine q0 hf hM [0, 2, 3] [{}, { hint := some (iV (i + 1)) }, {}] (nw := [(4, eI (i + 1))]) (ob := [(iV (IntKind.i64.wrap (i + 1)) : Value) = (iV (i + 1) : Value)]) (Ao (wr (by omega))) ?_
   clear hf; intro a hf
   refine wpList_nil ?_
   have hf := (hf.prune [0, 2, 3, 4]).to (env' := [(0, eU (((n / 2 ^ i.toNat / 2) : Nat) : Int)), (2, eP B1 0), (3, eP B3 0), (4, eI (i + 1))]) (by kernel_rfl)
   replace hO : OwnOk w.heap.size [] [⟨66, 1, .slice (some ⟨B3, 0, none⟩) 64 64, 64, flat fB (bitsT n (i + 1).toNat)⟩, ⟨66, 1, .slice (some ⟨B1, 0, none⟩) 64 64, 64, flat fB zeroB⟩] w5 := by
    first | exact hO | (have e : ([⟨66, 1, .slice (some ⟨B3, 0, none⟩) 64 64, 64, flat fB ((bitsT n i.toNat).set i.toNat (((((n / 2 ^ i.toNat % 2) : Nat) : Int) : Int) == 1))⟩, ⟨66, 1, .slice (some ⟨B1, 0, none⟩) 64 64, 64, flat fB zeroB⟩] : List Own) = [⟨66, 1, .slice (some ⟨B3, 0, none⟩) 64 64, 64, flat fB (bitsT n (i + 1).toNat)⟩, ⟨66, 1, .slice (some ⟨B1, 0, none⟩) 64 64, 64, flat fB zeroB⟩] := by (rw [bitsT_next (by omega)]; try rfl)) <;> (rw [← e]; exact hO)
   refine hL1 _ _ _ (by omega) ⟨i + 1, rfl, hf.conv (Ac (congrArg (Value.int .u64) (by rw [half_next (by omega)])) (Ac rfl (Ac rfl (Ao rfl)))), hM, hk0, hO, (by omega)⟩
 · have hc1 := (nU hc1r)
   refine wp_exit ?_
   refine hK3 _ _ ?_
   refine wp_seq_k (fun K9 hK9 => ?_)
   refine wp_region_lit ?_
   refine sxloadown hf hM hO rfl rfl rfl rfl rfl Tryd.underlying66 rfl (by kernel_rfl) ?_; clear hf; intro a hf
   replace hO : OwnOk w.heap.size [] [⟨66, 1, .slice (some ⟨B1, 0, none⟩) 64 64, 64, flat fB zeroB⟩, ⟨66, 1, .slice (some ⟨B3, 0, none⟩) 64 64, 64, flat fB (bitsT n i.toNat)⟩] w4 := OwnOk.front (l1 := [⟨66, 1, .slice (some ⟨B3, 0, none⟩) 64 64, 64, flat fB (bitsT n i.toNat)⟩]) (l2 := []) hO
   refine sxsetall hf hM hO rfl rfl rfl rfl (y := .agg (flat fB (bitsT n i.toNat)).toArray) rfl (ys := flat fB (bitsT n i.toNat)) rfl (by rw [fB_len]; exact (bitsT_len _ _)) (by decide) (by kernel_rfl) (flat_one1 fB_one) ?_
   clear hf; intro a w6 hf hM hO hk
   have hk0 := hk0.then hk (by intro i hi h; have := ((hO.own _ (List.Mem.head _)).lt i h).1; omega)
   clear hk
   refine wpList_nil ?_
   refine hK9 _ _ ?_
   refine wp_ret ?_
   refine sxretR hf (fn := Tryd.f31) (l := [.agg (flat fB (bitsT n i.toNat)).toArray]) (rs := [.cell 2 66]) rfl (by kernel_rfl) (resL_arr rfl (hO.own _ (List.Mem.head _)) Tryd.underlying66 rfl (by kernel_rfl) resL_nil) ?_
   show (.agg (flat fB (bitsT n i.toNat)).toArray : Value) = .agg (flat fB (bitsN n)).toArray ∧ Keep Nn w w6
   exact ⟨by rw [show i.toNat = 64 by omega]; rfl, hk0⟩

set_option maxRecDepth 10000 in
set_option maxHeartbeats 1600000 in
theorem bfits (x1 x2 x3 : List Bool) (w : World) (hx1 : x1.length = 64) (hx2 : x2.length = 64) (hx3 : x3.length = 64) :
    Calls Tryd.prog 33 #[.agg (flat fB x1).toArray, .agg (flat fB x2).toArray, .agg (flat fB x3).toArray] w (Ret fun v w' => v = .bool (fitsB x1 x2 x3) ∧ Keep Nn w w') := by
 refine sxenter (n := 31) (args := [.agg (flat fB x1).toArray, .agg (flat fB x2).toArray, .agg (flat fB x3).toArray]) Tryd.func33 rfl rfl rfl fun a hf => ?_
 replace hf : Fr 31 [(0, .val (.agg (flat fB x1).toArray)), (1, .val (.agg (flat fB x2).toArray)), (2, .val (.agg (flat fB x3).toArray))] a := hf
 have hM : MemOk [] w := MemOk.nil w
 have hk0 : Keep Nn w w := Keep.refl _ _
 refine wp_seq_k (fun K1 hK1 => ?_)
 refine wp_region_lit ?_
 have hO : OwnOk w.heap.size [] [] w := OwnOk.nil hM
 refine sxboxown hf hM hO (t := 66) (xs := flat fB x1) (k := 64) rfl rfl rfl (by have := hk0.size; omega) (by rw [fB_len]; exact hx1) (by decide) rfl (v := .agg (flat fB x1).toArray) rfl rfl ?_
 clear hf hM hO; intro a w1 B1 hf hM hO hk
 replace hO : OwnOk w.heap.size [] [⟨66, 1, .slice (some ⟨B1, 0, none⟩) 64 64, 64, flat fB x1⟩] w1 := hO
 have hk0 := hk0.trans hk.nn
 clear hk
 refine sxboxown hf hM hO (t := 66) (xs := flat fB x2) (k := 64) rfl rfl rfl (by have := hk0.size; omega) (by rw [fB_len]; exact hx2) (by decide) rfl (v := .agg (flat fB x2).toArray) rfl rfl ?_
 clear hf hM hO; intro a w2 B2 hf hM hO hk
 replace hO : OwnOk w.heap.size [] [⟨66, 1, .slice (some ⟨B2, 0, none⟩) 64 64, 64, flat fB x2⟩, ⟨66, 1, .slice (some ⟨B1, 0, none⟩) 64 64, 64, flat fB x1⟩] w2 := hO
 have hk0 := hk0.trans hk.nn
 clear hk
 refine sxboxown hf hM hO (t := 66) (xs := flat fB x3) (k := 64) rfl rfl rfl (by have := hk0.size; omega) (by rw [fB_len]; exact hx3) (by decide) rfl (v := .agg (flat fB x3).toArray) rfl rfl ?_
 clear hf hM hO; intro a w3 B3 hf hM hO hk
 replace hO : OwnOk w.heap.size [] [⟨66, 1, .slice (some ⟨B3, 0, none⟩) 64 64, 64, flat fB x3⟩, ⟨66, 1, .slice (some ⟨B2, 0, none⟩) 64 64, 64, flat fB x2⟩, ⟨66, 1, .slice (some ⟨B1, 0, none⟩) 64 64, 64, flat fB x1⟩] w3 := hO
 have hk0 := hk0.trans hk.nn
 clear hk
 refine q0 hf hM [5, 4, 3] [{}] (nw := []) An ?_
 clear hf; intro a hf
 refine wpList_nil ?_
 refine hK1 _ _ ?_
 refine wp_seq_k (fun K2 hK2 => ?_)
 refine wp_seq_k (fun K3 hK3 => ?_)
 refine wp_region_lit ?_
 refine q0 hf hM [5, 4, 3] [{}] (nw := [(7, eI 0)]) An ?_
 clear hf; intro a hf
 refine wpList_nil ?_
 refine hK3 _ _ ?_
 refine wp_block ?_
 have hf := (hf.prune [3, 4, 5, 7]).to (env' := [(3, eP B1 0), (4, eP B2 0), (5, eP B3 0), (7, eI 0)]) (by kernel_rfl)
 refine sxloop (fun zm a w1 => ∃ (i : Int), zm = (64 - i).toNat ∧ Fr 31 [(3, eP B1 0), (4, eP B2 0), (5, eP B3 0), (7, eI i)] a ∧ MemOk [] w1 ∧ Keep Nn w w1 ∧ OwnOk w.heap.size [] [⟨66, 1, .slice (some ⟨B3, 0, none⟩) 64 64, 64, flat fB x3⟩, ⟨66, 1, .slice (some ⟨B2, 0, none⟩) 64 64, 64, flat fB x2⟩, ⟨66, 1, .slice (some ⟨B1, 0, none⟩) 64 64, 64, flat fB x1⟩] w1 ∧ (0 ≤ i ∧ i ≤ 64) ∧ (∀ j, j < i.toNat → fits1 x1 x2 x3 j = true)) _ ⟨0, rfl, hf.conv (Ac rfl (Ac rfl (Ac rfl (Ao rfl)))), hM, hk0, hO, (by omega), (fun j hj => by simp at hj)⟩ ?_
 clear hf hM hk0 hO
 rintro _ a w4 ⟨i, rfl, hf, hM, hk0, hO, hi, hfx⟩ L1 hL1
 refine wp_seq_k (fun K4 hK4 => ?_)
 refine wp_seq_k (fun K5 hK5 => ?_)
 refine wp_region_lit ?_
 refine q0 hf hM [3, 4, 5, 7] [{}, {}] (nw := [(9, eB (decide ((i : Int) < 64)))]) An ?_
 clear hf; intro a hf
 refine wpList_nil ?_
 refine hK5 _ _ ?_
 refine qc hf (b := (decide ((i : Int) < 64))) (fun hc1r => ?_) (fun hc1r => ?_)
 · have hc1 := (nT hc1r)
   refine wp_skip ?_
   refine hK4 _ _ ?_
   refine wp_seq_k (fun K6 hK6 => ?_)
   refine wp_block ?_
   refine wp_seq_k (fun K7 hK7 => ?_)
   refine wp_region_lit ?_
   refine q0 hf hM [3, 4, 5, 7] [{}, { sp := true }, { os := [.ex (bV (x2.getD i.toNat false))] }, {}, { g := .sym }, { g := .sym, sp := true }, { g := .sym, os := [.ex (bV (x1.getD i.toNat false))] }, { g := .sym }, { hint := some (bV ((x2.getD i.toNat false) && (!(x1.getD i.toNat false)))) }, {}] (nw := [(21, eB ((x2.getD i.toNat false) && (!(x1.getD i.toNat false)))), (19, .gd (x2.getD i.toNat false) true (bV (!(x1.getD i.toNat false)))), (18, .gd (x2.getD i.toNat false) true (bV (x1.getD i.toNat false))), (17, .gd (x2.getD i.toNat false) true (.pointer (some ((sa (some ⟨B1, 0, none⟩) : Addr).add (i.toNat * 1))))), (16, .gd (x2.getD i.toNat false) true (iV i))]) (ob := [(0 : Int) ≤ i ∧ i < (64 : Int), w4.cell? ((sa (some ⟨B2, 0, none⟩) : Addr).add (i.toNat * 1)) = some (bV (x2.getD i.toNat false)), ((x2.getD i.toNat false) = true → (x2.getD i.toNat false) = (x2.getD i.toNat false)), ((x2.getD i.toNat false) = true → (0 : Int) ≤ i ∧ i < (64 : Int)), ((x2.getD i.toNat false) = true → (x2.getD i.toNat false) = (x2.getD i.toNat false)), ((x2.getD i.toNat false) = true → w4.cell? ((sa (some ⟨B1, 0, none⟩) : Addr).add (i.toNat * 1)) = some (bV (x1.getD i.toNat false))), ((x2.getD i.toNat false) = true → (x2.getD i.toNat false) = (x2.getD i.toNat false)), ((x2.getD i.toNat false) = true → (x2.getD i.toNat false) = (x2.getD i.toNat false)), (bif (x2.getD i.toNat false) then (bV (!(x1.getD i.toNat false)) : Value) else bV false) = .bool ((x2.getD i.toNat false) && (!(x1.getD i.toNat false)))]) (Ac (by first | omega | (simp; done)) (Ac ((own_arr (hO.own _ (List.Mem.tail _ (List.Mem.head _)))).get0 (fun _ => rfl) (by first | omega | (simp; done)) rfl) (Ac (fun hgd => rfl) (Ac (fun hgd => (by first | omega | (simp at hgd; omega))) (Ac (fun hgd => rfl) (Ac (fun hgd => ((own_arr (hO.own _ (List.Mem.tail _ (List.Mem.tail _ (List.Mem.head _))))).get0 (fun _ => rfl) (by first | omega | (simp at hgd; omega)) rfl)) (Ac (fun hgd => rfl) (Ac (fun _ => rfl) (Ao (pick_and _ _)))))))))) ?_
   clear hf; intro a hf
   rcases Bool.eq_false_or_eq_true ((x2.getD i.toNat false) && (!(x1.getD i.toNat false))) with hg1r | hg1r
   · have hg1 := hg1r
     try simp only [Bool.or_eq_true, Bool.and_eq_true, Bool.not_eq_true', Bool.not_eq_false', Bool.or_eq_false_iff, Bool.and_eq_false_iff, decide_eq_true_eq, decide_eq_false_iff_not, beq_iff_eq, bne_iff_ne, beq_eq_false_iff_ne, bne_eq_false_iff_eq, Bool.and_true, Bool.true_and, ne_eq] at hg1
     have hf := hf.setb 21 hg1r
     refine q0 hf hM [19, 18, 17, 16, 3, 4, 5, 7] [{ g := .off }, { g := .off }, { g := .off }, { g := .off }, { g := .off }, { g := .off }, { g := .off }, { g := .off }, {}] (nw := [(30, eB true), (29, .val (undef)), (28, .val (undef)), (27, .val (undef)), (26, .val (undef)), (25, .val (undef)), (24, .val (undef)), (23, .val (undef)), (22, .val (undef))]) (ob := [true = !false, true = !false, true = !false, true = !false, true = !false]) (Ac rfl (Ac rfl (Ac rfl (Ac rfl (Ao rfl))))) ?_
     clear hf; intro a hf
     refine wpList_nil ?_
     refine hK7 _ _ ?_
     refine sxcond hf (b := true) (by kernel_rfl) (fun _ => ?_) (fun h => by cases h)
     refine wp_seq_k (fun K8 hK8 => ?_)
     refine wp_region_lit ?_
     refine q0 hf hM [] [{}] (nw := [(6, eB false)]) An ?_
     clear hf; intro a hf
     refine wpList_nil ?_
     refine hK8 _ _ ?_
     refine wp_ret ?_
     refine qr (fn := Tryd.f33) hf hM [] (l := [bV false]) (ob := []) An ?_
     show (bV false : Value) = .bool (fitsB x1 x2 x3) ∧ Keep Nn w w4
     exact ⟨congrArg Value.bool (fitsB_no (i := i) (by omega) (by simp only [fits1]; simp_all)).symm, hk0⟩
   · have hg1 := hg1r
     try simp only [Bool.or_eq_true, Bool.and_eq_true, Bool.not_eq_true', Bool.not_eq_false', Bool.or_eq_false_iff, Bool.and_eq_false_iff, decide_eq_true_eq, decide_eq_false_iff_not, beq_iff_eq, bne_iff_ne, beq_eq_false_iff_ne, bne_eq_false_iff_eq, Bool.and_true, Bool.true_and, ne_eq] at hg1
     have hf := hf.setb 21 hg1r
     refine q0 hf hM [21, 19, 18, 17, 16, 3, 4, 5, 7] [{}, { sp := true }, { os := [.ex (bV (x3.getD i.toNat false))] }, {}] (nw := [(25, eB (x3.getD i.toNat false)), (24, eB (x3.getD i.toNat false)), (23, .val (.pointer (some ((sa (some ⟨B3, 0, none⟩) : Addr).add (i.toNat * 1))))), (22, eI i)]) (ob := [false = false, false = false, (0 : Int) ≤ i ∧ i < (64 : Int), false = false, w4.cell? ((sa (some ⟨B3, 0, none⟩) : Addr).add (i.toNat * 1)) = some (bV (x3.getD i.toNat false)), false = false]) (Ac rfl (Ac rfl (Ac (by first | omega | (simp; done)) (Ac rfl (Ac ((own_arr (hO.own _ (List.Mem.head _))).get0 (fun _ => rfl) (by first | omega | (simp; done)) rfl) (Ao rfl)))))) ?_
     clear hf; intro a hf
     rcases Bool.eq_false_or_eq_true (x3.getD i.toNat false) with hg2r | hg2r
     · have hg2 := hg2r
       have hf := (hf.setb 25 hg2r).setb 24 hg2r
       refine q0 hf hM [25, 24, 23, 22, 19, 18, 17, 16, 3, 4, 5, 7] [{}, { sp := true }, { os := [.ex (bV (x1.getD i.toNat false))] }, {}, {}] (nw := [(30, eB (x1.getD i.toNat false)), (29, eB (x1.getD i.toNat false)), (28, eB (x1.getD i.toNat false)), (27, .val (.pointer (some ((sa (some ⟨B1, 0, none⟩) : Addr).add (i.toNat * 1))))), (26, eI i)]) (ob := [true = true, true = true, (0 : Int) ≤ i ∧ i < (64 : Int), true = true, w4.cell? ((sa (some ⟨B1, 0, none⟩) : Addr).add (i.toNat * 1)) = some (bV (x1.getD i.toNat false)), false = false]) (Ac rfl (Ac rfl (Ac (by first | omega | (simp; done)) (Ac rfl (Ac ((own_arr (hO.own _ (List.Mem.tail _ (List.Mem.tail _ (List.Mem.head _))))).get0 (fun _ => rfl) (by first | omega | (simp; done)) rfl) (Ao rfl)))))) ?_
       clear hf; intro a hf
       refine wpList_nil ?_
       refine hK7 _ _ ?_
       refine qc hf (b := (x1.getD i.toNat false)) (fun hc3r => ?_) (fun hc3r => ?_)
       · have hc3 := hc3r
         refine wp_seq_k (fun K9 hK9 => ?_)
         refine wp_region_lit ?_
         refine q0 hf hM [] [{}] (nw := [(6, eB false)]) An ?_
         clear hf; intro a hf
         refine wpList_nil ?_
         refine hK9 _ _ ?_
         refine wp_ret ?_
         refine qr (fn := Tryd.f33) hf hM [] (l := [bV false]) (ob := []) An ?_
         show (bV false : Value) = .bool (fitsB x1 x2 x3) ∧ Keep Nn w w4
         exact ⟨congrArg Value.bool (fitsB_no (i := i) (by omega) (by simp only [fits1]; simp_all)).symm, hk0⟩
       · have hc3 := hc3r
         refine wp_skip ?_
         refine hK6 _ _ ?_
         refine wp_region_lit ?_
         refine q0 hf hM [29, 28, 27, 26, 25, 24, 23, 22, 19, 18, 17, 16, 3, 4, 5] [{}, { hint := some (iV (i + 1)) }, {}] (nw := [(7, eI (i + 1))]) (ob := [(iV (IntKind.i64.wrap (i + 1)) : Value) = (iV (i + 1) : Value)]) (Ao (wr (by omega))) ?_
         clear hf; intro a hf
         refine wpList_nil ?_
         have hfx2 := fits_next (by omega) hfx (by simp only [fits1]; simp_all)
         have hf := (hf.prune [3, 4, 5, 7]).to (env' := [(3, eP B1 0), (4, eP B2 0), (5, eP B3 0), (7, eI (i + 1))]) (by kernel_rfl)
         refine hL1 _ _ _ (by omega) ⟨i + 1, rfl, hf.conv (Ac rfl (Ac rfl (Ac rfl (Ao rfl)))), hM, hk0, hO, (by omega), hfx2⟩
     · have hg2 := hg2r
       have hf := (hf.setb 25 hg2r).setb 24 hg2r
       refine q0 hf hM [25, 24, 23, 22, 19, 18, 17, 16, 3, 4, 5, 7] [{ g := .off }, { g := .off }, { g := .off }, {}, {}] (nw := [(30, eB false), (29, eB false), (28, .val (undef)), (27, .val (undef)), (26, .val (undef))]) (ob := [false = !true, false = !true, false = !true, false = false]) (Ac rfl (Ac rfl (Ac rfl (Ao rfl)))) ?_
       clear hf; intro a hf
       refine wpList_nil ?_
       refine hK7 _ _ ?_
       refine sxcond hf (b := false) (by kernel_rfl) (fun h => by cases h) (fun _ => ?_)
       refine wp_skip ?_
       refine hK6 _ _ ?_
       refine wp_region_lit ?_
       refine q0 hf hM [29, 28, 27, 26, 25, 24, 23, 22, 19, 18, 17, 16, 3, 4, 5] [{}, { hint := some (iV (i + 1)) }, {}] (nw := [(7, eI (i + 1))]) (ob := [(iV (IntKind.i64.wrap (i + 1)) : Value) = (iV (i + 1) : Value)]) (Ao (wr (by omega))) ?_
       clear hf; intro a hf
       refine wpList_nil ?_
       have hfx2 := fits_next (by omega) hfx (by simp only [fits1]; simp_all)
       have hf := (hf.prune [3, 4, 5, 7]).to (env' := [(3, eP B1 0), (4, eP B2 0), (5, eP B3 0), (7, eI (i + 1))]) (by kernel_rfl)
       refine hL1 _ _ _ (by omega) ⟨i + 1, rfl, hf.conv (Ac rfl (Ac rfl (Ac rfl (Ao rfl)))), hM, hk0, hO, (by omega), hfx2⟩
 · have hc1 := (nU hc1r)
   refine wp_exit ?_
   refine hK2 _ _ ?_
   refine wp_seq_k (fun K10 hK10 => ?_)
   refine wp_region_lit ?_
   refine q0 hf hM [] [{}] (nw := [(6, eB true)]) An ?_
   clear hf; intro a hf
   refine wpList_nil ?_
   refine hK10 _ _ ?_
   refine wp_ret ?_
   refine qr (fn := Tryd.f33) hf hM [] (l := [bV true]) (ob := []) An ?_
   show (bV true : Value) = .bool (fitsB x1 x2 x3) ∧ Keep Nn w w4
   exact ⟨congrArg Value.bool (fitsB_yes fun j hj => hfx j (by omega)).symm, hk0⟩

set_option maxRecDepth 10000 in
set_option maxHeartbeats 1600000 in
theorem r9mask_ok (av : Option Addr) (l : List Int) (c : Nat) (w : World) (hn0 : (kindsOk l) = true) (hav : Arr w 1 av l.length c (flat fI l)) (hbav : l.length ≤ 1000000) :
    Calls Tryd.prog 9 #[.slice av l.length c] w (Ret fun v w' => v = .tuple #[uV (((maskI l) : Nat) : Int), bV true] ∧ Keep Nn w w') := by
 refine sxenter (n := 15) (args := [.slice av l.length c]) Tryd.func9 rfl rfl rfl fun a hf => ?_
 replace hf : Fr 15 [(0, eS av l.length c)] a := hf
 have hM : MemOk [] w := MemOk.nil w
 have hk0 : Keep Nn w w := Keep.refl _ _
 refine wp_seq_k (fun K1 hK1 => ?_)
 refine wp_region_lit ?_
 refine q0 hf hM [0] [{}, {}] (nw := []) An ?_
 clear hf; intro a hf
 refine wpList_nil ?_
 refine hK1 _ _ ?_
 refine wp_seq_k (fun K2 hK2 => ?_)
 refine wp_region_lit ?_
 refine q0 hf hM [] [{ sp := true, hint := some (.agg (flat fB zeroB).toArray) }, {}] (nw := [(8, eS av l.length c), (7, .val (.agg (flat fB zeroB).toArray))]) (ob := [(.agg #[bV false, bV false, bV false, bV false, bV false, bV false, bV false, bV false, bV false, bV false, bV false, bV false, bV false, bV false, bV false, bV false, bV false, bV false, bV false, bV false, bV false, bV false, bV false, bV false, bV false, bV false, bV false, bV false, bV false, bV false, bV false, bV false, bV false, bV false, bV false, bV false, bV false, bV false, bV false, bV false, bV false, bV false, bV false, bV false, bV false, bV false, bV false, bV false, bV false, bV false, bV false, bV false, bV false, bV false, bV false, bV false, bV false, bV false, bV false, bV false, bV false, bV false, bV false, bV false] : Value) = (.agg (flat fB zeroB).toArray : Value)]) (Ao rfl) ?_
 clear hf; intro a hf
 refine sxcall hf rfl rfl rfl rfl (g := 23) (vs := [.agg (flat fB zeroB).toArray, .slice av l.length c, bV true]) (ob := []) (by as_aux_lemma => kernel_rfl) An enters23 (set_ok zeroB av l c w hn0 (by first | assumption | rfl | exact (setB_len _ _).trans rfl) (hav.keepNn hk0) (by first | omega | (simp; omega) | (simp; done) | exact Nat.le_trans (byKinds_len _ _) (by omega) | decide)) ?_
 clear hf; rintro _ w1 a ⟨rfl, hk⟩ hf
 have hM := hM.keepNn hk
 have hk0 := hk0.trans hk.nn
 clear hk
 refine q0 hf hM [] [{}, {}, {}] (nw := [(11, eB true), (10, .val (.agg (flat fB (setB zeroB l)).toArray))]) An ?_
 clear hf; intro a hf
 have hO : OwnOk w.heap.size [] [] w1 := OwnOk.nil hM
 refine sxnewown hf hM hO (t := 66) (xs := flat fB zeroB) (k := 64) rfl rfl rfl (by have := hk0.size; omega) (by rw [fB_len]; exact rfl) (by decide) (ox_alloc (z := .agg (flat fB zeroB).toArray) rfl (by kernel_rfl) rfl) ?_
 clear hf hM hO; intro a w2 B4 hf hM hO hk
 replace hO : OwnOk w.heap.size [] [⟨66, 1, .slice (some ⟨B4, 0, none⟩) 64 64, 64, flat fB zeroB⟩] w2 := hO
 have hk0 := hk0.trans hk.nn
 clear hk
 refine sxsetall hf hM hO rfl rfl rfl rfl (y := .agg (flat fB (setB zeroB l)).toArray) rfl (ys := flat fB (setB zeroB l)) rfl (by rw [fB_len]; exact (by first | rfl | exact setB_len _ _)) (by decide) (by kernel_rfl) (flat_one1 fB_one) ?_
 clear hf; intro a w3 hf hM hO hk
 have hk0 := hk0.then hk (by intro i hi h; have := ((hO.own _ (List.Mem.head _)).lt i h).1; omega)
 clear hk
 refine q0 hf hM [4] [{}] (nw := [(5, eB true)]) An ?_
 clear hf; intro a hf
 refine wpList_nil ?_
 refine hK2 _ _ ?_
 refine wp_seq_k (fun K3 hK3 => ?_)
 refine wp_region_lit ?_
 refine sxloadown hf hM hO rfl rfl rfl rfl rfl Tryd.underlying66 rfl (by kernel_rfl) ?_; clear hf; intro a hf
 refine sxcall hf rfl rfl rfl rfl (g := 24) (vs := [.agg (flat fB (setB zeroB l)).toArray]) (ob := []) (by as_aux_lemma => kernel_rfl) An enters24 (bnum (setB zeroB l) w3  (by first | assumption | rfl | exact (setB_len _ _).trans rfl)) ?_
 clear hf; rintro _ w4 a ⟨rfl, hk⟩ hf
 have hO := hO.keepNn hk
 have hM := hM.keepNn hk
 have hk0 := hk0.trans hk.nn
 clear hk
 refine q0 hf hM [] [{}, {}, {}] (nw := [(3, eB true), (2, eU (((numB (setB zeroB l)) : Nat) : Int))]) An ?_
 clear hf; intro a hf
 refine wpList_nil ?_
 refine hK3 _ _ ?_
 refine wp_ret ?_
 refine qr (fn := Tryd.f9) hf hM [] (l := [uV (((numB (setB zeroB l)) : Nat) : Int), bV true]) (ob := []) An ?_
 show (.tuple #[uV (((numB (setB zeroB l)) : Nat) : Int), bV true] : Value) = .tuple #[uV (((maskI l) : Nat) : Int), bV true] ∧ Keep Nn w w4
 exact ⟨by rw [numB_mask hn0], hk0⟩

set_option maxRecDepth 10000 in
set_option maxHeartbeats 1600000 in
theorem r9mask_no (av : Option Addr) (l : List Int) (c : Nat) (w : World) (hn0 : (kindsOk l) = false) (hav : Arr w 1 av l.length c (flat fI l)) (hbav : l.length ≤ 1000000) :
    Calls Tryd.prog 9 #[.slice av l.length c] w (Ret fun v w' => v = .tuple #[uV 0, bV false] ∧ Keep Nn w w') := by
 refine sxenter (n := 15) (args := [.slice av l.length c]) Tryd.func9 rfl rfl rfl fun a hf => ?_
 replace hf : Fr 15 [(0, eS av l.length c)] a := hf
 have hM : MemOk [] w := MemOk.nil w
 have hk0 : Keep Nn w w := Keep.refl _ _
 refine wp_seq_k (fun K1 hK1 => ?_)
 refine wp_region_lit ?_
 refine q0 hf hM [0] [{}, {}] (nw := []) An ?_
 clear hf; intro a hf
 refine wpList_nil ?_
 refine hK1 _ _ ?_
 refine wp_seq_k (fun K2 hK2 => ?_)
 refine wp_region_lit ?_
 refine q0 hf hM [] [{ sp := true, hint := some (.agg (flat fB zeroB).toArray) }, {}] (nw := [(8, eS av l.length c), (7, .val (.agg (flat fB zeroB).toArray))]) (ob := [(.agg #[bV false, bV false, bV false, bV false, bV false, bV false, bV false, bV false, bV false, bV false, bV false, bV false, bV false, bV false, bV false, bV false, bV false, bV false, bV false, bV false, bV false, bV false, bV false, bV false, bV false, bV false, bV false, bV false, bV false, bV false, bV false, bV false, bV false, bV false, bV false, bV false, bV false, bV false, bV false, bV false, bV false, bV false, bV false, bV false, bV false, bV false, bV false, bV false, bV false, bV false, bV false, bV false, bV false, bV false, bV false, bV false, bV false, bV false, bV false, bV false, bV false, bV false, bV false, bV false] : Value) = (.agg (flat fB zeroB).toArray : Value)]) (Ao rfl) ?_
 clear hf; intro a hf
 refine sxcall hf rfl rfl rfl rfl (g := 23) (vs := [.agg (flat fB zeroB).toArray, .slice av l.length c, bV true]) (ob := []) (by as_aux_lemma => kernel_rfl) An enters23 (set_no zeroB av l c w hn0 (by first | assumption | rfl | exact (setB_len _ _).trans rfl) (hav.keepNn hk0) (by first | omega | (simp; omega) | (simp; done) | exact Nat.le_trans (byKinds_len _ _) (by omega) | decide)) ?_
 clear hf; rintro _ w1 a ⟨rfl, hk⟩ hf
 have hM := hM.keepNn hk
 have hk0 := hk0.trans hk.nn
 clear hk
 refine q0 hf hM [] [{}, {}, {}] (nw := [(11, eB false), (10, .val (.agg (flat fB zeroB).toArray))]) An ?_
 clear hf; intro a hf
 have hO : OwnOk w.heap.size [] [] w1 := OwnOk.nil hM
 refine sxnewown hf hM hO (t := 66) (xs := flat fB zeroB) (k := 64) rfl rfl rfl (by have := hk0.size; omega) (by rw [fB_len]; exact rfl) (by decide) (ox_alloc (z := .agg (flat fB zeroB).toArray) rfl (by kernel_rfl) rfl) ?_
 clear hf hM hO; intro a w2 B4 hf hM hO hk
 replace hO : OwnOk w.heap.size [] [⟨66, 1, .slice (some ⟨B4, 0, none⟩) 64 64, 64, flat fB zeroB⟩] w2 := hO
 have hk0 := hk0.trans hk.nn
 clear hk
 refine sxsetall hf hM hO rfl rfl rfl rfl (y := .agg (flat fB zeroB).toArray) rfl (ys := flat fB zeroB) rfl (by rw [fB_len]; exact (by first | rfl | exact setB_len _ _)) (by decide) (by kernel_rfl) (flat_one1 fB_one) ?_
 clear hf; intro a w3 hf hM hO hk
 have hk0 := hk0.then hk (by intro i hi h; have := ((hO.own _ (List.Mem.head _)).lt i h).1; omega)
 clear hk
 refine q0 hf hM [4] [{}] (nw := [(5, eB false)]) An ?_
 clear hf; intro a hf
 refine wpList_nil ?_
 refine hK2 _ _ ?_
 refine wp_seq_k (fun K3 hK3 => ?_)
 refine wp_region_lit ?_
 refine sxloadown hf hM hO rfl rfl rfl rfl rfl Tryd.underlying66 rfl (by kernel_rfl) ?_; clear hf; intro a hf
 refine sxcall hf rfl rfl rfl rfl (g := 24) (vs := [.agg (flat fB zeroB).toArray]) (ob := []) (by as_aux_lemma => kernel_rfl) An enters24 (bnum zeroB w3  (by first | assumption | rfl | exact (setB_len _ _).trans rfl)) ?_
 clear hf; rintro _ w4 a ⟨rfl, hk⟩ hf
 have hO := hO.keepNn hk
 have hM := hM.keepNn hk
 have hk0 := hk0.trans hk.nn
 clear hk
 refine q0 hf hM [] [{}, {}, {}] (nw := [(3, eB false), (2, eU (((numB zeroB) : Nat) : Int))]) An ?_
 clear hf; intro a hf
 refine wpList_nil ?_
 refine hK3 _ _ ?_
 refine wp_ret ?_
 refine qr (fn := Tryd.f9) hf hM [] (l := [uV (((numB zeroB) : Nat) : Int), bV false]) (ob := []) An ?_
 show (.tuple #[uV (((numB zeroB) : Nat) : Int), bV false] : Value) = .tuple #[uV 0, bV false] ∧ Keep Nn w w4
 exact ⟨by rw [show numB zeroB = 0 from rfl]; rfl, hk0⟩

set_option maxRecDepth 10000 in
set_option maxHeartbeats 1600000 in
theorem mof_ok (E : Nat → Addr) (av : Option Addr) (l : List Int) (c : Nat) (w : World) (hn0 : (kindsOk l) = true) (hav : Arr w 1 av l.length c (flat fI l)) (hbav : l.length ≤ 1000000) (hG : Errs [0, 1, 2, 3, 4, 5, 6, 7, 8, 9] w 115 E) :
    Calls Tryd.prog 22 #[.slice av l.length c] w (Ret fun v w' => v = .tuple #[uV (((maskI l) : Nat) : Int), .nilIface] ∧ Keep Nn w w') := by
 refine sxenter (n := 24) (args := [.slice av l.length c]) Tryd.func22 rfl rfl rfl fun a hf => ?_
 replace hf : Fr 24 [(0, eS av l.length c)] a := hf
 have hM : MemOk [] w := MemOk.nil w
 have hk0 : Keep Nn w w := Keep.refl _ _
 refine wp_seq_k (fun K1 hK1 => ?_)
 refine wp_region_lit ?_
 refine q0 hf hM [0] [{}, {}] (nw := [(3, .val (.nilIface)), (2, eU 0)]) An ?_
 clear hf; intro a hf
 refine wpList_nil ?_
 refine hK1 _ _ ?_
 refine wp_seq_k (fun K2 hK2 => ?_)
 refine wp_region_lit ?_
 refine q0 hf hM [3, 2, 0] [{}] (nw := [(4, eU 0)]) An ?_
 clear hf; intro a hf
 refine wpList_nil ?_
 refine hK2 _ _ ?_
 refine wp_seq_k (fun K3 hK3 => ?_)
 refine wp_seq_k (fun K4 hK4 => ?_)
 refine wp_region_lit ?_
 refine q0 hf hM [4, 3, 2] [{}, {}, {}] (nw := [(10, eI 0), (9, eI (l.length : Int)), (8, eS av l.length c)]) An ?_
 clear hf; intro a hf
 refine wpList_nil ?_
 refine hK4 _ _ ?_
 refine wp_block ?_
 have hf := (hf.prune [2, 3, 4, 8, 9, 10]).to (env' := [(2, eU 0), (3, .val (.nilIface)), (4, eU 0), (8, eS av l.length c), (9, eI (l.length : Int)), (10, eI 0)]) (by kernel_rfl)
 refine sxloop (fun zm a w1 => ∃ (i : Int), zm = ((l.length : Int) - i).toNat ∧ Fr 24 [(2, eU 0), (3, .val (.nilIface)), (4, eU (((maskI (l.take i.toNat)) : Nat) : Int)), (8, eS av l.length c), (9, eI (l.length : Int)), (10, eI i)] a ∧ MemOk [] w1 ∧ Keep Nn w w1 ∧ (0 ≤ i ∧ i ≤ (l.length : Int))) _ ⟨0, rfl, hf.conv (Ac rfl (Ac rfl (Ac (congrArg (Value.int .u64) (by simp [maskI])) (Ac rfl (Ac rfl (Ao rfl)))))), hM, hk0, (by omega)⟩ ?_
 clear hf hM hk0
 rintro _ a w1 ⟨i, rfl, hf, hM, hk0, hi⟩ L1 hL1
 have hml := maskI_lt64 (kindsOk_take hn0 i.toNat)
 refine wp_seq_k (fun K5 hK5 => ?_)
 refine wp_region_lit ?_
 refine q0 hf hM [2, 3, 4, 8, 9, 10] [{}] (nw := [(11, eB (decide ((i : Int) < (l.length : Int))))]) An ?_
 clear hf; intro a hf
 refine wpList_nil ?_
 refine hK5 _ _ ?_
 refine wp_seq_k (fun K6 hK6 => ?_)
 refine qc hf (b := (decide ((i : Int) < (l.length : Int)))) (fun hc1r => ?_) (fun hc1r => ?_)
 · have hc1 := (nT hc1r)
   have hka := kindsOk_at hn0 (i := i) ⟨by omega, by omega⟩
   have hkl : (decide (0 ≤ (l.getD i.toNat 0) ∧ (l.getD i.toNat 0) ≤ 9)) = true := decide_eq_true hka
   have hbp := bitN_pos (l.getD i.toNat 0)
   refine wp_skip ?_
   refine hK6 _ _ ?_
   refine wp_seq_k (fun K7 hK7 => ?_)
   refine wp_block ?_
   refine wp_seq_k (fun K8 hK8 => ?_)
   refine wp_region_lit ?_
   refine q0 hf hM [2, 3, 4, 8, 9, 10] [{ sp := true }, { os := [.ex (iV (l.getD i.toNat 0))] }, {}] (nw := [(6, eI (l.getD i.toNat 0))]) (ob := [(0 : Int) ≤ i ∧ i < (l.length : Int), (av : Option Addr).isSome = true, w1.cell? ((sa av : Addr).add (i.toNat * 1)) = some (iV (l.getD i.toNat 0))]) (Ac (by first | omega | (simp; done)) (Ac ((hav.keepNn hk0).some_ (by first | omega | (simp; done))) (Ao ((hav.keepNn hk0).get0 (fun _ => rfl) (by first | omega | (simp; done)) rfl)))) ?_
   clear hf; intro a hf
   refine wpList_nil ?_
   refine hK8 _ _ ?_
   refine wp_seq_k (fun K9 hK9 => ?_)
   refine wp_region_lit ?_
   refine q0 hf hM [2, 3, 4, 8, 9, 10] [{}] (nw := [(14, eI (l.getD i.toNat 0))]) An ?_
   clear hf; intro a hf
   refine sxcall hf rfl rfl rfl rfl (g := 44) (vs := [iV (l.getD i.toNat 0)]) (ob := []) (by as_aux_lemma => kernel_rfl) An enters44 (bit_ok (l.getD i.toNat 0) w1 hkl ) ?_
   clear hf; rintro _ w2 a ⟨rfl, hk⟩ hf
   have hM := hM.keepNn hk
   have hk0 := hk0.trans hk.nn
   clear hk
   refine q0 hf hM [2, 3, 4, 8, 9, 10] [{}] (nw := [(7, eU (((bitN (l.getD i.toNat 0)) : Nat) : Int))]) An ?_
   clear hf; intro a hf
   refine wpList_nil ?_
   refine hK9 _ _ ?_
   refine wp_seq_k (fun K10 hK10 => ?_)
   refine wp_seq_k (fun K11 hK11 => ?_)
   refine wp_region_lit ?_
   refine q0 hf hM [7, 2, 3, 4, 8, 9, 10] [{}, {}] (nw := [(17, eB (((((bitN (l.getD i.toNat 0)) : Nat) : Int) : Int) == 0))]) An ?_
   clear hf; intro a hf
   refine wpList_nil ?_
   refine hK11 _ _ ?_
   refine qc hf (b := (((((bitN (l.getD i.toNat 0)) : Nat) : Int) : Int) == 0)) (fun hc2r => ?_) (fun hc2r => ?_)
   · have hc2 := (nE hc2r)
     exfalso; omega
   · have hc2 := (nF hc2r)
     refine wp_skip ?_
     refine hK10 _ _ ?_
     refine wp_region_lit ?_
     refine q0 hf hM [2, 3, 8, 9, 10] [{}, {}, { hint := some (uV (((maskI (l.take i.toNat) ||| bitN (l.getD i.toNat 0)) : Nat) : Int)) }, {}] (nw := [(4, eU (((maskI (l.take i.toNat) ||| bitN (l.getD i.toNat 0)) : Nat) : Int))]) (ob := [(uV (IntKind.u64.wrap ((BitVec.ofInt IntKind.u64.bits (((maskI (l.take i.toNat)) : Nat) : Int) ||| (BitVec.ofInt IntKind.u64.bits (((bitN (l.getD i.toNat 0)) : Nat) : Int)) : BitVec IntKind.u64.bits).toNat : Int)) : Value) = (uV (((maskI (l.take i.toNat) ||| bitN (l.getD i.toNat 0)) : Nat) : Int) : Value)]) (Ao (or_u64 hml (bitN_lt' hka))) ?_
     clear hf; intro a hf
     refine wpList_nil ?_
     refine hK7 _ _ ?_
     refine wp_region_lit ?_
     refine q0 hf hM [4, 2, 3, 8, 9] [{ hint := some (iV (i + 1)) }, {}] (nw := [(10, eI (i + 1))]) (ob := [(iV (IntKind.i64.wrap (i + 1)) : Value) = (iV (i + 1) : Value)]) (Ao (wr (by omega))) ?_
     clear hf; intro a hf
     refine wpList_nil ?_
     have hf := (hf.prune [2, 3, 4, 8, 9, 10]).to (env' := [(2, eU 0), (3, .val (.nilIface)), (4, eU (((maskI (l.take i.toNat) ||| bitN (l.getD i.toNat 0)) : Nat) : Int)), (8, eS av l.length c), (9, eI (l.length : Int)), (10, eI (i + 1))]) (by kernel_rfl)
     refine hL1 _ _ _ (by omega) ⟨i + 1, rfl, hf.conv (Ac rfl (Ac rfl (Ac (by rw [maskI_next ⟨by omega, by omega⟩]; rfl) (Ac rfl (Ac rfl (Ao rfl)))))), hM, hk0, (by omega)⟩
 · have hc1 := (nU hc1r)
   refine wp_exit ?_
   refine hK3 _ _ ?_
   refine wp_seq_k (fun K12 hK12 => ?_)
   refine wp_region_lit ?_
   refine q0 hf hM [3] [{}, {}, {}] (nw := [(2, eU (((maskI (l.take i.toNat)) : Nat) : Int))]) An ?_
   clear hf; intro a hf
   refine wpList_nil ?_
   refine hK12 _ _ ?_
   refine wp_ret ?_
   refine qr (fn := Tryd.f22) hf hM [] (l := [uV (((maskI (l.take i.toNat)) : Nat) : Int), .nilIface]) (ob := []) An ?_
   show (.tuple #[uV (((maskI (l.take i.toNat)) : Nat) : Int), .nilIface] : Value) = .tuple #[uV (((maskI l) : Nat) : Int), .nilIface] ∧ Keep Nn w w1
   have e : l.take i.toNat = l := List.take_of_length_le (by omega)
   exact ⟨by rw [e], hk0⟩

set_option maxRecDepth 10000 in
set_option maxHeartbeats 1600000 in
theorem mof_no (E : Nat → Addr) (av : Option Addr) (l : List Int) (c : Nat) (w : World) (hn0 : (kindsOk l) = false) (hav : Arr w 1 av l.length c (flat fI l)) (hbav : l.length ≤ 1000000) (hG : Errs [0, 1, 2, 3, 4, 5, 6, 7, 8, 9] w 115 E) :
    Calls Tryd.prog 22 #[.slice av l.length c] w (Ret fun v w' => v = .tuple #[uV 0, .iface 115 (.pointer (some (E 4)))] ∧ Keep Nn w w') := by
 refine sxenter (n := 24) (args := [.slice av l.length c]) Tryd.func22 rfl rfl rfl fun a hf => ?_
 replace hf : Fr 24 [(0, eS av l.length c)] a := hf
 have hM : MemOk [] w := MemOk.nil w
 have hk0 : Keep Nn w w := Keep.refl _ _
 refine wp_seq_k (fun K1 hK1 => ?_)
 refine wp_region_lit ?_
 refine q0 hf hM [0] [{}, {}] (nw := [(3, .val (.nilIface)), (2, eU 0)]) An ?_
 clear hf; intro a hf
 refine wpList_nil ?_
 refine hK1 _ _ ?_
 refine wp_seq_k (fun K2 hK2 => ?_)
 refine wp_region_lit ?_
 refine q0 hf hM [3, 2, 0] [{}] (nw := [(4, eU 0)]) An ?_
 clear hf; intro a hf
 refine wpList_nil ?_
 refine hK2 _ _ ?_
 refine wp_seq_k (fun K3 hK3 => ?_)
 refine wp_seq_k (fun K4 hK4 => ?_)
 refine wp_region_lit ?_
 refine q0 hf hM [4, 3, 2] [{}, {}, {}] (nw := [(10, eI 0), (9, eI (l.length : Int)), (8, eS av l.length c)]) An ?_
 clear hf; intro a hf
 refine wpList_nil ?_
 refine hK4 _ _ ?_
 refine wp_block ?_
 have hf := (hf.prune [2, 3, 4, 8, 9, 10]).to (env' := [(2, eU 0), (3, .val (.nilIface)), (4, eU 0), (8, eS av l.length c), (9, eI (l.length : Int)), (10, eI 0)]) (by kernel_rfl)
 refine sxloop (fun zm a w1 => ∃ (i : Int), zm = ((l.length : Int) - i).toNat ∧ Fr 24 [(2, eU 0), (3, .val (.nilIface)), (4, eU (((maskI (l.take i.toNat)) : Nat) : Int)), (8, eS av l.length c), (9, eI (l.length : Int)), (10, eI i)] a ∧ MemOk [] w1 ∧ Keep Nn w w1 ∧ (0 ≤ i ∧ i ≤ (l.length : Int)) ∧ (kindsOk (l.take i.toNat) = true)) _ ⟨0, rfl, hf.conv (Ac rfl (Ac rfl (Ac (congrArg (Value.int .u64) (by simp [maskI])) (Ac rfl (Ac rfl (Ao rfl)))))), hM, hk0, (by omega), (by simp [kindsOk])⟩ ?_
 clear hf hM hk0
 rintro _ a w1 ⟨i, rfl, hf, hM, hk0, hi, hko⟩ L1 hL1
 have hml := maskI_lt64 hko
 refine wp_seq_k (fun K5 hK5 => ?_)
 refine wp_region_lit ?_
 refine q0 hf hM [2, 3, 4, 8, 9, 10] [{}] (nw := [(11, eB (decide ((i : Int) < (l.length : Int))))]) An ?_
 clear hf; intro a hf
 refine wpList_nil ?_
 refine hK5 _ _ ?_
 refine wp_seq_k (fun K6 hK6 => ?_)
 refine qc hf (b := (decide ((i : Int) < (l.length : Int)))) (fun hc1r => ?_) (fun hc1r => ?_)
 · have hc1 := (nT hc1r)
   refine wp_skip ?_
   refine hK6 _ _ ?_
   refine wp_seq_k (fun K7 hK7 => ?_)
   refine wp_block ?_
   refine wp_seq_k (fun K8 hK8 => ?_)
   refine wp_region_lit ?_
   refine q0 hf hM [2, 3, 4, 8, 9, 10] [{ sp := true }, { os := [.ex (iV (l.getD i.toNat 0))] }, {}] (nw := [(6, eI (l.getD i.toNat 0))]) (ob := [(0 : Int) ≤ i ∧ i < (l.length : Int), (av : Option Addr).isSome = true, w1.cell? ((sa av : Addr).add (i.toNat * 1)) = some (iV (l.getD i.toNat 0))]) (Ac (by first | omega | (simp; done)) (Ac ((hav.keepNn hk0).some_ (by first | omega | (simp; done))) (Ao ((hav.keepNn hk0).get0 (fun _ => rfl) (by first | omega | (simp; done)) rfl)))) ?_
   clear hf; intro a hf
   refine wpList_nil ?_
   refine hK8 _ _ ?_
   refine wp_seq_k (fun K9 hK9 => ?_)
   refine wp_region_lit ?_
   refine q0 hf hM [2, 3, 4, 8, 9, 10] [{}] (nw := [(14, eI (l.getD i.toNat 0))]) An ?_
   clear hf; intro a hf
   rcases Bool.eq_false_or_eq_true (decide (0 ≤ (l.getD i.toNat 0) ∧ (l.getD i.toNat 0) ≤ 9)) with hs1r | hs1r
   · have hs1 := (nT hs1r)
     refine sxcall hf rfl rfl rfl rfl (g := 44) (vs := [iV (l.getD i.toNat 0)]) (ob := []) (by as_aux_lemma => kernel_rfl) An enters44 (bit_ok (l.getD i.toNat 0) w1 hs1r ) ?_
     clear hf; rintro _ w2 a ⟨rfl, hk⟩ hf
     have hM := hM.keepNn hk
     have hk0 := hk0.trans hk.nn
     clear hk
     refine q0 hf hM [2, 3, 4, 8, 9, 10] [{}] (nw := [(7, eU (((bitN (l.getD i.toNat 0)) : Nat) : Int))]) An ?_
     clear hf; intro a hf
     refine wpList_nil ?_
     refine hK9 _ _ ?_
     refine wp_seq_k (fun K10 hK10 => ?_)
     refine wp_seq_k (fun K11 hK11 => ?_)
     refine wp_region_lit ?_
     refine q0 hf hM [7, 2, 3, 4, 8, 9, 10] [{}, {}] (nw := [(17, eB (((((bitN (l.getD i.toNat 0)) : Nat) : Int) : Int) == 0))]) An ?_
     clear hf; intro a hf
     refine wpList_nil ?_
     refine hK11 _ _ ?_
     refine qc hf (b := (((((bitN (l.getD i.toNat 0)) : Nat) : Int) : Int) == 0)) (fun hc2r => ?_) (fun hc2r => ?_)
     · have hc2 := (nE hc2r)
       exfalso; have := bitN_pos (l.getD i.toNat 0); omega
     · have hc2 := (nF hc2r)
       refine wp_skip ?_
       refine hK10 _ _ ?_
       refine wp_region_lit ?_
       refine q0 hf hM [2, 3, 8, 9, 10] [{}, {}, { hint := some (uV (((maskI (l.take i.toNat) ||| bitN (l.getD i.toNat 0)) : Nat) : Int)) }, {}] (nw := [(4, eU (((maskI (l.take i.toNat) ||| bitN (l.getD i.toNat 0)) : Nat) : Int))]) (ob := [(uV (IntKind.u64.wrap ((BitVec.ofInt IntKind.u64.bits (((maskI (l.take i.toNat)) : Nat) : Int) ||| (BitVec.ofInt IntKind.u64.bits (((bitN (l.getD i.toNat 0)) : Nat) : Int)) : BitVec IntKind.u64.bits).toNat : Int)) : Value) = (uV (((maskI (l.take i.toNat) ||| bitN (l.getD i.toNat 0)) : Nat) : Int) : Value)]) (Ao (or_u64 hml (bitN_lt' (of_decide_eq_true (by assumption))))) ?_
       clear hf; intro a hf
       refine wpList_nil ?_
       refine hK7 _ _ ?_
       refine wp_region_lit ?_
       refine q0 hf hM [4, 2, 3, 8, 9] [{ hint := some (iV (i + 1)) }, {}] (nw := [(10, eI (i + 1))]) (ob := [(iV (IntKind.i64.wrap (i + 1)) : Value) = (iV (i + 1) : Value)]) (Ao (wr (by omega))) ?_
       clear hf; intro a hf
       refine wpList_nil ?_
       have hko2 := kindsOk_next (by omega) hko (of_decide_eq_true (by assumption))
       have hf := (hf.prune [2, 3, 4, 8, 9, 10]).to (env' := [(2, eU 0), (3, .val (.nilIface)), (4, eU (((maskI (l.take i.toNat) ||| bitN (l.getD i.toNat 0)) : Nat) : Int)), (8, eS av l.length c), (9, eI (l.length : Int)), (10, eI (i + 1))]) (by kernel_rfl)
       refine hL1 _ _ _ (by omega) ⟨i + 1, rfl, hf.conv (Ac rfl (Ac rfl (Ac (by rw [maskI_next ⟨by omega, by omega⟩]; rfl) (Ac rfl (Ac rfl (Ao rfl)))))), hM, hk0, (by omega), hko2⟩
   · have hs1 := (nU hs1r)
     refine sxcall hf rfl rfl rfl rfl (g := 44) (vs := [iV (l.getD i.toNat 0)]) (ob := []) (by as_aux_lemma => kernel_rfl) An enters44 (bit_no (l.getD i.toNat 0) w1 hs1r ) ?_
     clear hf; rintro _ w3 a ⟨rfl, hk⟩ hf
     have hM := hM.keepNn hk
     have hk0 := hk0.trans hk.nn
     clear hk
     refine q0 hf hM [2, 3, 4, 8, 9, 10] [{}] (nw := [(7, eU 0)]) An ?_
     clear hf; intro a hf
     refine wpList_nil ?_
     refine hK9 _ _ ?_
     refine wp_seq_k (fun K12 hK12 => ?_)
     refine wp_seq_k (fun K13 hK13 => ?_)
     refine wp_region_lit ?_
     refine q0 hf hM [7, 2, 3, 4, 8, 9, 10] [{}, {}] (nw := [(17, eB true)]) An ?_
     clear hf; intro a hf
     refine wpList_nil ?_
     refine hK13 _ _ ?_
     refine sxcond hf (b := true) (by kernel_rfl) (fun _ => ?_) (fun h => by cases h)
     refine wp_seq_k (fun K14 hK14 => ?_)
     replace hM := hM.drew; replace hk0 := hk0.drew
     obtain ⟨C1, hC1i, hC1e⟩ := qcls fun w' => MemOk [] w' ∧ Keep Nn w w' ∧ True
     refine sxdraw (C := C1) (.leaf [(0, true), (1, true), (2, true)]) (by kernel_rfl) (by kernel_rfl) (by as_aux_lemma => kernel_rfl) rfl (by as_aux_lemma => kernel_rfl) (by kernel_rfl) (hC1i _ ⟨hM.sub (.slnil), hk0, trivial⟩) ?_
     refine sxleaf ?_
     have hC := (hC1i _ ⟨hM.sub (.slnil), hk0, trivial⟩)
     refine qd hf hC (fun w' h => (hC1e w' h).1) [2] [{ os := [.ex (.iface 115 (.pointer (some (E 4))))] }, {}, {}] (nw := [(3, .val (.iface 115 (.pointer (some (E 4)))))]) (ob := [(∀ w', C1 w' → w'.cell? ⟨4, 0, none⟩ = some (.iface 115 (.pointer (some (E 4)))))]) (Ao (fun w' hc => by obtain ⟨hM, hk0, hO⟩ := hC1e w' hc; exact (hk0.cell (hG.cell 4 (by decide)) (fun h => h)))) ?_
     clear hf; intro a hf
     clear hC
     show K14 _ _
     refine hK14 _ _ ?_
     refine wp_ret ?_
     refine qr (fn := Tryd.f22) hf hM [] (l := [uV 0, .iface 115 (.pointer (some (E 4)))]) (ob := []) An ?_
     show (.tuple #[uV 0, .iface 115 (.pointer (some (E 4)))] : Value) = .tuple #[uV 0, .iface 115 (.pointer (some (E 4)))] ∧ Keep Nn w w3.drew
     exact ⟨rfl, hk0⟩
 · have hc1 := (nU hc1r)
   refine wp_exit ?_
   refine hK3 _ _ ?_
   refine wp_seq_k (fun K15 hK15 => ?_)
   refine wp_region_lit ?_
   refine q0 hf hM [3] [{}, {}, {}] (nw := [(2, eU (((maskI (l.take i.toNat)) : Nat) : Int))]) An ?_
   clear hf; intro a hf
   refine wpList_nil ?_
   refine hK15 _ _ ?_
   refine wp_ret ?_
   refine qr (fn := Tryd.f22) hf hM [] (l := [uV (((maskI (l.take i.toNat)) : Nat) : Int), .nilIface]) (ob := []) An ?_
   show (.tuple #[uV (((maskI (l.take i.toNat)) : Nat) : Int), .nilIface] : Value) = .tuple #[uV 0, .iface 115 (.pointer (some (E 4)))] ∧ Keep Nn w w1
   exfalso
   have e : l.take i.toNat = l := List.take_of_length_le (by omega)
   rw [e, hn0] at hko
   cases hko

set_option maxRecDepth 10000 in
set_option maxHeartbeats 1600000 in
theorem qof_ok (E : Nat → Addr) (av : Option Addr) (l : List Int) (c : Nat) (bv : Option Addr) (m : List Int) (cm : Nat) (w : World) (hn0 : (kindsOk l) = true) (hn1 : (kindsOk m) = true) (hav : Arr w 1 av l.length c (flat fI l)) (hbav : l.length ≤ 1000000) (hbv : Arr w 1 bv m.length cm (flat fI m)) (hbbv : m.length ≤ 1000000) (hG : Errs [0, 1, 2, 3, 4, 5, 6, 7, 8, 9] w 115 E) :
    Calls Tryd.prog 8 #[.slice av l.length c, .slice bv m.length cm] w (Ret fun v w' => v = .tuple #[.agg #[uV (((maskI l) : Nat) : Int), uV (((maskI m) : Nat) : Int)], .nilIface] ∧ Keep Nn w w') := by
 refine sxenter (n := 40) (args := [.slice av l.length c, .slice bv m.length cm]) Tryd.func8 rfl rfl rfl fun a hf => ?_
 replace hf : Fr 40 [(0, eS av l.length c), (1, eS bv m.length cm)] a := hf
 have hM : MemOk [] w := MemOk.nil w
 have hk0 : Keep Nn w w := Keep.refl _ _
 refine wp_seq_k (fun K1 hK1 => ?_)
 refine wp_region_lit ?_
 refine q1 hf hM [0, 1] [{ os := [.nw] }, {}] (nw := fun B1 => [(4, eP B1 0)]) (M' := fun B1 => [⟨B1, 29, [uV 0, uV 0]⟩]) (ob := fun B1 => []) (fun B1 => An) ?_
 clear hf hM; intro a w1 B1 hf hM hB hk
 have hbB1 : w.heap.size ≤ B1 := by have := hk0.size; omega
 have hk0 := hk0.then hk (by intro i _ h; cases h)
 clear hk hB
 refine wpList_nil ?_
 refine hK1 _ _ ?_
 refine wp_seq_k (fun K2 hK2 => ?_)
 refine wp_region_lit ?_
 refine q1 hf hM [4, 0, 1] [{ sp := true }, { os := [.nw] }, { os := [.st 1 0, .st 1 1] }] (nw := fun B2 => [(6, eP B2 0)]) (M' := fun B2 => [⟨B1, 29, [uV 0, uV 0]⟩, ⟨B2, 29, [uV 0, uV 0]⟩]) (ob := fun B2 => [Ad B2 0, Ad B2 1]) (fun B2 => (Ac (ad _ _) (Ao (ad _ _)))) ?_
 clear hf hM; intro a w2 B2 hf hM hB hk
 have hbB2 : w.heap.size ≤ B2 := by have := hk0.size; omega
 have hk0 := hk0.thenNew hk (by simp [Mem.names] <;> omega)
 clear hk hB
 refine wpList_nil ?_
 refine hK2 _ _ ?_
 refine wp_seq_k (fun K3 hK3 => ?_)
 refine wp_seq_k (fun K4 hK4 => ?_)
 refine wp_region_lit ?_
 refine q0 hf hM [6, 4] [{}, {}, { sp := true }, {}, {}, { sp := true }] (nw := [(17, .val (.agg #[pV B2 1, .slice bv m.length cm])), (14, .val (.agg #[pV B2 0, .slice av l.length c]))]) An ?_
 clear hf; intro a hf
 refine sxbslice hf hM (t := 62) (e := 61) (len := 2) (cs := [pV B2 0, .slice av l.length c, pV B2 1, .slice bv m.length cm]) (ob := []) rfl rfl rfl rfl (by as_aux_lemma => kernel_rfl) An (by as_aux_lemma => kernel_rfl) ?_
 clear hf hM; intro a w3 B4 hf hM hB hk
 replace hM : MemOk [⟨B1, 29, [uV 0, uV 0]⟩, ⟨B2, 29, [uV 0, uV 0]⟩, ⟨B4, 61, [pV B2 0, .slice av l.length c, pV B2 1, .slice bv m.length cm]⟩] w3 := hM
 have hbB4 : w.heap.size ≤ B4 := by have := hk0.size; omega
 have hk0 := hk0.trans hk.nn
 clear hk hB
 refine q0 hf hM [18, 6, 4] [{}, {}] (nw := [(20, eI 0), (19, eI 2)]) An ?_
 clear hf; intro a hf
 refine wpList_nil ?_
 refine hK4 _ _ ?_
 refine wp_block ?_
 refine wp_loop_rounds 3 ?_
 refine sxround (m := 2) fun L1 hL1 => ?_
 refine wp_seq_k (fun K5 hK5 => ?_)
 refine wp_region_lit ?_
 refine q0 hf hM [20, 19, 18, 6, 4] [{}] (nw := [(21, eB true)]) An ?_
 clear hf; intro a hf
 refine wpList_nil ?_
 refine hK5 _ _ ?_
 refine wp_seq_k (fun K6 hK6 => ?_)
 refine sxcond hf (b := true) (by kernel_rfl) (fun _ => ?_) (fun h => by cases h)
 refine wp_skip ?_
 refine hK6 _ _ ?_
 refine wp_seq_k (fun K7 hK7 => ?_)
 refine wp_block ?_
 refine wp_seq_k (fun K8 hK8 => ?_)
 refine wp_region_lit ?_
 refine q1 hf hM [20, 19, 18, 6, 4] [{ sp := true }, { os := [.ld 2 0, .ld 2 1] }, { os := [.nw] }, { os := [.st 3 0, .st 3 1] }] (nw := fun B7 => [(8, eP B7 0)]) (M' := fun B7 => [⟨B1, 29, [uV 0, uV 0]⟩, ⟨B2, 29, [uV 0, uV 0]⟩, ⟨B4, 61, [pV B2 0, .slice av l.length c, pV B2 1, .slice bv m.length cm]⟩, ⟨B7, 61, [pV B2 0, .slice av l.length c]⟩]) (ob := fun B7 => [(0 : Int) ≤ 0 ∧ (0 : Int) < (2 : Int), (some ⟨B4, 0, none⟩ : Option Addr).isSome = true, Ad B4 0, Ad B4 1, Ad B7 0, Ad B7 1]) (fun B7 => (Ac (by omega) (Ac rfl (Ac (ad _ _) (Ac (ad _ _) (Ac (ad _ _) (Ao (ad _ _)))))))) ?_
 clear hf hM; intro a w4 B7 hf hM hB hk
 have hbB7 : w.heap.size ≤ B7 := by have := hk0.size; omega
 have hk0 := hk0.thenNew hk (by simp [Mem.names] <;> omega)
 clear hk hB
 refine wpList_nil ?_
 refine hK8 _ _ ?_
 refine wp_seq_k (fun K9 hK9 => ?_)
 refine wp_region_lit ?_
 refine q0 hf hM [8, 20, 19, 18, 6, 4] [{}, { os := [.ld 3 1] }] (nw := [(26, eS av l.length c)]) (ob := [Ad B7 1]) (Ao (ad _ _)) ?_
 clear hf; intro a hf
 refine sxcall hf rfl rfl rfl rfl (g := 22) (vs := [.slice av l.length c]) (ob := []) (by as_aux_lemma => kernel_rfl) An enters22 (mof_ok E av l c w4 hn0 (hav.keepNn hk0) (by first | omega | (simp; omega) | (simp; done) | exact Nat.le_trans (byKinds_len _ _) (by omega) | decide) (hG.keep hk0 (fun _ h => h))) ?_
 clear hf; rintro _ w5 a ⟨rfl, hk⟩ hf
 have hM := hM.keepNn hk
 have hk0 := hk0.trans hk.nn
 clear hk
 refine q0 hf hM [8, 20, 19, 18, 6, 4] [{}, {}, {}, {}, {}] (nw := [(10, .val (.nilIface)), (9, eU (((maskI l) : Nat) : Int))]) An ?_
 clear hf; intro a hf
 refine wpList_nil ?_
 refine hK9 _ _ ?_
 refine wp_seq_k (fun K10 hK10 => ?_)
 refine wp_seq_k (fun K11 hK11 => ?_)
 refine wp_region_lit ?_
 refine q0 hf hM [10, 9, 8, 20, 19, 18, 6, 4] [{}, {}] (nw := [(31, eB false)]) An ?_
 clear hf; intro a hf
 refine wpList_nil ?_
 refine hK11 _ _ ?_
 refine sxcond hf (b := false) (by kernel_rfl) (fun h => by cases h) (fun _ => ?_)
 refine wp_skip ?_
 refine hK10 _ _ ?_
 refine wp_region_lit ?_
 refine q1 hf hM [20, 19, 18, 6, 4] [{}, { os := [.ld 3 0] }, {}, {}, { os := [.st 1 0] }] (nw := fun B11 => []) (M' := fun B11 => [⟨B1, 29, [uV 0, uV 0]⟩, ⟨B2, 29, [uV (((maskI l) : Nat) : Int), uV 0]⟩, ⟨B4, 61, [pV B2 0, .slice av l.length c, pV B2 1, .slice bv m.length cm]⟩, ⟨B7, 61, [pV B2 0, .slice av l.length c]⟩]) (ob := fun B11 => [Ad B7 0, Ad B2 0]) (fun B11 => (Ac (ad _ _) (Ao (ad _ _)))) ?_
 clear hf hM; intro a w6 B11 hf hM hB hk
 have hbB11 : w.heap.size ≤ B11 := by have := hk0.size; omega
 have hk0 := hk0.thenNew hk (by simp [Mem.names] <;> omega)
 clear hk hB
 refine wpList_nil ?_
 refine hK7 _ _ ?_
 refine wp_region_lit ?_
 refine q0 hf hM [19, 18, 6, 4] [{}, {}] (nw := [(20, eI 1)]) An ?_
 clear hf; intro a hf
 refine wpList_nil ?_
 refine hL1 _ _ ?_
 refine sxround (m := 1) fun L2 hL2 => ?_
 refine wp_seq_k (fun K12 hK12 => ?_)
 refine wp_region_lit ?_
 refine q0 hf hM [20, 19, 18, 6, 4] [{}] (nw := [(21, eB true)]) An ?_
 clear hf; intro a hf
 refine wpList_nil ?_
 refine hK12 _ _ ?_
 refine wp_seq_k (fun K13 hK13 => ?_)
 refine sxcond hf (b := true) (by kernel_rfl) (fun _ => ?_) (fun h => by cases h)
 refine wp_skip ?_
 refine hK13 _ _ ?_
 refine wp_seq_k (fun K14 hK14 => ?_)
 refine wp_block ?_
 refine wp_seq_k (fun K15 hK15 => ?_)
 refine wp_region_lit ?_
 refine q1 hf hM [20, 19, 18, 6, 4] [{ sp := true }, { os := [.ld 2 2, .ld 2 3] }, { os := [.nw] }, { os := [.st 4 0, .st 4 1] }] (nw := fun B14 => [(8, eP B14 0)]) (M' := fun B14 => [⟨B1, 29, [uV 0, uV 0]⟩, ⟨B2, 29, [uV (((maskI l) : Nat) : Int), uV 0]⟩, ⟨B4, 61, [pV B2 0, .slice av l.length c, pV B2 1, .slice bv m.length cm]⟩, ⟨B7, 61, [pV B2 0, .slice av l.length c]⟩, ⟨B14, 61, [pV B2 1, .slice bv m.length cm]⟩]) (ob := fun B14 => [(0 : Int) ≤ 1 ∧ (1 : Int) < (2 : Int), (some ⟨B4, 0, none⟩ : Option Addr).isSome = true, Ad B4 2, Ad B4 3, Ad B14 0, Ad B14 1]) (fun B14 => (Ac (by omega) (Ac rfl (Ac (ad _ _) (Ac (ad _ _) (Ac (ad _ _) (Ao (ad _ _)))))))) ?_
 clear hf hM; intro a w7 B14 hf hM hB hk
 have hbB14 : w.heap.size ≤ B14 := by have := hk0.size; omega
 have hk0 := hk0.thenNew hk (by simp [Mem.names] <;> omega)
 clear hk hB
 refine wpList_nil ?_
 refine hK15 _ _ ?_
 refine wp_seq_k (fun K16 hK16 => ?_)
 refine wp_region_lit ?_
 refine q0 hf hM [8, 20, 19, 18, 6, 4] [{}, { os := [.ld 4 1] }] (nw := [(26, eS bv m.length cm)]) (ob := [Ad B14 1]) (Ao (ad _ _)) ?_
 clear hf; intro a hf
 refine sxcall hf rfl rfl rfl rfl (g := 22) (vs := [.slice bv m.length cm]) (ob := []) (by as_aux_lemma => kernel_rfl) An enters22 (mof_ok E bv m cm w7 hn1 (hbv.keepNn hk0) (by first | omega | (simp; omega) | (simp; done) | exact Nat.le_trans (byKinds_len _ _) (by omega) | decide) (hG.keep hk0 (fun _ h => h))) ?_
 clear hf; rintro _ w8 a ⟨rfl, hk⟩ hf
 have hM := hM.keepNn hk
 have hk0 := hk0.trans hk.nn
 clear hk
 refine q0 hf hM [8, 20, 19, 18, 6, 4] [{}, {}, {}, {}, {}] (nw := [(10, .val (.nilIface)), (9, eU (((maskI m) : Nat) : Int))]) An ?_
 clear hf; intro a hf
 refine wpList_nil ?_
 refine hK16 _ _ ?_
 refine wp_seq_k (fun K17 hK17 => ?_)
 refine wp_seq_k (fun K18 hK18 => ?_)
 refine wp_region_lit ?_
 refine q0 hf hM [10, 9, 8, 20, 19, 18, 6, 4] [{}, {}] (nw := [(31, eB false)]) An ?_
 clear hf; intro a hf
 refine wpList_nil ?_
 refine hK18 _ _ ?_
 refine sxcond hf (b := false) (by kernel_rfl) (fun h => by cases h) (fun _ => ?_)
 refine wp_skip ?_
 refine hK17 _ _ ?_
 refine wp_region_lit ?_
 refine q1 hf hM [20, 19, 18, 6, 4] [{}, { os := [.ld 4 0] }, {}, {}, { os := [.st 1 1] }] (nw := fun B18 => []) (M' := fun B18 => [⟨B1, 29, [uV 0, uV 0]⟩, ⟨B2, 29, [uV (((maskI l) : Nat) : Int), uV (((maskI m) : Nat) : Int)]⟩, ⟨B4, 61, [pV B2 0, .slice av l.length c, pV B2 1, .slice bv m.length cm]⟩, ⟨B7, 61, [pV B2 0, .slice av l.length c]⟩, ⟨B14, 61, [pV B2 1, .slice bv m.length cm]⟩]) (ob := fun B18 => [Ad B14 0, Ad B2 1]) (fun B18 => (Ac (ad _ _) (Ao (ad _ _)))) ?_
 clear hf hM; intro a w9 B18 hf hM hB hk
 have hbB18 : w.heap.size ≤ B18 := by have := hk0.size; omega
 have hk0 := hk0.thenNew hk (by simp [Mem.names] <;> omega)
 clear hk hB
 refine wpList_nil ?_
 refine hK14 _ _ ?_
 refine wp_region_lit ?_
 refine q0 hf hM [19, 18, 6, 4] [{}, {}] (nw := [(20, eI 2)]) An ?_
 clear hf; intro a hf
 refine wpList_nil ?_
 refine hL2 _ _ ?_
 refine sxround (m := 0) fun L3 hL3 => ?_
 refine wp_seq_k (fun K19 hK19 => ?_)
 refine wp_region_lit ?_
 refine q0 hf hM [20, 19, 18, 6, 4] [{}] (nw := [(21, eB false)]) An ?_
 clear hf; intro a hf
 refine wpList_nil ?_
 refine hK19 _ _ ?_
 refine wp_seq_k (fun K20 hK20 => ?_)
 refine sxcond hf (b := false) (by kernel_rfl) (fun h => by cases h) (fun _ => ?_)
 refine wp_exit ?_
 refine hK3 _ _ ?_
 refine wp_seq_k (fun K21 hK21 => ?_)
 refine wp_region_lit ?_
 refine q1 hf hM [4] [{ os := [.ld 1 0, .ld 1 1] }, { os := [.st 0 0, .st 0 1] }, {}] (nw := fun B21 => [(5, .val (.nilIface))]) (M' := fun B21 => [⟨B1, 29, [uV (((maskI l) : Nat) : Int), uV (((maskI m) : Nat) : Int)]⟩, ⟨B2, 29, [uV (((maskI l) : Nat) : Int), uV (((maskI m) : Nat) : Int)]⟩, ⟨B4, 61, [pV B2 0, .slice av l.length c, pV B2 1, .slice bv m.length cm]⟩, ⟨B7, 61, [pV B2 0, .slice av l.length c]⟩, ⟨B14, 61, [pV B2 1, .slice bv m.length cm]⟩]) (ob := fun B21 => [Ad B2 0, Ad B2 1, Ad B1 0, Ad B1 1]) (fun B21 => (Ac (ad _ _) (Ac (ad _ _) (Ac (ad _ _) (Ao (ad _ _)))))) ?_
 clear hf hM; intro a w10 B21 hf hM hB hk
 have hbB21 : w.heap.size ≤ B21 := by have := hk0.size; omega
 have hk0 := hk0.thenNew hk (by simp [Mem.names] <;> omega)
 clear hk hB
 refine wpList_nil ?_
 refine hK21 _ _ ?_
 refine wp_ret ?_
 refine qr (fn := Tryd.f8) hf hM [.ld 0 0, .ld 0 1] (l := [.agg #[uV (((maskI l) : Nat) : Int), uV (((maskI m) : Nat) : Int)], .nilIface]) (ob := [Ad B1 0, Ad B1 1]) (Ac (ad _ _) (Ao (ad _ _))) ?_
 show (.tuple #[.agg #[uV (((maskI l) : Nat) : Int), uV (((maskI m) : Nat) : Int)], .nilIface] : Value) = .tuple #[.agg #[uV (((maskI l) : Nat) : Int), uV (((maskI m) : Nat) : Int)], .nilIface] ∧ Keep Nn w w10
 exact ⟨rfl, hk0⟩

set_option maxRecDepth 10000 in
set_option maxHeartbeats 1600000 in
theorem qof_n1 (E : Nat → Addr) (av : Option Addr) (l : List Int) (c : Nat) (bv : Option Addr) (m : List Int) (cm : Nat) (w : World) (hn0 : (kindsOk l) = false) (hav : Arr w 1 av l.length c (flat fI l)) (hbav : l.length ≤ 1000000) (hbv : Arr w 1 bv m.length cm (flat fI m)) (hbbv : m.length ≤ 1000000) (hG : Errs [0, 1, 2, 3, 4, 5, 6, 7, 8, 9] w 115 E) :
    Calls Tryd.prog 8 #[.slice av l.length c, .slice bv m.length cm] w (Ret fun v w' => v = .tuple #[.agg #[uV 0, uV 0], .iface 115 (.pointer (some (E 4)))] ∧ Keep Nn w w') := by
 refine sxenter (n := 40) (args := [.slice av l.length c, .slice bv m.length cm]) Tryd.func8 rfl rfl rfl fun a hf => ?_
 replace hf : Fr 40 [(0, eS av l.length c), (1, eS bv m.length cm)] a := hf
 have hM : MemOk [] w := MemOk.nil w
 have hk0 : Keep Nn w w := Keep.refl _ _
 refine wp_seq_k (fun K1 hK1 => ?_)
 refine wp_region_lit ?_
 refine q1 hf hM [0, 1] [{ os := [.nw] }, {}] (nw := fun B1 => [(4, eP B1 0)]) (M' := fun B1 => [⟨B1, 29, [uV 0, uV 0]⟩]) (ob := fun B1 => []) (fun B1 => An) ?_
 clear hf hM; intro a w1 B1 hf hM hB hk
 have hbB1 : w.heap.size ≤ B1 := by have := hk0.size; omega
 have hk0 := hk0.then hk (by intro i _ h; cases h)
 clear hk hB
 refine wpList_nil ?_
 refine hK1 _ _ ?_
 refine wp_seq_k (fun K2 hK2 => ?_)
 refine wp_region_lit ?_
 refine q1 hf hM [4, 0, 1] [{ sp := true }, { os := [.nw] }, { os := [.st 1 0, .st 1 1] }] (nw := fun B2 => [(6, eP B2 0)]) (M' := fun B2 => [⟨B1, 29, [uV 0, uV 0]⟩, ⟨B2, 29, [uV 0, uV 0]⟩]) (ob := fun B2 => [Ad B2 0, Ad B2 1]) (fun B2 => (Ac (ad _ _) (Ao (ad _ _)))) ?_
 clear hf hM; intro a w2 B2 hf hM hB hk
 have hbB2 : w.heap.size ≤ B2 := by have := hk0.size; omega
 have hk0 := hk0.thenNew hk (by simp [Mem.names] <;> omega)
 clear hk hB
 refine wpList_nil ?_
 refine hK2 _ _ ?_
 refine wp_seq_k (fun K3 hK3 => ?_)
 refine wp_seq_k (fun K4 hK4 => ?_)
 refine wp_region_lit ?_
 refine q0 hf hM [6, 4] [{}, {}, { sp := true }, {}, {}, { sp := true }] (nw := [(17, .val (.agg #[pV B2 1, .slice bv m.length cm])), (14, .val (.agg #[pV B2 0, .slice av l.length c]))]) An ?_
 clear hf; intro a hf
 refine sxbslice hf hM (t := 62) (e := 61) (len := 2) (cs := [pV B2 0, .slice av l.length c, pV B2 1, .slice bv m.length cm]) (ob := []) rfl rfl rfl rfl (by as_aux_lemma => kernel_rfl) An (by as_aux_lemma => kernel_rfl) ?_
 clear hf hM; intro a w3 B4 hf hM hB hk
 replace hM : MemOk [⟨B1, 29, [uV 0, uV 0]⟩, ⟨B2, 29, [uV 0, uV 0]⟩, ⟨B4, 61, [pV B2 0, .slice av l.length c, pV B2 1, .slice bv m.length cm]⟩] w3 := hM
 have hbB4 : w.heap.size ≤ B4 := by have := hk0.size; omega
 have hk0 := hk0.trans hk.nn
 clear hk hB
 refine q0 hf hM [18, 6, 4] [{}, {}] (nw := [(20, eI 0), (19, eI 2)]) An ?_
 clear hf; intro a hf
 refine wpList_nil ?_
 refine hK4 _ _ ?_
 refine wp_block ?_
 refine wp_loop_rounds 3 ?_
 refine sxround (m := 2) fun L1 hL1 => ?_
 refine wp_seq_k (fun K5 hK5 => ?_)
 refine wp_region_lit ?_
 refine q0 hf hM [20, 19, 18, 6, 4] [{}] (nw := [(21, eB true)]) An ?_
 clear hf; intro a hf
 refine wpList_nil ?_
 refine hK5 _ _ ?_
 refine wp_seq_k (fun K6 hK6 => ?_)
 refine sxcond hf (b := true) (by kernel_rfl) (fun _ => ?_) (fun h => by cases h)
 refine wp_skip ?_
 refine hK6 _ _ ?_
 refine wp_seq_k (fun K7 hK7 => ?_)
 refine wp_block ?_
 refine wp_seq_k (fun K8 hK8 => ?_)
 refine wp_region_lit ?_
 refine q1 hf hM [20, 19, 18, 6, 4] [{ sp := true }, { os := [.ld 2 0, .ld 2 1] }, { os := [.nw] }, { os := [.st 3 0, .st 3 1] }] (nw := fun B7 => [(8, eP B7 0)]) (M' := fun B7 => [⟨B1, 29, [uV 0, uV 0]⟩, ⟨B2, 29, [uV 0, uV 0]⟩, ⟨B4, 61, [pV B2 0, .slice av l.length c, pV B2 1, .slice bv m.length cm]⟩, ⟨B7, 61, [pV B2 0, .slice av l.length c]⟩]) (ob := fun B7 => [(0 : Int) ≤ 0 ∧ (0 : Int) < (2 : Int), (some ⟨B4, 0, none⟩ : Option Addr).isSome = true, Ad B4 0, Ad B4 1, Ad B7 0, Ad B7 1]) (fun B7 => (Ac (by omega) (Ac rfl (Ac (ad _ _) (Ac (ad _ _) (Ac (ad _ _) (Ao (ad _ _)))))))) ?_
 clear hf hM; intro a w4 B7 hf hM hB hk
 have hbB7 : w.heap.size ≤ B7 := by have := hk0.size; omega
 have hk0 := hk0.thenNew hk (by simp [Mem.names] <;> omega)
 clear hk hB
 refine wpList_nil ?_
 refine hK8 _ _ ?_
 refine wp_seq_k (fun K9 hK9 => ?_)
 refine wp_region_lit ?_
 refine q0 hf hM [8, 20, 19, 18, 6, 4] [{}, { os := [.ld 3 1] }] (nw := [(26, eS av l.length c)]) (ob := [Ad B7 1]) (Ao (ad _ _)) ?_
 clear hf; intro a hf
 refine sxcall hf rfl rfl rfl rfl (g := 22) (vs := [.slice av l.length c]) (ob := []) (by as_aux_lemma => kernel_rfl) An enters22 (mof_no E av l c w4 hn0 (hav.keepNn hk0) (by first | omega | (simp; omega) | (simp; done) | exact Nat.le_trans (byKinds_len _ _) (by omega) | decide) (hG.keep hk0 (fun _ h => h))) ?_
 clear hf; rintro _ w5 a ⟨rfl, hk⟩ hf
 have hM := hM.keepNn hk
 have hk0 := hk0.trans hk.nn
 clear hk
 refine q0 hf hM [8, 20, 19, 18, 6, 4] [{}, {}, {}, {}, {}] (nw := [(10, .val (.iface 115 (.pointer (some (E 4))))), (9, eU 0)]) An ?_
 clear hf; intro a hf
 refine wpList_nil ?_
 refine hK9 _ _ ?_
 refine wp_seq_k (fun K10 hK10 => ?_)
 refine wp_seq_k (fun K11 hK11 => ?_)
 refine wp_region_lit ?_
 refine q0 hf hM [10, 9, 8, 20, 19, 18, 6, 4] [{}, {}] (nw := [(31, eB true)]) An ?_
 clear hf; intro a hf
 refine wpList_nil ?_
 refine hK11 _ _ ?_
 refine sxcond hf (b := true) (by kernel_rfl) (fun _ => ?_) (fun h => by cases h)
 refine wp_seq_k (fun K12 hK12 => ?_)
 refine wp_region_lit ?_
 refine q1 hf hM [4] [{ sp := true }, {}, { os := [.st 0 0, .st 0 1] }, {}] (nw := fun B11 => [(5, .val (.iface 115 (.pointer (some (E 4)))))]) (M' := fun B11 => [⟨B1, 29, [uV 0, uV 0]⟩, ⟨B2, 29, [uV 0, uV 0]⟩, ⟨B4, 61, [pV B2 0, .slice av l.length c, pV B2 1, .slice bv m.length cm]⟩, ⟨B7, 61, [pV B2 0, .slice av l.length c]⟩]) (ob := fun B11 => [Ad B1 0, Ad B1 1]) (fun B11 => (Ac (ad _ _) (Ao (ad _ _)))) ?_
 clear hf hM; intro a w6 B11 hf hM hB hk
 have hbB11 : w.heap.size ≤ B11 := by have := hk0.size; omega
 have hk0 := hk0.thenNew hk (by simp [Mem.names] <;> omega)
 clear hk hB
 refine wpList_nil ?_
 refine hK12 _ _ ?_
 refine wp_ret ?_
 refine qr (fn := Tryd.f8) hf hM [.ld 0 0, .ld 0 1] (l := [.agg #[uV 0, uV 0], .iface 115 (.pointer (some (E 4)))]) (ob := [Ad B1 0, Ad B1 1]) (Ac (ad _ _) (Ao (ad _ _))) ?_
 show (.tuple #[.agg #[uV 0, uV 0], .iface 115 (.pointer (some (E 4)))] : Value) = .tuple #[.agg #[uV 0, uV 0], .iface 115 (.pointer (some (E 4)))] ∧ Keep Nn w w6
 exact ⟨rfl, hk0⟩

set_option maxRecDepth 10000 in
set_option maxHeartbeats 1600000 in
theorem qof_n2 (E : Nat → Addr) (av : Option Addr) (l : List Int) (c : Nat) (bv : Option Addr) (m : List Int) (cm : Nat) (w : World) (hn0 : (kindsOk l) = true) (hn1 : (kindsOk m) = false) (hav : Arr w 1 av l.length c (flat fI l)) (hbav : l.length ≤ 1000000) (hbv : Arr w 1 bv m.length cm (flat fI m)) (hbbv : m.length ≤ 1000000) (hG : Errs [0, 1, 2, 3, 4, 5, 6, 7, 8, 9] w 115 E) :
    Calls Tryd.prog 8 #[.slice av l.length c, .slice bv m.length cm] w (Ret fun v w' => v = .tuple #[.agg #[uV 0, uV 0], .iface 115 (.pointer (some (E 4)))] ∧ Keep Nn w w') := by
 refine sxenter (n := 40) (args := [.slice av l.length c, .slice bv m.length cm]) Tryd.func8 rfl rfl rfl fun a hf => ?_
 replace hf : Fr 40 [(0, eS av l.length c), (1, eS bv m.length cm)] a := hf
 have hM : MemOk [] w := MemOk.nil w
 have hk0 : Keep Nn w w := Keep.refl _ _
 refine wp_seq_k (fun K1 hK1 => ?_)
 refine wp_region_lit ?_
 refine q1 hf hM [0, 1] [{ os := [.nw] }, {}] (nw := fun B1 => [(4, eP B1 0)]) (M' := fun B1 => [⟨B1, 29, [uV 0, uV 0]⟩]) (ob := fun B1 => []) (fun B1 => An) ?_
 clear hf hM; intro a w1 B1 hf hM hB hk
 have hbB1 : w.heap.size ≤ B1 := by have := hk0.size; omega
 have hk0 := hk0.then hk (by intro i _ h; cases h)
 clear hk hB
 refine wpList_nil ?_
 refine hK1 _ _ ?_
 refine wp_seq_k (fun K2 hK2 => ?_)
 refine wp_region_lit ?_
 refine q1 hf hM [4, 0, 1] [{ sp := true }, { os := [.nw] }, { os := [.st 1 0, .st 1 1] }] (nw := fun B2 => [(6, eP B2 0)]) (M' := fun B2 => [⟨B1, 29, [uV 0, uV 0]⟩, ⟨B2, 29, [uV 0, uV 0]⟩]) (ob := fun B2 => [Ad B2 0, Ad B2 1]) (fun B2 => (Ac (ad _ _) (Ao (ad _ _)))) ?_
 clear hf hM; intro a w2 B2 hf hM hB hk
 have hbB2 : w.heap.size ≤ B2 := by have := hk0.size; omega
 have hk0 := hk0.thenNew hk (by simp [Mem.names] <;> omega)
 clear hk hB
 refine wpList_nil ?_
 refine hK2 _ _ ?_
 refine wp_seq_k (fun K3 hK3 => ?_)
 refine wp_seq_k (fun K4 hK4 => ?_)
 refine wp_region_lit ?_
 refine q0 hf hM [6, 4] [{}, {}, { sp := true }, {}, {}, { sp := true }] (nw := [(17, .val (.agg #[pV B2 1, .slice bv m.length cm])), (14, .val (.agg #[pV B2 0, .slice av l.length c]))]) An ?_
 clear hf; intro a hf
 refine sxbslice hf hM (t := 62) (e := 61) (len := 2) (cs := [pV B2 0, .slice av l.length c, pV B2 1, .slice bv m.length cm]) (ob := []) rfl rfl rfl rfl (by as_aux_lemma => kernel_rfl) An (by as_aux_lemma => kernel_rfl) ?_
 clear hf hM; intro a w3 B4 hf hM hB hk
 replace hM : MemOk [⟨B1, 29, [uV 0, uV 0]⟩, ⟨B2, 29, [uV 0, uV 0]⟩, ⟨B4, 61, [pV B2 0, .slice av l.length c, pV B2 1, .slice bv m.length cm]⟩] w3 := hM
 have hbB4 : w.heap.size ≤ B4 := by have := hk0.size; omega
 have hk0 := hk0.trans hk.nn
 clear hk hB
 refine q0 hf hM [18, 6, 4] [{}, {}] (nw := [(20, eI 0), (19, eI 2)]) An ?_
 clear hf; intro a hf
 refine wpList_nil ?_
 refine hK4 _ _ ?_
 refine wp_block ?_
 refine wp_loop_rounds 3 ?_
 refine sxround (m := 2) fun L1 hL1 => ?_
 refine wp_seq_k (fun K5 hK5 => ?_)
 refine wp_region_lit ?_
 refine q0 hf hM [20, 19, 18, 6, 4] [{}] (nw := [(21, eB true)]) An ?_
 clear hf; intro a hf
 refine wpList_nil ?_
 refine hK5 _ _ ?_
 refine wp_seq_k (fun K6 hK6 => ?_)
 refine sxcond hf (b := true) (by kernel_rfl) (fun _ => ?_) (fun h => by cases h)
 refine wp_skip ?_
 refine hK6 _ _ ?_
 refine wp_seq_k (fun K7 hK7 => ?_)
 refine wp_block ?_
 refine wp_seq_k (fun K8 hK8 => ?_)
 refine wp_region_lit ?_
 refine q1 hf hM [20, 19, 18, 6, 4] [{ sp := true }, { os := [.ld 2 0, .ld 2 1] }, { os := [.nw] }, { os := [.st 3 0, .st 3 1] }] (nw := fun B7 => [(8, eP B7 0)]) (M' := fun B7 => [⟨B1, 29, [uV 0, uV 0]⟩, ⟨B2, 29, [uV 0, uV 0]⟩, ⟨B4, 61, [pV B2 0, .slice av l.length c, pV B2 1, .slice bv m.length cm]⟩, ⟨B7, 61, [pV B2 0, .slice av l.length c]⟩]) (ob := fun B7 => [(0 : Int) ≤ 0 ∧ (0 : Int) < (2 : Int), (some ⟨B4, 0, none⟩ : Option Addr).isSome = true, Ad B4 0, Ad B4 1, Ad B7 0, Ad B7 1]) (fun B7 => (Ac (by omega) (Ac rfl (Ac (ad _ _) (Ac (ad _ _) (Ac (ad _ _) (Ao (ad _ _)))))))) ?_
 clear hf hM; intro a w4 B7 hf hM hB hk
 have hbB7 : w.heap.size ≤ B7 := by have := hk0.size; omega
 have hk0 := hk0.thenNew hk (by simp [Mem.names] <;> omega)
 clear hk hB
 refine wpList_nil ?_
 refine hK8 _ _ ?_
 refine wp_seq_k (fun K9 hK9 => ?_)
 refine wp_region_lit ?_
 refine q0 hf hM [8, 20, 19, 18, 6, 4] [{}, { os := [.ld 3 1] }] (nw := [(26, eS av l.length c)]) (ob := [Ad B7 1]) (Ao (ad _ _)) ?_
 clear hf; intro a hf
 refine sxcall hf rfl rfl rfl rfl (g := 22) (vs := [.slice av l.length c]) (ob := []) (by as_aux_lemma => kernel_rfl) An enters22 (mof_ok E av l c w4 hn0 (hav.keepNn hk0) (by first | omega | (simp; omega) | (simp; done) | exact Nat.le_trans (byKinds_len _ _) (by omega) | decide) (hG.keep hk0 (fun _ h => h))) ?_
 clear hf; rintro _ w5 a ⟨rfl, hk⟩ hf
 have hM := hM.keepNn hk
 have hk0 := hk0.trans hk.nn
 clear hk
 refine q0 hf hM [8, 20, 19, 18, 6, 4] [{}, {}, {}, {}, {}] (nw := [(10, .val (.nilIface)), (9, eU (((maskI l) : Nat) : Int))]) An ?_
 clear hf; intro a hf
 refine wpList_nil ?_
 refine hK9 _ _ ?_
 refine wp_seq_k (fun K10 hK10 => ?_)
 refine wp_seq_k (fun K11 hK11 => ?_)
 refine wp_region_lit ?_
 refine q0 hf hM [10, 9, 8, 20, 19, 18, 6, 4] [{}, {}] (nw := [(31, eB false)]) An ?_
 clear hf; intro a hf
 refine wpList_nil ?_
 refine hK11 _ _ ?_
 refine sxcond hf (b := false) (by kernel_rfl) (fun h => by cases h) (fun _ => ?_)
 refine wp_skip ?_
 refine hK10 _ _ ?_
 refine wp_region_lit ?_
 refine q1 hf hM [20, 19, 18, 6, 4] [{}, { os := [.ld 3 0] }, {}, {}, { os := [.st 1 0] }] (nw := fun B11 => []) (M' := fun B11 => [⟨B1, 29, [uV 0, uV 0]⟩, ⟨B2, 29, [uV (((maskI l) : Nat) : Int), uV 0]⟩, ⟨B4, 61, [pV B2 0, .slice av l.length c, pV B2 1, .slice bv m.length cm]⟩, ⟨B7, 61, [pV B2 0, .slice av l.length c]⟩]) (ob := fun B11 => [Ad B7 0, Ad B2 0]) (fun B11 => (Ac (ad _ _) (Ao (ad _ _)))) ?_
 clear hf hM; intro a w6 B11 hf hM hB hk
 have hbB11 : w.heap.size ≤ B11 := by have := hk0.size; omega
 have hk0 := hk0.thenNew hk (by simp [Mem.names] <;> omega)
 clear hk hB
 refine wpList_nil ?_
 refine hK7 _ _ ?_
 refine wp_region_lit ?_
 refine q0 hf hM [19, 18, 6, 4] [{}, {}] (nw := [(20, eI 1)]) An ?_
 clear hf; intro a hf
 refine wpList_nil ?_
 refine hL1 _ _ ?_
 refine sxround (m := 1) fun L2 hL2 => ?_
 refine wp_seq_k (fun K12 hK12 => ?_)
 refine wp_region_lit ?_
 refine q0 hf hM [20, 19, 18, 6, 4] [{}] (nw := [(21, eB true)]) An ?_
 clear hf; intro a hf
 refine wpList_nil ?_
 refine hK12 _ _ ?_
 refine wp_seq_k (fun K13 hK13 => ?_)
 refine sxcond hf (b := true) (by kernel_rfl) (fun _ => ?_) (fun h => by cases h)
 refine wp_skip ?_
 refine hK13 _ _ ?_
 refine wp_seq_k (fun K14 hK14 => ?_)
 refine wp_block ?_
 refine wp_seq_k (fun K15 hK15 => ?_)
 refine wp_region_lit ?_
 refine q1 hf hM [20, 19, 18, 6, 4] [{ sp := true }, { os := [.ld 2 2, .ld 2 3] }, { os := [.nw] }, { os := [.st 4 0, .st 4 1] }] (nw := fun B14 => [(8, eP B14 0)]) (M' := fun B14 => [⟨B1, 29, [uV 0, uV 0]⟩, ⟨B2, 29, [uV (((maskI l) : Nat) : Int), uV 0]⟩, ⟨B4, 61, [pV B2 0, .slice av l.length c, pV B2 1, .slice bv m.length cm]⟩, ⟨B7, 61, [pV B2 0, .slice av l.length c]⟩, ⟨B14, 61, [pV B2 1, .slice bv m.length cm]⟩]) (ob := fun B14 => [(0 : Int) ≤ 1 ∧ (1 : Int) < (2 : Int), (some ⟨B4, 0, none⟩ : Option Addr).isSome = true, Ad B4 2, Ad B4 3, Ad B14 0, Ad B14 1]) (fun B14 => (Ac (by omega) (Ac rfl (Ac (ad _ _) (Ac (ad _ _) (Ac (ad _ _) (Ao (ad _ _)))))))) ?_
 clear hf hM; intro a w7 B14 hf hM hB hk
 have hbB14 : w.heap.size ≤ B14 := by have := hk0.size; omega
 have hk0 := hk0.thenNew hk (by simp [Mem.names] <;> omega)
 clear hk hB
 refine wpList_nil ?_
 refine hK15 _ _ ?_
 refine wp_seq_k (fun K16 hK16 => ?_)
 refine wp_region_lit ?_
 refine q0 hf hM [8, 20, 19, 18, 6, 4] [{}, { os := [.ld 4 1] }] (nw := [(26, eS bv m.length cm)]) (ob := [Ad B14 1]) (Ao (ad _ _)) ?_
 clear hf; intro a hf
 refine sxcall hf rfl rfl rfl rfl (g := 22) (vs := [.slice bv m.length cm]) (ob := []) (by as_aux_lemma => kernel_rfl) An enters22 (mof_no E bv m cm w7 hn1 (hbv.keepNn hk0) (by first | omega | (simp; omega) | (simp; done) | exact Nat.le_trans (byKinds_len _ _) (by omega) | decide) (hG.keep hk0 (fun _ h => h))) ?_
 clear hf; rintro _ w8 a ⟨rfl, hk⟩ hf
 have hM := hM.keepNn hk
 have hk0 := hk0.trans hk.nn
 clear hk
 refine q0 hf hM [8, 20, 19, 18, 6, 4] [{}, {}, {}, {}, {}] (nw := [(10, .val (.iface 115 (.pointer (some (E 4))))), (9, eU 0)]) An ?_
 clear hf; intro a hf
 refine wpList_nil ?_
 refine hK16 _ _ ?_
 refine wp_seq_k (fun K17 hK17 => ?_)
 refine wp_seq_k (fun K18 hK18 => ?_)
 refine wp_region_lit ?_
 refine q0 hf hM [10, 9, 8, 20, 19, 18, 6, 4] [{}, {}] (nw := [(31, eB true)]) An ?_
 clear hf; intro a hf
 refine wpList_nil ?_
 refine hK18 _ _ ?_
 refine sxcond hf (b := true) (by kernel_rfl) (fun _ => ?_) (fun h => by cases h)
 refine wp_seq_k (fun K19 hK19 => ?_)
 refine wp_region_lit ?_
 refine q1 hf hM [4] [{ sp := true }, {}, { os := [.st 0 0, .st 0 1] }, {}] (nw := fun B18 => [(5, .val (.iface 115 (.pointer (some (E 4)))))]) (M' := fun B18 => [⟨B1, 29, [uV 0, uV 0]⟩, ⟨B2, 29, [uV (((maskI l) : Nat) : Int), uV 0]⟩, ⟨B4, 61, [pV B2 0, .slice av l.length c, pV B2 1, .slice bv m.length cm]⟩, ⟨B7, 61, [pV B2 0, .slice av l.length c]⟩, ⟨B14, 61, [pV B2 1, .slice bv m.length cm]⟩]) (ob := fun B18 => [Ad B1 0, Ad B1 1]) (fun B18 => (Ac (ad _ _) (Ao (ad _ _)))) ?_
 clear hf hM; intro a w9 B18 hf hM hB hk
 have hbB18 : w.heap.size ≤ B18 := by have := hk0.size; omega
 have hk0 := hk0.thenNew hk (by simp [Mem.names] <;> omega)
 clear hk hB
 refine wpList_nil ?_
 refine hK19 _ _ ?_
 refine wp_ret ?_
 refine qr (fn := Tryd.f8) hf hM [.ld 0 0, .ld 0 1] (l := [.agg #[uV 0, uV 0], .iface 115 (.pointer (some (E 4)))]) (ob := [Ad B1 0, Ad B1 1]) (Ac (ad _ _) (Ao (ad _ _))) ?_
 show (.tuple #[.agg #[uV 0, uV 0], .iface 115 (.pointer (some (E 4)))] : Value) = .tuple #[.agg #[uV 0, uV 0], .iface 115 (.pointer (some (E 4)))] ∧ Keep Nn w w9
 exact ⟨rfl, hk0⟩

set_option maxRecDepth 10000 in
set_option maxHeartbeats 1600000 in
theorem qholds (na nb : Nat) (w : World) (hna : na < 2 ^ 64) (hnb : nb < 2 ^ 64) :
    Calls Tryd.prog 50 #[uV ((na : Nat) : Int), uV ((nb : Nat) : Int)] w (Ret fun v w' => v = .bool (lessN nb na == 0) ∧ Keep Nn w w') := by
 refine sxenter (n := 9) (args := [uV ((na : Nat) : Int), uV ((nb : Nat) : Int)]) Tryd.func50 rfl rfl rfl fun a hf => ?_
 replace hf : Fr 9 [(0, eU ((na : Nat) : Int)), (1, eU ((nb : Nat) : Int))] a := hf
 have hM : MemOk [] w := MemOk.nil w
 have hk0 : Keep Nn w w := Keep.refl _ _
 refine wp_seq_k (fun K1 hK1 => ?_)
 refine wp_region_lit ?_
 refine q0 hf hM [0, 1] [{}] (nw := []) An ?_
 clear hf; intro a hf
 refine wpList_nil ?_
 refine hK1 _ _ ?_
 refine wp_seq_k (fun K2 hK2 => ?_)
 refine wp_region_lit ?_
 refine q0 hf hM [] [{}, {}, { hint := some (uV (((lessN nb na) : Nat) : Int)) }, { hint := some (bV (lessN nb na == 0)) }, {}] (nw := [(4, eB (lessN nb na == 0))]) (ob := [(uV (IntKind.u64.wrap ((BitVec.ofInt IntKind.u64.bits ((nb : Nat) : Int) &&& ~~~(BitVec.ofInt IntKind.u64.bits ((na : Nat) : Int)) : BitVec IntKind.u64.bits).toNat : Int)) : Value) = (uV (((lessN nb na) : Nat) : Int) : Value), (bV (((((lessN nb na) : Nat) : Int) : Int) == 0) : Value) = (bV (lessN nb na == 0) : Value)]) (Ac (andNot_u64 hnb hna) (Ao (congrArg Value.bool (eqz_nat _)))) ?_
 clear hf; intro a hf
 refine wpList_nil ?_
 refine hK2 _ _ ?_
 refine wp_ret ?_
 refine qr (fn := Tryd.f50) hf hM [] (l := [bV (lessN nb na == 0)]) (ob := []) An ?_
 show (bV (lessN nb na == 0) : Value) = .bool (lessN nb na == 0) ∧ Keep Nn w w
 exact ⟨rfl, hk0⟩

set_option maxRecDepth 10000 in
set_option maxHeartbeats 1600000 in
theorem qmeets (na nb : Nat) (w : World) (hna : na < 2 ^ 64) (hnb : nb < 2 ^ 64) :
    Calls Tryd.prog 51 #[uV ((na : Nat) : Int), uV ((nb : Nat) : Int)] w (Ret fun v w' => v = .bool (!(na &&& nb == 0)) ∧ Keep Nn w w') := by
 refine sxenter (n := 9) (args := [uV ((na : Nat) : Int), uV ((nb : Nat) : Int)]) Tryd.func51 rfl rfl rfl fun a hf => ?_
 replace hf : Fr 9 [(0, eU ((na : Nat) : Int)), (1, eU ((nb : Nat) : Int))] a := hf
 have hM : MemOk [] w := MemOk.nil w
 have hk0 : Keep Nn w w := Keep.refl _ _
 refine wp_seq_k (fun K1 hK1 => ?_)
 refine wp_region_lit ?_
 refine q0 hf hM [0, 1] [{}] (nw := []) An ?_
 clear hf; intro a hf
 refine wpList_nil ?_
 refine hK1 _ _ ?_
 refine wp_seq_k (fun K2 hK2 => ?_)
 refine wp_region_lit ?_
 refine q0 hf hM [] [{}, {}, { hint := some (uV (((na &&& nb) : Nat) : Int)) }, { hint := some (bV (!(na &&& nb == 0))) }, {}] (nw := [(4, eB (!(na &&& nb == 0)))]) (ob := [(uV (IntKind.u64.wrap ((BitVec.ofInt IntKind.u64.bits ((na : Nat) : Int) &&& (BitVec.ofInt IntKind.u64.bits ((nb : Nat) : Int)) : BitVec IntKind.u64.bits).toNat : Int)) : Value) = (uV (((na &&& nb) : Nat) : Int) : Value), (bV (((((na &&& nb) : Nat) : Int) : Int) != 0) : Value) = (bV (!(na &&& nb == 0)) : Value)]) (Ac (and_u64 hna hnb) (Ao (congrArg Value.bool (nez_nat _)))) ?_
 clear hf; intro a hf
 refine wpList_nil ?_
 refine hK2 _ _ ?_
 refine wp_ret ?_
 refine qr (fn := Tryd.f51) hf hM [] (l := [bV (!(na &&& nb == 0))]) (ob := []) An ?_
 show (bV (!(na &&& nb == 0)) : Value) = .bool (!(na &&& nb == 0)) ∧ Keep Nn w w
 exact ⟨rfl, hk0⟩

set_option maxRecDepth 10000 in
set_option maxHeartbeats 1600000 in
theorem qmfits (nm na nb : Nat) (w : World) (hnm : nm < 2 ^ 64) (hna : na < 2 ^ 64) (hnb : nb < 2 ^ 64) :
    Calls Tryd.prog 30 #[uV ((nm : Nat) : Int), uV ((na : Nat) : Int), uV ((nb : Nat) : Int)] w (Ret fun v w' => v = .bool (fitsN nm na nb) ∧ Keep Nn w w') := by
 refine sxenter (n := 16) (args := [uV ((nm : Nat) : Int), uV ((na : Nat) : Int), uV ((nb : Nat) : Int)]) Tryd.func30 rfl rfl rfl fun a hf => ?_
 replace hf : Fr 16 [(0, eU ((nm : Nat) : Int)), (1, eU ((na : Nat) : Int)), (2, eU ((nb : Nat) : Int))] a := hf
 have hM : MemOk [] w := MemOk.nil w
 have hk0 : Keep Nn w w := Keep.refl _ _
 refine wp_seq_k (fun K1 hK1 => ?_)
 refine wp_region_lit ?_
 refine q0 hf hM [0, 1, 2] [{}] (nw := []) An ?_
 clear hf; intro a hf
 refine wpList_nil ?_
 refine hK1 _ _ ?_
 refine wp_seq_k (fun K2 hK2 => ?_)
 refine wp_region_lit ?_
 refine q0 hf hM [0, 2] [{}, {}] (nw := [(8, eU ((na : Nat) : Int)), (7, eU ((nm : Nat) : Int))]) An ?_
 clear hf; intro a hf
 refine sxcall hf rfl rfl rfl rfl (g := 50) (vs := [uV ((nm : Nat) : Int), uV ((na : Nat) : Int)]) (ob := []) (by as_aux_lemma => kernel_rfl) An enters50 (qholds nm na w  (by first | assumption | exact maskI_lt64 (by assumption) | exact maskN_lt64 (by assumption) | decide) (by first | assumption | exact maskI_lt64 (by assumption) | exact maskN_lt64 (by assumption) | decide)) ?_
 clear hf; rintro _ w1 a ⟨rfl, hk⟩ hf
 have hM := hM.keepNn hk
 have hk0 := hk0.trans hk.nn
 clear hk
 refine q0 hf hM [0, 2] [{}] (nw := [(10, eB (lessN na nm == 0))]) An ?_
 clear hf; intro a hf
 rcases Bool.eq_false_or_eq_true (lessN na nm == 0) with hg1r | hg1r
 · have hg1 := hg1r
   try simp only [Bool.or_eq_true, Bool.and_eq_true, Bool.not_eq_true', Bool.not_eq_false', Bool.or_eq_false_iff, Bool.and_eq_false_iff, decide_eq_true_eq, decide_eq_false_iff_not, beq_iff_eq, bne_iff_ne, beq_eq_false_iff_ne, bne_eq_false_iff_eq, Bool.and_true, Bool.true_and, ne_eq] at hg1
   have hf := hf.setb 10 hg1r
   refine q0 hf hM [10] [{}, {}] (nw := [(12, eU ((nb : Nat) : Int)), (11, eU ((nm : Nat) : Int))]) (ob := [true = true, true = true]) (Ac rfl (Ao rfl)) ?_
   clear hf; intro a hf
   refine sxcallg hf rfl rfl rfl rfl rfl (g := 51) (vs := [uV ((nm : Nat) : Int), uV ((nb : Nat) : Int)]) (ob := []) (by as_aux_lemma => kernel_rfl) An enters51 (qmeets nm nb w1  (by first | assumption | exact maskI_lt64 (by assumption) | exact maskN_lt64 (by assumption) | decide) (by first | assumption | exact maskI_lt64 (by assumption) | exact maskN_lt64 (by assumption) | decide)) ?_
   clear hf; rintro _ w2 a ⟨rfl, hk⟩ hf
   have hM := hM.keepNn hk
   have hk0 := hk0.trans hk.nn
   clear hk
   refine q0 hf hM [] [{}, {}, {}] (nw := [(6, eB (!(!(nm &&& nb == 0))))]) (ob := [true = true]) (Ao rfl) ?_
   clear hf; intro a hf
   refine wpList_nil ?_
   refine hK2 _ _ ?_
   refine wp_ret ?_
   refine qr (fn := Tryd.f30) hf hM [] (l := [bV (!(!(nm &&& nb == 0)))]) (ob := []) An ?_
   show (bV (!(!(nm &&& nb == 0))) : Value) = .bool (fitsN nm na nb) ∧ Keep Nn w w2
   exact ⟨congrArg Value.bool (by simp_all [fitsN]), hk0⟩
 · have hg1 := hg1r
   try simp only [Bool.or_eq_true, Bool.and_eq_true, Bool.not_eq_true', Bool.not_eq_false', Bool.or_eq_false_iff, Bool.and_eq_false_iff, decide_eq_true_eq, decide_eq_false_iff_not, beq_iff_eq, bne_iff_ne, beq_eq_false_iff_ne, bne_eq_false_iff_eq, Bool.and_true, Bool.true_and, ne_eq] at hg1
   have hf := hf.setb 10 hg1r
   refine q0 hf hM [10] [{ g := .off }, { g := .off }] (nw := [(12, .val (undef)), (11, .val (undef))]) (ob := [false = !true, false = !true]) (Ac rfl (Ao rfl)) ?_
   clear hf; intro a hf
   refine q0 hf hM [] [{ g := .off }, { g := .off }, {}, {}] (nw := [(6, eB false)]) (ob := [false = !true, false = !true]) (Ac rfl (Ao rfl)) ?_
   clear hf; intro a hf
   refine wpList_nil ?_
   refine hK2 _ _ ?_
   refine wp_ret ?_
   refine qr (fn := Tryd.f30) hf hM [] (l := [bV false]) (ob := []) An ?_
   show (bV false : Value) = .bool (fitsN nm na nb) ∧ Keep Nn w w1
   exact ⟨congrArg Value.bool (by simp_all [fitsN]), hk0⟩

set_option maxRecDepth 10000 in
set_option maxHeartbeats 1600000 in
theorem qfits (E : Nat → Addr) (na nb : Nat) (av : Option Addr) (l : List V3) (c : Nat) (w : World) (hna : na < 2 ^ 64) (hnb : nb < 2 ^ 64) (hav : Arr w 3 av l.length c (flat fV l)) (hbav : l.length ≤ 1000000) (hkd : ∀ v ∈ l, 0 ≤ v.k ∧ v.k ≤ 9) (hG : Errs [0, 1, 2, 3, 4, 5, 6, 7, 8, 9] w 115 E) :
    Calls Tryd.prog 13 #[.agg #[uV ((na : Nat) : Int), uV ((nb : Nat) : Int)], .slice av l.length c] w (Ret fun v w' => v = bV (fitsN (maskN l) na nb) ∧ Keep Nn w w') := by
 refine sxenter (n := 12) (args := [.agg #[uV ((na : Nat) : Int), uV ((nb : Nat) : Int)], .slice av l.length c]) Tryd.func13 rfl rfl rfl fun a hf => ?_
 replace hf : Fr 12 [(0, .val (.agg #[uV ((na : Nat) : Int), uV ((nb : Nat) : Int)])), (1, eS av l.length c)] a := hf
 have hM : MemOk [] w := MemOk.nil w
 have hk0 : Keep Nn w w := Keep.refl _ _
 have hml := maskN_lt64 hkd
 refine wp_seq_k (fun K1 hK1 => ?_)
 refine wp_region_lit ?_
 refine q1 hf hM [1] [{ os := [.nw] }, {}] (nw := fun B1 => [(4, eB false), (2, eP B1 0)]) (M' := fun B1 => [⟨B1, 29, [uV ((na : Nat) : Int), uV ((nb : Nat) : Int)]⟩]) (ob := fun B1 => []) (fun B1 => An) ?_
 clear hf hM; intro a w1 B1 hf hM hB hk
 have hbB1 : w.heap.size ≤ B1 := by have := hk0.size; omega
 have hk0 := hk0.then hk (by intro i _ h; cases h)
 clear hk hB
 refine wpList_nil ?_
 refine hK1 _ _ ?_
 refine wp_seq_k (fun K2 hK2 => ?_)
 replace hM := hM.drew; replace hk0 := hk0.drew
 obtain ⟨C1, hC1i, hC1e⟩ := qcls fun w' => MemOk [⟨B1, 29, [uV ((na : Nat) : Int), uV ((nb : Nat) : Int)]⟩] w' ∧ Keep Nn w w' ∧ True
 refine sxdraw (C := C1) (.leaf [(0, true), (2, true), (3, true), (4, true), (5, true), (1, false), (6, false), (7, true)]) (by kernel_rfl) (by kernel_rfl) (by as_aux_lemma => kernel_rfl) rfl (by as_aux_lemma => kernel_rfl) (by kernel_rfl) (hC1i _ ⟨hM.sub (.cons_cons _ .slnil), hk0, trivial⟩) ?_
 refine sxleaf ?_
 have hC := (hC1i _ ⟨hM.sub (.cons_cons _ .slnil), hk0, trivial⟩)
 refine qd hf hC (fun w' h => (hC1e w' h).1) [4] [{}, {}, { os := [.ld 0 0] }, {}, { os := [.ld 0 1] }] (nw := [(10, eU ((nb : Nat) : Int)), (8, eU ((na : Nat) : Int)), (5, eS av l.length c)]) (ob := [Ad B1 0, Ad B1 1]) (Ac (ad _ _) (Ao (ad _ _))) ?_
 clear hf; intro a hf
 refine scstep rfl ?_
 refine sxcall hf rfl rfl rfl rfl (g := 29) (vs := [.slice av l.length c]) (ob := []) (by as_aux_lemma => kernel_rfl) An enters29 (smask E av l c w1.drew  (hav.keepNn hk0) (by first | omega | (simp; omega) | (simp; done) | exact Nat.le_trans (byKinds_len _ _) (by omega) | decide) (by assumption) (hG.keep hk0 (fun _ h => h))) ?_
 clear hf; rintro _ w2 a ⟨rfl, hk⟩ hf
 have hM := hM.keepNn hk
 have hk0 := hk0.trans hk.nn
 clear hk
 have hC := (hC1i _ ⟨hM.sub (.cons_cons _ .slnil), hk0, trivial⟩)
 refine scdone hC ?_
 refine scstep rfl ?_
 refine sxcall hf rfl rfl rfl rfl (g := 30) (vs := [uV (((maskN l) : Nat) : Int), uV ((na : Nat) : Int), uV ((nb : Nat) : Int)]) (ob := []) (by as_aux_lemma => kernel_rfl) An enters30 (qmfits (maskN l) na nb w2  (by first | assumption | exact maskI_lt64 (by assumption) | exact maskN_lt64 (by assumption) | decide) (by first | assumption | exact maskI_lt64 (by assumption) | exact maskN_lt64 (by assumption) | decide) (by first | assumption | exact maskI_lt64 (by assumption) | exact maskN_lt64 (by assumption) | decide)) ?_
 clear hf; rintro _ w3 a ⟨rfl, hk⟩ hf
 have hM := hM.keepNn hk
 have hk0 := hk0.trans hk.nn
 clear hk
 have hC := (hC1i _ ⟨hM.sub (.cons_cons _ .slnil), hk0, trivial⟩)
 refine scdone hC ?_
 refine qd hf hC (fun w' h => (hC1e w' h).1) [] [{}] (nw := [(4, eB (fitsN (maskN l) na nb))]) An ?_
 clear hf; intro a hf
 clear hC
 show K2 _ _
 refine hK2 _ _ ?_
 refine wp_ret ?_
 refine qr (fn := Tryd.f13) hf hM [] (l := [bV (fitsN (maskN l) na nb)]) (ob := []) An ?_
 show (bV (fitsN (maskN l) na nb) : Value) = bV (fitsN (maskN l) na nb) ∧ Keep Nn w w3
 exact ⟨rfl, hk0⟩

set_option maxRecDepth 10000 in
set_option maxHeartbeats 1600000 in
theorem rfits (na nb : Nat) (av : Option Addr) (l : List V3) (c : Nat) (w : World) (hna : na < 2 ^ 64) (hnb : nb < 2 ^ 64) (hav : Arr w 3 av l.length c (flat fV l)) (hbav : l.length ≤ 1000000) (hkd : ∀ v ∈ l, 0 ≤ v.k ∧ v.k ≤ 9) :
    Calls Tryd.prog 14 #[.slice av l.length c, uV ((na : Nat) : Int), uV ((nb : Nat) : Int)] w (Ret fun v w' => v = bV (fitsN (maskN l) na nb) ∧ Keep Nn w w') := by
 refine sxenter (n := 15) (args := [.slice av l.length c, uV ((na : Nat) : Int), uV ((nb : Nat) : Int)]) Tryd.func14 rfl rfl rfl fun a hf => ?_
 replace hf : Fr 15 [(0, eS av l.length c), (1, eU ((na : Nat) : Int)), (2, eU ((nb : Nat) : Int))] a := hf
 have hM : MemOk [] w := MemOk.nil w
 have hk0 : Keep Nn w w := Keep.refl _ _
 have hml := maskN_lt64 hkd
 refine wp_seq_k (fun K1 hK1 => ?_)
 refine wp_region_lit ?_
 refine q0 hf hM [0, 1, 2] [{}] (nw := []) An ?_
 clear hf; intro a hf
 refine wpList_nil ?_
 refine hK1 _ _ ?_
 refine wp_seq_k (fun K2 hK2 => ?_)
 refine wp_region_lit ?_
 refine q0 hf hM [1, 2] [{}] (nw := [(7, eS av l.length c)]) An ?_
 clear hf; intro a hf
 refine sxcall hf rfl rfl rfl rfl (g := 32) (vs := [.slice av l.length c]) (ob := []) (by as_aux_lemma => kernel_rfl) An enters32 (rmask av l c w  (hav.keepNn hk0) (by first | omega | (simp; omega) | (simp; done) | exact Nat.le_trans (byKinds_len _ _) (by omega) | decide) (by assumption)) ?_
 clear hf; rintro _ w1 a ⟨rfl, hk⟩ hf
 have hM := hM.keepNn hk
 have hk0 := hk0.trans hk.nn
 clear hk
 refine sxcall hf rfl rfl rfl rfl (g := 31) (vs := [uV (((maskN l) : Nat) : Int)]) (ob := []) (by as_aux_lemma => kernel_rfl) An enters31 (bfrom (maskN l) w1  (by first | assumption | exact maskN_lt64 (by assumption))) ?_
 clear hf; rintro _ w2 a ⟨rfl, hk⟩ hf
 have hM := hM.keepNn hk
 have hk0 := hk0.trans hk.nn
 clear hk
 refine q0 hf hM [9, 2] [{}] (nw := [(10, eU ((na : Nat) : Int))]) An ?_
 clear hf; intro a hf
 refine sxcall hf rfl rfl rfl rfl (g := 31) (vs := [uV ((na : Nat) : Int)]) (ob := []) (by as_aux_lemma => kernel_rfl) An enters31 (bfrom na w2  (by first | assumption | exact maskN_lt64 (by assumption))) ?_
 clear hf; rintro _ w3 a ⟨rfl, hk⟩ hf
 have hM := hM.keepNn hk
 have hk0 := hk0.trans hk.nn
 clear hk
 refine q0 hf hM [11, 9] [{}] (nw := [(12, eU ((nb : Nat) : Int))]) An ?_
 clear hf; intro a hf
 refine sxcall hf rfl rfl rfl rfl (g := 31) (vs := [uV ((nb : Nat) : Int)]) (ob := []) (by as_aux_lemma => kernel_rfl) An enters31 (bfrom nb w3  (by first | assumption | exact maskN_lt64 (by assumption))) ?_
 clear hf; rintro _ w4 a ⟨rfl, hk⟩ hf
 have hM := hM.keepNn hk
 have hk0 := hk0.trans hk.nn
 clear hk
 refine sxcall hf rfl rfl rfl rfl (g := 33) (vs := [.agg (flat fB (bitsN (maskN l))).toArray, .agg (flat fB (bitsN na)).toArray, .agg (flat fB (bitsN nb)).toArray]) (ob := []) (by as_aux_lemma => kernel_rfl) An enters33 (bfits (bitsN (maskN l)) (bitsN na) (bitsN nb) w4  (bitsT_len _ _) (bitsT_len _ _) (bitsT_len _ _)) ?_
 clear hf; rintro _ w5 a ⟨rfl, hk⟩ hf
 have hM := hM.keepNn hk
 have hk0 := hk0.trans hk.nn
 clear hk
 refine q0 hf hM [] [{}] (nw := [(6, eB (fitsB (bitsN (maskN l)) (bitsN na) (bitsN nb)))]) An ?_
 clear hf; intro a hf
 refine wpList_nil ?_
 refine hK2 _ _ ?_
 refine wp_ret ?_
 refine qr (fn := Tryd.f14) hf hM [] (l := [bV (fitsB (bitsN (maskN l)) (bitsN na) (bitsN nb))]) (ob := []) An ?_
 show (bV (fitsB (bitsN (maskN l)) (bitsN na) (bitsN nb)) : Value) = bV (fitsN (maskN l) na nb) ∧ Keep Nn w w5
 exact ⟨congrArg Value.bool (fits_eq hml hna hnb), hk0⟩
end Go.Proofs.YtkcpadkllhgmdaaDoor
