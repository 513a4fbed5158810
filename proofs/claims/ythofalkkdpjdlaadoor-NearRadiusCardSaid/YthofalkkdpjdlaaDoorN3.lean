/- layers 1 and 13: distances -/
import Derived.Test.YthofalkkdpjdlaaDoorR2
import Derived.Test.YthofalkkdpjdlaaDoorXpD
namespace Go.Proofs.YthofalkkdpjdlaaDoor
open Go.Px
set_option linter.unusedVariables false
set_option linter.unusedSimpArgs false

def ofOk (px py hx hy : Int) : Bool := decide (-1048576 ≤ px ∧ px ≤ 1048576 ∧ -1048576 ≤ py ∧ py ≤ 1048576 ∧ 0 ≤ hx ∧ hx ≤ 1048576 ∧ 0 ≤ hy ∧ hy ≤ 1048576)

set_option maxRecDepth 10000 in
set_option maxHeartbeats 1600000 in
theorem plof_ok (E : Nat → Addr) (px py hx hy : Int) (w : World) (hn0 : (ofOk px py hx hy) = true) (hG : Errs [1, 3, 0] w 161 E) :
    Calls Tryd.prog 59 #[.agg #[iV px, iV py], .agg #[iV hx, iV hy]] w (Ret fun v w' => v = .tuple #[.agg #[iV (px - hx), iV (py - hy), iV (px + hx), iV (py + hy)], .nilIface] ∧ Keep Nn w w') := by
 refine sxenter (n := 66) (args := [.agg #[iV px, iV py], .agg #[iV hx, iV hy]]) Tryd.func59 rfl rfl rfl fun a hf => ?_
 replace hf : Fr 66 [(0, .val (.agg #[iV px, iV py])), (1, .val (.agg #[iV hx, iV hy]))] a := hf
 have hM : MemOk [] w := MemOk.nil w
 have hk0 : Keep Nn w w := Keep.refl _ _
 have hb := of_decide_eq_true hn0
 have h1 : within px 1048576 = true := by simp [within]; omega
 have h2 : within py 1048576 = true := by simp [within]; omega
 refine wp_seq_k (fun K1 hK1 => ?_)
 refine wp_region_lit ?_
 refine q1 hf hM [] [{ os := [.nw] }, { os := [.nw] }, { os := [.nw] }, {}] (nw := fun B1 => [(5, .val (.nilIface)), (4, eP (B1 + 2) 0), (3, eP (B1 + 1) 0), (2, eP B1 0)]) (M' := fun B1 => [⟨B1, 46, [iV px, iV py]⟩, ⟨B1 + 1, 46, [iV hx, iV hy]⟩, ⟨B1 + 2, 32, [iV 0, iV 0, iV 0, iV 0]⟩]) (ob := fun B1 => []) (fun B1 => An) ?_
 clear hf hM; intro a w1 B1 hf hM hB hk
 have hbB1 : w.heap.size ≤ B1 := by have := hk0.size; omega
 have hk0 := hk0.then hk (by intro i _ h; cases h)
 clear hk hB
 refine wpList_nil ?_
 refine hK1 _ _ ?_
 refine wp_seq_k (fun K2 hK2 => ?_)
 refine wp_seq_k (fun K3 hK3 => ?_)
 refine wp_region_lit ?_
 refine q0 hf hM [5, 4, 3, 2] [{}, { os := [.ld 0 0] }, {}, { os := [.ld 0 1] }] (nw := [(13, eI py), (11, eI px)]) (ob := [Ad B1 0, Ad B1 1]) (Ac (ad _ _) (Ao (ad _ _))) ?_
 clear hf; intro a hf
 refine sxbslice hf hM (t := 102) (e := 3) (len := 2) (cs := [iV px, iV py]) (ob := []) rfl rfl rfl rfl (by as_aux_lemma => kernel_rfl) An (by as_aux_lemma => kernel_rfl) ?_
 clear hf hM; intro a w2 B3 hf hM hB hk
 replace hM : MemOk [⟨B1, 46, [iV px, iV py]⟩, ⟨B1 + 1, 46, [iV hx, iV hy]⟩, ⟨B1 + 2, 32, [iV 0, iV 0, iV 0, iV 0]⟩, ⟨B3, 3, [iV px, iV py]⟩] w2 := hM
 have hbB3 : w.heap.size ≤ B3 := by have := hk0.size; omega
 have hk0 := hk0.trans hk.nn
 clear hk hB
 refine q0 hf hM [14, 5, 4, 3, 2] [{}, {}] (nw := [(16, eI 0), (15, eI 2)]) An ?_
 clear hf; intro a hf
 refine wpList_nil ?_
 refine hK3 _ _ ?_
 refine wp_block ?_
 refine wp_loop_rounds 3 ?_
 refine sxround (m := 2) fun L1 hL1 => ?_
 refine wp_seq_k (fun K4 hK4 => ?_)
 refine wp_region_lit ?_
 refine q0 hf hM [16, 15, 14, 5, 4, 3, 2] [{}] (nw := [(17, eB true)]) An ?_
 clear hf; intro a hf
 refine wpList_nil ?_
 refine hK4 _ _ ?_
 refine wp_seq_k (fun K5 hK5 => ?_)
 refine sxcond hf (b := true) (by kernel_rfl) (fun _ => ?_) (fun h => by cases h)
 refine wp_skip ?_
 refine hK5 _ _ ?_
 refine wp_seq_k (fun K6 hK6 => ?_)
 refine wp_block ?_
 refine wp_seq_k (fun K7 hK7 => ?_)
 refine wp_region_lit ?_
 refine q0 hf hM [16, 15, 14, 5, 4, 3, 2] [{ sp := true }, { os := [.ld 3 0] }, {}] (nw := [(7, eI px)]) (ob := [(0 : Int) ≤ 0 ∧ (0 : Int) < (2 : Int), (some ⟨B3, 0, none⟩ : Option Addr).isSome = true, Ad B3 0]) (Ac (by omega) (Ac rfl (Ao (ad _ _)))) ?_
 clear hf; intro a hf
 refine wpList_nil ?_
 refine hK7 _ _ ?_
 refine wp_seq_k (fun K8 hK8 => ?_)
 refine wp_region_lit ?_
 refine q0 hf hM [16, 15, 14, 5, 4, 3, 2] [{}] (nw := [(20, eI px)]) An ?_
 clear hf; intro a hf
 refine sxcall hf rfl rfl rfl rfl (g := 75) (vs := [iV px, iV 1048576]) (ob := []) (by as_aux_lemma => kernel_rfl) An enters75 (within_any px 1048576 w2  (by omega)) ?_
 clear hf; rintro _ w3 a ⟨rfl, hk⟩ hf
 have hM := hM.keepNn hk
 have hk0 := hk0.trans hk.nn
 clear hk
 refine q0 hf hM [16, 15, 14, 5, 4, 3, 2] [{}] (nw := [(22, eB (!(within px 1048576)))]) An ?_
 clear hf; intro a hf
 refine wpList_nil ?_
 refine hK8 _ _ ?_
 refine sxcond hf (b := !(within px 1048576)) (by kernel_rfl) (fun h => absurd (h.symm.trans ((congrArg Bool.not h1).trans rfl : (!(within px 1048576) : Bool) = false)) (by simp)) (fun _ => ?_)
 refine wp_skip ?_
 refine hK6 _ _ ?_
 refine wp_region_lit ?_
 refine q0 hf hM [15, 14, 5, 4, 3, 2] [{}, {}] (nw := [(16, eI 1)]) An ?_
 clear hf; intro a hf
 refine wpList_nil ?_
 refine hL1 _ _ ?_
 refine sxround (m := 1) fun L2 hL2 => ?_
 refine wp_seq_k (fun K9 hK9 => ?_)
 refine wp_region_lit ?_
 refine q0 hf hM [16, 15, 14, 5, 4, 3, 2] [{}] (nw := [(17, eB true)]) An ?_
 clear hf; intro a hf
 refine wpList_nil ?_
 refine hK9 _ _ ?_
 refine wp_seq_k (fun K10 hK10 => ?_)
 refine sxcond hf (b := true) (by kernel_rfl) (fun _ => ?_) (fun h => by cases h)
 refine wp_skip ?_
 refine hK10 _ _ ?_
 refine wp_seq_k (fun K11 hK11 => ?_)
 refine wp_block ?_
 refine wp_seq_k (fun K12 hK12 => ?_)
 refine wp_region_lit ?_
 refine q0 hf hM [16, 15, 14, 5, 4, 3, 2] [{ sp := true }, { os := [.ld 3 1] }, {}] (nw := [(7, eI py)]) (ob := [(0 : Int) ≤ 1 ∧ (1 : Int) < (2 : Int), (some ⟨B3, 0, none⟩ : Option Addr).isSome = true, Ad B3 1]) (Ac (by omega) (Ac rfl (Ao (ad _ _)))) ?_
 clear hf; intro a hf
 refine wpList_nil ?_
 refine hK12 _ _ ?_
 refine wp_seq_k (fun K13 hK13 => ?_)
 refine wp_region_lit ?_
 refine q0 hf hM [16, 15, 14, 5, 4, 3, 2] [{}] (nw := [(20, eI py)]) An ?_
 clear hf; intro a hf
 refine sxcall hf rfl rfl rfl rfl (g := 75) (vs := [iV py, iV 1048576]) (ob := []) (by as_aux_lemma => kernel_rfl) An enters75 (within_any py 1048576 w3  (by omega)) ?_
 clear hf; rintro _ w4 a ⟨rfl, hk⟩ hf
 have hM := hM.keepNn hk
 have hk0 := hk0.trans hk.nn
 clear hk
 refine q0 hf hM [16, 15, 14, 5, 4, 3, 2] [{}] (nw := [(22, eB (!(within py 1048576)))]) An ?_
 clear hf; intro a hf
 refine wpList_nil ?_
 refine hK13 _ _ ?_
 refine sxcond hf (b := !(within py 1048576)) (by kernel_rfl) (fun h => absurd (h.symm.trans ((congrArg Bool.not h2).trans rfl : (!(within py 1048576) : Bool) = false)) (by simp)) (fun _ => ?_)
 refine wp_skip ?_
 refine hK11 _ _ ?_
 refine wp_region_lit ?_
 refine q0 hf hM [15, 14, 5, 4, 3, 2] [{}, {}] (nw := [(16, eI 2)]) An ?_
 clear hf; intro a hf
 refine wpList_nil ?_
 refine hL2 _ _ ?_
 refine sxround (m := 0) fun L3 hL3 => ?_
 refine wp_seq_k (fun K14 hK14 => ?_)
 refine wp_region_lit ?_
 refine q0 hf hM [16, 15, 14, 5, 4, 3, 2] [{}] (nw := [(17, eB false)]) An ?_
 clear hf; intro a hf
 refine wpList_nil ?_
 refine hK14 _ _ ?_
 refine wp_seq_k (fun K15 hK15 => ?_)
 refine sxcond hf (b := false) (by kernel_rfl) (fun h => by cases h) (fun _ => ?_)
 refine wp_exit ?_
 refine hK2 _ _ ?_
 refine wp_seq_k (fun K16 hK16 => ?_)
 refine wp_seq_k (fun K17 hK17 => ?_)
 refine wp_region_lit ?_
 refine q0 hf hM [5, 4, 3, 2] [{}, { os := [.ld 1 0] }, {}, { os := [.ld 1 1] }] (nw := [(29, eI hy), (27, eI hx)]) (ob := [Ad (B1 + 1) 0, Ad (B1 + 1) 1]) (Ac (ad _ _) (Ao (ad _ _))) ?_
 clear hf; intro a hf
 refine sxbslice hf hM (t := 102) (e := 3) (len := 2) (cs := [iV hx, iV hy]) (ob := []) rfl rfl rfl rfl (by as_aux_lemma => kernel_rfl) An (by as_aux_lemma => kernel_rfl) ?_
 clear hf hM; intro a w5 B17 hf hM hB hk
 replace hM : MemOk [⟨B1, 46, [iV px, iV py]⟩, ⟨B1 + 1, 46, [iV hx, iV hy]⟩, ⟨B1 + 2, 32, [iV 0, iV 0, iV 0, iV 0]⟩, ⟨B3, 3, [iV px, iV py]⟩, ⟨B17, 3, [iV hx, iV hy]⟩] w5 := hM
 have hbB17 : w.heap.size ≤ B17 := by have := hk0.size; omega
 have hk0 := hk0.trans hk.nn
 clear hk hB
 refine q0 hf hM [30, 5, 4, 3, 2] [{}, {}] (nw := [(32, eI 0), (31, eI 2)]) An ?_
 clear hf; intro a hf
 refine wpList_nil ?_
 refine hK17 _ _ ?_
 refine wp_block ?_
 refine wp_loop_rounds 3 ?_
 refine sxround (m := 2) fun L4 hL4 => ?_
 refine wp_seq_k (fun K18 hK18 => ?_)
 refine wp_region_lit ?_
 refine q0 hf hM [32, 31, 30, 5, 4, 3, 2] [{}] (nw := [(33, eB true)]) An ?_
 clear hf; intro a hf
 refine wpList_nil ?_
 refine hK18 _ _ ?_
 refine wp_seq_k (fun K19 hK19 => ?_)
 refine sxcond hf (b := true) (by kernel_rfl) (fun _ => ?_) (fun h => by cases h)
 refine wp_skip ?_
 refine hK19 _ _ ?_
 refine wp_seq_k (fun K20 hK20 => ?_)
 refine wp_block ?_
 refine wp_seq_k (fun K21 hK21 => ?_)
 refine wp_region_lit ?_
 refine q0 hf hM [32, 31, 30, 5, 4, 3, 2] [{ sp := true }, { os := [.ld 4 0] }, {}] (nw := [(9, eI hx)]) (ob := [(0 : Int) ≤ 0 ∧ (0 : Int) < (2 : Int), (some ⟨B17, 0, none⟩ : Option Addr).isSome = true, Ad B17 0]) (Ac (by omega) (Ac rfl (Ao (ad _ _)))) ?_
 clear hf; intro a hf
 refine wpList_nil ?_
 refine hK21 _ _ ?_
 refine wp_seq_k (fun K22 hK22 => ?_)
 refine wp_region_lit ?_
 refine q0 hf hM [32, 31, 30, 5, 4, 3, 2] [{}, {}, {}, { g := .sym }, { g := .sym }, { hint := some (bV ((decide ((hx : Int) < 0)) || (decide ((hx : Int) > 1048576)))) }] (nw := [(41, eB ((decide ((hx : Int) < 0)) || (decide ((hx : Int) > 1048576)))), (40, .gd (decide ((hx : Int) < 0)) false (bV (decide ((hx : Int) > 1048576)))), (39, .gd (decide ((hx : Int) < 0)) false (iV hx))]) (ob := [((decide ((hx : Int) < 0)) = false → (decide ((hx : Int) < 0)) = (decide ((hx : Int) < 0))), ((decide ((hx : Int) < 0)) = false → (decide ((hx : Int) < 0)) = (decide ((hx : Int) < 0))), (bif (decide ((hx : Int) < 0)) then (bV true : Value) else bV (decide ((hx : Int) > 1048576))) = .bool ((decide ((hx : Int) < 0)) || (decide ((hx : Int) > 1048576)))]) (Ac (fun hgd => rfl) (Ac (fun _ => rfl) (Ao (pick_or _ _)))) ?_
 clear hf; intro a hf
 refine wpList_nil ?_
 refine hK22 _ _ ?_
 refine qc hf (b := ((decide ((hx : Int) < 0)) || (decide ((hx : Int) > 1048576)))) (fun hc7r => ?_) (fun hc7r => ?_)
 · have hc7 := hc7r
   try simp only [Bool.or_eq_true, Bool.and_eq_true, Bool.not_eq_true', Bool.not_eq_false', Bool.or_eq_false_iff, Bool.and_eq_false_iff, decide_eq_true_eq, decide_eq_false_iff_not, beq_iff_eq, bne_iff_ne, beq_eq_false_iff_ne, bne_eq_false_iff_eq, Bool.and_true, Bool.true_and, ne_eq] at hc7
   exfalso; omega
 · have hc7 := hc7r
   try simp only [Bool.or_eq_true, Bool.and_eq_true, Bool.not_eq_true', Bool.not_eq_false', Bool.or_eq_false_iff, Bool.and_eq_false_iff, decide_eq_true_eq, decide_eq_false_iff_not, beq_iff_eq, bne_iff_ne, beq_eq_false_iff_ne, bne_eq_false_iff_eq, Bool.and_true, Bool.true_and, ne_eq] at hc7
   refine wp_skip ?_
   refine hK20 _ _ ?_
   refine wp_region_lit ?_
   refine q0 hf hM [40, 39, 31, 30, 5, 4, 3, 2] [{}, {}] (nw := [(32, eI 1)]) An ?_
   clear hf; intro a hf
   refine wpList_nil ?_
   refine hL4 _ _ ?_
   refine sxround (m := 1) fun L5 hL5 => ?_
   refine wp_seq_k (fun K23 hK23 => ?_)
   refine wp_region_lit ?_
   refine q0 hf hM [32, 40, 39, 31, 30, 5, 4, 3, 2] [{}] (nw := [(33, eB true)]) An ?_
   clear hf; intro a hf
   refine wpList_nil ?_
   refine hK23 _ _ ?_
   refine wp_seq_k (fun K24 hK24 => ?_)
   refine sxcond hf (b := true) (by kernel_rfl) (fun _ => ?_) (fun h => by cases h)
   refine wp_skip ?_
   refine hK24 _ _ ?_
   refine wp_seq_k (fun K25 hK25 => ?_)
   refine wp_block ?_
   refine wp_seq_k (fun K26 hK26 => ?_)
   refine wp_region_lit ?_
   refine q0 hf hM [32, 40, 39, 31, 30, 5, 4, 3, 2] [{ sp := true }, { os := [.ld 4 1] }, {}] (nw := [(9, eI hy)]) (ob := [(0 : Int) ≤ 1 ∧ (1 : Int) < (2 : Int), (some ⟨B17, 0, none⟩ : Option Addr).isSome = true, Ad B17 1]) (Ac (by omega) (Ac rfl (Ao (ad _ _)))) ?_
   clear hf; intro a hf
   refine wpList_nil ?_
   refine hK26 _ _ ?_
   refine wp_seq_k (fun K27 hK27 => ?_)
   refine wp_region_lit ?_
   refine q0 hf hM [32, 31, 30, 5, 4, 3, 2] [{}, {}, {}, { g := .sym }, { g := .sym }, { hint := some (bV ((decide ((hy : Int) < 0)) || (decide ((hy : Int) > 1048576)))) }] (nw := [(41, eB ((decide ((hy : Int) < 0)) || (decide ((hy : Int) > 1048576)))), (40, .gd (decide ((hy : Int) < 0)) false (bV (decide ((hy : Int) > 1048576)))), (39, .gd (decide ((hy : Int) < 0)) false (iV hy))]) (ob := [((decide ((hy : Int) < 0)) = false → (decide ((hy : Int) < 0)) = (decide ((hy : Int) < 0))), ((decide ((hy : Int) < 0)) = false → (decide ((hy : Int) < 0)) = (decide ((hy : Int) < 0))), (bif (decide ((hy : Int) < 0)) then (bV true : Value) else bV (decide ((hy : Int) > 1048576))) = .bool ((decide ((hy : Int) < 0)) || (decide ((hy : Int) > 1048576)))]) (Ac (fun hgd => rfl) (Ac (fun _ => rfl) (Ao (pick_or _ _)))) ?_
   clear hf; intro a hf
   refine wpList_nil ?_
   refine hK27 _ _ ?_
   refine qc hf (b := ((decide ((hy : Int) < 0)) || (decide ((hy : Int) > 1048576)))) (fun hc9r => ?_) (fun hc9r => ?_)
   · have hc9 := hc9r
     try simp only [Bool.or_eq_true, Bool.and_eq_true, Bool.not_eq_true', Bool.not_eq_false', Bool.or_eq_false_iff, Bool.and_eq_false_iff, decide_eq_true_eq, decide_eq_false_iff_not, beq_iff_eq, bne_iff_ne, beq_eq_false_iff_ne, bne_eq_false_iff_eq, Bool.and_true, Bool.true_and, ne_eq] at hc9
     exfalso; omega
   · have hc9 := hc9r
     try simp only [Bool.or_eq_true, Bool.and_eq_true, Bool.not_eq_true', Bool.not_eq_false', Bool.or_eq_false_iff, Bool.and_eq_false_iff, decide_eq_true_eq, decide_eq_false_iff_not, beq_iff_eq, bne_iff_ne, beq_eq_false_iff_ne, bne_eq_false_iff_eq, Bool.and_true, Bool.true_and, ne_eq] at hc9
     refine wp_skip ?_
     refine hK25 _ _ ?_
     refine wp_region_lit ?_
     refine q0 hf hM [40, 39, 31, 30, 5, 4, 3, 2] [{}, {}] (nw := [(32, eI 2)]) An ?_
     clear hf; intro a hf
     refine wpList_nil ?_
     refine hL5 _ _ ?_
     refine sxround (m := 0) fun L6 hL6 => ?_
     refine wp_seq_k (fun K28 hK28 => ?_)
     refine wp_region_lit ?_
     refine q0 hf hM [32, 40, 39, 31, 30, 5, 4, 3, 2] [{}] (nw := [(33, eB false)]) An ?_
     clear hf; intro a hf
     refine wpList_nil ?_
     refine hK28 _ _ ?_
     refine wp_seq_k (fun K29 hK29 => ?_)
     refine sxcond hf (b := false) (by kernel_rfl) (fun h => by cases h) (fun _ => ?_)
     refine wp_exit ?_
     refine hK16 _ _ ?_
     refine wp_seq_k (fun K30 hK30 => ?_)
     refine wp_region_lit ?_
     refine q1 hf hM [5, 4] [{}, { os := [.ld 0 0] }, {}, { os := [.ld 1 0] }, { hint := some (iV (px - hx)) }, {}, { os := [.ld 0 1] }, {}, { os := [.ld 1 1] }, { hint := some (iV (py - hy)) }, {}, { os := [.ld 0 0] }, {}, { os := [.ld 1 0] }, { hint := some (iV (px + hx)) }, {}, { os := [.ld 0 1] }, {}, { os := [.ld 1 1] }, { hint := some (iV (py + hy)) }, { sp := true }, { os := [.st 2 0, .st 2 1, .st 2 2, .st 2 3] }, {}] (nw := fun B28 => []) (M' := fun B28 => [⟨B1, 46, [iV px, iV py]⟩, ⟨B1 + 1, 46, [iV hx, iV hy]⟩, ⟨B1 + 2, 32, [iV (px - hx), iV (py - hy), iV (px + hx), iV (py + hy)]⟩, ⟨B3, 3, [iV px, iV py]⟩, ⟨B17, 3, [iV hx, iV hy]⟩]) (ob := fun B28 => [Ad B1 0, Ad (B1 + 1) 0, (iV (IntKind.i64.wrap (px - hx)) : Value) = (iV (px - hx) : Value), Ad B1 1, Ad (B1 + 1) 1, (iV (IntKind.i64.wrap (py - hy)) : Value) = (iV (py - hy) : Value), Ad B1 0, Ad (B1 + 1) 0, (iV (IntKind.i64.wrap (px + hx)) : Value) = (iV (px + hx) : Value), Ad B1 1, Ad (B1 + 1) 1, (iV (IntKind.i64.wrap (py + hy)) : Value) = (iV (py + hy) : Value), Ad (B1 + 2) 0, Ad (B1 + 2) 1, Ad (B1 + 2) 2, Ad (B1 + 2) 3]) (fun B28 => (Ac (ad _ _) (Ac (ad _ _) (Ac (wr (by omega)) (Ac (ad _ _) (Ac (ad _ _) (Ac (wr (by omega)) (Ac (ad _ _) (Ac (ad _ _) (Ac (wr (by omega)) (Ac (ad _ _) (Ac (ad _ _) (Ac (wr (by omega)) (Ac (ad _ _) (Ac (ad _ _) (Ac (ad _ _) (Ao (ad _ _)))))))))))))))))) ?_
     clear hf hM; intro a w6 B28 hf hM hB hk
     have hbB28 : w.heap.size ≤ B28 := by have := hk0.size; omega
     have hk0 := hk0.thenNew hk (by simp [Mem.names] <;> omega)
     clear hk hB
     refine wpList_nil ?_
     refine hK30 _ _ ?_
     refine wp_ret ?_
     refine qr (fn := Tryd.f59) hf hM [.ld 2 0, .ld 2 1, .ld 2 2, .ld 2 3] (l := [.agg #[iV (px - hx), iV (py - hy), iV (px + hx), iV (py + hy)], .nilIface]) (ob := [Ad (B1 + 2) 0, Ad (B1 + 2) 1, Ad (B1 + 2) 2, Ad (B1 + 2) 3]) (Ac (ad _ _) (Ac (ad _ _) (Ac (ad _ _) (Ao (ad _ _))))) ?_
     show (.tuple #[.agg #[iV (px - hx), iV (py - hy), iV (px + hx), iV (py + hy)], .nilIface] : Value) = .tuple #[.agg #[iV (px - hx), iV (py - hy), iV (px + hx), iV (py + hy)], .nilIface] ∧ Keep Nn w w6
     exact ⟨rfl, hk0⟩

set_option maxRecDepth 10000 in
set_option maxHeartbeats 1600000 in
theorem plof_no (E : Nat → Addr) (px py hx hy : Int) (w : World) (hn0 : (ofOk px py hx hy) = false) (hG : Errs [1, 3, 0] w 161 E) :
    Calls Tryd.prog 59 #[.agg #[iV px, iV py], .agg #[iV hx, iV hy]] w (Ret fun v w' => v = .tuple #[.agg #[iV 0, iV 0, iV 0, iV 0], .iface 161 (.pointer (some (E 1)))] ∧ Keep Nn w w') := by
 refine sxenter (n := 66) (args := [.agg #[iV px, iV py], .agg #[iV hx, iV hy]]) Tryd.func59 rfl rfl rfl fun a hf => ?_
 replace hf : Fr 66 [(0, .val (.agg #[iV px, iV py])), (1, .val (.agg #[iV hx, iV hy]))] a := hf
 have hM : MemOk [] w := MemOk.nil w
 have hk0 : Keep Nn w w := Keep.refl _ _
 refine wp_seq_k (fun K1 hK1 => ?_)
 refine wp_region_lit ?_
 refine q1 hf hM [] [{ os := [.nw] }, { os := [.nw] }, { os := [.nw] }, {}] (nw := fun B1 => [(5, .val (.nilIface)), (4, eP (B1 + 2) 0), (3, eP (B1 + 1) 0), (2, eP B1 0)]) (M' := fun B1 => [⟨B1, 46, [iV px, iV py]⟩, ⟨B1 + 1, 46, [iV hx, iV hy]⟩, ⟨B1 + 2, 32, [iV 0, iV 0, iV 0, iV 0]⟩]) (ob := fun B1 => []) (fun B1 => An) ?_
 clear hf hM; intro a w1 B1 hf hM hB hk
 have hbB1 : w.heap.size ≤ B1 := by have := hk0.size; omega
 have hk0 := hk0.then hk (by intro i _ h; cases h)
 clear hk hB
 refine wpList_nil ?_
 refine hK1 _ _ ?_
 refine wp_seq_k (fun K2 hK2 => ?_)
 refine wp_seq_k (fun K3 hK3 => ?_)
 refine wp_region_lit ?_
 refine q0 hf hM [5, 4, 3, 2] [{}, { os := [.ld 0 0] }, {}, { os := [.ld 0 1] }] (nw := [(13, eI py), (11, eI px)]) (ob := [Ad B1 0, Ad B1 1]) (Ac (ad _ _) (Ao (ad _ _))) ?_
 clear hf; intro a hf
 refine sxbslice hf hM (t := 102) (e := 3) (len := 2) (cs := [iV px, iV py]) (ob := []) rfl rfl rfl rfl (by as_aux_lemma => kernel_rfl) An (by as_aux_lemma => kernel_rfl) ?_
 clear hf hM; intro a w2 B3 hf hM hB hk
 replace hM : MemOk [⟨B1, 46, [iV px, iV py]⟩, ⟨B1 + 1, 46, [iV hx, iV hy]⟩, ⟨B1 + 2, 32, [iV 0, iV 0, iV 0, iV 0]⟩, ⟨B3, 3, [iV px, iV py]⟩] w2 := hM
 have hbB3 : w.heap.size ≤ B3 := by have := hk0.size; omega
 have hk0 := hk0.trans hk.nn
 clear hk hB
 refine q0 hf hM [14, 5, 4, 3, 2] [{}, {}] (nw := [(16, eI 0), (15, eI 2)]) An ?_
 clear hf; intro a hf
 refine wpList_nil ?_
 refine hK3 _ _ ?_
 refine wp_block ?_
 refine wp_loop_rounds 3 ?_
 refine sxround (m := 2) fun L1 hL1 => ?_
 refine wp_seq_k (fun K4 hK4 => ?_)
 refine wp_region_lit ?_
 refine q0 hf hM [16, 15, 14, 5, 4, 3, 2] [{}] (nw := [(17, eB true)]) An ?_
 clear hf; intro a hf
 refine wpList_nil ?_
 refine hK4 _ _ ?_
 refine wp_seq_k (fun K5 hK5 => ?_)
 refine sxcond hf (b := true) (by kernel_rfl) (fun _ => ?_) (fun h => by cases h)
 refine wp_skip ?_
 refine hK5 _ _ ?_
 refine wp_seq_k (fun K6 hK6 => ?_)
 refine wp_block ?_
 refine wp_seq_k (fun K7 hK7 => ?_)
 refine wp_region_lit ?_
 refine q0 hf hM [16, 15, 14, 5, 4, 3, 2] [{ sp := true }, { os := [.ld 3 0] }, {}] (nw := [(7, eI px)]) (ob := [(0 : Int) ≤ 0 ∧ (0 : Int) < (2 : Int), (some ⟨B3, 0, none⟩ : Option Addr).isSome = true, Ad B3 0]) (Ac (by omega) (Ac rfl (Ao (ad _ _)))) ?_
 clear hf; intro a hf
 refine wpList_nil ?_
 refine hK7 _ _ ?_
 refine wp_seq_k (fun K8 hK8 => ?_)
 refine wp_region_lit ?_
 refine q0 hf hM [16, 15, 14, 5, 4, 3, 2] [{}] (nw := [(20, eI px)]) An ?_
 clear hf; intro a hf
 refine sxcall hf rfl rfl rfl rfl (g := 75) (vs := [iV px, iV 1048576]) (ob := []) (by as_aux_lemma => kernel_rfl) An enters75 (within_any px 1048576 w2  (by omega)) ?_
 clear hf; rintro _ w3 a ⟨rfl, hk⟩ hf
 have hM := hM.keepNn hk
 have hk0 := hk0.trans hk.nn
 clear hk
 refine q0 hf hM [16, 15, 14, 5, 4, 3, 2] [{}] (nw := [(22, eB (!(within px 1048576)))]) An ?_
 clear hf; intro a hf
 refine wpList_nil ?_
 refine hK8 _ _ ?_
 refine qc hf (b := !(within px 1048576)) (fun hc2r => ?_) (fun hc2r => ?_)
 · have hc2 := hc2r
   try simp only [Bool.or_eq_true, Bool.and_eq_true, Bool.not_eq_true', Bool.not_eq_false', Bool.or_eq_false_iff, Bool.and_eq_false_iff, decide_eq_true_eq, decide_eq_false_iff_not, beq_iff_eq, bne_iff_ne, beq_eq_false_iff_ne, bne_eq_false_iff_eq, Bool.and_true, Bool.true_and, ne_eq] at hc2
   refine wp_seq_k (fun K9 hK9 => ?_)
   replace hM := hM.drew; replace hk0 := hk0.drew
   obtain ⟨Cq1, hCq1i, hCq1e⟩ := qcls fun w' => MemOk [⟨B1, 46, [iV px, iV py]⟩, ⟨B1 + 1, 46, [iV hx, iV hy]⟩, ⟨B3, 3, [iV px, iV py]⟩] w' ∧ Keep Nn w w' ∧ True
   refine sxdraw (C := Cq1) (.leaf [(0, true), (1, true), (2, false), (3, true)]) (by kernel_rfl) (by kernel_rfl) (by as_aux_lemma => kernel_rfl) rfl (by as_aux_lemma => kernel_rfl) (by kernel_rfl) (hCq1i _ ⟨hM.sub (.cons_cons _ (.cons_cons _ (.cons _ (.cons_cons _ .slnil)))), hk0, trivial⟩) ?_
   refine sxleaf ?_
   have hC := (hCq1i _ ⟨hM.sub (.cons_cons _ (.cons_cons _ (.cons _ (.cons_cons _ .slnil)))), hk0, trivial⟩)
   refine qd hf hC (fun w' h => (hCq1e w' h).1) [5, 4] [{ sp := true }, { os := [.ex (.iface 161 (.pointer (some (E 1))))] }] (nw := [(24, .val (.iface 161 (.pointer (some (E 1))))), (23, .val (.agg #[iV 0, iV 0, iV 0, iV 0]))]) (ob := [(∀ w', Cq1 w' → w'.cell? ⟨1, 0, none⟩ = some (.iface 161 (.pointer (some (E 1)))))]) (Ao (fun w' hc => by obtain ⟨hM, hk0, hO⟩ := hCq1e w' hc; exact (hk0.cell (hG.cell 1 (by decide)) (fun h => h)))) ?_
   clear hf; intro a hf
   refine scstep rfl ?_
   have hMs : MemOk [⟨B1 + 2, 32, [iV 0, iV 0, iV 0, iV 0]⟩] w3.drew := hM.sub (.cons _ (.cons _ (.cons_cons _ (.cons _ .slnil))))
   refine q1 hf hMs [24, 5, 4] [{ os := [.st 0 0, .st 0 1, .st 0 2, .st 0 3] }] (nw := fun B9 => []) (M' := fun B9 => [⟨B1 + 2, 32, [iV 0, iV 0, iV 0, iV 0]⟩]) (ob := fun B9 => [Ad (B1 + 2) 0, Ad (B1 + 2) 1, Ad (B1 + 2) 2, Ad (B1 + 2) 3]) (fun B9 => (Ac (ad _ _) (Ac (ad _ _) (Ac (ad _ _) (Ao (ad _ _)))))) ?_
   clear hf hMs; intro a w4 B9 hf hMs hB hk; clear hB
   have hM : MemOk [⟨B1, 46, [iV px, iV py]⟩, ⟨B1 + 1, 46, [iV hx, iV hy]⟩, ⟨B1 + 2, 32, [iV 0, iV 0, iV 0, iV 0]⟩, ⟨B3, 3, [iV px, iV py]⟩] w4 := MemOk.upd (M1 := [⟨B1, 46, [iV px, iV py]⟩, ⟨B1 + 1, 46, [iV hx, iV hy]⟩]) (M2 := [⟨B3, 3, [iV px, iV py]⟩]) hM hk hMs rfl
   have hk0 := hk0.thenNew hk (by simp [Mem.names] <;> omega)
   clear hk hMs
   have hC := (hCq1i _ ⟨hM.sub (.cons_cons _ (.cons_cons _ (.cons _ (.cons_cons _ .slnil)))), hk0, trivial⟩)
   refine scdone hC ?_
   refine qd hf hC (fun w' h => (hCq1e w' h).1) [4] [{}] (nw := [(5, .val (.iface 161 (.pointer (some (E 1)))))]) An ?_
   clear hf; intro a hf
   clear hC
   show K9 _ _
   refine hK9 _ _ ?_
   refine wp_ret ?_
   refine qr (fn := Tryd.f59) hf hM [.ld 2 0, .ld 2 1, .ld 2 2, .ld 2 3] (l := [.agg #[iV 0, iV 0, iV 0, iV 0], .iface 161 (.pointer (some (E 1)))]) (ob := [Ad (B1 + 2) 0, Ad (B1 + 2) 1, Ad (B1 + 2) 2, Ad (B1 + 2) 3]) (Ac (ad _ _) (Ac (ad _ _) (Ac (ad _ _) (Ao (ad _ _))))) ?_
   show (.tuple #[.agg #[iV 0, iV 0, iV 0, iV 0], .iface 161 (.pointer (some (E 1)))] : Value) = .tuple #[.agg #[iV 0, iV 0, iV 0, iV 0], .iface 161 (.pointer (some (E 1)))] ∧ Keep Nn w w4
   exact ⟨rfl, hk0⟩
 · have hc2 := hc2r
   try simp only [Bool.or_eq_true, Bool.and_eq_true, Bool.not_eq_true', Bool.not_eq_false', Bool.or_eq_false_iff, Bool.and_eq_false_iff, decide_eq_true_eq, decide_eq_false_iff_not, beq_iff_eq, bne_iff_ne, beq_eq_false_iff_ne, bne_eq_false_iff_eq, Bool.and_true, Bool.true_and, ne_eq] at hc2
   refine wp_skip ?_
   refine hK6 _ _ ?_
   refine wp_region_lit ?_
   refine q0 hf hM [15, 14, 5, 4, 3, 2] [{}, {}] (nw := [(16, eI 1)]) An ?_
   clear hf; intro a hf
   refine wpList_nil ?_
   refine hL1 _ _ ?_
   refine sxround (m := 1) fun L2 hL2 => ?_
   refine wp_seq_k (fun K10 hK10 => ?_)
   refine wp_region_lit ?_
   refine q0 hf hM [16, 15, 14, 5, 4, 3, 2] [{}] (nw := [(17, eB true)]) An ?_
   clear hf; intro a hf
   refine wpList_nil ?_
   refine hK10 _ _ ?_
   refine wp_seq_k (fun K11 hK11 => ?_)
   refine sxcond hf (b := true) (by kernel_rfl) (fun _ => ?_) (fun h => by cases h)
   refine wp_skip ?_
   refine hK11 _ _ ?_
   refine wp_seq_k (fun K12 hK12 => ?_)
   refine wp_block ?_
   refine wp_seq_k (fun K13 hK13 => ?_)
   refine wp_region_lit ?_
   refine q0 hf hM [16, 15, 14, 5, 4, 3, 2] [{ sp := true }, { os := [.ld 3 1] }, {}] (nw := [(7, eI py)]) (ob := [(0 : Int) ≤ 1 ∧ (1 : Int) < (2 : Int), (some ⟨B3, 0, none⟩ : Option Addr).isSome = true, Ad B3 1]) (Ac (by omega) (Ac rfl (Ao (ad _ _)))) ?_
   clear hf; intro a hf
   refine wpList_nil ?_
   refine hK13 _ _ ?_
   refine wp_seq_k (fun K14 hK14 => ?_)
   refine wp_region_lit ?_
   refine q0 hf hM [16, 15, 14, 5, 4, 3, 2] [{}] (nw := [(20, eI py)]) An ?_
   clear hf; intro a hf
   refine sxcall hf rfl rfl rfl rfl (g := 75) (vs := [iV py, iV 1048576]) (ob := []) (by as_aux_lemma => kernel_rfl) An enters75 (within_any py 1048576 w3  (by omega)) ?_
   clear hf; rintro _ w5 a ⟨rfl, hk⟩ hf
   have hM := hM.keepNn hk
   have hk0 := hk0.trans hk.nn
   clear hk
   refine q0 hf hM [16, 15, 14, 5, 4, 3, 2] [{}] (nw := [(22, eB (!(within py 1048576)))]) An ?_
   clear hf; intro a hf
   refine wpList_nil ?_
   refine hK14 _ _ ?_
   refine qc hf (b := !(within py 1048576)) (fun hc4r => ?_) (fun hc4r => ?_)
   · have hc4 := hc4r
     try simp only [Bool.or_eq_true, Bool.and_eq_true, Bool.not_eq_true', Bool.not_eq_false', Bool.or_eq_false_iff, Bool.and_eq_false_iff, decide_eq_true_eq, decide_eq_false_iff_not, beq_iff_eq, bne_iff_ne, beq_eq_false_iff_ne, bne_eq_false_iff_eq, Bool.and_true, Bool.true_and, ne_eq] at hc4
     refine wp_seq_k (fun K15 hK15 => ?_)
     replace hM := hM.drew; replace hk0 := hk0.drew
     obtain ⟨Cq2, hCq2i, hCq2e⟩ := qcls fun w' => MemOk [⟨B1, 46, [iV px, iV py]⟩, ⟨B1 + 1, 46, [iV hx, iV hy]⟩, ⟨B3, 3, [iV px, iV py]⟩] w' ∧ Keep Nn w w' ∧ True
     refine sxdraw (C := Cq2) (.leaf [(0, true), (1, true), (2, false), (3, true)]) (by kernel_rfl) (by kernel_rfl) (by as_aux_lemma => kernel_rfl) rfl (by as_aux_lemma => kernel_rfl) (by kernel_rfl) (hCq2i _ ⟨hM.sub (.cons_cons _ (.cons_cons _ (.cons _ (.cons_cons _ .slnil)))), hk0, trivial⟩) ?_
     refine sxleaf ?_
     have hC := (hCq2i _ ⟨hM.sub (.cons_cons _ (.cons_cons _ (.cons _ (.cons_cons _ .slnil)))), hk0, trivial⟩)
     refine qd hf hC (fun w' h => (hCq2e w' h).1) [5, 4] [{ sp := true }, { os := [.ex (.iface 161 (.pointer (some (E 1))))] }] (nw := [(24, .val (.iface 161 (.pointer (some (E 1))))), (23, .val (.agg #[iV 0, iV 0, iV 0, iV 0]))]) (ob := [(∀ w', Cq2 w' → w'.cell? ⟨1, 0, none⟩ = some (.iface 161 (.pointer (some (E 1)))))]) (Ao (fun w' hc => by obtain ⟨hM, hk0, hO⟩ := hCq2e w' hc; exact (hk0.cell (hG.cell 1 (by decide)) (fun h => h)))) ?_
     clear hf; intro a hf
     refine scstep rfl ?_
     have hMs : MemOk [⟨B1 + 2, 32, [iV 0, iV 0, iV 0, iV 0]⟩] w5.drew := hM.sub (.cons _ (.cons _ (.cons_cons _ (.cons _ .slnil))))
     refine q1 hf hMs [24, 5, 4] [{ os := [.st 0 0, .st 0 1, .st 0 2, .st 0 3] }] (nw := fun B15 => []) (M' := fun B15 => [⟨B1 + 2, 32, [iV 0, iV 0, iV 0, iV 0]⟩]) (ob := fun B15 => [Ad (B1 + 2) 0, Ad (B1 + 2) 1, Ad (B1 + 2) 2, Ad (B1 + 2) 3]) (fun B15 => (Ac (ad _ _) (Ac (ad _ _) (Ac (ad _ _) (Ao (ad _ _)))))) ?_
     clear hf hMs; intro a w6 B15 hf hMs hB hk; clear hB
     have hM : MemOk [⟨B1, 46, [iV px, iV py]⟩, ⟨B1 + 1, 46, [iV hx, iV hy]⟩, ⟨B1 + 2, 32, [iV 0, iV 0, iV 0, iV 0]⟩, ⟨B3, 3, [iV px, iV py]⟩] w6 := MemOk.upd (M1 := [⟨B1, 46, [iV px, iV py]⟩, ⟨B1 + 1, 46, [iV hx, iV hy]⟩]) (M2 := [⟨B3, 3, [iV px, iV py]⟩]) hM hk hMs rfl
     have hk0 := hk0.thenNew hk (by simp [Mem.names] <;> omega)
     clear hk hMs
     have hC := (hCq2i _ ⟨hM.sub (.cons_cons _ (.cons_cons _ (.cons _ (.cons_cons _ .slnil)))), hk0, trivial⟩)
     refine scdone hC ?_
     refine qd hf hC (fun w' h => (hCq2e w' h).1) [4] [{}] (nw := [(5, .val (.iface 161 (.pointer (some (E 1)))))]) An ?_
     clear hf; intro a hf
     clear hC
     show K15 _ _
     refine hK15 _ _ ?_
     refine wp_ret ?_
     refine qr (fn := Tryd.f59) hf hM [.ld 2 0, .ld 2 1, .ld 2 2, .ld 2 3] (l := [.agg #[iV 0, iV 0, iV 0, iV 0], .iface 161 (.pointer (some (E 1)))]) (ob := [Ad (B1 + 2) 0, Ad (B1 + 2) 1, Ad (B1 + 2) 2, Ad (B1 + 2) 3]) (Ac (ad _ _) (Ac (ad _ _) (Ac (ad _ _) (Ao (ad _ _))))) ?_
     show (.tuple #[.agg #[iV 0, iV 0, iV 0, iV 0], .iface 161 (.pointer (some (E 1)))] : Value) = .tuple #[.agg #[iV 0, iV 0, iV 0, iV 0], .iface 161 (.pointer (some (E 1)))] ∧ Keep Nn w w6
     exact ⟨rfl, hk0⟩
   · have hc4 := hc4r
     try simp only [Bool.or_eq_true, Bool.and_eq_true, Bool.not_eq_true', Bool.not_eq_false', Bool.or_eq_false_iff, Bool.and_eq_false_iff, decide_eq_true_eq, decide_eq_false_iff_not, beq_iff_eq, bne_iff_ne, beq_eq_false_iff_ne, bne_eq_false_iff_eq, Bool.and_true, Bool.true_and, ne_eq] at hc4
     refine wp_skip ?_
     refine hK12 _ _ ?_
     refine wp_region_lit ?_
     refine q0 hf hM [15, 14, 5, 4, 3, 2] [{}, {}] (nw := [(16, eI 2)]) An ?_
     clear hf; intro a hf
     refine wpList_nil ?_
     refine hL2 _ _ ?_
     refine sxround (m := 0) fun L3 hL3 => ?_
     refine wp_seq_k (fun K16 hK16 => ?_)
     refine wp_region_lit ?_
     refine q0 hf hM [16, 15, 14, 5, 4, 3, 2] [{}] (nw := [(17, eB false)]) An ?_
     clear hf; intro a hf
     refine wpList_nil ?_
     refine hK16 _ _ ?_
     refine wp_seq_k (fun K17 hK17 => ?_)
     refine sxcond hf (b := false) (by kernel_rfl) (fun h => by cases h) (fun _ => ?_)
     refine wp_exit ?_
     refine hK2 _ _ ?_
     refine wp_seq_k (fun K18 hK18 => ?_)
     refine wp_seq_k (fun K19 hK19 => ?_)
     refine wp_region_lit ?_
     refine q0 hf hM [5, 4, 3, 2] [{}, { os := [.ld 1 0] }, {}, { os := [.ld 1 1] }] (nw := [(29, eI hy), (27, eI hx)]) (ob := [Ad (B1 + 1) 0, Ad (B1 + 1) 1]) (Ac (ad _ _) (Ao (ad _ _))) ?_
     clear hf; intro a hf
     refine sxbslice hf hM (t := 102) (e := 3) (len := 2) (cs := [iV hx, iV hy]) (ob := []) rfl rfl rfl rfl (by as_aux_lemma => kernel_rfl) An (by as_aux_lemma => kernel_rfl) ?_
     clear hf hM; intro a w7 B19 hf hM hB hk
     replace hM : MemOk [⟨B1, 46, [iV px, iV py]⟩, ⟨B1 + 1, 46, [iV hx, iV hy]⟩, ⟨B1 + 2, 32, [iV 0, iV 0, iV 0, iV 0]⟩, ⟨B3, 3, [iV px, iV py]⟩, ⟨B19, 3, [iV hx, iV hy]⟩] w7 := hM
     have hbB19 : w.heap.size ≤ B19 := by have := hk0.size; omega
     have hk0 := hk0.trans hk.nn
     clear hk hB
     refine q0 hf hM [30, 5, 4, 3, 2] [{}, {}] (nw := [(32, eI 0), (31, eI 2)]) An ?_
     clear hf; intro a hf
     refine wpList_nil ?_
     refine hK19 _ _ ?_
     refine wp_block ?_
     refine wp_loop_rounds 3 ?_
     refine sxround (m := 2) fun L4 hL4 => ?_
     refine wp_seq_k (fun K20 hK20 => ?_)
     refine wp_region_lit ?_
     refine q0 hf hM [32, 31, 30, 5, 4, 3, 2] [{}] (nw := [(33, eB true)]) An ?_
     clear hf; intro a hf
     refine wpList_nil ?_
     refine hK20 _ _ ?_
     refine wp_seq_k (fun K21 hK21 => ?_)
     refine sxcond hf (b := true) (by kernel_rfl) (fun _ => ?_) (fun h => by cases h)
     refine wp_skip ?_
     refine hK21 _ _ ?_
     refine wp_seq_k (fun K22 hK22 => ?_)
     refine wp_block ?_
     refine wp_seq_k (fun K23 hK23 => ?_)
     refine wp_region_lit ?_
     refine q0 hf hM [32, 31, 30, 5, 4, 3, 2] [{ sp := true }, { os := [.ld 4 0] }, {}] (nw := [(9, eI hx)]) (ob := [(0 : Int) ≤ 0 ∧ (0 : Int) < (2 : Int), (some ⟨B19, 0, none⟩ : Option Addr).isSome = true, Ad B19 0]) (Ac (by omega) (Ac rfl (Ao (ad _ _)))) ?_
     clear hf; intro a hf
     refine wpList_nil ?_
     refine hK23 _ _ ?_
     refine wp_seq_k (fun K24 hK24 => ?_)
     refine wp_region_lit ?_
     refine q0 hf hM [32, 31, 30, 5, 4, 3, 2] [{}, {}, {}, { g := .sym }, { g := .sym }, { hint := some (bV ((decide ((hx : Int) < 0)) || (decide ((hx : Int) > 1048576)))) }] (nw := [(41, eB ((decide ((hx : Int) < 0)) || (decide ((hx : Int) > 1048576)))), (40, .gd (decide ((hx : Int) < 0)) false (bV (decide ((hx : Int) > 1048576)))), (39, .gd (decide ((hx : Int) < 0)) false (iV hx))]) (ob := [((decide ((hx : Int) < 0)) = false → (decide ((hx : Int) < 0)) = (decide ((hx : Int) < 0))), ((decide ((hx : Int) < 0)) = false → (decide ((hx : Int) < 0)) = (decide ((hx : Int) < 0))), (bif (decide ((hx : Int) < 0)) then (bV true : Value) else bV (decide ((hx : Int) > 1048576))) = .bool ((decide ((hx : Int) < 0)) || (decide ((hx : Int) > 1048576)))]) (Ac (fun hgd => rfl) (Ac (fun _ => rfl) (Ao (pick_or _ _)))) ?_
     clear hf; intro a hf
     refine wpList_nil ?_
     refine hK24 _ _ ?_
     refine qc hf (b := ((decide ((hx : Int) < 0)) || (decide ((hx : Int) > 1048576)))) (fun hc7r => ?_) (fun hc7r => ?_)
     · have hc7 := hc7r
       try simp only [Bool.or_eq_true, Bool.and_eq_true, Bool.not_eq_true', Bool.not_eq_false', Bool.or_eq_false_iff, Bool.and_eq_false_iff, decide_eq_true_eq, decide_eq_false_iff_not, beq_iff_eq, bne_iff_ne, beq_eq_false_iff_ne, bne_eq_false_iff_eq, Bool.and_true, Bool.true_and, ne_eq] at hc7
       refine wp_seq_k (fun K25 hK25 => ?_)
       replace hM := hM.drew; replace hk0 := hk0.drew
       obtain ⟨Cq3, hCq3i, hCq3e⟩ := qcls fun w' => MemOk [⟨B1, 46, [iV px, iV py]⟩, ⟨B1 + 1, 46, [iV hx, iV hy]⟩, ⟨B3, 3, [iV px, iV py]⟩, ⟨B19, 3, [iV hx, iV hy]⟩] w' ∧ Keep Nn w w' ∧ True
       refine sxdraw (C := Cq3) (.leaf [(0, true), (1, true), (2, false), (3, true)]) (by kernel_rfl) (by kernel_rfl) (by as_aux_lemma => kernel_rfl) rfl (by as_aux_lemma => kernel_rfl) (by kernel_rfl) (hCq3i _ ⟨hM.sub (.cons_cons _ (.cons_cons _ (.cons _ (.cons_cons _ (.cons_cons _ .slnil))))), hk0, trivial⟩) ?_
       refine sxleaf ?_
       have hC := (hCq3i _ ⟨hM.sub (.cons_cons _ (.cons_cons _ (.cons _ (.cons_cons _ (.cons_cons _ .slnil))))), hk0, trivial⟩)
       refine qd hf hC (fun w' h => (hCq3e w' h).1) [5, 4] [{ sp := true }, { os := [.ex (.iface 161 (.pointer (some (E 1))))] }] (nw := [(43, .val (.iface 161 (.pointer (some (E 1))))), (42, .val (.agg #[iV 0, iV 0, iV 0, iV 0]))]) (ob := [(∀ w', Cq3 w' → w'.cell? ⟨1, 0, none⟩ = some (.iface 161 (.pointer (some (E 1)))))]) (Ao (fun w' hc => by obtain ⟨hM, hk0, hO⟩ := hCq3e w' hc; exact (hk0.cell (hG.cell 1 (by decide)) (fun h => h)))) ?_
       clear hf; intro a hf
       refine scstep rfl ?_
       have hMs : MemOk [⟨B1 + 2, 32, [iV 0, iV 0, iV 0, iV 0]⟩] w7.drew := hM.sub (.cons _ (.cons _ (.cons_cons _ (.cons _ (.cons _ .slnil)))))
       refine q1 hf hMs [43, 5, 4] [{ os := [.st 0 0, .st 0 1, .st 0 2, .st 0 3] }] (nw := fun B24 => []) (M' := fun B24 => [⟨B1 + 2, 32, [iV 0, iV 0, iV 0, iV 0]⟩]) (ob := fun B24 => [Ad (B1 + 2) 0, Ad (B1 + 2) 1, Ad (B1 + 2) 2, Ad (B1 + 2) 3]) (fun B24 => (Ac (ad _ _) (Ac (ad _ _) (Ac (ad _ _) (Ao (ad _ _)))))) ?_
       clear hf hMs; intro a w8 B24 hf hMs hB hk; clear hB
       have hM : MemOk [⟨B1, 46, [iV px, iV py]⟩, ⟨B1 + 1, 46, [iV hx, iV hy]⟩, ⟨B1 + 2, 32, [iV 0, iV 0, iV 0, iV 0]⟩, ⟨B3, 3, [iV px, iV py]⟩, ⟨B19, 3, [iV hx, iV hy]⟩] w8 := MemOk.upd (M1 := [⟨B1, 46, [iV px, iV py]⟩, ⟨B1 + 1, 46, [iV hx, iV hy]⟩]) (M2 := [⟨B3, 3, [iV px, iV py]⟩, ⟨B19, 3, [iV hx, iV hy]⟩]) hM hk hMs rfl
       have hk0 := hk0.thenNew hk (by simp [Mem.names] <;> omega)
       clear hk hMs
       have hC := (hCq3i _ ⟨hM.sub (.cons_cons _ (.cons_cons _ (.cons _ (.cons_cons _ (.cons_cons _ .slnil))))), hk0, trivial⟩)
       refine scdone hC ?_
       refine qd hf hC (fun w' h => (hCq3e w' h).1) [4] [{}] (nw := [(5, .val (.iface 161 (.pointer (some (E 1)))))]) An ?_
       clear hf; intro a hf
       clear hC
       show K25 _ _
       refine hK25 _ _ ?_
       refine wp_ret ?_
       refine qr (fn := Tryd.f59) hf hM [.ld 2 0, .ld 2 1, .ld 2 2, .ld 2 3] (l := [.agg #[iV 0, iV 0, iV 0, iV 0], .iface 161 (.pointer (some (E 1)))]) (ob := [Ad (B1 + 2) 0, Ad (B1 + 2) 1, Ad (B1 + 2) 2, Ad (B1 + 2) 3]) (Ac (ad _ _) (Ac (ad _ _) (Ac (ad _ _) (Ao (ad _ _))))) ?_
       show (.tuple #[.agg #[iV 0, iV 0, iV 0, iV 0], .iface 161 (.pointer (some (E 1)))] : Value) = .tuple #[.agg #[iV 0, iV 0, iV 0, iV 0], .iface 161 (.pointer (some (E 1)))] ∧ Keep Nn w w8
       exact ⟨rfl, hk0⟩
     · have hc7 := hc7r
       try simp only [Bool.or_eq_true, Bool.and_eq_true, Bool.not_eq_true', Bool.not_eq_false', Bool.or_eq_false_iff, Bool.and_eq_false_iff, decide_eq_true_eq, decide_eq_false_iff_not, beq_iff_eq, bne_iff_ne, beq_eq_false_iff_ne, bne_eq_false_iff_eq, Bool.and_true, Bool.true_and, ne_eq] at hc7
       refine wp_skip ?_
       refine hK22 _ _ ?_
       refine wp_region_lit ?_
       refine q0 hf hM [40, 39, 31, 30, 5, 4, 3, 2] [{}, {}] (nw := [(32, eI 1)]) An ?_
       clear hf; intro a hf
       refine wpList_nil ?_
       refine hL4 _ _ ?_
       refine sxround (m := 1) fun L5 hL5 => ?_
       refine wp_seq_k (fun K26 hK26 => ?_)
       refine wp_region_lit ?_
       refine q0 hf hM [32, 40, 39, 31, 30, 5, 4, 3, 2] [{}] (nw := [(33, eB true)]) An ?_
       clear hf; intro a hf
       refine wpList_nil ?_
       refine hK26 _ _ ?_
       refine wp_seq_k (fun K27 hK27 => ?_)
       refine sxcond hf (b := true) (by kernel_rfl) (fun _ => ?_) (fun h => by cases h)
       refine wp_skip ?_
       refine hK27 _ _ ?_
       refine wp_seq_k (fun K28 hK28 => ?_)
       refine wp_block ?_
       refine wp_seq_k (fun K29 hK29 => ?_)
       refine wp_region_lit ?_
       refine q0 hf hM [32, 40, 39, 31, 30, 5, 4, 3, 2] [{ sp := true }, { os := [.ld 4 1] }, {}] (nw := [(9, eI hy)]) (ob := [(0 : Int) ≤ 1 ∧ (1 : Int) < (2 : Int), (some ⟨B19, 0, none⟩ : Option Addr).isSome = true, Ad B19 1]) (Ac (by omega) (Ac rfl (Ao (ad _ _)))) ?_
       clear hf; intro a hf
       refine wpList_nil ?_
       refine hK29 _ _ ?_
       refine wp_seq_k (fun K30 hK30 => ?_)
       refine wp_region_lit ?_
       refine q0 hf hM [32, 31, 30, 5, 4, 3, 2] [{}, {}, {}, { g := .sym }, { g := .sym }, { hint := some (bV ((decide ((hy : Int) < 0)) || (decide ((hy : Int) > 1048576)))) }] (nw := [(41, eB ((decide ((hy : Int) < 0)) || (decide ((hy : Int) > 1048576)))), (40, .gd (decide ((hy : Int) < 0)) false (bV (decide ((hy : Int) > 1048576)))), (39, .gd (decide ((hy : Int) < 0)) false (iV hy))]) (ob := [((decide ((hy : Int) < 0)) = false → (decide ((hy : Int) < 0)) = (decide ((hy : Int) < 0))), ((decide ((hy : Int) < 0)) = false → (decide ((hy : Int) < 0)) = (decide ((hy : Int) < 0))), (bif (decide ((hy : Int) < 0)) then (bV true : Value) else bV (decide ((hy : Int) > 1048576))) = .bool ((decide ((hy : Int) < 0)) || (decide ((hy : Int) > 1048576)))]) (Ac (fun hgd => rfl) (Ac (fun _ => rfl) (Ao (pick_or _ _)))) ?_
       clear hf; intro a hf
       refine wpList_nil ?_
       refine hK30 _ _ ?_
       refine qc hf (b := ((decide ((hy : Int) < 0)) || (decide ((hy : Int) > 1048576)))) (fun hc9r => ?_) (fun hc9r => ?_)
       · have hc9 := hc9r
         try simp only [Bool.or_eq_true, Bool.and_eq_true, Bool.not_eq_true', Bool.not_eq_false', Bool.or_eq_false_iff, Bool.and_eq_false_iff, decide_eq_true_eq, decide_eq_false_iff_not, beq_iff_eq, bne_iff_ne, beq_eq_false_iff_ne, bne_eq_false_iff_eq, Bool.and_true, Bool.true_and, ne_eq] at hc9
         refine wp_seq_k (fun K31 hK31 => ?_)
         replace hM := hM.drew; replace hk0 := hk0.drew
         obtain ⟨Cq4, hCq4i, hCq4e⟩ := qcls fun w' => MemOk [⟨B1, 46, [iV px, iV py]⟩, ⟨B1 + 1, 46, [iV hx, iV hy]⟩, ⟨B3, 3, [iV px, iV py]⟩, ⟨B19, 3, [iV hx, iV hy]⟩] w' ∧ Keep Nn w w' ∧ True
         refine sxdraw (C := Cq4) (.leaf [(0, true), (1, true), (2, false), (3, true)]) (by kernel_rfl) (by kernel_rfl) (by as_aux_lemma => kernel_rfl) rfl (by as_aux_lemma => kernel_rfl) (by kernel_rfl) (hCq4i _ ⟨hM.sub (.cons_cons _ (.cons_cons _ (.cons _ (.cons_cons _ (.cons_cons _ .slnil))))), hk0, trivial⟩) ?_
         refine sxleaf ?_
         have hC := (hCq4i _ ⟨hM.sub (.cons_cons _ (.cons_cons _ (.cons _ (.cons_cons _ (.cons_cons _ .slnil))))), hk0, trivial⟩)
         refine qd hf hC (fun w' h => (hCq4e w' h).1) [5, 4] [{ sp := true }, { os := [.ex (.iface 161 (.pointer (some (E 1))))] }] (nw := [(43, .val (.iface 161 (.pointer (some (E 1))))), (42, .val (.agg #[iV 0, iV 0, iV 0, iV 0]))]) (ob := [(∀ w', Cq4 w' → w'.cell? ⟨1, 0, none⟩ = some (.iface 161 (.pointer (some (E 1)))))]) (Ao (fun w' hc => by obtain ⟨hM, hk0, hO⟩ := hCq4e w' hc; exact (hk0.cell (hG.cell 1 (by decide)) (fun h => h)))) ?_
         clear hf; intro a hf
         refine scstep rfl ?_
         have hMs : MemOk [⟨B1 + 2, 32, [iV 0, iV 0, iV 0, iV 0]⟩] w7.drew := hM.sub (.cons _ (.cons _ (.cons_cons _ (.cons _ (.cons _ .slnil)))))
         refine q1 hf hMs [43, 5, 4] [{ os := [.st 0 0, .st 0 1, .st 0 2, .st 0 3] }] (nw := fun B29 => []) (M' := fun B29 => [⟨B1 + 2, 32, [iV 0, iV 0, iV 0, iV 0]⟩]) (ob := fun B29 => [Ad (B1 + 2) 0, Ad (B1 + 2) 1, Ad (B1 + 2) 2, Ad (B1 + 2) 3]) (fun B29 => (Ac (ad _ _) (Ac (ad _ _) (Ac (ad _ _) (Ao (ad _ _)))))) ?_
         clear hf hMs; intro a w9 B29 hf hMs hB hk; clear hB
         have hM : MemOk [⟨B1, 46, [iV px, iV py]⟩, ⟨B1 + 1, 46, [iV hx, iV hy]⟩, ⟨B1 + 2, 32, [iV 0, iV 0, iV 0, iV 0]⟩, ⟨B3, 3, [iV px, iV py]⟩, ⟨B19, 3, [iV hx, iV hy]⟩] w9 := MemOk.upd (M1 := [⟨B1, 46, [iV px, iV py]⟩, ⟨B1 + 1, 46, [iV hx, iV hy]⟩]) (M2 := [⟨B3, 3, [iV px, iV py]⟩, ⟨B19, 3, [iV hx, iV hy]⟩]) hM hk hMs rfl
         have hk0 := hk0.thenNew hk (by simp [Mem.names] <;> omega)
         clear hk hMs
         have hC := (hCq4i _ ⟨hM.sub (.cons_cons _ (.cons_cons _ (.cons _ (.cons_cons _ (.cons_cons _ .slnil))))), hk0, trivial⟩)
         refine scdone hC ?_
         refine qd hf hC (fun w' h => (hCq4e w' h).1) [4] [{}] (nw := [(5, .val (.iface 161 (.pointer (some (E 1)))))]) An ?_
         clear hf; intro a hf
         clear hC
         show K31 _ _
         refine hK31 _ _ ?_
         refine wp_ret ?_
         refine qr (fn := Tryd.f59) hf hM [.ld 2 0, .ld 2 1, .ld 2 2, .ld 2 3] (l := [.agg #[iV 0, iV 0, iV 0, iV 0], .iface 161 (.pointer (some (E 1)))]) (ob := [Ad (B1 + 2) 0, Ad (B1 + 2) 1, Ad (B1 + 2) 2, Ad (B1 + 2) 3]) (Ac (ad _ _) (Ac (ad _ _) (Ac (ad _ _) (Ao (ad _ _))))) ?_
         show (.tuple #[.agg #[iV 0, iV 0, iV 0, iV 0], .iface 161 (.pointer (some (E 1)))] : Value) = .tuple #[.agg #[iV 0, iV 0, iV 0, iV 0], .iface 161 (.pointer (some (E 1)))] ∧ Keep Nn w w9
         exact ⟨rfl, hk0⟩
       · have hc9 := hc9r
         try simp only [Bool.or_eq_true, Bool.and_eq_true, Bool.not_eq_true', Bool.not_eq_false', Bool.or_eq_false_iff, Bool.and_eq_false_iff, decide_eq_true_eq, decide_eq_false_iff_not, beq_iff_eq, bne_iff_ne, beq_eq_false_iff_ne, bne_eq_false_iff_eq, Bool.and_true, Bool.true_and, ne_eq] at hc9
         refine wp_skip ?_
         refine hK28 _ _ ?_
         refine wp_region_lit ?_
         refine q0 hf hM [40, 39, 31, 30, 5, 4, 3, 2] [{}, {}] (nw := [(32, eI 2)]) An ?_
         clear hf; intro a hf
         refine wpList_nil ?_
         refine hL5 _ _ ?_
         refine sxround (m := 0) fun L6 hL6 => ?_
         refine wp_seq_k (fun K32 hK32 => ?_)
         refine wp_region_lit ?_
         refine q0 hf hM [32, 40, 39, 31, 30, 5, 4, 3, 2] [{}] (nw := [(33, eB false)]) An ?_
         clear hf; intro a hf
         refine wpList_nil ?_
         refine hK32 _ _ ?_
         refine wp_seq_k (fun K33 hK33 => ?_)
         refine sxcond hf (b := false) (by kernel_rfl) (fun h => by cases h) (fun _ => ?_)
         refine wp_exit ?_
         refine hK18 _ _ ?_
         refine wp_seq_k (fun K34 hK34 => ?_)
         refine wp_region_lit ?_
         refine q1 hf hM [5, 4] [{}, { os := [.ld 0 0] }, {}, { os := [.ld 1 0] }, {}, {}, { os := [.ld 0 1] }, {}, { os := [.ld 1 1] }, {}, {}, { os := [.ld 0 0] }, {}, { os := [.ld 1 0] }, {}, {}, { os := [.ld 0 1] }, {}, { os := [.ld 1 1] }, {}, { sp := true }, { os := [.st 2 0, .st 2 1, .st 2 2, .st 2 3] }, {}] (nw := fun B32 => []) (M' := fun B32 => [⟨B1, 46, [iV px, iV py]⟩, ⟨B1 + 1, 46, [iV hx, iV hy]⟩, ⟨B1 + 2, 32, [iV (IntKind.i64.wrap (px - hx)), iV (IntKind.i64.wrap (py - hy)), iV (IntKind.i64.wrap (px + hx)), iV (IntKind.i64.wrap (py + hy))]⟩, ⟨B3, 3, [iV px, iV py]⟩, ⟨B19, 3, [iV hx, iV hy]⟩]) (ob := fun B32 => [Ad B1 0, Ad (B1 + 1) 0, Ad B1 1, Ad (B1 + 1) 1, Ad B1 0, Ad (B1 + 1) 0, Ad B1 1, Ad (B1 + 1) 1, Ad (B1 + 2) 0, Ad (B1 + 2) 1, Ad (B1 + 2) 2, Ad (B1 + 2) 3]) (fun B32 => (Ac (ad _ _) (Ac (ad _ _) (Ac (ad _ _) (Ac (ad _ _) (Ac (ad _ _) (Ac (ad _ _) (Ac (ad _ _) (Ac (ad _ _) (Ac (ad _ _) (Ac (ad _ _) (Ac (ad _ _) (Ao (ad _ _)))))))))))))) ?_
         clear hf hM; intro a w10 B32 hf hM hB hk
         have hbB32 : w.heap.size ≤ B32 := by have := hk0.size; omega
         have hk0 := hk0.thenNew hk (by simp [Mem.names] <;> omega)
         clear hk hB
         refine wpList_nil ?_
         refine hK34 _ _ ?_
         refine wp_ret ?_
         refine qr (fn := Tryd.f59) hf hM [.ld 2 0, .ld 2 1, .ld 2 2, .ld 2 3] (l := [.agg #[iV (IntKind.i64.wrap (px - hx)), iV (IntKind.i64.wrap (py - hy)), iV (IntKind.i64.wrap (px + hx)), iV (IntKind.i64.wrap (py + hy))], .nilIface]) (ob := [Ad (B1 + 2) 0, Ad (B1 + 2) 1, Ad (B1 + 2) 2, Ad (B1 + 2) 3]) (Ac (ad _ _) (Ac (ad _ _) (Ac (ad _ _) (Ao (ad _ _))))) ?_
         show (.tuple #[.agg #[iV (IntKind.i64.wrap (px - hx)), iV (IntKind.i64.wrap (py - hy)), iV (IntKind.i64.wrap (px + hx)), iV (IntKind.i64.wrap (py + hy))], .nilIface] : Value) = .tuple #[.agg #[iV 0, iV 0, iV 0, iV 0], .iface 161 (.pointer (some (E 1)))] ∧ Keep Nn w w10
         exfalso
         have hb := of_decide_eq_false hn0
         try simp only [within, decide_eq_true_eq] at hc2
         try simp only [within, decide_eq_true_eq] at hc4
         try simp only [within, decide_eq_true_eq] at hc7
         try simp only [within, decide_eq_true_eq] at hc9
         omega

set_option maxRecDepth 10000 in
set_option maxHeartbeats 1600000 in
theorem dist_ok (px py qx qy : Int) (w : World) (hn0 : (reach px py) = true) (hn1 : (reach qx qy) = true) :
    Calls Tryd.prog 62 #[.agg #[iV px, iV py], .agg #[iV qx, iV qy]] w (Ret fun v w' => v = .tuple #[.int .i64 (dist2 px py qx qy), .nilIface] ∧ Keep Nn w w') := by
 refine sxenter (n := 34) (args := [.agg #[iV px, iV py], .agg #[iV qx, iV qy]]) Tryd.func62 rfl rfl rfl fun a hf => ?_
 replace hf : Fr 34 [(0, .val (.agg #[iV px, iV py])), (1, .val (.agg #[iV qx, iV qy]))] a := hf
 have hM : MemOk [] w := MemOk.nil w
 have hk0 : Keep Nn w w := Keep.refl _ _
 have hr0 := of_decide_eq_true hn0
 have hr1 := of_decide_eq_true hn1
 refine wp_seq_k (fun K1 hK1 => ?_)
 refine wp_region_lit ?_
 refine q1 hf hM [] [{ os := [.nw] }, { os := [.nw] }, {}, {}] (nw := fun B1 => [(5, .val (.nilIface)), (4, eI 0), (3, eP (B1 + 1) 0), (2, eP B1 0)]) (M' := fun B1 => [⟨B1, 46, [iV px, iV py]⟩, ⟨B1 + 1, 46, [iV qx, iV qy]⟩]) (ob := fun B1 => []) (fun B1 => An) ?_
 clear hf hM; intro a w1 B1 hf hM hB hk
 have hbB1 : w.heap.size ≤ B1 := by have := hk0.size; omega
 have hk0 := hk0.then hk (by intro i _ h; cases h)
 clear hk hB
 refine wpList_nil ?_
 refine hK1 _ _ ?_
 refine wp_seq_k (fun K2 hK2 => ?_)
 refine wp_seq_k (fun K3 hK3 => ?_)
 refine wp_region_lit ?_
 refine q0 hf hM [5, 4, 3, 2] [{ os := [.ld 0 0, .ld 0 1] }] (nw := [(8, .val (.agg #[iV px, iV py]))]) (ob := [Ad B1 0, Ad B1 1]) (Ac (ad _ _) (Ao (ad _ _))) ?_
 clear hf; intro a hf
 refine sxcall hf rfl rfl rfl rfl (g := 74) (vs := [.agg #[iV px, iV py]]) (ob := []) (by as_aux_lemma => kernel_rfl) An enters74 (reach_any px py w1  ) ?_
 clear hf; rintro _ w2 a ⟨rfl, hk⟩ hf
 have hM := hM.keepNn hk
 have hk0 := hk0.trans hk.nn
 clear hk
 refine q0 hf hM [5, 4, 3, 2] [{}, {}] (nw := [(11, eB (!(reach px py)))]) An ?_
 clear hf; intro a hf
 have hf := hf.setb 11 ((congrArg Bool.not hn0).trans rfl : (!(reach px py) : Bool) = false)
 refine q0 hf hM [11, 5, 4, 3, 2] [{ os := [.ld 1 0, .ld 1 1] }] (nw := [(12, .val (.agg #[iV qx, iV qy]))]) (ob := [false = false, Ad (B1 + 1) 0, Ad (B1 + 1) 1]) (Ac rfl (Ac (ad _ _) (Ao (ad _ _)))) ?_
 clear hf; intro a hf
 refine sxcallg hf rfl rfl rfl rfl rfl (g := 74) (vs := [.agg #[iV qx, iV qy]]) (ob := []) (by as_aux_lemma => kernel_rfl) An enters74 (reach_any qx qy w2  ) ?_
 clear hf; rintro _ w3 a ⟨rfl, hk⟩ hf
 have hM := hM.keepNn hk
 have hk0 := hk0.trans hk.nn
 clear hk
 refine q0 hf hM [5, 4, 3, 2] [{}, {}] (nw := [(15, eB (!(reach qx qy)))]) (ob := [false = false]) (Ao rfl) ?_
 clear hf; intro a hf
 refine wpList_nil ?_
 refine hK3 _ _ ?_
 refine sxcond hf (b := !(reach qx qy)) (by kernel_rfl) (fun h => absurd (h.symm.trans ((congrArg Bool.not hn1).trans rfl : (!(reach qx qy) : Bool) = false)) (by simp)) (fun _ => ?_)
 refine wp_skip ?_
 refine hK2 _ _ ?_
 refine wp_seq_k (fun K4 hK4 => ?_)
 replace hM := hM.drew; replace hk0 := hk0.drew
 obtain ⟨Cq1, hCq1i, hCq1e⟩ := qcls fun w' => MemOk [⟨B1, 46, [iV px, iV py]⟩, ⟨B1 + 1, 46, [iV qx, iV qy]⟩] w' ∧ Keep Nn w w' ∧ True
 refine sxdraw (C := Cq1) (.leaf [(0, true), (1, true), (2, true), (3, true), (4, true), (5, true), (6, true), (7, true), (8, true), (9, true), (10, true), (11, true)]) (by kernel_rfl) (by kernel_rfl) (by as_aux_lemma => kernel_rfl) rfl (by as_aux_lemma => kernel_rfl) (by kernel_rfl) (hCq1i _ ⟨hM.sub (.cons_cons _ (.cons_cons _ .slnil)), hk0, trivial⟩) ?_
 refine sxleaf ?_
 have hC := (hCq1i _ ⟨hM.sub (.cons_cons _ (.cons_cons _ .slnil)), hk0, trivial⟩)
 refine qd hf hC (fun w' h => (hCq1e w' h).1) [] [{}, { os := [.ld 0 0] }, {}, { os := [.ld 1 0] }, { hint := some (iV (px - qx)) }, {}, { os := [.ld 0 1] }, {}, { os := [.ld 1 1] }, { hint := some (iV (py - qy)) }, {}, {}] (nw := [(7, eI (py - qy)), (6, eI (px - qx))]) (ob := [Ad B1 0, Ad (B1 + 1) 0, (iV (IntKind.i64.wrap (px - qx)) : Value) = (iV (px - qx) : Value), Ad B1 1, Ad (B1 + 1) 1, (iV (IntKind.i64.wrap (py - qy)) : Value) = (iV (py - qy) : Value)]) (Ac (ad _ _) (Ac (ad _ _) (Ac (wr (by omega)) (Ac (ad _ _) (Ac (ad _ _) (Ao (wr (by omega)))))))) ?_
 clear hf; intro a hf
 clear hC
 show K4 _ _
 refine hK4 _ _ ?_
 refine wp_seq_k (fun K5 hK5 => ?_)
 refine wp_region_lit ?_
 refine q0 hf hM [] [{}, {}, { hint := some (iV ((px - qx) * (px - qx))) }, {}, {}, { hint := some (iV ((py - qy) * (py - qy))) }, { hint := some (iV (((px - qx) * (px - qx)) + ((py - qy) * (py - qy)))) }, {}, {}] (nw := [(5, .val (.nilIface)), (4, eI (((px - qx) * (px - qx)) + ((py - qy) * (py - qy))))]) (ob := [(iV (IntKind.i64.wrap ((px - qx) * (px - qx))) : Value) = (iV ((px - qx) * (px - qx)) : Value), (iV (IntKind.i64.wrap ((py - qy) * (py - qy))) : Value) = (iV ((py - qy) * (py - qy)) : Value), (iV (IntKind.i64.wrap (((px - qx) * (px - qx)) + ((py - qy) * (py - qy)))) : Value) = (iV (((px - qx) * (px - qx)) + ((py - qy) * (py - qy))) : Value)]) (Ac (wr (by have := sq_bd (a := px - qx) (m := 8388608) (by omega); omega)) (Ac (wr (by have := sq_bd (a := py - qy) (m := 8388608) (by omega); omega)) (Ao (wr (by have h1 := sq_bd (a := px - qx) (m := 8388608) (by omega); have h2 := sq_bd (a := py - qy) (m := 8388608) (by omega); omega))))) ?_
 clear hf; intro a hf
 refine wpList_nil ?_
 refine hK5 _ _ ?_
 refine wp_ret ?_
 refine qr (fn := Tryd.f62) hf hM [] (l := [iV (((px - qx) * (px - qx)) + ((py - qy) * (py - qy))), .nilIface]) (ob := []) An ?_
 show (.tuple #[iV (((px - qx) * (px - qx)) + ((py - qy) * (py - qy))), .nilIface] : Value) = .tuple #[.int .i64 (dist2 px py qx qy), .nilIface] ∧ Keep Nn w w3.drew
 exact ⟨rfl, hk0⟩

set_option maxRecDepth 10000 in
set_option maxHeartbeats 1600000 in
theorem gap_ok (px py : Int) (x0 y0 x1 y1 : Int) (w : World) (hn0 : (reach px py) = true) (hn1 : (boxRight x0 y0 x1 y1) = true) :
    Calls Tryd.prog 61 #[.agg #[iV px, iV py], .agg #[iV x0, iV y0, iV x1, iV y1]] w (Ret fun v w' => v = .tuple #[.int .i64 (gapV px py x0 y0 x1 y1), .nilIface] ∧ Keep Nn w w') := by
 refine sxenter (n := 37) (args := [.agg #[iV px, iV py], .agg #[iV x0, iV y0, iV x1, iV y1]]) Tryd.func61 rfl rfl rfl fun a hf => ?_
 replace hf : Fr 37 [(0, .val (.agg #[iV px, iV py])), (1, .val (.agg #[iV x0, iV y0, iV x1, iV y1]))] a := hf
 have hM : MemOk [] w := MemOk.nil w
 have hk0 : Keep Nn w w := Keep.refl _ _
 have hb := boxRight_iff.1 hn1
 have hq : reach (clampI px x0 x1) (clampI py y0 y1) = true := by unfold reach clampI; refine decide_eq_true ?_; repeat' split <;> omega
 refine wp_seq_k (fun K1 hK1 => ?_)
 refine wp_region_lit ?_
 refine q1 hf hM [] [{ os := [.nw] }, { os := [.nw] }, {}, {}] (nw := fun B1 => [(5, .val (.nilIface)), (4, eI 0), (3, eP (B1 + 1) 0), (2, eP B1 0)]) (M' := fun B1 => [⟨B1, 46, [iV px, iV py]⟩, ⟨B1 + 1, 32, [iV x0, iV y0, iV x1, iV y1]⟩]) (ob := fun B1 => []) (fun B1 => An) ?_
 clear hf hM; intro a w1 B1 hf hM hB hk
 have hbB1 : w.heap.size ≤ B1 := by have := hk0.size; omega
 have hk0 := hk0.then hk (by intro i _ h; cases h)
 clear hk hB
 refine wpList_nil ?_
 refine hK1 _ _ ?_
 refine wp_seq_k (fun K2 hK2 => ?_)
 refine wp_block ?_
 refine wp_seq_k (fun K3 hK3 => ?_)
 refine wp_region_lit ?_
 refine q0 hf hM [5, 4, 3, 2] [{ os := [.ld 0 0, .ld 0 1] }] (nw := [(7, .val (.agg #[iV px, iV py]))]) (ob := [Ad B1 0, Ad B1 1]) (Ac (ad _ _) (Ao (ad _ _))) ?_
 clear hf; intro a hf
 refine sxcall hf rfl rfl rfl rfl (g := 74) (vs := [.agg #[iV px, iV py]]) (ob := []) (by as_aux_lemma => kernel_rfl) An enters74 (reach_any px py w1  ) ?_
 clear hf; rintro _ w2 a ⟨rfl, hk⟩ hf
 have hM := hM.keepNn hk
 have hk0 := hk0.trans hk.nn
 clear hk
 refine q0 hf hM [5, 4, 3, 2] [{}, {}] (nw := [(6, eB (!(reach px py)))]) An ?_
 clear hf; intro a hf
 refine wpList_nil ?_
 refine hK3 _ _ ?_
 refine sxcond hf (b := !(reach px py)) (by kernel_rfl) (fun h => absurd (h.symm.trans ((congrArg Bool.not hn0).trans rfl : (!(reach px py) : Bool) = false)) (by simp)) (fun _ => ?_)
 refine wp_seq_k (fun K4 hK4 => ?_)
 refine wp_region_lit ?_
 refine q0 hf hM [5, 4, 3, 2] [{ os := [.ld 1 0, .ld 1 1, .ld 1 2, .ld 1 3] }] (nw := [(12, .val (.agg #[iV x0, iV y0, iV x1, iV y1]))]) (ob := [Ad (B1 + 1) 0, Ad (B1 + 1) 1, Ad (B1 + 1) 2, Ad (B1 + 1) 3]) (Ac (ad _ _) (Ac (ad _ _) (Ac (ad _ _) (Ao (ad _ _))))) ?_
 clear hf; intro a hf
 refine sxcall hf rfl rfl rfl rfl (g := 56) (vs := [.agg #[iV x0, iV y0, iV x1, iV y1]]) (ob := []) (by as_aux_lemma => kernel_rfl) An enters56 (right_box x0 y0 x1 y1 w2  ) ?_
 clear hf; rintro _ w3 a ⟨rfl, hk⟩ hf
 have hM := hM.keepNn hk
 have hk0 := hk0.trans hk.nn
 clear hk
 refine q0 hf hM [5, 4, 3, 2] [{}, {}] (nw := [(11, eB (!(boxRight x0 y0 x1 y1)))]) An ?_
 clear hf; intro a hf
 refine wpList_nil ?_
 refine hK4 _ _ ?_
 refine sxcond hf (b := !(boxRight x0 y0 x1 y1)) (by kernel_rfl) (fun h => absurd (h.symm.trans ((congrArg Bool.not hn1).trans rfl : (!(boxRight x0 y0 x1 y1) : Bool) = false)) (by simp)) (fun _ => ?_)
 refine wp_skip ?_
 refine hK2 _ _ ?_
 refine wp_seq_k (fun K5 hK5 => ?_)
 refine wp_region_lit ?_
 refine q0 hf hM [5, 4] [{ os := [.ld 0 0, .ld 0 1] }, {}, { os := [.ld 0 0] }, {}, { os := [.ld 1 0] }, {}, {}, { os := [.ld 1 2] }, { hint := some (iV (clampI px x0 x1)) }, {}, { os := [.ld 0 1] }, {}, { os := [.ld 1 1] }, {}, {}, { os := [.ld 1 3] }, { hint := some (iV (clampI py y0 y1)) }, { sp := true }] (nw := [(33, .val (.agg #[iV (clampI px x0 x1), iV (clampI py y0 y1)])), (16, .val (.agg #[iV px, iV py]))]) (ob := [Ad B1 0, Ad B1 1, Ad B1 0, Ad (B1 + 1) 0, Ad (B1 + 1) 2, (iV (if x1 < (if px < x0 then x0 else px) then x1 else (if px < x0 then x0 else px)) : Value) = (iV (clampI px x0 x1) : Value), Ad B1 1, Ad (B1 + 1) 1, Ad (B1 + 1) 3, (iV (if y1 < (if py < y0 then y0 else py) then y1 else (if py < y0 then y0 else py)) : Value) = (iV (clampI py y0 y1) : Value)]) (Ac (ad _ _) (Ac (ad _ _) (Ac (ad _ _) (Ac (ad _ _) (Ac (ad _ _) (Ac rfl (Ac (ad _ _) (Ac (ad _ _) (Ac (ad _ _) (Ao rfl)))))))))) ?_
 clear hf; intro a hf
 refine sxcall hf rfl rfl rfl rfl (g := 62) (vs := [.agg #[iV px, iV py], .agg #[iV (clampI px x0 x1), iV (clampI py y0 y1)]]) (ob := []) (by as_aux_lemma => kernel_rfl) An enters62 (dist_ok px py (clampI px x0 x1) (clampI py y0 y1) w3 hn0 hq ) ?_
 clear hf; rintro _ w4 a ⟨rfl, hk⟩ hf
 have hM := hM.keepNn hk
 have hk0 := hk0.trans hk.nn
 clear hk
 refine q0 hf hM [5] [{}, {}, {}, {}] (nw := [(4, eI (dist2 px py (clampI px x0 x1) (clampI py y0 y1)))]) An ?_
 clear hf; intro a hf
 refine wpList_nil ?_
 refine hK5 _ _ ?_
 refine wp_ret ?_
 refine qr (fn := Tryd.f61) hf hM [] (l := [iV (dist2 px py (clampI px x0 x1) (clampI py y0 y1)), .nilIface]) (ob := []) An ?_
 show (.tuple #[iV (dist2 px py (clampI px x0 x1) (clampI py y0 y1)), .nilIface] : Value) = .tuple #[.int .i64 (gapV px py x0 y0 x1 y1), .nilIface] ∧ Keep Nn w w4
 exact ⟨rfl, hk0⟩

set_option maxRecDepth 10000 in
set_option maxHeartbeats 1600000 in
theorem place_any (E : Nat → Addr) (px py : Int) (w : World) (hG : Errs [1, 3, 0] w 161 E) :
    Calls Tryd.prog 38 #[.agg #[iV px, iV py]] w (Ret fun v w' => v = .bool (ofOk px py 0 0) ∧ Keep Nn w w') := by
 refine sxenter (n := 13) (args := [.agg #[iV px, iV py]]) Tryd.func38 rfl rfl rfl fun a hf => ?_
 replace hf : Fr 13 [(0, .val (.agg #[iV px, iV py]))] a := hf
 have hM : MemOk [] w := MemOk.nil w
 have hk0 : Keep Nn w w := Keep.refl _ _
 refine wp_seq_k (fun K1 hK1 => ?_)
 refine wp_region_lit ?_
 refine q1 hf hM [] [{ os := [.nw] }, {}] (nw := fun B1 => [(1, eP B1 0)]) (M' := fun B1 => [⟨B1, 46, [iV px, iV py]⟩]) (ob := fun B1 => []) (fun B1 => An) ?_
 clear hf hM; intro a w1 B1 hf hM hB hk
 have hbB1 : w.heap.size ≤ B1 := by have := hk0.size; omega
 have hk0 := hk0.then hk (by intro i _ h; cases h)
 clear hk hB
 refine wpList_nil ?_
 refine hK1 _ _ ?_
 refine wp_seq_k (fun K2 hK2 => ?_)
 refine wp_region_lit ?_
 refine q0 hf hM [] [{ os := [.ld 0 0, .ld 0 1] }, { sp := true }] (nw := [(7, .val (.agg #[iV 0, iV 0])), (6, .val (.agg #[iV px, iV py]))]) (ob := [Ad B1 0, Ad B1 1]) (Ac (ad _ _) (Ao (ad _ _))) ?_
 clear hf; intro a hf
 rcases Bool.eq_false_or_eq_true (ofOk px py 0 0) with hs1r | hs1r
 · have hs1 := hs1r
   refine sxcall hf rfl rfl rfl rfl (g := 59) (vs := [.agg #[iV px, iV py], .agg #[iV 0, iV 0]]) (ob := []) (by as_aux_lemma => kernel_rfl) An enters59 (plof_ok E px py 0 0 w1 hs1r (hG.keep hk0 (fun _ h => h))) ?_
   clear hf; rintro _ w2 a ⟨rfl, hk⟩ hf
   have hM := hM.keepNn hk
   have hk0 := hk0.trans hk.nn
   clear hk
   refine q1 hf hM [] [{}, {}, {}, { os := [.nw] }, { os := [.st 1 0, .st 1 1, .st 1 2, .st 1 3] }, {}] (nw := fun B3 => [(4, .val (.nilIface))]) (M' := fun B3 => [⟨B1, 46, [iV px, iV py]⟩, ⟨B3, 32, [iV (px - 0), iV (py - 0), iV (px + 0), iV (py + 0)]⟩]) (ob := fun B3 => [Ad B3 0, Ad B3 1, Ad B3 2, Ad B3 3]) (fun B3 => (Ac (ad _ _) (Ac (ad _ _) (Ac (ad _ _) (Ao (ad _ _)))))) ?_
   clear hf hM; intro a w3 B3 hf hM hB hk
   have hbB3 : w.heap.size ≤ B3 := by have := hk0.size; omega
   have hk0 := hk0.thenNew hk (by simp [Mem.names] <;> omega)
   clear hk hB
   refine wpList_nil ?_
   refine hK2 _ _ ?_
   refine wp_seq_k (fun K3 hK3 => ?_)
   refine wp_region_lit ?_
   refine q0 hf hM [] [{}, {}, {}] (nw := [(2, eB true)]) An ?_
   clear hf; intro a hf
   refine wpList_nil ?_
   refine hK3 _ _ ?_
   refine wp_ret ?_
   refine qr (fn := Tryd.f38) hf hM [] (l := [bV true]) (ob := []) An ?_
   show (bV true : Value) = .bool (ofOk px py 0 0) ∧ Keep Nn w w3
   exact ⟨congrArg Value.bool (hs1r).symm, hk0⟩
 · have hs1 := hs1r
   refine sxcall hf rfl rfl rfl rfl (g := 59) (vs := [.agg #[iV px, iV py], .agg #[iV 0, iV 0]]) (ob := []) (by as_aux_lemma => kernel_rfl) An enters59 (plof_no E px py 0 0 w1 hs1r (hG.keep hk0 (fun _ h => h))) ?_
   clear hf; rintro _ w4 a ⟨rfl, hk⟩ hf
   have hM := hM.keepNn hk
   have hk0 := hk0.trans hk.nn
   clear hk
   refine q1 hf hM [] [{}, {}, {}, { os := [.nw] }, { os := [.st 1 0, .st 1 1, .st 1 2, .st 1 3] }, {}] (nw := fun B5 => [(4, .val (.iface 161 (.pointer (some (E 1)))))]) (M' := fun B5 => [⟨B1, 46, [iV px, iV py]⟩, ⟨B5, 32, [iV 0, iV 0, iV 0, iV 0]⟩]) (ob := fun B5 => [Ad B5 0, Ad B5 1, Ad B5 2, Ad B5 3]) (fun B5 => (Ac (ad _ _) (Ac (ad _ _) (Ac (ad _ _) (Ao (ad _ _)))))) ?_
   clear hf hM; intro a w5 B5 hf hM hB hk
   have hbB5 : w.heap.size ≤ B5 := by have := hk0.size; omega
   have hk0 := hk0.thenNew hk (by simp [Mem.names] <;> omega)
   clear hk hB
   refine wpList_nil ?_
   refine hK2 _ _ ?_
   refine wp_seq_k (fun K4 hK4 => ?_)
   refine wp_region_lit ?_
   refine q0 hf hM [] [{}, {}, {}] (nw := [(2, eB false)]) An ?_
   clear hf; intro a hf
   refine wpList_nil ?_
   refine hK4 _ _ ?_
   refine wp_ret ?_
   refine qr (fn := Tryd.f38) hf hM [] (l := [bV false]) (ob := []) An ?_
   show (bV false : Value) = .bool (ofOk px py 0 0) ∧ Keep Nn w w5
   exact ⟨congrArg Value.bool (hs1r).symm, hk0⟩

set_option maxRecDepth 10000 in
set_option maxHeartbeats 1600000 in
theorem nreach_ok (E : Nat → Addr) (px py d x y : Int) (w : World) (hn0 : (cellRight d x y) = true) (hn1 : (reach px py) = true) :
    Calls Tryd.prog 40 #[.agg #[iV d, iV x, iV y], .agg #[iV px, iV py]] w (Ret fun v w' => v = .tuple #[.int .i64 (gapC px py d x y), .bool true] ∧ Keep Nn w w') := by
 refine sxenter (n := 25) (args := [.agg #[iV d, iV x, iV y], .agg #[iV px, iV py]]) Tryd.func40 rfl rfl rfl fun a hf => ?_
 replace hf : Fr 25 [(0, .val (.agg #[iV d, iV x, iV y])), (1, .val (.agg #[iV px, iV py]))] a := hf
 have hM : MemOk [] w := MemOk.nil w
 have hk0 : Keep Nn w w := Keep.refl _ _
 have hlr := loose_right hn0
 refine wp_seq_k (fun K1 hK1 => ?_)
 refine wp_region_lit ?_
 refine q1 hf hM [] [{ os := [.nw] }, { os := [.nw] }, {}, {}] (nw := fun B1 => [(5, eB false), (4, eI 0), (3, eP (B1 + 1) 0), (2, eP B1 0)]) (M' := fun B1 => [⟨B1, 29, [iV d, iV x, iV y]⟩, ⟨B1 + 1, 46, [iV px, iV py]⟩]) (ob := fun B1 => []) (fun B1 => An) ?_
 clear hf hM; intro a w1 B1 hf hM hB hk
 have hbB1 : w.heap.size ≤ B1 := by have := hk0.size; omega
 have hk0 := hk0.then hk (by intro i _ h; cases h)
 clear hk hB
 refine wpList_nil ?_
 refine hK1 _ _ ?_
 refine wp_seq_k (fun K2 hK2 => ?_)
 refine wp_region_lit ?_
 refine q0 hf hM [5, 4, 3] [{ os := [.ld 0 0, .ld 0 1, .ld 0 2] }] (nw := [(10, .val (.agg #[iV d, iV x, iV y]))]) (ob := [Ad B1 0, Ad B1 1, Ad B1 2]) (Ac (ad _ _) (Ac (ad _ _) (Ao (ad _ _)))) ?_
 clear hf; intro a hf
 refine sxcall hf rfl rfl rfl rfl (g := 60) (vs := [.agg #[iV d, iV x, iV y]]) (ob := []) (by as_aux_lemma => kernel_rfl) An enters60 (loose_ok E d x y w1 hn0 ) ?_
 clear hf; rintro _ w2 a ⟨rfl, hk⟩ hf
 have hM := hM.keepNn hk
 have hk0 := hk0.trans hk.nn
 clear hk
 refine q1 hf hM [5, 4, 3] [{}, {}, {}, { os := [.nw] }, { os := [.st 2 0, .st 2 1, .st 2 2, .st 2 3] }, {}] (nw := fun B3 => [(7, .val (.nilIface)), (6, eP B3 0)]) (M' := fun B3 => [⟨B1, 29, [iV d, iV x, iV y]⟩, ⟨B1 + 1, 46, [iV px, iV py]⟩, ⟨B3, 32, [iV (x * side d - 2097152 - side d / 2), iV (y * side d - 2097152 - side d / 2), iV (x * side d - 2097152 + side d + side d / 2), iV (y * side d - 2097152 + side d + side d / 2)]⟩]) (ob := fun B3 => [Ad B3 0, Ad B3 1, Ad B3 2, Ad B3 3]) (fun B3 => (Ac (ad _ _) (Ac (ad _ _) (Ac (ad _ _) (Ao (ad _ _)))))) ?_
 clear hf hM; intro a w3 B3 hf hM hB hk
 have hbB3 : w.heap.size ≤ B3 := by have := hk0.size; omega
 have hk0 := hk0.thenNew hk (by simp [Mem.names] <;> omega)
 clear hk hB
 refine wpList_nil ?_
 refine hK2 _ _ ?_
 refine wp_seq_k (fun K3 hK3 => ?_)
 refine wp_seq_k (fun K4 hK4 => ?_)
 refine wp_region_lit ?_
 refine q0 hf hM [6, 5, 4, 3] [{}, {}] (nw := [(15, eB false)]) An ?_
 clear hf; intro a hf
 refine wpList_nil ?_
 refine hK4 _ _ ?_
 refine sxcond hf (b := false) (by kernel_rfl) (fun h => by cases h) (fun _ => ?_)
 refine wp_skip ?_
 refine hK3 _ _ ?_
 refine wp_seq_k (fun K5 hK5 => ?_)
 refine wp_region_lit ?_
 refine q0 hf hM [5, 4] [{ os := [.ld 1 0, .ld 1 1] }, { os := [.ld 2 0, .ld 2 1, .ld 2 2, .ld 2 3] }] (nw := [(18, .val (.agg #[iV (x * side d - 2097152 - side d / 2), iV (y * side d - 2097152 - side d / 2), iV (x * side d - 2097152 + side d + side d / 2), iV (y * side d - 2097152 + side d + side d / 2)])), (17, .val (.agg #[iV px, iV py]))]) (ob := [Ad (B1 + 1) 0, Ad (B1 + 1) 1, Ad B3 0, Ad B3 1, Ad B3 2, Ad B3 3]) (Ac (ad _ _) (Ac (ad _ _) (Ac (ad _ _) (Ac (ad _ _) (Ac (ad _ _) (Ao (ad _ _))))))) ?_
 clear hf; intro a hf
 refine sxcall hf rfl rfl rfl rfl (g := 61) (vs := [.agg #[iV px, iV py], .agg #[iV (x * side d - 2097152 - side d / 2), iV (y * side d - 2097152 - side d / 2), iV (x * side d - 2097152 + side d + side d / 2), iV (y * side d - 2097152 + side d + side d / 2)]]) (ob := []) (by as_aux_lemma => kernel_rfl) An enters61 (gap_ok px py (x * side d - 2097152 - side d / 2) (y * side d - 2097152 - side d / 2) (x * side d - 2097152 + side d + side d / 2) (y * side d - 2097152 + side d + side d / 2) w3 hn1 hlr ) ?_
 clear hf; rintro _ w4 a ⟨rfl, hk⟩ hf
 have hM := hM.keepNn hk
 have hk0 := hk0.trans hk.nn
 clear hk
 refine q0 hf hM [5, 4] [{}, {}, {}, {}, {}] (nw := [(7, .val (.nilIface)), (8, eI (gapV px py (x * side d - 2097152 - side d / 2) (y * side d - 2097152 - side d / 2) (x * side d - 2097152 + side d + side d / 2) (y * side d - 2097152 + side d + side d / 2)))]) An ?_
 clear hf; intro a hf
 refine wpList_nil ?_
 refine hK5 _ _ ?_
 refine wp_seq_k (fun K6 hK6 => ?_)
 replace hM := hM.drew; replace hk0 := hk0.drew
 obtain ⟨Cq1, hCq1i, hCq1e⟩ := qcls fun w' => MemOk [⟨B1, 29, [iV d, iV x, iV y]⟩, ⟨B1 + 1, 46, [iV px, iV py]⟩, ⟨B3, 32, [iV (x * side d - 2097152 - side d / 2), iV (y * side d - 2097152 - side d / 2), iV (x * side d - 2097152 + side d + side d / 2), iV (y * side d - 2097152 + side d + side d / 2)]⟩] w' ∧ Keep Nn w w' ∧ True
 refine sxdraw (C := Cq1) (.leaf [(0, true), (1, true), (2, true), (3, true), (4, true)]) (by kernel_rfl) (by kernel_rfl) (by as_aux_lemma => kernel_rfl) rfl (by as_aux_lemma => kernel_rfl) (by kernel_rfl) (hCq1i _ ⟨hM.sub (.cons_cons _ (.cons_cons _ (.cons_cons _ .slnil))), hk0, trivial⟩) ?_
 refine sxleaf ?_
 have hC := (hCq1i _ ⟨hM.sub (.cons_cons _ (.cons_cons _ (.cons_cons _ .slnil))), hk0, trivial⟩)
 refine qd hf hC (fun w' h => (hCq1e w' h).1) [] [{}, {}, {}, {}, {}] (nw := [(5, eB true), (4, eI (gapV px py (x * side d - 2097152 - side d / 2) (y * side d - 2097152 - side d / 2) (x * side d - 2097152 + side d + side d / 2) (y * side d - 2097152 + side d + side d / 2)))]) An ?_
 clear hf; intro a hf
 clear hC
 show K6 _ _
 refine hK6 _ _ ?_
 refine wp_ret ?_
 refine qr (fn := Tryd.f40) hf hM [] (l := [iV (gapV px py (x * side d - 2097152 - side d / 2) (y * side d - 2097152 - side d / 2) (x * side d - 2097152 + side d + side d / 2) (y * side d - 2097152 + side d + side d / 2)), bV true]) (ob := []) An ?_
 show (.tuple #[iV (gapV px py (x * side d - 2097152 - side d / 2) (y * side d - 2097152 - side d / 2) (x * side d - 2097152 + side d + side d / 2) (y * side d - 2097152 + side d + side d / 2)), bV true] : Value) = .tuple #[.int .i64 (gapC px py d x y), .bool true] ∧ Keep Nn w w4.drew
 exact ⟨rfl, hk0⟩

set_option maxRecDepth 10000 in
set_option maxHeartbeats 1600000 in
theorem away_ok (E : Nat → Addr) (px py : Int) (x0 y0 x1 y1 : Int) (w : World) (hn0 : (boxRight x0 y0 x1 y1) = true) (hn1 : (reach px py) = true) :
    Calls Tryd.prog 42 #[.agg #[iV x0, iV y0, iV x1, iV y1], .agg #[iV px, iV py]] w (Ret fun v w' => v = .tuple #[.int .i64 (awayV px py x0 y0 x1 y1), .bool true] ∧ Keep Nn w w') := by
 refine sxenter (n := 25) (args := [.agg #[iV x0, iV y0, iV x1, iV y1], .agg #[iV px, iV py]]) Tryd.func42 rfl rfl rfl fun a hf => ?_
 replace hf : Fr 25 [(0, .val (.agg #[iV x0, iV y0, iV x1, iV y1])), (1, .val (.agg #[iV px, iV py]))] a := hf
 have hM : MemOk [] w := MemOk.nil w
 have hk0 : Keep Nn w w := Keep.refl _ _
 have hb := boxRight_iff.1 hn0
 have hq : reach ((x0 + x1) / 2) ((y0 + y1) / 2) = true := by unfold reach; refine decide_eq_true ?_; omega
 refine wp_seq_k (fun K1 hK1 => ?_)
 refine wp_region_lit ?_
 refine q1 hf hM [] [{ os := [.nw] }, { os := [.nw] }, {}, {}] (nw := fun B1 => [(5, eB false), (4, eI 0), (3, eP (B1 + 1) 0), (2, eP B1 0)]) (M' := fun B1 => [⟨B1, 32, [iV x0, iV y0, iV x1, iV y1]⟩, ⟨B1 + 1, 46, [iV px, iV py]⟩]) (ob := fun B1 => []) (fun B1 => An) ?_
 clear hf hM; intro a w1 B1 hf hM hB hk
 have hbB1 : w.heap.size ≤ B1 := by have := hk0.size; omega
 have hk0 := hk0.then hk (by intro i _ h; cases h)
 clear hk hB
 refine wpList_nil ?_
 refine hK1 _ _ ?_
 refine wp_seq_k (fun K2 hK2 => ?_)
 refine wp_region_lit ?_
 refine q0 hf hM [5, 4, 3] [{ os := [.ld 0 0, .ld 0 1, .ld 0 2, .ld 0 3] }] (nw := [(10, .val (.agg #[iV x0, iV y0, iV x1, iV y1]))]) (ob := [Ad B1 0, Ad B1 1, Ad B1 2, Ad B1 3]) (Ac (ad _ _) (Ac (ad _ _) (Ac (ad _ _) (Ao (ad _ _))))) ?_
 clear hf; intro a hf
 refine sxcall hf rfl rfl rfl rfl (g := 30) (vs := [.agg #[iV x0, iV y0, iV x1, iV y1]]) (ob := []) (by as_aux_lemma => kernel_rfl) An enters30 (centre_ok E x0 y0 x1 y1 w1 hn0 ) ?_
 clear hf; rintro _ w2 a ⟨rfl, hk⟩ hf
 have hM := hM.keepNn hk
 have hk0 := hk0.trans hk.nn
 clear hk
 refine q1 hf hM [5, 4, 3] [{}, {}, {}, { os := [.nw] }, { os := [.st 2 0, .st 2 1] }, {}] (nw := fun B3 => [(7, .val (.nilIface)), (6, eP B3 0)]) (M' := fun B3 => [⟨B1, 32, [iV x0, iV y0, iV x1, iV y1]⟩, ⟨B1 + 1, 46, [iV px, iV py]⟩, ⟨B3, 46, [iV ((x0 + x1) / 2), iV ((y0 + y1) / 2)]⟩]) (ob := fun B3 => [Ad B3 0, Ad B3 1]) (fun B3 => (Ac (ad _ _) (Ao (ad _ _)))) ?_
 clear hf hM; intro a w3 B3 hf hM hB hk
 have hbB3 : w.heap.size ≤ B3 := by have := hk0.size; omega
 have hk0 := hk0.thenNew hk (by simp [Mem.names] <;> omega)
 clear hk hB
 refine wpList_nil ?_
 refine hK2 _ _ ?_
 refine wp_seq_k (fun K3 hK3 => ?_)
 refine wp_seq_k (fun K4 hK4 => ?_)
 refine wp_region_lit ?_
 refine q0 hf hM [6, 5, 4, 3] [{}, {}] (nw := [(15, eB false)]) An ?_
 clear hf; intro a hf
 refine wpList_nil ?_
 refine hK4 _ _ ?_
 refine sxcond hf (b := false) (by kernel_rfl) (fun h => by cases h) (fun _ => ?_)
 refine wp_skip ?_
 refine hK3 _ _ ?_
 refine wp_seq_k (fun K5 hK5 => ?_)
 refine wp_region_lit ?_
 refine q0 hf hM [5, 4] [{ os := [.ld 1 0, .ld 1 1] }, { os := [.ld 2 0, .ld 2 1] }] (nw := [(18, .val (.agg #[iV ((x0 + x1) / 2), iV ((y0 + y1) / 2)])), (17, .val (.agg #[iV px, iV py]))]) (ob := [Ad (B1 + 1) 0, Ad (B1 + 1) 1, Ad B3 0, Ad B3 1]) (Ac (ad _ _) (Ac (ad _ _) (Ac (ad _ _) (Ao (ad _ _))))) ?_
 clear hf; intro a hf
 refine sxcall hf rfl rfl rfl rfl (g := 62) (vs := [.agg #[iV px, iV py], .agg #[iV ((x0 + x1) / 2), iV ((y0 + y1) / 2)]]) (ob := []) (by as_aux_lemma => kernel_rfl) An enters62 (dist_ok px py ((x0 + x1) / 2) ((y0 + y1) / 2) w3 hn1 hq ) ?_
 clear hf; rintro _ w4 a ⟨rfl, hk⟩ hf
 have hM := hM.keepNn hk
 have hk0 := hk0.trans hk.nn
 clear hk
 refine q0 hf hM [5, 4] [{}, {}, {}, {}, {}] (nw := [(7, .val (.nilIface)), (8, eI (dist2 px py ((x0 + x1) / 2) ((y0 + y1) / 2)))]) An ?_
 clear hf; intro a hf
 refine wpList_nil ?_
 refine hK5 _ _ ?_
 refine wp_seq_k (fun K6 hK6 => ?_)
 replace hM := hM.drew; replace hk0 := hk0.drew
 obtain ⟨Cq1, hCq1i, hCq1e⟩ := qcls fun w' => MemOk [⟨B1, 32, [iV x0, iV y0, iV x1, iV y1]⟩, ⟨B1 + 1, 46, [iV px, iV py]⟩, ⟨B3, 46, [iV ((x0 + x1) / 2), iV ((y0 + y1) / 2)]⟩] w' ∧ Keep Nn w w' ∧ True
 refine sxdraw (C := Cq1) (.leaf [(0, true), (1, true), (2, true), (3, true), (4, true)]) (by kernel_rfl) (by kernel_rfl) (by as_aux_lemma => kernel_rfl) rfl (by as_aux_lemma => kernel_rfl) (by kernel_rfl) (hCq1i _ ⟨hM.sub (.cons_cons _ (.cons_cons _ (.cons_cons _ .slnil))), hk0, trivial⟩) ?_
 refine sxleaf ?_
 have hC := (hCq1i _ ⟨hM.sub (.cons_cons _ (.cons_cons _ (.cons_cons _ .slnil))), hk0, trivial⟩)
 refine qd hf hC (fun w' h => (hCq1e w' h).1) [] [{}, {}, {}, {}, {}] (nw := [(5, eB true), (4, eI (dist2 px py ((x0 + x1) / 2) ((y0 + y1) / 2)))]) An ?_
 clear hf; intro a hf
 clear hC
 show K6 _ _
 refine hK6 _ _ ?_
 refine wp_ret ?_
 refine qr (fn := Tryd.f42) hf hM [] (l := [iV (dist2 px py ((x0 + x1) / 2) ((y0 + y1) / 2)), bV true]) (ob := []) An ?_
 show (.tuple #[iV (dist2 px py ((x0 + x1) / 2) ((y0 + y1) / 2)), bV true] : Value) = .tuple #[.int .i64 (awayV px py x0 y0 x1 y1), .bool true] ∧ Keep Nn w w4.drew
 exact ⟨rfl, hk0⟩
end Go.Proofs.YthofalkkdpjdlaaDoor
