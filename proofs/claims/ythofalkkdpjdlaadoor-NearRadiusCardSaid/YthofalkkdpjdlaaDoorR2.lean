/- layer 12: cells -/
import Derived.Test.YthofalkkdpjdlaaDoorR1
namespace Go.Proofs.YthofalkkdpjdlaaDoor
open Go.Px
set_option linter.unusedVariables false
set_option linter.unusedSimpArgs false

set_option maxRecDepth 10000 in
set_option maxHeartbeats 1600000 in
theorem cell_right (d x y : Int) (w : World) :
    Calls Tryd.prog 36 #[.agg #[iV d, iV x, iV y]] w (Ret fun v w' => v = .bool (cellRight d x y) ∧ Keep Nn w w') := by
 refine sxenter (n := 36) (args := [.agg #[iV d, iV x, iV y]]) Tryd.func36 rfl rfl rfl fun a hf => ?_
 replace hf : Fr 36 [(0, .val (.agg #[iV d, iV x, iV y]))] a := hf
 have hM : MemOk [] w := MemOk.nil w
 have hk0 : Keep Nn w w := Keep.refl _ _
 refine wp_seq_k (fun K1 hK1 => ?_)
 refine wp_region_lit ?_
 refine q1 hf hM [] [{ os := [.nw] }, {}] (nw := fun B1 => [(1, eP B1 0)]) (M' := fun B1 => [⟨B1, 29, [iV d, iV x, iV y]⟩]) (ob := fun B1 => []) (fun B1 => An) ?_
 clear hf hM; intro a w1 B1 hf hM hB hk
 have hbB1 : w.heap.size ≤ B1 := by have := hk0.size; omega
 have hk0 := hk0.then hk (by intro i _ h; cases h)
 clear hk hB
 refine wpList_nil ?_
 refine hK1 _ _ ?_
 refine wp_seq_k (fun K2 hK2 => ?_)
 refine wp_seq_k (fun K3 hK3 => ?_)
 refine wp_region_lit ?_
 refine q0 hf hM [1] [{}, { os := [.ld 0 0] }, {}, {}, { g := .sym }, { g := .sym, os := [.ld 0 0] }, { g := .sym }, { hint := some (bV ((decide ((d : Int) < 0)) || (decide ((d : Int) > 8)))) }] (nw := [(11, eB ((decide ((d : Int) < 0)) || (decide ((d : Int) > 8))))]) (ob := [Ad B1 0, ((decide ((d : Int) < 0)) = false → (decide ((d : Int) < 0)) = (decide ((d : Int) < 0))), ((decide ((d : Int) < 0)) = false → Ad B1 0), ((decide ((d : Int) < 0)) = false → (decide ((d : Int) < 0)) = (decide ((d : Int) < 0))), ((decide ((d : Int) < 0)) = false → (decide ((d : Int) < 0)) = (decide ((d : Int) < 0))), (bif (decide ((d : Int) < 0)) then (bV true : Value) else bV (decide ((d : Int) > 8))) = .bool ((decide ((d : Int) < 0)) || (decide ((d : Int) > 8)))]) (Ac (ad _ _) (Ac (fun hgd => rfl) (Ac (fun hgd => ad _ _) (Ac (fun hgd => rfl) (Ac (fun _ => rfl) (Ao (pick_or _ _))))))) ?_
 clear hf; intro a hf
 refine wpList_nil ?_
 refine hK3 _ _ ?_
 refine qc hf (b := ((decide ((d : Int) < 0)) || (decide ((d : Int) > 8)))) (fun hc1r => ?_) (fun hc1r => ?_)
 · have hc1 := hc1r
   try simp only [Bool.or_eq_true, Bool.and_eq_true, Bool.not_eq_true', Bool.not_eq_false', Bool.or_eq_false_iff, Bool.and_eq_false_iff, decide_eq_true_eq, decide_eq_false_iff_not, beq_iff_eq, bne_iff_ne, beq_eq_false_iff_ne, bne_eq_false_iff_eq, Bool.and_true, Bool.true_and, ne_eq] at hc1
   refine wp_seq_k (fun K4 hK4 => ?_)
   refine wp_region_lit ?_
   refine q0 hf hM [] [{}] (nw := [(2, eB false)]) An ?_
   clear hf; intro a hf
   refine wpList_nil ?_
   refine hK4 _ _ ?_
   refine wp_ret ?_
   refine qr (fn := Tryd.f36) hf hM [] (l := [bV false]) (ob := []) An ?_
   show (bV false : Value) = .bool (cellRight d x y) ∧ Keep Nn w w1
   refine ⟨congrArg Value.bool ?_, hk0⟩
   rw [Bool.eq_iff_iff]
   simp only [cellRight, Bool.or_eq_true, Bool.and_eq_true, Bool.not_eq_true', Bool.not_eq_false', Bool.or_eq_false_iff, Bool.and_eq_false_iff, decide_eq_true_eq, decide_eq_false_iff_not, beq_iff_eq, Bool.false_eq_true, Bool.true_eq_false, false_iff, true_iff, iff_true, iff_false, not_true, not_false_iff, true_and, and_true, false_and, and_false, ge_iff_le, gt_iff_lt] at *
   try omega
 · have hc1 := hc1r
   try simp only [Bool.or_eq_true, Bool.and_eq_true, Bool.not_eq_true', Bool.not_eq_false', Bool.or_eq_false_iff, Bool.and_eq_false_iff, decide_eq_true_eq, decide_eq_false_iff_not, beq_iff_eq, bne_iff_ne, beq_eq_false_iff_ne, bne_eq_false_iff_eq, Bool.and_true, Bool.true_and, ne_eq] at hc1
   have hp := pow_bd (d := d) (by omega)
   refine wp_skip ?_
   refine hK2 _ _ ?_
   refine wp_seq_k (fun K5 hK5 => ?_)
   refine wp_region_lit ?_
   refine q0 hf hM [1] [{}, { os := [.ld 0 0] }, { sp := true, hint := some (iV (2 ^ d.toNat)) }, { hint := some (iV ((2 ^ d.toNat) - 1)) }, {}] (nw := [(3, eI ((2 ^ d.toNat) - 1))]) (ob := [Ad B1 0, 0 ≤ (d : Int), (iV (IntKind.i64.wrap (1 * 2 ^ (min (d : Int).toNat IntKind.i64.bits))) : Value) = (iV (2 ^ d.toNat) : Value), (iV (IntKind.i64.wrap ((2 ^ d.toNat) - 1)) : Value) = (iV ((2 ^ d.toNat) - 1) : Value)]) (Ac (ad _ _) (Ac (by omega) (Ac (shl_one (by omega)) (Ao (wr (by omega)))))) ?_
   clear hf; intro a hf
   refine wpList_nil ?_
   refine hK5 _ _ ?_
   refine wp_seq_k (fun K6 hK6 => ?_)
   refine wp_region_lit ?_
   refine q0 hf hM [] [{}, { os := [.ld 0 1] }, {}, {}, { g := .sym }, { g := .sym, os := [.ld 0 1] }, { g := .sym }, { g := .sym }, { hint := some (bV ((decide ((x : Int) ≥ 0)) && (decide ((x : Int) ≤ ((2 ^ d.toNat) - 1))))) }, {}, { g := .sym }, { g := .sym, os := [.ld 0 2] }, { g := .sym }, { hint := some (bV (((decide ((x : Int) ≥ 0)) && (decide ((x : Int) ≤ ((2 ^ d.toNat) - 1)))) && (decide ((y : Int) ≥ 0)))) }, {}, { g := .sym }, { g := .sym, os := [.ld 0 2] }, { g := .sym }, { g := .sym }, { hint := some (bV ((((decide ((x : Int) ≥ 0)) && (decide ((x : Int) ≤ ((2 ^ d.toNat) - 1)))) && (decide ((y : Int) ≥ 0))) && (decide ((y : Int) ≤ ((2 ^ d.toNat) - 1))))) }, {}] (nw := [(2, eB ((((decide ((x : Int) ≥ 0)) && (decide ((x : Int) ≤ ((2 ^ d.toNat) - 1)))) && (decide ((y : Int) ≥ 0))) && (decide ((y : Int) ≤ ((2 ^ d.toNat) - 1)))))]) (ob := [Ad B1 1, ((decide ((x : Int) ≥ 0)) = true → (decide ((x : Int) ≥ 0)) = (decide ((x : Int) ≥ 0))), ((decide ((x : Int) ≥ 0)) = true → Ad B1 1), ((decide ((x : Int) ≥ 0)) = true → (decide ((x : Int) ≥ 0)) = (decide ((x : Int) ≥ 0))), ((decide ((x : Int) ≥ 0)) = true → (decide ((x : Int) ≥ 0)) = (decide ((x : Int) ≥ 0))), ((decide ((x : Int) ≥ 0)) = true → (decide ((x : Int) ≥ 0)) = (decide ((x : Int) ≥ 0))), (bif (decide ((x : Int) ≥ 0)) then (bV (decide ((x : Int) ≤ ((2 ^ d.toNat) - 1))) : Value) else bV false) = .bool ((decide ((x : Int) ≥ 0)) && (decide ((x : Int) ≤ ((2 ^ d.toNat) - 1)))), (((decide ((x : Int) ≥ 0)) && (decide ((x : Int) ≤ ((2 ^ d.toNat) - 1)))) = true → ((decide ((x : Int) ≥ 0)) && (decide ((x : Int) ≤ ((2 ^ d.toNat) - 1)))) = ((decide ((x : Int) ≥ 0)) && (decide ((x : Int) ≤ ((2 ^ d.toNat) - 1))))), (((decide ((x : Int) ≥ 0)) && (decide ((x : Int) ≤ ((2 ^ d.toNat) - 1)))) = true → Ad B1 2), (((decide ((x : Int) ≥ 0)) && (decide ((x : Int) ≤ ((2 ^ d.toNat) - 1)))) = true → ((decide ((x : Int) ≥ 0)) && (decide ((x : Int) ≤ ((2 ^ d.toNat) - 1)))) = ((decide ((x : Int) ≥ 0)) && (decide ((x : Int) ≤ ((2 ^ d.toNat) - 1))))), (((decide ((x : Int) ≥ 0)) && (decide ((x : Int) ≤ ((2 ^ d.toNat) - 1)))) = true → ((decide ((x : Int) ≥ 0)) && (decide ((x : Int) ≤ ((2 ^ d.toNat) - 1)))) = ((decide ((x : Int) ≥ 0)) && (decide ((x : Int) ≤ ((2 ^ d.toNat) - 1))))), (bif ((decide ((x : Int) ≥ 0)) && (decide ((x : Int) ≤ ((2 ^ d.toNat) - 1)))) then (bV (decide ((y : Int) ≥ 0)) : Value) else bV false) = .bool (((decide ((x : Int) ≥ 0)) && (decide ((x : Int) ≤ ((2 ^ d.toNat) - 1)))) && (decide ((y : Int) ≥ 0))), ((((decide ((x : Int) ≥ 0)) && (decide ((x : Int) ≤ ((2 ^ d.toNat) - 1)))) && (decide ((y : Int) ≥ 0))) = true → (((decide ((x : Int) ≥ 0)) && (decide ((x : Int) ≤ ((2 ^ d.toNat) - 1)))) && (decide ((y : Int) ≥ 0))) = (((decide ((x : Int) ≥ 0)) && (decide ((x : Int) ≤ ((2 ^ d.toNat) - 1)))) && (decide ((y : Int) ≥ 0)))), ((((decide ((x : Int) ≥ 0)) && (decide ((x : Int) ≤ ((2 ^ d.toNat) - 1)))) && (decide ((y : Int) ≥ 0))) = true → Ad B1 2), ((((decide ((x : Int) ≥ 0)) && (decide ((x : Int) ≤ ((2 ^ d.toNat) - 1)))) && (decide ((y : Int) ≥ 0))) = true → (((decide ((x : Int) ≥ 0)) && (decide ((x : Int) ≤ ((2 ^ d.toNat) - 1)))) && (decide ((y : Int) ≥ 0))) = (((decide ((x : Int) ≥ 0)) && (decide ((x : Int) ≤ ((2 ^ d.toNat) - 1)))) && (decide ((y : Int) ≥ 0)))), ((((decide ((x : Int) ≥ 0)) && (decide ((x : Int) ≤ ((2 ^ d.toNat) - 1)))) && (decide ((y : Int) ≥ 0))) = true → (((decide ((x : Int) ≥ 0)) && (decide ((x : Int) ≤ ((2 ^ d.toNat) - 1)))) && (decide ((y : Int) ≥ 0))) = (((decide ((x : Int) ≥ 0)) && (decide ((x : Int) ≤ ((2 ^ d.toNat) - 1)))) && (decide ((y : Int) ≥ 0)))), ((((decide ((x : Int) ≥ 0)) && (decide ((x : Int) ≤ ((2 ^ d.toNat) - 1)))) && (decide ((y : Int) ≥ 0))) = true → (((decide ((x : Int) ≥ 0)) && (decide ((x : Int) ≤ ((2 ^ d.toNat) - 1)))) && (decide ((y : Int) ≥ 0))) = (((decide ((x : Int) ≥ 0)) && (decide ((x : Int) ≤ ((2 ^ d.toNat) - 1)))) && (decide ((y : Int) ≥ 0)))), (bif (((decide ((x : Int) ≥ 0)) && (decide ((x : Int) ≤ ((2 ^ d.toNat) - 1)))) && (decide ((y : Int) ≥ 0))) then (bV (decide ((y : Int) ≤ ((2 ^ d.toNat) - 1))) : Value) else bV false) = .bool ((((decide ((x : Int) ≥ 0)) && (decide ((x : Int) ≤ ((2 ^ d.toNat) - 1)))) && (decide ((y : Int) ≥ 0))) && (decide ((y : Int) ≤ ((2 ^ d.toNat) - 1))))]) (Ac (ad _ _) (Ac (fun hgd => rfl) (Ac (fun hgd => ad _ _) (Ac (fun hgd => rfl) (Ac (fun hgd => rfl) (Ac (fun _ => rfl) (Ac (pick_and _ _) (Ac (fun hgd => rfl) (Ac (fun hgd => ad _ _) (Ac (fun hgd => rfl) (Ac (fun _ => rfl) (Ac (pick_and _ _) (Ac (fun hgd => rfl) (Ac (fun hgd => ad _ _) (Ac (fun hgd => rfl) (Ac (fun hgd => rfl) (Ac (fun _ => rfl) (Ao (pick_and _ _))))))))))))))))))) ?_
   clear hf; intro a hf
   refine wpList_nil ?_
   refine hK6 _ _ ?_
   refine wp_ret ?_
   refine qr (fn := Tryd.f36) hf hM [] (l := [bV ((((decide ((x : Int) ≥ 0)) && (decide ((x : Int) ≤ ((2 ^ d.toNat) - 1)))) && (decide ((y : Int) ≥ 0))) && (decide ((y : Int) ≤ ((2 ^ d.toNat) - 1))))]) (ob := []) An ?_
   show (bV ((((decide ((x : Int) ≥ 0)) && (decide ((x : Int) ≤ ((2 ^ d.toNat) - 1)))) && (decide ((y : Int) ≥ 0))) && (decide ((y : Int) ≤ ((2 ^ d.toNat) - 1)))) : Value) = .bool (cellRight d x y) ∧ Keep Nn w w1
   refine ⟨congrArg Value.bool ?_, hk0⟩
   rw [Bool.eq_iff_iff]
   simp only [cellRight, Bool.or_eq_true, Bool.and_eq_true, Bool.not_eq_true', Bool.not_eq_false', Bool.or_eq_false_iff, Bool.and_eq_false_iff, decide_eq_true_eq, decide_eq_false_iff_not, beq_iff_eq, Bool.false_eq_true, Bool.true_eq_false, false_iff, true_iff, iff_true, iff_false, not_true, not_false_iff, true_and, and_true, false_and, and_false, ge_iff_le, gt_iff_lt] at *
   try omega

set_option maxRecDepth 10000 in
set_option maxHeartbeats 1600000 in
theorem side_any (d : Int) (w : World) (hd : 0 ≤ d ∧ d ≤ 8) :
    Calls Tryd.prog 33 #[iV d] w (Ret fun v w' => v = .int .i64 (side d) ∧ Keep Nn w w') := by
 refine sxenter (n := 5) (args := [iV d]) Tryd.func33 rfl rfl rfl fun a hf => ?_
 replace hf : Fr 5 [(0, eI d)] a := hf
 have hM : MemOk [] w := MemOk.nil w
 have hk0 : Keep Nn w w := Keep.refl _ _
 refine wp_seq_k (fun K1 hK1 => ?_)
 refine wp_region_lit ?_
 refine q0 hf hM [0] [{}] (nw := []) An ?_
 clear hf; intro a hf
 refine wpList_nil ?_
 refine hK1 _ _ ?_
 refine wp_seq_k (fun K2 hK2 => ?_)
 refine wp_region_lit ?_
 refine q0 hf hM [] [{}, { sp := true, hint := some (iV (side d)) }, {}] (nw := [(2, eI (side d))]) (ob := [0 ≤ (d : Int), (iV (Int.fdiv 4194304 (2 ^ (min (d : Int).toNat IntKind.i64.bits))) : Value) = (iV (side d) : Value)]) (Ac (by omega) (Ao (shr_side hd))) ?_
 clear hf; intro a hf
 refine wpList_nil ?_
 refine hK2 _ _ ?_
 refine wp_ret ?_
 refine qr (fn := Tryd.f33) hf hM [] (l := [iV (side d)]) (ob := []) An ?_
 show (iV (side d) : Value) = .int .i64 (side d) ∧ Keep Nn w w
 exact ⟨rfl, hk0⟩

set_option maxRecDepth 10000 in
set_option maxHeartbeats 1600000 in
theorem world_any (w : World) :
    Calls Tryd.prog 32 #[] w (Ret fun v w' => v = .agg #[.int .i64 (-2097152), .int .i64 (-2097152), .int .i64 2097152, .int .i64 2097152] ∧ Keep Nn w w') := by
 refine sxenter (n := 2) (args := []) Tryd.func32 rfl rfl rfl fun a hf => ?_
 replace hf : Fr 2 [] a := hf
 have hM : MemOk [] w := MemOk.nil w
 have hk0 : Keep Nn w w := Keep.refl _ _
 refine wp_seq_k (fun K1 hK1 => ?_)
 refine wp_region_lit ?_
 refine q1 hf hM [] [{ os := [.nw] }] (nw := fun B1 => [(0, eP B1 0)]) (M' := fun B1 => [⟨B1, 32, [iV 0, iV 0, iV 0, iV 0]⟩]) (ob := fun B1 => []) (fun B1 => An) ?_
 clear hf hM; intro a w1 B1 hf hM hB hk
 have hbB1 : w.heap.size ≤ B1 := by have := hk0.size; omega
 have hk0 := hk0.then hk (by intro i _ h; cases h)
 clear hk hB
 refine wpList_nil ?_
 refine hK1 _ _ ?_
 refine wp_seq_k (fun K2 hK2 => ?_)
 refine wp_region_lit ?_
 refine q1 hf hM [0] [{ sp := true }, { os := [.st 0 0, .st 0 1, .st 0 2, .st 0 3] }] (nw := fun B2 => []) (M' := fun B2 => [⟨B1, 32, [iV (-2097152), iV (-2097152), iV 2097152, iV 2097152]⟩]) (ob := fun B2 => [Ad B1 0, Ad B1 1, Ad B1 2, Ad B1 3]) (fun B2 => (Ac (ad _ _) (Ac (ad _ _) (Ac (ad _ _) (Ao (ad _ _)))))) ?_
 clear hf hM; intro a w2 B2 hf hM hB hk
 have hbB2 : w.heap.size ≤ B2 := by have := hk0.size; omega
 have hk0 := hk0.thenNew hk (by simp [Mem.names] <;> omega)
 clear hk hB
 refine wpList_nil ?_
 refine hK2 _ _ ?_
 refine wp_ret ?_
 refine qr (fn := Tryd.f32) hf hM [.ld 0 0, .ld 0 1, .ld 0 2, .ld 0 3] (l := [.agg #[iV (-2097152), iV (-2097152), iV 2097152, iV 2097152]]) (ob := [Ad B1 0, Ad B1 1, Ad B1 2, Ad B1 3]) (Ac (ad _ _) (Ac (ad _ _) (Ac (ad _ _) (Ao (ad _ _))))) ?_
 show (.agg #[iV (-2097152), iV (-2097152), iV 2097152, iV 2097152] : Value) = .agg #[.int .i64 (-2097152), .int .i64 (-2097152), .int .i64 2097152, .int .i64 2097152] ∧ Keep Nn w w2
 exact ⟨rfl, hk0⟩

set_option maxRecDepth 10000 in
set_option maxHeartbeats 1600000 in
theorem loose_ok (E : Nat → Addr) (d x y : Int) (w : World) (hn0 : (cellRight d x y) = true) :
    Calls Tryd.prog 60 #[.agg #[iV d, iV x, iV y]] w (Ret fun v w' => v = .tuple #[.agg #[iV (x * side d - 2097152 - side d / 2), iV (y * side d - 2097152 - side d / 2), iV (x * side d - 2097152 + side d + side d / 2), iV (y * side d - 2097152 + side d + side d / 2)], .nilIface] ∧ Keep Nn w w') := by
 refine sxenter (n := 46) (args := [.agg #[iV d, iV x, iV y]]) Tryd.func60 rfl rfl rfl fun a hf => ?_
 replace hf : Fr 46 [(0, .val (.agg #[iV d, iV x, iV y]))] a := hf
 have hM : MemOk [] w := MemOk.nil w
 have hk0 : Keep Nn w w := Keep.refl _ _
 have hc := cellRight_iff.1 hn0
 have hs := side_bd (d := d) (by omega)
 have hx := mul_side (d := d) (x := x) (by omega) (by omega)
 have hy := mul_side (d := d) (x := y) (by omega) (by omega)
 refine wp_seq_k (fun K1 hK1 => ?_)
 refine wp_region_lit ?_
 refine q1 hf hM [] [{ os := [.nw] }, { os := [.nw] }, {}] (nw := fun B1 => [(3, .val (.nilIface)), (2, eP (B1 + 1) 0), (1, eP B1 0)]) (M' := fun B1 => [⟨B1, 29, [iV d, iV x, iV y]⟩, ⟨B1 + 1, 32, [iV 0, iV 0, iV 0, iV 0]⟩]) (ob := fun B1 => []) (fun B1 => An) ?_
 clear hf hM; intro a w1 B1 hf hM hB hk
 have hbB1 : w.heap.size ≤ B1 := by have := hk0.size; omega
 have hk0 := hk0.then hk (by intro i _ h; cases h)
 clear hk hB
 refine wpList_nil ?_
 refine hK1 _ _ ?_
 refine wp_seq_k (fun K2 hK2 => ?_)
 refine wp_seq_k (fun K3 hK3 => ?_)
 refine wp_region_lit ?_
 refine q0 hf hM [3, 2, 1] [{ os := [.ld 0 0, .ld 0 1, .ld 0 2] }] (nw := [(7, .val (.agg #[iV d, iV x, iV y]))]) (ob := [Ad B1 0, Ad B1 1, Ad B1 2]) (Ac (ad _ _) (Ac (ad _ _) (Ao (ad _ _)))) ?_
 clear hf; intro a hf
 refine sxcall hf rfl rfl rfl rfl (g := 36) (vs := [.agg #[iV d, iV x, iV y]]) (ob := []) (by as_aux_lemma => kernel_rfl) An enters36 (cell_right d x y w1  ) ?_
 clear hf; rintro _ w2 a ⟨rfl, hk⟩ hf
 have hM := hM.keepNn hk
 have hk0 := hk0.trans hk.nn
 clear hk
 refine q0 hf hM [3, 2, 1] [{}] (nw := [(9, eB (!(cellRight d x y)))]) An ?_
 clear hf; intro a hf
 refine wpList_nil ?_
 refine hK3 _ _ ?_
 refine sxcond hf (b := !(cellRight d x y)) (by kernel_rfl) (fun h => absurd (h.symm.trans ((congrArg Bool.not hn0).trans rfl : (!(cellRight d x y) : Bool) = false)) (by simp)) (fun _ => ?_)
 refine wp_skip ?_
 refine hK2 _ _ ?_
 refine wp_seq_k (fun K4 hK4 => ?_)
 refine wp_region_lit ?_
 refine q0 hf hM [2, 1] [{}, { os := [.ld 0 0] }] (nw := [(13, eI d)]) (ob := [Ad B1 0]) (Ao (ad _ _)) ?_
 clear hf; intro a hf
 refine sxcall hf rfl rfl rfl rfl (g := 33) (vs := [iV d]) (ob := []) (by as_aux_lemma => kernel_rfl) An enters33 (side_any d w2  (by omega)) ?_
 clear hf; rintro _ w3 a ⟨rfl, hk⟩ hf
 have hM := hM.keepNn hk
 have hk0 := hk0.trans hk.nn
 clear hk
 refine q0 hf hM [2, 1] [{}] (nw := [(4, eI (side d))]) An ?_
 clear hf; intro a hf
 refine wpList_nil ?_
 refine hK4 _ _ ?_
 refine wp_seq_k (fun K5 hK5 => ?_)
 replace hM := hM.drew; replace hk0 := hk0.drew
 obtain ⟨Cq1, hCq1i, hCq1e⟩ := qcls fun w' => MemOk [⟨B1, 29, [iV d, iV x, iV y]⟩, ⟨B1 + 1, 32, [iV 0, iV 0, iV 0, iV 0]⟩] w' ∧ Keep Nn w w' ∧ True
 refine sxdraw (C := Cq1) (.leaf [(0, true), (1, true), (2, true), (3, true), (4, true), (5, true), (6, true), (7, true), (8, true), (9, true), (10, true), (11, true)]) (by kernel_rfl) (by kernel_rfl) (by as_aux_lemma => kernel_rfl) rfl (by as_aux_lemma => kernel_rfl) (by kernel_rfl) (hCq1i _ ⟨hM.sub (.cons_cons _ (.cons_cons _ .slnil)), hk0, trivial⟩) ?_
 refine sxleaf ?_
 have hC := (hCq1i _ ⟨hM.sub (.cons_cons _ (.cons_cons _ .slnil)), hk0, trivial⟩)
 refine qd hf hC (fun w' h => (hCq1e w' h).1) [4, 2] [{}, { os := [.ld 0 1] }, {}, { hint := some (iV (x * (side d))) }, { hint := some (iV ((x * (side d)) - 2097152)) }, {}, { os := [.ld 0 2] }, {}, { hint := some (iV (y * (side d))) }, { hint := some (iV ((y * (side d)) - 2097152)) }, {}, {}] (nw := [(6, eI ((y * (side d)) - 2097152)), (5, eI ((x * (side d)) - 2097152))]) (ob := [Ad B1 1, (iV (IntKind.i64.wrap (x * (side d))) : Value) = (iV (x * (side d)) : Value), (iV (IntKind.i64.wrap ((x * (side d)) - 2097152)) : Value) = (iV ((x * (side d)) - 2097152) : Value), Ad B1 2, (iV (IntKind.i64.wrap (y * (side d))) : Value) = (iV (y * (side d)) : Value), (iV (IntKind.i64.wrap ((y * (side d)) - 2097152)) : Value) = (iV ((y * (side d)) - 2097152) : Value)]) (Ac (ad _ _) (Ac (wr (by omega)) (Ac (wr (by omega)) (Ac (ad _ _) (Ac (wr (by omega)) (Ao (wr (by omega)))))))) ?_
 clear hf; intro a hf
 clear hC
 show K5 _ _
 refine hK5 _ _ ?_
 refine wp_seq_k (fun K6 hK6 => ?_)
 refine wp_region_lit ?_
 refine q1 hf hM [2] [{}, {}, { sp := true, hint := some (iV (side d / 2)) }, { hint := some (iV (((x * (side d)) - 2097152) - (side d / 2))) }, {}, {}, { sp := true, hint := some (iV (side d / 2)) }, { hint := some (iV (((y * (side d)) - 2097152) - (side d / 2))) }, {}, {}, { hint := some (iV (((x * (side d)) - 2097152) + (side d))) }, {}, { sp := true, hint := some (iV (side d / 2)) }, { hint := some (iV ((((x * (side d)) - 2097152) + (side d)) + (side d / 2))) }, {}, {}, { hint := some (iV (((y * (side d)) - 2097152) + (side d))) }, {}, { sp := true, hint := some (iV (side d / 2)) }, { hint := some (iV ((((y * (side d)) - 2097152) + (side d)) + (side d / 2))) }, { sp := true }, { os := [.st 1 0, .st 1 1, .st 1 2, .st 1 3] }, {}] (nw := fun B6 => [(3, .val (.nilIface))]) (M' := fun B6 => [⟨B1, 29, [iV d, iV x, iV y]⟩, ⟨B1 + 1, 32, [iV (((x * (side d)) - 2097152) - (side d / 2)), iV (((y * (side d)) - 2097152) - (side d / 2)), iV ((((x * (side d)) - 2097152) + (side d)) + (side d / 2)), iV ((((y * (side d)) - 2097152) + (side d)) + (side d / 2))]⟩]) (ob := fun B6 => [(2 : Int) ≠ 0, (iV (IntKind.i64.wrap (Int.tdiv (side d) 2)) : Value) = (iV (side d / 2) : Value), (iV (IntKind.i64.wrap (((x * (side d)) - 2097152) - (side d / 2))) : Value) = (iV (((x * (side d)) - 2097152) - (side d / 2)) : Value), (2 : Int) ≠ 0, (iV (IntKind.i64.wrap (Int.tdiv (side d) 2)) : Value) = (iV (side d / 2) : Value), (iV (IntKind.i64.wrap (((y * (side d)) - 2097152) - (side d / 2))) : Value) = (iV (((y * (side d)) - 2097152) - (side d / 2)) : Value), (iV (IntKind.i64.wrap (((x * (side d)) - 2097152) + (side d))) : Value) = (iV (((x * (side d)) - 2097152) + (side d)) : Value), (2 : Int) ≠ 0, (iV (IntKind.i64.wrap (Int.tdiv (side d) 2)) : Value) = (iV (side d / 2) : Value), (iV (IntKind.i64.wrap ((((x * (side d)) - 2097152) + (side d)) + (side d / 2))) : Value) = (iV ((((x * (side d)) - 2097152) + (side d)) + (side d / 2)) : Value), (iV (IntKind.i64.wrap (((y * (side d)) - 2097152) + (side d))) : Value) = (iV (((y * (side d)) - 2097152) + (side d)) : Value), (2 : Int) ≠ 0, (iV (IntKind.i64.wrap (Int.tdiv (side d) 2)) : Value) = (iV (side d / 2) : Value), (iV (IntKind.i64.wrap ((((y * (side d)) - 2097152) + (side d)) + (side d / 2))) : Value) = (iV ((((y * (side d)) - 2097152) + (side d)) + (side d / 2)) : Value), Ad (B1 + 1) 0, Ad (B1 + 1) 1, Ad (B1 + 1) 2, Ad (B1 + 1) 3]) (fun B6 => (Ac (by omega) (Ac (quo2 (by omega)) (Ac (wr (by omega)) (Ac (by omega) (Ac (quo2 (by omega)) (Ac (wr (by omega)) (Ac (wr (by omega)) (Ac (by omega) (Ac (quo2 (by omega)) (Ac (wr (by omega)) (Ac (wr (by omega)) (Ac (by omega) (Ac (quo2 (by omega)) (Ac (wr (by omega)) (Ac (ad _ _) (Ac (ad _ _) (Ac (ad _ _) (Ao (ad _ _)))))))))))))))))))) ?_
 clear hf hM; intro a w4 B6 hf hM hB hk
 have hbB6 : w.heap.size ≤ B6 := by have := hk0.size; omega
 have hk0 := hk0.thenNew hk (by simp [Mem.names] <;> omega)
 clear hk hB
 refine wpList_nil ?_
 refine hK6 _ _ ?_
 refine wp_ret ?_
 refine qr (fn := Tryd.f60) hf hM [.ld 1 0, .ld 1 1, .ld 1 2, .ld 1 3] (l := [.agg #[iV (((x * (side d)) - 2097152) - (side d / 2)), iV (((y * (side d)) - 2097152) - (side d / 2)), iV ((((x * (side d)) - 2097152) + (side d)) + (side d / 2)), iV ((((y * (side d)) - 2097152) + (side d)) + (side d / 2))], .nilIface]) (ob := [Ad (B1 + 1) 0, Ad (B1 + 1) 1, Ad (B1 + 1) 2, Ad (B1 + 1) 3]) (Ac (ad _ _) (Ac (ad _ _) (Ac (ad _ _) (Ao (ad _ _))))) ?_
 show (.tuple #[.agg #[iV (((x * (side d)) - 2097152) - (side d / 2)), iV (((y * (side d)) - 2097152) - (side d / 2)), iV ((((x * (side d)) - 2097152) + (side d)) + (side d / 2)), iV ((((y * (side d)) - 2097152) + (side d)) + (side d / 2))], .nilIface] : Value) = .tuple #[.agg #[iV (x * side d - 2097152 - side d / 2), iV (y * side d - 2097152 - side d / 2), iV (x * side d - 2097152 + side d + side d / 2), iV (y * side d - 2097152 + side d + side d / 2)], .nilIface] ∧ Keep Nn w w4
 exact ⟨rfl, hk0⟩

set_option maxRecDepth 10000 in
set_option maxHeartbeats 1600000 in
theorem loose_no (E : Nat → Addr) (d x y : Int) (w : World) (hn0 : (cellRight d x y) = false) (hG : Errs [1, 3, 0] w 161 E) :
    Calls Tryd.prog 60 #[.agg #[iV d, iV x, iV y]] w (Ret fun v w' => v = .tuple #[.agg #[.int .i64 0, .int .i64 0, .int .i64 0, .int .i64 0], .iface 161 (.pointer (some (E 1)))] ∧ Keep Nn w w') := by
 refine sxenter (n := 46) (args := [.agg #[iV d, iV x, iV y]]) Tryd.func60 rfl rfl rfl fun a hf => ?_
 replace hf : Fr 46 [(0, .val (.agg #[iV d, iV x, iV y]))] a := hf
 have hM : MemOk [] w := MemOk.nil w
 have hk0 : Keep Nn w w := Keep.refl _ _
 refine wp_seq_k (fun K1 hK1 => ?_)
 refine wp_region_lit ?_
 refine q1 hf hM [] [{ os := [.nw] }, { os := [.nw] }, {}] (nw := fun B1 => [(3, .val (.nilIface)), (2, eP (B1 + 1) 0), (1, eP B1 0)]) (M' := fun B1 => [⟨B1, 29, [iV d, iV x, iV y]⟩, ⟨B1 + 1, 32, [iV 0, iV 0, iV 0, iV 0]⟩]) (ob := fun B1 => []) (fun B1 => An) ?_
 clear hf hM; intro a w1 B1 hf hM hB hk
 have hbB1 : w.heap.size ≤ B1 := by have := hk0.size; omega
 have hk0 := hk0.then hk (by intro i _ h; cases h)
 clear hk hB
 refine wpList_nil ?_
 refine hK1 _ _ ?_
 refine wp_seq_k (fun K2 hK2 => ?_)
 refine wp_seq_k (fun K3 hK3 => ?_)
 refine wp_region_lit ?_
 refine q0 hf hM [3, 2, 1] [{ os := [.ld 0 0, .ld 0 1, .ld 0 2] }] (nw := [(7, .val (.agg #[iV d, iV x, iV y]))]) (ob := [Ad B1 0, Ad B1 1, Ad B1 2]) (Ac (ad _ _) (Ac (ad _ _) (Ao (ad _ _)))) ?_
 clear hf; intro a hf
 refine sxcall hf rfl rfl rfl rfl (g := 36) (vs := [.agg #[iV d, iV x, iV y]]) (ob := []) (by as_aux_lemma => kernel_rfl) An enters36 (cell_right d x y w1  ) ?_
 clear hf; rintro _ w2 a ⟨rfl, hk⟩ hf
 have hM := hM.keepNn hk
 have hk0 := hk0.trans hk.nn
 clear hk
 refine q0 hf hM [3, 2, 1] [{}] (nw := [(9, eB (!(cellRight d x y)))]) An ?_
 clear hf; intro a hf
 refine wpList_nil ?_
 refine hK3 _ _ ?_
 refine sxcond hf (b := !(cellRight d x y)) (by kernel_rfl) (fun _ => ?_) (fun h => absurd (h.symm.trans ((congrArg Bool.not hn0).trans rfl : (!(cellRight d x y) : Bool) = true)) (by simp))
 refine wp_seq_k (fun K4 hK4 => ?_)
 replace hM := hM.drew; replace hk0 := hk0.drew
 obtain ⟨Cq1, hCq1i, hCq1e⟩ := qcls fun w' => MemOk [⟨B1, 29, [iV d, iV x, iV y]⟩] w' ∧ Keep Nn w w' ∧ True
 refine sxdraw (C := Cq1) (.leaf [(0, true), (1, true), (2, false), (3, true)]) (by kernel_rfl) (by kernel_rfl) (by as_aux_lemma => kernel_rfl) rfl (by as_aux_lemma => kernel_rfl) (by kernel_rfl) (hCq1i _ ⟨hM.sub (.cons_cons _ (.cons _ .slnil)), hk0, trivial⟩) ?_
 refine sxleaf ?_
 have hC := (hCq1i _ ⟨hM.sub (.cons_cons _ (.cons _ .slnil)), hk0, trivial⟩)
 refine qd hf hC (fun w' h => (hCq1e w' h).1) [3, 2] [{ sp := true }, { os := [.ex (.iface 161 (.pointer (some (E 1))))] }] (nw := [(11, .val (.iface 161 (.pointer (some (E 1))))), (10, .val (.agg #[iV 0, iV 0, iV 0, iV 0]))]) (ob := [(∀ w', Cq1 w' → w'.cell? ⟨1, 0, none⟩ = some (.iface 161 (.pointer (some (E 1)))))]) (Ao (fun w' hc => by obtain ⟨hM, hk0, hO⟩ := hCq1e w' hc; exact (hk0.cell (hG.cell 1 (by decide)) (fun h => h)))) ?_
 clear hf; intro a hf
 refine scstep rfl ?_
 have hMs : MemOk [⟨B1 + 1, 32, [iV 0, iV 0, iV 0, iV 0]⟩] w2.drew := hM.sub (.cons _ (.cons_cons _ .slnil))
 refine q1 hf hMs [11, 3, 2] [{ os := [.st 0 0, .st 0 1, .st 0 2, .st 0 3] }] (nw := fun B4 => []) (M' := fun B4 => [⟨B1 + 1, 32, [iV 0, iV 0, iV 0, iV 0]⟩]) (ob := fun B4 => [Ad (B1 + 1) 0, Ad (B1 + 1) 1, Ad (B1 + 1) 2, Ad (B1 + 1) 3]) (fun B4 => (Ac (ad _ _) (Ac (ad _ _) (Ac (ad _ _) (Ao (ad _ _)))))) ?_
 clear hf hMs; intro a w3 B4 hf hMs hB hk; clear hB
 have hM : MemOk [⟨B1, 29, [iV d, iV x, iV y]⟩, ⟨B1 + 1, 32, [iV 0, iV 0, iV 0, iV 0]⟩] w3 := MemOk.upd (M1 := [⟨B1, 29, [iV d, iV x, iV y]⟩]) (M2 := []) hM hk hMs rfl
 have hk0 := hk0.thenNew hk (by simp [Mem.names] <;> omega)
 clear hk hMs
 have hC := (hCq1i _ ⟨hM.sub (.cons_cons _ (.cons _ .slnil)), hk0, trivial⟩)
 refine scdone hC ?_
 refine qd hf hC (fun w' h => (hCq1e w' h).1) [2] [{}] (nw := [(3, .val (.iface 161 (.pointer (some (E 1)))))]) An ?_
 clear hf; intro a hf
 clear hC
 show K4 _ _
 refine hK4 _ _ ?_
 refine wp_ret ?_
 refine qr (fn := Tryd.f60) hf hM [.ld 1 0, .ld 1 1, .ld 1 2, .ld 1 3] (l := [.agg #[iV 0, iV 0, iV 0, iV 0], .iface 161 (.pointer (some (E 1)))]) (ob := [Ad (B1 + 1) 0, Ad (B1 + 1) 1, Ad (B1 + 1) 2, Ad (B1 + 1) 3]) (Ac (ad _ _) (Ac (ad _ _) (Ac (ad _ _) (Ao (ad _ _))))) ?_
 show (.tuple #[.agg #[iV 0, iV 0, iV 0, iV 0], .iface 161 (.pointer (some (E 1)))] : Value) = .tuple #[.agg #[.int .i64 0, .int .i64 0, .int .i64 0, .int .i64 0], .iface 161 (.pointer (some (E 1)))] ∧ Keep Nn w w3
 exact ⟨rfl, hk0⟩

set_option maxRecDepth 10000 in
set_option maxHeartbeats 1600000 in
theorem up_ok (d x y : Int) (w : World) (hn0 : (cellRight d x y) = true) (hn1 : (d == 0) = false) :
    Calls Tryd.prog 15 #[.agg #[iV d, iV x, iV y]] w (Ret fun v w' => v = .tuple #[.agg #[iV (d - 1), iV (x / 2), iV (y / 2)], .bool true] ∧ Keep Nn w w') := by
 refine sxenter (n := 23) (args := [.agg #[iV d, iV x, iV y]]) Tryd.func15 rfl rfl rfl fun a hf => ?_
 replace hf : Fr 23 [(0, .val (.agg #[iV d, iV x, iV y]))] a := hf
 have hM : MemOk [] w := MemOk.nil w
 have hk0 : Keep Nn w w := Keep.refl _ _
 have hc := cellRight_iff.1 hn0
 have hp := pow_bd (d := d) (by omega)
 have hd : d ≠ 0 := by simpa using hn1
 refine wp_seq_k (fun K1 hK1 => ?_)
 refine wp_region_lit ?_
 refine q1 hf hM [] [{ os := [.nw] }, { os := [.nw] }, {}] (nw := fun B1 => [(2, eP (B1 + 1) 0), (1, eP B1 0)]) (M' := fun B1 => [⟨B1, 29, [iV d, iV x, iV y]⟩, ⟨B1 + 1, 29, [iV 0, iV 0, iV 0]⟩]) (ob := fun B1 => []) (fun B1 => An) ?_
 clear hf hM; intro a w1 B1 hf hM hB hk
 have hbB1 : w.heap.size ≤ B1 := by have := hk0.size; omega
 have hk0 := hk0.then hk (by intro i _ h; cases h)
 clear hk hB
 refine wpList_nil ?_
 refine hK1 _ _ ?_
 refine wp_seq_k (fun K2 hK2 => ?_)
 refine wp_seq_k (fun K3 hK3 => ?_)
 refine wp_region_lit ?_
 refine q0 hf hM [2, 1] [{ os := [.ld 0 0, .ld 0 1, .ld 0 2] }] (nw := [(4, .val (.agg #[iV d, iV x, iV y]))]) (ob := [Ad B1 0, Ad B1 1, Ad B1 2]) (Ac (ad _ _) (Ac (ad _ _) (Ao (ad _ _)))) ?_
 clear hf; intro a hf
 refine sxcall hf rfl rfl rfl rfl (g := 36) (vs := [.agg #[iV d, iV x, iV y]]) (ob := []) (by as_aux_lemma => kernel_rfl) An enters36 (cell_right d x y w1  ) ?_
 clear hf; rintro _ w2 a ⟨rfl, hk⟩ hf
 have hM := hM.keepNn hk
 have hk0 := hk0.trans hk.nn
 clear hk
 refine q0 hf hM [2, 1] [{}, {}] (nw := [(7, eB (!(cellRight d x y)))]) An ?_
 clear hf; intro a hf
 have hf := hf.setb 7 ((congrArg Bool.not hn0).trans rfl : (!(cellRight d x y) : Bool) = false)
 refine q0 hf hM [2, 1] [{}, { os := [.ld 0 0] }, {}, {}] (nw := [(11, eB ((d : Int) == 0))]) (ob := [false = false, false = false, Ad B1 0, false = false]) (Ac rfl (Ac rfl (Ac (ad _ _) (Ao rfl)))) ?_
 clear hf; intro a hf
 refine wpList_nil ?_
 refine hK3 _ _ ?_
 refine qc hf (b := ((d : Int) == 0)) (fun hc1r => ?_) (fun hc1r => ?_)
 · have hc1 := hc1r
   simp [hn0, hd] at hc1
   done
 · have hc1 := hc1r
   simp [hn0, hd] at hc1
   refine wp_skip ?_
   refine hK2 _ _ ?_
   refine wp_seq_k (fun K4 hK4 => ?_)
   refine wp_region_lit ?_
   refine q1 hf hM [2] [{}, { os := [.ld 0 0] }, { hint := some (iV (d - 1)) }, {}, { os := [.ld 0 1] }, { sp := true, hint := some (iV (x / 2)) }, {}, { os := [.ld 0 2] }, { sp := true, hint := some (iV (y / 2)) }, { sp := true }, { os := [.st 1 0, .st 1 1, .st 1 2] }, {}] (nw := fun B5 => [(3, eB true)]) (M' := fun B5 => [⟨B1, 29, [iV d, iV x, iV y]⟩, ⟨B1 + 1, 29, [iV (d - 1), iV (x / 2), iV (y / 2)]⟩]) (ob := fun B5 => [Ad B1 0, (iV (IntKind.i64.wrap (d - 1)) : Value) = (iV (d - 1) : Value), Ad B1 1, (2 : Int) ≠ 0, (iV (IntKind.i64.wrap (Int.tdiv x 2)) : Value) = (iV (x / 2) : Value), Ad B1 2, (2 : Int) ≠ 0, (iV (IntKind.i64.wrap (Int.tdiv y 2)) : Value) = (iV (y / 2) : Value), Ad (B1 + 1) 0, Ad (B1 + 1) 1, Ad (B1 + 1) 2]) (fun B5 => (Ac (ad _ _) (Ac (wr (by omega)) (Ac (ad _ _) (Ac (by omega) (Ac (quo2 (by omega)) (Ac (ad _ _) (Ac (by omega) (Ac (quo2 (by omega)) (Ac (ad _ _) (Ac (ad _ _) (Ao (ad _ _))))))))))))) ?_
   clear hf hM; intro a w3 B5 hf hM hB hk
   have hbB5 : w.heap.size ≤ B5 := by have := hk0.size; omega
   have hk0 := hk0.thenNew hk (by simp [Mem.names] <;> omega)
   clear hk hB
   refine wpList_nil ?_
   refine hK4 _ _ ?_
   refine wp_ret ?_
   refine qr (fn := Tryd.f15) hf hM [.ld 1 0, .ld 1 1, .ld 1 2] (l := [.agg #[iV (d - 1), iV (x / 2), iV (y / 2)], bV true]) (ob := [Ad (B1 + 1) 0, Ad (B1 + 1) 1, Ad (B1 + 1) 2]) (Ac (ad _ _) (Ac (ad _ _) (Ao (ad _ _)))) ?_
   show (.tuple #[.agg #[iV (d - 1), iV (x / 2), iV (y / 2)], bV true] : Value) = .tuple #[.agg #[iV (d - 1), iV (x / 2), iV (y / 2)], .bool true] ∧ Keep Nn w w3
   exact ⟨rfl, hk0⟩

set_option maxRecDepth 10000 in
set_option maxHeartbeats 1600000 in
theorem up_no (d x y : Int) (w : World) (hn0 : (upOk d x y) = false) :
    Calls Tryd.prog 15 #[.agg #[iV d, iV x, iV y]] w (Ret fun v w' => v = .tuple #[.agg #[.int .i64 0, .int .i64 0, .int .i64 0], .bool false] ∧ Keep Nn w w') := by
 refine sxenter (n := 23) (args := [.agg #[iV d, iV x, iV y]]) Tryd.func15 rfl rfl rfl fun a hf => ?_
 replace hf : Fr 23 [(0, .val (.agg #[iV d, iV x, iV y]))] a := hf
 have hM : MemOk [] w := MemOk.nil w
 have hk0 : Keep Nn w w := Keep.refl _ _
 refine wp_seq_k (fun K1 hK1 => ?_)
 refine wp_region_lit ?_
 refine q1 hf hM [] [{ os := [.nw] }, { os := [.nw] }, {}] (nw := fun B1 => [(2, eP (B1 + 1) 0), (1, eP B1 0)]) (M' := fun B1 => [⟨B1, 29, [iV d, iV x, iV y]⟩, ⟨B1 + 1, 29, [iV 0, iV 0, iV 0]⟩]) (ob := fun B1 => []) (fun B1 => An) ?_
 clear hf hM; intro a w1 B1 hf hM hB hk
 have hbB1 : w.heap.size ≤ B1 := by have := hk0.size; omega
 have hk0 := hk0.then hk (by intro i _ h; cases h)
 clear hk hB
 refine wpList_nil ?_
 refine hK1 _ _ ?_
 refine wp_seq_k (fun K2 hK2 => ?_)
 refine wp_seq_k (fun K3 hK3 => ?_)
 refine wp_region_lit ?_
 refine q0 hf hM [2, 1] [{ os := [.ld 0 0, .ld 0 1, .ld 0 2] }] (nw := [(4, .val (.agg #[iV d, iV x, iV y]))]) (ob := [Ad B1 0, Ad B1 1, Ad B1 2]) (Ac (ad _ _) (Ac (ad _ _) (Ao (ad _ _)))) ?_
 clear hf; intro a hf
 refine sxcall hf rfl rfl rfl rfl (g := 36) (vs := [.agg #[iV d, iV x, iV y]]) (ob := []) (by as_aux_lemma => kernel_rfl) An enters36 (cell_right d x y w1  ) ?_
 clear hf; rintro _ w2 a ⟨rfl, hk⟩ hf
 have hM := hM.keepNn hk
 have hk0 := hk0.trans hk.nn
 clear hk
 refine q0 hf hM [2, 1] [{}, {}, { g := .sym }, { g := .sym, os := [.ld 0 0] }, { g := .sym }, { hint := some (bV ((!(cellRight d x y)) || ((d : Int) == 0))) }] (nw := [(11, eB ((!(cellRight d x y)) || ((d : Int) == 0)))]) (ob := [((!(cellRight d x y)) = false → (!(cellRight d x y)) = (!(cellRight d x y))), ((!(cellRight d x y)) = false → Ad B1 0), ((!(cellRight d x y)) = false → (!(cellRight d x y)) = (!(cellRight d x y))), ((!(cellRight d x y)) = false → (!(cellRight d x y)) = (!(cellRight d x y))), (bif !(cellRight d x y) then (bV true : Value) else bV ((d : Int) == 0)) = .bool ((!(cellRight d x y)) || ((d : Int) == 0))]) (Ac (fun hgd => rfl) (Ac (fun hgd => ad _ _) (Ac (fun hgd => rfl) (Ac (fun _ => rfl) (Ao (pick_or _ _)))))) ?_
 clear hf; intro a hf
 refine wpList_nil ?_
 refine hK3 _ _ ?_
 refine qc hf (b := ((!(cellRight d x y)) || ((d : Int) == 0))) (fun hc1r => ?_) (fun hc1r => ?_)
 · have hc1 := hc1r
   simp [upOk] at hn0 hc1
   refine wp_seq_k (fun K4 hK4 => ?_)
   refine wp_region_lit ?_
   refine q1 hf hM [2] [{ sp := true }, { os := [.st 1 0, .st 1 1, .st 1 2] }, {}] (nw := fun B4 => [(3, eB false)]) (M' := fun B4 => [⟨B1, 29, [iV d, iV x, iV y]⟩, ⟨B1 + 1, 29, [iV 0, iV 0, iV 0]⟩]) (ob := fun B4 => [Ad (B1 + 1) 0, Ad (B1 + 1) 1, Ad (B1 + 1) 2]) (fun B4 => (Ac (ad _ _) (Ac (ad _ _) (Ao (ad _ _))))) ?_
   clear hf hM; intro a w3 B4 hf hM hB hk
   have hbB4 : w.heap.size ≤ B4 := by have := hk0.size; omega
   have hk0 := hk0.thenNew hk (by simp [Mem.names] <;> omega)
   clear hk hB
   refine wpList_nil ?_
   refine hK4 _ _ ?_
   refine wp_ret ?_
   refine qr (fn := Tryd.f15) hf hM [.ld 1 0, .ld 1 1, .ld 1 2] (l := [.agg #[iV 0, iV 0, iV 0], bV false]) (ob := [Ad (B1 + 1) 0, Ad (B1 + 1) 1, Ad (B1 + 1) 2]) (Ac (ad _ _) (Ac (ad _ _) (Ao (ad _ _)))) ?_
   show (.tuple #[.agg #[iV 0, iV 0, iV 0], bV false] : Value) = .tuple #[.agg #[.int .i64 0, .int .i64 0, .int .i64 0], .bool false] ∧ Keep Nn w w3
   exact ⟨rfl, hk0⟩
 · have hc1 := hc1r
   simp [upOk] at hn0 hc1
   exact ((hn0 hc1.1) |> hc1.2).elim

set_option maxRecDepth 10000 in
set_option maxHeartbeats 1600000 in
theorem of_form (E : Nat → Addr) (x0 y0 x1 y1 : Int) (w : World) (hn0 : (boxRight x0 y0 x1 y1) = false) (hG : Errs [1, 3, 0] w 161 E) :
    Calls Tryd.prog 13 #[.agg #[iV x0, iV y0, iV x1, iV y1]] w (Ret fun v w' => v = .tuple #[.agg #[iV 0, iV 0, iV 0], .iface 161 (.pointer (some (E 0)))] ∧ Keep Nn w w') := by
 refine sxenter (n := 76) (args := [.agg #[iV x0, iV y0, iV x1, iV y1]]) Tryd.func13 rfl rfl rfl fun a hf => ?_
 replace hf : Fr 76 [(0, .val (.agg #[iV x0, iV y0, iV x1, iV y1]))] a := hf
 have hM : MemOk [] w := MemOk.nil w
 have hk0 : Keep Nn w w := Keep.refl _ _
 refine wp_seq_k (fun K1 hK1 => ?_)
 refine wp_region_lit ?_
 refine q1 hf hM [] [{ os := [.nw] }, { os := [.nw] }, {}] (nw := fun B1 => [(3, .val (.nilIface)), (2, eP (B1 + 1) 0), (1, eP B1 0)]) (M' := fun B1 => [⟨B1, 32, [iV x0, iV y0, iV x1, iV y1]⟩, ⟨B1 + 1, 29, [iV 0, iV 0, iV 0]⟩]) (ob := fun B1 => []) (fun B1 => An) ?_
 clear hf hM; intro a w1 B1 hf hM hB hk
 have hbB1 : w.heap.size ≤ B1 := by have := hk0.size; omega
 have hk0 := hk0.then hk (by intro i _ h; cases h)
 clear hk hB
 refine wpList_nil ?_
 refine hK1 _ _ ?_
 refine wp_seq_k (fun K2 hK2 => ?_)
 refine wp_region_lit ?_
 refine q0 hf hM [3, 2, 1] [{ os := [.ld 0 0, .ld 0 1, .ld 0 2, .ld 0 3] }] (nw := [(9, .val (.agg #[iV x0, iV y0, iV x1, iV y1]))]) (ob := [Ad B1 0, Ad B1 1, Ad B1 2, Ad B1 3]) (Ac (ad _ _) (Ac (ad _ _) (Ac (ad _ _) (Ao (ad _ _))))) ?_
 clear hf; intro a hf
 refine sxcall hf rfl rfl rfl rfl (g := 30) (vs := [.agg #[iV x0, iV y0, iV x1, iV y1]]) (ob := []) (by as_aux_lemma => kernel_rfl) An enters30 (centre_no E x0 y0 x1 y1 w1 hn0 (hG.keep hk0 (fun _ h => h))) ?_
 clear hf; rintro _ w2 a ⟨rfl, hk⟩ hf
 have hM := hM.keepNn hk
 have hk0 := hk0.trans hk.nn
 clear hk
 refine q1 hf hM [3, 2, 1] [{}, {}, {}, { os := [.nw] }, { os := [.st 2 0, .st 2 1] }, {}] (nw := fun B3 => [(5, .val (.iface 161 (.pointer (some (E 0))))), (4, eP B3 0)]) (M' := fun B3 => [⟨B1, 32, [iV x0, iV y0, iV x1, iV y1]⟩, ⟨B1 + 1, 29, [iV 0, iV 0, iV 0]⟩, ⟨B3, 46, [iV 0, iV 0]⟩]) (ob := fun B3 => [Ad B3 0, Ad B3 1]) (fun B3 => (Ac (ad _ _) (Ao (ad _ _)))) ?_
 clear hf hM; intro a w3 B3 hf hM hB hk
 have hbB3 : w.heap.size ≤ B3 := by have := hk0.size; omega
 have hk0 := hk0.thenNew hk (by simp [Mem.names] <;> omega)
 clear hk hB
 refine wpList_nil ?_
 refine hK2 _ _ ?_
 refine wp_seq_k (fun K3 hK3 => ?_)
 refine wp_block ?_
 refine wp_seq_k (fun K4 hK4 => ?_)
 refine wp_region_lit ?_
 refine q0 hf hM [4, 3, 2, 1] [{}, {}, {}] (nw := [(13, eB true)]) An ?_
 clear hf; intro a hf
 refine wpList_nil ?_
 refine hK4 _ _ ?_
 refine sxcond hf (b := true) (by kernel_rfl) (fun _ => ?_) (fun h => by cases h)
 refine wp_seq_k (fun K5 hK5 => ?_)
 replace hM := hM.drew; replace hk0 := hk0.drew
 obtain ⟨Cq1, hCq1i, hCq1e⟩ := qcls fun w' => MemOk [⟨B1, 32, [iV x0, iV y0, iV x1, iV y1]⟩, ⟨B3, 46, [iV 0, iV 0]⟩] w' ∧ Keep Nn w w' ∧ True
 refine sxdraw (C := Cq1) (.leaf [(0, true), (1, true), (2, false), (3, true)]) (by kernel_rfl) (by kernel_rfl) (by as_aux_lemma => kernel_rfl) rfl (by as_aux_lemma => kernel_rfl) (by kernel_rfl) (hCq1i _ ⟨hM.sub (.cons_cons _ (.cons _ (.cons_cons _ .slnil))), hk0, trivial⟩) ?_
 refine sxleaf ?_
 have hC := (hCq1i _ ⟨hM.sub (.cons_cons _ (.cons _ (.cons_cons _ .slnil))), hk0, trivial⟩)
 refine qd hf hC (fun w' h => (hCq1e w' h).1) [3, 2] [{ sp := true }, { os := [.ex (.iface 161 (.pointer (some (E 0))))] }] (nw := [(17, .val (.iface 161 (.pointer (some (E 0))))), (16, .val (.agg #[iV 0, iV 0, iV 0]))]) (ob := [(∀ w', Cq1 w' → w'.cell? ⟨0, 0, none⟩ = some (.iface 161 (.pointer (some (E 0)))))]) (Ao (fun w' hc => by obtain ⟨hM, hk0, hO⟩ := hCq1e w' hc; exact (hk0.cell (hG.cell 0 (by decide)) (fun h => h)))) ?_
 clear hf; intro a hf
 refine scstep rfl ?_
 have hMs : MemOk [⟨B1 + 1, 29, [iV 0, iV 0, iV 0]⟩] w3.drew := hM.sub (.cons _ (.cons_cons _ (.cons _ .slnil)))
 refine q1 hf hMs [17, 3, 2] [{ os := [.st 0 0, .st 0 1, .st 0 2] }] (nw := fun B5 => []) (M' := fun B5 => [⟨B1 + 1, 29, [iV 0, iV 0, iV 0]⟩]) (ob := fun B5 => [Ad (B1 + 1) 0, Ad (B1 + 1) 1, Ad (B1 + 1) 2]) (fun B5 => (Ac (ad _ _) (Ac (ad _ _) (Ao (ad _ _))))) ?_
 clear hf hMs; intro a w4 B5 hf hMs hB hk; clear hB
 have hM : MemOk [⟨B1, 32, [iV x0, iV y0, iV x1, iV y1]⟩, ⟨B1 + 1, 29, [iV 0, iV 0, iV 0]⟩, ⟨B3, 46, [iV 0, iV 0]⟩] w4 := MemOk.upd (M1 := [⟨B1, 32, [iV x0, iV y0, iV x1, iV y1]⟩]) (M2 := [⟨B3, 46, [iV 0, iV 0]⟩]) hM hk hMs rfl
 have hk0 := hk0.thenNew hk (by simp [Mem.names] <;> omega)
 clear hk hMs
 have hC := (hCq1i _ ⟨hM.sub (.cons_cons _ (.cons _ (.cons_cons _ .slnil))), hk0, trivial⟩)
 refine scdone hC ?_
 refine qd hf hC (fun w' h => (hCq1e w' h).1) [2] [{}] (nw := [(3, .val (.iface 161 (.pointer (some (E 0)))))]) An ?_
 clear hf; intro a hf
 clear hC
 show K5 _ _
 refine hK5 _ _ ?_
 refine wp_ret ?_
 refine qr (fn := Tryd.f13) hf hM [.ld 1 0, .ld 1 1, .ld 1 2] (l := [.agg #[iV 0, iV 0, iV 0], .iface 161 (.pointer (some (E 0)))]) (ob := [Ad (B1 + 1) 0, Ad (B1 + 1) 1, Ad (B1 + 1) 2]) (Ac (ad _ _) (Ac (ad _ _) (Ao (ad _ _)))) ?_
 show (.tuple #[.agg #[iV 0, iV 0, iV 0], .iface 161 (.pointer (some (E 0)))] : Value) = .tuple #[.agg #[iV 0, iV 0, iV 0], .iface 161 (.pointer (some (E 0)))] ∧ Keep Nn w w4
 exact ⟨rfl, hk0⟩

set_option maxRecDepth 10000 in
set_option maxHeartbeats 1600000 in
theorem of_range (E : Nat → Addr) (x0 y0 x1 y1 : Int) (w : World) (hn0 : (boxRight x0 y0 x1 y1) = true) (hn1 : (inWorld x0 y0 x1 y1) = false) (hG : Errs [1, 3, 0] w 161 E) :
    Calls Tryd.prog 13 #[.agg #[iV x0, iV y0, iV x1, iV y1]] w (Ret fun v w' => v = .tuple #[.agg #[iV 0, iV 0, iV 0], .iface 161 (.pointer (some (E 1)))] ∧ Keep Nn w w') := by
 refine sxenter (n := 76) (args := [.agg #[iV x0, iV y0, iV x1, iV y1]]) Tryd.func13 rfl rfl rfl fun a hf => ?_
 replace hf : Fr 76 [(0, .val (.agg #[iV x0, iV y0, iV x1, iV y1]))] a := hf
 have hM : MemOk [] w := MemOk.nil w
 have hk0 : Keep Nn w w := Keep.refl _ _
 have hin : boxInside x0 y0 x1 y1 (-2097152) (-2097152) 2097152 2097152 = false := by rw [inside_world hn0]; exact hn1
 refine wp_seq_k (fun K1 hK1 => ?_)
 refine wp_region_lit ?_
 refine q1 hf hM [] [{ os := [.nw] }, { os := [.nw] }, {}] (nw := fun B1 => [(3, .val (.nilIface)), (2, eP (B1 + 1) 0), (1, eP B1 0)]) (M' := fun B1 => [⟨B1, 32, [iV x0, iV y0, iV x1, iV y1]⟩, ⟨B1 + 1, 29, [iV 0, iV 0, iV 0]⟩]) (ob := fun B1 => []) (fun B1 => An) ?_
 clear hf hM; intro a w1 B1 hf hM hB hk
 have hbB1 : w.heap.size ≤ B1 := by have := hk0.size; omega
 have hk0 := hk0.then hk (by intro i _ h; cases h)
 clear hk hB
 refine wpList_nil ?_
 refine hK1 _ _ ?_
 refine wp_seq_k (fun K2 hK2 => ?_)
 refine wp_region_lit ?_
 refine q0 hf hM [3, 2, 1] [{ os := [.ld 0 0, .ld 0 1, .ld 0 2, .ld 0 3] }] (nw := [(9, .val (.agg #[iV x0, iV y0, iV x1, iV y1]))]) (ob := [Ad B1 0, Ad B1 1, Ad B1 2, Ad B1 3]) (Ac (ad _ _) (Ac (ad _ _) (Ac (ad _ _) (Ao (ad _ _))))) ?_
 clear hf; intro a hf
 refine sxcall hf rfl rfl rfl rfl (g := 30) (vs := [.agg #[iV x0, iV y0, iV x1, iV y1]]) (ob := []) (by as_aux_lemma => kernel_rfl) An enters30 (centre_ok E x0 y0 x1 y1 w1 hn0 ) ?_
 clear hf; rintro _ w2 a ⟨rfl, hk⟩ hf
 have hM := hM.keepNn hk
 have hk0 := hk0.trans hk.nn
 clear hk
 refine q1 hf hM [3, 2, 1] [{}, {}, {}, { os := [.nw] }, { os := [.st 2 0, .st 2 1] }, {}] (nw := fun B3 => [(5, .val (.nilIface)), (4, eP B3 0)]) (M' := fun B3 => [⟨B1, 32, [iV x0, iV y0, iV x1, iV y1]⟩, ⟨B1 + 1, 29, [iV 0, iV 0, iV 0]⟩, ⟨B3, 46, [iV ((x0 + x1) / 2), iV ((y0 + y1) / 2)]⟩]) (ob := fun B3 => [Ad B3 0, Ad B3 1]) (fun B3 => (Ac (ad _ _) (Ao (ad _ _)))) ?_
 clear hf hM; intro a w3 B3 hf hM hB hk
 have hbB3 : w.heap.size ≤ B3 := by have := hk0.size; omega
 have hk0 := hk0.thenNew hk (by simp [Mem.names] <;> omega)
 clear hk hB
 refine wpList_nil ?_
 refine hK2 _ _ ?_
 refine wp_seq_k (fun K3 hK3 => ?_)
 refine wp_block ?_
 refine wp_seq_k (fun K4 hK4 => ?_)
 refine wp_region_lit ?_
 refine q0 hf hM [4, 3, 2, 1] [{}, {}, {}] (nw := [(13, eB false)]) An ?_
 clear hf; intro a hf
 refine wpList_nil ?_
 refine hK4 _ _ ?_
 refine sxcond hf (b := false) (by kernel_rfl) (fun h => by cases h) (fun _ => ?_)
 refine wp_seq_k (fun K5 hK5 => ?_)
 replace hM := hM.drew; replace hk0 := hk0.drew
 obtain ⟨Cq1, hCq1i, hCq1e⟩ := qcls fun w' => MemOk [⟨B1, 32, [iV x0, iV y0, iV x1, iV y1]⟩, ⟨B1 + 1, 29, [iV 0, iV 0, iV 0]⟩, ⟨B3, 46, [iV ((x0 + x1) / 2), iV ((y0 + y1) / 2)]⟩] w' ∧ Keep Nn w w' ∧ True
 refine sxdraw (C := Cq1) (.leaf [(0, true), (1, false), (2, false), (3, true), (4, true)]) (by kernel_rfl) (by kernel_rfl) (by as_aux_lemma => kernel_rfl) rfl (by as_aux_lemma => kernel_rfl) (by kernel_rfl) (hCq1i _ ⟨hM.sub (.cons_cons _ (.cons_cons _ (.cons_cons _ .slnil))), hk0, trivial⟩) ?_
 refine sxleaf ?_
 have hC := (hCq1i _ ⟨hM.sub (.cons_cons _ (.cons_cons _ (.cons_cons _ .slnil))), hk0, trivial⟩)
 refine qd hf hC (fun w' h => (hCq1e w' h).1) [4, 3, 2, 1] [{ os := [.ld 0 0, .ld 0 1, .ld 0 2, .ld 0 3] }] (nw := [(19, .val (.agg #[iV x0, iV y0, iV x1, iV y1]))]) (ob := [Ad B1 0, Ad B1 1, Ad B1 2, Ad B1 3]) (Ac (ad _ _) (Ac (ad _ _) (Ac (ad _ _) (Ao (ad _ _))))) ?_
 clear hf; intro a hf
 refine scstep rfl ?_
 refine sxcall hf rfl rfl rfl rfl (g := 32) (vs := []) (ob := []) (by as_aux_lemma => kernel_rfl) An enters32 (world_any  w3.drew  ) ?_
 clear hf; rintro _ w4 a ⟨rfl, hk⟩ hf
 have hM := hM.keepNn hk
 have hk0 := hk0.trans hk.nn
 clear hk
 have hC := (hCq1i _ ⟨hM.sub (.cons_cons _ (.cons_cons _ (.cons_cons _ .slnil))), hk0, trivial⟩)
 refine scdone hC ?_
 refine scstep rfl ?_
 refine sxcall hf rfl rfl rfl rfl (g := 31) (vs := [.agg #[iV x0, iV y0, iV x1, iV y1], .agg #[iV (-2097152), iV (-2097152), iV 2097152, iV 2097152]]) (ob := []) (by as_aux_lemma => kernel_rfl) An enters31 (inside_any x0 y0 x1 y1 (-2097152) (-2097152) 2097152 2097152 w4  ) ?_
 clear hf; rintro _ w5 a ⟨rfl, hk⟩ hf
 have hM := hM.keepNn hk
 have hk0 := hk0.trans hk.nn
 clear hk
 have hC := (hCq1i _ ⟨hM.sub (.cons_cons _ (.cons_cons _ (.cons_cons _ .slnil))), hk0, trivial⟩)
 refine scdone hC ?_
 refine qd hf hC (fun w' h => (hCq1e w' h).1) [4, 3, 2, 1] [{}, {}] (nw := [(18, eB (!(boxInside x0 y0 x1 y1 (-2097152) (-2097152) 2097152 2097152)))]) An ?_
 clear hf; intro a hf
 clear hC
 show K5 _ _
 refine hK5 _ _ ?_
 refine sxcond hf (b := !(boxInside x0 y0 x1 y1 (-2097152) (-2097152) 2097152 2097152)) (by kernel_rfl) (fun _ => ?_) (fun h => absurd (h.symm.trans ((congrArg Bool.not hin).trans rfl : (!(boxInside x0 y0 x1 y1 (-2097152) (-2097152) 2097152 2097152) : Bool) = true)) (by simp))
 refine wp_seq_k (fun K6 hK6 => ?_)
 replace hM := hM.drew; replace hk0 := hk0.drew
 obtain ⟨Cq2, hCq2i, hCq2e⟩ := qcls fun w' => MemOk [⟨B1, 32, [iV x0, iV y0, iV x1, iV y1]⟩, ⟨B3, 46, [iV ((x0 + x1) / 2), iV ((y0 + y1) / 2)]⟩] w' ∧ Keep Nn w w' ∧ True
 refine sxdraw (C := Cq2) (.leaf [(0, true), (1, true), (2, false), (3, true)]) (by kernel_rfl) (by kernel_rfl) (by as_aux_lemma => kernel_rfl) rfl (by as_aux_lemma => kernel_rfl) (by kernel_rfl) (hCq2i _ ⟨hM.sub (.cons_cons _ (.cons _ (.cons_cons _ .slnil))), hk0, trivial⟩) ?_
 refine sxleaf ?_
 have hC := (hCq2i _ ⟨hM.sub (.cons_cons _ (.cons _ (.cons_cons _ .slnil))), hk0, trivial⟩)
 refine qd hf hC (fun w' h => (hCq2e w' h).1) [3, 2] [{ sp := true }, { os := [.ex (.iface 161 (.pointer (some (E 1))))] }] (nw := [(24, .val (.iface 161 (.pointer (some (E 1))))), (23, .val (.agg #[iV 0, iV 0, iV 0]))]) (ob := [(∀ w', Cq2 w' → w'.cell? ⟨1, 0, none⟩ = some (.iface 161 (.pointer (some (E 1)))))]) (Ao (fun w' hc => by obtain ⟨hM, hk0, hO⟩ := hCq2e w' hc; exact (hk0.cell (hG.cell 1 (by decide)) (fun h => h)))) ?_
 clear hf; intro a hf
 refine scstep rfl ?_
 have hMs : MemOk [⟨B1 + 1, 29, [iV 0, iV 0, iV 0]⟩] w5.drew := hM.sub (.cons _ (.cons_cons _ (.cons _ .slnil)))
 refine q1 hf hMs [24, 3, 2] [{ os := [.st 0 0, .st 0 1, .st 0 2] }] (nw := fun B5 => []) (M' := fun B5 => [⟨B1 + 1, 29, [iV 0, iV 0, iV 0]⟩]) (ob := fun B5 => [Ad (B1 + 1) 0, Ad (B1 + 1) 1, Ad (B1 + 1) 2]) (fun B5 => (Ac (ad _ _) (Ac (ad _ _) (Ao (ad _ _))))) ?_
 clear hf hMs; intro a w6 B5 hf hMs hB hk; clear hB
 have hM : MemOk [⟨B1, 32, [iV x0, iV y0, iV x1, iV y1]⟩, ⟨B1 + 1, 29, [iV 0, iV 0, iV 0]⟩, ⟨B3, 46, [iV ((x0 + x1) / 2), iV ((y0 + y1) / 2)]⟩] w6 := MemOk.upd (M1 := [⟨B1, 32, [iV x0, iV y0, iV x1, iV y1]⟩]) (M2 := [⟨B3, 46, [iV ((x0 + x1) / 2), iV ((y0 + y1) / 2)]⟩]) hM hk hMs rfl
 have hk0 := hk0.thenNew hk (by simp [Mem.names] <;> omega)
 clear hk hMs
 have hC := (hCq2i _ ⟨hM.sub (.cons_cons _ (.cons _ (.cons_cons _ .slnil))), hk0, trivial⟩)
 refine scdone hC ?_
 refine qd hf hC (fun w' h => (hCq2e w' h).1) [2] [{}] (nw := [(3, .val (.iface 161 (.pointer (some (E 1)))))]) An ?_
 clear hf; intro a hf
 clear hC
 show K6 _ _
 refine hK6 _ _ ?_
 refine wp_ret ?_
 refine qr (fn := Tryd.f13) hf hM [.ld 1 0, .ld 1 1, .ld 1 2] (l := [.agg #[iV 0, iV 0, iV 0], .iface 161 (.pointer (some (E 1)))]) (ob := [Ad (B1 + 1) 0, Ad (B1 + 1) 1, Ad (B1 + 1) 2]) (Ac (ad _ _) (Ac (ad _ _) (Ao (ad _ _)))) ?_
 show (.tuple #[.agg #[iV 0, iV 0, iV 0], .iface 161 (.pointer (some (E 1)))] : Value) = .tuple #[.agg #[iV 0, iV 0, iV 0], .iface 161 (.pointer (some (E 1)))] ∧ Keep Nn w w6
 exact ⟨rfl, hk0⟩

set_option maxRecDepth 10000 in
set_option maxHeartbeats 1600000 in
theorem of_ok (E : Nat → Addr) (x0 y0 x1 y1 : Int) (w : World) (hn0 : (boxRight x0 y0 x1 y1) = true) (hn1 : (inWorld x0 y0 x1 y1) = true) (hG : Errs [1, 3, 0] w 161 E) :
    Calls Tryd.prog 13 #[.agg #[iV x0, iV y0, iV x1, iV y1]] w (Ret fun v w' => v = .tuple #[.agg #[iV (depthOf (bsize x0 y0 x1 y1)), iV (colOf ((x0 + x1) / 2) (depthOf (bsize x0 y0 x1 y1))), iV (colOf ((y0 + y1) / 2) (depthOf (bsize x0 y0 x1 y1)))], .nilIface] ∧ Keep Nn w w') := by
 refine sxenter (n := 76) (args := [.agg #[iV x0, iV y0, iV x1, iV y1]]) Tryd.func13 rfl rfl rfl fun a hf => ?_
 replace hf : Fr 76 [(0, .val (.agg #[iV x0, iV y0, iV x1, iV y1]))] a := hf
 have hM : MemOk [] w := MemOk.nil w
 have hk0 : Keep Nn w w := Keep.refl _ _
 have hin : boxInside x0 y0 x1 y1 (-2097152) (-2097152) 2097152 2097152 = true := by rw [inside_world hn0]; exact hn1
 have hb := boxRight_iff.1 hn0
 have hw := inWorld_iff.1 hn1
 have hm : bsize x0 y0 x1 y1 ≤ 4194304 := by unfold bsize; split <;> omega
 have hcx := half_bd (a := x0) (b := x1) (m := 2097152) (by omega)
 have hcy := half_bd (a := y0) (b := y1) (m := 2097152) (by omega)
 refine wp_seq_k (fun K1 hK1 => ?_)
 refine wp_region_lit ?_
 refine q1 hf hM [] [{ os := [.nw] }, { os := [.nw] }, {}] (nw := fun B1 => [(3, .val (.nilIface)), (2, eP (B1 + 1) 0), (1, eP B1 0)]) (M' := fun B1 => [⟨B1, 32, [iV x0, iV y0, iV x1, iV y1]⟩, ⟨B1 + 1, 29, [iV 0, iV 0, iV 0]⟩]) (ob := fun B1 => []) (fun B1 => An) ?_
 clear hf hM; intro a w1 B1 hf hM hB hk
 have hbB1 : w.heap.size ≤ B1 := by have := hk0.size; omega
 have hk0 := hk0.then hk (by intro i _ h; cases h)
 clear hk hB
 refine wpList_nil ?_
 refine hK1 _ _ ?_
 refine wp_seq_k (fun K2 hK2 => ?_)
 refine wp_region_lit ?_
 refine q0 hf hM [3, 2, 1] [{ os := [.ld 0 0, .ld 0 1, .ld 0 2, .ld 0 3] }] (nw := [(9, .val (.agg #[iV x0, iV y0, iV x1, iV y1]))]) (ob := [Ad B1 0, Ad B1 1, Ad B1 2, Ad B1 3]) (Ac (ad _ _) (Ac (ad _ _) (Ac (ad _ _) (Ao (ad _ _))))) ?_
 clear hf; intro a hf
 refine sxcall hf rfl rfl rfl rfl (g := 30) (vs := [.agg #[iV x0, iV y0, iV x1, iV y1]]) (ob := []) (by as_aux_lemma => kernel_rfl) An enters30 (centre_ok E x0 y0 x1 y1 w1 hn0 ) ?_
 clear hf; rintro _ w2 a ⟨rfl, hk⟩ hf
 have hM := hM.keepNn hk
 have hk0 := hk0.trans hk.nn
 clear hk
 refine q1 hf hM [3, 2, 1] [{}, {}, {}, { os := [.nw] }, { os := [.st 2 0, .st 2 1] }, {}] (nw := fun B3 => [(5, .val (.nilIface)), (4, eP B3 0)]) (M' := fun B3 => [⟨B1, 32, [iV x0, iV y0, iV x1, iV y1]⟩, ⟨B1 + 1, 29, [iV 0, iV 0, iV 0]⟩, ⟨B3, 46, [iV ((x0 + x1) / 2), iV ((y0 + y1) / 2)]⟩]) (ob := fun B3 => [Ad B3 0, Ad B3 1]) (fun B3 => (Ac (ad _ _) (Ao (ad _ _)))) ?_
 clear hf hM; intro a w3 B3 hf hM hB hk
 have hbB3 : w.heap.size ≤ B3 := by have := hk0.size; omega
 have hk0 := hk0.thenNew hk (by simp [Mem.names] <;> omega)
 clear hk hB
 refine wpList_nil ?_
 refine hK2 _ _ ?_
 refine wp_seq_k (fun K3 hK3 => ?_)
 refine wp_block ?_
 refine wp_seq_k (fun K4 hK4 => ?_)
 refine wp_region_lit ?_
 refine q0 hf hM [4, 3, 2, 1] [{}, {}, {}] (nw := [(13, eB false)]) An ?_
 clear hf; intro a hf
 refine wpList_nil ?_
 refine hK4 _ _ ?_
 refine sxcond hf (b := false) (by kernel_rfl) (fun h => by cases h) (fun _ => ?_)
 refine wp_seq_k (fun K5 hK5 => ?_)
 replace hM := hM.drew; replace hk0 := hk0.drew
 obtain ⟨Cq1, hCq1i, hCq1e⟩ := qcls fun w' => MemOk [⟨B1, 32, [iV x0, iV y0, iV x1, iV y1]⟩, ⟨B1 + 1, 29, [iV 0, iV 0, iV 0]⟩, ⟨B3, 46, [iV ((x0 + x1) / 2), iV ((y0 + y1) / 2)]⟩] w' ∧ Keep Nn w w' ∧ True
 refine sxdraw (C := Cq1) (.leaf [(0, true), (1, false), (2, false), (3, true), (4, true)]) (by kernel_rfl) (by kernel_rfl) (by as_aux_lemma => kernel_rfl) rfl (by as_aux_lemma => kernel_rfl) (by kernel_rfl) (hCq1i _ ⟨hM.sub (.cons_cons _ (.cons_cons _ (.cons_cons _ .slnil))), hk0, trivial⟩) ?_
 refine sxleaf ?_
 have hC := (hCq1i _ ⟨hM.sub (.cons_cons _ (.cons_cons _ (.cons_cons _ .slnil))), hk0, trivial⟩)
 refine qd hf hC (fun w' h => (hCq1e w' h).1) [4, 3, 2, 1] [{ os := [.ld 0 0, .ld 0 1, .ld 0 2, .ld 0 3] }] (nw := [(19, .val (.agg #[iV x0, iV y0, iV x1, iV y1]))]) (ob := [Ad B1 0, Ad B1 1, Ad B1 2, Ad B1 3]) (Ac (ad _ _) (Ac (ad _ _) (Ac (ad _ _) (Ao (ad _ _))))) ?_
 clear hf; intro a hf
 refine scstep rfl ?_
 refine sxcall hf rfl rfl rfl rfl (g := 32) (vs := []) (ob := []) (by as_aux_lemma => kernel_rfl) An enters32 (world_any  w3.drew  ) ?_
 clear hf; rintro _ w4 a ⟨rfl, hk⟩ hf
 have hM := hM.keepNn hk
 have hk0 := hk0.trans hk.nn
 clear hk
 have hC := (hCq1i _ ⟨hM.sub (.cons_cons _ (.cons_cons _ (.cons_cons _ .slnil))), hk0, trivial⟩)
 refine scdone hC ?_
 refine scstep rfl ?_
 refine sxcall hf rfl rfl rfl rfl (g := 31) (vs := [.agg #[iV x0, iV y0, iV x1, iV y1], .agg #[iV (-2097152), iV (-2097152), iV 2097152, iV 2097152]]) (ob := []) (by as_aux_lemma => kernel_rfl) An enters31 (inside_any x0 y0 x1 y1 (-2097152) (-2097152) 2097152 2097152 w4  ) ?_
 clear hf; rintro _ w5 a ⟨rfl, hk⟩ hf
 have hM := hM.keepNn hk
 have hk0 := hk0.trans hk.nn
 clear hk
 have hC := (hCq1i _ ⟨hM.sub (.cons_cons _ (.cons_cons _ (.cons_cons _ .slnil))), hk0, trivial⟩)
 refine scdone hC ?_
 refine qd hf hC (fun w' h => (hCq1e w' h).1) [4, 3, 2, 1] [{}, {}] (nw := [(18, eB (!(boxInside x0 y0 x1 y1 (-2097152) (-2097152) 2097152 2097152)))]) An ?_
 clear hf; intro a hf
 clear hC
 show K5 _ _
 refine hK5 _ _ ?_
 refine sxcond hf (b := !(boxInside x0 y0 x1 y1 (-2097152) (-2097152) 2097152 2097152)) (by kernel_rfl) (fun h => absurd (h.symm.trans ((congrArg Bool.not hin).trans rfl : (!(boxInside x0 y0 x1 y1 (-2097152) (-2097152) 2097152 2097152) : Bool) = false)) (by simp)) (fun _ => ?_)
 refine wp_skip ?_
 refine hK3 _ _ ?_
 refine wp_seq_k (fun K6 hK6 => ?_)
 refine wp_region_lit ?_
 refine q1 hf hM [4, 2, 1] [{ sp := true }, { os := [.nw] }, { os := [.st 3 0, .st 3 1, .st 3 2] }] (nw := fun B5 => [(6, eP B5 0)]) (M' := fun B5 => [⟨B1, 32, [iV x0, iV y0, iV x1, iV y1]⟩, ⟨B1 + 1, 29, [iV 0, iV 0, iV 0]⟩, ⟨B3, 46, [iV ((x0 + x1) / 2), iV ((y0 + y1) / 2)]⟩, ⟨B5, 29, [iV 0, iV 0, iV 0]⟩]) (ob := fun B5 => [Ad B5 0, Ad B5 1, Ad B5 2]) (fun B5 => (Ac (ad _ _) (Ac (ad _ _) (Ao (ad _ _))))) ?_
 clear hf hM; intro a w6 B5 hf hM hB hk
 have hbB5 : w.heap.size ≤ B5 := by have := hk0.size; omega
 have hk0 := hk0.thenNew hk (by simp [Mem.names] <;> omega)
 clear hk hB
 refine wpList_nil ?_
 refine hK6 _ _ ?_
 refine wp_seq_k (fun K7 hK7 => ?_)
 refine wp_block ?_
 have hf := (hf.prune [1, 2, 4, 6]).to (env' := [(1, eP B1 0), (2, eP (B1 + 1) 0), (4, eP B3 0), (6, eP B5 0)]) (by kernel_rfl)
 refine sxloop (fun zm a w1 => ∃ (d : Int), zm = 8 - d.toNat ∧ Fr 76 [(1, eP B1 0), (2, eP (B1 + 1) 0), (4, eP B3 0), (6, eP B5 0)] a ∧ MemOk [⟨B1, 32, [iV x0, iV y0, iV x1, iV y1]⟩, ⟨B1 + 1, 29, [iV 0, iV 0, iV 0]⟩, ⟨B3, 46, [iV ((x0 + x1) / 2), iV ((y0 + y1) / 2)]⟩, ⟨B5, 29, [iV d, iV 0, iV 0]⟩] w1 ∧ Keep Nn w w1 ∧ (0 ≤ d ∧ d ≤ depthOf (bsize x0 y0 x1 y1))) _ ⟨0, rfl, hf.conv (Ac rfl (Ac rfl (Ac rfl (Ao rfl)))), hM, hk0, ⟨by omega, (depthOf_bd _).1⟩⟩ ?_
 clear hf hM hk0
 rintro _ a w7 ⟨d, rfl, hf, hM, hk0, hd0⟩ L1 hL1
 have hd8 := depthOf_bd (bsize x0 y0 x1 y1)
 have hp := pow_bd (d := d) (by omega)
 have hs := side_bd (d := d) (by omega)
 refine wp_seq_k (fun K8 hK8 => ?_)
 refine wp_seq_k (fun K9 hK9 => ?_)
 replace hM := hM.drew; replace hk0 := hk0.drew
 obtain ⟨Cq2, hCq2i, hCq2e⟩ := qcls fun w' => MemOk [⟨B1, 32, [iV x0, iV y0, iV x1, iV y1]⟩, ⟨B1 + 1, 29, [iV 0, iV 0, iV 0]⟩, ⟨B3, 46, [iV ((x0 + x1) / 2), iV ((y0 + y1) / 2)]⟩, ⟨B5, 29, [iV d, iV 0, iV 0]⟩] w' ∧ Keep Nn w w' ∧ True
 refine sxdraw (C := Cq2) (.leaf [(0, true), (1, true), (2, true), (3, true), (4, true), (5, true), (6, true), (8, true), (9, true), (10, true), (11, true), (12, true), (13, true), (14, true), (15, true), (16, true), (17, true), (18, true), (7, false), (19, true), (20, true)]) (by kernel_rfl) (by kernel_rfl) (by as_aux_lemma => kernel_rfl) rfl (by as_aux_lemma => kernel_rfl) (by kernel_rfl) (hCq2i _ ⟨hM.sub (.cons_cons _ (.cons_cons _ (.cons_cons _ (.cons_cons _ .slnil)))), hk0, trivial⟩) ?_
 refine sxleaf ?_
 have hC := (hCq2i _ ⟨hM.sub (.cons_cons _ (.cons_cons _ (.cons_cons _ (.cons_cons _ .slnil)))), hk0, trivial⟩)
 refine qd hf hC (fun w' h => (hCq2e w' h).1) [1, 2, 4, 6] [{}, { os := [.ld 3 0] }, {}, {}] (nw := [(29, eB (decide ((d : Int) < 8))), (28, eB (decide ((d : Int) < 8))), (27, eI d), (26, eP B5 0)]) (ob := [Ad B5 0]) (Ao (ad _ _)) ?_
 clear hf; intro a hf
 rcases Bool.eq_false_or_eq_true (decide ((d : Int) < 8)) with hg1r | hg1r
 · have hg1 := (nT hg1r)
   have hf := (hf.setb 29 hg1r).setb 28 hg1r
   refine qd hf hC (fun w' h => (hCq2e w' h).1) [29, 28, 27, 26, 1, 2, 4, 6] [{}, { os := [.ld 3 0] }, { hint := some (iV (d + 1)) }, {}, { os := [.ld 0 2] }, {}, { os := [.ld 0 0] }, { hint := some (iV (x1 - x0)) }, {}, { os := [.ld 0 3] }, {}, { os := [.ld 0 1] }, { hint := some (iV (y1 - y0)) }, {}] (nw := [(44, eI (if x1 - x0 < y1 - y0 then y1 - y0 else x1 - x0)), (43, eI (y1 - y0)), (42, eI y0), (41, eP B1 1), (40, eI y1), (39, eP B1 3), (38, eI (x1 - x0)), (37, eI x0), (36, eP B1 0), (35, eI x1), (34, eP B1 2), (32, eI (d + 1)), (31, eI d), (30, eP B5 0)]) (ob := [true = true, true = true, Ad B5 0, true = true, (iV (IntKind.i64.wrap (d + 1)) : Value) = (iV (d + 1) : Value), true = true, true = true, Ad B1 2, true = true, true = true, Ad B1 0, true = true, (iV (IntKind.i64.wrap (x1 - x0)) : Value) = (iV (x1 - x0) : Value), true = true, true = true, Ad B1 3, true = true, true = true, Ad B1 1, true = true, (iV (IntKind.i64.wrap (y1 - y0)) : Value) = (iV (y1 - y0) : Value), true = true]) (Ac rfl (Ac rfl (Ac (ad _ _) (Ac rfl (Ac (wr (by omega)) (Ac rfl (Ac rfl (Ac (ad _ _) (Ac rfl (Ac rfl (Ac (ad _ _) (Ac rfl (Ac (wr (by omega)) (Ac rfl (Ac rfl (Ac (ad _ _) (Ac rfl (Ac rfl (Ac (ad _ _) (Ac rfl (Ac (wr (by omega)) (Ao rfl)))))))))))))))))))))) ?_
   clear hf; intro a hf
   refine scstep rfl ?_
   refine sxcallg hf rfl rfl rfl rfl rfl (g := 33) (vs := [iV (d + 1)]) (ob := []) (by as_aux_lemma => kernel_rfl) An enters33 (side_any (d + 1) w7.drew  (by omega)) ?_
   clear hf; rintro _ w8 a ⟨rfl, hk⟩ hf
   have hM := hM.keepNn hk
   have hk0 := hk0.trans hk.nn
   clear hk
   have hC := (hCq2i _ ⟨hM.sub (.cons_cons _ (.cons_cons _ (.cons_cons _ (.cons_cons _ .slnil)))), hk0, trivial⟩)
   refine scdone hC ?_
   refine qd hf hC (fun w' h => (hCq2e w' h).1) [33, 44, 43, 42, 41, 40, 39, 38, 37, 36, 35, 34, 32, 31, 30, 29, 28, 27, 26, 1, 2, 4, 6] [{}, {}] (nw := [(46, eB (decide (((side (d + 1)) : Int) ≥ (if x1 - x0 < y1 - y0 then y1 - y0 else x1 - x0)))), (45, eB (decide (((side (d + 1)) : Int) ≥ (if x1 - x0 < y1 - y0 then y1 - y0 else x1 - x0))))]) (ob := [true = true]) (Ao rfl) ?_
   clear hf; intro a hf
   clear hC
   show K9 _ _
   refine hK9 _ _ ?_
   refine qc hf (b := (decide (((side (d + 1)) : Int) ≥ (if x1 - x0 < y1 - y0 then y1 - y0 else x1 - x0)))) (fun hc3r => ?_) (fun hc3r => ?_)
   · have hc3 := (nT hc3r)
     refine wp_skip ?_
     refine hK8 _ _ ?_
     refine wp_block ?_
     refine wp_region_lit ?_
     refine q1 hf hM [46, 45, 33, 44, 43, 42, 41, 40, 39, 38, 37, 36, 35, 34, 32, 31, 30, 29, 28, 27, 26, 1, 2, 4, 6] [{}, { os := [.ld 3 0] }, { hint := some (iV (d + 1)) }, {}, { os := [.st 3 0] }] (nw := fun B6 => []) (M' := fun B6 => [⟨B1, 32, [iV x0, iV y0, iV x1, iV y1]⟩, ⟨B1 + 1, 29, [iV 0, iV 0, iV 0]⟩, ⟨B3, 46, [iV ((x0 + x1) / 2), iV ((y0 + y1) / 2)]⟩, ⟨B5, 29, [iV (d + 1), iV 0, iV 0]⟩]) (ob := fun B6 => [Ad B5 0, (iV (IntKind.i64.wrap (d + 1)) : Value) = (iV (d + 1) : Value), Ad B5 0]) (fun B6 => (Ac (ad _ _) (Ac (wr (by omega)) (Ao (ad _ _))))) ?_
     clear hf hM; intro a w9 B6 hf hM hB hk
     have hbB6 : w.heap.size ≤ B6 := by have := hk0.size; omega
     have hk0 := hk0.thenNew hk (by simp [Mem.names] <;> omega)
     clear hk hB
     refine wpList_nil ?_
     have hd2 : d + 1 ≤ depthOf (bsize x0 y0 x1 y1) := by
       refine (depthOf_iff hm (by omega)).1 ?_
       simp only [bsize] at *
       omega
     have hf := (hf.prune [1, 2, 4, 6]).to (env' := [(1, eP B1 0), (2, eP (B1 + 1) 0), (4, eP B3 0), (6, eP B5 0)]) (by kernel_rfl)
     refine hL1 _ _ _ (by omega) ⟨d + 1, rfl, hf.conv (Ac rfl (Ac rfl (Ac rfl (Ao rfl)))), hM, hk0, ⟨by omega, hd2⟩⟩
   · have hc3 := (nU hc3r)
     refine wp_exit ?_
     refine hK7 _ _ ?_
     refine wp_seq_k (fun K10 hK10 => ?_)
     refine wp_region_lit ?_
     refine q0 hf hM [2, 4, 6] [{}, { os := [.ld 3 0] }, { sp := true, hint := some (iV (2 ^ d.toNat)) }, { hint := some (iV ((2 ^ d.toNat) - 1)) }, {}] (nw := [(7, eI ((2 ^ d.toNat) - 1))]) (ob := [Ad B5 0, 0 ≤ (d : Int), (iV (IntKind.i64.wrap (1 * 2 ^ (min (d : Int).toNat IntKind.i64.bits))) : Value) = (iV (2 ^ d.toNat) : Value), (iV (IntKind.i64.wrap ((2 ^ d.toNat) - 1)) : Value) = (iV ((2 ^ d.toNat) - 1) : Value)]) (Ac (ad _ _) (Ac (by omega) (Ac (shl_one (by omega)) (Ao (wr (by omega)))))) ?_
     clear hf; intro a hf
     refine wpList_nil ?_
     refine hK10 _ _ ?_
     refine wp_seq_k (fun K11 hK11 => ?_)
     replace hM := hM.drew; replace hk0 := hk0.drew
     obtain ⟨Cq3, hCq3i, hCq3e⟩ := qcls fun w' => MemOk [⟨B1, 32, [iV x0, iV y0, iV x1, iV y1]⟩, ⟨B1 + 1, 29, [iV 0, iV 0, iV 0]⟩, ⟨B3, 46, [iV ((x0 + x1) / 2), iV ((y0 + y1) / 2)]⟩, ⟨B5, 29, [iV d, iV 0, iV 0]⟩] w' ∧ Keep Nn w w' ∧ True
     obtain ⟨Cq4, hCq4i, hCq4e⟩ := qcls fun w' => MemOk [⟨B1, 32, [iV x0, iV y0, iV x1, iV y1]⟩, ⟨B1 + 1, 29, [iV 0, iV 0, iV 0]⟩, ⟨B3, 46, [iV ((x0 + x1) / 2), iV ((y0 + y1) / 2)]⟩] w' ∧ Keep Nn w w' ∧ True
     refine sxdraw2 (C := Cq3) (C2 := Cq4) (.leaf [(0, true), (1, true), (2, true), (3, true), (4, true), (7, true), (5, false), (6, true), (8, true)]) (.leaf [(9, true), (10, false)]) [0, 1, 2, 3, 4, 5, 6, 7, 8] (by kernel_rfl) (by kernel_rfl) (by as_aux_lemma => kernel_rfl) rfl (by as_aux_lemma => kernel_rfl) (by kernel_rfl) (by as_aux_lemma => kernel_rfl) (by kernel_rfl) (by kernel_rfl) (hCq3i _ ⟨hM.sub (.cons_cons _ (.cons_cons _ (.cons_cons _ (.cons_cons _ .slnil)))), hk0, trivial⟩) ?_
     refine sxleaf ?_
     have hC := (hCq3i _ ⟨hM.sub (.cons_cons _ (.cons_cons _ (.cons_cons _ (.cons_cons _ .slnil)))), hk0, trivial⟩)
     refine qd hf hC (fun w' h => (hCq3e w' h).1) [7, 2, 4, 6] [{}, { os := [.ld 2 0] }, { hint := some (iV (((x0 + x1) / 2) + 2097152)) }, {}, { os := [.ld 3 0] }, {}] (nw := [(62, eI ((2 ^ d.toNat) - 1)), (59, eI d), (57, eI (((x0 + x1) / 2) + 2097152))]) (ob := [Ad B3 0, (iV (IntKind.i64.wrap (((x0 + x1) / 2) + 2097152)) : Value) = (iV (((x0 + x1) / 2) + 2097152) : Value), Ad B5 0]) (Ac (ad _ _) (Ac (wr (by omega)) (Ao (ad _ _)))) ?_
     clear hf; intro a hf
     refine scstep rfl ?_
     refine sxcall hf rfl rfl rfl rfl (g := 33) (vs := [iV d]) (ob := []) (by as_aux_lemma => kernel_rfl) An enters33 (side_any d w8.drew  (by omega)) ?_
     clear hf; rintro _ w10 a ⟨rfl, hk⟩ hf
     have hM := hM.keepNn hk
     have hk0 := hk0.trans hk.nn
     clear hk
     have hC := (hCq3i _ ⟨hM.sub (.cons_cons _ (.cons_cons _ (.cons_cons _ (.cons_cons _ .slnil)))), hk0, trivial⟩)
     refine scdone hC ?_
     refine qd hf hC (fun w' h => (hCq3e w' h).1) [7, 2, 4, 6] [{ sp := true, hint := some (iV (((x0 + x1) / 2 + 2097152) / side d)) }, { hint := some (iV (colOf ((x0 + x1) / 2) d)) }] (nw := [(63, eI (colOf ((x0 + x1) / 2) d))]) (ob := [(side d) ≠ 0, (iV (IntKind.i64.wrap (Int.tdiv (((x0 + x1) / 2) + 2097152) (side d))) : Value) = (iV (((x0 + x1) / 2 + 2097152) / side d) : Value), (iV (if (2 ^ d.toNat) - 1 < ((x0 + x1) / 2 + 2097152) / side d then (2 ^ d.toNat) - 1 else ((x0 + x1) / 2 + 2097152) / side d) : Value) = (iV (colOf ((x0 + x1) / 2) d) : Value)]) (Ac (by omega) (Ac (quoN (by omega)) (Ao rfl))) ?_
     clear hf; intro a hf
     refine sxnext (hCq4i _ ⟨hM.sub (.cons_cons _ (.cons_cons _ (.cons_cons _ (.cons _ .slnil)))), hk0, trivial⟩) ?_
     refine sxleaf ?_
     have hC := (hCq4i _ ⟨hM.sub (.cons_cons _ (.cons_cons _ (.cons_cons _ (.cons _ .slnil)))), hk0, trivial⟩)
     refine qd hf hC (fun w' h => (hCq4e w' h).1) [63, 7, 2, 4, 6] [{}] (nw := [(64, eP B5 1)]) An ?_
     clear hf; intro a hf
     refine scstep rfl ?_
     have hMs : MemOk [⟨B5, 29, [iV d, iV 0, iV 0]⟩] w10 := hM.sub (.cons _ (.cons _ (.cons _ (.cons_cons _ .slnil))))
     refine q1 hf hMs [7, 2, 4, 6] [{ os := [.st 0 1] }] (nw := fun B8 => []) (M' := fun B8 => [⟨B5, 29, [iV d, iV (colOf ((x0 + x1) / 2) d), iV 0]⟩]) (ob := fun B8 => [Ad B5 1]) (fun B8 => (Ao (ad _ _))) ?_
     clear hf hMs; intro a w11 B8 hf hMs hB hk; clear hB
     have hM : MemOk [⟨B1, 32, [iV x0, iV y0, iV x1, iV y1]⟩, ⟨B1 + 1, 29, [iV 0, iV 0, iV 0]⟩, ⟨B3, 46, [iV ((x0 + x1) / 2), iV ((y0 + y1) / 2)]⟩, ⟨B5, 29, [iV d, iV (colOf ((x0 + x1) / 2) d), iV 0]⟩] w11 := MemOk.upd (M1 := [⟨B1, 32, [iV x0, iV y0, iV x1, iV y1]⟩, ⟨B1 + 1, 29, [iV 0, iV 0, iV 0]⟩, ⟨B3, 46, [iV ((x0 + x1) / 2), iV ((y0 + y1) / 2)]⟩]) (M2 := []) hM hk hMs rfl
     have hk0 := hk0.thenNew hk (by simp [Mem.names] <;> omega)
     clear hk hMs
     have hC := (hCq4i _ ⟨hM.sub (.cons_cons _ (.cons_cons _ (.cons_cons _ (.cons _ .slnil)))), hk0, trivial⟩)
     refine scdone hC ?_
     clear hC
     show K11 _ _
     refine hK11 _ _ ?_
     refine wp_seq_k (fun K12 hK12 => ?_)
     replace hM := hM.drew; replace hk0 := hk0.drew
     obtain ⟨Cq5, hCq5i, hCq5e⟩ := qcls fun w' => MemOk [⟨B1, 32, [iV x0, iV y0, iV x1, iV y1]⟩, ⟨B1 + 1, 29, [iV 0, iV 0, iV 0]⟩, ⟨B3, 46, [iV ((x0 + x1) / 2), iV ((y0 + y1) / 2)]⟩, ⟨B5, 29, [iV d, iV (colOf ((x0 + x1) / 2) d), iV 0]⟩] w' ∧ Keep Nn w w' ∧ True
     obtain ⟨Cq6, hCq6i, hCq6e⟩ := qcls fun w' => MemOk [⟨B1, 32, [iV x0, iV y0, iV x1, iV y1]⟩, ⟨B1 + 1, 29, [iV 0, iV 0, iV 0]⟩, ⟨B3, 46, [iV ((x0 + x1) / 2), iV ((y0 + y1) / 2)]⟩] w' ∧ Keep Nn w w' ∧ True
     refine sxdraw2 (C := Cq5) (C2 := Cq6) (.leaf [(0, true), (1, true), (2, true), (3, true), (4, true), (7, true), (5, false), (6, true), (8, true)]) (.leaf [(9, true), (10, false)]) [0, 1, 2, 3, 4, 5, 6, 7, 8] (by kernel_rfl) (by kernel_rfl) (by as_aux_lemma => kernel_rfl) rfl (by as_aux_lemma => kernel_rfl) (by kernel_rfl) (by as_aux_lemma => kernel_rfl) (by kernel_rfl) (by kernel_rfl) (hCq5i _ ⟨hM.sub (.cons_cons _ (.cons_cons _ (.cons_cons _ (.cons_cons _ .slnil)))), hk0, trivial⟩) ?_
     refine sxleaf ?_
     have hC := (hCq5i _ ⟨hM.sub (.cons_cons _ (.cons_cons _ (.cons_cons _ (.cons_cons _ .slnil)))), hk0, trivial⟩)
     refine qd hf hC (fun w' h => (hCq5e w' h).1) [2, 6] [{}, { os := [.ld 2 1] }, { hint := some (iV (((y0 + y1) / 2) + 2097152)) }, {}, { os := [.ld 3 0] }, {}] (nw := [(72, eI ((2 ^ d.toNat) - 1)), (69, eI d), (67, eI (((y0 + y1) / 2) + 2097152))]) (ob := [Ad B3 1, (iV (IntKind.i64.wrap (((y0 + y1) / 2) + 2097152)) : Value) = (iV (((y0 + y1) / 2) + 2097152) : Value), Ad B5 0]) (Ac (ad _ _) (Ac (wr (by omega)) (Ao (ad _ _)))) ?_
     clear hf; intro a hf
     refine scstep rfl ?_
     refine sxcall hf rfl rfl rfl rfl (g := 33) (vs := [iV d]) (ob := []) (by as_aux_lemma => kernel_rfl) An enters33 (side_any d w11.drew  (by omega)) ?_
     clear hf; rintro _ w12 a ⟨rfl, hk⟩ hf
     have hM := hM.keepNn hk
     have hk0 := hk0.trans hk.nn
     clear hk
     have hC := (hCq5i _ ⟨hM.sub (.cons_cons _ (.cons_cons _ (.cons_cons _ (.cons_cons _ .slnil)))), hk0, trivial⟩)
     refine scdone hC ?_
     refine qd hf hC (fun w' h => (hCq5e w' h).1) [2, 6] [{ sp := true, hint := some (iV (((y0 + y1) / 2 + 2097152) / side d)) }, { hint := some (iV (colOf ((y0 + y1) / 2) d)) }] (nw := [(73, eI (colOf ((y0 + y1) / 2) d))]) (ob := [(side d) ≠ 0, (iV (IntKind.i64.wrap (Int.tdiv (((y0 + y1) / 2) + 2097152) (side d))) : Value) = (iV (((y0 + y1) / 2 + 2097152) / side d) : Value), (iV (if (2 ^ d.toNat) - 1 < ((y0 + y1) / 2 + 2097152) / side d then (2 ^ d.toNat) - 1 else ((y0 + y1) / 2 + 2097152) / side d) : Value) = (iV (colOf ((y0 + y1) / 2) d) : Value)]) (Ac (by omega) (Ac (quoN (by omega)) (Ao rfl))) ?_
     clear hf; intro a hf
     refine sxnext (hCq6i _ ⟨hM.sub (.cons_cons _ (.cons_cons _ (.cons_cons _ (.cons _ .slnil)))), hk0, trivial⟩) ?_
     refine sxleaf ?_
     have hC := (hCq6i _ ⟨hM.sub (.cons_cons _ (.cons_cons _ (.cons_cons _ (.cons _ .slnil)))), hk0, trivial⟩)
     refine qd hf hC (fun w' h => (hCq6e w' h).1) [73, 2, 6] [{}] (nw := [(74, eP B5 2)]) An ?_
     clear hf; intro a hf
     refine scstep rfl ?_
     have hMs : MemOk [⟨B5, 29, [iV d, iV (colOf ((x0 + x1) / 2) d), iV 0]⟩] w12 := hM.sub (.cons _ (.cons _ (.cons _ (.cons_cons _ .slnil))))
     refine q1 hf hMs [2, 6] [{ os := [.st 0 2] }] (nw := fun B9 => []) (M' := fun B9 => [⟨B5, 29, [iV d, iV (colOf ((x0 + x1) / 2) d), iV (colOf ((y0 + y1) / 2) d)]⟩]) (ob := fun B9 => [Ad B5 2]) (fun B9 => (Ao (ad _ _))) ?_
     clear hf hMs; intro a w13 B9 hf hMs hB hk; clear hB
     have hM : MemOk [⟨B1, 32, [iV x0, iV y0, iV x1, iV y1]⟩, ⟨B1 + 1, 29, [iV 0, iV 0, iV 0]⟩, ⟨B3, 46, [iV ((x0 + x1) / 2), iV ((y0 + y1) / 2)]⟩, ⟨B5, 29, [iV d, iV (colOf ((x0 + x1) / 2) d), iV (colOf ((y0 + y1) / 2) d)]⟩] w13 := MemOk.upd (M1 := [⟨B1, 32, [iV x0, iV y0, iV x1, iV y1]⟩, ⟨B1 + 1, 29, [iV 0, iV 0, iV 0]⟩, ⟨B3, 46, [iV ((x0 + x1) / 2), iV ((y0 + y1) / 2)]⟩]) (M2 := []) hM hk hMs rfl
     have hk0 := hk0.thenNew hk (by simp [Mem.names] <;> omega)
     clear hk hMs
     have hC := (hCq6i _ ⟨hM.sub (.cons_cons _ (.cons_cons _ (.cons_cons _ (.cons _ .slnil)))), hk0, trivial⟩)
     refine scdone hC ?_
     clear hC
     show K12 _ _
     refine hK12 _ _ ?_
     refine wp_seq_k (fun K13 hK13 => ?_)
     refine wp_region_lit ?_
     refine q1 hf hM [2] [{ os := [.ld 3 0, .ld 3 1, .ld 3 2] }, { os := [.st 1 0, .st 1 1, .st 1 2] }, {}] (nw := fun B10 => [(3, .val (.nilIface))]) (M' := fun B10 => [⟨B1, 32, [iV x0, iV y0, iV x1, iV y1]⟩, ⟨B1 + 1, 29, [iV d, iV (colOf ((x0 + x1) / 2) d), iV (colOf ((y0 + y1) / 2) d)]⟩, ⟨B3, 46, [iV ((x0 + x1) / 2), iV ((y0 + y1) / 2)]⟩, ⟨B5, 29, [iV d, iV (colOf ((x0 + x1) / 2) d), iV (colOf ((y0 + y1) / 2) d)]⟩]) (ob := fun B10 => [Ad B5 0, Ad B5 1, Ad B5 2, Ad (B1 + 1) 0, Ad (B1 + 1) 1, Ad (B1 + 1) 2]) (fun B10 => (Ac (ad _ _) (Ac (ad _ _) (Ac (ad _ _) (Ac (ad _ _) (Ac (ad _ _) (Ao (ad _ _)))))))) ?_
     clear hf hM; intro a w14 B10 hf hM hB hk
     have hbB10 : w.heap.size ≤ B10 := by have := hk0.size; omega
     have hk0 := hk0.thenNew hk (by simp [Mem.names] <;> omega)
     clear hk hB
     refine wpList_nil ?_
     refine hK13 _ _ ?_
     refine wp_ret ?_
     refine qr (fn := Tryd.f13) hf hM [.ld 1 0, .ld 1 1, .ld 1 2] (l := [.agg #[iV d, iV (colOf ((x0 + x1) / 2) d), iV (colOf ((y0 + y1) / 2) d)], .nilIface]) (ob := [Ad (B1 + 1) 0, Ad (B1 + 1) 1, Ad (B1 + 1) 2]) (Ac (ad _ _) (Ac (ad _ _) (Ao (ad _ _)))) ?_
     show (.tuple #[.agg #[iV d, iV (colOf ((x0 + x1) / 2) d), iV (colOf ((y0 + y1) / 2) d)], .nilIface] : Value) = .tuple #[.agg #[iV (depthOf (bsize x0 y0 x1 y1)), iV (colOf ((x0 + x1) / 2) (depthOf (bsize x0 y0 x1 y1))), iV (colOf ((y0 + y1) / 2) (depthOf (bsize x0 y0 x1 y1)))], .nilIface] ∧ Keep Nn w w14
     have hdd : depthOf (bsize x0 y0 x1 y1) = d := by
       by_cases h8 : d = 8
       · omega
       · have h := depthOf_iff hm (by omega : 0 ≤ d + 1 ∧ d + 1 ≤ 8)
         simp only [bsize] at *
         omega
     rw [hdd]
     exact ⟨rfl, hk0⟩
 · have hg1 := (nU hg1r)
   have hf := (hf.setb 29 hg1r).setb 28 hg1r
   refine qd hf hC (fun w' h => (hCq2e w' h).1) [29, 28, 27, 26, 1, 2, 4, 6] [{ g := .off }, { g := .off }, { g := .off }, { g := .off }, { g := .off }, { g := .off }, { g := .off }, { g := .off }, { g := .off }, { g := .off }, { g := .off }, { g := .off }, { g := .off }, { g := .off }] (nw := [(44, .val (undef)), (43, .val (undef)), (42, .val (undef)), (41, .val (undef)), (40, .val (undef)), (39, .val (undef)), (38, .val (undef)), (37, .val (undef)), (36, .val (undef)), (35, .val (undef)), (34, .val (undef)), (32, .val (undef)), (31, .val (undef)), (30, .val (undef))]) (ob := [false = !true, false = !true, false = !true, false = !true, false = !true, false = !true, false = !true, false = !true, false = !true, false = !true, false = !true, false = !true, false = !true, false = !true]) (Ac rfl (Ac rfl (Ac rfl (Ac rfl (Ac rfl (Ac rfl (Ac rfl (Ac rfl (Ac rfl (Ac rfl (Ac rfl (Ac rfl (Ac rfl (Ao rfl)))))))))))))) ?_
   clear hf; intro a hf
   refine scstep rfl ?_
   refine q0 hf hM [44, 43, 42, 41, 40, 39, 38, 37, 36, 35, 34, 32, 31, 30, 29, 28, 27, 26, 1, 2, 4, 6] [{ g := .off }] (nw := [(33, .val (undef))]) (ob := [false = !true]) (Ao rfl) ?_
   clear hf; intro a hf
   have hC := (hCq2i _ ⟨hM.sub (.cons_cons _ (.cons_cons _ (.cons_cons _ (.cons_cons _ .slnil)))), hk0, trivial⟩)
   refine scdone hC ?_
   refine qd hf hC (fun w' h => (hCq2e w' h).1) [33, 44, 43, 42, 41, 40, 39, 38, 37, 36, 35, 34, 32, 31, 30, 29, 28, 27, 26, 1, 2, 4, 6] [{ g := .off }, {}] (nw := [(46, eB false), (45, .val (undef))]) (ob := [false = !true]) (Ao rfl) ?_
   clear hf; intro a hf
   clear hC
   show K9 _ _
   refine hK9 _ _ ?_
   refine sxcond hf (b := false) (by kernel_rfl) (fun h => by cases h) (fun _ => ?_)
   refine wp_exit ?_
   refine hK7 _ _ ?_
   refine wp_seq_k (fun K14 hK14 => ?_)
   refine wp_region_lit ?_
   refine q0 hf hM [2, 4, 6] [{}, { os := [.ld 3 0] }, { sp := true, hint := some (iV (2 ^ d.toNat)) }, { hint := some (iV ((2 ^ d.toNat) - 1)) }, {}] (nw := [(7, eI ((2 ^ d.toNat) - 1))]) (ob := [Ad B5 0, 0 ≤ (d : Int), (iV (IntKind.i64.wrap (1 * 2 ^ (min (d : Int).toNat IntKind.i64.bits))) : Value) = (iV (2 ^ d.toNat) : Value), (iV (IntKind.i64.wrap ((2 ^ d.toNat) - 1)) : Value) = (iV ((2 ^ d.toNat) - 1) : Value)]) (Ac (ad _ _) (Ac (by omega) (Ac (shl_one (by omega)) (Ao (wr (by omega)))))) ?_
   clear hf; intro a hf
   refine wpList_nil ?_
   refine hK14 _ _ ?_
   refine wp_seq_k (fun K15 hK15 => ?_)
   replace hM := hM.drew; replace hk0 := hk0.drew
   obtain ⟨Cq7, hCq7i, hCq7e⟩ := qcls fun w' => MemOk [⟨B1, 32, [iV x0, iV y0, iV x1, iV y1]⟩, ⟨B1 + 1, 29, [iV 0, iV 0, iV 0]⟩, ⟨B3, 46, [iV ((x0 + x1) / 2), iV ((y0 + y1) / 2)]⟩, ⟨B5, 29, [iV d, iV 0, iV 0]⟩] w' ∧ Keep Nn w w' ∧ True
   obtain ⟨Cq8, hCq8i, hCq8e⟩ := qcls fun w' => MemOk [⟨B1, 32, [iV x0, iV y0, iV x1, iV y1]⟩, ⟨B1 + 1, 29, [iV 0, iV 0, iV 0]⟩, ⟨B3, 46, [iV ((x0 + x1) / 2), iV ((y0 + y1) / 2)]⟩] w' ∧ Keep Nn w w' ∧ True
   refine sxdraw2 (C := Cq7) (C2 := Cq8) (.leaf [(0, true), (1, true), (2, true), (3, true), (4, true), (7, true), (5, false), (6, true), (8, true)]) (.leaf [(9, true), (10, false)]) [0, 1, 2, 3, 4, 5, 6, 7, 8] (by kernel_rfl) (by kernel_rfl) (by as_aux_lemma => kernel_rfl) rfl (by as_aux_lemma => kernel_rfl) (by kernel_rfl) (by as_aux_lemma => kernel_rfl) (by kernel_rfl) (by kernel_rfl) (hCq7i _ ⟨hM.sub (.cons_cons _ (.cons_cons _ (.cons_cons _ (.cons_cons _ .slnil)))), hk0, trivial⟩) ?_
   refine sxleaf ?_
   have hC := (hCq7i _ ⟨hM.sub (.cons_cons _ (.cons_cons _ (.cons_cons _ (.cons_cons _ .slnil)))), hk0, trivial⟩)
   refine qd hf hC (fun w' h => (hCq7e w' h).1) [7, 2, 4, 6] [{}, { os := [.ld 2 0] }, { hint := some (iV (((x0 + x1) / 2) + 2097152)) }, {}, { os := [.ld 3 0] }, {}] (nw := [(62, eI ((2 ^ d.toNat) - 1)), (59, eI d), (57, eI (((x0 + x1) / 2) + 2097152))]) (ob := [Ad B3 0, (iV (IntKind.i64.wrap (((x0 + x1) / 2) + 2097152)) : Value) = (iV (((x0 + x1) / 2) + 2097152) : Value), Ad B5 0]) (Ac (ad _ _) (Ac (wr (by omega)) (Ao (ad _ _)))) ?_
   clear hf; intro a hf
   refine scstep rfl ?_
   refine sxcall hf rfl rfl rfl rfl (g := 33) (vs := [iV d]) (ob := []) (by as_aux_lemma => kernel_rfl) An enters33 (side_any d w7.drew.drew  (by omega)) ?_
   clear hf; rintro _ w15 a ⟨rfl, hk⟩ hf
   have hM := hM.keepNn hk
   have hk0 := hk0.trans hk.nn
   clear hk
   have hC := (hCq7i _ ⟨hM.sub (.cons_cons _ (.cons_cons _ (.cons_cons _ (.cons_cons _ .slnil)))), hk0, trivial⟩)
   refine scdone hC ?_
   refine qd hf hC (fun w' h => (hCq7e w' h).1) [7, 2, 4, 6] [{ sp := true, hint := some (iV (((x0 + x1) / 2 + 2097152) / side d)) }, { hint := some (iV (colOf ((x0 + x1) / 2) d)) }] (nw := [(63, eI (colOf ((x0 + x1) / 2) d))]) (ob := [(side d) ≠ 0, (iV (IntKind.i64.wrap (Int.tdiv (((x0 + x1) / 2) + 2097152) (side d))) : Value) = (iV (((x0 + x1) / 2 + 2097152) / side d) : Value), (iV (if (2 ^ d.toNat) - 1 < ((x0 + x1) / 2 + 2097152) / side d then (2 ^ d.toNat) - 1 else ((x0 + x1) / 2 + 2097152) / side d) : Value) = (iV (colOf ((x0 + x1) / 2) d) : Value)]) (Ac (by omega) (Ac (quoN (by omega)) (Ao rfl))) ?_
   clear hf; intro a hf
   refine sxnext (hCq8i _ ⟨hM.sub (.cons_cons _ (.cons_cons _ (.cons_cons _ (.cons _ .slnil)))), hk0, trivial⟩) ?_
   refine sxleaf ?_
   have hC := (hCq8i _ ⟨hM.sub (.cons_cons _ (.cons_cons _ (.cons_cons _ (.cons _ .slnil)))), hk0, trivial⟩)
   refine qd hf hC (fun w' h => (hCq8e w' h).1) [63, 7, 2, 4, 6] [{}] (nw := [(64, eP B5 1)]) An ?_
   clear hf; intro a hf
   refine scstep rfl ?_
   have hMs : MemOk [⟨B5, 29, [iV d, iV 0, iV 0]⟩] w15 := hM.sub (.cons _ (.cons _ (.cons _ (.cons_cons _ .slnil))))
   refine q1 hf hMs [7, 2, 4, 6] [{ os := [.st 0 1] }] (nw := fun B12 => []) (M' := fun B12 => [⟨B5, 29, [iV d, iV (colOf ((x0 + x1) / 2) d), iV 0]⟩]) (ob := fun B12 => [Ad B5 1]) (fun B12 => (Ao (ad _ _))) ?_
   clear hf hMs; intro a w16 B12 hf hMs hB hk; clear hB
   have hM : MemOk [⟨B1, 32, [iV x0, iV y0, iV x1, iV y1]⟩, ⟨B1 + 1, 29, [iV 0, iV 0, iV 0]⟩, ⟨B3, 46, [iV ((x0 + x1) / 2), iV ((y0 + y1) / 2)]⟩, ⟨B5, 29, [iV d, iV (colOf ((x0 + x1) / 2) d), iV 0]⟩] w16 := MemOk.upd (M1 := [⟨B1, 32, [iV x0, iV y0, iV x1, iV y1]⟩, ⟨B1 + 1, 29, [iV 0, iV 0, iV 0]⟩, ⟨B3, 46, [iV ((x0 + x1) / 2), iV ((y0 + y1) / 2)]⟩]) (M2 := []) hM hk hMs rfl
   have hk0 := hk0.thenNew hk (by simp [Mem.names] <;> omega)
   clear hk hMs
   have hC := (hCq8i _ ⟨hM.sub (.cons_cons _ (.cons_cons _ (.cons_cons _ (.cons _ .slnil)))), hk0, trivial⟩)
   refine scdone hC ?_
   clear hC
   show K15 _ _
   refine hK15 _ _ ?_
   refine wp_seq_k (fun K16 hK16 => ?_)
   replace hM := hM.drew; replace hk0 := hk0.drew
   obtain ⟨Cq9, hCq9i, hCq9e⟩ := qcls fun w' => MemOk [⟨B1, 32, [iV x0, iV y0, iV x1, iV y1]⟩, ⟨B1 + 1, 29, [iV 0, iV 0, iV 0]⟩, ⟨B3, 46, [iV ((x0 + x1) / 2), iV ((y0 + y1) / 2)]⟩, ⟨B5, 29, [iV d, iV (colOf ((x0 + x1) / 2) d), iV 0]⟩] w' ∧ Keep Nn w w' ∧ True
   obtain ⟨Cq10, hCq10i, hCq10e⟩ := qcls fun w' => MemOk [⟨B1, 32, [iV x0, iV y0, iV x1, iV y1]⟩, ⟨B1 + 1, 29, [iV 0, iV 0, iV 0]⟩, ⟨B3, 46, [iV ((x0 + x1) / 2), iV ((y0 + y1) / 2)]⟩] w' ∧ Keep Nn w w' ∧ True
   refine sxdraw2 (C := Cq9) (C2 := Cq10) (.leaf [(0, true), (1, true), (2, true), (3, true), (4, true), (7, true), (5, false), (6, true), (8, true)]) (.leaf [(9, true), (10, false)]) [0, 1, 2, 3, 4, 5, 6, 7, 8] (by kernel_rfl) (by kernel_rfl) (by as_aux_lemma => kernel_rfl) rfl (by as_aux_lemma => kernel_rfl) (by kernel_rfl) (by as_aux_lemma => kernel_rfl) (by kernel_rfl) (by kernel_rfl) (hCq9i _ ⟨hM.sub (.cons_cons _ (.cons_cons _ (.cons_cons _ (.cons_cons _ .slnil)))), hk0, trivial⟩) ?_
   refine sxleaf ?_
   have hC := (hCq9i _ ⟨hM.sub (.cons_cons _ (.cons_cons _ (.cons_cons _ (.cons_cons _ .slnil)))), hk0, trivial⟩)
   refine qd hf hC (fun w' h => (hCq9e w' h).1) [2, 6] [{}, { os := [.ld 2 1] }, { hint := some (iV (((y0 + y1) / 2) + 2097152)) }, {}, { os := [.ld 3 0] }, {}] (nw := [(72, eI ((2 ^ d.toNat) - 1)), (69, eI d), (67, eI (((y0 + y1) / 2) + 2097152))]) (ob := [Ad B3 1, (iV (IntKind.i64.wrap (((y0 + y1) / 2) + 2097152)) : Value) = (iV (((y0 + y1) / 2) + 2097152) : Value), Ad B5 0]) (Ac (ad _ _) (Ac (wr (by omega)) (Ao (ad _ _)))) ?_
   clear hf; intro a hf
   refine scstep rfl ?_
   refine sxcall hf rfl rfl rfl rfl (g := 33) (vs := [iV d]) (ob := []) (by as_aux_lemma => kernel_rfl) An enters33 (side_any d w16.drew  (by omega)) ?_
   clear hf; rintro _ w17 a ⟨rfl, hk⟩ hf
   have hM := hM.keepNn hk
   have hk0 := hk0.trans hk.nn
   clear hk
   have hC := (hCq9i _ ⟨hM.sub (.cons_cons _ (.cons_cons _ (.cons_cons _ (.cons_cons _ .slnil)))), hk0, trivial⟩)
   refine scdone hC ?_
   refine qd hf hC (fun w' h => (hCq9e w' h).1) [2, 6] [{ sp := true, hint := some (iV (((y0 + y1) / 2 + 2097152) / side d)) }, { hint := some (iV (colOf ((y0 + y1) / 2) d)) }] (nw := [(73, eI (colOf ((y0 + y1) / 2) d))]) (ob := [(side d) ≠ 0, (iV (IntKind.i64.wrap (Int.tdiv (((y0 + y1) / 2) + 2097152) (side d))) : Value) = (iV (((y0 + y1) / 2 + 2097152) / side d) : Value), (iV (if (2 ^ d.toNat) - 1 < ((y0 + y1) / 2 + 2097152) / side d then (2 ^ d.toNat) - 1 else ((y0 + y1) / 2 + 2097152) / side d) : Value) = (iV (colOf ((y0 + y1) / 2) d) : Value)]) (Ac (by omega) (Ac (quoN (by omega)) (Ao rfl))) ?_
   clear hf; intro a hf
   refine sxnext (hCq10i _ ⟨hM.sub (.cons_cons _ (.cons_cons _ (.cons_cons _ (.cons _ .slnil)))), hk0, trivial⟩) ?_
   refine sxleaf ?_
   have hC := (hCq10i _ ⟨hM.sub (.cons_cons _ (.cons_cons _ (.cons_cons _ (.cons _ .slnil)))), hk0, trivial⟩)
   refine qd hf hC (fun w' h => (hCq10e w' h).1) [73, 2, 6] [{}] (nw := [(74, eP B5 2)]) An ?_
   clear hf; intro a hf
   refine scstep rfl ?_
   have hMs : MemOk [⟨B5, 29, [iV d, iV (colOf ((x0 + x1) / 2) d), iV 0]⟩] w17 := hM.sub (.cons _ (.cons _ (.cons _ (.cons_cons _ .slnil))))
   refine q1 hf hMs [2, 6] [{ os := [.st 0 2] }] (nw := fun B13 => []) (M' := fun B13 => [⟨B5, 29, [iV d, iV (colOf ((x0 + x1) / 2) d), iV (colOf ((y0 + y1) / 2) d)]⟩]) (ob := fun B13 => [Ad B5 2]) (fun B13 => (Ao (ad _ _))) ?_
   clear hf hMs; intro a w18 B13 hf hMs hB hk; clear hB
   have hM : MemOk [⟨B1, 32, [iV x0, iV y0, iV x1, iV y1]⟩, ⟨B1 + 1, 29, [iV 0, iV 0, iV 0]⟩, ⟨B3, 46, [iV ((x0 + x1) / 2), iV ((y0 + y1) / 2)]⟩, ⟨B5, 29, [iV d, iV (colOf ((x0 + x1) / 2) d), iV (colOf ((y0 + y1) / 2) d)]⟩] w18 := MemOk.upd (M1 := [⟨B1, 32, [iV x0, iV y0, iV x1, iV y1]⟩, ⟨B1 + 1, 29, [iV 0, iV 0, iV 0]⟩, ⟨B3, 46, [iV ((x0 + x1) / 2), iV ((y0 + y1) / 2)]⟩]) (M2 := []) hM hk hMs rfl
   have hk0 := hk0.thenNew hk (by simp [Mem.names] <;> omega)
   clear hk hMs
   have hC := (hCq10i _ ⟨hM.sub (.cons_cons _ (.cons_cons _ (.cons_cons _ (.cons _ .slnil)))), hk0, trivial⟩)
   refine scdone hC ?_
   clear hC
   show K16 _ _
   refine hK16 _ _ ?_
   refine wp_seq_k (fun K17 hK17 => ?_)
   refine wp_region_lit ?_
   refine q1 hf hM [2] [{ os := [.ld 3 0, .ld 3 1, .ld 3 2] }, { os := [.st 1 0, .st 1 1, .st 1 2] }, {}] (nw := fun B14 => [(3, .val (.nilIface))]) (M' := fun B14 => [⟨B1, 32, [iV x0, iV y0, iV x1, iV y1]⟩, ⟨B1 + 1, 29, [iV d, iV (colOf ((x0 + x1) / 2) d), iV (colOf ((y0 + y1) / 2) d)]⟩, ⟨B3, 46, [iV ((x0 + x1) / 2), iV ((y0 + y1) / 2)]⟩, ⟨B5, 29, [iV d, iV (colOf ((x0 + x1) / 2) d), iV (colOf ((y0 + y1) / 2) d)]⟩]) (ob := fun B14 => [Ad B5 0, Ad B5 1, Ad B5 2, Ad (B1 + 1) 0, Ad (B1 + 1) 1, Ad (B1 + 1) 2]) (fun B14 => (Ac (ad _ _) (Ac (ad _ _) (Ac (ad _ _) (Ac (ad _ _) (Ac (ad _ _) (Ao (ad _ _)))))))) ?_
   clear hf hM; intro a w19 B14 hf hM hB hk
   have hbB14 : w.heap.size ≤ B14 := by have := hk0.size; omega
   have hk0 := hk0.thenNew hk (by simp [Mem.names] <;> omega)
   clear hk hB
   refine wpList_nil ?_
   refine hK17 _ _ ?_
   refine wp_ret ?_
   refine qr (fn := Tryd.f13) hf hM [.ld 1 0, .ld 1 1, .ld 1 2] (l := [.agg #[iV d, iV (colOf ((x0 + x1) / 2) d), iV (colOf ((y0 + y1) / 2) d)], .nilIface]) (ob := [Ad (B1 + 1) 0, Ad (B1 + 1) 1, Ad (B1 + 1) 2]) (Ac (ad _ _) (Ac (ad _ _) (Ao (ad _ _)))) ?_
   show (.tuple #[.agg #[iV d, iV (colOf ((x0 + x1) / 2) d), iV (colOf ((y0 + y1) / 2) d)], .nilIface] : Value) = .tuple #[.agg #[iV (depthOf (bsize x0 y0 x1 y1)), iV (colOf ((x0 + x1) / 2) (depthOf (bsize x0 y0 x1 y1))), iV (colOf ((y0 + y1) / 2) (depthOf (bsize x0 y0 x1 y1)))], .nilIface] ∧ Keep Nn w w19
   have hdd : depthOf (bsize x0 y0 x1 y1) = d := by
     by_cases h8 : d = 8
     · omega
     · have h := depthOf_iff hm (by omega : 0 ≤ d + 1 ∧ d + 1 ≤ 8)
       simp only [bsize] at *
       omega
   rw [hdd]
   exact ⟨rfl, hk0⟩
end Go.Proofs.YthofalkkdpjdlaaDoor
