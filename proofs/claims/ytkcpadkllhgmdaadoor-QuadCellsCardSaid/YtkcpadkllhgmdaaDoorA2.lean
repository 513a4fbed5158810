/- layer 12 -/
import Derived.Test.YtkcpadkllhgmdaaDoorA1
namespace Go.Proofs.YtkcpadkllhgmdaaDoor
open Go.Px
set_option linter.unusedVariables false
set_option linter.unusedSimpArgs false
theorem enters37 : enters Tryd.prog 37 := ⟨_, Tryd.func37, by kernel_rfl, rfl⟩
theorem enters43 : enters Tryd.prog 43 := ⟨_, Tryd.func43, by kernel_rfl, rfl⟩

set_option maxRecDepth 10000 in
theorem cell_right (d x y : Int) (w : World) :
    Calls Tryd.prog 43 #[.agg #[.int .i64 d, .int .i64 x, .int .i64 y]] w (Ret fun v w' => v = .bool (cellRight d x y) ∧ Keep Nn w w') := by
  refine sxenter (n := 36) (args := [.agg #[.int .i64 d, .int .i64 x, .int .i64 y]]) Tryd.func43 rfl rfl rfl fun a hf => ?_
  replace hf : Fr 36 [(0, .val (.agg #[.int .i64 d, .int .i64 x, .int .i64 y]))] a := hf
  have hM : MemOk [] w := MemOk.nil w
  have hk0 : Keep Nn w w := Keep.refl _ _
  refine wp_seq_k (fun K1 hK1 => ?_)
  refine wp_region_lit ?_
  refine sr hf hM [1] [{ os := [.nw] }, {}] (env' := fun B1 => [(1, .val (.pointer (some ⟨B1, 0, none⟩)))]) (M' := fun B1 => [⟨B1, 44, [.int .i64 d, .int .i64 x, .int .i64 y]⟩]) (ob := fun B1 => []) (fun B => by as_aux_lemma => kernel_rfl) (fun B1 => An) ?_
  clear hf hM; intro a w1 B1 hf hM hB hk
  have hbB1 : w.heap.size ≤ B1 := by have := hk0.size; omega
  have hk0 := hk0.then hk (by intro i _ h; cases h)
  clear hk hB
  refine wpList_nil ?_
  refine hK1 _ _ ?_
  refine wp_seq_k (fun K2 hK2 => ?_)
  refine wp_seq_k (fun K3 hK3 => ?_)
  refine wp_region_lit ?_
  refine sr0 hf hM [11, 1] [{}, { os := [.ld 0 0] }, {}, {}, { g := .sym }, { g := .sym, os := [.ld 0 0] }, { g := .sym }, { hint := some (.bool ((decide ((d : Int) < 0)) || (decide ((d : Int) > 8)))) }] (env' := [(11, .val (.bool ((decide ((d : Int) < 0)) || (decide ((d : Int) > 8))))), (1, .val (.pointer (some ⟨B1, 0, none⟩)))]) (ob := [Ad B1 0, ((decide ((d : Int) < 0)) = false → (decide ((d : Int) < 0)) = (decide ((d : Int) < 0))), ((decide ((d : Int) < 0)) = false → Ad B1 0), ((decide ((d : Int) < 0)) = false → (decide ((d : Int) < 0)) = (decide ((d : Int) < 0))), ((decide ((d : Int) < 0)) = false → (decide ((d : Int) < 0)) = (decide ((d : Int) < 0))), (bif (decide ((d : Int) < 0)) then (.bool true : Value) else .bool (decide ((d : Int) > 8))) = .bool ((decide ((d : Int) < 0)) || (decide ((d : Int) > 8)))]) (fun B => by as_aux_lemma => kernel_rfl) rfl (Ac (ad _ _) (Ac (fun hgd => rfl) (Ac (fun hgd => ad _ _) (Ac (fun hgd => rfl) (Ac (fun _ => rfl) (Ao (pick_or _ _))))))) ?_
  clear hf; intro a hf
  refine wpList_nil ?_
  refine hK3 _ _ ?_
  refine sxcond hf (b := ((decide ((d : Int) < 0)) || (decide ((d : Int) > 8)))) (by kernel_rfl) (fun hc1 => ?_) (fun hc1 => ?_)
  · have hc1r := hc1
    try simp only [Bool.or_eq_true, Bool.and_eq_true, Bool.not_eq_true', Bool.not_eq_false', Bool.or_eq_false_iff, Bool.and_eq_false_iff, decide_eq_true_eq, decide_eq_false_iff_not, beq_iff_eq, bne_iff_ne, beq_eq_false_iff_ne, bne_eq_false_iff_eq, Bool.and_true, Bool.true_and, ne_eq] at hc1
    refine wp_seq_k (fun K4 hK4 => ?_)
    refine wp_region_lit ?_
    refine sr0 hf hM [2] [{}] (env' := [(2, .val (.bool false))]) (ob := []) (fun B => by as_aux_lemma => kernel_rfl) rfl An ?_
    clear hf; intro a hf
    refine wpList_nil ?_
    refine hK4 _ _ ?_
    refine wp_ret ?_
    refine sxret (fn := Tryd.f43) hf hM [] (l := [.bool false]) (M' := [⟨B1, 44, [.int .i64 d, .int .i64 x, .int .i64 y]⟩]) (d' := false) (ob := []) (by kernel_rfl) (fun B => ⟨B, by as_aux_lemma => kernel_rfl⟩) rfl An ?_
    show (.bool false : Value) = .bool (cellRight d x y) ∧ Keep Nn w w1
    refine ⟨congrArg Value.bool ?_, hk0⟩
    rw [Bool.eq_iff_iff]
    simp only [cellRight, Bool.or_eq_true, Bool.and_eq_true, Bool.not_eq_true', Bool.not_eq_false', Bool.or_eq_false_iff, Bool.and_eq_false_iff, decide_eq_true_eq, decide_eq_false_iff_not, beq_iff_eq, Bool.false_eq_true, Bool.true_eq_false, false_iff, true_iff, iff_true, iff_false, not_true, not_false_iff, true_and, and_true, false_and, and_false, ge_iff_le, gt_iff_lt] at *
    try omega
  · have hc1r := hc1
    try simp only [Bool.or_eq_true, Bool.and_eq_true, Bool.not_eq_true', Bool.not_eq_false', Bool.or_eq_false_iff, Bool.and_eq_false_iff, decide_eq_true_eq, decide_eq_false_iff_not, beq_iff_eq, bne_iff_ne, beq_eq_false_iff_ne, bne_eq_false_iff_eq, Bool.and_true, Bool.true_and, ne_eq] at hc1
    have hp := pow_bd (d := d) (by omega)
    refine wp_skip ?_
    refine hK2 _ _ ?_
    refine wp_seq_k (fun K5 hK5 => ?_)
    refine wp_region_lit ?_
    refine sr0 hf hM [3, 1] [{}, { os := [.ld 0 0] }, { sp := true, hint := some (.int .i64 (2 ^ d.toNat)) }, { hint := some (.int .i64 ((2 ^ d.toNat) - 1)) }, {}] (env' := [(3, .val (.int .i64 ((2 ^ d.toNat) - 1))), (1, .val (.pointer (some ⟨B1, 0, none⟩)))]) (ob := [Ad B1 0, 0 ≤ (d : Int), (.int .i64 (IntKind.i64.wrap (1 * 2 ^ (min (d : Int).toNat IntKind.i64.bits))) : Value) = (.int .i64 (2 ^ d.toNat) : Value), (.int .i64 (IntKind.i64.wrap ((2 ^ d.toNat) - 1)) : Value) = (.int .i64 ((2 ^ d.toNat) - 1) : Value)]) (fun B => by as_aux_lemma => kernel_rfl) rfl (Ac (ad _ _) (Ac (by omega) (Ac (shl_one (by omega)) (Ao (wr (by omega)))))) ?_
    clear hf; intro a hf
    refine wpList_nil ?_
    refine hK5 _ _ ?_
    refine wp_seq_k (fun K6 hK6 => ?_)
    refine wp_region_lit ?_
    refine sr0 hf hM [2] [{}, { os := [.ld 0 1] }, {}, {}, { g := .sym }, { g := .sym, os := [.ld 0 1] }, { g := .sym }, { g := .sym }, { hint := some (.bool ((decide ((x : Int) ≥ 0)) && (decide ((x : Int) ≤ ((2 ^ d.toNat) - 1))))) }, {}, { g := .sym }, { g := .sym, os := [.ld 0 2] }, { g := .sym }, { hint := some (.bool (((decide ((x : Int) ≥ 0)) && (decide ((x : Int) ≤ ((2 ^ d.toNat) - 1)))) && (decide ((y : Int) ≥ 0)))) }, {}, { g := .sym }, { g := .sym, os := [.ld 0 2] }, { g := .sym }, { g := .sym }, { hint := some (.bool ((((decide ((x : Int) ≥ 0)) && (decide ((x : Int) ≤ ((2 ^ d.toNat) - 1)))) && (decide ((y : Int) ≥ 0))) && (decide ((y : Int) ≤ ((2 ^ d.toNat) - 1))))) }, {}] (env' := [(2, .val (.bool ((((decide ((x : Int) ≥ 0)) && (decide ((x : Int) ≤ ((2 ^ d.toNat) - 1)))) && (decide ((y : Int) ≥ 0))) && (decide ((y : Int) ≤ ((2 ^ d.toNat) - 1))))))]) (ob := [Ad B1 1, ((decide ((x : Int) ≥ 0)) = true → (decide ((x : Int) ≥ 0)) = (decide ((x : Int) ≥ 0))), ((decide ((x : Int) ≥ 0)) = true → Ad B1 1), ((decide ((x : Int) ≥ 0)) = true → (decide ((x : Int) ≥ 0)) = (decide ((x : Int) ≥ 0))), ((decide ((x : Int) ≥ 0)) = true → (decide ((x : Int) ≥ 0)) = (decide ((x : Int) ≥ 0))), ((decide ((x : Int) ≥ 0)) = true → (decide ((x : Int) ≥ 0)) = (decide ((x : Int) ≥ 0))), (bif (decide ((x : Int) ≥ 0)) then (.bool (decide ((x : Int) ≤ ((2 ^ d.toNat) - 1))) : Value) else .bool false) = .bool ((decide ((x : Int) ≥ 0)) && (decide ((x : Int) ≤ ((2 ^ d.toNat) - 1)))), (((decide ((x : Int) ≥ 0)) && (decide ((x : Int) ≤ ((2 ^ d.toNat) - 1)))) = true → ((decide ((x : Int) ≥ 0)) && (decide ((x : Int) ≤ ((2 ^ d.toNat) - 1)))) = ((decide ((x : Int) ≥ 0)) && (decide ((x : Int) ≤ ((2 ^ d.toNat) - 1))))), (((decide ((x : Int) ≥ 0)) && (decide ((x : Int) ≤ ((2 ^ d.toNat) - 1)))) = true → Ad B1 2), (((decide ((x : Int) ≥ 0)) && (decide ((x : Int) ≤ ((2 ^ d.toNat) - 1)))) = true → ((decide ((x : Int) ≥ 0)) && (decide ((x : Int) ≤ ((2 ^ d.toNat) - 1)))) = ((decide ((x : Int) ≥ 0)) && (decide ((x : Int) ≤ ((2 ^ d.toNat) - 1))))), (((decide ((x : Int) ≥ 0)) && (decide ((x : Int) ≤ ((2 ^ d.toNat) - 1)))) = true → ((decide ((x : Int) ≥ 0)) && (decide ((x : Int) ≤ ((2 ^ d.toNat) - 1)))) = ((decide ((x : Int) ≥ 0)) && (decide ((x : Int) ≤ ((2 ^ d.toNat) - 1))))), (bif ((decide ((x : Int) ≥ 0)) && (decide ((x : Int) ≤ ((2 ^ d.toNat) - 1)))) then (.bool (decide ((y : Int) ≥ 0)) : Value) else .bool false) = .bool (((decide ((x : Int) ≥ 0)) && (decide ((x : Int) ≤ ((2 ^ d.toNat) - 1)))) && (decide ((y : Int) ≥ 0))), ((((decide ((x : Int) ≥ 0)) && (decide ((x : Int) ≤ ((2 ^ d.toNat) - 1)))) && (decide ((y : Int) ≥ 0))) = true → (((decide ((x : Int) ≥ 0)) && (decide ((x : Int) ≤ ((2 ^ d.toNat) - 1)))) && (decide ((y : Int) ≥ 0))) = (((decide ((x : Int) ≥ 0)) && (decide ((x : Int) ≤ ((2 ^ d.toNat) - 1)))) && (decide ((y : Int) ≥ 0)))), ((((decide ((x : Int) ≥ 0)) && (decide ((x : Int) ≤ ((2 ^ d.toNat) - 1)))) && (decide ((y : Int) ≥ 0))) = true → Ad B1 2), ((((decide ((x : Int) ≥ 0)) && (decide ((x : Int) ≤ ((2 ^ d.toNat) - 1)))) && (decide ((y : Int) ≥ 0))) = true → (((decide ((x : Int) ≥ 0)) && (decide ((x : Int) ≤ ((2 ^ d.toNat) - 1)))) && (decide ((y : Int) ≥ 0))) = (((decide ((x : Int) ≥ 0)) && (decide ((x : Int) ≤ ((2 ^ d.toNat) - 1)))) && (decide ((y : Int) ≥ 0)))), ((((decide ((x : Int) ≥ 0)) && (decide ((x : Int) ≤ ((2 ^ d.toNat) - 1)))) && (decide ((y : Int) ≥ 0))) = true → (((decide ((x : Int) ≥ 0)) && (decide ((x : Int) ≤ ((2 ^ d.toNat) - 1)))) && (decide ((y : Int) ≥ 0))) = (((decide ((x : Int) ≥ 0)) && (decide ((x : Int) ≤ ((2 ^ d.toNat) - 1)))) && (decide ((y : Int) ≥ 0)))), ((((decide ((x : Int) ≥ 0)) && (decide ((x : Int) ≤ ((2 ^ d.toNat) - 1)))) && (decide ((y : Int) ≥ 0))) = true → (((decide ((x : Int) ≥ 0)) && (decide ((x : Int) ≤ ((2 ^ d.toNat) - 1)))) && (decide ((y : Int) ≥ 0))) = (((decide ((x : Int) ≥ 0)) && (decide ((x : Int) ≤ ((2 ^ d.toNat) - 1)))) && (decide ((y : Int) ≥ 0)))), (bif (((decide ((x : Int) ≥ 0)) && (decide ((x : Int) ≤ ((2 ^ d.toNat) - 1)))) && (decide ((y : Int) ≥ 0))) then (.bool (decide ((y : Int) ≤ ((2 ^ d.toNat) - 1))) : Value) else .bool false) = .bool ((((decide ((x : Int) ≥ 0)) && (decide ((x : Int) ≤ ((2 ^ d.toNat) - 1)))) && (decide ((y : Int) ≥ 0))) && (decide ((y : Int) ≤ ((2 ^ d.toNat) - 1))))]) (fun B => by as_aux_lemma => kernel_rfl) rfl (Ac (ad _ _) (Ac (fun hgd => rfl) (Ac (fun hgd => ad _ _) (Ac (fun hgd => rfl) (Ac (fun hgd => rfl) (Ac (fun _ => rfl) (Ac (pick_and _ _) (Ac (fun hgd => rfl) (Ac (fun hgd => ad _ _) (Ac (fun hgd => rfl) (Ac (fun _ => rfl) (Ac (pick_and _ _) (Ac (fun hgd => rfl) (Ac (fun hgd => ad _ _) (Ac (fun hgd => rfl) (Ac (fun hgd => rfl) (Ac (fun _ => rfl) (Ao (pick_and _ _))))))))))))))))))) ?_
    clear hf; intro a hf
    refine wpList_nil ?_
    refine hK6 _ _ ?_
    refine wp_ret ?_
    refine sxret (fn := Tryd.f43) hf hM [] (l := [.bool ((((decide ((x : Int) ≥ 0)) && (decide ((x : Int) ≤ ((2 ^ d.toNat) - 1)))) && (decide ((y : Int) ≥ 0))) && (decide ((y : Int) ≤ ((2 ^ d.toNat) - 1))))]) (M' := [⟨B1, 44, [.int .i64 d, .int .i64 x, .int .i64 y]⟩]) (d' := false) (ob := []) (by kernel_rfl) (fun B => ⟨B, by as_aux_lemma => kernel_rfl⟩) rfl An ?_
    show (.bool ((((decide ((x : Int) ≥ 0)) && (decide ((x : Int) ≤ ((2 ^ d.toNat) - 1)))) && (decide ((y : Int) ≥ 0))) && (decide ((y : Int) ≤ ((2 ^ d.toNat) - 1)))) : Value) = .bool (cellRight d x y) ∧ Keep Nn w w1
    refine ⟨congrArg Value.bool ?_, hk0⟩
    rw [Bool.eq_iff_iff]
    simp only [cellRight, Bool.or_eq_true, Bool.and_eq_true, Bool.not_eq_true', Bool.not_eq_false', Bool.or_eq_false_iff, Bool.and_eq_false_iff, decide_eq_true_eq, decide_eq_false_iff_not, beq_iff_eq, Bool.false_eq_true, Bool.true_eq_false, false_iff, true_iff, iff_true, iff_false, not_true, not_false_iff, true_and, and_true, false_and, and_false, ge_iff_le, gt_iff_lt] at *
    try omega

set_option maxRecDepth 10000 in
theorem side_any (d : Int) (w : World) (hd : 0 ≤ d ∧ d ≤ 8) :
    Calls Tryd.prog 37 #[.int .i64 d] w (Ret fun v w' => v = .int .i64 (side d) ∧ Keep Nn w w') := by
  refine sxenter (n := 5) (args := [.int .i64 d]) Tryd.func37 rfl rfl rfl fun a hf => ?_
  replace hf : Fr 5 [(0, .val (.int .i64 d))] a := hf
  have hM : MemOk [] w := MemOk.nil w
  have hk0 : Keep Nn w w := Keep.refl _ _
  refine wp_seq_k (fun K1 hK1 => ?_)
  refine wp_region_lit ?_
  refine sr0 hf hM [0] [{}] (env' := [(0, .val (.int .i64 d))]) (ob := []) (fun B => by as_aux_lemma => kernel_rfl) rfl An ?_
  clear hf; intro a hf
  refine wpList_nil ?_
  refine hK1 _ _ ?_
  refine wp_seq_k (fun K2 hK2 => ?_)
  refine wp_region_lit ?_
  refine sr0 hf hM [2] [{}, { sp := true, hint := some (.int .i64 (side d)) }, {}] (env' := [(2, .val (.int .i64 (side d)))]) (ob := [0 ≤ (d : Int), (.int .i64 (Int.fdiv 4194304 (2 ^ (min (d : Int).toNat IntKind.i64.bits))) : Value) = (.int .i64 (side d) : Value)]) (fun B => by as_aux_lemma => kernel_rfl) rfl (Ac (by omega) (Ao (shr_side hd))) ?_
  clear hf; intro a hf
  refine wpList_nil ?_
  refine hK2 _ _ ?_
  refine wp_ret ?_
  refine sxret (fn := Tryd.f37) hf hM [] (l := [.int .i64 (side d)]) (M' := []) (d' := false) (ob := []) (by kernel_rfl) (fun B => ⟨B, by as_aux_lemma => kernel_rfl⟩) rfl An ?_
  show (.int .i64 (side d) : Value) = .int .i64 (side d) ∧ Keep Nn w w
  exact ⟨rfl, hk0⟩

set_option maxRecDepth 10000 in
theorem world_any (w : World) :
    Calls Tryd.prog 36 #[] w (Ret fun v w' => v = .agg #[.int .i64 (-2097152), .int .i64 (-2097152), .int .i64 2097152, .int .i64 2097152] ∧ Keep Nn w w') := by
  refine sxenter (n := 2) (args := []) Tryd.func36 rfl rfl rfl fun a hf => ?_
  replace hf : Fr 2 [] a := hf
  have hM : MemOk [] w := MemOk.nil w
  have hk0 : Keep Nn w w := Keep.refl _ _
  refine wp_seq_k (fun K1 hK1 => ?_)
  refine wp_region_lit ?_
  refine sr hf hM [0] [{ os := [.nw] }] (env' := fun B1 => [(0, .val (.pointer (some ⟨B1, 0, none⟩)))]) (M' := fun B1 => [⟨B1, 42, [.int .i64 0, .int .i64 0, .int .i64 0, .int .i64 0]⟩]) (ob := fun B1 => []) (fun B => by as_aux_lemma => kernel_rfl) (fun B1 => An) ?_
  clear hf hM; intro a w1 B1 hf hM hB hk
  have hbB1 : w.heap.size ≤ B1 := by have := hk0.size; omega
  have hk0 := hk0.then hk (by intro i _ h; cases h)
  clear hk hB
  refine wpList_nil ?_
  refine hK1 _ _ ?_
  refine wp_seq_k (fun K2 hK2 => ?_)
  refine wp_region_lit ?_
  refine sr hf hM [0] [{ sp := true }, { os := [.st 0 0, .st 0 1, .st 0 2, .st 0 3] }] (env' := fun B2 => [(0, .val (.pointer (some ⟨B1, 0, none⟩)))]) (M' := fun B2 => [⟨B1, 42, [.int .i64 (-2097152), .int .i64 (-2097152), .int .i64 2097152, .int .i64 2097152]⟩]) (ob := fun B2 => [Ad B1 0, Ad B1 1, Ad B1 2, Ad B1 3]) (fun B => by as_aux_lemma => kernel_rfl) (fun B2 => (Ac (ad _ _) (Ac (ad _ _) (Ac (ad _ _) (Ao (ad _ _)))))) ?_
  clear hf hM; intro a w2 B2 hf hM hB hk
  have hbB2 : w.heap.size ≤ B2 := by have := hk0.size; omega
  have hk0 := hk0.then hk (by intro i hi h; simp only [Is, Mem.names, List.map_cons, List.map_nil, List.mem_cons, List.not_mem_nil, or_false] at h; omega)
  clear hk hB
  refine wpList_nil ?_
  refine hK2 _ _ ?_
  refine wp_ret ?_
  refine sxret (fn := Tryd.f36) hf hM [.ld 0 0, .ld 0 1, .ld 0 2, .ld 0 3] (l := [.agg #[.int .i64 (-2097152), .int .i64 (-2097152), .int .i64 2097152, .int .i64 2097152]]) (M' := [⟨B1, 42, [.int .i64 (-2097152), .int .i64 (-2097152), .int .i64 2097152, .int .i64 2097152]⟩]) (d' := false) (ob := [Ad B1 0, Ad B1 1, Ad B1 2, Ad B1 3]) (by kernel_rfl) (fun B => ⟨B, by as_aux_lemma => kernel_rfl⟩) rfl (Ac (ad _ _) (Ac (ad _ _) (Ac (ad _ _) (Ao (ad _ _))))) ?_
  show (.agg #[.int .i64 (-2097152), .int .i64 (-2097152), .int .i64 2097152, .int .i64 2097152] : Value) = .agg #[.int .i64 (-2097152), .int .i64 (-2097152), .int .i64 2097152, .int .i64 2097152] ∧ Keep Nn w w2
  exact ⟨rfl, hk0⟩

set_option maxRecDepth 10000 in
theorem loose_ok (E : Nat → Addr) (d x y : Int) (w : World) (hn0 : (cellRight d x y) = true) :
    Calls Tryd.prog 18 #[.agg #[.int .i64 d, .int .i64 x, .int .i64 y]] w (Ret fun v w' => v = .tuple #[.agg #[.int .i64 (x * side d - 2097152 - side d / 2), .int .i64 (y * side d - 2097152 - side d / 2), .int .i64 (x * side d - 2097152 + side d + side d / 2), .int .i64 (y * side d - 2097152 + side d + side d / 2)], .nilIface] ∧ Keep Nn w w') := by
  refine sxenter (n := 46) (args := [.agg #[.int .i64 d, .int .i64 x, .int .i64 y]]) Tryd.func18 rfl rfl rfl fun a hf => ?_
  replace hf : Fr 46 [(0, .val (.agg #[.int .i64 d, .int .i64 x, .int .i64 y]))] a := hf
  have hM : MemOk [] w := MemOk.nil w
  have hk0 : Keep Nn w w := Keep.refl _ _
  have hc := cellRight_iff.1 hn0
  have hs := side_bd (d := d) (by omega)
  have hx := mul_side (d := d) (x := x) (by omega) (by omega)
  have hy := mul_side (d := d) (x := y) (by omega) (by omega)
  refine wp_seq_k (fun K1 hK1 => ?_)
  refine wp_region_lit ?_
  refine sr hf hM [3, 2, 1] [{ os := [.nw] }, { os := [.nw] }, {}] (env' := fun B1 => [(3, .val (.nilIface)), (2, .val (.pointer (some ⟨B1 + 1, 0, none⟩))), (1, .val (.pointer (some ⟨B1, 0, none⟩)))]) (M' := fun B1 => [⟨B1, 44, [.int .i64 d, .int .i64 x, .int .i64 y]⟩, ⟨B1 + 1, 42, [.int .i64 0, .int .i64 0, .int .i64 0, .int .i64 0]⟩]) (ob := fun B1 => []) (fun B => by as_aux_lemma => kernel_rfl) (fun B1 => An) ?_
  clear hf hM; intro a w1 B1 hf hM hB hk
  have hbB1 : w.heap.size ≤ B1 := by have := hk0.size; omega
  have hk0 := hk0.then hk (by intro i _ h; cases h)
  clear hk hB
  refine wpList_nil ?_
  refine hK1 _ _ ?_
  refine wp_seq_k (fun K2 hK2 => ?_)
  refine wp_seq_k (fun K3 hK3 => ?_)
  refine wp_region_lit ?_
  refine sr0 hf hM [7, 3, 2, 1] [{ os := [.ld 0 0, .ld 0 1, .ld 0 2] }] (env' := [(7, .val (.agg #[.int .i64 d, .int .i64 x, .int .i64 y])), (3, .val (.nilIface)), (2, .val (.pointer (some ⟨B1 + 1, 0, none⟩))), (1, .val (.pointer (some ⟨B1, 0, none⟩)))]) (ob := [Ad B1 0, Ad B1 1, Ad B1 2]) (fun B => by as_aux_lemma => kernel_rfl) rfl (Ac (ad _ _) (Ac (ad _ _) (Ao (ad _ _)))) ?_
  clear hf; intro a hf
  refine sxcall hf rfl rfl rfl rfl (g := 43) (vs := [.agg #[.int .i64 d, .int .i64 x, .int .i64 y]]) (ob := []) (by as_aux_lemma => kernel_rfl) An enters43 (cell_right d x y w1  ) ?_
  clear hf; rintro _ w2 a ⟨rfl, hk⟩ hf
  have hM := hM.keepNn hk
  have hk0 := hk0.trans hk.nn
  clear hk
  refine sr0 hf hM [9, 3, 2, 1] [{}] (env' := [(9, .val (.bool (!(cellRight d x y)))), (3, .val (.nilIface)), (2, .val (.pointer (some ⟨B1 + 1, 0, none⟩))), (1, .val (.pointer (some ⟨B1, 0, none⟩)))]) (ob := []) (fun B => by as_aux_lemma => kernel_rfl) rfl An ?_
  clear hf; intro a hf
  refine wpList_nil ?_
  refine hK3 _ _ ?_
  refine sxcond hf (b := !(cellRight d x y)) (by kernel_rfl) (fun h => absurd (h.symm.trans (by simp [hn0] : (!(cellRight d x y) : Bool) = false)) (by simp)) (fun _ => ?_)
  refine wp_skip ?_
  refine hK2 _ _ ?_
  refine wp_seq_k (fun K4 hK4 => ?_)
  refine wp_region_lit ?_
  refine sr0 hf hM [13, 2, 1] [{}, { os := [.ld 0 0] }] (env' := [(13, .val (.int .i64 d)), (2, .val (.pointer (some ⟨B1 + 1, 0, none⟩))), (1, .val (.pointer (some ⟨B1, 0, none⟩)))]) (ob := [Ad B1 0]) (fun B => by as_aux_lemma => kernel_rfl) rfl (Ao (ad _ _)) ?_
  clear hf; intro a hf
  refine sxcall hf rfl rfl rfl rfl (g := 37) (vs := [.int .i64 d]) (ob := []) (by as_aux_lemma => kernel_rfl) An enters37 (side_any d w2  (by omega)) ?_
  clear hf; rintro _ w3 a ⟨rfl, hk⟩ hf
  have hM := hM.keepNn hk
  have hk0 := hk0.trans hk.nn
  clear hk
  refine sr0 hf hM [4, 2, 1] [{}] (env' := [(4, .val (.int .i64 (side d))), (2, .val (.pointer (some ⟨B1 + 1, 0, none⟩))), (1, .val (.pointer (some ⟨B1, 0, none⟩)))]) (ob := []) (fun B => by as_aux_lemma => kernel_rfl) rfl An ?_
  clear hf; intro a hf
  refine wpList_nil ?_
  refine hK4 _ _ ?_
  refine wp_seq_k (fun K5 hK5 => ?_)
  refine sxdraw [] [(0, true), (1, true), (2, true), (3, true), (4, true), (5, true), (6, true), (7, true), (8, true), (9, true), (10, true), (11, true)] (by kernel_rfl) (by kernel_rfl) (by as_aux_lemma => kernel_rfl) rfl (by as_aux_lemma => kernel_rfl) (by kernel_rfl) ?_
  replace hM := hM.drew; replace hk0 := hk0.drew
  have hkd := hk0
  have hC : Keep (Is []) w3.drew w3.drew := Keep.refl _ _
  have hM0 := hM
  have hMr := hM
  refine sc0 hf hMr (by intro k _ h; cases h) hC [6, 5, 4, 2] [{}, { os := [.ld 0 1] }, {}, { hint := some (.int .i64 (x * (side d))) }, { hint := some (.int .i64 ((x * (side d)) - 2097152)) }, {}, { os := [.ld 0 2] }, {}, { hint := some (.int .i64 (y * (side d))) }, { hint := some (.int .i64 ((y * (side d)) - 2097152)) }, {}, {}] (env' := [(6, .val (.int .i64 ((y * (side d)) - 2097152))), (5, .val (.int .i64 ((x * (side d)) - 2097152))), (4, .val (.int .i64 (side d))), (2, .val (.pointer (some ⟨B1 + 1, 0, none⟩)))]) (ob := [Ad B1 1, (.int .i64 (IntKind.i64.wrap (x * (side d))) : Value) = (.int .i64 (x * (side d)) : Value), (.int .i64 (IntKind.i64.wrap ((x * (side d)) - 2097152)) : Value) = (.int .i64 ((x * (side d)) - 2097152) : Value), Ad B1 2, (.int .i64 (IntKind.i64.wrap (y * (side d))) : Value) = (.int .i64 (y * (side d)) : Value), (.int .i64 (IntKind.i64.wrap ((y * (side d)) - 2097152)) : Value) = (.int .i64 ((y * (side d)) - 2097152) : Value)]) (by as_aux_lemma => kernel_rfl) rfl (Ac (ad _ _) (Ac (wr (by omega)) (Ac (wr (by omega)) (Ac (ad _ _) (Ac (wr (by omega)) (Ao (wr (by omega)))))))) ?_
  clear hf; intro a hf
  have hM := hMr.keep hC (by intro _ _ h; cases h)
  clear hMr hC hkd
  show K5 _ _
  refine hK5 _ _ ?_
  refine wp_seq_k (fun K6 hK6 => ?_)
  refine wp_region_lit ?_
  refine sr hf hM [3, 2] [{}, {}, { sp := true, hint := some (.int .i64 (side d / 2)) }, { hint := some (.int .i64 (((x * (side d)) - 2097152) - (side d / 2))) }, {}, {}, { sp := true, hint := some (.int .i64 (side d / 2)) }, { hint := some (.int .i64 (((y * (side d)) - 2097152) - (side d / 2))) }, {}, {}, { hint := some (.int .i64 (((x * (side d)) - 2097152) + (side d))) }, {}, { sp := true, hint := some (.int .i64 (side d / 2)) }, { hint := some (.int .i64 ((((x * (side d)) - 2097152) + (side d)) + (side d / 2))) }, {}, {}, { hint := some (.int .i64 (((y * (side d)) - 2097152) + (side d))) }, {}, { sp := true, hint := some (.int .i64 (side d / 2)) }, { hint := some (.int .i64 ((((y * (side d)) - 2097152) + (side d)) + (side d / 2))) }, { sp := true }, { os := [.st 1 0, .st 1 1, .st 1 2, .st 1 3] }, {}] (env' := fun B6 => [(3, .val (.nilIface)), (2, .val (.pointer (some ⟨B1 + 1, 0, none⟩)))]) (M' := fun B6 => [⟨B1, 44, [.int .i64 d, .int .i64 x, .int .i64 y]⟩, ⟨B1 + 1, 42, [.int .i64 (((x * (side d)) - 2097152) - (side d / 2)), .int .i64 (((y * (side d)) - 2097152) - (side d / 2)), .int .i64 ((((x * (side d)) - 2097152) + (side d)) + (side d / 2)), .int .i64 ((((y * (side d)) - 2097152) + (side d)) + (side d / 2))]⟩]) (ob := fun B6 => [(2 : Int) ≠ 0, (.int .i64 (IntKind.i64.wrap (Int.tdiv (side d) 2)) : Value) = (.int .i64 (side d / 2) : Value), (.int .i64 (IntKind.i64.wrap (((x * (side d)) - 2097152) - (side d / 2))) : Value) = (.int .i64 (((x * (side d)) - 2097152) - (side d / 2)) : Value), (2 : Int) ≠ 0, (.int .i64 (IntKind.i64.wrap (Int.tdiv (side d) 2)) : Value) = (.int .i64 (side d / 2) : Value), (.int .i64 (IntKind.i64.wrap (((y * (side d)) - 2097152) - (side d / 2))) : Value) = (.int .i64 (((y * (side d)) - 2097152) - (side d / 2)) : Value), (.int .i64 (IntKind.i64.wrap (((x * (side d)) - 2097152) + (side d))) : Value) = (.int .i64 (((x * (side d)) - 2097152) + (side d)) : Value), (2 : Int) ≠ 0, (.int .i64 (IntKind.i64.wrap (Int.tdiv (side d) 2)) : Value) = (.int .i64 (side d / 2) : Value), (.int .i64 (IntKind.i64.wrap ((((x * (side d)) - 2097152) + (side d)) + (side d / 2))) : Value) = (.int .i64 ((((x * (side d)) - 2097152) + (side d)) + (side d / 2)) : Value), (.int .i64 (IntKind.i64.wrap (((y * (side d)) - 2097152) + (side d))) : Value) = (.int .i64 (((y * (side d)) - 2097152) + (side d)) : Value), (2 : Int) ≠ 0, (.int .i64 (IntKind.i64.wrap (Int.tdiv (side d) 2)) : Value) = (.int .i64 (side d / 2) : Value), (.int .i64 (IntKind.i64.wrap ((((y * (side d)) - 2097152) + (side d)) + (side d / 2))) : Value) = (.int .i64 ((((y * (side d)) - 2097152) + (side d)) + (side d / 2)) : Value), Ad (B1 + 1) 0, Ad (B1 + 1) 1, Ad (B1 + 1) 2, Ad (B1 + 1) 3]) (fun B => by as_aux_lemma => kernel_rfl) (fun B6 => (Ac (by omega) (Ac (quo2 (by omega)) (Ac (wr (by omega)) (Ac (by omega) (Ac (quo2 (by omega)) (Ac (wr (by omega)) (Ac (wr (by omega)) (Ac (by omega) (Ac (quo2 (by omega)) (Ac (wr (by omega)) (Ac (wr (by omega)) (Ac (by omega) (Ac (quo2 (by omega)) (Ac (wr (by omega)) (Ac (ad _ _) (Ac (ad _ _) (Ac (ad _ _) (Ao (ad _ _)))))))))))))))))))) ?_
  clear hf hM; intro a w4 B6 hf hM hB hk
  have hbB6 : w.heap.size ≤ B6 := by have := hk0.size; omega
  have hk0 := hk0.then hk (by intro i hi h; simp only [Is, Mem.names, List.map_cons, List.map_nil, List.mem_cons, List.not_mem_nil, or_false] at h; omega)
  clear hk hB
  refine wpList_nil ?_
  refine hK6 _ _ ?_
  refine wp_ret ?_
  refine sxret (fn := Tryd.f18) hf hM [.ld 1 0, .ld 1 1, .ld 1 2, .ld 1 3] (l := [.agg #[.int .i64 (((x * (side d)) - 2097152) - (side d / 2)), .int .i64 (((y * (side d)) - 2097152) - (side d / 2)), .int .i64 ((((x * (side d)) - 2097152) + (side d)) + (side d / 2)), .int .i64 ((((y * (side d)) - 2097152) + (side d)) + (side d / 2))], .nilIface]) (M' := [⟨B1, 44, [.int .i64 d, .int .i64 x, .int .i64 y]⟩, ⟨B1 + 1, 42, [.int .i64 (((x * (side d)) - 2097152) - (side d / 2)), .int .i64 (((y * (side d)) - 2097152) - (side d / 2)), .int .i64 ((((x * (side d)) - 2097152) + (side d)) + (side d / 2)), .int .i64 ((((y * (side d)) - 2097152) + (side d)) + (side d / 2))]⟩]) (d' := false) (ob := [Ad (B1 + 1) 0, Ad (B1 + 1) 1, Ad (B1 + 1) 2, Ad (B1 + 1) 3]) (by kernel_rfl) (fun B => ⟨B, by as_aux_lemma => kernel_rfl⟩) rfl (Ac (ad _ _) (Ac (ad _ _) (Ac (ad _ _) (Ao (ad _ _))))) ?_
  show (.tuple #[.agg #[.int .i64 (((x * (side d)) - 2097152) - (side d / 2)), .int .i64 (((y * (side d)) - 2097152) - (side d / 2)), .int .i64 ((((x * (side d)) - 2097152) + (side d)) + (side d / 2)), .int .i64 ((((y * (side d)) - 2097152) + (side d)) + (side d / 2))], .nilIface] : Value) = .tuple #[.agg #[.int .i64 (x * side d - 2097152 - side d / 2), .int .i64 (y * side d - 2097152 - side d / 2), .int .i64 (x * side d - 2097152 + side d + side d / 2), .int .i64 (y * side d - 2097152 + side d + side d / 2)], .nilIface] ∧ Keep Nn w w4
  exact ⟨rfl, hk0⟩

set_option maxRecDepth 10000 in
theorem loose_no (E : Nat → Addr) (d x y : Int) (w : World) (hn0 : (cellRight d x y) = false) (hG : Errs 10 w 115 E) :
    Calls Tryd.prog 18 #[.agg #[.int .i64 d, .int .i64 x, .int .i64 y]] w (Ret fun v w' => v = .tuple #[.agg #[.int .i64 0, .int .i64 0, .int .i64 0, .int .i64 0], .iface 115 (.pointer (some (E 0)))] ∧ Keep Nn w w') := by
  refine sxenter (n := 46) (args := [.agg #[.int .i64 d, .int .i64 x, .int .i64 y]]) Tryd.func18 rfl rfl rfl fun a hf => ?_
  replace hf : Fr 46 [(0, .val (.agg #[.int .i64 d, .int .i64 x, .int .i64 y]))] a := hf
  have hM : MemOk [] w := MemOk.nil w
  have hk0 : Keep Nn w w := Keep.refl _ _
  have hgs := hG.size
  refine wp_seq_k (fun K1 hK1 => ?_)
  refine wp_region_lit ?_
  refine sr hf hM [3, 2, 1] [{ os := [.nw] }, { os := [.nw] }, {}] (env' := fun B1 => [(3, .val (.nilIface)), (2, .val (.pointer (some ⟨B1 + 1, 0, none⟩))), (1, .val (.pointer (some ⟨B1, 0, none⟩)))]) (M' := fun B1 => [⟨B1, 44, [.int .i64 d, .int .i64 x, .int .i64 y]⟩, ⟨B1 + 1, 42, [.int .i64 0, .int .i64 0, .int .i64 0, .int .i64 0]⟩]) (ob := fun B1 => []) (fun B => by as_aux_lemma => kernel_rfl) (fun B1 => An) ?_
  clear hf hM; intro a w1 B1 hf hM hB hk
  have hbB1 : w.heap.size ≤ B1 := by have := hk0.size; omega
  have hk0 := hk0.then hk (by intro i _ h; cases h)
  clear hk hB
  refine wpList_nil ?_
  refine hK1 _ _ ?_
  refine wp_seq_k (fun K2 hK2 => ?_)
  refine wp_seq_k (fun K3 hK3 => ?_)
  refine wp_region_lit ?_
  refine sr0 hf hM [7, 3, 2, 1] [{ os := [.ld 0 0, .ld 0 1, .ld 0 2] }] (env' := [(7, .val (.agg #[.int .i64 d, .int .i64 x, .int .i64 y])), (3, .val (.nilIface)), (2, .val (.pointer (some ⟨B1 + 1, 0, none⟩))), (1, .val (.pointer (some ⟨B1, 0, none⟩)))]) (ob := [Ad B1 0, Ad B1 1, Ad B1 2]) (fun B => by as_aux_lemma => kernel_rfl) rfl (Ac (ad _ _) (Ac (ad _ _) (Ao (ad _ _)))) ?_
  clear hf; intro a hf
  refine sxcall hf rfl rfl rfl rfl (g := 43) (vs := [.agg #[.int .i64 d, .int .i64 x, .int .i64 y]]) (ob := []) (by as_aux_lemma => kernel_rfl) An enters43 (cell_right d x y w1  ) ?_
  clear hf; rintro _ w2 a ⟨rfl, hk⟩ hf
  have hM := hM.keepNn hk
  have hk0 := hk0.trans hk.nn
  clear hk
  refine sr0 hf hM [9, 3, 2, 1] [{}] (env' := [(9, .val (.bool (!(cellRight d x y)))), (3, .val (.nilIface)), (2, .val (.pointer (some ⟨B1 + 1, 0, none⟩))), (1, .val (.pointer (some ⟨B1, 0, none⟩)))]) (ob := []) (fun B => by as_aux_lemma => kernel_rfl) rfl An ?_
  clear hf; intro a hf
  refine wpList_nil ?_
  refine hK3 _ _ ?_
  refine sxcond hf (b := !(cellRight d x y)) (by kernel_rfl) (fun _ => ?_) (fun h => absurd (h.symm.trans (by simp [hn0] : (!(cellRight d x y) : Bool) = true)) (by simp))
  refine wp_seq_k (fun K4 hK4 => ?_)
  refine sxdraw [B1 + 1] [(0, true), (1, true), (2, false), (3, true)] (by kernel_rfl) (by kernel_rfl) (by as_aux_lemma => kernel_rfl) rfl (by as_aux_lemma => kernel_rfl) (by kernel_rfl) ?_
  replace hM := hM.drew; replace hk0 := hk0.drew
  have hkd := hk0
  have hC : Keep (Is [B1 + 1]) w2.drew w2.drew := Keep.refl _ _
  have hM0 := hM
  have hMr : MemOk [⟨B1, 44, [.int .i64 d, .int .i64 x, .int .i64 y]⟩] w2.drew := hM.sub (.cons_cons _ (.cons _ .slnil))
  have hMs : MemOk [⟨B1 + 1, 42, [.int .i64 0, .int .i64 0, .int .i64 0, .int .i64 0]⟩] w2.drew := hM.sub (.cons _ (.cons_cons _ .slnil))
  have hnd := hM.nd; simp only [Mem.names, List.map_cons, List.map_nil, List.nodup_cons, List.mem_cons, List.not_mem_nil, or_false, not_or, not_false_eq_true, List.nodup_nil, and_true] at hnd
  refine sc0 hf hMr (by intro k hk h; simp only [Is, Mem.names, List.map_cons, List.map_nil, List.mem_cons, List.not_mem_nil, or_false] at hk h; omega) hC [11, 10, 3, 2] [{ sp := true }, { os := [.ex (.iface 115 (.pointer (some (E 0))))] }] (env' := [(11, .val (.iface 115 (.pointer (some (E 0))))), (10, .val (.agg #[.int .i64 0, .int .i64 0, .int .i64 0, .int .i64 0])), (3, .val (.nilIface)), (2, .val (.pointer (some ⟨B1 + 1, 0, none⟩)))]) (ob := [w2.drew.cell? ⟨0, 0, none⟩ = some (.iface 115 (.pointer (some (E 0)))) ∧ ¬ (⟨0, 0, none⟩ : Addr).block ∈ ([B1 + 1] : List Nat)]) (by as_aux_lemma => kernel_rfl) rfl (Ao ⟨(hkd.cell (hG.cell 0 (by decide)) (fun h => h)), by first | (simp; done) | (simp; omega)⟩) ?_
  clear hf; intro a hf
  refine sc1 rfl hf hMs (by intro k hk; exact hk) hC [11, 3, 2] { os := [.st 0 0, .st 0 1, .st 0 2, .st 0 3] } (env' := fun B4 => [(11, .val (.iface 115 (.pointer (some (E 0))))), (3, .val (.nilIface)), (2, .val (.pointer (some ⟨B1 + 1, 0, none⟩)))]) (M' := fun B4 => [⟨B1 + 1, 42, [.int .i64 0, .int .i64 0, .int .i64 0, .int .i64 0]⟩]) (ob := fun B4 => [Ad (B1 + 1) 0, Ad (B1 + 1) 1, Ad (B1 + 1) 2, Ad (B1 + 1) 3]) (fun B => by as_aux_lemma => kernel_rfl) (fun B4 => (Ac (ad _ _) (Ac (ad _ _) (Ac (ad _ _) (Ao (ad _ _)))))) ?_
  clear hf hMs; intro a w3 B4 hf hMs hB hk hC
  have hk0 := hk0.then hk (by intro i hi h; simp only [Is, Mem.names, List.map_cons, List.map_nil, List.mem_cons, List.not_mem_nil, or_false] at h; omega)
  clear hk
  clear hB
  refine sc0 hf hMr (by intro k hk h; simp only [Is, Mem.names, List.map_cons, List.map_nil, List.mem_cons, List.not_mem_nil, or_false] at hk h; omega) hC [3, 2] [{}] (env' := [(3, .val (.iface 115 (.pointer (some (E 0))))), (2, .val (.pointer (some ⟨B1 + 1, 0, none⟩)))]) (ob := []) (by as_aux_lemma => kernel_rfl) rfl An ?_
  clear hf; intro a hf
  have hM : MemOk [⟨B1, 44, [.int .i64 d, .int .i64 x, .int .i64 y]⟩, ⟨B1 + 1, 42, [.int .i64 0, .int .i64 0, .int .i64 0, .int .i64 0]⟩] w3 := hM0.merge (hMr.keep hC (by intro k hk h; simp only [Is, Mem.names, List.map_cons, List.map_nil, List.mem_cons, List.not_mem_nil, or_false] at hk h; omega)) hMs rfl (by intro b hb; simp only [List.mem_cons, List.not_mem_nil, or_false] at hb ⊢; first | (rcases hb with rfl | rfl <;> simp) | (rcases hb with rfl | rfl | rfl <;> simp) | (rcases hb with rfl | rfl | rfl | rfl <;> simp) | (rcases hb with rfl | rfl | rfl | rfl | rfl <;> simp) | (rcases hb with rfl | rfl | rfl | rfl | rfl | rfl <;> simp))
  clear hMr hC hkd hMs hnd
  show K4 _ _
  refine hK4 _ _ ?_
  refine wp_ret ?_
  refine sxret (fn := Tryd.f18) hf hM [.ld 1 0, .ld 1 1, .ld 1 2, .ld 1 3] (l := [.agg #[.int .i64 0, .int .i64 0, .int .i64 0, .int .i64 0], .iface 115 (.pointer (some (E 0)))]) (M' := [⟨B1, 44, [.int .i64 d, .int .i64 x, .int .i64 y]⟩, ⟨B1 + 1, 42, [.int .i64 0, .int .i64 0, .int .i64 0, .int .i64 0]⟩]) (d' := false) (ob := [Ad (B1 + 1) 0, Ad (B1 + 1) 1, Ad (B1 + 1) 2, Ad (B1 + 1) 3]) (by kernel_rfl) (fun B => ⟨B, by as_aux_lemma => kernel_rfl⟩) rfl (Ac (ad _ _) (Ac (ad _ _) (Ac (ad _ _) (Ao (ad _ _))))) ?_
  show (.tuple #[.agg #[.int .i64 0, .int .i64 0, .int .i64 0, .int .i64 0], .iface 115 (.pointer (some (E 0)))] : Value) = .tuple #[.agg #[.int .i64 0, .int .i64 0, .int .i64 0, .int .i64 0], .iface 115 (.pointer (some (E 0)))] ∧ Keep Nn w w3
  exact ⟨rfl, hk0⟩

set_option maxRecDepth 10000 in
theorem up_ok (d x y : Int) (w : World) (hn0 : (cellRight d x y) = true) (hn1 : (d == 0) = false) :
    Calls Tryd.prog 19 #[.agg #[.int .i64 d, .int .i64 x, .int .i64 y]] w (Ret fun v w' => v = .tuple #[.agg #[.int .i64 (d - 1), .int .i64 (x / 2), .int .i64 (y / 2)], .bool true] ∧ Keep Nn w w') := by
  refine sxenter (n := 23) (args := [.agg #[.int .i64 d, .int .i64 x, .int .i64 y]]) Tryd.func19 rfl rfl rfl fun a hf => ?_
  replace hf : Fr 23 [(0, .val (.agg #[.int .i64 d, .int .i64 x, .int .i64 y]))] a := hf
  have hM : MemOk [] w := MemOk.nil w
  have hk0 : Keep Nn w w := Keep.refl _ _
  have hc := cellRight_iff.1 hn0
  have hp := pow_bd (d := d) (by omega)
  have hd : d ≠ 0 := by simpa using hn1
  refine wp_seq_k (fun K1 hK1 => ?_)
  refine wp_region_lit ?_
  refine sr hf hM [2, 1] [{ os := [.nw] }, { os := [.nw] }, {}] (env' := fun B1 => [(2, .val (.pointer (some ⟨B1 + 1, 0, none⟩))), (1, .val (.pointer (some ⟨B1, 0, none⟩)))]) (M' := fun B1 => [⟨B1, 44, [.int .i64 d, .int .i64 x, .int .i64 y]⟩, ⟨B1 + 1, 44, [.int .i64 0, .int .i64 0, .int .i64 0]⟩]) (ob := fun B1 => []) (fun B => by as_aux_lemma => kernel_rfl) (fun B1 => An) ?_
  clear hf hM; intro a w1 B1 hf hM hB hk
  have hbB1 : w.heap.size ≤ B1 := by have := hk0.size; omega
  have hk0 := hk0.then hk (by intro i _ h; cases h)
  clear hk hB
  refine wpList_nil ?_
  refine hK1 _ _ ?_
  refine wp_seq_k (fun K2 hK2 => ?_)
  refine wp_seq_k (fun K3 hK3 => ?_)
  refine wp_region_lit ?_
  refine sr0 hf hM [4, 2, 1] [{ os := [.ld 0 0, .ld 0 1, .ld 0 2] }] (env' := [(4, .val (.agg #[.int .i64 d, .int .i64 x, .int .i64 y])), (2, .val (.pointer (some ⟨B1 + 1, 0, none⟩))), (1, .val (.pointer (some ⟨B1, 0, none⟩)))]) (ob := [Ad B1 0, Ad B1 1, Ad B1 2]) (fun B => by as_aux_lemma => kernel_rfl) rfl (Ac (ad _ _) (Ac (ad _ _) (Ao (ad _ _)))) ?_
  clear hf; intro a hf
  refine sxcall hf rfl rfl rfl rfl (g := 43) (vs := [.agg #[.int .i64 d, .int .i64 x, .int .i64 y]]) (ob := []) (by as_aux_lemma => kernel_rfl) An enters43 (cell_right d x y w1  ) ?_
  clear hf; rintro _ w2 a ⟨rfl, hk⟩ hf
  have hM := hM.keepNn hk
  have hk0 := hk0.trans hk.nn
  clear hk
  refine sr0 hf hM [7, 2, 1] [{}, {}] (env' := [(7, .val (.bool (!(cellRight d x y)))), (2, .val (.pointer (some ⟨B1 + 1, 0, none⟩))), (1, .val (.pointer (some ⟨B1, 0, none⟩)))]) (ob := []) (fun B => by as_aux_lemma => kernel_rfl) rfl An ?_
  clear hf; intro a hf
  have hf := hf.prune [7, 2, 1]
  replace hf : Fr 23 [(7, .val (.bool (!(cellRight d x y)))), (2, .val (.pointer (some ⟨B1 + 1, 0, none⟩))), (1, .val (.pointer (some ⟨B1, 0, none⟩)))] a := hf
  replace hf := hf.conv (env' := [(7, .val (.bool false)), (2, .val (.pointer (some ⟨B1 + 1, 0, none⟩))), (1, .val (.pointer (some ⟨B1, 0, none⟩)))]) (Ac (congrArg Value.bool (by simp [hn0] : (!(cellRight d x y) : Bool) = false)) (Ac rfl (Ao rfl)))
  refine sr0 hf hM [11, 2, 1] [{}, { os := [.ld 0 0] }, {}, {}] (env' := [(11, .val (.bool ((d : Int) == 0))), (2, .val (.pointer (some ⟨B1 + 1, 0, none⟩))), (1, .val (.pointer (some ⟨B1, 0, none⟩)))]) (ob := [false = false, false = false, Ad B1 0, false = false]) (fun B => by as_aux_lemma => kernel_rfl) rfl (Ac rfl (Ac rfl (Ac (ad _ _) (Ao rfl)))) ?_
  clear hf; intro a hf
  refine wpList_nil ?_
  refine hK3 _ _ ?_
  refine sxcond hf (b := ((d : Int) == 0)) (by kernel_rfl) (fun hc1 => ?_) (fun hc1 => ?_)
  · have hc1r := hc1
    simp [hn0, hd] at hc1
    done
  · have hc1r := hc1
    simp [hn0, hd] at hc1
    refine wp_skip ?_
    refine hK2 _ _ ?_
    refine wp_seq_k (fun K4 hK4 => ?_)
    refine wp_region_lit ?_
    refine sr hf hM [3, 2] [{}, { os := [.ld 0 0] }, { hint := some (.int .i64 (d - 1)) }, {}, { os := [.ld 0 1] }, { sp := true, hint := some (.int .i64 (x / 2)) }, {}, { os := [.ld 0 2] }, { sp := true, hint := some (.int .i64 (y / 2)) }, { sp := true }, { os := [.st 1 0, .st 1 1, .st 1 2] }, {}] (env' := fun B5 => [(3, .val (.bool true)), (2, .val (.pointer (some ⟨B1 + 1, 0, none⟩)))]) (M' := fun B5 => [⟨B1, 44, [.int .i64 d, .int .i64 x, .int .i64 y]⟩, ⟨B1 + 1, 44, [.int .i64 (d - 1), .int .i64 (x / 2), .int .i64 (y / 2)]⟩]) (ob := fun B5 => [Ad B1 0, (.int .i64 (IntKind.i64.wrap (d - 1)) : Value) = (.int .i64 (d - 1) : Value), Ad B1 1, (2 : Int) ≠ 0, (.int .i64 (IntKind.i64.wrap (Int.tdiv x 2)) : Value) = (.int .i64 (x / 2) : Value), Ad B1 2, (2 : Int) ≠ 0, (.int .i64 (IntKind.i64.wrap (Int.tdiv y 2)) : Value) = (.int .i64 (y / 2) : Value), Ad (B1 + 1) 0, Ad (B1 + 1) 1, Ad (B1 + 1) 2]) (fun B => by as_aux_lemma => kernel_rfl) (fun B5 => (Ac (ad _ _) (Ac (wr (by omega)) (Ac (ad _ _) (Ac (by omega) (Ac (quo2 (by omega)) (Ac (ad _ _) (Ac (by omega) (Ac (quo2 (by omega)) (Ac (ad _ _) (Ac (ad _ _) (Ao (ad _ _))))))))))))) ?_
    clear hf hM; intro a w3 B5 hf hM hB hk
    have hbB5 : w.heap.size ≤ B5 := by have := hk0.size; omega
    have hk0 := hk0.then hk (by intro i hi h; simp only [Is, Mem.names, List.map_cons, List.map_nil, List.mem_cons, List.not_mem_nil, or_false] at h; omega)
    clear hk hB
    refine wpList_nil ?_
    refine hK4 _ _ ?_
    refine wp_ret ?_
    refine sxret (fn := Tryd.f19) hf hM [.ld 1 0, .ld 1 1, .ld 1 2] (l := [.agg #[.int .i64 (d - 1), .int .i64 (x / 2), .int .i64 (y / 2)], .bool true]) (M' := [⟨B1, 44, [.int .i64 d, .int .i64 x, .int .i64 y]⟩, ⟨B1 + 1, 44, [.int .i64 (d - 1), .int .i64 (x / 2), .int .i64 (y / 2)]⟩]) (d' := false) (ob := [Ad (B1 + 1) 0, Ad (B1 + 1) 1, Ad (B1 + 1) 2]) (by kernel_rfl) (fun B => ⟨B, by as_aux_lemma => kernel_rfl⟩) rfl (Ac (ad _ _) (Ac (ad _ _) (Ao (ad _ _)))) ?_
    show (.tuple #[.agg #[.int .i64 (d - 1), .int .i64 (x / 2), .int .i64 (y / 2)], .bool true] : Value) = .tuple #[.agg #[.int .i64 (d - 1), .int .i64 (x / 2), .int .i64 (y / 2)], .bool true] ∧ Keep Nn w w3
    exact ⟨rfl, hk0⟩

set_option maxRecDepth 10000 in
theorem up_no (d x y : Int) (w : World) (hn0 : (upOk d x y) = false) :
    Calls Tryd.prog 19 #[.agg #[.int .i64 d, .int .i64 x, .int .i64 y]] w (Ret fun v w' => v = .tuple #[.agg #[.int .i64 0, .int .i64 0, .int .i64 0], .bool false] ∧ Keep Nn w w') := by
  refine sxenter (n := 23) (args := [.agg #[.int .i64 d, .int .i64 x, .int .i64 y]]) Tryd.func19 rfl rfl rfl fun a hf => ?_
  replace hf : Fr 23 [(0, .val (.agg #[.int .i64 d, .int .i64 x, .int .i64 y]))] a := hf
  have hM : MemOk [] w := MemOk.nil w
  have hk0 : Keep Nn w w := Keep.refl _ _
  refine wp_seq_k (fun K1 hK1 => ?_)
  refine wp_region_lit ?_
  refine sr hf hM [2, 1] [{ os := [.nw] }, { os := [.nw] }, {}] (env' := fun B1 => [(2, .val (.pointer (some ⟨B1 + 1, 0, none⟩))), (1, .val (.pointer (some ⟨B1, 0, none⟩)))]) (M' := fun B1 => [⟨B1, 44, [.int .i64 d, .int .i64 x, .int .i64 y]⟩, ⟨B1 + 1, 44, [.int .i64 0, .int .i64 0, .int .i64 0]⟩]) (ob := fun B1 => []) (fun B => by as_aux_lemma => kernel_rfl) (fun B1 => An) ?_
  clear hf hM; intro a w1 B1 hf hM hB hk
  have hbB1 : w.heap.size ≤ B1 := by have := hk0.size; omega
  have hk0 := hk0.then hk (by intro i _ h; cases h)
  clear hk hB
  refine wpList_nil ?_
  refine hK1 _ _ ?_
  refine wp_seq_k (fun K2 hK2 => ?_)
  refine wp_seq_k (fun K3 hK3 => ?_)
  refine wp_region_lit ?_
  refine sr0 hf hM [4, 2, 1] [{ os := [.ld 0 0, .ld 0 1, .ld 0 2] }] (env' := [(4, .val (.agg #[.int .i64 d, .int .i64 x, .int .i64 y])), (2, .val (.pointer (some ⟨B1 + 1, 0, none⟩))), (1, .val (.pointer (some ⟨B1, 0, none⟩)))]) (ob := [Ad B1 0, Ad B1 1, Ad B1 2]) (fun B => by as_aux_lemma => kernel_rfl) rfl (Ac (ad _ _) (Ac (ad _ _) (Ao (ad _ _)))) ?_
  clear hf; intro a hf
  refine sxcall hf rfl rfl rfl rfl (g := 43) (vs := [.agg #[.int .i64 d, .int .i64 x, .int .i64 y]]) (ob := []) (by as_aux_lemma => kernel_rfl) An enters43 (cell_right d x y w1  ) ?_
  clear hf; rintro _ w2 a ⟨rfl, hk⟩ hf
  have hM := hM.keepNn hk
  have hk0 := hk0.trans hk.nn
  clear hk
  refine sr0 hf hM [11, 2, 1] [{}, {}, { g := .sym }, { g := .sym, os := [.ld 0 0] }, { g := .sym }, { hint := some (.bool ((!(cellRight d x y)) || ((d : Int) == 0))) }] (env' := [(11, .val (.bool ((!(cellRight d x y)) || ((d : Int) == 0)))), (2, .val (.pointer (some ⟨B1 + 1, 0, none⟩))), (1, .val (.pointer (some ⟨B1, 0, none⟩)))]) (ob := [((!(cellRight d x y)) = false → (!(cellRight d x y)) = (!(cellRight d x y))), ((!(cellRight d x y)) = false → Ad B1 0), ((!(cellRight d x y)) = false → (!(cellRight d x y)) = (!(cellRight d x y))), ((!(cellRight d x y)) = false → (!(cellRight d x y)) = (!(cellRight d x y))), (bif !(cellRight d x y) then (.bool true : Value) else .bool ((d : Int) == 0)) = .bool ((!(cellRight d x y)) || ((d : Int) == 0))]) (fun B => by as_aux_lemma => kernel_rfl) rfl (Ac (fun hgd => rfl) (Ac (fun hgd => ad _ _) (Ac (fun hgd => rfl) (Ac (fun _ => rfl) (Ao (pick_or _ _)))))) ?_
  clear hf; intro a hf
  refine wpList_nil ?_
  refine hK3 _ _ ?_
  refine sxcond hf (b := ((!(cellRight d x y)) || ((d : Int) == 0))) (by kernel_rfl) (fun hc1 => ?_) (fun hc1 => ?_)
  · have hc1r := hc1
    simp [upOk] at hn0 hc1
    refine wp_seq_k (fun K4 hK4 => ?_)
    refine wp_region_lit ?_
    refine sr hf hM [3, 2] [{ sp := true }, { os := [.st 1 0, .st 1 1, .st 1 2] }, {}] (env' := fun B4 => [(3, .val (.bool false)), (2, .val (.pointer (some ⟨B1 + 1, 0, none⟩)))]) (M' := fun B4 => [⟨B1, 44, [.int .i64 d, .int .i64 x, .int .i64 y]⟩, ⟨B1 + 1, 44, [.int .i64 0, .int .i64 0, .int .i64 0]⟩]) (ob := fun B4 => [Ad (B1 + 1) 0, Ad (B1 + 1) 1, Ad (B1 + 1) 2]) (fun B => by as_aux_lemma => kernel_rfl) (fun B4 => (Ac (ad _ _) (Ac (ad _ _) (Ao (ad _ _))))) ?_
    clear hf hM; intro a w3 B4 hf hM hB hk
    have hbB4 : w.heap.size ≤ B4 := by have := hk0.size; omega
    have hk0 := hk0.then hk (by intro i hi h; simp only [Is, Mem.names, List.map_cons, List.map_nil, List.mem_cons, List.not_mem_nil, or_false] at h; omega)
    clear hk hB
    refine wpList_nil ?_
    refine hK4 _ _ ?_
    refine wp_ret ?_
    refine sxret (fn := Tryd.f19) hf hM [.ld 1 0, .ld 1 1, .ld 1 2] (l := [.agg #[.int .i64 0, .int .i64 0, .int .i64 0], .bool false]) (M' := [⟨B1, 44, [.int .i64 d, .int .i64 x, .int .i64 y]⟩, ⟨B1 + 1, 44, [.int .i64 0, .int .i64 0, .int .i64 0]⟩]) (d' := false) (ob := [Ad (B1 + 1) 0, Ad (B1 + 1) 1, Ad (B1 + 1) 2]) (by kernel_rfl) (fun B => ⟨B, by as_aux_lemma => kernel_rfl⟩) rfl (Ac (ad _ _) (Ac (ad _ _) (Ao (ad _ _)))) ?_
    show (.tuple #[.agg #[.int .i64 0, .int .i64 0, .int .i64 0], .bool false] : Value) = .tuple #[.agg #[.int .i64 0, .int .i64 0, .int .i64 0], .bool false] ∧ Keep Nn w w3
    exact ⟨rfl, hk0⟩
  · have hc1r := hc1
    simp [upOk] at hn0 hc1
    exact ((hn0 hc1.1) |> hc1.2).elim
end Go.Proofs.YtkcpadkllhgmdaaDoor
