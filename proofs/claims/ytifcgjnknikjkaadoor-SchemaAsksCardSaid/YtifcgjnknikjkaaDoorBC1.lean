/- layer 6 -/
import Derived.Test.YtifcgjnknikjkaaDoorBA1
namespace Go.Proofs.YtifcgjnknikjkaaDoor
open Go.Px
set_option linter.unusedVariables false
set_option linter.unusedSimpArgs false
theorem enters69 : enters Tryd.prog 69 := ⟨_, Tryd.func69, by kernel_rfl, rfl⟩
theorem enters70 : enters Tryd.prog 70 := ⟨_, Tryd.func70, by kernel_rfl, rfl⟩
theorem enters72 : enters Tryd.prog 72 := ⟨_, Tryd.func72, by kernel_rfl, rfl⟩
theorem enters93 : enters Tryd.prog 93 := ⟨_, Tryd.func93, by kernel_rfl, rfl⟩
theorem enters107 : enters Tryd.prog 107 := ⟨_, Tryd.func107, by kernel_rfl, rfl⟩

set_option maxRecDepth 10000 in
set_option maxHeartbeats 4000000 in
theorem rin6 (n l m : Int) (w : World) :
    Calls Tryd.prog 72 #[.int .i64 n, .int .i64 l, .int .i64 m] w (Ret fun v w' => v = .bool (decide (l ≤ n) && decide (n ≤ m)) ∧ Keep Nn w w') := by
  refine sxenter (n := 15) (args := [.int .i64 n, .int .i64 l, .int .i64 m]) Tryd.func72 rfl rfl rfl fun a hf => ?_
  replace hf : Fr 15 [(0, .val (.int .i64 n)), (1, .val (.int .i64 l)), (2, .val (.int .i64 m))] a := hf
  have hM : MemOk [] w := MemOk.nil w
  have hk0 : Keep Nn w w := Keep.refl _ _
  refine wp_seq_k (fun K1 hK1 => ?_)
  refine wp_region_lit ?_
  refine sr0 hf hM [0, 1, 2] [{}] (env' := [(0, .val (.int .i64 n)), (1, .val (.int .i64 l)), (2, .val (.int .i64 m))]) (ob := []) (fun B => by as_aux_lemma => kernel_rfl) rfl An ?_
  clear hf; intro a hf
  refine wpList_nil ?_
  refine hK1 _ _ ?_
  refine wp_seq_k (fun K2 hK2 => ?_)
  refine wp_region_lit ?_
  refine sr0 hf hM [6] [{}, {}, {}, {}, { g := .sym }, { g := .sym }, { g := .sym }, { hint := some (.bool ((decide ((l : Int) ≤ n)) && (decide ((n : Int) ≤ m)))) }, {}] (env' := [(6, .val (.bool ((decide ((l : Int) ≤ n)) && (decide ((n : Int) ≤ m)))))]) (ob := [((decide ((l : Int) ≤ n)) = true → (decide ((l : Int) ≤ n)) = (decide ((l : Int) ≤ n))), ((decide ((l : Int) ≤ n)) = true → (decide ((l : Int) ≤ n)) = (decide ((l : Int) ≤ n))), ((decide ((l : Int) ≤ n)) = true → (decide ((l : Int) ≤ n)) = (decide ((l : Int) ≤ n))), (bif (decide ((l : Int) ≤ n)) then (.bool (decide ((n : Int) ≤ m)) : Value) else .bool false) = .bool ((decide ((l : Int) ≤ n)) && (decide ((n : Int) ≤ m)))]) (fun B => by as_aux_lemma => kernel_rfl) rfl (Ac (fun hgd => rfl) (Ac (fun hgd => rfl) (Ac (fun _ => rfl) (Ao (pick_and _ _))))) ?_
  clear hf; intro a hf
  refine wpList_nil ?_
  refine hK2 _ _ ?_
  refine wp_ret ?_
  refine sxret (fn := Tryd.f72) hf hM [] (l := [.bool ((decide ((l : Int) ≤ n)) && (decide ((n : Int) ≤ m)))]) (M' := []) (d' := false) (ob := []) (by kernel_rfl) (fun B => ⟨B, by as_aux_lemma => kernel_rfl⟩) rfl An ?_
  show (.bool ((decide ((l : Int) ≤ n)) && (decide ((n : Int) ≤ m))) : Value) = .bool (decide (l ≤ n) && decide (n ≤ m)) ∧ Keep Nn w w
  exact ⟨rfl, hk0⟩

set_option maxRecDepth 10000 in
set_option maxHeartbeats 4000000 in
theorem span_has (l m n : Int) (w : World) :
    Calls Tryd.prog 70 #[.agg #[.int .i64 l, .int .i64 m], .int .i64 n] w (Ret fun v w' => v = .bool (decide (n ≥ l) && decide (n ≤ m)) ∧ Keep Nn w w') := by
  refine sxenter (n := 15) (args := [.agg #[.int .i64 l, .int .i64 m], .int .i64 n]) Tryd.func70 rfl rfl rfl fun a hf => ?_
  replace hf : Fr 15 [(0, .val (.agg #[.int .i64 l, .int .i64 m])), (1, .val (.int .i64 n))] a := hf
  have hM : MemOk [] w := MemOk.nil w
  have hk0 : Keep Nn w w := Keep.refl _ _
  refine wp_seq_k (fun K1 hK1 => ?_)
  refine wp_region_lit ?_
  refine sr hf hM [2, 1] [{ os := [.nw] }, {}] (env' := fun B1 => [(2, .val (.pointer (some ⟨B1, 0, none⟩))), (1, .val (.int .i64 n))]) (M' := fun B1 => [⟨B1, 127, [.int .i64 l, .int .i64 m]⟩]) (ob := fun B1 => []) (fun B => by as_aux_lemma => kernel_rfl) (fun B1 => An) ?_
  clear hf hM; intro a w1 B1 hf hM hB hk
  have hbB1 : w.heap.size ≤ B1 := by have := hk0.size; omega
  have hk0 := hk0.then hk (by intro i _ h; cases h)
  clear hk hB
  refine wpList_nil ?_
  refine hK1 _ _ ?_
  refine wp_seq_k (fun K2 hK2 => ?_)
  refine wp_region_lit ?_
  refine sr0 hf hM [4] [{}, {}, { os := [.ld 0 0] }, {}, {}, { g := .sym }, { g := .sym }, { g := .sym, os := [.ld 0 1] }, { g := .sym }, { hint := some (.bool ((decide ((n : Int) ≥ l)) && (decide ((n : Int) ≤ m)))) }, {}] (env' := [(4, .val (.bool ((decide ((n : Int) ≥ l)) && (decide ((n : Int) ≤ m)))))]) (ob := [Ad B1 0, ((decide ((n : Int) ≥ l)) = true → (decide ((n : Int) ≥ l)) = (decide ((n : Int) ≥ l))), ((decide ((n : Int) ≥ l)) = true → Ad B1 1), ((decide ((n : Int) ≥ l)) = true → (decide ((n : Int) ≥ l)) = (decide ((n : Int) ≥ l))), ((decide ((n : Int) ≥ l)) = true → (decide ((n : Int) ≥ l)) = (decide ((n : Int) ≥ l))), ((decide ((n : Int) ≥ l)) = true → (decide ((n : Int) ≥ l)) = (decide ((n : Int) ≥ l))), (bif (decide ((n : Int) ≥ l)) then (.bool (decide ((n : Int) ≤ m)) : Value) else .bool false) = .bool ((decide ((n : Int) ≥ l)) && (decide ((n : Int) ≤ m)))]) (fun B => by as_aux_lemma => kernel_rfl) rfl (Ac (ad _ _) (Ac (fun hgd => rfl) (Ac (fun hgd => ad _ _) (Ac (fun hgd => rfl) (Ac (fun hgd => rfl) (Ac (fun _ => rfl) (Ao (pick_and _ _)))))))) ?_
  clear hf; intro a hf
  refine wpList_nil ?_
  refine hK2 _ _ ?_
  refine wp_ret ?_
  refine sxret (fn := Tryd.f70) hf hM [] (l := [.bool ((decide ((n : Int) ≥ l)) && (decide ((n : Int) ≤ m)))]) (M' := [⟨B1, 127, [.int .i64 l, .int .i64 m]⟩]) (d' := false) (ob := []) (by kernel_rfl) (fun B => ⟨B, by as_aux_lemma => kernel_rfl⟩) rfl An ?_
  show (.bool ((decide ((n : Int) ≥ l)) && (decide ((n : Int) ≤ m))) : Value) = .bool (decide (n ≥ l) && decide (n ≤ m)) ∧ Keep Nn w w1
  exact ⟨rfl, hk0⟩

/-- The ranges of a kind's numbers. -/
def spanOf (k : Int) : (Int × Int) × (Int × Int) :=
  if k = 0 ∨ k = 2 then ((-1048576, 1048576), (-1048576, 1048576)) else if k = 1 then ((0, 1048576), (0, 1048576)) else if k = 3 then ((0, 0), (0, 0))
  else if k = 4 then ((0, 255), (0, 0)) else if k = 5 then ((0, 1048576), (0, 0)) else ((-4194304, 4194304), (-4194304, 4194304))
theorem vrange_span (k a b : Int) : vrange ⟨k, a, b⟩ = decide ((spanOf k).1.1 ≤ a ∧ a ≤ (spanOf k).1.2 ∧ (spanOf k).2.1 ≤ b ∧ b ≤ (spanOf k).2.2) := by
  unfold vrange spanOf
  repeat' split
  all_goals first | rfl | (rw [Bool.eq_iff_iff]; simp only [decide_eq_true_eq]; omega)

set_option maxRecDepth 10000 in
set_option maxHeartbeats 4000000 in
theorem ranges_ok (k : Int) (w : World) (hn0 : (decide (0 ≤ k ∧ k ≤ 9)) = true) :
    Calls Tryd.prog 69 #[.int .i64 k] w (Ret fun v w' => v = .tuple #[.agg #[.int .i64 (spanOf k).1.1, .int .i64 (spanOf k).1.2], .agg #[.int .i64 (spanOf k).2.1, .int .i64 (spanOf k).2.2], .bool true] ∧ Keep Nn w w') := by
  refine sxenter (n := 50) (args := [.int .i64 k]) Tryd.func69 rfl rfl rfl fun a hf => ?_
  replace hf : Fr 50 [(0, .val (.int .i64 k))] a := hf
  have hM : MemOk [] w := MemOk.nil w
  have hk0 : Keep Nn w w := Keep.refl _ _
  have hkk : 0 ≤ k ∧ k ≤ 9 := by simpa using hn0
  refine wp_seq_k (fun K1 hK1 => ?_)
  refine wp_region_lit ?_
  refine sr hf hM [4, 3, 2, 0] [{ os := [.nw] }, { os := [.nw] }, {}] (env' := fun B1 => [(4, .val (.bool false)), (3, .val (.pointer (some ⟨B1 + 1, 0, none⟩))), (2, .val (.pointer (some ⟨B1, 0, none⟩))), (0, .val (.int .i64 k))]) (M' := fun B1 => [⟨B1, 127, [.int .i64 0, .int .i64 0]⟩, ⟨B1 + 1, 127, [.int .i64 0, .int .i64 0]⟩]) (ob := fun B1 => []) (fun B => by as_aux_lemma => kernel_rfl) (fun B1 => An) ?_
  clear hf hM; intro a w1 B1 hf hM hB hk
  have hbB1 : w.heap.size ≤ B1 := by have := hk0.size; omega
  have hk0 := hk0.then hk (by intro i _ h; cases h)
  clear hk hB
  refine wpList_nil ?_
  refine hK1 _ _ ?_
  refine wp_seq_k (fun K2 hK2 => ?_)
  refine wp_region_lit ?_
  refine sr hf hM [5, 4, 3, 2, 0] [{ sp := true }, { os := [.nw] }, { os := [.st 2 0, .st 2 1] }] (env' := fun B2 => [(5, .val (.pointer (some ⟨B2, 0, none⟩))), (4, .val (.bool false)), (3, .val (.pointer (some ⟨B1 + 1, 0, none⟩))), (2, .val (.pointer (some ⟨B1, 0, none⟩))), (0, .val (.int .i64 k))]) (M' := fun B2 => [⟨B1, 127, [.int .i64 0, .int .i64 0]⟩, ⟨B1 + 1, 127, [.int .i64 0, .int .i64 0]⟩, ⟨B2, 127, [.int .i64 0, .int .i64 0]⟩]) (ob := fun B2 => [Ad B2 0, Ad B2 1]) (fun B => by as_aux_lemma => kernel_rfl) (fun B2 => (Ac (ad _ _) (Ao (ad _ _)))) ?_
  clear hf hM; intro a w2 B2 hf hM hB hk
  have hbB2 : w.heap.size ≤ B2 := by have := hk0.size; omega
  have hk0 := hk0.then hk (by intro i hi h; simp only [Is, Mem.names, List.map_cons, List.map_nil, List.mem_cons, List.not_mem_nil, or_false] at h; omega)
  clear hk hB
  refine wpList_nil ?_
  refine hK2 _ _ ?_
  refine wp_seq_k (fun K3 hK3 => ?_)
  refine wp_block ?_
  refine wp_seq_k (fun K4 hK4 => ?_)
  refine wp_region_lit ?_
  refine sr0 hf hM [7, 5, 4, 3, 2, 0] [{}, {}, {}, { g := .sym }, { g := .sym }, { hint := some (.bool ((decide ((k : Int) < 0)) || (decide ((k : Int) ≥ 10)))) }, {}] (env' := [(7, .val (.bool ((decide ((k : Int) < 0)) || (decide ((k : Int) ≥ 10))))), (5, .val (.pointer (some ⟨B2, 0, none⟩))), (4, .val (.bool false)), (3, .val (.pointer (some ⟨B1 + 1, 0, none⟩))), (2, .val (.pointer (some ⟨B1, 0, none⟩))), (0, .val (.int .i64 k))]) (ob := [((decide ((k : Int) < 0)) = false → (decide ((k : Int) < 0)) = (decide ((k : Int) < 0))), ((decide ((k : Int) < 0)) = false → (decide ((k : Int) < 0)) = (decide ((k : Int) < 0))), (bif (decide ((k : Int) < 0)) then (.bool true : Value) else .bool (decide ((k : Int) ≥ 10))) = .bool ((decide ((k : Int) < 0)) || (decide ((k : Int) ≥ 10)))]) (fun B => by as_aux_lemma => kernel_rfl) rfl (Ac (fun hgd => rfl) (Ac (fun _ => rfl) (Ao (pick_or _ _)))) ?_
  clear hf; intro a hf
  refine wpList_nil ?_
  refine hK4 _ _ ?_
  refine sxcond hf (b := ((decide ((k : Int) < 0)) || (decide ((k : Int) ≥ 10)))) (by kernel_rfl) (fun hc1 => ?_) (fun hc1 => ?_)
  · have hc1r := hc1
    try simp only [Bool.or_eq_true, Bool.and_eq_true, Bool.not_eq_true', Bool.not_eq_false', Bool.or_eq_false_iff, Bool.and_eq_false_iff, decide_eq_true_eq, decide_eq_false_iff_not, beq_iff_eq, bne_iff_ne, beq_eq_false_iff_ne, bne_eq_false_iff_eq, Bool.and_true, Bool.true_and, ne_eq] at hc1
    exfalso; omega
  · have hc1r := hc1
    try simp only [Bool.or_eq_true, Bool.and_eq_true, Bool.not_eq_true', Bool.not_eq_false', Bool.or_eq_false_iff, Bool.and_eq_false_iff, decide_eq_true_eq, decide_eq_false_iff_not, beq_iff_eq, bne_iff_ne, beq_eq_false_iff_ne, bne_eq_false_iff_eq, Bool.and_true, Bool.true_and, ne_eq] at hc1
    refine wp_seq_k (fun K5 hK5 => ?_)
    refine wp_region_lit ?_
    refine sr0 hf hM [16, 5, 4, 3, 2, 0] [{}, {}, {}, { g := .sym }, { g := .sym }, { hint := some (.bool (((k : Int) == 0) || ((k : Int) == 2))) }, {}] (env' := [(16, .val (.bool (((k : Int) == 0) || ((k : Int) == 2)))), (5, .val (.pointer (some ⟨B2, 0, none⟩))), (4, .val (.bool false)), (3, .val (.pointer (some ⟨B1 + 1, 0, none⟩))), (2, .val (.pointer (some ⟨B1, 0, none⟩))), (0, .val (.int .i64 k))]) (ob := [(((k : Int) == 0) = false → ((k : Int) == 0) = ((k : Int) == 0)), (((k : Int) == 0) = false → ((k : Int) == 0) = ((k : Int) == 0)), (bif ((k : Int) == 0) then (.bool true : Value) else .bool ((k : Int) == 2)) = .bool (((k : Int) == 0) || ((k : Int) == 2))]) (fun B => by as_aux_lemma => kernel_rfl) rfl (Ac (fun hgd => rfl) (Ac (fun _ => rfl) (Ao (pick_or _ _)))) ?_
    clear hf; intro a hf
    refine wpList_nil ?_
    refine hK5 _ _ ?_
    refine sxcond hf (b := (((k : Int) == 0) || ((k : Int) == 2))) (by kernel_rfl) (fun hc2 => ?_) (fun hc2 => ?_)
    · have hc2r := hc2
      try simp only [Bool.or_eq_true, Bool.and_eq_true, Bool.not_eq_true', Bool.not_eq_false', Bool.or_eq_false_iff, Bool.and_eq_false_iff, decide_eq_true_eq, decide_eq_false_iff_not, beq_iff_eq, bne_iff_ne, beq_eq_false_iff_ne, bne_eq_false_iff_eq, Bool.and_true, Bool.true_and, ne_eq] at hc2
      refine wp_seq_k (fun K6 hK6 => ?_)
      refine wp_region_lit ?_
      refine sr hf hM [3, 2] [{ sp := true }, { os := [.st 0 0, .st 0 1] }] (env' := fun B5 => [(3, .val (.pointer (some ⟨B1 + 1, 0, none⟩))), (2, .val (.pointer (some ⟨B1, 0, none⟩)))]) (M' := fun B5 => [⟨B1, 127, [.int .i64 (-1048576), .int .i64 1048576]⟩, ⟨B1 + 1, 127, [.int .i64 0, .int .i64 0]⟩, ⟨B2, 127, [.int .i64 0, .int .i64 0]⟩]) (ob := fun B5 => [Ad B1 0, Ad B1 1]) (fun B => by as_aux_lemma => kernel_rfl) (fun B5 => (Ac (ad _ _) (Ao (ad _ _)))) ?_
      clear hf hM; intro a w3 B5 hf hM hB hk
      have hbB5 : w.heap.size ≤ B5 := by have := hk0.size; omega
      have hk0 := hk0.then hk (by intro i hi h; simp only [Is, Mem.names, List.map_cons, List.map_nil, List.mem_cons, List.not_mem_nil, or_false] at h; omega)
      clear hk hB
      refine wpList_nil ?_
      refine hK6 _ _ ?_
      refine wp_seq_k (fun K7 hK7 => ?_)
      refine wp_region_lit ?_
      refine sr hf hM [4, 3, 2] [{ os := [.ld 0 0, .ld 0 1] }, { os := [.ld 0 0, .ld 0 1] }, { os := [.st 0 0, .st 0 1] }, { os := [.st 1 0, .st 1 1] }, {}] (env' := fun B6 => [(4, .val (.bool true)), (3, .val (.pointer (some ⟨B1 + 1, 0, none⟩))), (2, .val (.pointer (some ⟨B1, 0, none⟩)))]) (M' := fun B6 => [⟨B1, 127, [.int .i64 (-1048576), .int .i64 1048576]⟩, ⟨B1 + 1, 127, [.int .i64 (-1048576), .int .i64 1048576]⟩, ⟨B2, 127, [.int .i64 0, .int .i64 0]⟩]) (ob := fun B6 => [Ad B1 0, Ad B1 1, Ad B1 0, Ad B1 1, Ad B1 0, Ad B1 1, Ad (B1 + 1) 0, Ad (B1 + 1) 1]) (fun B => by as_aux_lemma => kernel_rfl) (fun B6 => (Ac (ad _ _) (Ac (ad _ _) (Ac (ad _ _) (Ac (ad _ _) (Ac (ad _ _) (Ac (ad _ _) (Ac (ad _ _) (Ao (ad _ _)))))))))) ?_
      clear hf hM; intro a w4 B6 hf hM hB hk
      have hbB6 : w.heap.size ≤ B6 := by have := hk0.size; omega
      have hk0 := hk0.then hk (by intro i hi h; simp only [Is, Mem.names, List.map_cons, List.map_nil, List.mem_cons, List.not_mem_nil, or_false] at h; omega)
      clear hk hB
      refine wpList_nil ?_
      refine hK7 _ _ ?_
      refine wp_ret ?_
      refine sxret (fn := Tryd.f69) hf hM [.ld 0 0, .ld 0 1, .ld 1 0, .ld 1 1] (l := [.agg #[.int .i64 (-1048576), .int .i64 1048576], .agg #[.int .i64 (-1048576), .int .i64 1048576], .bool true]) (M' := [⟨B1, 127, [.int .i64 (-1048576), .int .i64 1048576]⟩, ⟨B1 + 1, 127, [.int .i64 (-1048576), .int .i64 1048576]⟩, ⟨B2, 127, [.int .i64 0, .int .i64 0]⟩]) (d' := false) (ob := [Ad B1 0, Ad B1 1, Ad (B1 + 1) 0, Ad (B1 + 1) 1]) (by kernel_rfl) (fun B => ⟨B, by as_aux_lemma => kernel_rfl⟩) rfl (Ac (ad _ _) (Ac (ad _ _) (Ac (ad _ _) (Ao (ad _ _))))) ?_
      show (.tuple #[.agg #[.int .i64 (-1048576), .int .i64 1048576], .agg #[.int .i64 (-1048576), .int .i64 1048576], .bool true] : Value) = .tuple #[.agg #[.int .i64 (spanOf k).1.1, .int .i64 (spanOf k).1.2], .agg #[.int .i64 (spanOf k).2.1, .int .i64 (spanOf k).2.2], .bool true] ∧ Keep Nn w w4
      refine ⟨?_, hk0⟩
      unfold spanOf
      repeat' split
      all_goals first | rfl | (exfalso; simp at *; omega)
    · have hc2r := hc2
      try simp only [Bool.or_eq_true, Bool.and_eq_true, Bool.not_eq_true', Bool.not_eq_false', Bool.or_eq_false_iff, Bool.and_eq_false_iff, decide_eq_true_eq, decide_eq_false_iff_not, beq_iff_eq, bne_iff_ne, beq_eq_false_iff_ne, bne_eq_false_iff_eq, Bool.and_true, Bool.true_and, ne_eq] at hc2
      refine wp_seq_k (fun K8 hK8 => ?_)
      refine wp_region_lit ?_
      refine sr0 hf hM [26, 5, 4, 3, 2, 0] [{}, {}, {}] (env' := [(26, .val (.bool ((k : Int) == 1))), (5, .val (.pointer (some ⟨B2, 0, none⟩))), (4, .val (.bool false)), (3, .val (.pointer (some ⟨B1 + 1, 0, none⟩))), (2, .val (.pointer (some ⟨B1, 0, none⟩))), (0, .val (.int .i64 k))]) (ob := []) (fun B => by as_aux_lemma => kernel_rfl) rfl An ?_
      clear hf; intro a hf
      refine wpList_nil ?_
      refine hK8 _ _ ?_
      refine sxcond hf (b := ((k : Int) == 1)) (by kernel_rfl) (fun hc3 => ?_) (fun hc3 => ?_)
      · have hc3r := hc3
        try simp only [Bool.or_eq_true, Bool.and_eq_true, Bool.not_eq_true', Bool.not_eq_false', Bool.or_eq_false_iff, Bool.and_eq_false_iff, decide_eq_true_eq, decide_eq_false_iff_not, beq_iff_eq, bne_iff_ne, beq_eq_false_iff_ne, bne_eq_false_iff_eq, Bool.and_true, Bool.true_and, ne_eq] at hc3
        refine wp_seq_k (fun K9 hK9 => ?_)
        refine wp_region_lit ?_
        refine sr hf hM [3, 2] [{ sp := true }, { os := [.st 0 0, .st 0 1] }] (env' := fun B8 => [(3, .val (.pointer (some ⟨B1 + 1, 0, none⟩))), (2, .val (.pointer (some ⟨B1, 0, none⟩)))]) (M' := fun B8 => [⟨B1, 127, [.int .i64 0, .int .i64 1048576]⟩, ⟨B1 + 1, 127, [.int .i64 0, .int .i64 0]⟩, ⟨B2, 127, [.int .i64 0, .int .i64 0]⟩]) (ob := fun B8 => [Ad B1 0, Ad B1 1]) (fun B => by as_aux_lemma => kernel_rfl) (fun B8 => (Ac (ad _ _) (Ao (ad _ _)))) ?_
        clear hf hM; intro a w5 B8 hf hM hB hk
        have hbB8 : w.heap.size ≤ B8 := by have := hk0.size; omega
        have hk0 := hk0.then hk (by intro i hi h; simp only [Is, Mem.names, List.map_cons, List.map_nil, List.mem_cons, List.not_mem_nil, or_false] at h; omega)
        clear hk hB
        refine wpList_nil ?_
        refine hK9 _ _ ?_
        refine wp_seq_k (fun K10 hK10 => ?_)
        refine wp_region_lit ?_
        refine sr hf hM [4, 3, 2] [{ os := [.ld 0 0, .ld 0 1] }, { os := [.ld 0 0, .ld 0 1] }, { os := [.st 0 0, .st 0 1] }, { os := [.st 1 0, .st 1 1] }, {}] (env' := fun B9 => [(4, .val (.bool true)), (3, .val (.pointer (some ⟨B1 + 1, 0, none⟩))), (2, .val (.pointer (some ⟨B1, 0, none⟩)))]) (M' := fun B9 => [⟨B1, 127, [.int .i64 0, .int .i64 1048576]⟩, ⟨B1 + 1, 127, [.int .i64 0, .int .i64 1048576]⟩, ⟨B2, 127, [.int .i64 0, .int .i64 0]⟩]) (ob := fun B9 => [Ad B1 0, Ad B1 1, Ad B1 0, Ad B1 1, Ad B1 0, Ad B1 1, Ad (B1 + 1) 0, Ad (B1 + 1) 1]) (fun B => by as_aux_lemma => kernel_rfl) (fun B9 => (Ac (ad _ _) (Ac (ad _ _) (Ac (ad _ _) (Ac (ad _ _) (Ac (ad _ _) (Ac (ad _ _) (Ac (ad _ _) (Ao (ad _ _)))))))))) ?_
        clear hf hM; intro a w6 B9 hf hM hB hk
        have hbB9 : w.heap.size ≤ B9 := by have := hk0.size; omega
        have hk0 := hk0.then hk (by intro i hi h; simp only [Is, Mem.names, List.map_cons, List.map_nil, List.mem_cons, List.not_mem_nil, or_false] at h; omega)
        clear hk hB
        refine wpList_nil ?_
        refine hK10 _ _ ?_
        refine wp_ret ?_
        refine sxret (fn := Tryd.f69) hf hM [.ld 0 0, .ld 0 1, .ld 1 0, .ld 1 1] (l := [.agg #[.int .i64 0, .int .i64 1048576], .agg #[.int .i64 0, .int .i64 1048576], .bool true]) (M' := [⟨B1, 127, [.int .i64 0, .int .i64 1048576]⟩, ⟨B1 + 1, 127, [.int .i64 0, .int .i64 1048576]⟩, ⟨B2, 127, [.int .i64 0, .int .i64 0]⟩]) (d' := false) (ob := [Ad B1 0, Ad B1 1, Ad (B1 + 1) 0, Ad (B1 + 1) 1]) (by kernel_rfl) (fun B => ⟨B, by as_aux_lemma => kernel_rfl⟩) rfl (Ac (ad _ _) (Ac (ad _ _) (Ac (ad _ _) (Ao (ad _ _))))) ?_
        show (.tuple #[.agg #[.int .i64 0, .int .i64 1048576], .agg #[.int .i64 0, .int .i64 1048576], .bool true] : Value) = .tuple #[.agg #[.int .i64 (spanOf k).1.1, .int .i64 (spanOf k).1.2], .agg #[.int .i64 (spanOf k).2.1, .int .i64 (spanOf k).2.2], .bool true] ∧ Keep Nn w w6
        refine ⟨?_, hk0⟩
        unfold spanOf
        repeat' split
        all_goals first | rfl | (exfalso; simp at *; omega)
      · have hc3r := hc3
        try simp only [Bool.or_eq_true, Bool.and_eq_true, Bool.not_eq_true', Bool.not_eq_false', Bool.or_eq_false_iff, Bool.and_eq_false_iff, decide_eq_true_eq, decide_eq_false_iff_not, beq_iff_eq, bne_iff_ne, beq_eq_false_iff_ne, bne_eq_false_iff_eq, Bool.and_true, Bool.true_and, ne_eq] at hc3
        refine wp_seq_k (fun K11 hK11 => ?_)
        refine wp_region_lit ?_
        refine sr0 hf hM [32, 5, 4, 3, 2, 0] [{}, {}, {}] (env' := [(32, .val (.bool ((k : Int) == 3))), (5, .val (.pointer (some ⟨B2, 0, none⟩))), (4, .val (.bool false)), (3, .val (.pointer (some ⟨B1 + 1, 0, none⟩))), (2, .val (.pointer (some ⟨B1, 0, none⟩))), (0, .val (.int .i64 k))]) (ob := []) (fun B => by as_aux_lemma => kernel_rfl) rfl An ?_
        clear hf; intro a hf
        refine wpList_nil ?_
        refine hK11 _ _ ?_
        refine sxcond hf (b := ((k : Int) == 3)) (by kernel_rfl) (fun hc4 => ?_) (fun hc4 => ?_)
        · have hc4r := hc4
          try simp only [Bool.or_eq_true, Bool.and_eq_true, Bool.not_eq_true', Bool.not_eq_false', Bool.or_eq_false_iff, Bool.and_eq_false_iff, decide_eq_true_eq, decide_eq_false_iff_not, beq_iff_eq, bne_iff_ne, beq_eq_false_iff_ne, bne_eq_false_iff_eq, Bool.and_true, Bool.true_and, ne_eq] at hc4
          refine wp_seq_k (fun K12 hK12 => ?_)
          replace hM := hM.drew; replace hk0 := hk0.drew
          obtain ⟨C1, hC1d⟩ : ∃ C : World → Prop, C = fun w' => MemOk [⟨B2, 127, [.int .i64 0, .int .i64 0]⟩] w' ∧ Keep Nn w w' ∧ True := ⟨_, rfl⟩
          have hC1i : ∀ w', (MemOk [⟨B2, 127, [.int .i64 0, .int .i64 0]⟩] w' ∧ Keep Nn w w' ∧ True) → C1 w' := fun w' h => by rw [hC1d]; exact h
          have hC1e : ∀ w', C1 w' → (MemOk [⟨B2, 127, [.int .i64 0, .int .i64 0]⟩] w' ∧ Keep Nn w w' ∧ True) := fun w' h => by rw [hC1d] at h; exact h
          refine sxdraw (C := C1) (.leaf [(0, true), (1, true), (2, false), (3, false), (4, true)]) (by kernel_rfl) (by kernel_rfl) (by as_aux_lemma => kernel_rfl) rfl (by as_aux_lemma => kernel_rfl) (by kernel_rfl) (hC1i _ ⟨hM.sub (.cons _ (.cons _ (.cons_cons _ .slnil))), hk0, trivial⟩) ?_
          refine sxleaf ?_
          have hC := (hC1i _ ⟨hM.sub (.cons _ (.cons _ (.cons_cons _ .slnil))), hk0, trivial⟩)
          refine sc0 hf hC (fun w' h => (hC1e w' h).1) [36, 35, 4, 3, 2] [{ os := [.ld 0 0, .ld 0 1] }, { os := [.ld 0 0, .ld 0 1] }] (env' := [(36, .val (.agg #[.int .i64 0, .int .i64 0])), (35, .val (.agg #[.int .i64 0, .int .i64 0])), (4, .val (.bool false)), (3, .val (.pointer (some ⟨B1 + 1, 0, none⟩))), (2, .val (.pointer (some ⟨B1, 0, none⟩)))]) (ob := [Ad B2 0, Ad B2 1, Ad B2 0, Ad B2 1]) (by as_aux_lemma => kernel_rfl) rfl (Ac (ad _ _) (Ac (ad _ _) (Ac (ad _ _) (Ao (ad _ _))))) ?_
          clear hf; intro a hf
          refine scstep rfl ?_
          have hMs : MemOk [⟨B1, 127, [.int .i64 0, .int .i64 0]⟩] w2.drew := hM.sub (.cons_cons _ (.cons _ (.cons _ .slnil)))
          refine sr hf hMs [36, 4, 3, 2] [{ os := [.st 0 0, .st 0 1] }] (env' := fun B11 => [(36, .val (.agg #[.int .i64 0, .int .i64 0])), (4, .val (.bool false)), (3, .val (.pointer (some ⟨B1 + 1, 0, none⟩))), (2, .val (.pointer (some ⟨B1, 0, none⟩)))]) (M' := fun B11 => [⟨B1, 127, [.int .i64 0, .int .i64 0]⟩]) (ob := fun B11 => [Ad B1 0, Ad B1 1]) (fun B => by as_aux_lemma => kernel_rfl) (fun B11 => (Ac (ad _ _) (Ao (ad _ _)))) ?_
          clear hf hMs; intro a w7 B11 hf hMs hB hk; clear hB
          have hM : MemOk [⟨B1, 127, [.int .i64 0, .int .i64 0]⟩, ⟨B1 + 1, 127, [.int .i64 0, .int .i64 0]⟩, ⟨B2, 127, [.int .i64 0, .int .i64 0]⟩] w7 := MemOk.upd (M1 := []) (M2 := [⟨B1 + 1, 127, [.int .i64 0, .int .i64 0]⟩, ⟨B2, 127, [.int .i64 0, .int .i64 0]⟩]) hM hk hMs rfl
          have hk0 := hk0.then hk (by intro i hi h; simp only [Is, Mem.names, List.map_cons, List.map_nil, List.mem_cons, List.not_mem_nil, or_false] at h; omega)
          clear hk hMs
          have hC := (hC1i _ ⟨hM.sub (.cons _ (.cons _ (.cons_cons _ .slnil))), hk0, trivial⟩)
          refine scdone hC ?_
          refine scstep rfl ?_
          have hMs : MemOk [⟨B1 + 1, 127, [.int .i64 0, .int .i64 0]⟩] w7 := hM.sub (.cons _ (.cons_cons _ (.cons _ .slnil)))
          refine sr hf hMs [4, 3, 2] [{ os := [.st 0 0, .st 0 1] }] (env' := fun B12 => [(4, .val (.bool false)), (3, .val (.pointer (some ⟨B1 + 1, 0, none⟩))), (2, .val (.pointer (some ⟨B1, 0, none⟩)))]) (M' := fun B12 => [⟨B1 + 1, 127, [.int .i64 0, .int .i64 0]⟩]) (ob := fun B12 => [Ad (B1 + 1) 0, Ad (B1 + 1) 1]) (fun B => by as_aux_lemma => kernel_rfl) (fun B12 => (Ac (ad _ _) (Ao (ad _ _)))) ?_
          clear hf hMs; intro a w8 B12 hf hMs hB hk; clear hB
          have hM : MemOk [⟨B1, 127, [.int .i64 0, .int .i64 0]⟩, ⟨B1 + 1, 127, [.int .i64 0, .int .i64 0]⟩, ⟨B2, 127, [.int .i64 0, .int .i64 0]⟩] w8 := MemOk.upd (M1 := [⟨B1, 127, [.int .i64 0, .int .i64 0]⟩]) (M2 := [⟨B2, 127, [.int .i64 0, .int .i64 0]⟩]) hM hk hMs rfl
          have hk0 := hk0.then hk (by intro i hi h; simp only [Is, Mem.names, List.map_cons, List.map_nil, List.mem_cons, List.not_mem_nil, or_false] at h; omega)
          clear hk hMs
          have hC := (hC1i _ ⟨hM.sub (.cons _ (.cons _ (.cons_cons _ .slnil))), hk0, trivial⟩)
          refine scdone hC ?_
          refine sc0 hf hC (fun w' h => (hC1e w' h).1) [4, 3, 2] [{}] (env' := [(4, .val (.bool true)), (3, .val (.pointer (some ⟨B1 + 1, 0, none⟩))), (2, .val (.pointer (some ⟨B1, 0, none⟩)))]) (ob := []) (by as_aux_lemma => kernel_rfl) rfl An ?_
          clear hf; intro a hf
          clear hC
          show K12 _ _
          refine hK12 _ _ ?_
          refine wp_ret ?_
          refine sxret (fn := Tryd.f69) hf hM [.ld 0 0, .ld 0 1, .ld 1 0, .ld 1 1] (l := [.agg #[.int .i64 0, .int .i64 0], .agg #[.int .i64 0, .int .i64 0], .bool true]) (M' := [⟨B1, 127, [.int .i64 0, .int .i64 0]⟩, ⟨B1 + 1, 127, [.int .i64 0, .int .i64 0]⟩, ⟨B2, 127, [.int .i64 0, .int .i64 0]⟩]) (d' := false) (ob := [Ad B1 0, Ad B1 1, Ad (B1 + 1) 0, Ad (B1 + 1) 1]) (by kernel_rfl) (fun B => ⟨B, by as_aux_lemma => kernel_rfl⟩) rfl (Ac (ad _ _) (Ac (ad _ _) (Ac (ad _ _) (Ao (ad _ _))))) ?_
          show (.tuple #[.agg #[.int .i64 0, .int .i64 0], .agg #[.int .i64 0, .int .i64 0], .bool true] : Value) = .tuple #[.agg #[.int .i64 (spanOf k).1.1, .int .i64 (spanOf k).1.2], .agg #[.int .i64 (spanOf k).2.1, .int .i64 (spanOf k).2.2], .bool true] ∧ Keep Nn w w8
          refine ⟨?_, hk0⟩
          unfold spanOf
          repeat' split
          all_goals first | rfl | (exfalso; simp at *; omega)
        · have hc4r := hc4
          try simp only [Bool.or_eq_true, Bool.and_eq_true, Bool.not_eq_true', Bool.not_eq_false', Bool.or_eq_false_iff, Bool.and_eq_false_iff, decide_eq_true_eq, decide_eq_false_iff_not, beq_iff_eq, bne_iff_ne, beq_eq_false_iff_ne, bne_eq_false_iff_eq, Bool.and_true, Bool.true_and, ne_eq] at hc4
          refine wp_seq_k (fun K13 hK13 => ?_)
          refine wp_region_lit ?_
          refine sr0 hf hM [37, 5, 4, 3, 2, 0] [{}, {}, {}] (env' := [(37, .val (.bool ((k : Int) == 4))), (5, .val (.pointer (some ⟨B2, 0, none⟩))), (4, .val (.bool false)), (3, .val (.pointer (some ⟨B1 + 1, 0, none⟩))), (2, .val (.pointer (some ⟨B1, 0, none⟩))), (0, .val (.int .i64 k))]) (ob := []) (fun B => by as_aux_lemma => kernel_rfl) rfl An ?_
          clear hf; intro a hf
          refine wpList_nil ?_
          refine hK13 _ _ ?_
          refine sxcond hf (b := ((k : Int) == 4)) (by kernel_rfl) (fun hc5 => ?_) (fun hc5 => ?_)
          · have hc5r := hc5
            try simp only [Bool.or_eq_true, Bool.and_eq_true, Bool.not_eq_true', Bool.not_eq_false', Bool.or_eq_false_iff, Bool.and_eq_false_iff, decide_eq_true_eq, decide_eq_false_iff_not, beq_iff_eq, bne_iff_ne, beq_eq_false_iff_ne, bne_eq_false_iff_eq, Bool.and_true, Bool.true_and, ne_eq] at hc5
            refine wp_seq_k (fun K14 hK14 => ?_)
            replace hM := hM.drew; replace hk0 := hk0.drew
            obtain ⟨C2, hC2d⟩ : ∃ C : World → Prop, C = fun w' => MemOk [⟨B2, 127, [.int .i64 0, .int .i64 0]⟩] w' ∧ Keep Nn w w' ∧ True := ⟨_, rfl⟩
            have hC2i : ∀ w', (MemOk [⟨B2, 127, [.int .i64 0, .int .i64 0]⟩] w' ∧ Keep Nn w w' ∧ True) → C2 w' := fun w' h => by rw [hC2d]; exact h
            have hC2e : ∀ w', C2 w' → (MemOk [⟨B2, 127, [.int .i64 0, .int .i64 0]⟩] w' ∧ Keep Nn w w' ∧ True) := fun w' h => by rw [hC2d] at h; exact h
            refine sxdraw (C := C2) (.leaf [(0, true), (1, true), (2, false), (3, false), (4, true)]) (by kernel_rfl) (by kernel_rfl) (by as_aux_lemma => kernel_rfl) rfl (by as_aux_lemma => kernel_rfl) (by kernel_rfl) (hC2i _ ⟨hM.sub (.cons _ (.cons _ (.cons_cons _ .slnil))), hk0, trivial⟩) ?_
            refine sxleaf ?_
            have hC := (hC2i _ ⟨hM.sub (.cons _ (.cons _ (.cons_cons _ .slnil))), hk0, trivial⟩)
            refine sc0 hf hC (fun w' h => (hC2e w' h).1) [41, 40, 4, 3, 2] [{ sp := true }, { os := [.ld 0 0, .ld 0 1] }] (env' := [(41, .val (.agg #[.int .i64 0, .int .i64 0])), (40, .val (.agg #[.int .i64 0, .int .i64 255])), (4, .val (.bool false)), (3, .val (.pointer (some ⟨B1 + 1, 0, none⟩))), (2, .val (.pointer (some ⟨B1, 0, none⟩)))]) (ob := [Ad B2 0, Ad B2 1]) (by as_aux_lemma => kernel_rfl) rfl (Ac (ad _ _) (Ao (ad _ _))) ?_
            clear hf; intro a hf
            refine scstep rfl ?_
            have hMs : MemOk [⟨B1, 127, [.int .i64 0, .int .i64 0]⟩] w2.drew := hM.sub (.cons_cons _ (.cons _ (.cons _ .slnil)))
            refine sr hf hMs [41, 4, 3, 2] [{ os := [.st 0 0, .st 0 1] }] (env' := fun B14 => [(41, .val (.agg #[.int .i64 0, .int .i64 0])), (4, .val (.bool false)), (3, .val (.pointer (some ⟨B1 + 1, 0, none⟩))), (2, .val (.pointer (some ⟨B1, 0, none⟩)))]) (M' := fun B14 => [⟨B1, 127, [.int .i64 0, .int .i64 255]⟩]) (ob := fun B14 => [Ad B1 0, Ad B1 1]) (fun B => by as_aux_lemma => kernel_rfl) (fun B14 => (Ac (ad _ _) (Ao (ad _ _)))) ?_
            clear hf hMs; intro a w9 B14 hf hMs hB hk; clear hB
            have hM : MemOk [⟨B1, 127, [.int .i64 0, .int .i64 255]⟩, ⟨B1 + 1, 127, [.int .i64 0, .int .i64 0]⟩, ⟨B2, 127, [.int .i64 0, .int .i64 0]⟩] w9 := MemOk.upd (M1 := []) (M2 := [⟨B1 + 1, 127, [.int .i64 0, .int .i64 0]⟩, ⟨B2, 127, [.int .i64 0, .int .i64 0]⟩]) hM hk hMs rfl
            have hk0 := hk0.then hk (by intro i hi h; simp only [Is, Mem.names, List.map_cons, List.map_nil, List.mem_cons, List.not_mem_nil, or_false] at h; omega)
            clear hk hMs
            have hC := (hC2i _ ⟨hM.sub (.cons _ (.cons _ (.cons_cons _ .slnil))), hk0, trivial⟩)
            refine scdone hC ?_
            refine scstep rfl ?_
            have hMs : MemOk [⟨B1 + 1, 127, [.int .i64 0, .int .i64 0]⟩] w9 := hM.sub (.cons _ (.cons_cons _ (.cons _ .slnil)))
            refine sr hf hMs [4, 3, 2] [{ os := [.st 0 0, .st 0 1] }] (env' := fun B15 => [(4, .val (.bool false)), (3, .val (.pointer (some ⟨B1 + 1, 0, none⟩))), (2, .val (.pointer (some ⟨B1, 0, none⟩)))]) (M' := fun B15 => [⟨B1 + 1, 127, [.int .i64 0, .int .i64 0]⟩]) (ob := fun B15 => [Ad (B1 + 1) 0, Ad (B1 + 1) 1]) (fun B => by as_aux_lemma => kernel_rfl) (fun B15 => (Ac (ad _ _) (Ao (ad _ _)))) ?_
            clear hf hMs; intro a w10 B15 hf hMs hB hk; clear hB
            have hM : MemOk [⟨B1, 127, [.int .i64 0, .int .i64 255]⟩, ⟨B1 + 1, 127, [.int .i64 0, .int .i64 0]⟩, ⟨B2, 127, [.int .i64 0, .int .i64 0]⟩] w10 := MemOk.upd (M1 := [⟨B1, 127, [.int .i64 0, .int .i64 255]⟩]) (M2 := [⟨B2, 127, [.int .i64 0, .int .i64 0]⟩]) hM hk hMs rfl
            have hk0 := hk0.then hk (by intro i hi h; simp only [Is, Mem.names, List.map_cons, List.map_nil, List.mem_cons, List.not_mem_nil, or_false] at h; omega)
            clear hk hMs
            have hC := (hC2i _ ⟨hM.sub (.cons _ (.cons _ (.cons_cons _ .slnil))), hk0, trivial⟩)
            refine scdone hC ?_
            refine sc0 hf hC (fun w' h => (hC2e w' h).1) [4, 3, 2] [{}] (env' := [(4, .val (.bool true)), (3, .val (.pointer (some ⟨B1 + 1, 0, none⟩))), (2, .val (.pointer (some ⟨B1, 0, none⟩)))]) (ob := []) (by as_aux_lemma => kernel_rfl) rfl An ?_
            clear hf; intro a hf
            clear hC
            show K14 _ _
            refine hK14 _ _ ?_
            refine wp_ret ?_
            refine sxret (fn := Tryd.f69) hf hM [.ld 0 0, .ld 0 1, .ld 1 0, .ld 1 1] (l := [.agg #[.int .i64 0, .int .i64 255], .agg #[.int .i64 0, .int .i64 0], .bool true]) (M' := [⟨B1, 127, [.int .i64 0, .int .i64 255]⟩, ⟨B1 + 1, 127, [.int .i64 0, .int .i64 0]⟩, ⟨B2, 127, [.int .i64 0, .int .i64 0]⟩]) (d' := false) (ob := [Ad B1 0, Ad B1 1, Ad (B1 + 1) 0, Ad (B1 + 1) 1]) (by kernel_rfl) (fun B => ⟨B, by as_aux_lemma => kernel_rfl⟩) rfl (Ac (ad _ _) (Ac (ad _ _) (Ac (ad _ _) (Ao (ad _ _))))) ?_
            show (.tuple #[.agg #[.int .i64 0, .int .i64 255], .agg #[.int .i64 0, .int .i64 0], .bool true] : Value) = .tuple #[.agg #[.int .i64 (spanOf k).1.1, .int .i64 (spanOf k).1.2], .agg #[.int .i64 (spanOf k).2.1, .int .i64 (spanOf k).2.2], .bool true] ∧ Keep Nn w w10
            refine ⟨?_, hk0⟩
            unfold spanOf
            repeat' split
            all_goals first | rfl | (exfalso; simp at *; omega)
          · have hc5r := hc5
            try simp only [Bool.or_eq_true, Bool.and_eq_true, Bool.not_eq_true', Bool.not_eq_false', Bool.or_eq_false_iff, Bool.and_eq_false_iff, decide_eq_true_eq, decide_eq_false_iff_not, beq_iff_eq, bne_iff_ne, beq_eq_false_iff_ne, bne_eq_false_iff_eq, Bool.and_true, Bool.true_and, ne_eq] at hc5
            refine wp_seq_k (fun K15 hK15 => ?_)
            refine wp_region_lit ?_
            refine sr0 hf hM [42, 5, 4, 3, 2] [{}, {}, {}] (env' := [(42, .val (.bool ((k : Int) == 5))), (5, .val (.pointer (some ⟨B2, 0, none⟩))), (4, .val (.bool false)), (3, .val (.pointer (some ⟨B1 + 1, 0, none⟩))), (2, .val (.pointer (some ⟨B1, 0, none⟩)))]) (ob := []) (fun B => by as_aux_lemma => kernel_rfl) rfl An ?_
            clear hf; intro a hf
            refine wpList_nil ?_
            refine hK15 _ _ ?_
            refine sxcond hf (b := ((k : Int) == 5)) (by kernel_rfl) (fun hc6 => ?_) (fun hc6 => ?_)
            · have hc6r := hc6
              try simp only [Bool.or_eq_true, Bool.and_eq_true, Bool.not_eq_true', Bool.not_eq_false', Bool.or_eq_false_iff, Bool.and_eq_false_iff, decide_eq_true_eq, decide_eq_false_iff_not, beq_iff_eq, bne_iff_ne, beq_eq_false_iff_ne, bne_eq_false_iff_eq, Bool.and_true, Bool.true_and, ne_eq] at hc6
              refine wp_seq_k (fun K16 hK16 => ?_)
              replace hM := hM.drew; replace hk0 := hk0.drew
              obtain ⟨C3, hC3d⟩ : ∃ C : World → Prop, C = fun w' => MemOk [⟨B2, 127, [.int .i64 0, .int .i64 0]⟩] w' ∧ Keep Nn w w' ∧ True := ⟨_, rfl⟩
              have hC3i : ∀ w', (MemOk [⟨B2, 127, [.int .i64 0, .int .i64 0]⟩] w' ∧ Keep Nn w w' ∧ True) → C3 w' := fun w' h => by rw [hC3d]; exact h
              have hC3e : ∀ w', C3 w' → (MemOk [⟨B2, 127, [.int .i64 0, .int .i64 0]⟩] w' ∧ Keep Nn w w' ∧ True) := fun w' h => by rw [hC3d] at h; exact h
              refine sxdraw (C := C3) (.leaf [(0, true), (1, true), (2, false), (3, false), (4, true)]) (by kernel_rfl) (by kernel_rfl) (by as_aux_lemma => kernel_rfl) rfl (by as_aux_lemma => kernel_rfl) (by kernel_rfl) (hC3i _ ⟨hM.sub (.cons _ (.cons _ (.cons_cons _ .slnil))), hk0, trivial⟩) ?_
              refine sxleaf ?_
              have hC := (hC3i _ ⟨hM.sub (.cons _ (.cons _ (.cons_cons _ .slnil))), hk0, trivial⟩)
              refine sc0 hf hC (fun w' h => (hC3e w' h).1) [46, 45, 4, 3, 2] [{ sp := true }, { os := [.ld 0 0, .ld 0 1] }] (env' := [(46, .val (.agg #[.int .i64 0, .int .i64 0])), (45, .val (.agg #[.int .i64 0, .int .i64 1048576])), (4, .val (.bool false)), (3, .val (.pointer (some ⟨B1 + 1, 0, none⟩))), (2, .val (.pointer (some ⟨B1, 0, none⟩)))]) (ob := [Ad B2 0, Ad B2 1]) (by as_aux_lemma => kernel_rfl) rfl (Ac (ad _ _) (Ao (ad _ _))) ?_
              clear hf; intro a hf
              refine scstep rfl ?_
              have hMs : MemOk [⟨B1, 127, [.int .i64 0, .int .i64 0]⟩] w2.drew := hM.sub (.cons_cons _ (.cons _ (.cons _ .slnil)))
              refine sr hf hMs [46, 4, 3, 2] [{ os := [.st 0 0, .st 0 1] }] (env' := fun B17 => [(46, .val (.agg #[.int .i64 0, .int .i64 0])), (4, .val (.bool false)), (3, .val (.pointer (some ⟨B1 + 1, 0, none⟩))), (2, .val (.pointer (some ⟨B1, 0, none⟩)))]) (M' := fun B17 => [⟨B1, 127, [.int .i64 0, .int .i64 1048576]⟩]) (ob := fun B17 => [Ad B1 0, Ad B1 1]) (fun B => by as_aux_lemma => kernel_rfl) (fun B17 => (Ac (ad _ _) (Ao (ad _ _)))) ?_
              clear hf hMs; intro a w11 B17 hf hMs hB hk; clear hB
              have hM : MemOk [⟨B1, 127, [.int .i64 0, .int .i64 1048576]⟩, ⟨B1 + 1, 127, [.int .i64 0, .int .i64 0]⟩, ⟨B2, 127, [.int .i64 0, .int .i64 0]⟩] w11 := MemOk.upd (M1 := []) (M2 := [⟨B1 + 1, 127, [.int .i64 0, .int .i64 0]⟩, ⟨B2, 127, [.int .i64 0, .int .i64 0]⟩]) hM hk hMs rfl
              have hk0 := hk0.then hk (by intro i hi h; simp only [Is, Mem.names, List.map_cons, List.map_nil, List.mem_cons, List.not_mem_nil, or_false] at h; omega)
              clear hk hMs
              have hC := (hC3i _ ⟨hM.sub (.cons _ (.cons _ (.cons_cons _ .slnil))), hk0, trivial⟩)
              refine scdone hC ?_
              refine scstep rfl ?_
              have hMs : MemOk [⟨B1 + 1, 127, [.int .i64 0, .int .i64 0]⟩] w11 := hM.sub (.cons _ (.cons_cons _ (.cons _ .slnil)))
              refine sr hf hMs [4, 3, 2] [{ os := [.st 0 0, .st 0 1] }] (env' := fun B18 => [(4, .val (.bool false)), (3, .val (.pointer (some ⟨B1 + 1, 0, none⟩))), (2, .val (.pointer (some ⟨B1, 0, none⟩)))]) (M' := fun B18 => [⟨B1 + 1, 127, [.int .i64 0, .int .i64 0]⟩]) (ob := fun B18 => [Ad (B1 + 1) 0, Ad (B1 + 1) 1]) (fun B => by as_aux_lemma => kernel_rfl) (fun B18 => (Ac (ad _ _) (Ao (ad _ _)))) ?_
              clear hf hMs; intro a w12 B18 hf hMs hB hk; clear hB
              have hM : MemOk [⟨B1, 127, [.int .i64 0, .int .i64 1048576]⟩, ⟨B1 + 1, 127, [.int .i64 0, .int .i64 0]⟩, ⟨B2, 127, [.int .i64 0, .int .i64 0]⟩] w12 := MemOk.upd (M1 := [⟨B1, 127, [.int .i64 0, .int .i64 1048576]⟩]) (M2 := [⟨B2, 127, [.int .i64 0, .int .i64 0]⟩]) hM hk hMs rfl
              have hk0 := hk0.then hk (by intro i hi h; simp only [Is, Mem.names, List.map_cons, List.map_nil, List.mem_cons, List.not_mem_nil, or_false] at h; omega)
              clear hk hMs
              have hC := (hC3i _ ⟨hM.sub (.cons _ (.cons _ (.cons_cons _ .slnil))), hk0, trivial⟩)
              refine scdone hC ?_
              refine sc0 hf hC (fun w' h => (hC3e w' h).1) [4, 3, 2] [{}] (env' := [(4, .val (.bool true)), (3, .val (.pointer (some ⟨B1 + 1, 0, none⟩))), (2, .val (.pointer (some ⟨B1, 0, none⟩)))]) (ob := []) (by as_aux_lemma => kernel_rfl) rfl An ?_
              clear hf; intro a hf
              clear hC
              show K16 _ _
              refine hK16 _ _ ?_
              refine wp_ret ?_
              refine sxret (fn := Tryd.f69) hf hM [.ld 0 0, .ld 0 1, .ld 1 0, .ld 1 1] (l := [.agg #[.int .i64 0, .int .i64 1048576], .agg #[.int .i64 0, .int .i64 0], .bool true]) (M' := [⟨B1, 127, [.int .i64 0, .int .i64 1048576]⟩, ⟨B1 + 1, 127, [.int .i64 0, .int .i64 0]⟩, ⟨B2, 127, [.int .i64 0, .int .i64 0]⟩]) (d' := false) (ob := [Ad B1 0, Ad B1 1, Ad (B1 + 1) 0, Ad (B1 + 1) 1]) (by kernel_rfl) (fun B => ⟨B, by as_aux_lemma => kernel_rfl⟩) rfl (Ac (ad _ _) (Ac (ad _ _) (Ac (ad _ _) (Ao (ad _ _))))) ?_
              show (.tuple #[.agg #[.int .i64 0, .int .i64 1048576], .agg #[.int .i64 0, .int .i64 0], .bool true] : Value) = .tuple #[.agg #[.int .i64 (spanOf k).1.1, .int .i64 (spanOf k).1.2], .agg #[.int .i64 (spanOf k).2.1, .int .i64 (spanOf k).2.2], .bool true] ∧ Keep Nn w w12
              refine ⟨?_, hk0⟩
              unfold spanOf
              repeat' split
              all_goals first | rfl | (exfalso; simp at *; omega)
            · have hc6r := hc6
              try simp only [Bool.or_eq_true, Bool.and_eq_true, Bool.not_eq_true', Bool.not_eq_false', Bool.or_eq_false_iff, Bool.and_eq_false_iff, decide_eq_true_eq, decide_eq_false_iff_not, beq_iff_eq, bne_iff_ne, beq_eq_false_iff_ne, bne_eq_false_iff_eq, Bool.and_true, Bool.true_and, ne_eq] at hc6
              refine wp_skip ?_
              refine hK3 _ _ ?_
              refine wp_seq_k (fun K17 hK17 => ?_)
              refine wp_region_lit ?_
              refine sr hf hM [3, 2] [{ sp := true }, { os := [.st 0 0, .st 0 1] }] (env' := fun B19 => [(3, .val (.pointer (some ⟨B1 + 1, 0, none⟩))), (2, .val (.pointer (some ⟨B1, 0, none⟩)))]) (M' := fun B19 => [⟨B1, 127, [.int .i64 (-4194304), .int .i64 4194304]⟩, ⟨B1 + 1, 127, [.int .i64 0, .int .i64 0]⟩, ⟨B2, 127, [.int .i64 0, .int .i64 0]⟩]) (ob := fun B19 => [Ad B1 0, Ad B1 1]) (fun B => by as_aux_lemma => kernel_rfl) (fun B19 => (Ac (ad _ _) (Ao (ad _ _)))) ?_
              clear hf hM; intro a w13 B19 hf hM hB hk
              have hbB19 : w.heap.size ≤ B19 := by have := hk0.size; omega
              have hk0 := hk0.then hk (by intro i hi h; simp only [Is, Mem.names, List.map_cons, List.map_nil, List.mem_cons, List.not_mem_nil, or_false] at h; omega)
              clear hk hB
              refine wpList_nil ?_
              refine hK17 _ _ ?_
              refine wp_seq_k (fun K18 hK18 => ?_)
              refine wp_region_lit ?_
              refine sr hf hM [4, 3, 2] [{ os := [.ld 0 0, .ld 0 1] }, { os := [.ld 0 0, .ld 0 1] }, { os := [.st 0 0, .st 0 1] }, { os := [.st 1 0, .st 1 1] }, {}] (env' := fun B20 => [(4, .val (.bool true)), (3, .val (.pointer (some ⟨B1 + 1, 0, none⟩))), (2, .val (.pointer (some ⟨B1, 0, none⟩)))]) (M' := fun B20 => [⟨B1, 127, [.int .i64 (-4194304), .int .i64 4194304]⟩, ⟨B1 + 1, 127, [.int .i64 (-4194304), .int .i64 4194304]⟩, ⟨B2, 127, [.int .i64 0, .int .i64 0]⟩]) (ob := fun B20 => [Ad B1 0, Ad B1 1, Ad B1 0, Ad B1 1, Ad B1 0, Ad B1 1, Ad (B1 + 1) 0, Ad (B1 + 1) 1]) (fun B => by as_aux_lemma => kernel_rfl) (fun B20 => (Ac (ad _ _) (Ac (ad _ _) (Ac (ad _ _) (Ac (ad _ _) (Ac (ad _ _) (Ac (ad _ _) (Ac (ad _ _) (Ao (ad _ _)))))))))) ?_
              clear hf hM; intro a w14 B20 hf hM hB hk
              have hbB20 : w.heap.size ≤ B20 := by have := hk0.size; omega
              have hk0 := hk0.then hk (by intro i hi h; simp only [Is, Mem.names, List.map_cons, List.map_nil, List.mem_cons, List.not_mem_nil, or_false] at h; omega)
              clear hk hB
              refine wpList_nil ?_
              refine hK18 _ _ ?_
              refine wp_ret ?_
              refine sxret (fn := Tryd.f69) hf hM [.ld 0 0, .ld 0 1, .ld 1 0, .ld 1 1] (l := [.agg #[.int .i64 (-4194304), .int .i64 4194304], .agg #[.int .i64 (-4194304), .int .i64 4194304], .bool true]) (M' := [⟨B1, 127, [.int .i64 (-4194304), .int .i64 4194304]⟩, ⟨B1 + 1, 127, [.int .i64 (-4194304), .int .i64 4194304]⟩, ⟨B2, 127, [.int .i64 0, .int .i64 0]⟩]) (d' := false) (ob := [Ad B1 0, Ad B1 1, Ad (B1 + 1) 0, Ad (B1 + 1) 1]) (by kernel_rfl) (fun B => ⟨B, by as_aux_lemma => kernel_rfl⟩) rfl (Ac (ad _ _) (Ac (ad _ _) (Ac (ad _ _) (Ao (ad _ _))))) ?_
              show (.tuple #[.agg #[.int .i64 (-4194304), .int .i64 4194304], .agg #[.int .i64 (-4194304), .int .i64 4194304], .bool true] : Value) = .tuple #[.agg #[.int .i64 (spanOf k).1.1, .int .i64 (spanOf k).1.2], .agg #[.int .i64 (spanOf k).2.1, .int .i64 (spanOf k).2.2], .bool true] ∧ Keep Nn w w14
              refine ⟨?_, hk0⟩
              unfold spanOf
              repeat' split
              all_goals first | rfl | (exfalso; simp at *; omega)

set_option maxRecDepth 10000 in
set_option maxHeartbeats 4000000 in
theorem ranges_no (k : Int) (w : World) (hn0 : (decide (0 ≤ k ∧ k ≤ 9)) = false) :
    Calls Tryd.prog 69 #[.int .i64 k] w (Ret fun v w' => v = .tuple #[.agg #[.int .i64 0, .int .i64 0], .agg #[.int .i64 0, .int .i64 0], .bool false] ∧ Keep Nn w w') := by
  refine sxenter (n := 50) (args := [.int .i64 k]) Tryd.func69 rfl rfl rfl fun a hf => ?_
  replace hf : Fr 50 [(0, .val (.int .i64 k))] a := hf
  have hM : MemOk [] w := MemOk.nil w
  have hk0 : Keep Nn w w := Keep.refl _ _
  have hkk : ¬ (0 ≤ k ∧ k ≤ 9) := by simpa using hn0
  refine wp_seq_k (fun K1 hK1 => ?_)
  refine wp_region_lit ?_
  refine sr hf hM [4, 3, 2, 0] [{ os := [.nw] }, { os := [.nw] }, {}] (env' := fun B1 => [(4, .val (.bool false)), (3, .val (.pointer (some ⟨B1 + 1, 0, none⟩))), (2, .val (.pointer (some ⟨B1, 0, none⟩))), (0, .val (.int .i64 k))]) (M' := fun B1 => [⟨B1, 127, [.int .i64 0, .int .i64 0]⟩, ⟨B1 + 1, 127, [.int .i64 0, .int .i64 0]⟩]) (ob := fun B1 => []) (fun B => by as_aux_lemma => kernel_rfl) (fun B1 => An) ?_
  clear hf hM; intro a w1 B1 hf hM hB hk
  have hbB1 : w.heap.size ≤ B1 := by have := hk0.size; omega
  have hk0 := hk0.then hk (by intro i _ h; cases h)
  clear hk hB
  refine wpList_nil ?_
  refine hK1 _ _ ?_
  refine wp_seq_k (fun K2 hK2 => ?_)
  refine wp_region_lit ?_
  refine sr hf hM [5, 4, 3, 2, 0] [{ sp := true }, { os := [.nw] }, { os := [.st 2 0, .st 2 1] }] (env' := fun B2 => [(5, .val (.pointer (some ⟨B2, 0, none⟩))), (4, .val (.bool false)), (3, .val (.pointer (some ⟨B1 + 1, 0, none⟩))), (2, .val (.pointer (some ⟨B1, 0, none⟩))), (0, .val (.int .i64 k))]) (M' := fun B2 => [⟨B1, 127, [.int .i64 0, .int .i64 0]⟩, ⟨B1 + 1, 127, [.int .i64 0, .int .i64 0]⟩, ⟨B2, 127, [.int .i64 0, .int .i64 0]⟩]) (ob := fun B2 => [Ad B2 0, Ad B2 1]) (fun B => by as_aux_lemma => kernel_rfl) (fun B2 => (Ac (ad _ _) (Ao (ad _ _)))) ?_
  clear hf hM; intro a w2 B2 hf hM hB hk
  have hbB2 : w.heap.size ≤ B2 := by have := hk0.size; omega
  have hk0 := hk0.then hk (by intro i hi h; simp only [Is, Mem.names, List.map_cons, List.map_nil, List.mem_cons, List.not_mem_nil, or_false] at h; omega)
  clear hk hB
  refine wpList_nil ?_
  refine hK2 _ _ ?_
  refine wp_seq_k (fun K3 hK3 => ?_)
  refine wp_block ?_
  refine wp_seq_k (fun K4 hK4 => ?_)
  refine wp_region_lit ?_
  refine sr0 hf hM [7, 5, 4, 3, 2, 0] [{}, {}, {}, { g := .sym }, { g := .sym }, { hint := some (.bool ((decide ((k : Int) < 0)) || (decide ((k : Int) ≥ 10)))) }, {}] (env' := [(7, .val (.bool ((decide ((k : Int) < 0)) || (decide ((k : Int) ≥ 10))))), (5, .val (.pointer (some ⟨B2, 0, none⟩))), (4, .val (.bool false)), (3, .val (.pointer (some ⟨B1 + 1, 0, none⟩))), (2, .val (.pointer (some ⟨B1, 0, none⟩))), (0, .val (.int .i64 k))]) (ob := [((decide ((k : Int) < 0)) = false → (decide ((k : Int) < 0)) = (decide ((k : Int) < 0))), ((decide ((k : Int) < 0)) = false → (decide ((k : Int) < 0)) = (decide ((k : Int) < 0))), (bif (decide ((k : Int) < 0)) then (.bool true : Value) else .bool (decide ((k : Int) ≥ 10))) = .bool ((decide ((k : Int) < 0)) || (decide ((k : Int) ≥ 10)))]) (fun B => by as_aux_lemma => kernel_rfl) rfl (Ac (fun hgd => rfl) (Ac (fun _ => rfl) (Ao (pick_or _ _)))) ?_
  clear hf; intro a hf
  refine wpList_nil ?_
  refine hK4 _ _ ?_
  refine sxcond hf (b := ((decide ((k : Int) < 0)) || (decide ((k : Int) ≥ 10)))) (by kernel_rfl) (fun hc1 => ?_) (fun hc1 => ?_)
  · have hc1r := hc1
    try simp only [Bool.or_eq_true, Bool.and_eq_true, Bool.not_eq_true', Bool.not_eq_false', Bool.or_eq_false_iff, Bool.and_eq_false_iff, decide_eq_true_eq, decide_eq_false_iff_not, beq_iff_eq, bne_iff_ne, beq_eq_false_iff_ne, bne_eq_false_iff_eq, Bool.and_true, Bool.true_and, ne_eq] at hc1
    refine wp_seq_k (fun K5 hK5 => ?_)
    replace hM := hM.drew; replace hk0 := hk0.drew
    obtain ⟨C1, hC1d⟩ : ∃ C : World → Prop, C = fun w' => MemOk [⟨B2, 127, [.int .i64 0, .int .i64 0]⟩] w' ∧ Keep Nn w w' ∧ True := ⟨_, rfl⟩
    have hC1i : ∀ w', (MemOk [⟨B2, 127, [.int .i64 0, .int .i64 0]⟩] w' ∧ Keep Nn w w' ∧ True) → C1 w' := fun w' h => by rw [hC1d]; exact h
    have hC1e : ∀ w', C1 w' → (MemOk [⟨B2, 127, [.int .i64 0, .int .i64 0]⟩] w' ∧ Keep Nn w w' ∧ True) := fun w' h => by rw [hC1d] at h; exact h
    refine sxdraw (C := C1) (.leaf [(0, true), (1, true), (2, false), (3, false), (4, true)]) (by kernel_rfl) (by kernel_rfl) (by as_aux_lemma => kernel_rfl) rfl (by as_aux_lemma => kernel_rfl) (by kernel_rfl) (hC1i _ ⟨hM.sub (.cons _ (.cons _ (.cons_cons _ .slnil))), hk0, trivial⟩) ?_
    refine sxleaf ?_
    have hC := (hC1i _ ⟨hM.sub (.cons _ (.cons _ (.cons_cons _ .slnil))), hk0, trivial⟩)
    refine sc0 hf hC (fun w' h => (hC1e w' h).1) [15, 14, 4, 3, 2] [{ os := [.ld 0 0, .ld 0 1] }, { os := [.ld 0 0, .ld 0 1] }] (env' := [(15, .val (.agg #[.int .i64 0, .int .i64 0])), (14, .val (.agg #[.int .i64 0, .int .i64 0])), (4, .val (.bool false)), (3, .val (.pointer (some ⟨B1 + 1, 0, none⟩))), (2, .val (.pointer (some ⟨B1, 0, none⟩)))]) (ob := [Ad B2 0, Ad B2 1, Ad B2 0, Ad B2 1]) (by as_aux_lemma => kernel_rfl) rfl (Ac (ad _ _) (Ac (ad _ _) (Ac (ad _ _) (Ao (ad _ _))))) ?_
    clear hf; intro a hf
    refine scstep rfl ?_
    have hMs : MemOk [⟨B1, 127, [.int .i64 0, .int .i64 0]⟩] w2.drew := hM.sub (.cons_cons _ (.cons _ (.cons _ .slnil)))
    refine sr hf hMs [15, 4, 3, 2] [{ os := [.st 0 0, .st 0 1] }] (env' := fun B4 => [(15, .val (.agg #[.int .i64 0, .int .i64 0])), (4, .val (.bool false)), (3, .val (.pointer (some ⟨B1 + 1, 0, none⟩))), (2, .val (.pointer (some ⟨B1, 0, none⟩)))]) (M' := fun B4 => [⟨B1, 127, [.int .i64 0, .int .i64 0]⟩]) (ob := fun B4 => [Ad B1 0, Ad B1 1]) (fun B => by as_aux_lemma => kernel_rfl) (fun B4 => (Ac (ad _ _) (Ao (ad _ _)))) ?_
    clear hf hMs; intro a w3 B4 hf hMs hB hk; clear hB
    have hM : MemOk [⟨B1, 127, [.int .i64 0, .int .i64 0]⟩, ⟨B1 + 1, 127, [.int .i64 0, .int .i64 0]⟩, ⟨B2, 127, [.int .i64 0, .int .i64 0]⟩] w3 := MemOk.upd (M1 := []) (M2 := [⟨B1 + 1, 127, [.int .i64 0, .int .i64 0]⟩, ⟨B2, 127, [.int .i64 0, .int .i64 0]⟩]) hM hk hMs rfl
    have hk0 := hk0.then hk (by intro i hi h; simp only [Is, Mem.names, List.map_cons, List.map_nil, List.mem_cons, List.not_mem_nil, or_false] at h; omega)
    clear hk hMs
    have hC := (hC1i _ ⟨hM.sub (.cons _ (.cons _ (.cons_cons _ .slnil))), hk0, trivial⟩)
    refine scdone hC ?_
    refine scstep rfl ?_
    have hMs : MemOk [⟨B1 + 1, 127, [.int .i64 0, .int .i64 0]⟩] w3 := hM.sub (.cons _ (.cons_cons _ (.cons _ .slnil)))
    refine sr hf hMs [4, 3, 2] [{ os := [.st 0 0, .st 0 1] }] (env' := fun B5 => [(4, .val (.bool false)), (3, .val (.pointer (some ⟨B1 + 1, 0, none⟩))), (2, .val (.pointer (some ⟨B1, 0, none⟩)))]) (M' := fun B5 => [⟨B1 + 1, 127, [.int .i64 0, .int .i64 0]⟩]) (ob := fun B5 => [Ad (B1 + 1) 0, Ad (B1 + 1) 1]) (fun B => by as_aux_lemma => kernel_rfl) (fun B5 => (Ac (ad _ _) (Ao (ad _ _)))) ?_
    clear hf hMs; intro a w4 B5 hf hMs hB hk; clear hB
    have hM : MemOk [⟨B1, 127, [.int .i64 0, .int .i64 0]⟩, ⟨B1 + 1, 127, [.int .i64 0, .int .i64 0]⟩, ⟨B2, 127, [.int .i64 0, .int .i64 0]⟩] w4 := MemOk.upd (M1 := [⟨B1, 127, [.int .i64 0, .int .i64 0]⟩]) (M2 := [⟨B2, 127, [.int .i64 0, .int .i64 0]⟩]) hM hk hMs rfl
    have hk0 := hk0.then hk (by intro i hi h; simp only [Is, Mem.names, List.map_cons, List.map_nil, List.mem_cons, List.not_mem_nil, or_false] at h; omega)
    clear hk hMs
    have hC := (hC1i _ ⟨hM.sub (.cons _ (.cons _ (.cons_cons _ .slnil))), hk0, trivial⟩)
    refine scdone hC ?_
    refine sc0 hf hC (fun w' h => (hC1e w' h).1) [4, 3, 2] [{}] (env' := [(4, .val (.bool false)), (3, .val (.pointer (some ⟨B1 + 1, 0, none⟩))), (2, .val (.pointer (some ⟨B1, 0, none⟩)))]) (ob := []) (by as_aux_lemma => kernel_rfl) rfl An ?_
    clear hf; intro a hf
    clear hC
    show K5 _ _
    refine hK5 _ _ ?_
    refine wp_ret ?_
    refine sxret (fn := Tryd.f69) hf hM [.ld 0 0, .ld 0 1, .ld 1 0, .ld 1 1] (l := [.agg #[.int .i64 0, .int .i64 0], .agg #[.int .i64 0, .int .i64 0], .bool false]) (M' := [⟨B1, 127, [.int .i64 0, .int .i64 0]⟩, ⟨B1 + 1, 127, [.int .i64 0, .int .i64 0]⟩, ⟨B2, 127, [.int .i64 0, .int .i64 0]⟩]) (d' := false) (ob := [Ad B1 0, Ad B1 1, Ad (B1 + 1) 0, Ad (B1 + 1) 1]) (by kernel_rfl) (fun B => ⟨B, by as_aux_lemma => kernel_rfl⟩) rfl (Ac (ad _ _) (Ac (ad _ _) (Ac (ad _ _) (Ao (ad _ _))))) ?_
    show (.tuple #[.agg #[.int .i64 0, .int .i64 0], .agg #[.int .i64 0, .int .i64 0], .bool false] : Value) = .tuple #[.agg #[.int .i64 0, .int .i64 0], .agg #[.int .i64 0, .int .i64 0], .bool false] ∧ Keep Nn w w4
    exact ⟨rfl, hk0⟩
  · have hc1r := hc1
    try simp only [Bool.or_eq_true, Bool.and_eq_true, Bool.not_eq_true', Bool.not_eq_false', Bool.or_eq_false_iff, Bool.and_eq_false_iff, decide_eq_true_eq, decide_eq_false_iff_not, beq_iff_eq, bne_iff_ne, beq_eq_false_iff_ne, bne_eq_false_iff_eq, Bool.and_true, Bool.true_and, ne_eq] at hc1
    exfalso; omega

set_option maxRecDepth 10000 in
set_option maxHeartbeats 4000000 in
theorem scheck_kind (E : Nat → Addr) (k x y : Int) (w : World) (hn0 : (vkind ⟨k, x, y⟩) = false) (hG : Errs [0, 3, 4] w 185 E) :
    Calls Tryd.prog 31 #[.agg #[.int .i64 k, .int .i64 x, .int .i64 y]] w (Ret fun v w' => v = .iface 185 (.pointer (some (E 4))) ∧ Keep Nn w w') := by
  refine sxenter (n := 31) (args := [.agg #[.int .i64 k, .int .i64 x, .int .i64 y]]) Tryd.func31 rfl rfl rfl fun a hf => ?_
  replace hf : Fr 31 [(0, .val (.agg #[.int .i64 k, .int .i64 x, .int .i64 y]))] a := hf
  have hM : MemOk [] w := MemOk.nil w
  have hk0 : Keep Nn w w := Keep.refl _ _
  have hkk : decide (0 ≤ k ∧ k ≤ 9) = false := hn0
  refine wp_seq_k (fun K1 hK1 => ?_)
  refine wp_region_lit ?_
  refine sr hf hM [1] [{ os := [.nw] }, {}] (env' := fun B1 => [(1, .val (.pointer (some ⟨B1, 0, none⟩)))]) (M' := fun B1 => [⟨B1, 62, [.int .i64 k, .int .i64 x, .int .i64 y]⟩]) (ob := fun B1 => []) (fun B => by as_aux_lemma => kernel_rfl) (fun B1 => An) ?_
  clear hf hM; intro a w1 B1 hf hM hB hk
  have hbB1 : w.heap.size ≤ B1 := by have := hk0.size; omega
  have hk0 := hk0.then hk (by intro i _ h; cases h)
  clear hk hB
  refine wpList_nil ?_
  refine hK1 _ _ ?_
  refine wp_seq_k (fun K2 hK2 => ?_)
  refine wp_region_lit ?_
  refine sr0 hf hM [8, 1] [{}, { os := [.ld 0 0] }] (env' := [(8, .val (.int .i64 k)), (1, .val (.pointer (some ⟨B1, 0, none⟩)))]) (ob := [Ad B1 0]) (fun B => by as_aux_lemma => kernel_rfl) rfl (Ao (ad _ _)) ?_
  clear hf; intro a hf
  refine sxcall hf rfl rfl rfl rfl (g := 69) (vs := [.int .i64 k]) (ob := []) (by as_aux_lemma => kernel_rfl) An enters69 (ranges_no k w1 hkk ) ?_
  clear hf; rintro _ w2 a ⟨rfl, hk⟩ hf
  have hM := hM.keepNn hk
  have hk0 := hk0.trans hk.nn
  clear hk
  refine sr hf hM [5, 4, 3, 1] [{}, {}, {}, {}, { os := [.nw] }, { os := [.nw] }, { os := [.st 1 0, .st 1 1] }, { os := [.st 2 0, .st 2 1] }, {}] (env' := fun B3 => [(5, .val (.bool false)), (4, .val (.pointer (some ⟨B3 + 1, 0, none⟩))), (3, .val (.pointer (some ⟨B3, 0, none⟩))), (1, .val (.pointer (some ⟨B1, 0, none⟩)))]) (M' := fun B3 => [⟨B1, 62, [.int .i64 k, .int .i64 x, .int .i64 y]⟩, ⟨B3, 127, [.int .i64 0, .int .i64 0]⟩, ⟨B3 + 1, 127, [.int .i64 0, .int .i64 0]⟩]) (ob := fun B3 => [Ad B3 0, Ad B3 1, Ad (B3 + 1) 0, Ad (B3 + 1) 1]) (fun B => by as_aux_lemma => kernel_rfl) (fun B3 => (Ac (ad _ _) (Ac (ad _ _) (Ac (ad _ _) (Ao (ad _ _)))))) ?_
  clear hf hM; intro a w3 B3 hf hM hB hk
  have hbB3 : w.heap.size ≤ B3 := by have := hk0.size; omega
  have hk0 := hk0.then hk (by intro i hi h; simp only [Is, Mem.names, List.map_cons, List.map_nil, List.mem_cons, List.not_mem_nil, or_false] at h; omega)
  clear hk hB
  refine wpList_nil ?_
  refine hK2 _ _ ?_
  refine wp_seq_k (fun K3 hK3 => ?_)
  refine wp_block ?_
  refine wp_seq_k (fun K4 hK4 => ?_)
  refine wp_region_lit ?_
  refine sr0 hf hM [13, 4, 3, 1] [{}, {}, {}] (env' := [(13, .val (.bool true)), (4, .val (.pointer (some ⟨B3 + 1, 0, none⟩))), (3, .val (.pointer (some ⟨B3, 0, none⟩))), (1, .val (.pointer (some ⟨B1, 0, none⟩)))]) (ob := []) (fun B => by as_aux_lemma => kernel_rfl) rfl An ?_
  clear hf; intro a hf
  refine wpList_nil ?_
  refine hK4 _ _ ?_
  refine sxcond hf (b := true) (by kernel_rfl) (fun _ => ?_) (fun h => by cases h)
  refine wp_seq_k (fun K5 hK5 => ?_)
  refine wp_region_lit ?_
  refine sr0 hf hM [2] [{ os := [.ex (.iface 185 (.pointer (some (E 4))))] }, {}] (env' := [(2, .val (.iface 185 (.pointer (some (E 4)))))]) (ob := [w3.cell? ⟨4, 0, none⟩ = some (.iface 185 (.pointer (some (E 4))))]) (fun B => by as_aux_lemma => kernel_rfl) rfl (Ao (hk0.cell (hG.cell 4 (by decide)) (fun h => h))) ?_
  clear hf; intro a hf
  refine wpList_nil ?_
  refine hK5 _ _ ?_
  refine wp_ret ?_
  refine sxret (fn := Tryd.f31) hf hM [] (l := [.iface 185 (.pointer (some (E 4)))]) (M' := [⟨B1, 62, [.int .i64 k, .int .i64 x, .int .i64 y]⟩, ⟨B3, 127, [.int .i64 0, .int .i64 0]⟩, ⟨B3 + 1, 127, [.int .i64 0, .int .i64 0]⟩]) (d' := false) (ob := []) (by kernel_rfl) (fun B => ⟨B, by as_aux_lemma => kernel_rfl⟩) rfl An ?_
  show (.iface 185 (.pointer (some (E 4))) : Value) = .iface 185 (.pointer (some (E 4))) ∧ Keep Nn w w3
  exact ⟨rfl, hk0⟩

set_option maxRecDepth 10000 in
set_option maxHeartbeats 4000000 in
theorem scheck_ok (E : Nat → Addr) (k x y : Int) (w : World) (hn0 : (vkind ⟨k, x, y⟩) = true) (hn1 : (vrange ⟨k, x, y⟩) = true) (hG : Errs [0, 3, 4] w 185 E) :
    Calls Tryd.prog 31 #[.agg #[.int .i64 k, .int .i64 x, .int .i64 y]] w (Ret fun v w' => v = .nilIface ∧ Keep Nn w w') := by
  refine sxenter (n := 31) (args := [.agg #[.int .i64 k, .int .i64 x, .int .i64 y]]) Tryd.func31 rfl rfl rfl fun a hf => ?_
  replace hf : Fr 31 [(0, .val (.agg #[.int .i64 k, .int .i64 x, .int .i64 y]))] a := hf
  have hM : MemOk [] w := MemOk.nil w
  have hk0 : Keep Nn w w := Keep.refl _ _
  have hkk : decide (0 ≤ k ∧ k ≤ 9) = true := hn0
  have hvr := hn1
  rw [vrange_span] at hvr
  have hvr := of_decide_eq_true hvr
  have hs1 : (decide (x ≥ (spanOf k).1.1) && decide (x ≤ (spanOf k).1.2)) = true := by simp; omega
  have hs2 : (decide (y ≥ (spanOf k).2.1) && decide (y ≤ (spanOf k).2.2)) = true := by simp; omega
  refine wp_seq_k (fun K1 hK1 => ?_)
  refine wp_region_lit ?_
  refine sr hf hM [1] [{ os := [.nw] }, {}] (env' := fun B1 => [(1, .val (.pointer (some ⟨B1, 0, none⟩)))]) (M' := fun B1 => [⟨B1, 62, [.int .i64 k, .int .i64 x, .int .i64 y]⟩]) (ob := fun B1 => []) (fun B => by as_aux_lemma => kernel_rfl) (fun B1 => An) ?_
  clear hf hM; intro a w1 B1 hf hM hB hk
  have hbB1 : w.heap.size ≤ B1 := by have := hk0.size; omega
  have hk0 := hk0.then hk (by intro i _ h; cases h)
  clear hk hB
  refine wpList_nil ?_
  refine hK1 _ _ ?_
  refine wp_seq_k (fun K2 hK2 => ?_)
  refine wp_region_lit ?_
  refine sr0 hf hM [8, 1] [{}, { os := [.ld 0 0] }] (env' := [(8, .val (.int .i64 k)), (1, .val (.pointer (some ⟨B1, 0, none⟩)))]) (ob := [Ad B1 0]) (fun B => by as_aux_lemma => kernel_rfl) rfl (Ao (ad _ _)) ?_
  clear hf; intro a hf
  refine sxcall hf rfl rfl rfl rfl (g := 69) (vs := [.int .i64 k]) (ob := []) (by as_aux_lemma => kernel_rfl) An enters69 (ranges_ok k w1 hkk ) ?_
  clear hf; rintro _ w2 a ⟨rfl, hk⟩ hf
  have hM := hM.keepNn hk
  have hk0 := hk0.trans hk.nn
  clear hk
  refine sr hf hM [5, 4, 3, 1] [{}, {}, {}, {}, { os := [.nw] }, { os := [.nw] }, { os := [.st 1 0, .st 1 1] }, { os := [.st 2 0, .st 2 1] }, {}] (env' := fun B3 => [(5, .val (.bool true)), (4, .val (.pointer (some ⟨B3 + 1, 0, none⟩))), (3, .val (.pointer (some ⟨B3, 0, none⟩))), (1, .val (.pointer (some ⟨B1, 0, none⟩)))]) (M' := fun B3 => [⟨B1, 62, [.int .i64 k, .int .i64 x, .int .i64 y]⟩, ⟨B3, 127, [.int .i64 (spanOf k).1.1, .int .i64 (spanOf k).1.2]⟩, ⟨B3 + 1, 127, [.int .i64 (spanOf k).2.1, .int .i64 (spanOf k).2.2]⟩]) (ob := fun B3 => [Ad B3 0, Ad B3 1, Ad (B3 + 1) 0, Ad (B3 + 1) 1]) (fun B => by as_aux_lemma => kernel_rfl) (fun B3 => (Ac (ad _ _) (Ac (ad _ _) (Ac (ad _ _) (Ao (ad _ _)))))) ?_
  clear hf hM; intro a w3 B3 hf hM hB hk
  have hbB3 : w.heap.size ≤ B3 := by have := hk0.size; omega
  have hk0 := hk0.then hk (by intro i hi h; simp only [Is, Mem.names, List.map_cons, List.map_nil, List.mem_cons, List.not_mem_nil, or_false] at h; omega)
  clear hk hB
  refine wpList_nil ?_
  refine hK2 _ _ ?_
  refine wp_seq_k (fun K3 hK3 => ?_)
  refine wp_block ?_
  refine wp_seq_k (fun K4 hK4 => ?_)
  refine wp_region_lit ?_
  refine sr0 hf hM [13, 4, 3, 1] [{}, {}, {}] (env' := [(13, .val (.bool false)), (4, .val (.pointer (some ⟨B3 + 1, 0, none⟩))), (3, .val (.pointer (some ⟨B3, 0, none⟩))), (1, .val (.pointer (some ⟨B1, 0, none⟩)))]) (ob := []) (fun B => by as_aux_lemma => kernel_rfl) rfl An ?_
  clear hf; intro a hf
  refine wpList_nil ?_
  refine hK4 _ _ ?_
  refine sxcond hf (b := false) (by kernel_rfl) (fun h => by cases h) (fun _ => ?_)
  refine wp_seq_k (fun K5 hK5 => ?_)
  refine wp_region_lit ?_
  refine sr0 hf hM [20, 18, 4, 1] [{ os := [.ld 1 0, .ld 1 1] }, {}, { os := [.ld 0 1] }] (env' := [(20, .val (.int .i64 x)), (18, .val (.agg #[.int .i64 (spanOf k).1.1, .int .i64 (spanOf k).1.2])), (4, .val (.pointer (some ⟨B3 + 1, 0, none⟩))), (1, .val (.pointer (some ⟨B1, 0, none⟩)))]) (ob := [Ad B3 0, Ad B3 1, Ad B1 1]) (fun B => by as_aux_lemma => kernel_rfl) rfl (Ac (ad _ _) (Ac (ad _ _) (Ao (ad _ _)))) ?_
  clear hf; intro a hf
  refine sxcall hf rfl rfl rfl rfl (g := 70) (vs := [.agg #[.int .i64 (spanOf k).1.1, .int .i64 (spanOf k).1.2], .int .i64 x]) (ob := []) (by as_aux_lemma => kernel_rfl) An enters70 (span_has (spanOf k).1.1 (spanOf k).1.2 x w3  ) ?_
  clear hf; rintro _ w4 a ⟨rfl, hk⟩ hf
  have hM := hM.keepNn hk
  have hk0 := hk0.trans hk.nn
  clear hk
  refine sr0 hf hM [23, 4, 1] [{}, {}] (env' := [(23, .val (.bool (!(decide (x ≥ (spanOf k).1.1) && decide (x ≤ (spanOf k).1.2))))), (4, .val (.pointer (some ⟨B3 + 1, 0, none⟩))), (1, .val (.pointer (some ⟨B1, 0, none⟩)))]) (ob := []) (fun B => by as_aux_lemma => kernel_rfl) rfl An ?_
  clear hf; intro a hf
  have hf := hf.prune [23, 4, 1]
  replace hf : Fr 31 [(23, .val (.bool (!(decide (x ≥ (spanOf k).1.1) && decide (x ≤ (spanOf k).1.2))))), (4, .val (.pointer (some ⟨B3 + 1, 0, none⟩))), (1, .val (.pointer (some ⟨B1, 0, none⟩)))] a := hf
  replace hf := hf.conv (env' := [(23, .val (.bool false)), (4, .val (.pointer (some ⟨B3 + 1, 0, none⟩))), (1, .val (.pointer (some ⟨B1, 0, none⟩)))]) (Ac (congrArg Value.bool (by simp [hs1] : (!(decide (x ≥ (spanOf k).1.1) && decide (x ≤ (spanOf k).1.2)) : Bool) = false)) (Ac rfl (Ao rfl)))
  refine sr0 hf hM [26, 24, 23] [{ os := [.ld 2 0, .ld 2 1] }, {}, { os := [.ld 0 2] }] (env' := [(26, .val (.int .i64 y)), (24, .val (.agg #[.int .i64 (spanOf k).2.1, .int .i64 (spanOf k).2.2])), (23, .val (.bool false))]) (ob := [false = false, Ad (B3 + 1) 0, Ad (B3 + 1) 1, false = false, false = false, Ad B1 2]) (fun B => by as_aux_lemma => kernel_rfl) rfl (Ac rfl (Ac (ad _ _) (Ac (ad _ _) (Ac rfl (Ac rfl (Ao (ad _ _))))))) ?_
  clear hf; intro a hf
  refine sxcallg hf rfl rfl rfl rfl rfl (g := 70) (vs := [.agg #[.int .i64 (spanOf k).2.1, .int .i64 (spanOf k).2.2], .int .i64 y]) (ob := []) (by as_aux_lemma => kernel_rfl) An enters70 (span_has (spanOf k).2.1 (spanOf k).2.2 y w4  ) ?_
  clear hf; rintro _ w5 a ⟨rfl, hk⟩ hf
  have hM := hM.keepNn hk
  have hk0 := hk0.trans hk.nn
  clear hk
  refine sr0 hf hM [17] [{}, {}, {}] (env' := [(17, .val (.bool (!(decide (y ≥ (spanOf k).2.1) && decide (y ≤ (spanOf k).2.2)))))]) (ob := [false = false]) (fun B => by as_aux_lemma => kernel_rfl) rfl (Ao rfl) ?_
  clear hf; intro a hf
  refine wpList_nil ?_
  refine hK5 _ _ ?_
  refine sxcond hf (b := !(decide (y ≥ (spanOf k).2.1) && decide (y ≤ (spanOf k).2.2))) (by kernel_rfl) (fun h => absurd (h.symm.trans (by simp [hs2] : (!(decide (y ≥ (spanOf k).2.1) && decide (y ≤ (spanOf k).2.2)) : Bool) = false)) (by simp)) (fun _ => ?_)
  refine wp_skip ?_
  refine hK3 _ _ ?_
  refine wp_seq_k (fun K6 hK6 => ?_)
  refine wp_region_lit ?_
  refine sr0 hf hM [2] [{}] (env' := [(2, .val (.nilIface))]) (ob := []) (fun B => by as_aux_lemma => kernel_rfl) rfl An ?_
  clear hf; intro a hf
  refine wpList_nil ?_
  refine hK6 _ _ ?_
  refine wp_ret ?_
  refine sxret (fn := Tryd.f31) hf hM [] (l := [.nilIface]) (M' := [⟨B1, 62, [.int .i64 k, .int .i64 x, .int .i64 y]⟩, ⟨B3, 127, [.int .i64 (spanOf k).1.1, .int .i64 (spanOf k).1.2]⟩, ⟨B3 + 1, 127, [.int .i64 (spanOf k).2.1, .int .i64 (spanOf k).2.2]⟩]) (d' := false) (ob := []) (by kernel_rfl) (fun B => ⟨B, by as_aux_lemma => kernel_rfl⟩) rfl An ?_
  show (.nilIface : Value) = .nilIface ∧ Keep Nn w w5
  exact ⟨rfl, hk0⟩

set_option maxRecDepth 10000 in
set_option maxHeartbeats 4000000 in
theorem scheck_range (E : Nat → Addr) (k x y : Int) (w : World) (hn0 : (vkind ⟨k, x, y⟩) = true) (hn1 : (vrange ⟨k, x, y⟩) = false) (hG : Errs [0, 3, 4] w 185 E) :
    Calls Tryd.prog 31 #[.agg #[.int .i64 k, .int .i64 x, .int .i64 y]] w (Ret fun v w' => v = .iface 185 (.pointer (some (E 0))) ∧ Keep Nn w w') := by
  refine sxenter (n := 31) (args := [.agg #[.int .i64 k, .int .i64 x, .int .i64 y]]) Tryd.func31 rfl rfl rfl fun a hf => ?_
  replace hf : Fr 31 [(0, .val (.agg #[.int .i64 k, .int .i64 x, .int .i64 y]))] a := hf
  have hM : MemOk [] w := MemOk.nil w
  have hk0 : Keep Nn w w := Keep.refl _ _
  have hkk : decide (0 ≤ k ∧ k ≤ 9) = true := hn0
  have hvr := hn1
  rw [vrange_span] at hvr
  have hvr := of_decide_eq_false hvr
  refine wp_seq_k (fun K1 hK1 => ?_)
  refine wp_region_lit ?_
  refine sr hf hM [1] [{ os := [.nw] }, {}] (env' := fun B1 => [(1, .val (.pointer (some ⟨B1, 0, none⟩)))]) (M' := fun B1 => [⟨B1, 62, [.int .i64 k, .int .i64 x, .int .i64 y]⟩]) (ob := fun B1 => []) (fun B => by as_aux_lemma => kernel_rfl) (fun B1 => An) ?_
  clear hf hM; intro a w1 B1 hf hM hB hk
  have hbB1 : w.heap.size ≤ B1 := by have := hk0.size; omega
  have hk0 := hk0.then hk (by intro i _ h; cases h)
  clear hk hB
  refine wpList_nil ?_
  refine hK1 _ _ ?_
  refine wp_seq_k (fun K2 hK2 => ?_)
  refine wp_region_lit ?_
  refine sr0 hf hM [8, 1] [{}, { os := [.ld 0 0] }] (env' := [(8, .val (.int .i64 k)), (1, .val (.pointer (some ⟨B1, 0, none⟩)))]) (ob := [Ad B1 0]) (fun B => by as_aux_lemma => kernel_rfl) rfl (Ao (ad _ _)) ?_
  clear hf; intro a hf
  refine sxcall hf rfl rfl rfl rfl (g := 69) (vs := [.int .i64 k]) (ob := []) (by as_aux_lemma => kernel_rfl) An enters69 (ranges_ok k w1 hkk ) ?_
  clear hf; rintro _ w2 a ⟨rfl, hk⟩ hf
  have hM := hM.keepNn hk
  have hk0 := hk0.trans hk.nn
  clear hk
  refine sr hf hM [5, 4, 3, 1] [{}, {}, {}, {}, { os := [.nw] }, { os := [.nw] }, { os := [.st 1 0, .st 1 1] }, { os := [.st 2 0, .st 2 1] }, {}] (env' := fun B3 => [(5, .val (.bool true)), (4, .val (.pointer (some ⟨B3 + 1, 0, none⟩))), (3, .val (.pointer (some ⟨B3, 0, none⟩))), (1, .val (.pointer (some ⟨B1, 0, none⟩)))]) (M' := fun B3 => [⟨B1, 62, [.int .i64 k, .int .i64 x, .int .i64 y]⟩, ⟨B3, 127, [.int .i64 (spanOf k).1.1, .int .i64 (spanOf k).1.2]⟩, ⟨B3 + 1, 127, [.int .i64 (spanOf k).2.1, .int .i64 (spanOf k).2.2]⟩]) (ob := fun B3 => [Ad B3 0, Ad B3 1, Ad (B3 + 1) 0, Ad (B3 + 1) 1]) (fun B => by as_aux_lemma => kernel_rfl) (fun B3 => (Ac (ad _ _) (Ac (ad _ _) (Ac (ad _ _) (Ao (ad _ _)))))) ?_
  clear hf hM; intro a w3 B3 hf hM hB hk
  have hbB3 : w.heap.size ≤ B3 := by have := hk0.size; omega
  have hk0 := hk0.then hk (by intro i hi h; simp only [Is, Mem.names, List.map_cons, List.map_nil, List.mem_cons, List.not_mem_nil, or_false] at h; omega)
  clear hk hB
  refine wpList_nil ?_
  refine hK2 _ _ ?_
  refine wp_seq_k (fun K3 hK3 => ?_)
  refine wp_block ?_
  refine wp_seq_k (fun K4 hK4 => ?_)
  refine wp_region_lit ?_
  refine sr0 hf hM [13, 4, 3, 1] [{}, {}, {}] (env' := [(13, .val (.bool false)), (4, .val (.pointer (some ⟨B3 + 1, 0, none⟩))), (3, .val (.pointer (some ⟨B3, 0, none⟩))), (1, .val (.pointer (some ⟨B1, 0, none⟩)))]) (ob := []) (fun B => by as_aux_lemma => kernel_rfl) rfl An ?_
  clear hf; intro a hf
  refine wpList_nil ?_
  refine hK4 _ _ ?_
  refine sxcond hf (b := false) (by kernel_rfl) (fun h => by cases h) (fun _ => ?_)
  refine wp_seq_k (fun K5 hK5 => ?_)
  refine wp_region_lit ?_
  refine sr0 hf hM [20, 18, 4, 1] [{ os := [.ld 1 0, .ld 1 1] }, {}, { os := [.ld 0 1] }] (env' := [(20, .val (.int .i64 x)), (18, .val (.agg #[.int .i64 (spanOf k).1.1, .int .i64 (spanOf k).1.2])), (4, .val (.pointer (some ⟨B3 + 1, 0, none⟩))), (1, .val (.pointer (some ⟨B1, 0, none⟩)))]) (ob := [Ad B3 0, Ad B3 1, Ad B1 1]) (fun B => by as_aux_lemma => kernel_rfl) rfl (Ac (ad _ _) (Ac (ad _ _) (Ao (ad _ _)))) ?_
  clear hf; intro a hf
  refine sxcall hf rfl rfl rfl rfl (g := 70) (vs := [.agg #[.int .i64 (spanOf k).1.1, .int .i64 (spanOf k).1.2], .int .i64 x]) (ob := []) (by as_aux_lemma => kernel_rfl) An enters70 (span_has (spanOf k).1.1 (spanOf k).1.2 x w3  ) ?_
  clear hf; rintro _ w4 a ⟨rfl, hk⟩ hf
  have hM := hM.keepNn hk
  have hk0 := hk0.trans hk.nn
  clear hk
  refine sr0 hf hM [23, 4, 1] [{}, {}] (env' := [(23, .val (.bool (!(decide (x ≥ (spanOf k).1.1) && decide (x ≤ (spanOf k).1.2))))), (4, .val (.pointer (some ⟨B3 + 1, 0, none⟩))), (1, .val (.pointer (some ⟨B1, 0, none⟩)))]) (ob := []) (fun B => by as_aux_lemma => kernel_rfl) rfl An ?_
  clear hf; intro a hf
  rcases Bool.eq_false_or_eq_true (!(decide (x ≥ (spanOf k).1.1) && decide (x ≤ (spanOf k).1.2))) with hg1 | hg1
  · have hg1r := hg1
    have hf := hf.prune [23, 4, 1]
    replace hf : Fr 31 [(23, .val (.bool (!(decide (x ≥ (spanOf k).1.1) && decide (x ≤ (spanOf k).1.2))))), (4, .val (.pointer (some ⟨B3 + 1, 0, none⟩))), (1, .val (.pointer (some ⟨B1, 0, none⟩)))] a := hf
    replace hf := hf.conv (env' := [(23, .val (.bool true)), (4, .val (.pointer (some ⟨B3 + 1, 0, none⟩))), (1, .val (.pointer (some ⟨B1, 0, none⟩)))]) (Ac (congrArg Value.bool hg1r) (Ac rfl (Ao rfl)))
    try simp only [Bool.or_eq_true, Bool.and_eq_true, Bool.not_eq_true', Bool.not_eq_false', Bool.or_eq_false_iff, Bool.and_eq_false_iff, decide_eq_true_eq, decide_eq_false_iff_not, beq_iff_eq, bne_iff_ne, beq_eq_false_iff_ne, bne_eq_false_iff_eq, Bool.and_true, Bool.true_and, ne_eq] at hg1
    refine sr0 hf hM [26, 24, 23] [{ g := .off }, { g := .off }, { g := .off }] (env' := [(26, .val (undef)), (24, .val (undef)), (23, .val (.bool true))]) (ob := [true = !false, true = !false, true = !false]) (fun B => by as_aux_lemma => kernel_rfl) rfl (Ac rfl (Ac rfl (Ao rfl))) ?_
    clear hf; intro a hf
    refine sr0 hf hM [17] [{ g := .off }, { g := .off }, {}, {}] (env' := [(17, .val (.bool true))]) (ob := [true = !false, true = !false]) (fun B => by as_aux_lemma => kernel_rfl) rfl (Ac rfl (Ao rfl)) ?_
    clear hf; intro a hf
    refine wpList_nil ?_
    refine hK5 _ _ ?_
    refine sxcond hf (b := true) (by kernel_rfl) (fun _ => ?_) (fun h => by cases h)
    refine wp_seq_k (fun K6 hK6 => ?_)
    refine wp_region_lit ?_
    refine sr0 hf hM [2] [{ os := [.ex (.iface 185 (.pointer (some (E 0))))] }, {}] (env' := [(2, .val (.iface 185 (.pointer (some (E 0)))))]) (ob := [w4.cell? ⟨0, 0, none⟩ = some (.iface 185 (.pointer (some (E 0))))]) (fun B => by as_aux_lemma => kernel_rfl) rfl (Ao (hk0.cell (hG.cell 0 (by decide)) (fun h => h))) ?_
    clear hf; intro a hf
    refine wpList_nil ?_
    refine hK6 _ _ ?_
    refine wp_ret ?_
    refine sxret (fn := Tryd.f31) hf hM [] (l := [.iface 185 (.pointer (some (E 0)))]) (M' := [⟨B1, 62, [.int .i64 k, .int .i64 x, .int .i64 y]⟩, ⟨B3, 127, [.int .i64 (spanOf k).1.1, .int .i64 (spanOf k).1.2]⟩, ⟨B3 + 1, 127, [.int .i64 (spanOf k).2.1, .int .i64 (spanOf k).2.2]⟩]) (d' := false) (ob := []) (by kernel_rfl) (fun B => ⟨B, by as_aux_lemma => kernel_rfl⟩) rfl An ?_
    show (.iface 185 (.pointer (some (E 0))) : Value) = .iface 185 (.pointer (some (E 0))) ∧ Keep Nn w w4
    exact ⟨rfl, hk0⟩
  · have hg1r := hg1
    have hf := hf.prune [23, 4, 1]
    replace hf : Fr 31 [(23, .val (.bool (!(decide (x ≥ (spanOf k).1.1) && decide (x ≤ (spanOf k).1.2))))), (4, .val (.pointer (some ⟨B3 + 1, 0, none⟩))), (1, .val (.pointer (some ⟨B1, 0, none⟩)))] a := hf
    replace hf := hf.conv (env' := [(23, .val (.bool false)), (4, .val (.pointer (some ⟨B3 + 1, 0, none⟩))), (1, .val (.pointer (some ⟨B1, 0, none⟩)))]) (Ac (congrArg Value.bool hg1r) (Ac rfl (Ao rfl)))
    try simp only [Bool.or_eq_true, Bool.and_eq_true, Bool.not_eq_true', Bool.not_eq_false', Bool.or_eq_false_iff, Bool.and_eq_false_iff, decide_eq_true_eq, decide_eq_false_iff_not, beq_iff_eq, bne_iff_ne, beq_eq_false_iff_ne, bne_eq_false_iff_eq, Bool.and_true, Bool.true_and, ne_eq] at hg1
    refine sr0 hf hM [26, 24, 23] [{ os := [.ld 2 0, .ld 2 1] }, {}, { os := [.ld 0 2] }] (env' := [(26, .val (.int .i64 y)), (24, .val (.agg #[.int .i64 (spanOf k).2.1, .int .i64 (spanOf k).2.2])), (23, .val (.bool false))]) (ob := [false = false, Ad (B3 + 1) 0, Ad (B3 + 1) 1, false = false, false = false, Ad B1 2]) (fun B => by as_aux_lemma => kernel_rfl) rfl (Ac rfl (Ac (ad _ _) (Ac (ad _ _) (Ac rfl (Ac rfl (Ao (ad _ _))))))) ?_
    clear hf; intro a hf
    refine sxcallg hf rfl rfl rfl rfl rfl (g := 70) (vs := [.agg #[.int .i64 (spanOf k).2.1, .int .i64 (spanOf k).2.2], .int .i64 y]) (ob := []) (by as_aux_lemma => kernel_rfl) An enters70 (span_has (spanOf k).2.1 (spanOf k).2.2 y w4  ) ?_
    clear hf; rintro _ w5 a ⟨rfl, hk⟩ hf
    have hM := hM.keepNn hk
    have hk0 := hk0.trans hk.nn
    clear hk
    refine sr0 hf hM [17] [{}, {}, {}] (env' := [(17, .val (.bool (!(decide (y ≥ (spanOf k).2.1) && decide (y ≤ (spanOf k).2.2)))))]) (ob := [false = false]) (fun B => by as_aux_lemma => kernel_rfl) rfl (Ao rfl) ?_
    clear hf; intro a hf
    refine wpList_nil ?_
    refine hK5 _ _ ?_
    refine sxcond hf (b := !(decide (y ≥ (spanOf k).2.1) && decide (y ≤ (spanOf k).2.2))) (by kernel_rfl) (fun hc3 => ?_) (fun hc3 => ?_)
    · have hc3r := hc3
      simp at hc3
      refine wp_seq_k (fun K7 hK7 => ?_)
      refine wp_region_lit ?_
      refine sr0 hf hM [2] [{ os := [.ex (.iface 185 (.pointer (some (E 0))))] }, {}] (env' := [(2, .val (.iface 185 (.pointer (some (E 0)))))]) (ob := [w5.cell? ⟨0, 0, none⟩ = some (.iface 185 (.pointer (some (E 0))))]) (fun B => by as_aux_lemma => kernel_rfl) rfl (Ao (hk0.cell (hG.cell 0 (by decide)) (fun h => h))) ?_
      clear hf; intro a hf
      refine wpList_nil ?_
      refine hK7 _ _ ?_
      refine wp_ret ?_
      refine sxret (fn := Tryd.f31) hf hM [] (l := [.iface 185 (.pointer (some (E 0)))]) (M' := [⟨B1, 62, [.int .i64 k, .int .i64 x, .int .i64 y]⟩, ⟨B3, 127, [.int .i64 (spanOf k).1.1, .int .i64 (spanOf k).1.2]⟩, ⟨B3 + 1, 127, [.int .i64 (spanOf k).2.1, .int .i64 (spanOf k).2.2]⟩]) (d' := false) (ob := []) (by kernel_rfl) (fun B => ⟨B, by as_aux_lemma => kernel_rfl⟩) rfl An ?_
      show (.iface 185 (.pointer (some (E 0))) : Value) = .iface 185 (.pointer (some (E 0))) ∧ Keep Nn w w5
      exact ⟨rfl, hk0⟩
    · have hc3r := hc3
      simp at hc3
      exfalso; omega

set_option maxRecDepth 10000 in
set_option maxHeartbeats 4000000 in
theorem rcheck (k x y : Int) (w : World) :
    Calls Tryd.prog 34 #[.agg #[.int .i64 k, .int .i64 x, .int .i64 y]] w (Ret fun v w' => v = .int .i64 (vcheck ⟨k, x, y⟩) ∧ Keep Nn w w') := by
  refine sxenter (n := 72) (args := [.agg #[.int .i64 k, .int .i64 x, .int .i64 y]]) Tryd.func34 rfl rfl rfl fun a hf => ?_
  replace hf : Fr 72 [(0, .val (.agg #[.int .i64 k, .int .i64 x, .int .i64 y]))] a := hf
  have hM : MemOk [] w := MemOk.nil w
  have hk0 : Keep Nn w w := Keep.refl _ _
  refine wp_seq_k (fun K1 hK1 => ?_)
  refine wp_region_lit ?_
  refine sr hf hM [1] [{ os := [.nw] }, {}] (env' := fun B1 => [(1, .val (.pointer (some ⟨B1, 0, none⟩)))]) (M' := fun B1 => [⟨B1, 62, [.int .i64 k, .int .i64 x, .int .i64 y]⟩]) (ob := fun B1 => []) (fun B => by as_aux_lemma => kernel_rfl) (fun B1 => An) ?_
  clear hf hM; intro a w1 B1 hf hM hB hk
  have hbB1 : w.heap.size ≤ B1 := by have := hk0.size; omega
  have hk0 := hk0.then hk (by intro i _ h; cases h)
  clear hk hB
  refine wpList_nil ?_
  refine hK1 _ _ ?_
  refine wp_seq_k (fun K2 hK2 => ?_)
  refine wp_region_lit ?_
  refine sr0 hf hM [1] [{}] (env' := [(1, .val (.pointer (some ⟨B1, 0, none⟩)))]) (ob := []) (fun B => by as_aux_lemma => kernel_rfl) rfl An ?_
  clear hf; intro a hf
  refine wpList_nil ?_
  refine hK2 _ _ ?_
  refine wp_seq_k (fun K3 hK3 => ?_)
  refine wp_seq_k (fun K4 hK4 => ?_)
  refine wp_region_lit ?_
  refine sr0 hf hM [5, 1] [{}, { os := [.ld 0 0] }] (env' := [(5, .val (.int .i64 k)), (1, .val (.pointer (some ⟨B1, 0, none⟩)))]) (ob := [Ad B1 0]) (fun B => by as_aux_lemma => kernel_rfl) rfl (Ao (ad _ _)) ?_
  clear hf; intro a hf
  refine wpList_nil ?_
  refine hK4 _ _ ?_
  refine wp_block ?_
  refine wp_seq_k (fun K5 hK5 => ?_)
  refine wp_seq_k (fun K6 hK6 => ?_)
  refine wp_region_lit ?_
  refine sr0 hf hM [6, 5, 1] [{}, {}] (env' := [(6, .val (.bool ((k : Int) == 0))), (5, .val (.int .i64 k)), (1, .val (.pointer (some ⟨B1, 0, none⟩)))]) (ob := []) (fun B => by as_aux_lemma => kernel_rfl) rfl An ?_
  clear hf; intro a hf
  refine wpList_nil ?_
  refine hK6 _ _ ?_
  refine sxcond hf (b := ((k : Int) == 0)) (by kernel_rfl) (fun hc1 => ?_) (fun hc1 => ?_)
  · have hc1r := hc1
    try simp only [Bool.or_eq_true, Bool.and_eq_true, Bool.not_eq_true', Bool.not_eq_false', Bool.or_eq_false_iff, Bool.and_eq_false_iff, decide_eq_true_eq, decide_eq_false_iff_not, beq_iff_eq, bne_iff_ne, beq_eq_false_iff_ne, bne_eq_false_iff_eq, Bool.and_true, Bool.true_and, ne_eq] at hc1
    refine wp_skip ?_
    refine hK5 _ _ ?_
    refine sxcond hf (b := ((k : Int) == 0)) (by kernel_rfl) (fun _ => ?_) (fun h => absurd h (by rw [hc1r]; simp))
    refine wp_region_lit ?_
    refine sr0 hf hM [10, 1] [{}, { os := [.ld 0 1] }] (env' := [(10, .val (.int .i64 x)), (1, .val (.pointer (some ⟨B1, 0, none⟩)))]) (ob := [Ad B1 1]) (fun B => by as_aux_lemma => kernel_rfl) rfl (Ao (ad _ _)) ?_
    clear hf; intro a hf
    refine sxcall hf rfl rfl rfl rfl (g := 72) (vs := [.int .i64 x, .int .i64 (-1048576), .int .i64 1048576]) (ob := []) (by as_aux_lemma => kernel_rfl) An enters72 (rin6 x (-1048576) 1048576 w1  ) ?_
    clear hf; rintro _ w2 a ⟨rfl, hk⟩ hf
    have hM := hM.keepNn hk
    have hk0 := hk0.trans hk.nn
    clear hk
    refine sr0 hf hM [12, 1] [{}] (env' := [(12, .val (.bool (decide ((-1048576) ≤ x) && decide (x ≤ 1048576)))), (1, .val (.pointer (some ⟨B1, 0, none⟩)))]) (ob := []) (fun B => by as_aux_lemma => kernel_rfl) rfl An ?_
    clear hf; intro a hf
    rcases Bool.eq_false_or_eq_true (decide ((-1048576) ≤ x) && decide (x ≤ 1048576)) with hg1 | hg1
    · have hg1r := hg1
      have hf := hf.prune [12, 1]
      replace hf : Fr 72 [(12, .val (.bool (decide ((-1048576) ≤ x) && decide (x ≤ 1048576)))), (1, .val (.pointer (some ⟨B1, 0, none⟩)))] a := hf
      replace hf := hf.conv (env' := [(12, .val (.bool true)), (1, .val (.pointer (some ⟨B1, 0, none⟩)))]) (Ac (congrArg Value.bool hg1r) (Ao rfl))
      try simp only [Bool.or_eq_true, Bool.and_eq_true, Bool.not_eq_true', Bool.not_eq_false', Bool.or_eq_false_iff, Bool.and_eq_false_iff, decide_eq_true_eq, decide_eq_false_iff_not, beq_iff_eq, bne_iff_ne, beq_eq_false_iff_ne, bne_eq_false_iff_eq, Bool.and_true, Bool.true_and, ne_eq] at hg1
      refine sr0 hf hM [14, 12] [{}, { os := [.ld 0 2] }] (env' := [(14, .val (.int .i64 y)), (12, .val (.bool true))]) (ob := [true = true, true = true, Ad B1 2]) (fun B => by as_aux_lemma => kernel_rfl) rfl (Ac rfl (Ac rfl (Ao (ad _ _)))) ?_
      clear hf; intro a hf
      refine sxcallg hf rfl rfl rfl rfl rfl (g := 72) (vs := [.int .i64 y, .int .i64 (-1048576), .int .i64 1048576]) (ob := []) (by as_aux_lemma => kernel_rfl) An enters72 (rin6 y (-1048576) 1048576 w2  ) ?_
      clear hf; rintro _ w3 a ⟨rfl, hk⟩ hf
      have hM := hM.keepNn hk
      have hk0 := hk0.trans hk.nn
      clear hk
      refine sr0 hf hM [3] [{}, {}] (env' := [(3, .val (.bool (decide ((-1048576) ≤ y) && decide (y ≤ 1048576))))]) (ob := []) (fun B => by as_aux_lemma => kernel_rfl) rfl An ?_
      clear hf; intro a hf
      refine wpList_nil ?_
      refine hK3 _ _ ?_
      refine wp_seq_k (fun K7 hK7 => ?_)
      refine wp_seq_k (fun K8 hK8 => ?_)
      refine wp_region_lit ?_
      refine sr0 hf hM [71] [{}, {}] (env' := [(71, .val (.bool (!(decide ((-1048576) ≤ y) && decide (y ≤ 1048576)))))]) (ob := []) (fun B => by as_aux_lemma => kernel_rfl) rfl An ?_
      clear hf; intro a hf
      refine wpList_nil ?_
      refine hK8 _ _ ?_
      refine sxcond hf (b := !(decide ((-1048576) ≤ y) && decide (y ≤ 1048576))) (by kernel_rfl) (fun hc3 => ?_) (fun hc3 => ?_)
      · have hc3r := hc3
        try simp only [Bool.or_eq_true, Bool.and_eq_true, Bool.not_eq_true', Bool.not_eq_false', Bool.or_eq_false_iff, Bool.and_eq_false_iff, decide_eq_true_eq, decide_eq_false_iff_not, beq_iff_eq, bne_iff_ne, beq_eq_false_iff_ne, bne_eq_false_iff_eq, Bool.and_true, Bool.true_and, ne_eq] at hc3
        refine wp_seq_k (fun K9 hK9 => ?_)
        refine wp_region_lit ?_
        refine sr0 hf hM [2] [{}] (env' := [(2, .val (.int .i64 1))]) (ob := []) (fun B => by as_aux_lemma => kernel_rfl) rfl An ?_
        clear hf; intro a hf
        refine wpList_nil ?_
        refine hK9 _ _ ?_
        refine wp_ret ?_
        refine sxret (fn := Tryd.f34) hf hM [] (l := [.int .i64 1]) (M' := [⟨B1, 62, [.int .i64 k, .int .i64 x, .int .i64 y]⟩]) (d' := false) (ob := []) (by kernel_rfl) (fun B => ⟨B, by as_aux_lemma => kernel_rfl⟩) rfl An ?_
        show (.int .i64 1 : Value) = .int .i64 (vcheck ⟨k, x, y⟩) ∧ Keep Nn w w3
        refine ⟨congrArg _ ?_, hk0⟩
        rw [vcheck_eq]
        repeat' split
        all_goals first | rfl | (exfalso; omega)
      · have hc3r := hc3
        try simp only [Bool.or_eq_true, Bool.and_eq_true, Bool.not_eq_true', Bool.not_eq_false', Bool.or_eq_false_iff, Bool.and_eq_false_iff, decide_eq_true_eq, decide_eq_false_iff_not, beq_iff_eq, bne_iff_ne, beq_eq_false_iff_ne, bne_eq_false_iff_eq, Bool.and_true, Bool.true_and, ne_eq] at hc3
        refine wp_skip ?_
        refine hK7 _ _ ?_
        refine wp_seq_k (fun K10 hK10 => ?_)
        refine wp_region_lit ?_
        refine sr0 hf hM [2] [{}] (env' := [(2, .val (.int .i64 0))]) (ob := []) (fun B => by as_aux_lemma => kernel_rfl) rfl An ?_
        clear hf; intro a hf
        refine wpList_nil ?_
        refine hK10 _ _ ?_
        refine wp_ret ?_
        refine sxret (fn := Tryd.f34) hf hM [] (l := [.int .i64 0]) (M' := [⟨B1, 62, [.int .i64 k, .int .i64 x, .int .i64 y]⟩]) (d' := false) (ob := []) (by kernel_rfl) (fun B => ⟨B, by as_aux_lemma => kernel_rfl⟩) rfl An ?_
        show (.int .i64 0 : Value) = .int .i64 (vcheck ⟨k, x, y⟩) ∧ Keep Nn w w3
        refine ⟨congrArg _ ?_, hk0⟩
        rw [vcheck_eq]
        repeat' split
        all_goals first | rfl | (exfalso; omega)
    · have hg1r := hg1
      have hf := hf.prune [12, 1]
      replace hf : Fr 72 [(12, .val (.bool (decide ((-1048576) ≤ x) && decide (x ≤ 1048576)))), (1, .val (.pointer (some ⟨B1, 0, none⟩)))] a := hf
      replace hf := hf.conv (env' := [(12, .val (.bool false)), (1, .val (.pointer (some ⟨B1, 0, none⟩)))]) (Ac (congrArg Value.bool hg1r) (Ao rfl))
      try simp only [Bool.or_eq_true, Bool.and_eq_true, Bool.not_eq_true', Bool.not_eq_false', Bool.or_eq_false_iff, Bool.and_eq_false_iff, decide_eq_true_eq, decide_eq_false_iff_not, beq_iff_eq, bne_iff_ne, beq_eq_false_iff_ne, bne_eq_false_iff_eq, Bool.and_true, Bool.true_and, ne_eq] at hg1
      refine sr0 hf hM [14, 12] [{ g := .off }, { g := .off }] (env' := [(14, .val (undef)), (12, .val (.bool false))]) (ob := [false = !true, false = !true]) (fun B => by as_aux_lemma => kernel_rfl) rfl (Ac rfl (Ao rfl)) ?_
      clear hf; intro a hf
      refine sr0 hf hM [3] [{ g := .off }, {}, {}] (env' := [(3, .val (.bool false))]) (ob := [false = !true]) (fun B => by as_aux_lemma => kernel_rfl) rfl (Ao rfl) ?_
      clear hf; intro a hf
      refine wpList_nil ?_
      refine hK3 _ _ ?_
      refine wp_seq_k (fun K11 hK11 => ?_)
      refine wp_seq_k (fun K12 hK12 => ?_)
      refine wp_region_lit ?_
      refine sr0 hf hM [71] [{}, {}] (env' := [(71, .val (.bool true))]) (ob := []) (fun B => by as_aux_lemma => kernel_rfl) rfl An ?_
      clear hf; intro a hf
      refine wpList_nil ?_
      refine hK12 _ _ ?_
      refine sxcond hf (b := true) (by kernel_rfl) (fun _ => ?_) (fun h => by cases h)
      refine wp_seq_k (fun K13 hK13 => ?_)
      refine wp_region_lit ?_
      refine sr0 hf hM [2] [{}] (env' := [(2, .val (.int .i64 1))]) (ob := []) (fun B => by as_aux_lemma => kernel_rfl) rfl An ?_
      clear hf; intro a hf
      refine wpList_nil ?_
      refine hK13 _ _ ?_
      refine wp_ret ?_
      refine sxret (fn := Tryd.f34) hf hM [] (l := [.int .i64 1]) (M' := [⟨B1, 62, [.int .i64 k, .int .i64 x, .int .i64 y]⟩]) (d' := false) (ob := []) (by kernel_rfl) (fun B => ⟨B, by as_aux_lemma => kernel_rfl⟩) rfl An ?_
      show (.int .i64 1 : Value) = .int .i64 (vcheck ⟨k, x, y⟩) ∧ Keep Nn w w2
      refine ⟨congrArg _ ?_, hk0⟩
      rw [vcheck_eq]
      repeat' split
      all_goals first | rfl | (exfalso; omega)
  · have hc1r := hc1
    try simp only [Bool.or_eq_true, Bool.and_eq_true, Bool.not_eq_true', Bool.not_eq_false', Bool.or_eq_false_iff, Bool.and_eq_false_iff, decide_eq_true_eq, decide_eq_false_iff_not, beq_iff_eq, bne_iff_ne, beq_eq_false_iff_ne, bne_eq_false_iff_eq, Bool.and_true, Bool.true_and, ne_eq] at hc1
    refine wp_region_lit ?_
    refine sr0 hf hM [6, 5, 1] [{}, {}] (env' := [(6, .val (.bool ((k : Int) == 2))), (5, .val (.int .i64 k)), (1, .val (.pointer (some ⟨B1, 0, none⟩)))]) (ob := []) (fun B => by as_aux_lemma => kernel_rfl) rfl An ?_
    clear hf; intro a hf
    refine wpList_nil ?_
    refine hK5 _ _ ?_
    refine sxcond hf (b := ((k : Int) == 2)) (by kernel_rfl) (fun hc5 => ?_) (fun hc5 => ?_)
    · have hc5r := hc5
      try simp only [Bool.or_eq_true, Bool.and_eq_true, Bool.not_eq_true', Bool.not_eq_false', Bool.or_eq_false_iff, Bool.and_eq_false_iff, decide_eq_true_eq, decide_eq_false_iff_not, beq_iff_eq, bne_iff_ne, beq_eq_false_iff_ne, bne_eq_false_iff_eq, Bool.and_true, Bool.true_and, ne_eq] at hc5
      refine wp_region_lit ?_
      refine sr0 hf hM [10, 1] [{}, { os := [.ld 0 1] }] (env' := [(10, .val (.int .i64 x)), (1, .val (.pointer (some ⟨B1, 0, none⟩)))]) (ob := [Ad B1 1]) (fun B => by as_aux_lemma => kernel_rfl) rfl (Ao (ad _ _)) ?_
      clear hf; intro a hf
      refine sxcall hf rfl rfl rfl rfl (g := 72) (vs := [.int .i64 x, .int .i64 (-1048576), .int .i64 1048576]) (ob := []) (by as_aux_lemma => kernel_rfl) An enters72 (rin6 x (-1048576) 1048576 w1  ) ?_
      clear hf; rintro _ w4 a ⟨rfl, hk⟩ hf
      have hM := hM.keepNn hk
      have hk0 := hk0.trans hk.nn
      clear hk
      refine sr0 hf hM [12, 1] [{}] (env' := [(12, .val (.bool (decide ((-1048576) ≤ x) && decide (x ≤ 1048576)))), (1, .val (.pointer (some ⟨B1, 0, none⟩)))]) (ob := []) (fun B => by as_aux_lemma => kernel_rfl) rfl An ?_
      clear hf; intro a hf
      rcases Bool.eq_false_or_eq_true (decide ((-1048576) ≤ x) && decide (x ≤ 1048576)) with hg2 | hg2
      · have hg2r := hg2
        have hf := hf.prune [12, 1]
        replace hf : Fr 72 [(12, .val (.bool (decide ((-1048576) ≤ x) && decide (x ≤ 1048576)))), (1, .val (.pointer (some ⟨B1, 0, none⟩)))] a := hf
        replace hf := hf.conv (env' := [(12, .val (.bool true)), (1, .val (.pointer (some ⟨B1, 0, none⟩)))]) (Ac (congrArg Value.bool hg2r) (Ao rfl))
        try simp only [Bool.or_eq_true, Bool.and_eq_true, Bool.not_eq_true', Bool.not_eq_false', Bool.or_eq_false_iff, Bool.and_eq_false_iff, decide_eq_true_eq, decide_eq_false_iff_not, beq_iff_eq, bne_iff_ne, beq_eq_false_iff_ne, bne_eq_false_iff_eq, Bool.and_true, Bool.true_and, ne_eq] at hg2
        refine sr0 hf hM [14, 12] [{}, { os := [.ld 0 2] }] (env' := [(14, .val (.int .i64 y)), (12, .val (.bool true))]) (ob := [true = true, true = true, Ad B1 2]) (fun B => by as_aux_lemma => kernel_rfl) rfl (Ac rfl (Ac rfl (Ao (ad _ _)))) ?_
        clear hf; intro a hf
        refine sxcallg hf rfl rfl rfl rfl rfl (g := 72) (vs := [.int .i64 y, .int .i64 (-1048576), .int .i64 1048576]) (ob := []) (by as_aux_lemma => kernel_rfl) An enters72 (rin6 y (-1048576) 1048576 w4  ) ?_
        clear hf; rintro _ w5 a ⟨rfl, hk⟩ hf
        have hM := hM.keepNn hk
        have hk0 := hk0.trans hk.nn
        clear hk
        refine sr0 hf hM [3] [{}, {}] (env' := [(3, .val (.bool (decide ((-1048576) ≤ y) && decide (y ≤ 1048576))))]) (ob := []) (fun B => by as_aux_lemma => kernel_rfl) rfl An ?_
        clear hf; intro a hf
        refine wpList_nil ?_
        refine hK3 _ _ ?_
        refine wp_seq_k (fun K14 hK14 => ?_)
        refine wp_seq_k (fun K15 hK15 => ?_)
        refine wp_region_lit ?_
        refine sr0 hf hM [71] [{}, {}] (env' := [(71, .val (.bool (!(decide ((-1048576) ≤ y) && decide (y ≤ 1048576)))))]) (ob := []) (fun B => by as_aux_lemma => kernel_rfl) rfl An ?_
        clear hf; intro a hf
        refine wpList_nil ?_
        refine hK15 _ _ ?_
        refine sxcond hf (b := !(decide ((-1048576) ≤ y) && decide (y ≤ 1048576))) (by kernel_rfl) (fun hc6 => ?_) (fun hc6 => ?_)
        · have hc6r := hc6
          try simp only [Bool.or_eq_true, Bool.and_eq_true, Bool.not_eq_true', Bool.not_eq_false', Bool.or_eq_false_iff, Bool.and_eq_false_iff, decide_eq_true_eq, decide_eq_false_iff_not, beq_iff_eq, bne_iff_ne, beq_eq_false_iff_ne, bne_eq_false_iff_eq, Bool.and_true, Bool.true_and, ne_eq] at hc6
          refine wp_seq_k (fun K16 hK16 => ?_)
          refine wp_region_lit ?_
          refine sr0 hf hM [2] [{}] (env' := [(2, .val (.int .i64 1))]) (ob := []) (fun B => by as_aux_lemma => kernel_rfl) rfl An ?_
          clear hf; intro a hf
          refine wpList_nil ?_
          refine hK16 _ _ ?_
          refine wp_ret ?_
          refine sxret (fn := Tryd.f34) hf hM [] (l := [.int .i64 1]) (M' := [⟨B1, 62, [.int .i64 k, .int .i64 x, .int .i64 y]⟩]) (d' := false) (ob := []) (by kernel_rfl) (fun B => ⟨B, by as_aux_lemma => kernel_rfl⟩) rfl An ?_
          show (.int .i64 1 : Value) = .int .i64 (vcheck ⟨k, x, y⟩) ∧ Keep Nn w w5
          refine ⟨congrArg _ ?_, hk0⟩
          rw [vcheck_eq]
          repeat' split
          all_goals first | rfl | (exfalso; omega)
        · have hc6r := hc6
          try simp only [Bool.or_eq_true, Bool.and_eq_true, Bool.not_eq_true', Bool.not_eq_false', Bool.or_eq_false_iff, Bool.and_eq_false_iff, decide_eq_true_eq, decide_eq_false_iff_not, beq_iff_eq, bne_iff_ne, beq_eq_false_iff_ne, bne_eq_false_iff_eq, Bool.and_true, Bool.true_and, ne_eq] at hc6
          refine wp_skip ?_
          refine hK14 _ _ ?_
          refine wp_seq_k (fun K17 hK17 => ?_)
          refine wp_region_lit ?_
          refine sr0 hf hM [2] [{}] (env' := [(2, .val (.int .i64 0))]) (ob := []) (fun B => by as_aux_lemma => kernel_rfl) rfl An ?_
          clear hf; intro a hf
          refine wpList_nil ?_
          refine hK17 _ _ ?_
          refine wp_ret ?_
          refine sxret (fn := Tryd.f34) hf hM [] (l := [.int .i64 0]) (M' := [⟨B1, 62, [.int .i64 k, .int .i64 x, .int .i64 y]⟩]) (d' := false) (ob := []) (by kernel_rfl) (fun B => ⟨B, by as_aux_lemma => kernel_rfl⟩) rfl An ?_
          show (.int .i64 0 : Value) = .int .i64 (vcheck ⟨k, x, y⟩) ∧ Keep Nn w w5
          refine ⟨congrArg _ ?_, hk0⟩
          rw [vcheck_eq]
          repeat' split
          all_goals first | rfl | (exfalso; omega)
      · have hg2r := hg2
        have hf := hf.prune [12, 1]
        replace hf : Fr 72 [(12, .val (.bool (decide ((-1048576) ≤ x) && decide (x ≤ 1048576)))), (1, .val (.pointer (some ⟨B1, 0, none⟩)))] a := hf
        replace hf := hf.conv (env' := [(12, .val (.bool false)), (1, .val (.pointer (some ⟨B1, 0, none⟩)))]) (Ac (congrArg Value.bool hg2r) (Ao rfl))
        try simp only [Bool.or_eq_true, Bool.and_eq_true, Bool.not_eq_true', Bool.not_eq_false', Bool.or_eq_false_iff, Bool.and_eq_false_iff, decide_eq_true_eq, decide_eq_false_iff_not, beq_iff_eq, bne_iff_ne, beq_eq_false_iff_ne, bne_eq_false_iff_eq, Bool.and_true, Bool.true_and, ne_eq] at hg2
        refine sr0 hf hM [14, 12] [{ g := .off }, { g := .off }] (env' := [(14, .val (undef)), (12, .val (.bool false))]) (ob := [false = !true, false = !true]) (fun B => by as_aux_lemma => kernel_rfl) rfl (Ac rfl (Ao rfl)) ?_
        clear hf; intro a hf
        refine sr0 hf hM [3] [{ g := .off }, {}, {}] (env' := [(3, .val (.bool false))]) (ob := [false = !true]) (fun B => by as_aux_lemma => kernel_rfl) rfl (Ao rfl) ?_
        clear hf; intro a hf
        refine wpList_nil ?_
        refine hK3 _ _ ?_
        refine wp_seq_k (fun K18 hK18 => ?_)
        refine wp_seq_k (fun K19 hK19 => ?_)
        refine wp_region_lit ?_
        refine sr0 hf hM [71] [{}, {}] (env' := [(71, .val (.bool true))]) (ob := []) (fun B => by as_aux_lemma => kernel_rfl) rfl An ?_
        clear hf; intro a hf
        refine wpList_nil ?_
        refine hK19 _ _ ?_
        refine sxcond hf (b := true) (by kernel_rfl) (fun _ => ?_) (fun h => by cases h)
        refine wp_seq_k (fun K20 hK20 => ?_)
        refine wp_region_lit ?_
        refine sr0 hf hM [2] [{}] (env' := [(2, .val (.int .i64 1))]) (ob := []) (fun B => by as_aux_lemma => kernel_rfl) rfl An ?_
        clear hf; intro a hf
        refine wpList_nil ?_
        refine hK20 _ _ ?_
        refine wp_ret ?_
        refine sxret (fn := Tryd.f34) hf hM [] (l := [.int .i64 1]) (M' := [⟨B1, 62, [.int .i64 k, .int .i64 x, .int .i64 y]⟩]) (d' := false) (ob := []) (by kernel_rfl) (fun B => ⟨B, by as_aux_lemma => kernel_rfl⟩) rfl An ?_
        show (.int .i64 1 : Value) = .int .i64 (vcheck ⟨k, x, y⟩) ∧ Keep Nn w w4
        refine ⟨congrArg _ ?_, hk0⟩
        rw [vcheck_eq]
        repeat' split
        all_goals first | rfl | (exfalso; omega)
    · have hc5r := hc5
      try simp only [Bool.or_eq_true, Bool.and_eq_true, Bool.not_eq_true', Bool.not_eq_false', Bool.or_eq_false_iff, Bool.and_eq_false_iff, decide_eq_true_eq, decide_eq_false_iff_not, beq_iff_eq, bne_iff_ne, beq_eq_false_iff_ne, bne_eq_false_iff_eq, Bool.and_true, Bool.true_and, ne_eq] at hc5
      refine wp_seq_k (fun K21 hK21 => ?_)
      refine wp_region_lit ?_
      refine sr0 hf hM [17, 5, 1] [{}, {}] (env' := [(17, .val (.bool ((k : Int) == 1))), (5, .val (.int .i64 k)), (1, .val (.pointer (some ⟨B1, 0, none⟩)))]) (ob := []) (fun B => by as_aux_lemma => kernel_rfl) rfl An ?_
      clear hf; intro a hf
      refine wpList_nil ?_
      refine hK21 _ _ ?_
      refine sxcond hf (b := ((k : Int) == 1)) (by kernel_rfl) (fun hc8 => ?_) (fun hc8 => ?_)
      · have hc8r := hc8
        try simp only [Bool.or_eq_true, Bool.and_eq_true, Bool.not_eq_true', Bool.not_eq_false', Bool.or_eq_false_iff, Bool.and_eq_false_iff, decide_eq_true_eq, decide_eq_false_iff_not, beq_iff_eq, bne_iff_ne, beq_eq_false_iff_ne, bne_eq_false_iff_eq, Bool.and_true, Bool.true_and, ne_eq] at hc8
        refine wp_region_lit ?_
        refine sr0 hf hM [20, 1] [{}, { os := [.ld 0 1] }] (env' := [(20, .val (.int .i64 x)), (1, .val (.pointer (some ⟨B1, 0, none⟩)))]) (ob := [Ad B1 1]) (fun B => by as_aux_lemma => kernel_rfl) rfl (Ao (ad _ _)) ?_
        clear hf; intro a hf
        refine sxcall hf rfl rfl rfl rfl (g := 72) (vs := [.int .i64 x, .int .i64 0, .int .i64 1048576]) (ob := []) (by as_aux_lemma => kernel_rfl) An enters72 (rin6 x 0 1048576 w1  ) ?_
        clear hf; rintro _ w6 a ⟨rfl, hk⟩ hf
        have hM := hM.keepNn hk
        have hk0 := hk0.trans hk.nn
        clear hk
        refine sr0 hf hM [22, 1] [{}] (env' := [(22, .val (.bool (decide (0 ≤ x) && decide (x ≤ 1048576)))), (1, .val (.pointer (some ⟨B1, 0, none⟩)))]) (ob := []) (fun B => by as_aux_lemma => kernel_rfl) rfl An ?_
        clear hf; intro a hf
        rcases Bool.eq_false_or_eq_true (decide (0 ≤ x) && decide (x ≤ 1048576)) with hg3 | hg3
        · have hg3r := hg3
          have hf := hf.prune [22, 1]
          replace hf : Fr 72 [(22, .val (.bool (decide (0 ≤ x) && decide (x ≤ 1048576)))), (1, .val (.pointer (some ⟨B1, 0, none⟩)))] a := hf
          replace hf := hf.conv (env' := [(22, .val (.bool true)), (1, .val (.pointer (some ⟨B1, 0, none⟩)))]) (Ac (congrArg Value.bool hg3r) (Ao rfl))
          try simp only [Bool.or_eq_true, Bool.and_eq_true, Bool.not_eq_true', Bool.not_eq_false', Bool.or_eq_false_iff, Bool.and_eq_false_iff, decide_eq_true_eq, decide_eq_false_iff_not, beq_iff_eq, bne_iff_ne, beq_eq_false_iff_ne, bne_eq_false_iff_eq, Bool.and_true, Bool.true_and, ne_eq] at hg3
          refine sr0 hf hM [24, 22] [{}, { os := [.ld 0 2] }] (env' := [(24, .val (.int .i64 y)), (22, .val (.bool true))]) (ob := [true = true, true = true, Ad B1 2]) (fun B => by as_aux_lemma => kernel_rfl) rfl (Ac rfl (Ac rfl (Ao (ad _ _)))) ?_
          clear hf; intro a hf
          refine sxcallg hf rfl rfl rfl rfl rfl (g := 72) (vs := [.int .i64 y, .int .i64 0, .int .i64 1048576]) (ob := []) (by as_aux_lemma => kernel_rfl) An enters72 (rin6 y 0 1048576 w6  ) ?_
          clear hf; rintro _ w7 a ⟨rfl, hk⟩ hf
          have hM := hM.keepNn hk
          have hk0 := hk0.trans hk.nn
          clear hk
          refine sr0 hf hM [3] [{}, {}] (env' := [(3, .val (.bool (decide (0 ≤ y) && decide (y ≤ 1048576))))]) (ob := []) (fun B => by as_aux_lemma => kernel_rfl) rfl An ?_
          clear hf; intro a hf
          refine wpList_nil ?_
          refine hK3 _ _ ?_
          refine wp_seq_k (fun K22 hK22 => ?_)
          refine wp_seq_k (fun K23 hK23 => ?_)
          refine wp_region_lit ?_
          refine sr0 hf hM [71] [{}, {}] (env' := [(71, .val (.bool (!(decide (0 ≤ y) && decide (y ≤ 1048576)))))]) (ob := []) (fun B => by as_aux_lemma => kernel_rfl) rfl An ?_
          clear hf; intro a hf
          refine wpList_nil ?_
          refine hK23 _ _ ?_
          refine sxcond hf (b := !(decide (0 ≤ y) && decide (y ≤ 1048576))) (by kernel_rfl) (fun hc9 => ?_) (fun hc9 => ?_)
          · have hc9r := hc9
            try simp only [Bool.or_eq_true, Bool.and_eq_true, Bool.not_eq_true', Bool.not_eq_false', Bool.or_eq_false_iff, Bool.and_eq_false_iff, decide_eq_true_eq, decide_eq_false_iff_not, beq_iff_eq, bne_iff_ne, beq_eq_false_iff_ne, bne_eq_false_iff_eq, Bool.and_true, Bool.true_and, ne_eq] at hc9
            refine wp_seq_k (fun K24 hK24 => ?_)
            refine wp_region_lit ?_
            refine sr0 hf hM [2] [{}] (env' := [(2, .val (.int .i64 1))]) (ob := []) (fun B => by as_aux_lemma => kernel_rfl) rfl An ?_
            clear hf; intro a hf
            refine wpList_nil ?_
            refine hK24 _ _ ?_
            refine wp_ret ?_
            refine sxret (fn := Tryd.f34) hf hM [] (l := [.int .i64 1]) (M' := [⟨B1, 62, [.int .i64 k, .int .i64 x, .int .i64 y]⟩]) (d' := false) (ob := []) (by kernel_rfl) (fun B => ⟨B, by as_aux_lemma => kernel_rfl⟩) rfl An ?_
            show (.int .i64 1 : Value) = .int .i64 (vcheck ⟨k, x, y⟩) ∧ Keep Nn w w7
            refine ⟨congrArg _ ?_, hk0⟩
            rw [vcheck_eq]
            repeat' split
            all_goals first | rfl | (exfalso; omega)
          · have hc9r := hc9
            try simp only [Bool.or_eq_true, Bool.and_eq_true, Bool.not_eq_true', Bool.not_eq_false', Bool.or_eq_false_iff, Bool.and_eq_false_iff, decide_eq_true_eq, decide_eq_false_iff_not, beq_iff_eq, bne_iff_ne, beq_eq_false_iff_ne, bne_eq_false_iff_eq, Bool.and_true, Bool.true_and, ne_eq] at hc9
            refine wp_skip ?_
            refine hK22 _ _ ?_
            refine wp_seq_k (fun K25 hK25 => ?_)
            refine wp_region_lit ?_
            refine sr0 hf hM [2] [{}] (env' := [(2, .val (.int .i64 0))]) (ob := []) (fun B => by as_aux_lemma => kernel_rfl) rfl An ?_
            clear hf; intro a hf
            refine wpList_nil ?_
            refine hK25 _ _ ?_
            refine wp_ret ?_
            refine sxret (fn := Tryd.f34) hf hM [] (l := [.int .i64 0]) (M' := [⟨B1, 62, [.int .i64 k, .int .i64 x, .int .i64 y]⟩]) (d' := false) (ob := []) (by kernel_rfl) (fun B => ⟨B, by as_aux_lemma => kernel_rfl⟩) rfl An ?_
            show (.int .i64 0 : Value) = .int .i64 (vcheck ⟨k, x, y⟩) ∧ Keep Nn w w7
            refine ⟨congrArg _ ?_, hk0⟩
            rw [vcheck_eq]
            repeat' split
            all_goals first | rfl | (exfalso; omega)
        · have hg3r := hg3
          have hf := hf.prune [22, 1]
          replace hf : Fr 72 [(22, .val (.bool (decide (0 ≤ x) && decide (x ≤ 1048576)))), (1, .val (.pointer (some ⟨B1, 0, none⟩)))] a := hf
          replace hf := hf.conv (env' := [(22, .val (.bool false)), (1, .val (.pointer (some ⟨B1, 0, none⟩)))]) (Ac (congrArg Value.bool hg3r) (Ao rfl))
          try simp only [Bool.or_eq_true, Bool.and_eq_true, Bool.not_eq_true', Bool.not_eq_false', Bool.or_eq_false_iff, Bool.and_eq_false_iff, decide_eq_true_eq, decide_eq_false_iff_not, beq_iff_eq, bne_iff_ne, beq_eq_false_iff_ne, bne_eq_false_iff_eq, Bool.and_true, Bool.true_and, ne_eq] at hg3
          refine sr0 hf hM [24, 22] [{ g := .off }, { g := .off }] (env' := [(24, .val (undef)), (22, .val (.bool false))]) (ob := [false = !true, false = !true]) (fun B => by as_aux_lemma => kernel_rfl) rfl (Ac rfl (Ao rfl)) ?_
          clear hf; intro a hf
          refine sr0 hf hM [3] [{ g := .off }, {}, {}] (env' := [(3, .val (.bool false))]) (ob := [false = !true]) (fun B => by as_aux_lemma => kernel_rfl) rfl (Ao rfl) ?_
          clear hf; intro a hf
          refine wpList_nil ?_
          refine hK3 _ _ ?_
          refine wp_seq_k (fun K26 hK26 => ?_)
          refine wp_seq_k (fun K27 hK27 => ?_)
          refine wp_region_lit ?_
          refine sr0 hf hM [71] [{}, {}] (env' := [(71, .val (.bool true))]) (ob := []) (fun B => by as_aux_lemma => kernel_rfl) rfl An ?_
          clear hf; intro a hf
          refine wpList_nil ?_
          refine hK27 _ _ ?_
          refine sxcond hf (b := true) (by kernel_rfl) (fun _ => ?_) (fun h => by cases h)
          refine wp_seq_k (fun K28 hK28 => ?_)
          refine wp_region_lit ?_
          refine sr0 hf hM [2] [{}] (env' := [(2, .val (.int .i64 1))]) (ob := []) (fun B => by as_aux_lemma => kernel_rfl) rfl An ?_
          clear hf; intro a hf
          refine wpList_nil ?_
          refine hK28 _ _ ?_
          refine wp_ret ?_
          refine sxret (fn := Tryd.f34) hf hM [] (l := [.int .i64 1]) (M' := [⟨B1, 62, [.int .i64 k, .int .i64 x, .int .i64 y]⟩]) (d' := false) (ob := []) (by kernel_rfl) (fun B => ⟨B, by as_aux_lemma => kernel_rfl⟩) rfl An ?_
          show (.int .i64 1 : Value) = .int .i64 (vcheck ⟨k, x, y⟩) ∧ Keep Nn w w6
          refine ⟨congrArg _ ?_, hk0⟩
          rw [vcheck_eq]
          repeat' split
          all_goals first | rfl | (exfalso; omega)
      · have hc8r := hc8
        try simp only [Bool.or_eq_true, Bool.and_eq_true, Bool.not_eq_true', Bool.not_eq_false', Bool.or_eq_false_iff, Bool.and_eq_false_iff, decide_eq_true_eq, decide_eq_false_iff_not, beq_iff_eq, bne_iff_ne, beq_eq_false_iff_ne, bne_eq_false_iff_eq, Bool.and_true, Bool.true_and, ne_eq] at hc8
        refine wp_seq_k (fun K29 hK29 => ?_)
        refine wp_region_lit ?_
        refine sr0 hf hM [27, 5, 1] [{}, {}] (env' := [(27, .val (.bool ((k : Int) == 3))), (5, .val (.int .i64 k)), (1, .val (.pointer (some ⟨B1, 0, none⟩)))]) (ob := []) (fun B => by as_aux_lemma => kernel_rfl) rfl An ?_
        clear hf; intro a hf
        refine wpList_nil ?_
        refine hK29 _ _ ?_
        refine sxcond hf (b := ((k : Int) == 3)) (by kernel_rfl) (fun hc11 => ?_) (fun hc11 => ?_)
        · have hc11r := hc11
          try simp only [Bool.or_eq_true, Bool.and_eq_true, Bool.not_eq_true', Bool.not_eq_false', Bool.or_eq_false_iff, Bool.and_eq_false_iff, decide_eq_true_eq, decide_eq_false_iff_not, beq_iff_eq, bne_iff_ne, beq_eq_false_iff_ne, bne_eq_false_iff_eq, Bool.and_true, Bool.true_and, ne_eq] at hc11
          refine wp_region_lit ?_
          refine sr0 hf hM [3] [{}, { os := [.ld 0 1] }, {}, {}, { g := .sym }, { g := .sym, os := [.ld 0 2] }, { g := .sym }, { hint := some (.bool (((x : Int) == 0) && ((y : Int) == 0))) }, {}] (env' := [(3, .val (.bool (((x : Int) == 0) && ((y : Int) == 0))))]) (ob := [Ad B1 1, (((x : Int) == 0) = true → ((x : Int) == 0) = ((x : Int) == 0)), (((x : Int) == 0) = true → Ad B1 2), (((x : Int) == 0) = true → ((x : Int) == 0) = ((x : Int) == 0)), (((x : Int) == 0) = true → ((x : Int) == 0) = ((x : Int) == 0)), (bif ((x : Int) == 0) then (.bool ((y : Int) == 0) : Value) else .bool false) = .bool (((x : Int) == 0) && ((y : Int) == 0))]) (fun B => by as_aux_lemma => kernel_rfl) rfl (Ac (ad _ _) (Ac (fun hgd => rfl) (Ac (fun hgd => ad _ _) (Ac (fun hgd => rfl) (Ac (fun _ => rfl) (Ao (pick_and _ _))))))) ?_
          clear hf; intro a hf
          refine wpList_nil ?_
          refine hK3 _ _ ?_
          refine wp_seq_k (fun K30 hK30 => ?_)
          refine wp_seq_k (fun K31 hK31 => ?_)
          refine wp_region_lit ?_
          refine sr0 hf hM [71] [{}, {}] (env' := [(71, .val (.bool (!(((x : Int) == 0) && ((y : Int) == 0)))))]) (ob := []) (fun B => by as_aux_lemma => kernel_rfl) rfl An ?_
          clear hf; intro a hf
          refine wpList_nil ?_
          refine hK31 _ _ ?_
          refine sxcond hf (b := !(((x : Int) == 0) && ((y : Int) == 0))) (by kernel_rfl) (fun hc12 => ?_) (fun hc12 => ?_)
          · have hc12r := hc12
            try simp only [Bool.or_eq_true, Bool.and_eq_true, Bool.not_eq_true', Bool.not_eq_false', Bool.or_eq_false_iff, Bool.and_eq_false_iff, decide_eq_true_eq, decide_eq_false_iff_not, beq_iff_eq, bne_iff_ne, beq_eq_false_iff_ne, bne_eq_false_iff_eq, Bool.and_true, Bool.true_and, ne_eq] at hc12
            refine wp_seq_k (fun K32 hK32 => ?_)
            refine wp_region_lit ?_
            refine sr0 hf hM [2] [{}] (env' := [(2, .val (.int .i64 1))]) (ob := []) (fun B => by as_aux_lemma => kernel_rfl) rfl An ?_
            clear hf; intro a hf
            refine wpList_nil ?_
            refine hK32 _ _ ?_
            refine wp_ret ?_
            refine sxret (fn := Tryd.f34) hf hM [] (l := [.int .i64 1]) (M' := [⟨B1, 62, [.int .i64 k, .int .i64 x, .int .i64 y]⟩]) (d' := false) (ob := []) (by kernel_rfl) (fun B => ⟨B, by as_aux_lemma => kernel_rfl⟩) rfl An ?_
            show (.int .i64 1 : Value) = .int .i64 (vcheck ⟨k, x, y⟩) ∧ Keep Nn w w1
            refine ⟨congrArg _ ?_, hk0⟩
            rw [vcheck_eq]
            repeat' split
            all_goals first | rfl | (exfalso; omega)
          · have hc12r := hc12
            try simp only [Bool.or_eq_true, Bool.and_eq_true, Bool.not_eq_true', Bool.not_eq_false', Bool.or_eq_false_iff, Bool.and_eq_false_iff, decide_eq_true_eq, decide_eq_false_iff_not, beq_iff_eq, bne_iff_ne, beq_eq_false_iff_ne, bne_eq_false_iff_eq, Bool.and_true, Bool.true_and, ne_eq] at hc12
            refine wp_skip ?_
            refine hK30 _ _ ?_
            refine wp_seq_k (fun K33 hK33 => ?_)
            refine wp_region_lit ?_
            refine sr0 hf hM [2] [{}] (env' := [(2, .val (.int .i64 0))]) (ob := []) (fun B => by as_aux_lemma => kernel_rfl) rfl An ?_
            clear hf; intro a hf
            refine wpList_nil ?_
            refine hK33 _ _ ?_
            refine wp_ret ?_
            refine sxret (fn := Tryd.f34) hf hM [] (l := [.int .i64 0]) (M' := [⟨B1, 62, [.int .i64 k, .int .i64 x, .int .i64 y]⟩]) (d' := false) (ob := []) (by kernel_rfl) (fun B => ⟨B, by as_aux_lemma => kernel_rfl⟩) rfl An ?_
            show (.int .i64 0 : Value) = .int .i64 (vcheck ⟨k, x, y⟩) ∧ Keep Nn w w1
            refine ⟨congrArg _ ?_, hk0⟩
            rw [vcheck_eq]
            repeat' split
            all_goals first | rfl | (exfalso; omega)
        · have hc11r := hc11
          try simp only [Bool.or_eq_true, Bool.and_eq_true, Bool.not_eq_true', Bool.not_eq_false', Bool.or_eq_false_iff, Bool.and_eq_false_iff, decide_eq_true_eq, decide_eq_false_iff_not, beq_iff_eq, bne_iff_ne, beq_eq_false_iff_ne, bne_eq_false_iff_eq, Bool.and_true, Bool.true_and, ne_eq] at hc11
          refine wp_seq_k (fun K34 hK34 => ?_)
          refine wp_region_lit ?_
          refine sr0 hf hM [37, 5, 1] [{}, {}] (env' := [(37, .val (.bool ((k : Int) == 4))), (5, .val (.int .i64 k)), (1, .val (.pointer (some ⟨B1, 0, none⟩)))]) (ob := []) (fun B => by as_aux_lemma => kernel_rfl) rfl An ?_
          clear hf; intro a hf
          refine wpList_nil ?_
          refine hK34 _ _ ?_
          refine sxcond hf (b := ((k : Int) == 4)) (by kernel_rfl) (fun hc13 => ?_) (fun hc13 => ?_)
          · have hc13r := hc13
            try simp only [Bool.or_eq_true, Bool.and_eq_true, Bool.not_eq_true', Bool.not_eq_false', Bool.or_eq_false_iff, Bool.and_eq_false_iff, decide_eq_true_eq, decide_eq_false_iff_not, beq_iff_eq, bne_iff_ne, beq_eq_false_iff_ne, bne_eq_false_iff_eq, Bool.and_true, Bool.true_and, ne_eq] at hc13
            refine wp_region_lit ?_
            refine sr0 hf hM [40, 1] [{}, { os := [.ld 0 1] }] (env' := [(40, .val (.int .i64 x)), (1, .val (.pointer (some ⟨B1, 0, none⟩)))]) (ob := [Ad B1 1]) (fun B => by as_aux_lemma => kernel_rfl) rfl (Ao (ad _ _)) ?_
            clear hf; intro a hf
            refine sxcall hf rfl rfl rfl rfl (g := 72) (vs := [.int .i64 x, .int .i64 0, .int .i64 255]) (ob := []) (by as_aux_lemma => kernel_rfl) An enters72 (rin6 x 0 255 w1  ) ?_
            clear hf; rintro _ w8 a ⟨rfl, hk⟩ hf
            have hM := hM.keepNn hk
            have hk0 := hk0.trans hk.nn
            clear hk
            refine sr0 hf hM [3] [{}, { g := .sym }, { g := .sym, os := [.ld 0 2] }, { g := .sym }, { hint := some (.bool ((decide (0 ≤ x) && decide (x ≤ 255)) && ((y : Int) == 0))) }, {}] (env' := [(3, .val (.bool ((decide (0 ≤ x) && decide (x ≤ 255)) && ((y : Int) == 0))))]) (ob := [((decide (0 ≤ x) && decide (x ≤ 255)) = true → (decide (0 ≤ x) && decide (x ≤ 255)) = (decide (0 ≤ x) && decide (x ≤ 255))), ((decide (0 ≤ x) && decide (x ≤ 255)) = true → Ad B1 2), ((decide (0 ≤ x) && decide (x ≤ 255)) = true → (decide (0 ≤ x) && decide (x ≤ 255)) = (decide (0 ≤ x) && decide (x ≤ 255))), ((decide (0 ≤ x) && decide (x ≤ 255)) = true → (decide (0 ≤ x) && decide (x ≤ 255)) = (decide (0 ≤ x) && decide (x ≤ 255))), (bif (decide (0 ≤ x) && decide (x ≤ 255)) then (.bool ((y : Int) == 0) : Value) else .bool false) = .bool ((decide (0 ≤ x) && decide (x ≤ 255)) && ((y : Int) == 0))]) (fun B => by as_aux_lemma => kernel_rfl) rfl (Ac (fun hgd => rfl) (Ac (fun hgd => ad _ _) (Ac (fun hgd => rfl) (Ac (fun _ => rfl) (Ao (pick_and _ _)))))) ?_
            clear hf; intro a hf
            refine wpList_nil ?_
            refine hK3 _ _ ?_
            refine wp_seq_k (fun K35 hK35 => ?_)
            refine wp_seq_k (fun K36 hK36 => ?_)
            refine wp_region_lit ?_
            refine sr0 hf hM [71] [{}, {}] (env' := [(71, .val (.bool (!((decide (0 ≤ x) && decide (x ≤ 255)) && ((y : Int) == 0)))))]) (ob := []) (fun B => by as_aux_lemma => kernel_rfl) rfl An ?_
            clear hf; intro a hf
            refine wpList_nil ?_
            refine hK36 _ _ ?_
            refine sxcond hf (b := !((decide (0 ≤ x) && decide (x ≤ 255)) && ((y : Int) == 0))) (by kernel_rfl) (fun hc14 => ?_) (fun hc14 => ?_)
            · have hc14r := hc14
              try simp only [Bool.or_eq_true, Bool.and_eq_true, Bool.not_eq_true', Bool.not_eq_false', Bool.or_eq_false_iff, Bool.and_eq_false_iff, decide_eq_true_eq, decide_eq_false_iff_not, beq_iff_eq, bne_iff_ne, beq_eq_false_iff_ne, bne_eq_false_iff_eq, Bool.and_true, Bool.true_and, ne_eq] at hc14
              refine wp_seq_k (fun K37 hK37 => ?_)
              refine wp_region_lit ?_
              refine sr0 hf hM [2] [{}] (env' := [(2, .val (.int .i64 1))]) (ob := []) (fun B => by as_aux_lemma => kernel_rfl) rfl An ?_
              clear hf; intro a hf
              refine wpList_nil ?_
              refine hK37 _ _ ?_
              refine wp_ret ?_
              refine sxret (fn := Tryd.f34) hf hM [] (l := [.int .i64 1]) (M' := [⟨B1, 62, [.int .i64 k, .int .i64 x, .int .i64 y]⟩]) (d' := false) (ob := []) (by kernel_rfl) (fun B => ⟨B, by as_aux_lemma => kernel_rfl⟩) rfl An ?_
              show (.int .i64 1 : Value) = .int .i64 (vcheck ⟨k, x, y⟩) ∧ Keep Nn w w8
              refine ⟨congrArg _ ?_, hk0⟩
              rw [vcheck_eq]
              repeat' split
              all_goals first | rfl | (exfalso; omega)
            · have hc14r := hc14
              try simp only [Bool.or_eq_true, Bool.and_eq_true, Bool.not_eq_true', Bool.not_eq_false', Bool.or_eq_false_iff, Bool.and_eq_false_iff, decide_eq_true_eq, decide_eq_false_iff_not, beq_iff_eq, bne_iff_ne, beq_eq_false_iff_ne, bne_eq_false_iff_eq, Bool.and_true, Bool.true_and, ne_eq] at hc14
              refine wp_skip ?_
              refine hK35 _ _ ?_
              refine wp_seq_k (fun K38 hK38 => ?_)
              refine wp_region_lit ?_
              refine sr0 hf hM [2] [{}] (env' := [(2, .val (.int .i64 0))]) (ob := []) (fun B => by as_aux_lemma => kernel_rfl) rfl An ?_
              clear hf; intro a hf
              refine wpList_nil ?_
              refine hK38 _ _ ?_
              refine wp_ret ?_
              refine sxret (fn := Tryd.f34) hf hM [] (l := [.int .i64 0]) (M' := [⟨B1, 62, [.int .i64 k, .int .i64 x, .int .i64 y]⟩]) (d' := false) (ob := []) (by kernel_rfl) (fun B => ⟨B, by as_aux_lemma => kernel_rfl⟩) rfl An ?_
              show (.int .i64 0 : Value) = .int .i64 (vcheck ⟨k, x, y⟩) ∧ Keep Nn w w8
              refine ⟨congrArg _ ?_, hk0⟩
              rw [vcheck_eq]
              repeat' split
              all_goals first | rfl | (exfalso; omega)
          · have hc13r := hc13
            try simp only [Bool.or_eq_true, Bool.and_eq_true, Bool.not_eq_true', Bool.not_eq_false', Bool.or_eq_false_iff, Bool.and_eq_false_iff, decide_eq_true_eq, decide_eq_false_iff_not, beq_iff_eq, bne_iff_ne, beq_eq_false_iff_ne, bne_eq_false_iff_eq, Bool.and_true, Bool.true_and, ne_eq] at hc13
            refine wp_seq_k (fun K39 hK39 => ?_)
            refine wp_region_lit ?_
            refine sr0 hf hM [47, 5, 1] [{}, {}] (env' := [(47, .val (.bool ((k : Int) == 5))), (5, .val (.int .i64 k)), (1, .val (.pointer (some ⟨B1, 0, none⟩)))]) (ob := []) (fun B => by as_aux_lemma => kernel_rfl) rfl An ?_
            clear hf; intro a hf
            refine wpList_nil ?_
            refine hK39 _ _ ?_
            refine sxcond hf (b := ((k : Int) == 5)) (by kernel_rfl) (fun hc15 => ?_) (fun hc15 => ?_)
            · have hc15r := hc15
              try simp only [Bool.or_eq_true, Bool.and_eq_true, Bool.not_eq_true', Bool.not_eq_false', Bool.or_eq_false_iff, Bool.and_eq_false_iff, decide_eq_true_eq, decide_eq_false_iff_not, beq_iff_eq, bne_iff_ne, beq_eq_false_iff_ne, bne_eq_false_iff_eq, Bool.and_true, Bool.true_and, ne_eq] at hc15
              refine wp_region_lit ?_
              refine sr0 hf hM [50, 1] [{}, { os := [.ld 0 1] }] (env' := [(50, .val (.int .i64 x)), (1, .val (.pointer (some ⟨B1, 0, none⟩)))]) (ob := [Ad B1 1]) (fun B => by as_aux_lemma => kernel_rfl) rfl (Ao (ad _ _)) ?_
              clear hf; intro a hf
              refine sxcall hf rfl rfl rfl rfl (g := 72) (vs := [.int .i64 x, .int .i64 0, .int .i64 1048576]) (ob := []) (by as_aux_lemma => kernel_rfl) An enters72 (rin6 x 0 1048576 w1  ) ?_
              clear hf; rintro _ w9 a ⟨rfl, hk⟩ hf
              have hM := hM.keepNn hk
              have hk0 := hk0.trans hk.nn
              clear hk
              refine sr0 hf hM [3] [{}, { g := .sym }, { g := .sym, os := [.ld 0 2] }, { g := .sym }, { hint := some (.bool ((decide (0 ≤ x) && decide (x ≤ 1048576)) && ((y : Int) == 0))) }, {}] (env' := [(3, .val (.bool ((decide (0 ≤ x) && decide (x ≤ 1048576)) && ((y : Int) == 0))))]) (ob := [((decide (0 ≤ x) && decide (x ≤ 1048576)) = true → (decide (0 ≤ x) && decide (x ≤ 1048576)) = (decide (0 ≤ x) && decide (x ≤ 1048576))), ((decide (0 ≤ x) && decide (x ≤ 1048576)) = true → Ad B1 2), ((decide (0 ≤ x) && decide (x ≤ 1048576)) = true → (decide (0 ≤ x) && decide (x ≤ 1048576)) = (decide (0 ≤ x) && decide (x ≤ 1048576))), ((decide (0 ≤ x) && decide (x ≤ 1048576)) = true → (decide (0 ≤ x) && decide (x ≤ 1048576)) = (decide (0 ≤ x) && decide (x ≤ 1048576))), (bif (decide (0 ≤ x) && decide (x ≤ 1048576)) then (.bool ((y : Int) == 0) : Value) else .bool false) = .bool ((decide (0 ≤ x) && decide (x ≤ 1048576)) && ((y : Int) == 0))]) (fun B => by as_aux_lemma => kernel_rfl) rfl (Ac (fun hgd => rfl) (Ac (fun hgd => ad _ _) (Ac (fun hgd => rfl) (Ac (fun _ => rfl) (Ao (pick_and _ _)))))) ?_
              clear hf; intro a hf
              refine wpList_nil ?_
              refine hK3 _ _ ?_
              refine wp_seq_k (fun K40 hK40 => ?_)
              refine wp_seq_k (fun K41 hK41 => ?_)
              refine wp_region_lit ?_
              refine sr0 hf hM [71] [{}, {}] (env' := [(71, .val (.bool (!((decide (0 ≤ x) && decide (x ≤ 1048576)) && ((y : Int) == 0)))))]) (ob := []) (fun B => by as_aux_lemma => kernel_rfl) rfl An ?_
              clear hf; intro a hf
              refine wpList_nil ?_
              refine hK41 _ _ ?_
              refine sxcond hf (b := !((decide (0 ≤ x) && decide (x ≤ 1048576)) && ((y : Int) == 0))) (by kernel_rfl) (fun hc16 => ?_) (fun hc16 => ?_)
              · have hc16r := hc16
                try simp only [Bool.or_eq_true, Bool.and_eq_true, Bool.not_eq_true', Bool.not_eq_false', Bool.or_eq_false_iff, Bool.and_eq_false_iff, decide_eq_true_eq, decide_eq_false_iff_not, beq_iff_eq, bne_iff_ne, beq_eq_false_iff_ne, bne_eq_false_iff_eq, Bool.and_true, Bool.true_and, ne_eq] at hc16
                refine wp_seq_k (fun K42 hK42 => ?_)
                refine wp_region_lit ?_
                refine sr0 hf hM [2] [{}] (env' := [(2, .val (.int .i64 1))]) (ob := []) (fun B => by as_aux_lemma => kernel_rfl) rfl An ?_
                clear hf; intro a hf
                refine wpList_nil ?_
                refine hK42 _ _ ?_
                refine wp_ret ?_
                refine sxret (fn := Tryd.f34) hf hM [] (l := [.int .i64 1]) (M' := [⟨B1, 62, [.int .i64 k, .int .i64 x, .int .i64 y]⟩]) (d' := false) (ob := []) (by kernel_rfl) (fun B => ⟨B, by as_aux_lemma => kernel_rfl⟩) rfl An ?_
                show (.int .i64 1 : Value) = .int .i64 (vcheck ⟨k, x, y⟩) ∧ Keep Nn w w9
                refine ⟨congrArg _ ?_, hk0⟩
                rw [vcheck_eq]
                repeat' split
                all_goals first | rfl | (exfalso; omega)
              · have hc16r := hc16
                try simp only [Bool.or_eq_true, Bool.and_eq_true, Bool.not_eq_true', Bool.not_eq_false', Bool.or_eq_false_iff, Bool.and_eq_false_iff, decide_eq_true_eq, decide_eq_false_iff_not, beq_iff_eq, bne_iff_ne, beq_eq_false_iff_ne, bne_eq_false_iff_eq, Bool.and_true, Bool.true_and, ne_eq] at hc16
                refine wp_skip ?_
                refine hK40 _ _ ?_
                refine wp_seq_k (fun K43 hK43 => ?_)
                refine wp_region_lit ?_
                refine sr0 hf hM [2] [{}] (env' := [(2, .val (.int .i64 0))]) (ob := []) (fun B => by as_aux_lemma => kernel_rfl) rfl An ?_
                clear hf; intro a hf
                refine wpList_nil ?_
                refine hK43 _ _ ?_
                refine wp_ret ?_
                refine sxret (fn := Tryd.f34) hf hM [] (l := [.int .i64 0]) (M' := [⟨B1, 62, [.int .i64 k, .int .i64 x, .int .i64 y]⟩]) (d' := false) (ob := []) (by kernel_rfl) (fun B => ⟨B, by as_aux_lemma => kernel_rfl⟩) rfl An ?_
                show (.int .i64 0 : Value) = .int .i64 (vcheck ⟨k, x, y⟩) ∧ Keep Nn w w9
                refine ⟨congrArg _ ?_, hk0⟩
                rw [vcheck_eq]
                repeat' split
                all_goals first | rfl | (exfalso; omega)
            · have hc15r := hc15
              try simp only [Bool.or_eq_true, Bool.and_eq_true, Bool.not_eq_true', Bool.not_eq_false', Bool.or_eq_false_iff, Bool.and_eq_false_iff, decide_eq_true_eq, decide_eq_false_iff_not, beq_iff_eq, bne_iff_ne, beq_eq_false_iff_ne, bne_eq_false_iff_eq, Bool.and_true, Bool.true_and, ne_eq] at hc15
              refine wp_seq_k (fun K44 hK44 => ?_)
              refine wp_seq_k (fun K45 hK45 => ?_)
              refine wp_region_lit ?_
              refine sr0 hf hM [57, 5, 1] [{}, {}] (env' := [(57, .val (.bool ((k : Int) == 6))), (5, .val (.int .i64 k)), (1, .val (.pointer (some ⟨B1, 0, none⟩)))]) (ob := []) (fun B => by as_aux_lemma => kernel_rfl) rfl An ?_
              clear hf; intro a hf
              refine wpList_nil ?_
              refine hK45 _ _ ?_
              refine sxcond hf (b := ((k : Int) == 6)) (by kernel_rfl) (fun hc17 => ?_) (fun hc17 => ?_)
              · have hc17r := hc17
                try simp only [Bool.or_eq_true, Bool.and_eq_true, Bool.not_eq_true', Bool.not_eq_false', Bool.or_eq_false_iff, Bool.and_eq_false_iff, decide_eq_true_eq, decide_eq_false_iff_not, beq_iff_eq, bne_iff_ne, beq_eq_false_iff_ne, bne_eq_false_iff_eq, Bool.and_true, Bool.true_and, ne_eq] at hc17
                refine wp_skip ?_
                refine hK44 _ _ ?_
                refine sxcond hf (b := ((k : Int) == 6)) (by kernel_rfl) (fun _ => ?_) (fun h => absurd h (by rw [hc17r]; simp))
                refine wp_region_lit ?_
                refine sr0 hf hM [63, 1] [{}, { os := [.ld 0 1] }] (env' := [(63, .val (.int .i64 x)), (1, .val (.pointer (some ⟨B1, 0, none⟩)))]) (ob := [Ad B1 1]) (fun B => by as_aux_lemma => kernel_rfl) rfl (Ao (ad _ _)) ?_
                clear hf; intro a hf
                refine sxcall hf rfl rfl rfl rfl (g := 72) (vs := [.int .i64 x, .int .i64 (-4194304), .int .i64 4194304]) (ob := []) (by as_aux_lemma => kernel_rfl) An enters72 (rin6 x (-4194304) 4194304 w1  ) ?_
                clear hf; rintro _ w10 a ⟨rfl, hk⟩ hf
                have hM := hM.keepNn hk
                have hk0 := hk0.trans hk.nn
                clear hk
                refine sr0 hf hM [65, 1] [{}] (env' := [(65, .val (.bool (decide ((-4194304) ≤ x) && decide (x ≤ 4194304)))), (1, .val (.pointer (some ⟨B1, 0, none⟩)))]) (ob := []) (fun B => by as_aux_lemma => kernel_rfl) rfl An ?_
                clear hf; intro a hf
                rcases Bool.eq_false_or_eq_true (decide ((-4194304) ≤ x) && decide (x ≤ 4194304)) with hg4 | hg4
                · have hg4r := hg4
                  have hf := hf.prune [65, 1]
                  replace hf : Fr 72 [(65, .val (.bool (decide ((-4194304) ≤ x) && decide (x ≤ 4194304)))), (1, .val (.pointer (some ⟨B1, 0, none⟩)))] a := hf
                  replace hf := hf.conv (env' := [(65, .val (.bool true)), (1, .val (.pointer (some ⟨B1, 0, none⟩)))]) (Ac (congrArg Value.bool hg4r) (Ao rfl))
                  try simp only [Bool.or_eq_true, Bool.and_eq_true, Bool.not_eq_true', Bool.not_eq_false', Bool.or_eq_false_iff, Bool.and_eq_false_iff, decide_eq_true_eq, decide_eq_false_iff_not, beq_iff_eq, bne_iff_ne, beq_eq_false_iff_ne, bne_eq_false_iff_eq, Bool.and_true, Bool.true_and, ne_eq] at hg4
                  refine sr0 hf hM [67, 65] [{}, { os := [.ld 0 2] }] (env' := [(67, .val (.int .i64 y)), (65, .val (.bool true))]) (ob := [true = true, true = true, Ad B1 2]) (fun B => by as_aux_lemma => kernel_rfl) rfl (Ac rfl (Ac rfl (Ao (ad _ _)))) ?_
                  clear hf; intro a hf
                  refine sxcallg hf rfl rfl rfl rfl rfl (g := 72) (vs := [.int .i64 y, .int .i64 (-4194304), .int .i64 4194304]) (ob := []) (by as_aux_lemma => kernel_rfl) An enters72 (rin6 y (-4194304) 4194304 w10  ) ?_
                  clear hf; rintro _ w11 a ⟨rfl, hk⟩ hf
                  have hM := hM.keepNn hk
                  have hk0 := hk0.trans hk.nn
                  clear hk
                  refine sr0 hf hM [3] [{}, {}] (env' := [(3, .val (.bool (decide ((-4194304) ≤ y) && decide (y ≤ 4194304))))]) (ob := []) (fun B => by as_aux_lemma => kernel_rfl) rfl An ?_
                  clear hf; intro a hf
                  refine wpList_nil ?_
                  refine hK3 _ _ ?_
                  refine wp_seq_k (fun K46 hK46 => ?_)
                  refine wp_seq_k (fun K47 hK47 => ?_)
                  refine wp_region_lit ?_
                  refine sr0 hf hM [71] [{}, {}] (env' := [(71, .val (.bool (!(decide ((-4194304) ≤ y) && decide (y ≤ 4194304)))))]) (ob := []) (fun B => by as_aux_lemma => kernel_rfl) rfl An ?_
                  clear hf; intro a hf
                  refine wpList_nil ?_
                  refine hK47 _ _ ?_
                  refine sxcond hf (b := !(decide ((-4194304) ≤ y) && decide (y ≤ 4194304))) (by kernel_rfl) (fun hc19 => ?_) (fun hc19 => ?_)
                  · have hc19r := hc19
                    try simp only [Bool.or_eq_true, Bool.and_eq_true, Bool.not_eq_true', Bool.not_eq_false', Bool.or_eq_false_iff, Bool.and_eq_false_iff, decide_eq_true_eq, decide_eq_false_iff_not, beq_iff_eq, bne_iff_ne, beq_eq_false_iff_ne, bne_eq_false_iff_eq, Bool.and_true, Bool.true_and, ne_eq] at hc19
                    refine wp_seq_k (fun K48 hK48 => ?_)
                    refine wp_region_lit ?_
                    refine sr0 hf hM [2] [{}] (env' := [(2, .val (.int .i64 1))]) (ob := []) (fun B => by as_aux_lemma => kernel_rfl) rfl An ?_
                    clear hf; intro a hf
                    refine wpList_nil ?_
                    refine hK48 _ _ ?_
                    refine wp_ret ?_
                    refine sxret (fn := Tryd.f34) hf hM [] (l := [.int .i64 1]) (M' := [⟨B1, 62, [.int .i64 k, .int .i64 x, .int .i64 y]⟩]) (d' := false) (ob := []) (by kernel_rfl) (fun B => ⟨B, by as_aux_lemma => kernel_rfl⟩) rfl An ?_
                    show (.int .i64 1 : Value) = .int .i64 (vcheck ⟨k, x, y⟩) ∧ Keep Nn w w11
                    refine ⟨congrArg _ ?_, hk0⟩
                    rw [vcheck_eq]
                    repeat' split
                    all_goals first | rfl | (exfalso; omega)
                  · have hc19r := hc19
                    try simp only [Bool.or_eq_true, Bool.and_eq_true, Bool.not_eq_true', Bool.not_eq_false', Bool.or_eq_false_iff, Bool.and_eq_false_iff, decide_eq_true_eq, decide_eq_false_iff_not, beq_iff_eq, bne_iff_ne, beq_eq_false_iff_ne, bne_eq_false_iff_eq, Bool.and_true, Bool.true_and, ne_eq] at hc19
                    refine wp_skip ?_
                    refine hK46 _ _ ?_
                    refine wp_seq_k (fun K49 hK49 => ?_)
                    refine wp_region_lit ?_
                    refine sr0 hf hM [2] [{}] (env' := [(2, .val (.int .i64 0))]) (ob := []) (fun B => by as_aux_lemma => kernel_rfl) rfl An ?_
                    clear hf; intro a hf
                    refine wpList_nil ?_
                    refine hK49 _ _ ?_
                    refine wp_ret ?_
                    refine sxret (fn := Tryd.f34) hf hM [] (l := [.int .i64 0]) (M' := [⟨B1, 62, [.int .i64 k, .int .i64 x, .int .i64 y]⟩]) (d' := false) (ob := []) (by kernel_rfl) (fun B => ⟨B, by as_aux_lemma => kernel_rfl⟩) rfl An ?_
                    show (.int .i64 0 : Value) = .int .i64 (vcheck ⟨k, x, y⟩) ∧ Keep Nn w w11
                    refine ⟨congrArg _ ?_, hk0⟩
                    rw [vcheck_eq]
                    repeat' split
                    all_goals first | rfl | (exfalso; omega)
                · have hg4r := hg4
                  have hf := hf.prune [65, 1]
                  replace hf : Fr 72 [(65, .val (.bool (decide ((-4194304) ≤ x) && decide (x ≤ 4194304)))), (1, .val (.pointer (some ⟨B1, 0, none⟩)))] a := hf
                  replace hf := hf.conv (env' := [(65, .val (.bool false)), (1, .val (.pointer (some ⟨B1, 0, none⟩)))]) (Ac (congrArg Value.bool hg4r) (Ao rfl))
                  try simp only [Bool.or_eq_true, Bool.and_eq_true, Bool.not_eq_true', Bool.not_eq_false', Bool.or_eq_false_iff, Bool.and_eq_false_iff, decide_eq_true_eq, decide_eq_false_iff_not, beq_iff_eq, bne_iff_ne, beq_eq_false_iff_ne, bne_eq_false_iff_eq, Bool.and_true, Bool.true_and, ne_eq] at hg4
                  refine sr0 hf hM [67, 65] [{ g := .off }, { g := .off }] (env' := [(67, .val (undef)), (65, .val (.bool false))]) (ob := [false = !true, false = !true]) (fun B => by as_aux_lemma => kernel_rfl) rfl (Ac rfl (Ao rfl)) ?_
                  clear hf; intro a hf
                  refine sr0 hf hM [3] [{ g := .off }, {}, {}] (env' := [(3, .val (.bool false))]) (ob := [false = !true]) (fun B => by as_aux_lemma => kernel_rfl) rfl (Ao rfl) ?_
                  clear hf; intro a hf
                  refine wpList_nil ?_
                  refine hK3 _ _ ?_
                  refine wp_seq_k (fun K50 hK50 => ?_)
                  refine wp_seq_k (fun K51 hK51 => ?_)
                  refine wp_region_lit ?_
                  refine sr0 hf hM [71] [{}, {}] (env' := [(71, .val (.bool true))]) (ob := []) (fun B => by as_aux_lemma => kernel_rfl) rfl An ?_
                  clear hf; intro a hf
                  refine wpList_nil ?_
                  refine hK51 _ _ ?_
                  refine sxcond hf (b := true) (by kernel_rfl) (fun _ => ?_) (fun h => by cases h)
                  refine wp_seq_k (fun K52 hK52 => ?_)
                  refine wp_region_lit ?_
                  refine sr0 hf hM [2] [{}] (env' := [(2, .val (.int .i64 1))]) (ob := []) (fun B => by as_aux_lemma => kernel_rfl) rfl An ?_
                  clear hf; intro a hf
                  refine wpList_nil ?_
                  refine hK52 _ _ ?_
                  refine wp_ret ?_
                  refine sxret (fn := Tryd.f34) hf hM [] (l := [.int .i64 1]) (M' := [⟨B1, 62, [.int .i64 k, .int .i64 x, .int .i64 y]⟩]) (d' := false) (ob := []) (by kernel_rfl) (fun B => ⟨B, by as_aux_lemma => kernel_rfl⟩) rfl An ?_
                  show (.int .i64 1 : Value) = .int .i64 (vcheck ⟨k, x, y⟩) ∧ Keep Nn w w10
                  refine ⟨congrArg _ ?_, hk0⟩
                  rw [vcheck_eq]
                  repeat' split
                  all_goals first | rfl | (exfalso; omega)
              · have hc17r := hc17
                try simp only [Bool.or_eq_true, Bool.and_eq_true, Bool.not_eq_true', Bool.not_eq_false', Bool.or_eq_false_iff, Bool.and_eq_false_iff, decide_eq_true_eq, decide_eq_false_iff_not, beq_iff_eq, bne_iff_ne, beq_eq_false_iff_ne, bne_eq_false_iff_eq, Bool.and_true, Bool.true_and, ne_eq] at hc17
                refine wp_seq_k (fun K53 hK53 => ?_)
                refine wp_region_lit ?_
                refine sr0 hf hM [57, 5, 1] [{}, {}] (env' := [(57, .val (.bool ((k : Int) == 7))), (5, .val (.int .i64 k)), (1, .val (.pointer (some ⟨B1, 0, none⟩)))]) (ob := []) (fun B => by as_aux_lemma => kernel_rfl) rfl An ?_
                clear hf; intro a hf
                refine wpList_nil ?_
                refine hK53 _ _ ?_
                refine sxcond hf (b := ((k : Int) == 7)) (by kernel_rfl) (fun hc21 => ?_) (fun hc21 => ?_)
                · have hc21r := hc21
                  try simp only [Bool.or_eq_true, Bool.and_eq_true, Bool.not_eq_true', Bool.not_eq_false', Bool.or_eq_false_iff, Bool.and_eq_false_iff, decide_eq_true_eq, decide_eq_false_iff_not, beq_iff_eq, bne_iff_ne, beq_eq_false_iff_ne, bne_eq_false_iff_eq, Bool.and_true, Bool.true_and, ne_eq] at hc21
                  refine wp_skip ?_
                  refine hK44 _ _ ?_
                  refine sxcond hf (b := ((k : Int) == 7)) (by kernel_rfl) (fun _ => ?_) (fun h => absurd h (by rw [hc21r]; simp))
                  refine wp_region_lit ?_
                  refine sr0 hf hM [63, 1] [{}, { os := [.ld 0 1] }] (env' := [(63, .val (.int .i64 x)), (1, .val (.pointer (some ⟨B1, 0, none⟩)))]) (ob := [Ad B1 1]) (fun B => by as_aux_lemma => kernel_rfl) rfl (Ao (ad _ _)) ?_
                  clear hf; intro a hf
                  refine sxcall hf rfl rfl rfl rfl (g := 72) (vs := [.int .i64 x, .int .i64 (-4194304), .int .i64 4194304]) (ob := []) (by as_aux_lemma => kernel_rfl) An enters72 (rin6 x (-4194304) 4194304 w1  ) ?_
                  clear hf; rintro _ w12 a ⟨rfl, hk⟩ hf
                  have hM := hM.keepNn hk
                  have hk0 := hk0.trans hk.nn
                  clear hk
                  refine sr0 hf hM [65, 1] [{}] (env' := [(65, .val (.bool (decide ((-4194304) ≤ x) && decide (x ≤ 4194304)))), (1, .val (.pointer (some ⟨B1, 0, none⟩)))]) (ob := []) (fun B => by as_aux_lemma => kernel_rfl) rfl An ?_
                  clear hf; intro a hf
                  rcases Bool.eq_false_or_eq_true (decide ((-4194304) ≤ x) && decide (x ≤ 4194304)) with hg5 | hg5
                  · have hg5r := hg5
                    have hf := hf.prune [65, 1]
                    replace hf : Fr 72 [(65, .val (.bool (decide ((-4194304) ≤ x) && decide (x ≤ 4194304)))), (1, .val (.pointer (some ⟨B1, 0, none⟩)))] a := hf
                    replace hf := hf.conv (env' := [(65, .val (.bool true)), (1, .val (.pointer (some ⟨B1, 0, none⟩)))]) (Ac (congrArg Value.bool hg5r) (Ao rfl))
                    try simp only [Bool.or_eq_true, Bool.and_eq_true, Bool.not_eq_true', Bool.not_eq_false', Bool.or_eq_false_iff, Bool.and_eq_false_iff, decide_eq_true_eq, decide_eq_false_iff_not, beq_iff_eq, bne_iff_ne, beq_eq_false_iff_ne, bne_eq_false_iff_eq, Bool.and_true, Bool.true_and, ne_eq] at hg5
                    refine sr0 hf hM [67, 65] [{}, { os := [.ld 0 2] }] (env' := [(67, .val (.int .i64 y)), (65, .val (.bool true))]) (ob := [true = true, true = true, Ad B1 2]) (fun B => by as_aux_lemma => kernel_rfl) rfl (Ac rfl (Ac rfl (Ao (ad _ _)))) ?_
                    clear hf; intro a hf
                    refine sxcallg hf rfl rfl rfl rfl rfl (g := 72) (vs := [.int .i64 y, .int .i64 (-4194304), .int .i64 4194304]) (ob := []) (by as_aux_lemma => kernel_rfl) An enters72 (rin6 y (-4194304) 4194304 w12  ) ?_
                    clear hf; rintro _ w13 a ⟨rfl, hk⟩ hf
                    have hM := hM.keepNn hk
                    have hk0 := hk0.trans hk.nn
                    clear hk
                    refine sr0 hf hM [3] [{}, {}] (env' := [(3, .val (.bool (decide ((-4194304) ≤ y) && decide (y ≤ 4194304))))]) (ob := []) (fun B => by as_aux_lemma => kernel_rfl) rfl An ?_
                    clear hf; intro a hf
                    refine wpList_nil ?_
                    refine hK3 _ _ ?_
                    refine wp_seq_k (fun K54 hK54 => ?_)
                    refine wp_seq_k (fun K55 hK55 => ?_)
                    refine wp_region_lit ?_
                    refine sr0 hf hM [71] [{}, {}] (env' := [(71, .val (.bool (!(decide ((-4194304) ≤ y) && decide (y ≤ 4194304)))))]) (ob := []) (fun B => by as_aux_lemma => kernel_rfl) rfl An ?_
                    clear hf; intro a hf
                    refine wpList_nil ?_
                    refine hK55 _ _ ?_
                    refine sxcond hf (b := !(decide ((-4194304) ≤ y) && decide (y ≤ 4194304))) (by kernel_rfl) (fun hc23 => ?_) (fun hc23 => ?_)
                    · have hc23r := hc23
                      try simp only [Bool.or_eq_true, Bool.and_eq_true, Bool.not_eq_true', Bool.not_eq_false', Bool.or_eq_false_iff, Bool.and_eq_false_iff, decide_eq_true_eq, decide_eq_false_iff_not, beq_iff_eq, bne_iff_ne, beq_eq_false_iff_ne, bne_eq_false_iff_eq, Bool.and_true, Bool.true_and, ne_eq] at hc23
                      refine wp_seq_k (fun K56 hK56 => ?_)
                      refine wp_region_lit ?_
                      refine sr0 hf hM [2] [{}] (env' := [(2, .val (.int .i64 1))]) (ob := []) (fun B => by as_aux_lemma => kernel_rfl) rfl An ?_
                      clear hf; intro a hf
                      refine wpList_nil ?_
                      refine hK56 _ _ ?_
                      refine wp_ret ?_
                      refine sxret (fn := Tryd.f34) hf hM [] (l := [.int .i64 1]) (M' := [⟨B1, 62, [.int .i64 k, .int .i64 x, .int .i64 y]⟩]) (d' := false) (ob := []) (by kernel_rfl) (fun B => ⟨B, by as_aux_lemma => kernel_rfl⟩) rfl An ?_
                      show (.int .i64 1 : Value) = .int .i64 (vcheck ⟨k, x, y⟩) ∧ Keep Nn w w13
                      refine ⟨congrArg _ ?_, hk0⟩
                      rw [vcheck_eq]
                      repeat' split
                      all_goals first | rfl | (exfalso; omega)
                    · have hc23r := hc23
                      try simp only [Bool.or_eq_true, Bool.and_eq_true, Bool.not_eq_true', Bool.not_eq_false', Bool.or_eq_false_iff, Bool.and_eq_false_iff, decide_eq_true_eq, decide_eq_false_iff_not, beq_iff_eq, bne_iff_ne, beq_eq_false_iff_ne, bne_eq_false_iff_eq, Bool.and_true, Bool.true_and, ne_eq] at hc23
                      refine wp_skip ?_
                      refine hK54 _ _ ?_
                      refine wp_seq_k (fun K57 hK57 => ?_)
                      refine wp_region_lit ?_
                      refine sr0 hf hM [2] [{}] (env' := [(2, .val (.int .i64 0))]) (ob := []) (fun B => by as_aux_lemma => kernel_rfl) rfl An ?_
                      clear hf; intro a hf
                      refine wpList_nil ?_
                      refine hK57 _ _ ?_
                      refine wp_ret ?_
                      refine sxret (fn := Tryd.f34) hf hM [] (l := [.int .i64 0]) (M' := [⟨B1, 62, [.int .i64 k, .int .i64 x, .int .i64 y]⟩]) (d' := false) (ob := []) (by kernel_rfl) (fun B => ⟨B, by as_aux_lemma => kernel_rfl⟩) rfl An ?_
                      show (.int .i64 0 : Value) = .int .i64 (vcheck ⟨k, x, y⟩) ∧ Keep Nn w w13
                      refine ⟨congrArg _ ?_, hk0⟩
                      rw [vcheck_eq]
                      repeat' split
                      all_goals first | rfl | (exfalso; omega)
                  · have hg5r := hg5
                    have hf := hf.prune [65, 1]
                    replace hf : Fr 72 [(65, .val (.bool (decide ((-4194304) ≤ x) && decide (x ≤ 4194304)))), (1, .val (.pointer (some ⟨B1, 0, none⟩)))] a := hf
                    replace hf := hf.conv (env' := [(65, .val (.bool false)), (1, .val (.pointer (some ⟨B1, 0, none⟩)))]) (Ac (congrArg Value.bool hg5r) (Ao rfl))
                    try simp only [Bool.or_eq_true, Bool.and_eq_true, Bool.not_eq_true', Bool.not_eq_false', Bool.or_eq_false_iff, Bool.and_eq_false_iff, decide_eq_true_eq, decide_eq_false_iff_not, beq_iff_eq, bne_iff_ne, beq_eq_false_iff_ne, bne_eq_false_iff_eq, Bool.and_true, Bool.true_and, ne_eq] at hg5
                    refine sr0 hf hM [67, 65] [{ g := .off }, { g := .off }] (env' := [(67, .val (undef)), (65, .val (.bool false))]) (ob := [false = !true, false = !true]) (fun B => by as_aux_lemma => kernel_rfl) rfl (Ac rfl (Ao rfl)) ?_
                    clear hf; intro a hf
                    refine sr0 hf hM [3] [{ g := .off }, {}, {}] (env' := [(3, .val (.bool false))]) (ob := [false = !true]) (fun B => by as_aux_lemma => kernel_rfl) rfl (Ao rfl) ?_
                    clear hf; intro a hf
                    refine wpList_nil ?_
                    refine hK3 _ _ ?_
                    refine wp_seq_k (fun K58 hK58 => ?_)
                    refine wp_seq_k (fun K59 hK59 => ?_)
                    refine wp_region_lit ?_
                    refine sr0 hf hM [71] [{}, {}] (env' := [(71, .val (.bool true))]) (ob := []) (fun B => by as_aux_lemma => kernel_rfl) rfl An ?_
                    clear hf; intro a hf
                    refine wpList_nil ?_
                    refine hK59 _ _ ?_
                    refine sxcond hf (b := true) (by kernel_rfl) (fun _ => ?_) (fun h => by cases h)
                    refine wp_seq_k (fun K60 hK60 => ?_)
                    refine wp_region_lit ?_
                    refine sr0 hf hM [2] [{}] (env' := [(2, .val (.int .i64 1))]) (ob := []) (fun B => by as_aux_lemma => kernel_rfl) rfl An ?_
                    clear hf; intro a hf
                    refine wpList_nil ?_
                    refine hK60 _ _ ?_
                    refine wp_ret ?_
                    refine sxret (fn := Tryd.f34) hf hM [] (l := [.int .i64 1]) (M' := [⟨B1, 62, [.int .i64 k, .int .i64 x, .int .i64 y]⟩]) (d' := false) (ob := []) (by kernel_rfl) (fun B => ⟨B, by as_aux_lemma => kernel_rfl⟩) rfl An ?_
                    show (.int .i64 1 : Value) = .int .i64 (vcheck ⟨k, x, y⟩) ∧ Keep Nn w w12
                    refine ⟨congrArg _ ?_, hk0⟩
                    rw [vcheck_eq]
                    repeat' split
                    all_goals first | rfl | (exfalso; omega)
                · have hc21r := hc21
                  try simp only [Bool.or_eq_true, Bool.and_eq_true, Bool.not_eq_true', Bool.not_eq_false', Bool.or_eq_false_iff, Bool.and_eq_false_iff, decide_eq_true_eq, decide_eq_false_iff_not, beq_iff_eq, bne_iff_ne, beq_eq_false_iff_ne, bne_eq_false_iff_eq, Bool.and_true, Bool.true_and, ne_eq] at hc21
                  refine wp_seq_k (fun K61 hK61 => ?_)
                  refine wp_region_lit ?_
                  refine sr0 hf hM [57, 5, 1] [{}, {}] (env' := [(57, .val (.bool ((k : Int) == 8))), (5, .val (.int .i64 k)), (1, .val (.pointer (some ⟨B1, 0, none⟩)))]) (ob := []) (fun B => by as_aux_lemma => kernel_rfl) rfl An ?_
                  clear hf; intro a hf
                  refine wpList_nil ?_
                  refine hK61 _ _ ?_
                  refine sxcond hf (b := ((k : Int) == 8)) (by kernel_rfl) (fun hc25 => ?_) (fun hc25 => ?_)
                  · have hc25r := hc25
                    try simp only [Bool.or_eq_true, Bool.and_eq_true, Bool.not_eq_true', Bool.not_eq_false', Bool.or_eq_false_iff, Bool.and_eq_false_iff, decide_eq_true_eq, decide_eq_false_iff_not, beq_iff_eq, bne_iff_ne, beq_eq_false_iff_ne, bne_eq_false_iff_eq, Bool.and_true, Bool.true_and, ne_eq] at hc25
                    refine wp_skip ?_
                    refine hK44 _ _ ?_
                    refine sxcond hf (b := ((k : Int) == 8)) (by kernel_rfl) (fun _ => ?_) (fun h => absurd h (by rw [hc25r]; simp))
                    refine wp_region_lit ?_
                    refine sr0 hf hM [63, 1] [{}, { os := [.ld 0 1] }] (env' := [(63, .val (.int .i64 x)), (1, .val (.pointer (some ⟨B1, 0, none⟩)))]) (ob := [Ad B1 1]) (fun B => by as_aux_lemma => kernel_rfl) rfl (Ao (ad _ _)) ?_
                    clear hf; intro a hf
                    refine sxcall hf rfl rfl rfl rfl (g := 72) (vs := [.int .i64 x, .int .i64 (-4194304), .int .i64 4194304]) (ob := []) (by as_aux_lemma => kernel_rfl) An enters72 (rin6 x (-4194304) 4194304 w1  ) ?_
                    clear hf; rintro _ w14 a ⟨rfl, hk⟩ hf
                    have hM := hM.keepNn hk
                    have hk0 := hk0.trans hk.nn
                    clear hk
                    refine sr0 hf hM [65, 1] [{}] (env' := [(65, .val (.bool (decide ((-4194304) ≤ x) && decide (x ≤ 4194304)))), (1, .val (.pointer (some ⟨B1, 0, none⟩)))]) (ob := []) (fun B => by as_aux_lemma => kernel_rfl) rfl An ?_
                    clear hf; intro a hf
                    rcases Bool.eq_false_or_eq_true (decide ((-4194304) ≤ x) && decide (x ≤ 4194304)) with hg6 | hg6
                    · have hg6r := hg6
                      have hf := hf.prune [65, 1]
                      replace hf : Fr 72 [(65, .val (.bool (decide ((-4194304) ≤ x) && decide (x ≤ 4194304)))), (1, .val (.pointer (some ⟨B1, 0, none⟩)))] a := hf
                      replace hf := hf.conv (env' := [(65, .val (.bool true)), (1, .val (.pointer (some ⟨B1, 0, none⟩)))]) (Ac (congrArg Value.bool hg6r) (Ao rfl))
                      try simp only [Bool.or_eq_true, Bool.and_eq_true, Bool.not_eq_true', Bool.not_eq_false', Bool.or_eq_false_iff, Bool.and_eq_false_iff, decide_eq_true_eq, decide_eq_false_iff_not, beq_iff_eq, bne_iff_ne, beq_eq_false_iff_ne, bne_eq_false_iff_eq, Bool.and_true, Bool.true_and, ne_eq] at hg6
                      refine sr0 hf hM [67, 65] [{}, { os := [.ld 0 2] }] (env' := [(67, .val (.int .i64 y)), (65, .val (.bool true))]) (ob := [true = true, true = true, Ad B1 2]) (fun B => by as_aux_lemma => kernel_rfl) rfl (Ac rfl (Ac rfl (Ao (ad _ _)))) ?_
                      clear hf; intro a hf
                      refine sxcallg hf rfl rfl rfl rfl rfl (g := 72) (vs := [.int .i64 y, .int .i64 (-4194304), .int .i64 4194304]) (ob := []) (by as_aux_lemma => kernel_rfl) An enters72 (rin6 y (-4194304) 4194304 w14  ) ?_
                      clear hf; rintro _ w15 a ⟨rfl, hk⟩ hf
                      have hM := hM.keepNn hk
                      have hk0 := hk0.trans hk.nn
                      clear hk
                      refine sr0 hf hM [3] [{}, {}] (env' := [(3, .val (.bool (decide ((-4194304) ≤ y) && decide (y ≤ 4194304))))]) (ob := []) (fun B => by as_aux_lemma => kernel_rfl) rfl An ?_
                      clear hf; intro a hf
                      refine wpList_nil ?_
                      refine hK3 _ _ ?_
                      refine wp_seq_k (fun K62 hK62 => ?_)
                      refine wp_seq_k (fun K63 hK63 => ?_)
                      refine wp_region_lit ?_
                      refine sr0 hf hM [71] [{}, {}] (env' := [(71, .val (.bool (!(decide ((-4194304) ≤ y) && decide (y ≤ 4194304)))))]) (ob := []) (fun B => by as_aux_lemma => kernel_rfl) rfl An ?_
                      clear hf; intro a hf
                      refine wpList_nil ?_
                      refine hK63 _ _ ?_
                      refine sxcond hf (b := !(decide ((-4194304) ≤ y) && decide (y ≤ 4194304))) (by kernel_rfl) (fun hc27 => ?_) (fun hc27 => ?_)
                      · have hc27r := hc27
                        try simp only [Bool.or_eq_true, Bool.and_eq_true, Bool.not_eq_true', Bool.not_eq_false', Bool.or_eq_false_iff, Bool.and_eq_false_iff, decide_eq_true_eq, decide_eq_false_iff_not, beq_iff_eq, bne_iff_ne, beq_eq_false_iff_ne, bne_eq_false_iff_eq, Bool.and_true, Bool.true_and, ne_eq] at hc27
                        refine wp_seq_k (fun K64 hK64 => ?_)
                        refine wp_region_lit ?_
                        refine sr0 hf hM [2] [{}] (env' := [(2, .val (.int .i64 1))]) (ob := []) (fun B => by as_aux_lemma => kernel_rfl) rfl An ?_
                        clear hf; intro a hf
                        refine wpList_nil ?_
                        refine hK64 _ _ ?_
                        refine wp_ret ?_
                        refine sxret (fn := Tryd.f34) hf hM [] (l := [.int .i64 1]) (M' := [⟨B1, 62, [.int .i64 k, .int .i64 x, .int .i64 y]⟩]) (d' := false) (ob := []) (by kernel_rfl) (fun B => ⟨B, by as_aux_lemma => kernel_rfl⟩) rfl An ?_
                        show (.int .i64 1 : Value) = .int .i64 (vcheck ⟨k, x, y⟩) ∧ Keep Nn w w15
                        refine ⟨congrArg _ ?_, hk0⟩
                        rw [vcheck_eq]
                        repeat' split
                        all_goals first | rfl | (exfalso; omega)
                      · have hc27r := hc27
                        try simp only [Bool.or_eq_true, Bool.and_eq_true, Bool.not_eq_true', Bool.not_eq_false', Bool.or_eq_false_iff, Bool.and_eq_false_iff, decide_eq_true_eq, decide_eq_false_iff_not, beq_iff_eq, bne_iff_ne, beq_eq_false_iff_ne, bne_eq_false_iff_eq, Bool.and_true, Bool.true_and, ne_eq] at hc27
                        refine wp_skip ?_
                        refine hK62 _ _ ?_
                        refine wp_seq_k (fun K65 hK65 => ?_)
                        refine wp_region_lit ?_
                        refine sr0 hf hM [2] [{}] (env' := [(2, .val (.int .i64 0))]) (ob := []) (fun B => by as_aux_lemma => kernel_rfl) rfl An ?_
                        clear hf; intro a hf
                        refine wpList_nil ?_
                        refine hK65 _ _ ?_
                        refine wp_ret ?_
                        refine sxret (fn := Tryd.f34) hf hM [] (l := [.int .i64 0]) (M' := [⟨B1, 62, [.int .i64 k, .int .i64 x, .int .i64 y]⟩]) (d' := false) (ob := []) (by kernel_rfl) (fun B => ⟨B, by as_aux_lemma => kernel_rfl⟩) rfl An ?_
                        show (.int .i64 0 : Value) = .int .i64 (vcheck ⟨k, x, y⟩) ∧ Keep Nn w w15
                        refine ⟨congrArg _ ?_, hk0⟩
                        rw [vcheck_eq]
                        repeat' split
                        all_goals first | rfl | (exfalso; omega)
                    · have hg6r := hg6
                      have hf := hf.prune [65, 1]
                      replace hf : Fr 72 [(65, .val (.bool (decide ((-4194304) ≤ x) && decide (x ≤ 4194304)))), (1, .val (.pointer (some ⟨B1, 0, none⟩)))] a := hf
                      replace hf := hf.conv (env' := [(65, .val (.bool false)), (1, .val (.pointer (some ⟨B1, 0, none⟩)))]) (Ac (congrArg Value.bool hg6r) (Ao rfl))
                      try simp only [Bool.or_eq_true, Bool.and_eq_true, Bool.not_eq_true', Bool.not_eq_false', Bool.or_eq_false_iff, Bool.and_eq_false_iff, decide_eq_true_eq, decide_eq_false_iff_not, beq_iff_eq, bne_iff_ne, beq_eq_false_iff_ne, bne_eq_false_iff_eq, Bool.and_true, Bool.true_and, ne_eq] at hg6
                      refine sr0 hf hM [67, 65] [{ g := .off }, { g := .off }] (env' := [(67, .val (undef)), (65, .val (.bool false))]) (ob := [false = !true, false = !true]) (fun B => by as_aux_lemma => kernel_rfl) rfl (Ac rfl (Ao rfl)) ?_
                      clear hf; intro a hf
                      refine sr0 hf hM [3] [{ g := .off }, {}, {}] (env' := [(3, .val (.bool false))]) (ob := [false = !true]) (fun B => by as_aux_lemma => kernel_rfl) rfl (Ao rfl) ?_
                      clear hf; intro a hf
                      refine wpList_nil ?_
                      refine hK3 _ _ ?_
                      refine wp_seq_k (fun K66 hK66 => ?_)
                      refine wp_seq_k (fun K67 hK67 => ?_)
                      refine wp_region_lit ?_
                      refine sr0 hf hM [71] [{}, {}] (env' := [(71, .val (.bool true))]) (ob := []) (fun B => by as_aux_lemma => kernel_rfl) rfl An ?_
                      clear hf; intro a hf
                      refine wpList_nil ?_
                      refine hK67 _ _ ?_
                      refine sxcond hf (b := true) (by kernel_rfl) (fun _ => ?_) (fun h => by cases h)
                      refine wp_seq_k (fun K68 hK68 => ?_)
                      refine wp_region_lit ?_
                      refine sr0 hf hM [2] [{}] (env' := [(2, .val (.int .i64 1))]) (ob := []) (fun B => by as_aux_lemma => kernel_rfl) rfl An ?_
                      clear hf; intro a hf
                      refine wpList_nil ?_
                      refine hK68 _ _ ?_
                      refine wp_ret ?_
                      refine sxret (fn := Tryd.f34) hf hM [] (l := [.int .i64 1]) (M' := [⟨B1, 62, [.int .i64 k, .int .i64 x, .int .i64 y]⟩]) (d' := false) (ob := []) (by kernel_rfl) (fun B => ⟨B, by as_aux_lemma => kernel_rfl⟩) rfl An ?_
                      show (.int .i64 1 : Value) = .int .i64 (vcheck ⟨k, x, y⟩) ∧ Keep Nn w w14
                      refine ⟨congrArg _ ?_, hk0⟩
                      rw [vcheck_eq]
                      repeat' split
                      all_goals first | rfl | (exfalso; omega)
                  · have hc25r := hc25
                    try simp only [Bool.or_eq_true, Bool.and_eq_true, Bool.not_eq_true', Bool.not_eq_false', Bool.or_eq_false_iff, Bool.and_eq_false_iff, decide_eq_true_eq, decide_eq_false_iff_not, beq_iff_eq, bne_iff_ne, beq_eq_false_iff_ne, bne_eq_false_iff_eq, Bool.and_true, Bool.true_and, ne_eq] at hc25
                    refine wp_region_lit ?_
                    refine sr0 hf hM [57, 1] [{}, {}] (env' := [(57, .val (.bool ((k : Int) == 9))), (1, .val (.pointer (some ⟨B1, 0, none⟩)))]) (ob := []) (fun B => by as_aux_lemma => kernel_rfl) rfl An ?_
                    clear hf; intro a hf
                    refine wpList_nil ?_
                    refine hK44 _ _ ?_
                    refine sxcond hf (b := ((k : Int) == 9)) (by kernel_rfl) (fun hc29 => ?_) (fun hc29 => ?_)
                    · have hc29r := hc29
                      try simp only [Bool.or_eq_true, Bool.and_eq_true, Bool.not_eq_true', Bool.not_eq_false', Bool.or_eq_false_iff, Bool.and_eq_false_iff, decide_eq_true_eq, decide_eq_false_iff_not, beq_iff_eq, bne_iff_ne, beq_eq_false_iff_ne, bne_eq_false_iff_eq, Bool.and_true, Bool.true_and, ne_eq] at hc29
                      refine wp_region_lit ?_
                      refine sr0 hf hM [63, 1] [{}, { os := [.ld 0 1] }] (env' := [(63, .val (.int .i64 x)), (1, .val (.pointer (some ⟨B1, 0, none⟩)))]) (ob := [Ad B1 1]) (fun B => by as_aux_lemma => kernel_rfl) rfl (Ao (ad _ _)) ?_
                      clear hf; intro a hf
                      refine sxcall hf rfl rfl rfl rfl (g := 72) (vs := [.int .i64 x, .int .i64 (-4194304), .int .i64 4194304]) (ob := []) (by as_aux_lemma => kernel_rfl) An enters72 (rin6 x (-4194304) 4194304 w1  ) ?_
                      clear hf; rintro _ w16 a ⟨rfl, hk⟩ hf
                      have hM := hM.keepNn hk
                      have hk0 := hk0.trans hk.nn
                      clear hk
                      refine sr0 hf hM [65, 1] [{}] (env' := [(65, .val (.bool (decide ((-4194304) ≤ x) && decide (x ≤ 4194304)))), (1, .val (.pointer (some ⟨B1, 0, none⟩)))]) (ob := []) (fun B => by as_aux_lemma => kernel_rfl) rfl An ?_
                      clear hf; intro a hf
                      rcases Bool.eq_false_or_eq_true (decide ((-4194304) ≤ x) && decide (x ≤ 4194304)) with hg7 | hg7
                      · have hg7r := hg7
                        have hf := hf.prune [65, 1]
                        replace hf : Fr 72 [(65, .val (.bool (decide ((-4194304) ≤ x) && decide (x ≤ 4194304)))), (1, .val (.pointer (some ⟨B1, 0, none⟩)))] a := hf
                        replace hf := hf.conv (env' := [(65, .val (.bool true)), (1, .val (.pointer (some ⟨B1, 0, none⟩)))]) (Ac (congrArg Value.bool hg7r) (Ao rfl))
                        try simp only [Bool.or_eq_true, Bool.and_eq_true, Bool.not_eq_true', Bool.not_eq_false', Bool.or_eq_false_iff, Bool.and_eq_false_iff, decide_eq_true_eq, decide_eq_false_iff_not, beq_iff_eq, bne_iff_ne, beq_eq_false_iff_ne, bne_eq_false_iff_eq, Bool.and_true, Bool.true_and, ne_eq] at hg7
                        refine sr0 hf hM [67, 65] [{}, { os := [.ld 0 2] }] (env' := [(67, .val (.int .i64 y)), (65, .val (.bool true))]) (ob := [true = true, true = true, Ad B1 2]) (fun B => by as_aux_lemma => kernel_rfl) rfl (Ac rfl (Ac rfl (Ao (ad _ _)))) ?_
                        clear hf; intro a hf
                        refine sxcallg hf rfl rfl rfl rfl rfl (g := 72) (vs := [.int .i64 y, .int .i64 (-4194304), .int .i64 4194304]) (ob := []) (by as_aux_lemma => kernel_rfl) An enters72 (rin6 y (-4194304) 4194304 w16  ) ?_
                        clear hf; rintro _ w17 a ⟨rfl, hk⟩ hf
                        have hM := hM.keepNn hk
                        have hk0 := hk0.trans hk.nn
                        clear hk
                        refine sr0 hf hM [3] [{}, {}] (env' := [(3, .val (.bool (decide ((-4194304) ≤ y) && decide (y ≤ 4194304))))]) (ob := []) (fun B => by as_aux_lemma => kernel_rfl) rfl An ?_
                        clear hf; intro a hf
                        refine wpList_nil ?_
                        refine hK3 _ _ ?_
                        refine wp_seq_k (fun K69 hK69 => ?_)
                        refine wp_seq_k (fun K70 hK70 => ?_)
                        refine wp_region_lit ?_
                        refine sr0 hf hM [71] [{}, {}] (env' := [(71, .val (.bool (!(decide ((-4194304) ≤ y) && decide (y ≤ 4194304)))))]) (ob := []) (fun B => by as_aux_lemma => kernel_rfl) rfl An ?_
                        clear hf; intro a hf
                        refine wpList_nil ?_
                        refine hK70 _ _ ?_
                        refine sxcond hf (b := !(decide ((-4194304) ≤ y) && decide (y ≤ 4194304))) (by kernel_rfl) (fun hc30 => ?_) (fun hc30 => ?_)
                        · have hc30r := hc30
                          try simp only [Bool.or_eq_true, Bool.and_eq_true, Bool.not_eq_true', Bool.not_eq_false', Bool.or_eq_false_iff, Bool.and_eq_false_iff, decide_eq_true_eq, decide_eq_false_iff_not, beq_iff_eq, bne_iff_ne, beq_eq_false_iff_ne, bne_eq_false_iff_eq, Bool.and_true, Bool.true_and, ne_eq] at hc30
                          refine wp_seq_k (fun K71 hK71 => ?_)
                          refine wp_region_lit ?_
                          refine sr0 hf hM [2] [{}] (env' := [(2, .val (.int .i64 1))]) (ob := []) (fun B => by as_aux_lemma => kernel_rfl) rfl An ?_
                          clear hf; intro a hf
                          refine wpList_nil ?_
                          refine hK71 _ _ ?_
                          refine wp_ret ?_
                          refine sxret (fn := Tryd.f34) hf hM [] (l := [.int .i64 1]) (M' := [⟨B1, 62, [.int .i64 k, .int .i64 x, .int .i64 y]⟩]) (d' := false) (ob := []) (by kernel_rfl) (fun B => ⟨B, by as_aux_lemma => kernel_rfl⟩) rfl An ?_
                          show (.int .i64 1 : Value) = .int .i64 (vcheck ⟨k, x, y⟩) ∧ Keep Nn w w17
                          refine ⟨congrArg _ ?_, hk0⟩
                          rw [vcheck_eq]
                          repeat' split
                          all_goals first | rfl | (exfalso; omega)
                        · have hc30r := hc30
                          try simp only [Bool.or_eq_true, Bool.and_eq_true, Bool.not_eq_true', Bool.not_eq_false', Bool.or_eq_false_iff, Bool.and_eq_false_iff, decide_eq_true_eq, decide_eq_false_iff_not, beq_iff_eq, bne_iff_ne, beq_eq_false_iff_ne, bne_eq_false_iff_eq, Bool.and_true, Bool.true_and, ne_eq] at hc30
                          refine wp_skip ?_
                          refine hK69 _ _ ?_
                          refine wp_seq_k (fun K72 hK72 => ?_)
                          refine wp_region_lit ?_
                          refine sr0 hf hM [2] [{}] (env' := [(2, .val (.int .i64 0))]) (ob := []) (fun B => by as_aux_lemma => kernel_rfl) rfl An ?_
                          clear hf; intro a hf
                          refine wpList_nil ?_
                          refine hK72 _ _ ?_
                          refine wp_ret ?_
                          refine sxret (fn := Tryd.f34) hf hM [] (l := [.int .i64 0]) (M' := [⟨B1, 62, [.int .i64 k, .int .i64 x, .int .i64 y]⟩]) (d' := false) (ob := []) (by kernel_rfl) (fun B => ⟨B, by as_aux_lemma => kernel_rfl⟩) rfl An ?_
                          show (.int .i64 0 : Value) = .int .i64 (vcheck ⟨k, x, y⟩) ∧ Keep Nn w w17
                          refine ⟨congrArg _ ?_, hk0⟩
                          rw [vcheck_eq]
                          repeat' split
                          all_goals first | rfl | (exfalso; omega)
                      · have hg7r := hg7
                        have hf := hf.prune [65, 1]
                        replace hf : Fr 72 [(65, .val (.bool (decide ((-4194304) ≤ x) && decide (x ≤ 4194304)))), (1, .val (.pointer (some ⟨B1, 0, none⟩)))] a := hf
                        replace hf := hf.conv (env' := [(65, .val (.bool false)), (1, .val (.pointer (some ⟨B1, 0, none⟩)))]) (Ac (congrArg Value.bool hg7r) (Ao rfl))
                        try simp only [Bool.or_eq_true, Bool.and_eq_true, Bool.not_eq_true', Bool.not_eq_false', Bool.or_eq_false_iff, Bool.and_eq_false_iff, decide_eq_true_eq, decide_eq_false_iff_not, beq_iff_eq, bne_iff_ne, beq_eq_false_iff_ne, bne_eq_false_iff_eq, Bool.and_true, Bool.true_and, ne_eq] at hg7
                        refine sr0 hf hM [67, 65] [{ g := .off }, { g := .off }] (env' := [(67, .val (undef)), (65, .val (.bool false))]) (ob := [false = !true, false = !true]) (fun B => by as_aux_lemma => kernel_rfl) rfl (Ac rfl (Ao rfl)) ?_
                        clear hf; intro a hf
                        refine sr0 hf hM [3] [{ g := .off }, {}, {}] (env' := [(3, .val (.bool false))]) (ob := [false = !true]) (fun B => by as_aux_lemma => kernel_rfl) rfl (Ao rfl) ?_
                        clear hf; intro a hf
                        refine wpList_nil ?_
                        refine hK3 _ _ ?_
                        refine wp_seq_k (fun K73 hK73 => ?_)
                        refine wp_seq_k (fun K74 hK74 => ?_)
                        refine wp_region_lit ?_
                        refine sr0 hf hM [71] [{}, {}] (env' := [(71, .val (.bool true))]) (ob := []) (fun B => by as_aux_lemma => kernel_rfl) rfl An ?_
                        clear hf; intro a hf
                        refine wpList_nil ?_
                        refine hK74 _ _ ?_
                        refine sxcond hf (b := true) (by kernel_rfl) (fun _ => ?_) (fun h => by cases h)
                        refine wp_seq_k (fun K75 hK75 => ?_)
                        refine wp_region_lit ?_
                        refine sr0 hf hM [2] [{}] (env' := [(2, .val (.int .i64 1))]) (ob := []) (fun B => by as_aux_lemma => kernel_rfl) rfl An ?_
                        clear hf; intro a hf
                        refine wpList_nil ?_
                        refine hK75 _ _ ?_
                        refine wp_ret ?_
                        refine sxret (fn := Tryd.f34) hf hM [] (l := [.int .i64 1]) (M' := [⟨B1, 62, [.int .i64 k, .int .i64 x, .int .i64 y]⟩]) (d' := false) (ob := []) (by kernel_rfl) (fun B => ⟨B, by as_aux_lemma => kernel_rfl⟩) rfl An ?_
                        show (.int .i64 1 : Value) = .int .i64 (vcheck ⟨k, x, y⟩) ∧ Keep Nn w w16
                        refine ⟨congrArg _ ?_, hk0⟩
                        rw [vcheck_eq]
                        repeat' split
                        all_goals first | rfl | (exfalso; omega)
                    · have hc29r := hc29
                      try simp only [Bool.or_eq_true, Bool.and_eq_true, Bool.not_eq_true', Bool.not_eq_false', Bool.or_eq_false_iff, Bool.and_eq_false_iff, decide_eq_true_eq, decide_eq_false_iff_not, beq_iff_eq, bne_iff_ne, beq_eq_false_iff_ne, bne_eq_false_iff_eq, Bool.and_true, Bool.true_and, ne_eq] at hc29
                      refine wp_seq_k (fun K76 hK76 => ?_)
                      refine wp_region_lit ?_
                      refine sr0 hf hM [2] [{}] (env' := [(2, .val (.int .i64 5))]) (ob := []) (fun B => by as_aux_lemma => kernel_rfl) rfl An ?_
                      clear hf; intro a hf
                      refine wpList_nil ?_
                      refine hK76 _ _ ?_
                      refine wp_ret ?_
                      refine sxret (fn := Tryd.f34) hf hM [] (l := [.int .i64 5]) (M' := [⟨B1, 62, [.int .i64 k, .int .i64 x, .int .i64 y]⟩]) (d' := false) (ob := []) (by kernel_rfl) (fun B => ⟨B, by as_aux_lemma => kernel_rfl⟩) rfl An ?_
                      show (.int .i64 5 : Value) = .int .i64 (vcheck ⟨k, x, y⟩) ∧ Keep Nn w w1
                      refine ⟨congrArg _ ?_, hk0⟩
                      rw [vcheck_eq]
                      repeat' split
                      all_goals first | rfl | (exfalso; omega)

set_option maxRecDepth 10000 in
set_option maxHeartbeats 4000000 in
theorem isnan (n : Int) (w : World) :
    Calls Tryd.prog 107 #[.int .i64 n] w (Ret fun v w' => v = .bool false ∧ Keep Nn w w') := by
  refine sxenter (n := 6) (args := [.int .i64 n]) Tryd.func107 rfl rfl rfl fun a hf => ?_
  replace hf : Fr 6 [(0, .val (.int .i64 n))] a := hf
  have hM : MemOk [] w := MemOk.nil w
  have hk0 : Keep Nn w w := Keep.refl _ _
  refine wp_seq_k (fun K1 hK1 => ?_)
  refine wp_region_lit ?_
  refine sr0 hf hM [0] [{}] (env' := [(0, .val (.int .i64 n))]) (ob := []) (fun B => by as_aux_lemma => kernel_rfl) rfl An ?_
  clear hf; intro a hf
  refine wpList_nil ?_
  refine hK1 _ _ ?_
  refine wp_seq_k (fun K2 hK2 => ?_)
  refine wp_region_lit ?_
  refine sr0 hf hM [2] [{}, {}, { hint := some (.bool false) }, {}] (env' := [(2, .val (.bool false))]) (ob := [(.bool ((n : Int) != n) : Value) = (.bool false : Value)]) (fun B => by as_aux_lemma => kernel_rfl) rfl (Ao (by simp)) ?_
  clear hf; intro a hf
  refine wpList_nil ?_
  refine hK2 _ _ ?_
  refine wp_ret ?_
  refine sxret (fn := Tryd.f107) hf hM [] (l := [.bool false]) (M' := []) (d' := false) (ob := []) (by kernel_rfl) (fun B => ⟨B, by as_aux_lemma => kernel_rfl⟩) rfl An ?_
  show (.bool false : Value) = .bool false ∧ Keep Nn w w
  exact ⟨rfl, hk0⟩

def cmpI (a b : Int) : Int := if a < b then -1 else if b < a then 1 else 0

set_option maxRecDepth 10000 in
set_option maxHeartbeats 4000000 in
theorem compare_int (x y : Int) (w : World) :
    Calls Tryd.prog 93 #[.int .i64 x, .int .i64 y] w (Ret fun v w' => v = .int .i64 (cmpI x y) ∧ Keep Nn w w') := by
  refine sxenter (n := 20) (args := [.int .i64 x, .int .i64 y]) Tryd.func93 rfl rfl rfl fun a hf => ?_
  replace hf : Fr 20 [(0, .val (.int .i64 x)), (1, .val (.int .i64 y))] a := hf
  have hM : MemOk [] w := MemOk.nil w
  have hk0 : Keep Nn w w := Keep.refl _ _
  refine wp_seq_k (fun K1 hK1 => ?_)
  refine wp_region_lit ?_
  refine sr0 hf hM [0, 1] [{}] (env' := [(0, .val (.int .i64 x)), (1, .val (.int .i64 y))]) (ob := []) (fun B => by as_aux_lemma => kernel_rfl) rfl An ?_
  clear hf; intro a hf
  refine wpList_nil ?_
  refine hK1 _ _ ?_
  refine wp_seq_k (fun K2 hK2 => ?_)
  refine wp_region_lit ?_
  refine sr0 hf hM [7, 0, 1] [{}] (env' := [(7, .val (.int .i64 x)), (0, .val (.int .i64 x)), (1, .val (.int .i64 y))]) (ob := []) (fun B => by as_aux_lemma => kernel_rfl) rfl An ?_
  clear hf; intro a hf
  refine sxcall hf rfl rfl rfl rfl (g := 107) (vs := [.int .i64 x]) (ob := []) (by as_aux_lemma => kernel_rfl) An enters107 (isnan x w  ) ?_
  clear hf; rintro _ w1 a ⟨rfl, hk⟩ hf
  have hM := hM.keepNn hk
  have hk0 := hk0.trans hk.nn
  clear hk
  refine sr0 hf hM [5, 0, 1] [{}] (env' := [(5, .val (.bool false)), (0, .val (.int .i64 x)), (1, .val (.int .i64 y))]) (ob := []) (fun B => by as_aux_lemma => kernel_rfl) rfl An ?_
  clear hf; intro a hf
  refine wpList_nil ?_
  refine hK2 _ _ ?_
  refine wp_seq_k (fun K3 hK3 => ?_)
  refine wp_region_lit ?_
  refine sr0 hf hM [9, 5, 0, 1] [{}] (env' := [(9, .val (.int .i64 y)), (5, .val (.bool false)), (0, .val (.int .i64 x)), (1, .val (.int .i64 y))]) (ob := []) (fun B => by as_aux_lemma => kernel_rfl) rfl An ?_
  clear hf; intro a hf
  refine sxcall hf rfl rfl rfl rfl (g := 107) (vs := [.int .i64 y]) (ob := []) (by as_aux_lemma => kernel_rfl) An enters107 (isnan y w1  ) ?_
  clear hf; rintro _ w2 a ⟨rfl, hk⟩ hf
  have hM := hM.keepNn hk
  have hk0 := hk0.trans hk.nn
  clear hk
  refine sr0 hf hM [6, 5, 0, 1] [{}] (env' := [(6, .val (.bool false)), (5, .val (.bool false)), (0, .val (.int .i64 x)), (1, .val (.int .i64 y))]) (ob := []) (fun B => by as_aux_lemma => kernel_rfl) rfl An ?_
  clear hf; intro a hf
  refine wpList_nil ?_
  refine hK3 _ _ ?_
  refine wp_seq_k (fun K4 hK4 => ?_)
  refine wp_seq_k (fun K5 hK5 => ?_)
  refine wp_region_lit ?_
  refine sr0 hf hM [11, 6, 0, 1] [{}] (env' := [(11, .val (.bool false)), (6, .val (.bool false)), (0, .val (.int .i64 x)), (1, .val (.int .i64 y))]) (ob := []) (fun B => by as_aux_lemma => kernel_rfl) rfl An ?_
  clear hf; intro a hf
  refine wpList_nil ?_
  refine hK5 _ _ ?_
  refine sxcond hf (b := false) (by kernel_rfl) (fun h => by cases h) (fun _ => ?_)
  refine wp_skip ?_
  refine hK4 _ _ ?_
  refine wp_seq_k (fun K6 hK6 => ?_)
  refine wp_seq_k (fun K7 hK7 => ?_)
  refine wp_region_lit ?_
  refine sr0 hf hM [13, 0, 1] [{}] (env' := [(13, .val (.bool false)), (0, .val (.int .i64 x)), (1, .val (.int .i64 y))]) (ob := []) (fun B => by as_aux_lemma => kernel_rfl) rfl An ?_
  clear hf; intro a hf
  refine wpList_nil ?_
  refine hK7 _ _ ?_
  refine sxcond hf (b := false) (by kernel_rfl) (fun h => by cases h) (fun _ => ?_)
  refine wp_skip ?_
  refine hK6 _ _ ?_
  refine wp_seq_k (fun K8 hK8 => ?_)
  refine wp_seq_k (fun K9 hK9 => ?_)
  refine wp_region_lit ?_
  refine sr0 hf hM [16, 0, 1] [{}, {}, {}] (env' := [(16, .val (.bool (decide ((x : Int) < y)))), (0, .val (.int .i64 x)), (1, .val (.int .i64 y))]) (ob := []) (fun B => by as_aux_lemma => kernel_rfl) rfl An ?_
  clear hf; intro a hf
  refine wpList_nil ?_
  refine hK9 _ _ ?_
  refine sxcond hf (b := (decide ((x : Int) < y))) (by kernel_rfl) (fun hc3 => ?_) (fun hc3 => ?_)
  · have hc3r := hc3
    try simp only [Bool.or_eq_true, Bool.and_eq_true, Bool.not_eq_true', Bool.not_eq_false', Bool.or_eq_false_iff, Bool.and_eq_false_iff, decide_eq_true_eq, decide_eq_false_iff_not, beq_iff_eq, bne_iff_ne, beq_eq_false_iff_ne, bne_eq_false_iff_eq, Bool.and_true, Bool.true_and, ne_eq] at hc3
    refine wp_seq_k (fun K10 hK10 => ?_)
    refine wp_region_lit ?_
    refine sr0 hf hM [4] [{}] (env' := [(4, .val (.int .i64 (-1)))]) (ob := []) (fun B => by as_aux_lemma => kernel_rfl) rfl An ?_
    clear hf; intro a hf
    refine wpList_nil ?_
    refine hK10 _ _ ?_
    refine wp_ret ?_
    refine sxret (fn := Tryd.f93) hf hM [] (l := [.int .i64 (-1)]) (M' := []) (d' := false) (ob := []) (by kernel_rfl) (fun B => ⟨B, by as_aux_lemma => kernel_rfl⟩) rfl An ?_
    show (.int .i64 (-1) : Value) = .int .i64 (cmpI x y) ∧ Keep Nn w w2
    refine ⟨congrArg _ ?_, hk0⟩
    unfold cmpI
    repeat' split
    all_goals first | rfl | omega
  · have hc3r := hc3
    try simp only [Bool.or_eq_true, Bool.and_eq_true, Bool.not_eq_true', Bool.not_eq_false', Bool.or_eq_false_iff, Bool.and_eq_false_iff, decide_eq_true_eq, decide_eq_false_iff_not, beq_iff_eq, bne_iff_ne, beq_eq_false_iff_ne, bne_eq_false_iff_eq, Bool.and_true, Bool.true_and, ne_eq] at hc3
    refine wp_skip ?_
    refine hK8 _ _ ?_
    refine wp_seq_k (fun K11 hK11 => ?_)
    refine wp_seq_k (fun K12 hK12 => ?_)
    refine wp_region_lit ?_
    refine sr0 hf hM [19] [{}, {}, {}] (env' := [(19, .val (.bool (decide ((x : Int) > y))))]) (ob := []) (fun B => by as_aux_lemma => kernel_rfl) rfl An ?_
    clear hf; intro a hf
    refine wpList_nil ?_
    refine hK12 _ _ ?_
    refine sxcond hf (b := (decide ((x : Int) > y))) (by kernel_rfl) (fun hc4 => ?_) (fun hc4 => ?_)
    · have hc4r := hc4
      try simp only [Bool.or_eq_true, Bool.and_eq_true, Bool.not_eq_true', Bool.not_eq_false', Bool.or_eq_false_iff, Bool.and_eq_false_iff, decide_eq_true_eq, decide_eq_false_iff_not, beq_iff_eq, bne_iff_ne, beq_eq_false_iff_ne, bne_eq_false_iff_eq, Bool.and_true, Bool.true_and, ne_eq] at hc4
      refine wp_seq_k (fun K13 hK13 => ?_)
      refine wp_region_lit ?_
      refine sr0 hf hM [4] [{}] (env' := [(4, .val (.int .i64 1))]) (ob := []) (fun B => by as_aux_lemma => kernel_rfl) rfl An ?_
      clear hf; intro a hf
      refine wpList_nil ?_
      refine hK13 _ _ ?_
      refine wp_ret ?_
      refine sxret (fn := Tryd.f93) hf hM [] (l := [.int .i64 1]) (M' := []) (d' := false) (ob := []) (by kernel_rfl) (fun B => ⟨B, by as_aux_lemma => kernel_rfl⟩) rfl An ?_
      show (.int .i64 1 : Value) = .int .i64 (cmpI x y) ∧ Keep Nn w w2
      refine ⟨congrArg _ ?_, hk0⟩
      unfold cmpI
      repeat' split
      all_goals first | rfl | omega
    · have hc4r := hc4
      try simp only [Bool.or_eq_true, Bool.and_eq_true, Bool.not_eq_true', Bool.not_eq_false', Bool.or_eq_false_iff, Bool.and_eq_false_iff, decide_eq_true_eq, decide_eq_false_iff_not, beq_iff_eq, bne_iff_ne, beq_eq_false_iff_ne, bne_eq_false_iff_eq, Bool.and_true, Bool.true_and, ne_eq] at hc4
      refine wp_skip ?_
      refine hK11 _ _ ?_
      refine wp_seq_k (fun K14 hK14 => ?_)
      refine wp_region_lit ?_
      refine sr0 hf hM [4] [{}] (env' := [(4, .val (.int .i64 0))]) (ob := []) (fun B => by as_aux_lemma => kernel_rfl) rfl An ?_
      clear hf; intro a hf
      refine wpList_nil ?_
      refine hK14 _ _ ?_
      refine wp_ret ?_
      refine sxret (fn := Tryd.f93) hf hM [] (l := [.int .i64 0]) (M' := []) (d' := false) (ob := []) (by kernel_rfl) (fun B => ⟨B, by as_aux_lemma => kernel_rfl⟩) rfl An ?_
      show (.int .i64 0 : Value) = .int .i64 (cmpI x y) ∧ Keep Nn w w2
      refine ⟨congrArg _ ?_, hk0⟩
      unfold cmpI
      repeat' split
      all_goals first | rfl | omega

set_option maxRecDepth 10000 in
set_option maxHeartbeats 4000000 in
theorem by_kind (k x y : Int) (kq xq yq : Int) (w : World) :
    Calls Tryd.prog 74 #[.agg #[.int .i64 k, .int .i64 x, .int .i64 y], .agg #[.int .i64 kq, .int .i64 xq, .int .i64 yq]] w (Ret fun v w' => v = .int .i64 (cmpI k kq) ∧ Keep Nn w w') := by
  refine sxenter (n := 10) (args := [.agg #[.int .i64 k, .int .i64 x, .int .i64 y], .agg #[.int .i64 kq, .int .i64 xq, .int .i64 yq]]) Tryd.func74 rfl rfl rfl fun a hf => ?_
  replace hf : Fr 10 [(0, .val (.agg #[.int .i64 k, .int .i64 x, .int .i64 y])), (1, .val (.agg #[.int .i64 kq, .int .i64 xq, .int .i64 yq]))] a := hf
  have hM : MemOk [] w := MemOk.nil w
  have hk0 : Keep Nn w w := Keep.refl _ _
  refine wp_seq_k (fun K1 hK1 => ?_)
  refine wp_region_lit ?_
  refine sr hf hM [3, 2] [{ os := [.nw] }, { os := [.nw] }, {}] (env' := fun B1 => [(3, .val (.pointer (some ⟨B1 + 1, 0, none⟩))), (2, .val (.pointer (some ⟨B1, 0, none⟩)))]) (M' := fun B1 => [⟨B1, 62, [.int .i64 k, .int .i64 x, .int .i64 y]⟩, ⟨B1 + 1, 62, [.int .i64 kq, .int .i64 xq, .int .i64 yq]⟩]) (ob := fun B1 => []) (fun B => by as_aux_lemma => kernel_rfl) (fun B1 => An) ?_
  clear hf hM; intro a w1 B1 hf hM hB hk
  have hbB1 : w.heap.size ≤ B1 := by have := hk0.size; omega
  have hk0 := hk0.then hk (by intro i _ h; cases h)
  clear hk hB
  refine wpList_nil ?_
  refine hK1 _ _ ?_
  refine wp_seq_k (fun K2 hK2 => ?_)
  refine wp_region_lit ?_
  refine sr0 hf hM [8, 6] [{}, { os := [.ld 0 0] }, {}, { os := [.ld 1 0] }] (env' := [(8, .val (.int .i64 kq)), (6, .val (.int .i64 k))]) (ob := [Ad B1 0, Ad (B1 + 1) 0]) (fun B => by as_aux_lemma => kernel_rfl) rfl (Ac (ad _ _) (Ao (ad _ _))) ?_
  clear hf; intro a hf
  refine sxcall hf rfl rfl rfl rfl (g := 93) (vs := [.int .i64 k, .int .i64 kq]) (ob := []) (by as_aux_lemma => kernel_rfl) An enters93 (compare_int k kq w1  ) ?_
  clear hf; rintro _ w2 a ⟨rfl, hk⟩ hf
  have hM := hM.keepNn hk
  have hk0 := hk0.trans hk.nn
  clear hk
  refine sr0 hf hM [4] [{}] (env' := [(4, .val (.int .i64 (cmpI k kq)))]) (ob := []) (fun B => by as_aux_lemma => kernel_rfl) rfl An ?_
  clear hf; intro a hf
  refine wpList_nil ?_
  refine hK2 _ _ ?_
  refine wp_ret ?_
  refine sxret (fn := Tryd.f74) hf hM [] (l := [.int .i64 (cmpI k kq)]) (M' := [⟨B1, 62, [.int .i64 k, .int .i64 x, .int .i64 y]⟩, ⟨B1 + 1, 62, [.int .i64 kq, .int .i64 xq, .int .i64 yq]⟩]) (d' := false) (ob := []) (by kernel_rfl) (fun B => ⟨B, by as_aux_lemma => kernel_rfl⟩) rfl An ?_
  show (.int .i64 (cmpI k kq) : Value) = .int .i64 (cmpI k kq) ∧ Keep Nn w w2
  exact ⟨rfl, hk0⟩
end Go.Proofs.YtifcgjnknikjkaaDoor
