/- layer 1 -/
import Derived.Test.YtifcgjnknikjkaaDoorA0
namespace Go.Proofs.YtifcgjnknikjkaaDoor
open Go.Px
set_option linter.unusedVariables false
set_option linter.unusedSimpArgs false
theorem enters87 : enters Tryd.prog 87 := ⟨_, Tryd.func87, by kernel_rfl, rfl⟩
theorem enters88 : enters Tryd.prog 88 := ⟨_, Tryd.func88, by kernel_rfl, rfl⟩
theorem enters89 : enters Tryd.prog 89 := ⟨_, Tryd.func89, by kernel_rfl, rfl⟩
theorem enters90 : enters Tryd.prog 90 := ⟨_, Tryd.func90, by kernel_rfl, rfl⟩
theorem enters96 : enters Tryd.prog 96 := ⟨_, Tryd.func96, by kernel_rfl, rfl⟩

set_option maxRecDepth 10000 in
set_option maxHeartbeats 4000000 in
theorem within_any (n m : Int) (w : World) (hm : 0 ≤ m ∧ m ≤ 4611686018427387904) :
    Calls Tryd.prog 90 #[.int .i64 n, .int .i64 m] w (Ret fun v w' => v = .bool (within n m) ∧ Keep Nn w w') := by
  refine sxenter (n := 14) (args := [.int .i64 n, .int .i64 m]) Tryd.func90 rfl rfl rfl fun a hf => ?_
  replace hf : Fr 14 [(0, .val (.int .i64 n)), (1, .val (.int .i64 m))] a := hf
  have hM : MemOk [] w := MemOk.nil w
  have hk0 : Keep Nn w w := Keep.refl _ _
  refine wp_seq_k (fun K1 hK1 => ?_)
  refine wp_region_lit ?_
  refine sr0 hf hM [0, 1] [{}] (env' := [(0, .val (.int .i64 n)), (1, .val (.int .i64 m))]) (ob := []) (fun B => by as_aux_lemma => kernel_rfl) rfl An ?_
  clear hf; intro a hf
  refine wpList_nil ?_
  refine hK1 _ _ ?_
  refine wp_seq_k (fun K2 hK2 => ?_)
  refine wp_region_lit ?_
  refine sr0 hf hM [4] [{}, {}, { hint := some (.int .i64 (0 - m)) }, {}, {}, { g := .sym }, { g := .sym }, { g := .sym }, { hint := some (.bool ((decide ((n : Int) ≥ (0 - m))) && (decide ((n : Int) ≤ m)))) }, {}] (env' := [(4, .val (.bool ((decide ((n : Int) ≥ (0 - m))) && (decide ((n : Int) ≤ m)))))]) (ob := [(.int .i64 (IntKind.i64.wrap (0 - m)) : Value) = (.int .i64 (0 - m) : Value), ((decide ((n : Int) ≥ (0 - m))) = true → (decide ((n : Int) ≥ (0 - m))) = (decide ((n : Int) ≥ (0 - m)))), ((decide ((n : Int) ≥ (0 - m))) = true → (decide ((n : Int) ≥ (0 - m))) = (decide ((n : Int) ≥ (0 - m)))), ((decide ((n : Int) ≥ (0 - m))) = true → (decide ((n : Int) ≥ (0 - m))) = (decide ((n : Int) ≥ (0 - m)))), (bif (decide ((n : Int) ≥ (0 - m))) then (.bool (decide ((n : Int) ≤ m)) : Value) else .bool false) = .bool ((decide ((n : Int) ≥ (0 - m))) && (decide ((n : Int) ≤ m)))]) (fun B => by as_aux_lemma => kernel_rfl) rfl (Ac (wr (by omega)) (Ac (fun hgd => rfl) (Ac (fun hgd => rfl) (Ac (fun _ => rfl) (Ao (pick_and _ _)))))) ?_
  clear hf; intro a hf
  refine wpList_nil ?_
  refine hK2 _ _ ?_
  refine wp_ret ?_
  refine sxret (fn := Tryd.f90) hf hM [] (l := [.bool ((decide ((n : Int) ≥ (0 - m))) && (decide ((n : Int) ≤ m)))]) (M' := []) (d' := false) (ob := []) (by kernel_rfl) (fun B => ⟨B, by as_aux_lemma => kernel_rfl⟩) rfl An ?_
  show (.bool ((decide ((n : Int) ≥ (0 - m))) && (decide ((n : Int) ≤ m))) : Value) = .bool (within n m) ∧ Keep Nn w w
  refine ⟨congrArg Value.bool ?_, hk0⟩
  rw [Bool.eq_iff_iff]
  simp only [within, Bool.or_eq_true, Bool.and_eq_true, Bool.not_eq_true', Bool.not_eq_false', Bool.or_eq_false_iff, Bool.and_eq_false_iff, decide_eq_true_eq, decide_eq_false_iff_not, beq_iff_eq, Bool.false_eq_true, Bool.true_eq_false, false_iff, true_iff, iff_true, iff_false, not_true, not_false_iff, true_and, and_true, false_and, and_false, ge_iff_le, gt_iff_lt] at *
  try omega

set_option maxRecDepth 10000 in
set_option maxHeartbeats 4000000 in
theorem reach_any (x y : Int) (w : World) :
    Calls Tryd.prog 96 #[.agg #[.int .i64 x, .int .i64 y]] w (Ret fun v w' => v = .bool (reach x y) ∧ Keep Nn w w') := by
  refine sxenter (n := 11) (args := [.agg #[.int .i64 x, .int .i64 y]]) Tryd.func96 rfl rfl rfl fun a hf => ?_
  replace hf : Fr 11 [(0, .val (.agg #[.int .i64 x, .int .i64 y]))] a := hf
  have hM : MemOk [] w := MemOk.nil w
  have hk0 : Keep Nn w w := Keep.refl _ _
  refine wp_seq_k (fun K1 hK1 => ?_)
  refine wp_region_lit ?_
  refine sr hf hM [1] [{ os := [.nw] }, {}] (env' := fun B1 => [(1, .val (.pointer (some ⟨B1, 0, none⟩)))]) (M' := fun B1 => [⟨B1, 114, [.int .i64 x, .int .i64 y]⟩]) (ob := fun B1 => []) (fun B => by as_aux_lemma => kernel_rfl) (fun B1 => An) ?_
  clear hf hM; intro a w1 B1 hf hM hB hk
  have hbB1 : w.heap.size ≤ B1 := by have := hk0.size; omega
  have hk0 := hk0.then hk (by intro i _ h; cases h)
  clear hk hB
  refine wpList_nil ?_
  refine hK1 _ _ ?_
  refine wp_seq_k (fun K2 hK2 => ?_)
  refine wp_region_lit ?_
  refine sr0 hf hM [4, 1] [{}, { os := [.ld 0 0] }] (env' := [(4, .val (.int .i64 x)), (1, .val (.pointer (some ⟨B1, 0, none⟩)))]) (ob := [Ad B1 0]) (fun B => by as_aux_lemma => kernel_rfl) rfl (Ao (ad _ _)) ?_
  clear hf; intro a hf
  refine sxcall hf rfl rfl rfl rfl (g := 90) (vs := [.int .i64 x, .int .i64 4194304]) (ob := []) (by as_aux_lemma => kernel_rfl) An enters90 (within_any x 4194304 w1  (by omega)) ?_
  clear hf; rintro _ w2 a ⟨rfl, hk⟩ hf
  have hM := hM.keepNn hk
  have hk0 := hk0.trans hk.nn
  clear hk
  refine sr0 hf hM [6, 1] [{}] (env' := [(6, .val (.bool (within x 4194304))), (1, .val (.pointer (some ⟨B1, 0, none⟩)))]) (ob := []) (fun B => by as_aux_lemma => kernel_rfl) rfl An ?_
  clear hf; intro a hf
  rcases Bool.eq_false_or_eq_true (within x 4194304) with hg1 | hg1
  · have hg1r := hg1
    have hf := hf.prune [6, 1]
    replace hf : Fr 11 [(6, .val (.bool (within x 4194304))), (1, .val (.pointer (some ⟨B1, 0, none⟩)))] a := hf
    replace hf := hf.conv (env' := [(6, .val (.bool true)), (1, .val (.pointer (some ⟨B1, 0, none⟩)))]) (Ac (congrArg Value.bool hg1r) (Ao rfl))
    try simp only [Bool.or_eq_true, Bool.and_eq_true, Bool.not_eq_true', Bool.not_eq_false', Bool.or_eq_false_iff, Bool.and_eq_false_iff, decide_eq_true_eq, decide_eq_false_iff_not, beq_iff_eq, bne_iff_ne, beq_eq_false_iff_ne, bne_eq_false_iff_eq, Bool.and_true, Bool.true_and, ne_eq] at hg1
    refine sr0 hf hM [8, 6] [{}, { os := [.ld 0 1] }] (env' := [(8, .val (.int .i64 y)), (6, .val (.bool true))]) (ob := [true = true, true = true, Ad B1 1]) (fun B => by as_aux_lemma => kernel_rfl) rfl (Ac rfl (Ac rfl (Ao (ad _ _)))) ?_
    clear hf; intro a hf
    refine sxcallg hf rfl rfl rfl rfl rfl (g := 90) (vs := [.int .i64 y, .int .i64 4194304]) (ob := []) (by as_aux_lemma => kernel_rfl) An enters90 (within_any y 4194304 w2  (by omega)) ?_
    clear hf; rintro _ w3 a ⟨rfl, hk⟩ hf
    have hM := hM.keepNn hk
    have hk0 := hk0.trans hk.nn
    clear hk
    refine sr0 hf hM [2] [{}, {}] (env' := [(2, .val (.bool (within y 4194304)))]) (ob := []) (fun B => by as_aux_lemma => kernel_rfl) rfl An ?_
    clear hf; intro a hf
    refine wpList_nil ?_
    refine hK2 _ _ ?_
    refine wp_ret ?_
    refine sxret (fn := Tryd.f96) hf hM [] (l := [.bool (within y 4194304)]) (M' := [⟨B1, 114, [.int .i64 x, .int .i64 y]⟩]) (d' := false) (ob := []) (by kernel_rfl) (fun B => ⟨B, by as_aux_lemma => kernel_rfl⟩) rfl An ?_
    show (.bool (within y 4194304) : Value) = .bool (reach x y) ∧ Keep Nn w w3
    refine ⟨congrArg Value.bool ?_, hk0⟩
    rw [Bool.eq_iff_iff]
    simp only [within, reach, Bool.or_eq_true, Bool.and_eq_true, Bool.not_eq_true', Bool.not_eq_false', Bool.or_eq_false_iff, Bool.and_eq_false_iff, decide_eq_true_eq, decide_eq_false_iff_not, beq_iff_eq, Bool.false_eq_true, Bool.true_eq_false, false_iff, true_iff, iff_true, iff_false, not_true, not_false_iff, true_and, and_true, false_and, and_false, ge_iff_le, gt_iff_lt] at *
    try omega
  · have hg1r := hg1
    have hf := hf.prune [6, 1]
    replace hf : Fr 11 [(6, .val (.bool (within x 4194304))), (1, .val (.pointer (some ⟨B1, 0, none⟩)))] a := hf
    replace hf := hf.conv (env' := [(6, .val (.bool false)), (1, .val (.pointer (some ⟨B1, 0, none⟩)))]) (Ac (congrArg Value.bool hg1r) (Ao rfl))
    try simp only [Bool.or_eq_true, Bool.and_eq_true, Bool.not_eq_true', Bool.not_eq_false', Bool.or_eq_false_iff, Bool.and_eq_false_iff, decide_eq_true_eq, decide_eq_false_iff_not, beq_iff_eq, bne_iff_ne, beq_eq_false_iff_ne, bne_eq_false_iff_eq, Bool.and_true, Bool.true_and, ne_eq] at hg1
    refine sr0 hf hM [8, 6] [{ g := .off }, { g := .off }] (env' := [(8, .val (undef)), (6, .val (.bool false))]) (ob := [false = !true, false = !true]) (fun B => by as_aux_lemma => kernel_rfl) rfl (Ac rfl (Ao rfl)) ?_
    clear hf; intro a hf
    refine sr0 hf hM [2] [{ g := .off }, {}, {}] (env' := [(2, .val (.bool false))]) (ob := [false = !true]) (fun B => by as_aux_lemma => kernel_rfl) rfl (Ao rfl) ?_
    clear hf; intro a hf
    refine wpList_nil ?_
    refine hK2 _ _ ?_
    refine wp_ret ?_
    refine sxret (fn := Tryd.f96) hf hM [] (l := [.bool false]) (M' := [⟨B1, 114, [.int .i64 x, .int .i64 y]⟩]) (d' := false) (ob := []) (by kernel_rfl) (fun B => ⟨B, by as_aux_lemma => kernel_rfl⟩) rfl An ?_
    show (.bool false : Value) = .bool (reach x y) ∧ Keep Nn w w2
    refine ⟨congrArg Value.bool ?_, hk0⟩
    rw [Bool.eq_iff_iff]
    simp only [within, reach, Bool.or_eq_true, Bool.and_eq_true, Bool.not_eq_true', Bool.not_eq_false', Bool.or_eq_false_iff, Bool.and_eq_false_iff, decide_eq_true_eq, decide_eq_false_iff_not, beq_iff_eq, Bool.false_eq_true, Bool.true_eq_false, false_iff, true_iff, iff_true, iff_false, not_true, not_false_iff, true_and, and_true, false_and, and_false, ge_iff_le, gt_iff_lt] at *
    try omega

set_option maxRecDepth 10000 in
set_option maxHeartbeats 4000000 in
theorem corners_any (x0 y0 x1 y1 : Int) (w : World) :
    Calls Tryd.prog 88 #[.agg #[.int .i64 x0, .int .i64 y0, .int .i64 x1, .int .i64 y1]] w (Ret fun v w' => v = .tuple #[.agg #[.int .i64 x0, .int .i64 y0], .agg #[.int .i64 x1, .int .i64 y1]] ∧ Keep Nn w w') := by
  refine sxenter (n := 14) (args := [.agg #[.int .i64 x0, .int .i64 y0, .int .i64 x1, .int .i64 y1]]) Tryd.func88 rfl rfl rfl fun a hf => ?_
  replace hf : Fr 14 [(0, .val (.agg #[.int .i64 x0, .int .i64 y0, .int .i64 x1, .int .i64 y1]))] a := hf
  have hM : MemOk [] w := MemOk.nil w
  have hk0 : Keep Nn w w := Keep.refl _ _
  refine wp_seq_k (fun K1 hK1 => ?_)
  refine wp_region_lit ?_
  refine sr hf hM [3, 2, 1] [{ os := [.nw] }, { os := [.nw] }, { os := [.nw] }] (env' := fun B1 => [(3, .val (.pointer (some ⟨B1 + 2, 0, none⟩))), (2, .val (.pointer (some ⟨B1 + 1, 0, none⟩))), (1, .val (.pointer (some ⟨B1, 0, none⟩)))]) (M' := fun B1 => [⟨B1, 50, [.int .i64 x0, .int .i64 y0, .int .i64 x1, .int .i64 y1]⟩, ⟨B1 + 1, 114, [.int .i64 0, .int .i64 0]⟩, ⟨B1 + 2, 114, [.int .i64 0, .int .i64 0]⟩]) (ob := fun B1 => []) (fun B => by as_aux_lemma => kernel_rfl) (fun B1 => An) ?_
  clear hf hM; intro a w1 B1 hf hM hB hk
  have hbB1 : w.heap.size ≤ B1 := by have := hk0.size; omega
  have hk0 := hk0.then hk (by intro i _ h; cases h)
  clear hk hB
  refine wpList_nil ?_
  refine hK1 _ _ ?_
  refine wp_seq_k (fun K2 hK2 => ?_)
  replace hM := hM.drew; replace hk0 := hk0.drew
  obtain ⟨C1, hC1d⟩ : ∃ C : World → Prop, C = fun w' => MemOk [⟨B1, 50, [.int .i64 x0, .int .i64 y0, .int .i64 x1, .int .i64 y1]⟩] w' ∧ Keep Nn w w' ∧ True := ⟨_, rfl⟩
  have hC1i : ∀ w', (MemOk [⟨B1, 50, [.int .i64 x0, .int .i64 y0, .int .i64 x1, .int .i64 y1]⟩] w' ∧ Keep Nn w w' ∧ True) → C1 w' := fun w' h => by rw [hC1d]; exact h
  have hC1e : ∀ w', C1 w' → (MemOk [⟨B1, 50, [.int .i64 x0, .int .i64 y0, .int .i64 x1, .int .i64 y1]⟩] w' ∧ Keep Nn w w' ∧ True) := fun w' h => by rw [hC1d] at h; exact h
  refine sxdraw (C := C1) (.leaf [(0, true), (1, true), (2, true), (3, true), (4, true), (5, true), (6, true), (7, true), (8, true), (9, true), (10, false), (11, false)]) (by kernel_rfl) (by kernel_rfl) (by as_aux_lemma => kernel_rfl) rfl (by as_aux_lemma => kernel_rfl) (by kernel_rfl) (hC1i _ ⟨hM.sub (.cons_cons _ (.cons _ (.cons _ .slnil))), hk0, trivial⟩) ?_
  refine sxleaf ?_
  have hC := (hC1i _ ⟨hM.sub (.cons_cons _ (.cons _ (.cons _ .slnil))), hk0, trivial⟩)
  refine sc0 hf hC (fun w' h => (hC1e w' h).1) [13, 8, 3, 2] [{}, { os := [.ld 0 0] }, {}, { os := [.ld 0 1] }, { sp := true }, {}, { os := [.ld 0 2] }, {}, { os := [.ld 0 3] }, { sp := true }] (env' := [(13, .val (.agg #[.int .i64 x1, .int .i64 y1])), (8, .val (.agg #[.int .i64 x0, .int .i64 y0])), (3, .val (.pointer (some ⟨B1 + 2, 0, none⟩))), (2, .val (.pointer (some ⟨B1 + 1, 0, none⟩)))]) (ob := [Ad B1 0, Ad B1 1, Ad B1 2, Ad B1 3]) (by as_aux_lemma => kernel_rfl) rfl (Ac (ad _ _) (Ac (ad _ _) (Ac (ad _ _) (Ao (ad _ _))))) ?_
  clear hf; intro a hf
  refine scstep rfl ?_
  have hMs : MemOk [⟨B1 + 1, 114, [.int .i64 0, .int .i64 0]⟩] w1.drew := hM.sub (.cons _ (.cons_cons _ (.cons _ .slnil)))
  refine sr hf hMs [13, 3, 2] [{ os := [.st 0 0, .st 0 1] }] (env' := fun B2 => [(13, .val (.agg #[.int .i64 x1, .int .i64 y1])), (3, .val (.pointer (some ⟨B1 + 2, 0, none⟩))), (2, .val (.pointer (some ⟨B1 + 1, 0, none⟩)))]) (M' := fun B2 => [⟨B1 + 1, 114, [.int .i64 x0, .int .i64 y0]⟩]) (ob := fun B2 => [Ad (B1 + 1) 0, Ad (B1 + 1) 1]) (fun B => by as_aux_lemma => kernel_rfl) (fun B2 => (Ac (ad _ _) (Ao (ad _ _)))) ?_
  clear hf hMs; intro a w2 B2 hf hMs hB hk; clear hB
  have hM : MemOk [⟨B1, 50, [.int .i64 x0, .int .i64 y0, .int .i64 x1, .int .i64 y1]⟩, ⟨B1 + 1, 114, [.int .i64 x0, .int .i64 y0]⟩, ⟨B1 + 2, 114, [.int .i64 0, .int .i64 0]⟩] w2 := MemOk.upd (M1 := [⟨B1, 50, [.int .i64 x0, .int .i64 y0, .int .i64 x1, .int .i64 y1]⟩]) (M2 := [⟨B1 + 2, 114, [.int .i64 0, .int .i64 0]⟩]) hM hk hMs rfl
  have hk0 := hk0.then hk (by intro i hi h; simp only [Is, Mem.names, List.map_cons, List.map_nil, List.mem_cons, List.not_mem_nil, or_false] at h; omega)
  clear hk hMs
  have hC := (hC1i _ ⟨hM.sub (.cons_cons _ (.cons _ (.cons _ .slnil))), hk0, trivial⟩)
  refine scdone hC ?_
  refine scstep rfl ?_
  have hMs : MemOk [⟨B1 + 2, 114, [.int .i64 0, .int .i64 0]⟩] w2 := hM.sub (.cons _ (.cons _ (.cons_cons _ .slnil)))
  refine sr hf hMs [3, 2] [{ os := [.st 0 0, .st 0 1] }] (env' := fun B3 => [(3, .val (.pointer (some ⟨B1 + 2, 0, none⟩))), (2, .val (.pointer (some ⟨B1 + 1, 0, none⟩)))]) (M' := fun B3 => [⟨B1 + 2, 114, [.int .i64 x1, .int .i64 y1]⟩]) (ob := fun B3 => [Ad (B1 + 2) 0, Ad (B1 + 2) 1]) (fun B => by as_aux_lemma => kernel_rfl) (fun B3 => (Ac (ad _ _) (Ao (ad _ _)))) ?_
  clear hf hMs; intro a w3 B3 hf hMs hB hk; clear hB
  have hM : MemOk [⟨B1, 50, [.int .i64 x0, .int .i64 y0, .int .i64 x1, .int .i64 y1]⟩, ⟨B1 + 1, 114, [.int .i64 x0, .int .i64 y0]⟩, ⟨B1 + 2, 114, [.int .i64 x1, .int .i64 y1]⟩] w3 := MemOk.upd (M1 := [⟨B1, 50, [.int .i64 x0, .int .i64 y0, .int .i64 x1, .int .i64 y1]⟩, ⟨B1 + 1, 114, [.int .i64 x0, .int .i64 y0]⟩]) (M2 := []) hM hk hMs rfl
  have hk0 := hk0.then hk (by intro i hi h; simp only [Is, Mem.names, List.map_cons, List.map_nil, List.mem_cons, List.not_mem_nil, or_false] at h; omega)
  clear hk hMs
  have hC := (hC1i _ ⟨hM.sub (.cons_cons _ (.cons _ (.cons _ .slnil))), hk0, trivial⟩)
  refine scdone hC ?_
  clear hC
  show K2 _ _
  refine hK2 _ _ ?_
  refine wp_ret ?_
  refine sxret (fn := Tryd.f88) hf hM [.ld 1 0, .ld 1 1, .ld 2 0, .ld 2 1] (l := [.agg #[.int .i64 x0, .int .i64 y0], .agg #[.int .i64 x1, .int .i64 y1]]) (M' := [⟨B1, 50, [.int .i64 x0, .int .i64 y0, .int .i64 x1, .int .i64 y1]⟩, ⟨B1 + 1, 114, [.int .i64 x0, .int .i64 y0]⟩, ⟨B1 + 2, 114, [.int .i64 x1, .int .i64 y1]⟩]) (d' := false) (ob := [Ad (B1 + 1) 0, Ad (B1 + 1) 1, Ad (B1 + 2) 0, Ad (B1 + 2) 1]) (by kernel_rfl) (fun B => ⟨B, by as_aux_lemma => kernel_rfl⟩) rfl (Ac (ad _ _) (Ac (ad _ _) (Ac (ad _ _) (Ao (ad _ _))))) ?_
  show (.tuple #[.agg #[.int .i64 x0, .int .i64 y0], .agg #[.int .i64 x1, .int .i64 y1]] : Value) = .tuple #[.agg #[.int .i64 x0, .int .i64 y0], .agg #[.int .i64 x1, .int .i64 y1]] ∧ Keep Nn w w3
  exact ⟨rfl, hk0⟩

set_option maxRecDepth 10000 in
set_option maxHeartbeats 4000000 in
theorem right_box (x0 y0 x1 y1 : Int) (w : World) :
    Calls Tryd.prog 87 #[.agg #[.int .i64 x0, .int .i64 y0, .int .i64 x1, .int .i64 y1]] w (Ret fun v w' => v = .bool (boxRight x0 y0 x1 y1) ∧ Keep Nn w w') := by
  refine sxenter (n := 30) (args := [.agg #[.int .i64 x0, .int .i64 y0, .int .i64 x1, .int .i64 y1]]) Tryd.func87 rfl rfl rfl fun a hf => ?_
  replace hf : Fr 30 [(0, .val (.agg #[.int .i64 x0, .int .i64 y0, .int .i64 x1, .int .i64 y1]))] a := hf
  have hM : MemOk [] w := MemOk.nil w
  have hk0 : Keep Nn w w := Keep.refl _ _
  refine wp_seq_k (fun K1 hK1 => ?_)
  refine wp_region_lit ?_
  refine sr hf hM [1] [{ os := [.nw] }, {}] (env' := fun B1 => [(1, .val (.pointer (some ⟨B1, 0, none⟩)))]) (M' := fun B1 => [⟨B1, 50, [.int .i64 x0, .int .i64 y0, .int .i64 x1, .int .i64 y1]⟩]) (ob := fun B1 => []) (fun B => by as_aux_lemma => kernel_rfl) (fun B1 => An) ?_
  clear hf hM; intro a w1 B1 hf hM hB hk
  have hbB1 : w.heap.size ≤ B1 := by have := hk0.size; omega
  have hk0 := hk0.then hk (by intro i _ h; cases h)
  clear hk hB
  refine wpList_nil ?_
  refine hK1 _ _ ?_
  refine wp_seq_k (fun K2 hK2 => ?_)
  refine wp_region_lit ?_
  refine sr0 hf hM [6, 1] [{ os := [.ld 0 0, .ld 0 1, .ld 0 2, .ld 0 3] }] (env' := [(6, .val (.agg #[.int .i64 x0, .int .i64 y0, .int .i64 x1, .int .i64 y1])), (1, .val (.pointer (some ⟨B1, 0, none⟩)))]) (ob := [Ad B1 0, Ad B1 1, Ad B1 2, Ad B1 3]) (fun B => by as_aux_lemma => kernel_rfl) rfl (Ac (ad _ _) (Ac (ad _ _) (Ac (ad _ _) (Ao (ad _ _))))) ?_
  clear hf; intro a hf
  refine sxcall hf rfl rfl rfl rfl (g := 88) (vs := [.agg #[.int .i64 x0, .int .i64 y0, .int .i64 x1, .int .i64 y1]]) (ob := []) (by as_aux_lemma => kernel_rfl) An enters88 (corners_any x0 y0 x1 y1 w1  ) ?_
  clear hf; rintro _ w2 a ⟨rfl, hk⟩ hf
  have hM := hM.keepNn hk
  have hk0 := hk0.trans hk.nn
  clear hk
  refine sr hf hM [4, 3, 1] [{}, {}, {}, { os := [.nw] }, { os := [.nw] }, { os := [.st 1 0, .st 1 1] }, { os := [.st 2 0, .st 2 1] }] (env' := fun B3 => [(4, .val (.pointer (some ⟨B3 + 1, 0, none⟩))), (3, .val (.pointer (some ⟨B3, 0, none⟩))), (1, .val (.pointer (some ⟨B1, 0, none⟩)))]) (M' := fun B3 => [⟨B1, 50, [.int .i64 x0, .int .i64 y0, .int .i64 x1, .int .i64 y1]⟩, ⟨B3, 114, [.int .i64 x0, .int .i64 y0]⟩, ⟨B3 + 1, 114, [.int .i64 x1, .int .i64 y1]⟩]) (ob := fun B3 => [Ad B3 0, Ad B3 1, Ad (B3 + 1) 0, Ad (B3 + 1) 1]) (fun B => by as_aux_lemma => kernel_rfl) (fun B3 => (Ac (ad _ _) (Ac (ad _ _) (Ac (ad _ _) (Ao (ad _ _)))))) ?_
  clear hf hM; intro a w3 B3 hf hM hB hk
  have hbB3 : w.heap.size ≤ B3 := by have := hk0.size; omega
  have hk0 := hk0.then hk (by intro i hi h; simp only [Is, Mem.names, List.map_cons, List.map_nil, List.mem_cons, List.not_mem_nil, or_false] at h; omega)
  clear hk hB
  refine wpList_nil ?_
  refine hK2 _ _ ?_
  refine wp_seq_k (fun K3 hK3 => ?_)
  refine wp_region_lit ?_
  refine sr0 hf hM [22, 4, 3] [{}, { os := [.ld 0 0] }, {}, { os := [.ld 0 2] }, {}, {}, { g := .sym }, { g := .sym, os := [.ld 0 1] }, { g := .sym }, { g := .sym, os := [.ld 0 3] }, { g := .sym }, { hint := some (.bool ((decide ((x0 : Int) ≤ x1)) && (decide ((y0 : Int) ≤ y1)))) }, {}] (env' := [(22, .val (.bool ((decide ((x0 : Int) ≤ x1)) && (decide ((y0 : Int) ≤ y1))))), (4, .val (.pointer (some ⟨B3 + 1, 0, none⟩))), (3, .val (.pointer (some ⟨B3, 0, none⟩)))]) (ob := [Ad B1 0, Ad B1 2, ((decide ((x0 : Int) ≤ x1)) = true → (decide ((x0 : Int) ≤ x1)) = (decide ((x0 : Int) ≤ x1))), ((decide ((x0 : Int) ≤ x1)) = true → Ad B1 1), ((decide ((x0 : Int) ≤ x1)) = true → (decide ((x0 : Int) ≤ x1)) = (decide ((x0 : Int) ≤ x1))), ((decide ((x0 : Int) ≤ x1)) = true → Ad B1 3), ((decide ((x0 : Int) ≤ x1)) = true → (decide ((x0 : Int) ≤ x1)) = (decide ((x0 : Int) ≤ x1))), ((decide ((x0 : Int) ≤ x1)) = true → (decide ((x0 : Int) ≤ x1)) = (decide ((x0 : Int) ≤ x1))), ((decide ((x0 : Int) ≤ x1)) = true → (decide ((x0 : Int) ≤ x1)) = (decide ((x0 : Int) ≤ x1))), (bif (decide ((x0 : Int) ≤ x1)) then (.bool (decide ((y0 : Int) ≤ y1)) : Value) else .bool false) = .bool ((decide ((x0 : Int) ≤ x1)) && (decide ((y0 : Int) ≤ y1)))]) (fun B => by as_aux_lemma => kernel_rfl) rfl (Ac (ad _ _) (Ac (ad _ _) (Ac (fun hgd => rfl) (Ac (fun hgd => ad _ _) (Ac (fun hgd => rfl) (Ac (fun hgd => ad _ _) (Ac (fun hgd => rfl) (Ac (fun hgd => rfl) (Ac (fun _ => rfl) (Ao (pick_and _ _))))))))))) ?_
  clear hf; intro a hf
  rcases Bool.eq_false_or_eq_true ((decide ((x0 : Int) ≤ x1)) && (decide ((y0 : Int) ≤ y1))) with hg1 | hg1
  · have hg1r := hg1
    have hf := hf.prune [22, 4, 3]
    replace hf : Fr 30 [(22, .val (.bool ((decide ((x0 : Int) ≤ x1)) && (decide ((y0 : Int) ≤ y1))))), (4, .val (.pointer (some ⟨B3 + 1, 0, none⟩))), (3, .val (.pointer (some ⟨B3, 0, none⟩)))] a := hf
    replace hf := hf.conv (env' := [(22, .val (.bool true)), (4, .val (.pointer (some ⟨B3 + 1, 0, none⟩))), (3, .val (.pointer (some ⟨B3, 0, none⟩)))]) (Ac (congrArg Value.bool hg1r) (Ac rfl (Ao rfl)))
    try simp only [Bool.or_eq_true, Bool.and_eq_true, Bool.not_eq_true', Bool.not_eq_false', Bool.or_eq_false_iff, Bool.and_eq_false_iff, decide_eq_true_eq, decide_eq_false_iff_not, beq_iff_eq, bne_iff_ne, beq_eq_false_iff_ne, bne_eq_false_iff_eq, Bool.and_true, Bool.true_and, ne_eq] at hg1
    refine sr0 hf hM [23, 22, 4] [{ os := [.ld 1 0, .ld 1 1] }] (env' := [(23, .val (.agg #[.int .i64 x0, .int .i64 y0])), (22, .val (.bool true)), (4, .val (.pointer (some ⟨B3 + 1, 0, none⟩)))]) (ob := [true = true, Ad B3 0, Ad B3 1]) (fun B => by as_aux_lemma => kernel_rfl) rfl (Ac rfl (Ac (ad _ _) (Ao (ad _ _)))) ?_
    clear hf; intro a hf
    refine sxcallg hf rfl rfl rfl rfl rfl (g := 96) (vs := [.agg #[.int .i64 x0, .int .i64 y0]]) (ob := []) (by as_aux_lemma => kernel_rfl) An enters96 (reach_any x0 y0 w3  ) ?_
    clear hf; rintro _ w4 a ⟨rfl, hk⟩ hf
    have hM := hM.keepNn hk
    have hk0 := hk0.trans hk.nn
    clear hk
    refine sr0 hf hM [26, 4] [{}, {}] (env' := [(26, .val (.bool (reach x0 y0))), (4, .val (.pointer (some ⟨B3 + 1, 0, none⟩)))]) (ob := []) (fun B => by as_aux_lemma => kernel_rfl) rfl An ?_
    clear hf; intro a hf
    rcases Bool.eq_false_or_eq_true (reach x0 y0) with hg2 | hg2
    · have hg2r := hg2
      have hf := hf.prune [26, 4]
      replace hf : Fr 30 [(26, .val (.bool (reach x0 y0))), (4, .val (.pointer (some ⟨B3 + 1, 0, none⟩)))] a := hf
      replace hf := hf.conv (env' := [(26, .val (.bool true)), (4, .val (.pointer (some ⟨B3 + 1, 0, none⟩)))]) (Ac (congrArg Value.bool hg2r) (Ao rfl))
      try simp only [Bool.or_eq_true, Bool.and_eq_true, Bool.not_eq_true', Bool.not_eq_false', Bool.or_eq_false_iff, Bool.and_eq_false_iff, decide_eq_true_eq, decide_eq_false_iff_not, beq_iff_eq, bne_iff_ne, beq_eq_false_iff_ne, bne_eq_false_iff_eq, Bool.and_true, Bool.true_and, ne_eq] at hg2
      refine sr0 hf hM [27, 26] [{ os := [.ld 2 0, .ld 2 1] }] (env' := [(27, .val (.agg #[.int .i64 x1, .int .i64 y1])), (26, .val (.bool true))]) (ob := [true = true, Ad (B3 + 1) 0, Ad (B3 + 1) 1]) (fun B => by as_aux_lemma => kernel_rfl) rfl (Ac rfl (Ac (ad _ _) (Ao (ad _ _)))) ?_
      clear hf; intro a hf
      refine sxcallg hf rfl rfl rfl rfl rfl (g := 96) (vs := [.agg #[.int .i64 x1, .int .i64 y1]]) (ob := []) (by as_aux_lemma => kernel_rfl) An enters96 (reach_any x1 y1 w4  ) ?_
      clear hf; rintro _ w5 a ⟨rfl, hk⟩ hf
      have hM := hM.keepNn hk
      have hk0 := hk0.trans hk.nn
      clear hk
      refine sr0 hf hM [2] [{}, {}] (env' := [(2, .val (.bool (reach x1 y1)))]) (ob := []) (fun B => by as_aux_lemma => kernel_rfl) rfl An ?_
      clear hf; intro a hf
      refine wpList_nil ?_
      refine hK3 _ _ ?_
      refine wp_ret ?_
      refine sxret (fn := Tryd.f87) hf hM [] (l := [.bool (reach x1 y1)]) (M' := [⟨B1, 50, [.int .i64 x0, .int .i64 y0, .int .i64 x1, .int .i64 y1]⟩, ⟨B3, 114, [.int .i64 x0, .int .i64 y0]⟩, ⟨B3 + 1, 114, [.int .i64 x1, .int .i64 y1]⟩]) (d' := false) (ob := []) (by kernel_rfl) (fun B => ⟨B, by as_aux_lemma => kernel_rfl⟩) rfl An ?_
      show (.bool (reach x1 y1) : Value) = .bool (boxRight x0 y0 x1 y1) ∧ Keep Nn w w5
      refine ⟨congrArg Value.bool ?_, hk0⟩
      rw [Bool.eq_iff_iff]
      simp only [reach, boxRight, Bool.or_eq_true, Bool.and_eq_true, Bool.not_eq_true', Bool.not_eq_false', Bool.or_eq_false_iff, Bool.and_eq_false_iff, decide_eq_true_eq, decide_eq_false_iff_not, beq_iff_eq, Bool.false_eq_true, Bool.true_eq_false, false_iff, true_iff, iff_true, iff_false, not_true, not_false_iff, true_and, and_true, false_and, and_false, ge_iff_le, gt_iff_lt] at *
      try omega
    · have hg2r := hg2
      have hf := hf.prune [26, 4]
      replace hf : Fr 30 [(26, .val (.bool (reach x0 y0))), (4, .val (.pointer (some ⟨B3 + 1, 0, none⟩)))] a := hf
      replace hf := hf.conv (env' := [(26, .val (.bool false)), (4, .val (.pointer (some ⟨B3 + 1, 0, none⟩)))]) (Ac (congrArg Value.bool hg2r) (Ao rfl))
      try simp only [Bool.or_eq_true, Bool.and_eq_true, Bool.not_eq_true', Bool.not_eq_false', Bool.or_eq_false_iff, Bool.and_eq_false_iff, decide_eq_true_eq, decide_eq_false_iff_not, beq_iff_eq, bne_iff_ne, beq_eq_false_iff_ne, bne_eq_false_iff_eq, Bool.and_true, Bool.true_and, ne_eq] at hg2
      refine sr0 hf hM [27, 26] [{ g := .off }] (env' := [(27, .val (undef)), (26, .val (.bool false))]) (ob := [false = !true]) (fun B => by as_aux_lemma => kernel_rfl) rfl (Ao rfl) ?_
      clear hf; intro a hf
      refine sr0 hf hM [2] [{ g := .off }, {}, {}] (env' := [(2, .val (.bool false))]) (ob := [false = !true]) (fun B => by as_aux_lemma => kernel_rfl) rfl (Ao rfl) ?_
      clear hf; intro a hf
      refine wpList_nil ?_
      refine hK3 _ _ ?_
      refine wp_ret ?_
      refine sxret (fn := Tryd.f87) hf hM [] (l := [.bool false]) (M' := [⟨B1, 50, [.int .i64 x0, .int .i64 y0, .int .i64 x1, .int .i64 y1]⟩, ⟨B3, 114, [.int .i64 x0, .int .i64 y0]⟩, ⟨B3 + 1, 114, [.int .i64 x1, .int .i64 y1]⟩]) (d' := false) (ob := []) (by kernel_rfl) (fun B => ⟨B, by as_aux_lemma => kernel_rfl⟩) rfl An ?_
      show (.bool false : Value) = .bool (boxRight x0 y0 x1 y1) ∧ Keep Nn w w4
      refine ⟨congrArg Value.bool ?_, hk0⟩
      rw [Bool.eq_iff_iff]
      simp only [reach, boxRight, Bool.or_eq_true, Bool.and_eq_true, Bool.not_eq_true', Bool.not_eq_false', Bool.or_eq_false_iff, Bool.and_eq_false_iff, decide_eq_true_eq, decide_eq_false_iff_not, beq_iff_eq, Bool.false_eq_true, Bool.true_eq_false, false_iff, true_iff, iff_true, iff_false, not_true, not_false_iff, true_and, and_true, false_and, and_false, ge_iff_le, gt_iff_lt] at *
      try omega
  · have hg1r := hg1
    have hf := hf.prune [22, 4, 3]
    replace hf : Fr 30 [(22, .val (.bool ((decide ((x0 : Int) ≤ x1)) && (decide ((y0 : Int) ≤ y1))))), (4, .val (.pointer (some ⟨B3 + 1, 0, none⟩))), (3, .val (.pointer (some ⟨B3, 0, none⟩)))] a := hf
    replace hf := hf.conv (env' := [(22, .val (.bool false)), (4, .val (.pointer (some ⟨B3 + 1, 0, none⟩))), (3, .val (.pointer (some ⟨B3, 0, none⟩)))]) (Ac (congrArg Value.bool hg1r) (Ac rfl (Ao rfl)))
    try simp only [Bool.or_eq_true, Bool.and_eq_true, Bool.not_eq_true', Bool.not_eq_false', Bool.or_eq_false_iff, Bool.and_eq_false_iff, decide_eq_true_eq, decide_eq_false_iff_not, beq_iff_eq, bne_iff_ne, beq_eq_false_iff_ne, bne_eq_false_iff_eq, Bool.and_true, Bool.true_and, ne_eq] at hg1
    refine sr0 hf hM [23, 22, 4] [{ g := .off }] (env' := [(23, .val (undef)), (22, .val (.bool false)), (4, .val (.pointer (some ⟨B3 + 1, 0, none⟩)))]) (ob := [false = !true]) (fun B => by as_aux_lemma => kernel_rfl) rfl (Ao rfl) ?_
    clear hf; intro a hf
    refine sr0 hf hM [27, 26] [{ g := .off }, {}, {}, { g := .off }] (env' := [(27, .val (undef)), (26, .val (.bool false))]) (ob := [false = !true, false = !true]) (fun B => by as_aux_lemma => kernel_rfl) rfl (Ac rfl (Ao rfl)) ?_
    clear hf; intro a hf
    refine sr0 hf hM [2] [{ g := .off }, {}, {}] (env' := [(2, .val (.bool false))]) (ob := [false = !true]) (fun B => by as_aux_lemma => kernel_rfl) rfl (Ao rfl) ?_
    clear hf; intro a hf
    refine wpList_nil ?_
    refine hK3 _ _ ?_
    refine wp_ret ?_
    refine sxret (fn := Tryd.f87) hf hM [] (l := [.bool false]) (M' := [⟨B1, 50, [.int .i64 x0, .int .i64 y0, .int .i64 x1, .int .i64 y1]⟩, ⟨B3, 114, [.int .i64 x0, .int .i64 y0]⟩, ⟨B3 + 1, 114, [.int .i64 x1, .int .i64 y1]⟩]) (d' := false) (ob := []) (by kernel_rfl) (fun B => ⟨B, by as_aux_lemma => kernel_rfl⟩) rfl An ?_
    show (.bool false : Value) = .bool (boxRight x0 y0 x1 y1) ∧ Keep Nn w w3
    refine ⟨congrArg Value.bool ?_, hk0⟩
    rw [Bool.eq_iff_iff]
    simp only [reach, boxRight, Bool.or_eq_true, Bool.and_eq_true, Bool.not_eq_true', Bool.not_eq_false', Bool.or_eq_false_iff, Bool.and_eq_false_iff, decide_eq_true_eq, decide_eq_false_iff_not, beq_iff_eq, Bool.false_eq_true, Bool.true_eq_false, false_iff, true_iff, iff_true, iff_false, not_true, not_false_iff, true_and, and_true, false_and, and_false, ge_iff_le, gt_iff_lt] at *
    try omega

set_option maxRecDepth 10000 in
set_option maxHeartbeats 4000000 in
theorem has_any (x0 y0 x1 y1 : Int) (px py : Int) (w : World) :
    Calls Tryd.prog 89 #[.agg #[.int .i64 x0, .int .i64 y0, .int .i64 x1, .int .i64 y1], .agg #[.int .i64 px, .int .i64 py]] w (Ret fun v w' => v = .bool (boxHas x0 y0 x1 y1 px py) ∧ Keep Nn w w') := by
  refine sxenter (n := 35) (args := [.agg #[.int .i64 x0, .int .i64 y0, .int .i64 x1, .int .i64 y1], .agg #[.int .i64 px, .int .i64 py]]) Tryd.func89 rfl rfl rfl fun a hf => ?_
  replace hf : Fr 35 [(0, .val (.agg #[.int .i64 x0, .int .i64 y0, .int .i64 x1, .int .i64 y1])), (1, .val (.agg #[.int .i64 px, .int .i64 py]))] a := hf
  have hM : MemOk [] w := MemOk.nil w
  have hk0 : Keep Nn w w := Keep.refl _ _
  refine wp_seq_k (fun K1 hK1 => ?_)
  refine wp_region_lit ?_
  refine sr hf hM [3, 2] [{ os := [.nw] }, { os := [.nw] }, {}] (env' := fun B1 => [(3, .val (.pointer (some ⟨B1 + 1, 0, none⟩))), (2, .val (.pointer (some ⟨B1, 0, none⟩)))]) (M' := fun B1 => [⟨B1, 50, [.int .i64 x0, .int .i64 y0, .int .i64 x1, .int .i64 y1]⟩, ⟨B1 + 1, 114, [.int .i64 px, .int .i64 py]⟩]) (ob := fun B1 => []) (fun B => by as_aux_lemma => kernel_rfl) (fun B1 => An) ?_
  clear hf hM; intro a w1 B1 hf hM hB hk
  have hbB1 : w.heap.size ≤ B1 := by have := hk0.size; omega
  have hk0 := hk0.then hk (by intro i _ h; cases h)
  clear hk hB
  refine wpList_nil ?_
  refine hK1 _ _ ?_
  refine wp_seq_k (fun K2 hK2 => ?_)
  refine wp_region_lit ?_
  refine sr0 hf hM [5, 3, 2] [{ os := [.ld 0 0, .ld 0 1, .ld 0 2, .ld 0 3] }] (env' := [(5, .val (.agg #[.int .i64 x0, .int .i64 y0, .int .i64 x1, .int .i64 y1])), (3, .val (.pointer (some ⟨B1 + 1, 0, none⟩))), (2, .val (.pointer (some ⟨B1, 0, none⟩)))]) (ob := [Ad B1 0, Ad B1 1, Ad B1 2, Ad B1 3]) (fun B => by as_aux_lemma => kernel_rfl) rfl (Ac (ad _ _) (Ac (ad _ _) (Ac (ad _ _) (Ao (ad _ _))))) ?_
  clear hf; intro a hf
  refine sxcall hf rfl rfl rfl rfl (g := 87) (vs := [.agg #[.int .i64 x0, .int .i64 y0, .int .i64 x1, .int .i64 y1]]) (ob := []) (by as_aux_lemma => kernel_rfl) An enters87 (right_box x0 y0 x1 y1 w1  ) ?_
  clear hf; rintro _ w2 a ⟨rfl, hk⟩ hf
  have hM := hM.keepNn hk
  have hk0 := hk0.trans hk.nn
  clear hk
  refine sr0 hf hM [4] [{}, { g := .sym }, { g := .sym, os := [.ld 1 0] }, { g := .sym }, { g := .sym, os := [.ld 0 0] }, { g := .sym }, { hint := some (.bool ((boxRight x0 y0 x1 y1) && (decide ((px : Int) ≥ x0)))) }, {}, { g := .sym }, { g := .sym, os := [.ld 1 0] }, { g := .sym }, { g := .sym, os := [.ld 0 2] }, { g := .sym }, { hint := some (.bool (((boxRight x0 y0 x1 y1) && (decide ((px : Int) ≥ x0))) && (decide ((px : Int) ≤ x1)))) }, {}, { g := .sym }, { g := .sym, os := [.ld 1 1] }, { g := .sym }, { g := .sym, os := [.ld 0 1] }, { g := .sym }, { hint := some (.bool ((((boxRight x0 y0 x1 y1) && (decide ((px : Int) ≥ x0))) && (decide ((px : Int) ≤ x1))) && (decide ((py : Int) ≥ y0)))) }, {}, { g := .sym }, { g := .sym, os := [.ld 1 1] }, { g := .sym }, { g := .sym, os := [.ld 0 3] }, { g := .sym }, { hint := some (.bool (((((boxRight x0 y0 x1 y1) && (decide ((px : Int) ≥ x0))) && (decide ((px : Int) ≤ x1))) && (decide ((py : Int) ≥ y0))) && (decide ((py : Int) ≤ y1)))) }, {}] (env' := [(4, .val (.bool (((((boxRight x0 y0 x1 y1) && (decide ((px : Int) ≥ x0))) && (decide ((px : Int) ≤ x1))) && (decide ((py : Int) ≥ y0))) && (decide ((py : Int) ≤ y1)))))]) (ob := [((boxRight x0 y0 x1 y1) = true → (boxRight x0 y0 x1 y1) = (boxRight x0 y0 x1 y1)), ((boxRight x0 y0 x1 y1) = true → Ad (B1 + 1) 0), ((boxRight x0 y0 x1 y1) = true → (boxRight x0 y0 x1 y1) = (boxRight x0 y0 x1 y1)), ((boxRight x0 y0 x1 y1) = true → Ad B1 0), ((boxRight x0 y0 x1 y1) = true → (boxRight x0 y0 x1 y1) = (boxRight x0 y0 x1 y1)), ((boxRight x0 y0 x1 y1) = true → (boxRight x0 y0 x1 y1) = (boxRight x0 y0 x1 y1)), ((boxRight x0 y0 x1 y1) = true → (boxRight x0 y0 x1 y1) = (boxRight x0 y0 x1 y1)), (bif boxRight x0 y0 x1 y1 then (.bool (decide ((px : Int) ≥ x0)) : Value) else .bool false) = .bool ((boxRight x0 y0 x1 y1) && (decide ((px : Int) ≥ x0))), (((boxRight x0 y0 x1 y1) && (decide ((px : Int) ≥ x0))) = true → ((boxRight x0 y0 x1 y1) && (decide ((px : Int) ≥ x0))) = ((boxRight x0 y0 x1 y1) && (decide ((px : Int) ≥ x0)))), (((boxRight x0 y0 x1 y1) && (decide ((px : Int) ≥ x0))) = true → Ad (B1 + 1) 0), (((boxRight x0 y0 x1 y1) && (decide ((px : Int) ≥ x0))) = true → ((boxRight x0 y0 x1 y1) && (decide ((px : Int) ≥ x0))) = ((boxRight x0 y0 x1 y1) && (decide ((px : Int) ≥ x0)))), (((boxRight x0 y0 x1 y1) && (decide ((px : Int) ≥ x0))) = true → Ad B1 2), (((boxRight x0 y0 x1 y1) && (decide ((px : Int) ≥ x0))) = true → ((boxRight x0 y0 x1 y1) && (decide ((px : Int) ≥ x0))) = ((boxRight x0 y0 x1 y1) && (decide ((px : Int) ≥ x0)))), (((boxRight x0 y0 x1 y1) && (decide ((px : Int) ≥ x0))) = true → ((boxRight x0 y0 x1 y1) && (decide ((px : Int) ≥ x0))) = ((boxRight x0 y0 x1 y1) && (decide ((px : Int) ≥ x0)))), (((boxRight x0 y0 x1 y1) && (decide ((px : Int) ≥ x0))) = true → ((boxRight x0 y0 x1 y1) && (decide ((px : Int) ≥ x0))) = ((boxRight x0 y0 x1 y1) && (decide ((px : Int) ≥ x0)))), (bif ((boxRight x0 y0 x1 y1) && (decide ((px : Int) ≥ x0))) then (.bool (decide ((px : Int) ≤ x1)) : Value) else .bool false) = .bool (((boxRight x0 y0 x1 y1) && (decide ((px : Int) ≥ x0))) && (decide ((px : Int) ≤ x1))), ((((boxRight x0 y0 x1 y1) && (decide ((px : Int) ≥ x0))) && (decide ((px : Int) ≤ x1))) = true → (((boxRight x0 y0 x1 y1) && (decide ((px : Int) ≥ x0))) && (decide ((px : Int) ≤ x1))) = (((boxRight x0 y0 x1 y1) && (decide ((px : Int) ≥ x0))) && (decide ((px : Int) ≤ x1)))), ((((boxRight x0 y0 x1 y1) && (decide ((px : Int) ≥ x0))) && (decide ((px : Int) ≤ x1))) = true → Ad (B1 + 1) 1), ((((boxRight x0 y0 x1 y1) && (decide ((px : Int) ≥ x0))) && (decide ((px : Int) ≤ x1))) = true → (((boxRight x0 y0 x1 y1) && (decide ((px : Int) ≥ x0))) && (decide ((px : Int) ≤ x1))) = (((boxRight x0 y0 x1 y1) && (decide ((px : Int) ≥ x0))) && (decide ((px : Int) ≤ x1)))), ((((boxRight x0 y0 x1 y1) && (decide ((px : Int) ≥ x0))) && (decide ((px : Int) ≤ x1))) = true → Ad B1 1), ((((boxRight x0 y0 x1 y1) && (decide ((px : Int) ≥ x0))) && (decide ((px : Int) ≤ x1))) = true → (((boxRight x0 y0 x1 y1) && (decide ((px : Int) ≥ x0))) && (decide ((px : Int) ≤ x1))) = (((boxRight x0 y0 x1 y1) && (decide ((px : Int) ≥ x0))) && (decide ((px : Int) ≤ x1)))), ((((boxRight x0 y0 x1 y1) && (decide ((px : Int) ≥ x0))) && (decide ((px : Int) ≤ x1))) = true → (((boxRight x0 y0 x1 y1) && (decide ((px : Int) ≥ x0))) && (decide ((px : Int) ≤ x1))) = (((boxRight x0 y0 x1 y1) && (decide ((px : Int) ≥ x0))) && (decide ((px : Int) ≤ x1)))), ((((boxRight x0 y0 x1 y1) && (decide ((px : Int) ≥ x0))) && (decide ((px : Int) ≤ x1))) = true → (((boxRight x0 y0 x1 y1) && (decide ((px : Int) ≥ x0))) && (decide ((px : Int) ≤ x1))) = (((boxRight x0 y0 x1 y1) && (decide ((px : Int) ≥ x0))) && (decide ((px : Int) ≤ x1)))), (bif (((boxRight x0 y0 x1 y1) && (decide ((px : Int) ≥ x0))) && (decide ((px : Int) ≤ x1))) then (.bool (decide ((py : Int) ≥ y0)) : Value) else .bool false) = .bool ((((boxRight x0 y0 x1 y1) && (decide ((px : Int) ≥ x0))) && (decide ((px : Int) ≤ x1))) && (decide ((py : Int) ≥ y0))), (((((boxRight x0 y0 x1 y1) && (decide ((px : Int) ≥ x0))) && (decide ((px : Int) ≤ x1))) && (decide ((py : Int) ≥ y0))) = true → ((((boxRight x0 y0 x1 y1) && (decide ((px : Int) ≥ x0))) && (decide ((px : Int) ≤ x1))) && (decide ((py : Int) ≥ y0))) = ((((boxRight x0 y0 x1 y1) && (decide ((px : Int) ≥ x0))) && (decide ((px : Int) ≤ x1))) && (decide ((py : Int) ≥ y0)))), (((((boxRight x0 y0 x1 y1) && (decide ((px : Int) ≥ x0))) && (decide ((px : Int) ≤ x1))) && (decide ((py : Int) ≥ y0))) = true → Ad (B1 + 1) 1), (((((boxRight x0 y0 x1 y1) && (decide ((px : Int) ≥ x0))) && (decide ((px : Int) ≤ x1))) && (decide ((py : Int) ≥ y0))) = true → ((((boxRight x0 y0 x1 y1) && (decide ((px : Int) ≥ x0))) && (decide ((px : Int) ≤ x1))) && (decide ((py : Int) ≥ y0))) = ((((boxRight x0 y0 x1 y1) && (decide ((px : Int) ≥ x0))) && (decide ((px : Int) ≤ x1))) && (decide ((py : Int) ≥ y0)))), (((((boxRight x0 y0 x1 y1) && (decide ((px : Int) ≥ x0))) && (decide ((px : Int) ≤ x1))) && (decide ((py : Int) ≥ y0))) = true → Ad B1 3), (((((boxRight x0 y0 x1 y1) && (decide ((px : Int) ≥ x0))) && (decide ((px : Int) ≤ x1))) && (decide ((py : Int) ≥ y0))) = true → ((((boxRight x0 y0 x1 y1) && (decide ((px : Int) ≥ x0))) && (decide ((px : Int) ≤ x1))) && (decide ((py : Int) ≥ y0))) = ((((boxRight x0 y0 x1 y1) && (decide ((px : Int) ≥ x0))) && (decide ((px : Int) ≤ x1))) && (decide ((py : Int) ≥ y0)))), (((((boxRight x0 y0 x1 y1) && (decide ((px : Int) ≥ x0))) && (decide ((px : Int) ≤ x1))) && (decide ((py : Int) ≥ y0))) = true → ((((boxRight x0 y0 x1 y1) && (decide ((px : Int) ≥ x0))) && (decide ((px : Int) ≤ x1))) && (decide ((py : Int) ≥ y0))) = ((((boxRight x0 y0 x1 y1) && (decide ((px : Int) ≥ x0))) && (decide ((px : Int) ≤ x1))) && (decide ((py : Int) ≥ y0)))), (((((boxRight x0 y0 x1 y1) && (decide ((px : Int) ≥ x0))) && (decide ((px : Int) ≤ x1))) && (decide ((py : Int) ≥ y0))) = true → ((((boxRight x0 y0 x1 y1) && (decide ((px : Int) ≥ x0))) && (decide ((px : Int) ≤ x1))) && (decide ((py : Int) ≥ y0))) = ((((boxRight x0 y0 x1 y1) && (decide ((px : Int) ≥ x0))) && (decide ((px : Int) ≤ x1))) && (decide ((py : Int) ≥ y0)))), (bif ((((boxRight x0 y0 x1 y1) && (decide ((px : Int) ≥ x0))) && (decide ((px : Int) ≤ x1))) && (decide ((py : Int) ≥ y0))) then (.bool (decide ((py : Int) ≤ y1)) : Value) else .bool false) = .bool (((((boxRight x0 y0 x1 y1) && (decide ((px : Int) ≥ x0))) && (decide ((px : Int) ≤ x1))) && (decide ((py : Int) ≥ y0))) && (decide ((py : Int) ≤ y1)))]) (fun B => by as_aux_lemma => kernel_rfl) rfl (Ac (fun hgd => rfl) (Ac (fun hgd => ad _ _) (Ac (fun hgd => rfl) (Ac (fun hgd => ad _ _) (Ac (fun hgd => rfl) (Ac (fun hgd => rfl) (Ac (fun _ => rfl) (Ac (pick_and _ _) (Ac (fun hgd => rfl) (Ac (fun hgd => ad _ _) (Ac (fun hgd => rfl) (Ac (fun hgd => ad _ _) (Ac (fun hgd => rfl) (Ac (fun hgd => rfl) (Ac (fun _ => rfl) (Ac (pick_and _ _) (Ac (fun hgd => rfl) (Ac (fun hgd => ad _ _) (Ac (fun hgd => rfl) (Ac (fun hgd => ad _ _) (Ac (fun hgd => rfl) (Ac (fun hgd => rfl) (Ac (fun _ => rfl) (Ac (pick_and _ _) (Ac (fun hgd => rfl) (Ac (fun hgd => ad _ _) (Ac (fun hgd => rfl) (Ac (fun hgd => ad _ _) (Ac (fun hgd => rfl) (Ac (fun hgd => rfl) (Ac (fun _ => rfl) (Ao (pick_and _ _))))))))))))))))))))))))))))))))) ?_
  clear hf; intro a hf
  refine wpList_nil ?_
  refine hK2 _ _ ?_
  refine wp_ret ?_
  refine sxret (fn := Tryd.f89) hf hM [] (l := [.bool (((((boxRight x0 y0 x1 y1) && (decide ((px : Int) ≥ x0))) && (decide ((px : Int) ≤ x1))) && (decide ((py : Int) ≥ y0))) && (decide ((py : Int) ≤ y1)))]) (M' := [⟨B1, 50, [.int .i64 x0, .int .i64 y0, .int .i64 x1, .int .i64 y1]⟩, ⟨B1 + 1, 114, [.int .i64 px, .int .i64 py]⟩]) (d' := false) (ob := []) (by kernel_rfl) (fun B => ⟨B, by as_aux_lemma => kernel_rfl⟩) rfl An ?_
  show (.bool (((((boxRight x0 y0 x1 y1) && (decide ((px : Int) ≥ x0))) && (decide ((px : Int) ≤ x1))) && (decide ((py : Int) ≥ y0))) && (decide ((py : Int) ≤ y1))) : Value) = .bool (boxHas x0 y0 x1 y1 px py) ∧ Keep Nn w w2
  refine ⟨congrArg Value.bool ?_, hk0⟩
  rw [Bool.eq_iff_iff]
  simp only [boxHas, boxRight, Bool.or_eq_true, Bool.and_eq_true, Bool.not_eq_true', Bool.not_eq_false', Bool.or_eq_false_iff, Bool.and_eq_false_iff, decide_eq_true_eq, decide_eq_false_iff_not, beq_iff_eq, Bool.false_eq_true, Bool.true_eq_false, false_iff, true_iff, iff_true, iff_false, not_true, not_false_iff, true_and, and_true, false_and, and_false, ge_iff_le, gt_iff_lt] at *
  try omega

set_option maxRecDepth 10000 in
set_option maxHeartbeats 4000000 in
theorem inside_any (a0 b0 a1 b1 x0 y0 x1 y1 : Int) (w : World) :
    Calls Tryd.prog 62 #[.agg #[.int .i64 a0, .int .i64 b0, .int .i64 a1, .int .i64 b1], .agg #[.int .i64 x0, .int .i64 y0, .int .i64 x1, .int .i64 y1]] w (Ret fun v w' => v = .bool (boxInside a0 b0 a1 b1 x0 y0 x1 y1) ∧ Keep Nn w w') := by
  refine sxenter (n := 24) (args := [.agg #[.int .i64 a0, .int .i64 b0, .int .i64 a1, .int .i64 b1], .agg #[.int .i64 x0, .int .i64 y0, .int .i64 x1, .int .i64 y1]]) Tryd.func62 rfl rfl rfl fun a hf => ?_
  replace hf : Fr 24 [(0, .val (.agg #[.int .i64 a0, .int .i64 b0, .int .i64 a1, .int .i64 b1])), (1, .val (.agg #[.int .i64 x0, .int .i64 y0, .int .i64 x1, .int .i64 y1]))] a := hf
  have hM : MemOk [] w := MemOk.nil w
  have hk0 : Keep Nn w w := Keep.refl _ _
  refine wp_seq_k (fun K1 hK1 => ?_)
  refine wp_region_lit ?_
  refine sr hf hM [3, 2] [{ os := [.nw] }, { os := [.nw] }, {}] (env' := fun B1 => [(3, .val (.pointer (some ⟨B1 + 1, 0, none⟩))), (2, .val (.pointer (some ⟨B1, 0, none⟩)))]) (M' := fun B1 => [⟨B1, 50, [.int .i64 a0, .int .i64 b0, .int .i64 a1, .int .i64 b1]⟩, ⟨B1 + 1, 50, [.int .i64 x0, .int .i64 y0, .int .i64 x1, .int .i64 y1]⟩]) (ob := fun B1 => []) (fun B => by as_aux_lemma => kernel_rfl) (fun B1 => An) ?_
  clear hf hM; intro a w1 B1 hf hM hB hk
  have hbB1 : w.heap.size ≤ B1 := by have := hk0.size; omega
  have hk0 := hk0.then hk (by intro i _ h; cases h)
  clear hk hB
  refine wpList_nil ?_
  refine hK1 _ _ ?_
  refine wp_seq_k (fun K2 hK2 => ?_)
  refine wp_region_lit ?_
  refine sr0 hf hM [8, 3, 2] [{ os := [.ld 0 0, .ld 0 1, .ld 0 2, .ld 0 3] }] (env' := [(8, .val (.agg #[.int .i64 a0, .int .i64 b0, .int .i64 a1, .int .i64 b1])), (3, .val (.pointer (some ⟨B1 + 1, 0, none⟩))), (2, .val (.pointer (some ⟨B1, 0, none⟩)))]) (ob := [Ad B1 0, Ad B1 1, Ad B1 2, Ad B1 3]) (fun B => by as_aux_lemma => kernel_rfl) rfl (Ac (ad _ _) (Ac (ad _ _) (Ac (ad _ _) (Ao (ad _ _))))) ?_
  clear hf; intro a hf
  refine sxcall hf rfl rfl rfl rfl (g := 88) (vs := [.agg #[.int .i64 a0, .int .i64 b0, .int .i64 a1, .int .i64 b1]]) (ob := []) (by as_aux_lemma => kernel_rfl) An enters88 (corners_any a0 b0 a1 b1 w1  ) ?_
  clear hf; rintro _ w2 a ⟨rfl, hk⟩ hf
  have hM := hM.keepNn hk
  have hk0 := hk0.trans hk.nn
  clear hk
  refine sr hf hM [6, 5, 3, 2] [{}, {}, {}, { os := [.nw] }, { os := [.nw] }, { os := [.st 2 0, .st 2 1] }, { os := [.st 3 0, .st 3 1] }] (env' := fun B3 => [(6, .val (.pointer (some ⟨B3 + 1, 0, none⟩))), (5, .val (.pointer (some ⟨B3, 0, none⟩))), (3, .val (.pointer (some ⟨B1 + 1, 0, none⟩))), (2, .val (.pointer (some ⟨B1, 0, none⟩)))]) (M' := fun B3 => [⟨B1, 50, [.int .i64 a0, .int .i64 b0, .int .i64 a1, .int .i64 b1]⟩, ⟨B1 + 1, 50, [.int .i64 x0, .int .i64 y0, .int .i64 x1, .int .i64 y1]⟩, ⟨B3, 114, [.int .i64 a0, .int .i64 b0]⟩, ⟨B3 + 1, 114, [.int .i64 a1, .int .i64 b1]⟩]) (ob := fun B3 => [Ad B3 0, Ad B3 1, Ad (B3 + 1) 0, Ad (B3 + 1) 1]) (fun B => by as_aux_lemma => kernel_rfl) (fun B3 => (Ac (ad _ _) (Ac (ad _ _) (Ac (ad _ _) (Ao (ad _ _)))))) ?_
  clear hf hM; intro a w3 B3 hf hM hB hk
  have hbB3 : w.heap.size ≤ B3 := by have := hk0.size; omega
  have hk0 := hk0.then hk (by intro i hi h; simp only [Is, Mem.names, List.map_cons, List.map_nil, List.mem_cons, List.not_mem_nil, or_false] at h; omega)
  clear hk hB
  refine wpList_nil ?_
  refine hK2 _ _ ?_
  refine wp_seq_k (fun K3 hK3 => ?_)
  refine wp_region_lit ?_
  refine sr0 hf hM [12, 6, 5, 3] [{ os := [.ld 0 0, .ld 0 1, .ld 0 2, .ld 0 3] }] (env' := [(12, .val (.agg #[.int .i64 a0, .int .i64 b0, .int .i64 a1, .int .i64 b1])), (6, .val (.pointer (some ⟨B3 + 1, 0, none⟩))), (5, .val (.pointer (some ⟨B3, 0, none⟩))), (3, .val (.pointer (some ⟨B1 + 1, 0, none⟩)))]) (ob := [Ad B1 0, Ad B1 1, Ad B1 2, Ad B1 3]) (fun B => by as_aux_lemma => kernel_rfl) rfl (Ac (ad _ _) (Ac (ad _ _) (Ac (ad _ _) (Ao (ad _ _))))) ?_
  clear hf; intro a hf
  refine sxcall hf rfl rfl rfl rfl (g := 87) (vs := [.agg #[.int .i64 a0, .int .i64 b0, .int .i64 a1, .int .i64 b1]]) (ob := []) (by as_aux_lemma => kernel_rfl) An enters87 (right_box a0 b0 a1 b1 w3  ) ?_
  clear hf; rintro _ w4 a ⟨rfl, hk⟩ hf
  have hM := hM.keepNn hk
  have hk0 := hk0.trans hk.nn
  clear hk
  refine sr0 hf hM [14, 6, 5, 3] [{}] (env' := [(14, .val (.bool (boxRight a0 b0 a1 b1))), (6, .val (.pointer (some ⟨B3 + 1, 0, none⟩))), (5, .val (.pointer (some ⟨B3, 0, none⟩))), (3, .val (.pointer (some ⟨B1 + 1, 0, none⟩)))]) (ob := []) (fun B => by as_aux_lemma => kernel_rfl) rfl An ?_
  clear hf; intro a hf
  rcases Bool.eq_false_or_eq_true (boxRight a0 b0 a1 b1) with hg1 | hg1
  · have hg1r := hg1
    have hf := hf.prune [14, 6, 5, 3]
    replace hf : Fr 24 [(14, .val (.bool (boxRight a0 b0 a1 b1))), (6, .val (.pointer (some ⟨B3 + 1, 0, none⟩))), (5, .val (.pointer (some ⟨B3, 0, none⟩))), (3, .val (.pointer (some ⟨B1 + 1, 0, none⟩)))] a := hf
    replace hf := hf.conv (env' := [(14, .val (.bool true)), (6, .val (.pointer (some ⟨B3 + 1, 0, none⟩))), (5, .val (.pointer (some ⟨B3, 0, none⟩))), (3, .val (.pointer (some ⟨B1 + 1, 0, none⟩)))]) (Ac (congrArg Value.bool hg1r) (Ac rfl (Ac rfl (Ao rfl))))
    try simp only [Bool.or_eq_true, Bool.and_eq_true, Bool.not_eq_true', Bool.not_eq_false', Bool.or_eq_false_iff, Bool.and_eq_false_iff, decide_eq_true_eq, decide_eq_false_iff_not, beq_iff_eq, bne_iff_ne, beq_eq_false_iff_ne, bne_eq_false_iff_eq, Bool.and_true, Bool.true_and, ne_eq] at hg1
    refine sr0 hf hM [16, 15, 14, 6, 3] [{ os := [.ld 1 0, .ld 1 1, .ld 1 2, .ld 1 3] }, { os := [.ld 2 0, .ld 2 1] }] (env' := [(16, .val (.agg #[.int .i64 a0, .int .i64 b0])), (15, .val (.agg #[.int .i64 x0, .int .i64 y0, .int .i64 x1, .int .i64 y1])), (14, .val (.bool true)), (6, .val (.pointer (some ⟨B3 + 1, 0, none⟩))), (3, .val (.pointer (some ⟨B1 + 1, 0, none⟩)))]) (ob := [true = true, Ad (B1 + 1) 0, Ad (B1 + 1) 1, Ad (B1 + 1) 2, Ad (B1 + 1) 3, true = true, Ad B3 0, Ad B3 1]) (fun B => by as_aux_lemma => kernel_rfl) rfl (Ac rfl (Ac (ad _ _) (Ac (ad _ _) (Ac (ad _ _) (Ac (ad _ _) (Ac rfl (Ac (ad _ _) (Ao (ad _ _))))))))) ?_
    clear hf; intro a hf
    refine sxcallg hf rfl rfl rfl rfl rfl (g := 89) (vs := [.agg #[.int .i64 x0, .int .i64 y0, .int .i64 x1, .int .i64 y1], .agg #[.int .i64 a0, .int .i64 b0]]) (ob := []) (by as_aux_lemma => kernel_rfl) An enters89 (has_any x0 y0 x1 y1 a0 b0 w4  ) ?_
    clear hf; rintro _ w5 a ⟨rfl, hk⟩ hf
    have hM := hM.keepNn hk
    have hk0 := hk0.trans hk.nn
    clear hk
    refine sr0 hf hM [19, 6, 3] [{}, {}] (env' := [(19, .val (.bool (boxHas x0 y0 x1 y1 a0 b0))), (6, .val (.pointer (some ⟨B3 + 1, 0, none⟩))), (3, .val (.pointer (some ⟨B1 + 1, 0, none⟩)))]) (ob := []) (fun B => by as_aux_lemma => kernel_rfl) rfl An ?_
    clear hf; intro a hf
    rcases Bool.eq_false_or_eq_true (boxHas x0 y0 x1 y1 a0 b0) with hg2 | hg2
    · have hg2r := hg2
      have hf := hf.prune [19, 6, 3]
      replace hf : Fr 24 [(19, .val (.bool (boxHas x0 y0 x1 y1 a0 b0))), (6, .val (.pointer (some ⟨B3 + 1, 0, none⟩))), (3, .val (.pointer (some ⟨B1 + 1, 0, none⟩)))] a := hf
      replace hf := hf.conv (env' := [(19, .val (.bool true)), (6, .val (.pointer (some ⟨B3 + 1, 0, none⟩))), (3, .val (.pointer (some ⟨B1 + 1, 0, none⟩)))]) (Ac (congrArg Value.bool hg2r) (Ac rfl (Ao rfl)))
      try simp only [Bool.or_eq_true, Bool.and_eq_true, Bool.not_eq_true', Bool.not_eq_false', Bool.or_eq_false_iff, Bool.and_eq_false_iff, decide_eq_true_eq, decide_eq_false_iff_not, beq_iff_eq, bne_iff_ne, beq_eq_false_iff_ne, bne_eq_false_iff_eq, Bool.and_true, Bool.true_and, ne_eq] at hg2
      refine sr0 hf hM [21, 20, 19] [{ os := [.ld 1 0, .ld 1 1, .ld 1 2, .ld 1 3] }, { os := [.ld 3 0, .ld 3 1] }] (env' := [(21, .val (.agg #[.int .i64 a1, .int .i64 b1])), (20, .val (.agg #[.int .i64 x0, .int .i64 y0, .int .i64 x1, .int .i64 y1])), (19, .val (.bool true))]) (ob := [true = true, Ad (B1 + 1) 0, Ad (B1 + 1) 1, Ad (B1 + 1) 2, Ad (B1 + 1) 3, true = true, Ad (B3 + 1) 0, Ad (B3 + 1) 1]) (fun B => by as_aux_lemma => kernel_rfl) rfl (Ac rfl (Ac (ad _ _) (Ac (ad _ _) (Ac (ad _ _) (Ac (ad _ _) (Ac rfl (Ac (ad _ _) (Ao (ad _ _))))))))) ?_
      clear hf; intro a hf
      refine sxcallg hf rfl rfl rfl rfl rfl (g := 89) (vs := [.agg #[.int .i64 x0, .int .i64 y0, .int .i64 x1, .int .i64 y1], .agg #[.int .i64 a1, .int .i64 b1]]) (ob := []) (by as_aux_lemma => kernel_rfl) An enters89 (has_any x0 y0 x1 y1 a1 b1 w5  ) ?_
      clear hf; rintro _ w6 a ⟨rfl, hk⟩ hf
      have hM := hM.keepNn hk
      have hk0 := hk0.trans hk.nn
      clear hk
      refine sr0 hf hM [4] [{}, {}] (env' := [(4, .val (.bool (boxHas x0 y0 x1 y1 a1 b1)))]) (ob := []) (fun B => by as_aux_lemma => kernel_rfl) rfl An ?_
      clear hf; intro a hf
      refine wpList_nil ?_
      refine hK3 _ _ ?_
      refine wp_ret ?_
      refine sxret (fn := Tryd.f62) hf hM [] (l := [.bool (boxHas x0 y0 x1 y1 a1 b1)]) (M' := [⟨B1, 50, [.int .i64 a0, .int .i64 b0, .int .i64 a1, .int .i64 b1]⟩, ⟨B1 + 1, 50, [.int .i64 x0, .int .i64 y0, .int .i64 x1, .int .i64 y1]⟩, ⟨B3, 114, [.int .i64 a0, .int .i64 b0]⟩, ⟨B3 + 1, 114, [.int .i64 a1, .int .i64 b1]⟩]) (d' := false) (ob := []) (by kernel_rfl) (fun B => ⟨B, by as_aux_lemma => kernel_rfl⟩) rfl An ?_
      show (.bool (boxHas x0 y0 x1 y1 a1 b1) : Value) = .bool (boxInside a0 b0 a1 b1 x0 y0 x1 y1) ∧ Keep Nn w w6
      refine ⟨congrArg Value.bool ?_, hk0⟩
      rw [Bool.eq_iff_iff]
      simp only [boxHas, boxInside, boxRight, Bool.or_eq_true, Bool.and_eq_true, Bool.not_eq_true', Bool.not_eq_false', Bool.or_eq_false_iff, Bool.and_eq_false_iff, decide_eq_true_eq, decide_eq_false_iff_not, beq_iff_eq, Bool.false_eq_true, Bool.true_eq_false, false_iff, true_iff, iff_true, iff_false, not_true, not_false_iff, true_and, and_true, false_and, and_false, ge_iff_le, gt_iff_lt] at *
      try omega
    · have hg2r := hg2
      have hf := hf.prune [19, 6, 3]
      replace hf : Fr 24 [(19, .val (.bool (boxHas x0 y0 x1 y1 a0 b0))), (6, .val (.pointer (some ⟨B3 + 1, 0, none⟩))), (3, .val (.pointer (some ⟨B1 + 1, 0, none⟩)))] a := hf
      replace hf := hf.conv (env' := [(19, .val (.bool false)), (6, .val (.pointer (some ⟨B3 + 1, 0, none⟩))), (3, .val (.pointer (some ⟨B1 + 1, 0, none⟩)))]) (Ac (congrArg Value.bool hg2r) (Ac rfl (Ao rfl)))
      try simp only [Bool.or_eq_true, Bool.and_eq_true, Bool.not_eq_true', Bool.not_eq_false', Bool.or_eq_false_iff, Bool.and_eq_false_iff, decide_eq_true_eq, decide_eq_false_iff_not, beq_iff_eq, bne_iff_ne, beq_eq_false_iff_ne, bne_eq_false_iff_eq, Bool.and_true, Bool.true_and, ne_eq] at hg2
      refine sr0 hf hM [21, 20, 19] [{ g := .off }, { g := .off }] (env' := [(21, .val (undef)), (20, .val (undef)), (19, .val (.bool false))]) (ob := [false = !true, false = !true]) (fun B => by as_aux_lemma => kernel_rfl) rfl (Ac rfl (Ao rfl)) ?_
      clear hf; intro a hf
      refine sr0 hf hM [4] [{ g := .off }, {}, {}] (env' := [(4, .val (.bool false))]) (ob := [false = !true]) (fun B => by as_aux_lemma => kernel_rfl) rfl (Ao rfl) ?_
      clear hf; intro a hf
      refine wpList_nil ?_
      refine hK3 _ _ ?_
      refine wp_ret ?_
      refine sxret (fn := Tryd.f62) hf hM [] (l := [.bool false]) (M' := [⟨B1, 50, [.int .i64 a0, .int .i64 b0, .int .i64 a1, .int .i64 b1]⟩, ⟨B1 + 1, 50, [.int .i64 x0, .int .i64 y0, .int .i64 x1, .int .i64 y1]⟩, ⟨B3, 114, [.int .i64 a0, .int .i64 b0]⟩, ⟨B3 + 1, 114, [.int .i64 a1, .int .i64 b1]⟩]) (d' := false) (ob := []) (by kernel_rfl) (fun B => ⟨B, by as_aux_lemma => kernel_rfl⟩) rfl An ?_
      show (.bool false : Value) = .bool (boxInside a0 b0 a1 b1 x0 y0 x1 y1) ∧ Keep Nn w w5
      refine ⟨congrArg Value.bool ?_, hk0⟩
      rw [Bool.eq_iff_iff]
      simp only [boxHas, boxInside, boxRight, Bool.or_eq_true, Bool.and_eq_true, Bool.not_eq_true', Bool.not_eq_false', Bool.or_eq_false_iff, Bool.and_eq_false_iff, decide_eq_true_eq, decide_eq_false_iff_not, beq_iff_eq, Bool.false_eq_true, Bool.true_eq_false, false_iff, true_iff, iff_true, iff_false, not_true, not_false_iff, true_and, and_true, false_and, and_false, ge_iff_le, gt_iff_lt] at *
      try omega
  · have hg1r := hg1
    have hf := hf.prune [14, 6, 5, 3]
    replace hf : Fr 24 [(14, .val (.bool (boxRight a0 b0 a1 b1))), (6, .val (.pointer (some ⟨B3 + 1, 0, none⟩))), (5, .val (.pointer (some ⟨B3, 0, none⟩))), (3, .val (.pointer (some ⟨B1 + 1, 0, none⟩)))] a := hf
    replace hf := hf.conv (env' := [(14, .val (.bool false)), (6, .val (.pointer (some ⟨B3 + 1, 0, none⟩))), (5, .val (.pointer (some ⟨B3, 0, none⟩))), (3, .val (.pointer (some ⟨B1 + 1, 0, none⟩)))]) (Ac (congrArg Value.bool hg1r) (Ac rfl (Ac rfl (Ao rfl))))
    try simp only [Bool.or_eq_true, Bool.and_eq_true, Bool.not_eq_true', Bool.not_eq_false', Bool.or_eq_false_iff, Bool.and_eq_false_iff, decide_eq_true_eq, decide_eq_false_iff_not, beq_iff_eq, bne_iff_ne, beq_eq_false_iff_ne, bne_eq_false_iff_eq, Bool.and_true, Bool.true_and, ne_eq] at hg1
    refine sr0 hf hM [16, 15, 14, 6, 3] [{ g := .off }, { g := .off }] (env' := [(16, .val (undef)), (15, .val (undef)), (14, .val (.bool false)), (6, .val (.pointer (some ⟨B3 + 1, 0, none⟩))), (3, .val (.pointer (some ⟨B1 + 1, 0, none⟩)))]) (ob := [false = !true, false = !true]) (fun B => by as_aux_lemma => kernel_rfl) rfl (Ac rfl (Ao rfl)) ?_
    clear hf; intro a hf
    refine sr0 hf hM [21, 20, 19] [{ g := .off }, {}, {}, { g := .off }, { g := .off }] (env' := [(21, .val (undef)), (20, .val (undef)), (19, .val (.bool false))]) (ob := [false = !true, false = !true, false = !true]) (fun B => by as_aux_lemma => kernel_rfl) rfl (Ac rfl (Ac rfl (Ao rfl))) ?_
    clear hf; intro a hf
    refine sr0 hf hM [4] [{ g := .off }, {}, {}] (env' := [(4, .val (.bool false))]) (ob := [false = !true]) (fun B => by as_aux_lemma => kernel_rfl) rfl (Ao rfl) ?_
    clear hf; intro a hf
    refine wpList_nil ?_
    refine hK3 _ _ ?_
    refine wp_ret ?_
    refine sxret (fn := Tryd.f62) hf hM [] (l := [.bool false]) (M' := [⟨B1, 50, [.int .i64 a0, .int .i64 b0, .int .i64 a1, .int .i64 b1]⟩, ⟨B1 + 1, 50, [.int .i64 x0, .int .i64 y0, .int .i64 x1, .int .i64 y1]⟩, ⟨B3, 114, [.int .i64 a0, .int .i64 b0]⟩, ⟨B3 + 1, 114, [.int .i64 a1, .int .i64 b1]⟩]) (d' := false) (ob := []) (by kernel_rfl) (fun B => ⟨B, by as_aux_lemma => kernel_rfl⟩) rfl An ?_
    show (.bool false : Value) = .bool (boxInside a0 b0 a1 b1 x0 y0 x1 y1) ∧ Keep Nn w w4
    refine ⟨congrArg Value.bool ?_, hk0⟩
    rw [Bool.eq_iff_iff]
    simp only [boxHas, boxInside, boxRight, Bool.or_eq_true, Bool.and_eq_true, Bool.not_eq_true', Bool.not_eq_false', Bool.or_eq_false_iff, Bool.and_eq_false_iff, decide_eq_true_eq, decide_eq_false_iff_not, beq_iff_eq, Bool.false_eq_true, Bool.true_eq_false, false_iff, true_iff, iff_true, iff_false, not_true, not_false_iff, true_and, and_true, false_and, and_false, ge_iff_le, gt_iff_lt] at *
    try omega

set_option maxRecDepth 10000 in
set_option maxHeartbeats 4000000 in
theorem centre_ok (E : Nat → Addr) (x0 y0 x1 y1 : Int) (w : World) (hn0 : (boxRight x0 y0 x1 y1) = true) :
    Calls Tryd.prog 61 #[.agg #[.int .i64 x0, .int .i64 y0, .int .i64 x1, .int .i64 y1]] w (Ret fun v w' => v = .tuple #[.agg #[.int .i64 ((x0 + x1) / 2), .int .i64 ((y0 + y1) / 2)], .nilIface] ∧ Keep Nn w w') := by
  refine sxenter (n := 22) (args := [.agg #[.int .i64 x0, .int .i64 y0, .int .i64 x1, .int .i64 y1]]) Tryd.func61 rfl rfl rfl fun a hf => ?_
  replace hf : Fr 22 [(0, .val (.agg #[.int .i64 x0, .int .i64 y0, .int .i64 x1, .int .i64 y1]))] a := hf
  have hM : MemOk [] w := MemOk.nil w
  have hk0 : Keep Nn w w := Keep.refl _ _
  have hb := boxRight_iff.1 hn0
  refine wp_seq_k (fun K1 hK1 => ?_)
  refine wp_region_lit ?_
  refine sr hf hM [3, 2, 1] [{ os := [.nw] }, { os := [.nw] }, {}] (env' := fun B1 => [(3, .val (.nilIface)), (2, .val (.pointer (some ⟨B1 + 1, 0, none⟩))), (1, .val (.pointer (some ⟨B1, 0, none⟩)))]) (M' := fun B1 => [⟨B1, 50, [.int .i64 x0, .int .i64 y0, .int .i64 x1, .int .i64 y1]⟩, ⟨B1 + 1, 114, [.int .i64 0, .int .i64 0]⟩]) (ob := fun B1 => []) (fun B => by as_aux_lemma => kernel_rfl) (fun B1 => An) ?_
  clear hf hM; intro a w1 B1 hf hM hB hk
  have hbB1 : w.heap.size ≤ B1 := by have := hk0.size; omega
  have hk0 := hk0.then hk (by intro i _ h; cases h)
  clear hk hB
  refine wpList_nil ?_
  refine hK1 _ _ ?_
  refine wp_seq_k (fun K2 hK2 => ?_)
  refine wp_seq_k (fun K3 hK3 => ?_)
  refine wp_region_lit ?_
  refine sr0 hf hM [4, 3, 2, 1] [{ os := [.ld 0 0, .ld 0 1, .ld 0 2, .ld 0 3] }] (env' := [(4, .val (.agg #[.int .i64 x0, .int .i64 y0, .int .i64 x1, .int .i64 y1])), (3, .val (.nilIface)), (2, .val (.pointer (some ⟨B1 + 1, 0, none⟩))), (1, .val (.pointer (some ⟨B1, 0, none⟩)))]) (ob := [Ad B1 0, Ad B1 1, Ad B1 2, Ad B1 3]) (fun B => by as_aux_lemma => kernel_rfl) rfl (Ac (ad _ _) (Ac (ad _ _) (Ac (ad _ _) (Ao (ad _ _))))) ?_
  clear hf; intro a hf
  refine sxcall hf rfl rfl rfl rfl (g := 87) (vs := [.agg #[.int .i64 x0, .int .i64 y0, .int .i64 x1, .int .i64 y1]]) (ob := []) (by as_aux_lemma => kernel_rfl) An enters87 (right_box x0 y0 x1 y1 w1  ) ?_
  clear hf; rintro _ w2 a ⟨rfl, hk⟩ hf
  have hM := hM.keepNn hk
  have hk0 := hk0.trans hk.nn
  clear hk
  refine sr0 hf hM [6, 3, 2, 1] [{}] (env' := [(6, .val (.bool (!(boxRight x0 y0 x1 y1)))), (3, .val (.nilIface)), (2, .val (.pointer (some ⟨B1 + 1, 0, none⟩))), (1, .val (.pointer (some ⟨B1, 0, none⟩)))]) (ob := []) (fun B => by as_aux_lemma => kernel_rfl) rfl An ?_
  clear hf; intro a hf
  refine wpList_nil ?_
  refine hK3 _ _ ?_
  refine sxcond hf (b := !(boxRight x0 y0 x1 y1)) (by kernel_rfl) (fun h => absurd (h.symm.trans (by simp [hn0] : (!(boxRight x0 y0 x1 y1) : Bool) = false)) (by simp)) (fun _ => ?_)
  refine wp_skip ?_
  refine hK2 _ _ ?_
  refine wp_seq_k (fun K4 hK4 => ?_)
  refine wp_region_lit ?_
  refine sr hf hM [3, 2] [{}, { os := [.ld 0 0] }, {}, { os := [.ld 0 2] }, { hint := some (.int .i64 (x0 + x1)) }, { sp := true, hint := some (.int .i64 ((x0 + x1) / 2)) }, {}, { os := [.ld 0 1] }, {}, { os := [.ld 0 3] }, { hint := some (.int .i64 (y0 + y1)) }, { sp := true, hint := some (.int .i64 ((y0 + y1) / 2)) }, { sp := true }, { os := [.st 1 0, .st 1 1] }, {}] (env' := fun B4 => [(3, .val (.nilIface)), (2, .val (.pointer (some ⟨B1 + 1, 0, none⟩)))]) (M' := fun B4 => [⟨B1, 50, [.int .i64 x0, .int .i64 y0, .int .i64 x1, .int .i64 y1]⟩, ⟨B1 + 1, 114, [.int .i64 ((x0 + x1) / 2), .int .i64 ((y0 + y1) / 2)]⟩]) (ob := fun B4 => [Ad B1 0, Ad B1 2, (.int .i64 (IntKind.i64.wrap (x0 + x1)) : Value) = (.int .i64 (x0 + x1) : Value), 0 ≤ (1 : Int), (.int .i64 (Int.fdiv (x0 + x1) (2 ^ (min (1 : Int).toNat IntKind.i64.bits))) : Value) = (.int .i64 ((x0 + x1) / 2) : Value), Ad B1 1, Ad B1 3, (.int .i64 (IntKind.i64.wrap (y0 + y1)) : Value) = (.int .i64 (y0 + y1) : Value), 0 ≤ (1 : Int), (.int .i64 (Int.fdiv (y0 + y1) (2 ^ (min (1 : Int).toNat IntKind.i64.bits))) : Value) = (.int .i64 ((y0 + y1) / 2) : Value), Ad (B1 + 1) 0, Ad (B1 + 1) 1]) (fun B => by as_aux_lemma => kernel_rfl) (fun B4 => (Ac (ad _ _) (Ac (ad _ _) (Ac (wr (by omega)) (Ac (by omega) (Ac (shr1 _) (Ac (ad _ _) (Ac (ad _ _) (Ac (wr (by omega)) (Ac (by omega) (Ac (shr1 _) (Ac (ad _ _) (Ao (ad _ _)))))))))))))) ?_
  clear hf hM; intro a w3 B4 hf hM hB hk
  have hbB4 : w.heap.size ≤ B4 := by have := hk0.size; omega
  have hk0 := hk0.then hk (by intro i hi h; simp only [Is, Mem.names, List.map_cons, List.map_nil, List.mem_cons, List.not_mem_nil, or_false] at h; omega)
  clear hk hB
  refine wpList_nil ?_
  refine hK4 _ _ ?_
  refine wp_ret ?_
  refine sxret (fn := Tryd.f61) hf hM [.ld 1 0, .ld 1 1] (l := [.agg #[.int .i64 ((x0 + x1) / 2), .int .i64 ((y0 + y1) / 2)], .nilIface]) (M' := [⟨B1, 50, [.int .i64 x0, .int .i64 y0, .int .i64 x1, .int .i64 y1]⟩, ⟨B1 + 1, 114, [.int .i64 ((x0 + x1) / 2), .int .i64 ((y0 + y1) / 2)]⟩]) (d' := false) (ob := [Ad (B1 + 1) 0, Ad (B1 + 1) 1]) (by kernel_rfl) (fun B => ⟨B, by as_aux_lemma => kernel_rfl⟩) rfl (Ac (ad _ _) (Ao (ad _ _))) ?_
  show (.tuple #[.agg #[.int .i64 ((x0 + x1) / 2), .int .i64 ((y0 + y1) / 2)], .nilIface] : Value) = .tuple #[.agg #[.int .i64 ((x0 + x1) / 2), .int .i64 ((y0 + y1) / 2)], .nilIface] ∧ Keep Nn w w3
  exact ⟨rfl, hk0⟩

set_option maxRecDepth 10000 in
set_option maxHeartbeats 4000000 in
theorem centre_no (E : Nat → Addr) (x0 y0 x1 y1 : Int) (w : World) (hn0 : (boxRight x0 y0 x1 y1) = false) (hG : Errs [0, 1, 2, 3, 4, 5, 6, 7, 8, 9] w 185 E) :
    Calls Tryd.prog 61 #[.agg #[.int .i64 x0, .int .i64 y0, .int .i64 x1, .int .i64 y1]] w (Ret fun v w' => v = .tuple #[.agg #[.int .i64 0, .int .i64 0], .iface 185 (.pointer (some (E 6)))] ∧ Keep Nn w w') := by
  refine sxenter (n := 22) (args := [.agg #[.int .i64 x0, .int .i64 y0, .int .i64 x1, .int .i64 y1]]) Tryd.func61 rfl rfl rfl fun a hf => ?_
  replace hf : Fr 22 [(0, .val (.agg #[.int .i64 x0, .int .i64 y0, .int .i64 x1, .int .i64 y1]))] a := hf
  have hM : MemOk [] w := MemOk.nil w
  have hk0 : Keep Nn w w := Keep.refl _ _
  refine wp_seq_k (fun K1 hK1 => ?_)
  refine wp_region_lit ?_
  refine sr hf hM [3, 2, 1] [{ os := [.nw] }, { os := [.nw] }, {}] (env' := fun B1 => [(3, .val (.nilIface)), (2, .val (.pointer (some ⟨B1 + 1, 0, none⟩))), (1, .val (.pointer (some ⟨B1, 0, none⟩)))]) (M' := fun B1 => [⟨B1, 50, [.int .i64 x0, .int .i64 y0, .int .i64 x1, .int .i64 y1]⟩, ⟨B1 + 1, 114, [.int .i64 0, .int .i64 0]⟩]) (ob := fun B1 => []) (fun B => by as_aux_lemma => kernel_rfl) (fun B1 => An) ?_
  clear hf hM; intro a w1 B1 hf hM hB hk
  have hbB1 : w.heap.size ≤ B1 := by have := hk0.size; omega
  have hk0 := hk0.then hk (by intro i _ h; cases h)
  clear hk hB
  refine wpList_nil ?_
  refine hK1 _ _ ?_
  refine wp_seq_k (fun K2 hK2 => ?_)
  refine wp_seq_k (fun K3 hK3 => ?_)
  refine wp_region_lit ?_
  refine sr0 hf hM [4, 3, 2, 1] [{ os := [.ld 0 0, .ld 0 1, .ld 0 2, .ld 0 3] }] (env' := [(4, .val (.agg #[.int .i64 x0, .int .i64 y0, .int .i64 x1, .int .i64 y1])), (3, .val (.nilIface)), (2, .val (.pointer (some ⟨B1 + 1, 0, none⟩))), (1, .val (.pointer (some ⟨B1, 0, none⟩)))]) (ob := [Ad B1 0, Ad B1 1, Ad B1 2, Ad B1 3]) (fun B => by as_aux_lemma => kernel_rfl) rfl (Ac (ad _ _) (Ac (ad _ _) (Ac (ad _ _) (Ao (ad _ _))))) ?_
  clear hf; intro a hf
  refine sxcall hf rfl rfl rfl rfl (g := 87) (vs := [.agg #[.int .i64 x0, .int .i64 y0, .int .i64 x1, .int .i64 y1]]) (ob := []) (by as_aux_lemma => kernel_rfl) An enters87 (right_box x0 y0 x1 y1 w1  ) ?_
  clear hf; rintro _ w2 a ⟨rfl, hk⟩ hf
  have hM := hM.keepNn hk
  have hk0 := hk0.trans hk.nn
  clear hk
  refine sr0 hf hM [6, 3, 2, 1] [{}] (env' := [(6, .val (.bool (!(boxRight x0 y0 x1 y1)))), (3, .val (.nilIface)), (2, .val (.pointer (some ⟨B1 + 1, 0, none⟩))), (1, .val (.pointer (some ⟨B1, 0, none⟩)))]) (ob := []) (fun B => by as_aux_lemma => kernel_rfl) rfl An ?_
  clear hf; intro a hf
  refine wpList_nil ?_
  refine hK3 _ _ ?_
  refine sxcond hf (b := !(boxRight x0 y0 x1 y1)) (by kernel_rfl) (fun _ => ?_) (fun h => absurd (h.symm.trans (by simp [hn0] : (!(boxRight x0 y0 x1 y1) : Bool) = true)) (by simp))
  refine wp_seq_k (fun K4 hK4 => ?_)
  replace hM := hM.drew; replace hk0 := hk0.drew
  obtain ⟨C1, hC1d⟩ : ∃ C : World → Prop, C = fun w' => MemOk [⟨B1, 50, [.int .i64 x0, .int .i64 y0, .int .i64 x1, .int .i64 y1]⟩] w' ∧ Keep Nn w w' ∧ True := ⟨_, rfl⟩
  have hC1i : ∀ w', (MemOk [⟨B1, 50, [.int .i64 x0, .int .i64 y0, .int .i64 x1, .int .i64 y1]⟩] w' ∧ Keep Nn w w' ∧ True) → C1 w' := fun w' h => by rw [hC1d]; exact h
  have hC1e : ∀ w', C1 w' → (MemOk [⟨B1, 50, [.int .i64 x0, .int .i64 y0, .int .i64 x1, .int .i64 y1]⟩] w' ∧ Keep Nn w w' ∧ True) := fun w' h => by rw [hC1d] at h; exact h
  refine sxdraw (C := C1) (.leaf [(0, true), (1, true), (2, false), (3, true)]) (by kernel_rfl) (by kernel_rfl) (by as_aux_lemma => kernel_rfl) rfl (by as_aux_lemma => kernel_rfl) (by kernel_rfl) (hC1i _ ⟨hM.sub (.cons_cons _ (.cons _ .slnil)), hk0, trivial⟩) ?_
  refine sxleaf ?_
  have hC := (hC1i _ ⟨hM.sub (.cons_cons _ (.cons _ .slnil)), hk0, trivial⟩)
  refine sc0 hf hC (fun w' h => (hC1e w' h).1) [8, 7, 3, 2] [{ sp := true }, { os := [.ex (.iface 185 (.pointer (some (E 6))))] }] (env' := [(8, .val (.iface 185 (.pointer (some (E 6))))), (7, .val (.agg #[.int .i64 0, .int .i64 0])), (3, .val (.nilIface)), (2, .val (.pointer (some ⟨B1 + 1, 0, none⟩)))]) (ob := [(∀ w', C1 w' → w'.cell? ⟨6, 0, none⟩ = some (.iface 185 (.pointer (some (E 6)))))]) (by as_aux_lemma => kernel_rfl) rfl (Ao (fun w' hc => by obtain ⟨hM, hk0, hO⟩ := hC1e w' hc; exact (hk0.cell (hG.cell 6 (by decide)) (fun h => h)))) ?_
  clear hf; intro a hf
  refine scstep rfl ?_
  have hMs : MemOk [⟨B1 + 1, 114, [.int .i64 0, .int .i64 0]⟩] w2.drew := hM.sub (.cons _ (.cons_cons _ .slnil))
  refine sr hf hMs [8, 3, 2] [{ os := [.st 0 0, .st 0 1] }] (env' := fun B4 => [(8, .val (.iface 185 (.pointer (some (E 6))))), (3, .val (.nilIface)), (2, .val (.pointer (some ⟨B1 + 1, 0, none⟩)))]) (M' := fun B4 => [⟨B1 + 1, 114, [.int .i64 0, .int .i64 0]⟩]) (ob := fun B4 => [Ad (B1 + 1) 0, Ad (B1 + 1) 1]) (fun B => by as_aux_lemma => kernel_rfl) (fun B4 => (Ac (ad _ _) (Ao (ad _ _)))) ?_
  clear hf hMs; intro a w3 B4 hf hMs hB hk; clear hB
  have hM : MemOk [⟨B1, 50, [.int .i64 x0, .int .i64 y0, .int .i64 x1, .int .i64 y1]⟩, ⟨B1 + 1, 114, [.int .i64 0, .int .i64 0]⟩] w3 := MemOk.upd (M1 := [⟨B1, 50, [.int .i64 x0, .int .i64 y0, .int .i64 x1, .int .i64 y1]⟩]) (M2 := []) hM hk hMs rfl
  have hk0 := hk0.then hk (by intro i hi h; simp only [Is, Mem.names, List.map_cons, List.map_nil, List.mem_cons, List.not_mem_nil, or_false] at h; omega)
  clear hk hMs
  have hC := (hC1i _ ⟨hM.sub (.cons_cons _ (.cons _ .slnil)), hk0, trivial⟩)
  refine scdone hC ?_
  refine sc0 hf hC (fun w' h => (hC1e w' h).1) [3, 2] [{}] (env' := [(3, .val (.iface 185 (.pointer (some (E 6))))), (2, .val (.pointer (some ⟨B1 + 1, 0, none⟩)))]) (ob := []) (by as_aux_lemma => kernel_rfl) rfl An ?_
  clear hf; intro a hf
  clear hC
  show K4 _ _
  refine hK4 _ _ ?_
  refine wp_ret ?_
  refine sxret (fn := Tryd.f61) hf hM [.ld 1 0, .ld 1 1] (l := [.agg #[.int .i64 0, .int .i64 0], .iface 185 (.pointer (some (E 6)))]) (M' := [⟨B1, 50, [.int .i64 x0, .int .i64 y0, .int .i64 x1, .int .i64 y1]⟩, ⟨B1 + 1, 114, [.int .i64 0, .int .i64 0]⟩]) (d' := false) (ob := [Ad (B1 + 1) 0, Ad (B1 + 1) 1]) (by kernel_rfl) (fun B => ⟨B, by as_aux_lemma => kernel_rfl⟩) rfl (Ac (ad _ _) (Ao (ad _ _))) ?_
  show (.tuple #[.agg #[.int .i64 0, .int .i64 0], .iface 185 (.pointer (some (E 6)))] : Value) = .tuple #[.agg #[.int .i64 0, .int .i64 0], .iface 185 (.pointer (some (E 6)))] ∧ Keep Nn w w3
  exact ⟨rfl, hk0⟩

def ofOk (px py hx hy : Int) : Bool := decide (-1048576 ≤ px ∧ px ≤ 1048576 ∧ -1048576 ≤ py ∧ py ≤ 1048576 ∧ 0 ≤ hx ∧ hx ≤ 1048576 ∧ 0 ≤ hy ∧ hy ≤ 1048576)

set_option maxRecDepth 10000 in
set_option maxHeartbeats 4000000 in
theorem plof_ok (E : Nat → Addr) (px py hx hy : Int) (w : World) (hn0 : (ofOk px py hx hy) = true) (hG : Errs [0, 1, 2, 3, 4, 5, 6, 7, 8, 9] w 185 E) :
    Calls Tryd.prog 71 #[.agg #[.int .i64 px, .int .i64 py], .agg #[.int .i64 hx, .int .i64 hy]] w (Ret fun v w' => v = .tuple #[.agg #[.int .i64 (px - hx), .int .i64 (py - hy), .int .i64 (px + hx), .int .i64 (py + hy)], .nilIface] ∧ Keep Nn w w') := by
  refine sxenter (n := 66) (args := [.agg #[.int .i64 px, .int .i64 py], .agg #[.int .i64 hx, .int .i64 hy]]) Tryd.func71 rfl rfl rfl fun a hf => ?_
  replace hf : Fr 66 [(0, .val (.agg #[.int .i64 px, .int .i64 py])), (1, .val (.agg #[.int .i64 hx, .int .i64 hy]))] a := hf
  have hM : MemOk [] w := MemOk.nil w
  have hk0 : Keep Nn w w := Keep.refl _ _
  have hb := of_decide_eq_true hn0
  have h1 : within px 1048576 = true := by simp [within]; omega
  have h2 : within py 1048576 = true := by simp [within]; omega
  refine wp_seq_k (fun K1 hK1 => ?_)
  refine wp_region_lit ?_
  refine sr hf hM [5, 4, 3, 2] [{ os := [.nw] }, { os := [.nw] }, { os := [.nw] }, {}] (env' := fun B1 => [(5, .val (.nilIface)), (4, .val (.pointer (some ⟨B1 + 2, 0, none⟩))), (3, .val (.pointer (some ⟨B1 + 1, 0, none⟩))), (2, .val (.pointer (some ⟨B1, 0, none⟩)))]) (M' := fun B1 => [⟨B1, 114, [.int .i64 px, .int .i64 py]⟩, ⟨B1 + 1, 114, [.int .i64 hx, .int .i64 hy]⟩, ⟨B1 + 2, 50, [.int .i64 0, .int .i64 0, .int .i64 0, .int .i64 0]⟩]) (ob := fun B1 => []) (fun B => by as_aux_lemma => kernel_rfl) (fun B1 => An) ?_
  clear hf hM; intro a w1 B1 hf hM hB hk
  have hbB1 : w.heap.size ≤ B1 := by have := hk0.size; omega
  have hk0 := hk0.then hk (by intro i _ h; cases h)
  clear hk hB
  refine wpList_nil ?_
  refine hK1 _ _ ?_
  refine wp_seq_k (fun K2 hK2 => ?_)
  refine wp_seq_k (fun K3 hK3 => ?_)
  refine wp_region_lit ?_
  refine sr0 hf hM [13, 11, 5, 4, 3, 2] [{}, { os := [.ld 0 0] }, {}, { os := [.ld 0 1] }] (env' := [(13, .val (.int .i64 py)), (11, .val (.int .i64 px)), (5, .val (.nilIface)), (4, .val (.pointer (some ⟨B1 + 2, 0, none⟩))), (3, .val (.pointer (some ⟨B1 + 1, 0, none⟩))), (2, .val (.pointer (some ⟨B1, 0, none⟩)))]) (ob := [Ad B1 0, Ad B1 1]) (fun B => by as_aux_lemma => kernel_rfl) rfl (Ac (ad _ _) (Ao (ad _ _))) ?_
  clear hf; intro a hf
  refine sxbslice hf hM (t := 22) (e := 3) (len := 2) (cs := [.int .i64 px, .int .i64 py]) (ob := []) rfl rfl rfl rfl (by as_aux_lemma => kernel_rfl) An (by as_aux_lemma => kernel_rfl) ?_
  clear hf hM; intro a w2 B3 hf hM hB hk
  replace hM : MemOk [⟨B1, 114, [.int .i64 px, .int .i64 py]⟩, ⟨B1 + 1, 114, [.int .i64 hx, .int .i64 hy]⟩, ⟨B1 + 2, 50, [.int .i64 0, .int .i64 0, .int .i64 0, .int .i64 0]⟩, ⟨B3, 3, [.int .i64 px, .int .i64 py]⟩] w2 := hM
  have hbB3 : w.heap.size ≤ B3 := by have := hk0.size; omega
  have hk0 := hk0.trans hk.nn
  clear hk hB
  refine sr0 hf hM [16, 15, 14, 5, 4, 3, 2] [{}, {}] (env' := [(16, .val (.int .i64 0)), (15, .val (.int .i64 2)), (14, .val (.slice (some ⟨B3, 0, none⟩) 2 2)), (5, .val (.nilIface)), (4, .val (.pointer (some ⟨B1 + 2, 0, none⟩))), (3, .val (.pointer (some ⟨B1 + 1, 0, none⟩))), (2, .val (.pointer (some ⟨B1, 0, none⟩)))]) (ob := []) (fun B => by as_aux_lemma => kernel_rfl) rfl An ?_
  clear hf; intro a hf
  refine wpList_nil ?_
  refine hK3 _ _ ?_
  refine wp_block ?_
  refine wp_loop_rounds 3 ?_
  refine sxround (m := 2) fun L1 hL1 => ?_
  refine wp_seq_k (fun K4 hK4 => ?_)
  refine wp_region_lit ?_
  refine sr0 hf hM [17, 16, 15, 14, 5, 4, 3, 2] [{}] (env' := [(17, .val (.bool true)), (16, .val (.int .i64 0)), (15, .val (.int .i64 2)), (14, .val (.slice (some ⟨B3, 0, none⟩) 2 2)), (5, .val (.nilIface)), (4, .val (.pointer (some ⟨B1 + 2, 0, none⟩))), (3, .val (.pointer (some ⟨B1 + 1, 0, none⟩))), (2, .val (.pointer (some ⟨B1, 0, none⟩)))]) (ob := []) (fun B => by as_aux_lemma => kernel_rfl) rfl An ?_
  clear hf; intro a hf
  refine wpList_nil ?_
  refine hK4 _ _ ?_
  refine wp_seq_k (fun K5 hK5 => ?_)
  refine sxcond hf (b := true) (by kernel_rfl) (fun _ => ?_) (fun h => by cases h)
  refine wp_skip ?_
  refine hK5 _ _ ?_
  refine wp_seq_k (fun K6 hK6 => ?_)
  refine wp_block ?_
  refine wp_seq_k (fun K7 hK7 => ?_)
  refine wp_region_lit ?_
  refine sr0 hf hM [7, 16, 15, 14, 5, 4, 3, 2] [{ sp := true }, { os := [.ld 3 0] }, {}] (env' := [(7, .val (.int .i64 px)), (16, .val (.int .i64 0)), (15, .val (.int .i64 2)), (14, .val (.slice (some ⟨B3, 0, none⟩) 2 2)), (5, .val (.nilIface)), (4, .val (.pointer (some ⟨B1 + 2, 0, none⟩))), (3, .val (.pointer (some ⟨B1 + 1, 0, none⟩))), (2, .val (.pointer (some ⟨B1, 0, none⟩)))]) (ob := [(0 : Int) ≤ 0 ∧ (0 : Int) < (2 : Int), (some ⟨B3, 0, none⟩ : Option Addr).isSome = true, Ad B3 0]) (fun B => by as_aux_lemma => kernel_rfl) rfl (Ac (by omega) (Ac rfl (Ao (ad _ _)))) ?_
  clear hf; intro a hf
  refine wpList_nil ?_
  refine hK7 _ _ ?_
  refine wp_seq_k (fun K8 hK8 => ?_)
  refine wp_region_lit ?_
  refine sr0 hf hM [20, 16, 15, 14, 5, 4, 3, 2] [{}] (env' := [(20, .val (.int .i64 px)), (16, .val (.int .i64 0)), (15, .val (.int .i64 2)), (14, .val (.slice (some ⟨B3, 0, none⟩) 2 2)), (5, .val (.nilIface)), (4, .val (.pointer (some ⟨B1 + 2, 0, none⟩))), (3, .val (.pointer (some ⟨B1 + 1, 0, none⟩))), (2, .val (.pointer (some ⟨B1, 0, none⟩)))]) (ob := []) (fun B => by as_aux_lemma => kernel_rfl) rfl An ?_
  clear hf; intro a hf
  refine sxcall hf rfl rfl rfl rfl (g := 90) (vs := [.int .i64 px, .int .i64 1048576]) (ob := []) (by as_aux_lemma => kernel_rfl) An enters90 (within_any px 1048576 w2  (by omega)) ?_
  clear hf; rintro _ w3 a ⟨rfl, hk⟩ hf
  have hM := hM.keepNn hk
  have hk0 := hk0.trans hk.nn
  clear hk
  refine sr0 hf hM [22, 16, 15, 14, 5, 4, 3, 2] [{}] (env' := [(22, .val (.bool (!(within px 1048576)))), (16, .val (.int .i64 0)), (15, .val (.int .i64 2)), (14, .val (.slice (some ⟨B3, 0, none⟩) 2 2)), (5, .val (.nilIface)), (4, .val (.pointer (some ⟨B1 + 2, 0, none⟩))), (3, .val (.pointer (some ⟨B1 + 1, 0, none⟩))), (2, .val (.pointer (some ⟨B1, 0, none⟩)))]) (ob := []) (fun B => by as_aux_lemma => kernel_rfl) rfl An ?_
  clear hf; intro a hf
  refine wpList_nil ?_
  refine hK8 _ _ ?_
  refine sxcond hf (b := !(within px 1048576)) (by kernel_rfl) (fun h => absurd (h.symm.trans (by simp [h1] : (!(within px 1048576) : Bool) = false)) (by simp)) (fun _ => ?_)
  refine wp_skip ?_
  refine hK6 _ _ ?_
  refine wp_region_lit ?_
  refine sr0 hf hM [16, 15, 14, 5, 4, 3, 2] [{}, {}] (env' := [(16, .val (.int .i64 1)), (15, .val (.int .i64 2)), (14, .val (.slice (some ⟨B3, 0, none⟩) 2 2)), (5, .val (.nilIface)), (4, .val (.pointer (some ⟨B1 + 2, 0, none⟩))), (3, .val (.pointer (some ⟨B1 + 1, 0, none⟩))), (2, .val (.pointer (some ⟨B1, 0, none⟩)))]) (ob := []) (fun B => by as_aux_lemma => kernel_rfl) rfl An ?_
  clear hf; intro a hf
  refine wpList_nil ?_
  refine hL1 _ _ ?_
  refine sxround (m := 1) fun L2 hL2 => ?_
  refine wp_seq_k (fun K9 hK9 => ?_)
  refine wp_region_lit ?_
  refine sr0 hf hM [17, 16, 15, 14, 5, 4, 3, 2] [{}] (env' := [(17, .val (.bool true)), (16, .val (.int .i64 1)), (15, .val (.int .i64 2)), (14, .val (.slice (some ⟨B3, 0, none⟩) 2 2)), (5, .val (.nilIface)), (4, .val (.pointer (some ⟨B1 + 2, 0, none⟩))), (3, .val (.pointer (some ⟨B1 + 1, 0, none⟩))), (2, .val (.pointer (some ⟨B1, 0, none⟩)))]) (ob := []) (fun B => by as_aux_lemma => kernel_rfl) rfl An ?_
  clear hf; intro a hf
  refine wpList_nil ?_
  refine hK9 _ _ ?_
  refine wp_seq_k (fun K10 hK10 => ?_)
  refine sxcond hf (b := true) (by kernel_rfl) (fun _ => ?_) (fun h => by cases h)
  refine wp_skip ?_
  refine hK10 _ _ ?_
  refine wp_seq_k (fun K11 hK11 => ?_)
  refine wp_block ?_
  refine wp_seq_k (fun K12 hK12 => ?_)
  refine wp_region_lit ?_
  refine sr0 hf hM [7, 16, 15, 14, 5, 4, 3, 2] [{ sp := true }, { os := [.ld 3 1] }, {}] (env' := [(7, .val (.int .i64 py)), (16, .val (.int .i64 1)), (15, .val (.int .i64 2)), (14, .val (.slice (some ⟨B3, 0, none⟩) 2 2)), (5, .val (.nilIface)), (4, .val (.pointer (some ⟨B1 + 2, 0, none⟩))), (3, .val (.pointer (some ⟨B1 + 1, 0, none⟩))), (2, .val (.pointer (some ⟨B1, 0, none⟩)))]) (ob := [(0 : Int) ≤ 1 ∧ (1 : Int) < (2 : Int), (some ⟨B3, 0, none⟩ : Option Addr).isSome = true, Ad B3 1]) (fun B => by as_aux_lemma => kernel_rfl) rfl (Ac (by omega) (Ac rfl (Ao (ad _ _)))) ?_
  clear hf; intro a hf
  refine wpList_nil ?_
  refine hK12 _ _ ?_
  refine wp_seq_k (fun K13 hK13 => ?_)
  refine wp_region_lit ?_
  refine sr0 hf hM [20, 16, 15, 14, 5, 4, 3, 2] [{}] (env' := [(20, .val (.int .i64 py)), (16, .val (.int .i64 1)), (15, .val (.int .i64 2)), (14, .val (.slice (some ⟨B3, 0, none⟩) 2 2)), (5, .val (.nilIface)), (4, .val (.pointer (some ⟨B1 + 2, 0, none⟩))), (3, .val (.pointer (some ⟨B1 + 1, 0, none⟩))), (2, .val (.pointer (some ⟨B1, 0, none⟩)))]) (ob := []) (fun B => by as_aux_lemma => kernel_rfl) rfl An ?_
  clear hf; intro a hf
  refine sxcall hf rfl rfl rfl rfl (g := 90) (vs := [.int .i64 py, .int .i64 1048576]) (ob := []) (by as_aux_lemma => kernel_rfl) An enters90 (within_any py 1048576 w3  (by omega)) ?_
  clear hf; rintro _ w4 a ⟨rfl, hk⟩ hf
  have hM := hM.keepNn hk
  have hk0 := hk0.trans hk.nn
  clear hk
  refine sr0 hf hM [22, 16, 15, 14, 5, 4, 3, 2] [{}] (env' := [(22, .val (.bool (!(within py 1048576)))), (16, .val (.int .i64 1)), (15, .val (.int .i64 2)), (14, .val (.slice (some ⟨B3, 0, none⟩) 2 2)), (5, .val (.nilIface)), (4, .val (.pointer (some ⟨B1 + 2, 0, none⟩))), (3, .val (.pointer (some ⟨B1 + 1, 0, none⟩))), (2, .val (.pointer (some ⟨B1, 0, none⟩)))]) (ob := []) (fun B => by as_aux_lemma => kernel_rfl) rfl An ?_
  clear hf; intro a hf
  refine wpList_nil ?_
  refine hK13 _ _ ?_
  refine sxcond hf (b := !(within py 1048576)) (by kernel_rfl) (fun h => absurd (h.symm.trans (by simp [h2] : (!(within py 1048576) : Bool) = false)) (by simp)) (fun _ => ?_)
  refine wp_skip ?_
  refine hK11 _ _ ?_
  refine wp_region_lit ?_
  refine sr0 hf hM [16, 15, 14, 5, 4, 3, 2] [{}, {}] (env' := [(16, .val (.int .i64 2)), (15, .val (.int .i64 2)), (14, .val (.slice (some ⟨B3, 0, none⟩) 2 2)), (5, .val (.nilIface)), (4, .val (.pointer (some ⟨B1 + 2, 0, none⟩))), (3, .val (.pointer (some ⟨B1 + 1, 0, none⟩))), (2, .val (.pointer (some ⟨B1, 0, none⟩)))]) (ob := []) (fun B => by as_aux_lemma => kernel_rfl) rfl An ?_
  clear hf; intro a hf
  refine wpList_nil ?_
  refine hL2 _ _ ?_
  refine sxround (m := 0) fun L3 hL3 => ?_
  refine wp_seq_k (fun K14 hK14 => ?_)
  refine wp_region_lit ?_
  refine sr0 hf hM [17, 16, 15, 14, 5, 4, 3, 2] [{}] (env' := [(17, .val (.bool false)), (16, .val (.int .i64 2)), (15, .val (.int .i64 2)), (14, .val (.slice (some ⟨B3, 0, none⟩) 2 2)), (5, .val (.nilIface)), (4, .val (.pointer (some ⟨B1 + 2, 0, none⟩))), (3, .val (.pointer (some ⟨B1 + 1, 0, none⟩))), (2, .val (.pointer (some ⟨B1, 0, none⟩)))]) (ob := []) (fun B => by as_aux_lemma => kernel_rfl) rfl An ?_
  clear hf; intro a hf
  refine wpList_nil ?_
  refine hK14 _ _ ?_
  refine wp_seq_k (fun K15 hK15 => ?_)
  refine sxcond hf (b := false) (by kernel_rfl) (fun h => by cases h) (fun _ => ?_)
  refine wp_exit ?_
  refine hK2 _ _ ?_
  refine wp_seq_k (fun K16 hK16 => ?_)
  refine wp_seq_k (fun K17 hK17 => ?_)
  refine wp_region_lit ?_
  refine sr0 hf hM [29, 27, 5, 4, 3, 2] [{}, { os := [.ld 1 0] }, {}, { os := [.ld 1 1] }] (env' := [(29, .val (.int .i64 hy)), (27, .val (.int .i64 hx)), (5, .val (.nilIface)), (4, .val (.pointer (some ⟨B1 + 2, 0, none⟩))), (3, .val (.pointer (some ⟨B1 + 1, 0, none⟩))), (2, .val (.pointer (some ⟨B1, 0, none⟩)))]) (ob := [Ad (B1 + 1) 0, Ad (B1 + 1) 1]) (fun B => by as_aux_lemma => kernel_rfl) rfl (Ac (ad _ _) (Ao (ad _ _))) ?_
  clear hf; intro a hf
  refine sxbslice hf hM (t := 22) (e := 3) (len := 2) (cs := [.int .i64 hx, .int .i64 hy]) (ob := []) rfl rfl rfl rfl (by as_aux_lemma => kernel_rfl) An (by as_aux_lemma => kernel_rfl) ?_
  clear hf hM; intro a w5 B17 hf hM hB hk
  replace hM : MemOk [⟨B1, 114, [.int .i64 px, .int .i64 py]⟩, ⟨B1 + 1, 114, [.int .i64 hx, .int .i64 hy]⟩, ⟨B1 + 2, 50, [.int .i64 0, .int .i64 0, .int .i64 0, .int .i64 0]⟩, ⟨B3, 3, [.int .i64 px, .int .i64 py]⟩, ⟨B17, 3, [.int .i64 hx, .int .i64 hy]⟩] w5 := hM
  have hbB17 : w.heap.size ≤ B17 := by have := hk0.size; omega
  have hk0 := hk0.trans hk.nn
  clear hk hB
  refine sr0 hf hM [32, 31, 30, 5, 4, 3, 2] [{}, {}] (env' := [(32, .val (.int .i64 0)), (31, .val (.int .i64 2)), (30, .val (.slice (some ⟨B17, 0, none⟩) 2 2)), (5, .val (.nilIface)), (4, .val (.pointer (some ⟨B1 + 2, 0, none⟩))), (3, .val (.pointer (some ⟨B1 + 1, 0, none⟩))), (2, .val (.pointer (some ⟨B1, 0, none⟩)))]) (ob := []) (fun B => by as_aux_lemma => kernel_rfl) rfl An ?_
  clear hf; intro a hf
  refine wpList_nil ?_
  refine hK17 _ _ ?_
  refine wp_block ?_
  refine wp_loop_rounds 3 ?_
  refine sxround (m := 2) fun L4 hL4 => ?_
  refine wp_seq_k (fun K18 hK18 => ?_)
  refine wp_region_lit ?_
  refine sr0 hf hM [33, 32, 31, 30, 5, 4, 3, 2] [{}] (env' := [(33, .val (.bool true)), (32, .val (.int .i64 0)), (31, .val (.int .i64 2)), (30, .val (.slice (some ⟨B17, 0, none⟩) 2 2)), (5, .val (.nilIface)), (4, .val (.pointer (some ⟨B1 + 2, 0, none⟩))), (3, .val (.pointer (some ⟨B1 + 1, 0, none⟩))), (2, .val (.pointer (some ⟨B1, 0, none⟩)))]) (ob := []) (fun B => by as_aux_lemma => kernel_rfl) rfl An ?_
  clear hf; intro a hf
  refine wpList_nil ?_
  refine hK18 _ _ ?_
  refine wp_seq_k (fun K19 hK19 => ?_)
  refine sxcond hf (b := true) (by kernel_rfl) (fun _ => ?_) (fun h => by cases h)
  refine wp_skip ?_
  refine hK19 _ _ ?_
  refine wp_seq_k (fun K20 hK20 => ?_)
  refine wp_block ?_
  refine wp_seq_k (fun K21 hK21 => ?_)
  refine wp_region_lit ?_
  refine sr0 hf hM [9, 32, 31, 30, 5, 4, 3, 2] [{ sp := true }, { os := [.ld 4 0] }, {}] (env' := [(9, .val (.int .i64 hx)), (32, .val (.int .i64 0)), (31, .val (.int .i64 2)), (30, .val (.slice (some ⟨B17, 0, none⟩) 2 2)), (5, .val (.nilIface)), (4, .val (.pointer (some ⟨B1 + 2, 0, none⟩))), (3, .val (.pointer (some ⟨B1 + 1, 0, none⟩))), (2, .val (.pointer (some ⟨B1, 0, none⟩)))]) (ob := [(0 : Int) ≤ 0 ∧ (0 : Int) < (2 : Int), (some ⟨B17, 0, none⟩ : Option Addr).isSome = true, Ad B17 0]) (fun B => by as_aux_lemma => kernel_rfl) rfl (Ac (by omega) (Ac rfl (Ao (ad _ _)))) ?_
  clear hf; intro a hf
  refine wpList_nil ?_
  refine hK21 _ _ ?_
  refine wp_seq_k (fun K22 hK22 => ?_)
  refine wp_region_lit ?_
  refine sr0 hf hM [41, 40, 39, 32, 31, 30, 5, 4, 3, 2] [{}, {}, {}, { g := .sym }, { g := .sym }, { hint := some (.bool ((decide ((hx : Int) < 0)) || (decide ((hx : Int) > 1048576)))) }] (env' := [(41, .val (.bool ((decide ((hx : Int) < 0)) || (decide ((hx : Int) > 1048576))))), (40, .gd (decide ((hx : Int) < 0)) false (.bool (decide ((hx : Int) > 1048576)))), (39, .gd (decide ((hx : Int) < 0)) false (.int .i64 hx)), (32, .val (.int .i64 0)), (31, .val (.int .i64 2)), (30, .val (.slice (some ⟨B17, 0, none⟩) 2 2)), (5, .val (.nilIface)), (4, .val (.pointer (some ⟨B1 + 2, 0, none⟩))), (3, .val (.pointer (some ⟨B1 + 1, 0, none⟩))), (2, .val (.pointer (some ⟨B1, 0, none⟩)))]) (ob := [((decide ((hx : Int) < 0)) = false → (decide ((hx : Int) < 0)) = (decide ((hx : Int) < 0))), ((decide ((hx : Int) < 0)) = false → (decide ((hx : Int) < 0)) = (decide ((hx : Int) < 0))), (bif (decide ((hx : Int) < 0)) then (.bool true : Value) else .bool (decide ((hx : Int) > 1048576))) = .bool ((decide ((hx : Int) < 0)) || (decide ((hx : Int) > 1048576)))]) (fun B => by as_aux_lemma => kernel_rfl) rfl (Ac (fun hgd => rfl) (Ac (fun _ => rfl) (Ao (pick_or _ _)))) ?_
  clear hf; intro a hf
  refine wpList_nil ?_
  refine hK22 _ _ ?_
  refine sxcond hf (b := ((decide ((hx : Int) < 0)) || (decide ((hx : Int) > 1048576)))) (by kernel_rfl) (fun hc7 => ?_) (fun hc7 => ?_)
  · have hc7r := hc7
    try simp only [Bool.or_eq_true, Bool.and_eq_true, Bool.not_eq_true', Bool.not_eq_false', Bool.or_eq_false_iff, Bool.and_eq_false_iff, decide_eq_true_eq, decide_eq_false_iff_not, beq_iff_eq, bne_iff_ne, beq_eq_false_iff_ne, bne_eq_false_iff_eq, Bool.and_true, Bool.true_and, ne_eq] at hc7
    exfalso; omega
  · have hc7r := hc7
    try simp only [Bool.or_eq_true, Bool.and_eq_true, Bool.not_eq_true', Bool.not_eq_false', Bool.or_eq_false_iff, Bool.and_eq_false_iff, decide_eq_true_eq, decide_eq_false_iff_not, beq_iff_eq, bne_iff_ne, beq_eq_false_iff_ne, bne_eq_false_iff_eq, Bool.and_true, Bool.true_and, ne_eq] at hc7
    refine wp_skip ?_
    refine hK20 _ _ ?_
    refine wp_region_lit ?_
    refine sr0 hf hM [32, 40, 39, 31, 30, 5, 4, 3, 2] [{}, {}] (env' := [(32, .val (.int .i64 1)), (40, .gd (decide ((hx : Int) < 0)) false (.bool (decide ((hx : Int) > 1048576)))), (39, .gd (decide ((hx : Int) < 0)) false (.int .i64 hx)), (31, .val (.int .i64 2)), (30, .val (.slice (some ⟨B17, 0, none⟩) 2 2)), (5, .val (.nilIface)), (4, .val (.pointer (some ⟨B1 + 2, 0, none⟩))), (3, .val (.pointer (some ⟨B1 + 1, 0, none⟩))), (2, .val (.pointer (some ⟨B1, 0, none⟩)))]) (ob := []) (fun B => by as_aux_lemma => kernel_rfl) rfl An ?_
    clear hf; intro a hf
    refine wpList_nil ?_
    refine hL4 _ _ ?_
    refine sxround (m := 1) fun L5 hL5 => ?_
    refine wp_seq_k (fun K23 hK23 => ?_)
    refine wp_region_lit ?_
    refine sr0 hf hM [33, 32, 40, 39, 31, 30, 5, 4, 3, 2] [{}] (env' := [(33, .val (.bool true)), (32, .val (.int .i64 1)), (40, .gd (decide ((hx : Int) < 0)) false (.bool (decide ((hx : Int) > 1048576)))), (39, .gd (decide ((hx : Int) < 0)) false (.int .i64 hx)), (31, .val (.int .i64 2)), (30, .val (.slice (some ⟨B17, 0, none⟩) 2 2)), (5, .val (.nilIface)), (4, .val (.pointer (some ⟨B1 + 2, 0, none⟩))), (3, .val (.pointer (some ⟨B1 + 1, 0, none⟩))), (2, .val (.pointer (some ⟨B1, 0, none⟩)))]) (ob := []) (fun B => by as_aux_lemma => kernel_rfl) rfl An ?_
    clear hf; intro a hf
    refine wpList_nil ?_
    refine hK23 _ _ ?_
    refine wp_seq_k (fun K24 hK24 => ?_)
    refine sxcond hf (b := true) (by kernel_rfl) (fun _ => ?_) (fun h => by cases h)
    refine wp_skip ?_
    refine hK24 _ _ ?_
    refine wp_seq_k (fun K25 hK25 => ?_)
    refine wp_block ?_
    refine wp_seq_k (fun K26 hK26 => ?_)
    refine wp_region_lit ?_
    refine sr0 hf hM [9, 32, 40, 39, 31, 30, 5, 4, 3, 2] [{ sp := true }, { os := [.ld 4 1] }, {}] (env' := [(9, .val (.int .i64 hy)), (32, .val (.int .i64 1)), (40, .gd (decide ((hx : Int) < 0)) false (.bool (decide ((hx : Int) > 1048576)))), (39, .gd (decide ((hx : Int) < 0)) false (.int .i64 hx)), (31, .val (.int .i64 2)), (30, .val (.slice (some ⟨B17, 0, none⟩) 2 2)), (5, .val (.nilIface)), (4, .val (.pointer (some ⟨B1 + 2, 0, none⟩))), (3, .val (.pointer (some ⟨B1 + 1, 0, none⟩))), (2, .val (.pointer (some ⟨B1, 0, none⟩)))]) (ob := [(0 : Int) ≤ 1 ∧ (1 : Int) < (2 : Int), (some ⟨B17, 0, none⟩ : Option Addr).isSome = true, Ad B17 1]) (fun B => by as_aux_lemma => kernel_rfl) rfl (Ac (by omega) (Ac rfl (Ao (ad _ _)))) ?_
    clear hf; intro a hf
    refine wpList_nil ?_
    refine hK26 _ _ ?_
    refine wp_seq_k (fun K27 hK27 => ?_)
    refine wp_region_lit ?_
    refine sr0 hf hM [41, 40, 39, 32, 31, 30, 5, 4, 3, 2] [{}, {}, {}, { g := .sym }, { g := .sym }, { hint := some (.bool ((decide ((hy : Int) < 0)) || (decide ((hy : Int) > 1048576)))) }] (env' := [(41, .val (.bool ((decide ((hy : Int) < 0)) || (decide ((hy : Int) > 1048576))))), (40, .gd (decide ((hy : Int) < 0)) false (.bool (decide ((hy : Int) > 1048576)))), (39, .gd (decide ((hy : Int) < 0)) false (.int .i64 hy)), (32, .val (.int .i64 1)), (31, .val (.int .i64 2)), (30, .val (.slice (some ⟨B17, 0, none⟩) 2 2)), (5, .val (.nilIface)), (4, .val (.pointer (some ⟨B1 + 2, 0, none⟩))), (3, .val (.pointer (some ⟨B1 + 1, 0, none⟩))), (2, .val (.pointer (some ⟨B1, 0, none⟩)))]) (ob := [((decide ((hy : Int) < 0)) = false → (decide ((hy : Int) < 0)) = (decide ((hy : Int) < 0))), ((decide ((hy : Int) < 0)) = false → (decide ((hy : Int) < 0)) = (decide ((hy : Int) < 0))), (bif (decide ((hy : Int) < 0)) then (.bool true : Value) else .bool (decide ((hy : Int) > 1048576))) = .bool ((decide ((hy : Int) < 0)) || (decide ((hy : Int) > 1048576)))]) (fun B => by as_aux_lemma => kernel_rfl) rfl (Ac (fun hgd => rfl) (Ac (fun _ => rfl) (Ao (pick_or _ _)))) ?_
    clear hf; intro a hf
    refine wpList_nil ?_
    refine hK27 _ _ ?_
    refine sxcond hf (b := ((decide ((hy : Int) < 0)) || (decide ((hy : Int) > 1048576)))) (by kernel_rfl) (fun hc9 => ?_) (fun hc9 => ?_)
    · have hc9r := hc9
      try simp only [Bool.or_eq_true, Bool.and_eq_true, Bool.not_eq_true', Bool.not_eq_false', Bool.or_eq_false_iff, Bool.and_eq_false_iff, decide_eq_true_eq, decide_eq_false_iff_not, beq_iff_eq, bne_iff_ne, beq_eq_false_iff_ne, bne_eq_false_iff_eq, Bool.and_true, Bool.true_and, ne_eq] at hc9
      exfalso; omega
    · have hc9r := hc9
      try simp only [Bool.or_eq_true, Bool.and_eq_true, Bool.not_eq_true', Bool.not_eq_false', Bool.or_eq_false_iff, Bool.and_eq_false_iff, decide_eq_true_eq, decide_eq_false_iff_not, beq_iff_eq, bne_iff_ne, beq_eq_false_iff_ne, bne_eq_false_iff_eq, Bool.and_true, Bool.true_and, ne_eq] at hc9
      refine wp_skip ?_
      refine hK25 _ _ ?_
      refine wp_region_lit ?_
      refine sr0 hf hM [32, 40, 39, 31, 30, 5, 4, 3, 2] [{}, {}] (env' := [(32, .val (.int .i64 2)), (40, .gd (decide ((hy : Int) < 0)) false (.bool (decide ((hy : Int) > 1048576)))), (39, .gd (decide ((hy : Int) < 0)) false (.int .i64 hy)), (31, .val (.int .i64 2)), (30, .val (.slice (some ⟨B17, 0, none⟩) 2 2)), (5, .val (.nilIface)), (4, .val (.pointer (some ⟨B1 + 2, 0, none⟩))), (3, .val (.pointer (some ⟨B1 + 1, 0, none⟩))), (2, .val (.pointer (some ⟨B1, 0, none⟩)))]) (ob := []) (fun B => by as_aux_lemma => kernel_rfl) rfl An ?_
      clear hf; intro a hf
      refine wpList_nil ?_
      refine hL5 _ _ ?_
      refine sxround (m := 0) fun L6 hL6 => ?_
      refine wp_seq_k (fun K28 hK28 => ?_)
      refine wp_region_lit ?_
      refine sr0 hf hM [33, 32, 40, 39, 31, 30, 5, 4, 3, 2] [{}] (env' := [(33, .val (.bool false)), (32, .val (.int .i64 2)), (40, .gd (decide ((hy : Int) < 0)) false (.bool (decide ((hy : Int) > 1048576)))), (39, .gd (decide ((hy : Int) < 0)) false (.int .i64 hy)), (31, .val (.int .i64 2)), (30, .val (.slice (some ⟨B17, 0, none⟩) 2 2)), (5, .val (.nilIface)), (4, .val (.pointer (some ⟨B1 + 2, 0, none⟩))), (3, .val (.pointer (some ⟨B1 + 1, 0, none⟩))), (2, .val (.pointer (some ⟨B1, 0, none⟩)))]) (ob := []) (fun B => by as_aux_lemma => kernel_rfl) rfl An ?_
      clear hf; intro a hf
      refine wpList_nil ?_
      refine hK28 _ _ ?_
      refine wp_seq_k (fun K29 hK29 => ?_)
      refine sxcond hf (b := false) (by kernel_rfl) (fun h => by cases h) (fun _ => ?_)
      refine wp_exit ?_
      refine hK16 _ _ ?_
      refine wp_seq_k (fun K30 hK30 => ?_)
      refine wp_region_lit ?_
      refine sr hf hM [5, 4] [{}, { os := [.ld 0 0] }, {}, { os := [.ld 1 0] }, { hint := some (.int .i64 (px - hx)) }, {}, { os := [.ld 0 1] }, {}, { os := [.ld 1 1] }, { hint := some (.int .i64 (py - hy)) }, {}, { os := [.ld 0 0] }, {}, { os := [.ld 1 0] }, { hint := some (.int .i64 (px + hx)) }, {}, { os := [.ld 0 1] }, {}, { os := [.ld 1 1] }, { hint := some (.int .i64 (py + hy)) }, { sp := true }, { os := [.st 2 0, .st 2 1, .st 2 2, .st 2 3] }, {}] (env' := fun B28 => [(5, .val (.nilIface)), (4, .val (.pointer (some ⟨B1 + 2, 0, none⟩)))]) (M' := fun B28 => [⟨B1, 114, [.int .i64 px, .int .i64 py]⟩, ⟨B1 + 1, 114, [.int .i64 hx, .int .i64 hy]⟩, ⟨B1 + 2, 50, [.int .i64 (px - hx), .int .i64 (py - hy), .int .i64 (px + hx), .int .i64 (py + hy)]⟩, ⟨B3, 3, [.int .i64 px, .int .i64 py]⟩, ⟨B17, 3, [.int .i64 hx, .int .i64 hy]⟩]) (ob := fun B28 => [Ad B1 0, Ad (B1 + 1) 0, (.int .i64 (IntKind.i64.wrap (px - hx)) : Value) = (.int .i64 (px - hx) : Value), Ad B1 1, Ad (B1 + 1) 1, (.int .i64 (IntKind.i64.wrap (py - hy)) : Value) = (.int .i64 (py - hy) : Value), Ad B1 0, Ad (B1 + 1) 0, (.int .i64 (IntKind.i64.wrap (px + hx)) : Value) = (.int .i64 (px + hx) : Value), Ad B1 1, Ad (B1 + 1) 1, (.int .i64 (IntKind.i64.wrap (py + hy)) : Value) = (.int .i64 (py + hy) : Value), Ad (B1 + 2) 0, Ad (B1 + 2) 1, Ad (B1 + 2) 2, Ad (B1 + 2) 3]) (fun B => by as_aux_lemma => kernel_rfl) (fun B28 => (Ac (ad _ _) (Ac (ad _ _) (Ac (wr (by omega)) (Ac (ad _ _) (Ac (ad _ _) (Ac (wr (by omega)) (Ac (ad _ _) (Ac (ad _ _) (Ac (wr (by omega)) (Ac (ad _ _) (Ac (ad _ _) (Ac (wr (by omega)) (Ac (ad _ _) (Ac (ad _ _) (Ac (ad _ _) (Ao (ad _ _)))))))))))))))))) ?_
      clear hf hM; intro a w6 B28 hf hM hB hk
      have hbB28 : w.heap.size ≤ B28 := by have := hk0.size; omega
      have hk0 := hk0.then hk (by intro i hi h; simp only [Is, Mem.names, List.map_cons, List.map_nil, List.mem_cons, List.not_mem_nil, or_false] at h; omega)
      clear hk hB
      refine wpList_nil ?_
      refine hK30 _ _ ?_
      refine wp_ret ?_
      refine sxret (fn := Tryd.f71) hf hM [.ld 2 0, .ld 2 1, .ld 2 2, .ld 2 3] (l := [.agg #[.int .i64 (px - hx), .int .i64 (py - hy), .int .i64 (px + hx), .int .i64 (py + hy)], .nilIface]) (M' := [⟨B1, 114, [.int .i64 px, .int .i64 py]⟩, ⟨B1 + 1, 114, [.int .i64 hx, .int .i64 hy]⟩, ⟨B1 + 2, 50, [.int .i64 (px - hx), .int .i64 (py - hy), .int .i64 (px + hx), .int .i64 (py + hy)]⟩, ⟨B3, 3, [.int .i64 px, .int .i64 py]⟩, ⟨B17, 3, [.int .i64 hx, .int .i64 hy]⟩]) (d' := false) (ob := [Ad (B1 + 2) 0, Ad (B1 + 2) 1, Ad (B1 + 2) 2, Ad (B1 + 2) 3]) (by kernel_rfl) (fun B => ⟨B, by as_aux_lemma => kernel_rfl⟩) rfl (Ac (ad _ _) (Ac (ad _ _) (Ac (ad _ _) (Ao (ad _ _))))) ?_
      show (.tuple #[.agg #[.int .i64 (px - hx), .int .i64 (py - hy), .int .i64 (px + hx), .int .i64 (py + hy)], .nilIface] : Value) = .tuple #[.agg #[.int .i64 (px - hx), .int .i64 (py - hy), .int .i64 (px + hx), .int .i64 (py + hy)], .nilIface] ∧ Keep Nn w w6
      exact ⟨rfl, hk0⟩

set_option maxRecDepth 10000 in
set_option maxHeartbeats 4000000 in
theorem plof_no (E : Nat → Addr) (px py hx hy : Int) (w : World) (hn0 : (ofOk px py hx hy) = false) (hG : Errs [0, 1, 2, 3, 4, 5, 6, 7, 8, 9] w 185 E) :
    Calls Tryd.prog 71 #[.agg #[.int .i64 px, .int .i64 py], .agg #[.int .i64 hx, .int .i64 hy]] w (Ret fun v w' => v = .tuple #[.agg #[.int .i64 0, .int .i64 0, .int .i64 0, .int .i64 0], .iface 185 (.pointer (some (E 0)))] ∧ Keep Nn w w') := by
  refine sxenter (n := 66) (args := [.agg #[.int .i64 px, .int .i64 py], .agg #[.int .i64 hx, .int .i64 hy]]) Tryd.func71 rfl rfl rfl fun a hf => ?_
  replace hf : Fr 66 [(0, .val (.agg #[.int .i64 px, .int .i64 py])), (1, .val (.agg #[.int .i64 hx, .int .i64 hy]))] a := hf
  have hM : MemOk [] w := MemOk.nil w
  have hk0 : Keep Nn w w := Keep.refl _ _
  refine wp_seq_k (fun K1 hK1 => ?_)
  refine wp_region_lit ?_
  refine sr hf hM [5, 4, 3, 2] [{ os := [.nw] }, { os := [.nw] }, { os := [.nw] }, {}] (env' := fun B1 => [(5, .val (.nilIface)), (4, .val (.pointer (some ⟨B1 + 2, 0, none⟩))), (3, .val (.pointer (some ⟨B1 + 1, 0, none⟩))), (2, .val (.pointer (some ⟨B1, 0, none⟩)))]) (M' := fun B1 => [⟨B1, 114, [.int .i64 px, .int .i64 py]⟩, ⟨B1 + 1, 114, [.int .i64 hx, .int .i64 hy]⟩, ⟨B1 + 2, 50, [.int .i64 0, .int .i64 0, .int .i64 0, .int .i64 0]⟩]) (ob := fun B1 => []) (fun B => by as_aux_lemma => kernel_rfl) (fun B1 => An) ?_
  clear hf hM; intro a w1 B1 hf hM hB hk
  have hbB1 : w.heap.size ≤ B1 := by have := hk0.size; omega
  have hk0 := hk0.then hk (by intro i _ h; cases h)
  clear hk hB
  refine wpList_nil ?_
  refine hK1 _ _ ?_
  refine wp_seq_k (fun K2 hK2 => ?_)
  refine wp_seq_k (fun K3 hK3 => ?_)
  refine wp_region_lit ?_
  refine sr0 hf hM [13, 11, 5, 4, 3, 2] [{}, { os := [.ld 0 0] }, {}, { os := [.ld 0 1] }] (env' := [(13, .val (.int .i64 py)), (11, .val (.int .i64 px)), (5, .val (.nilIface)), (4, .val (.pointer (some ⟨B1 + 2, 0, none⟩))), (3, .val (.pointer (some ⟨B1 + 1, 0, none⟩))), (2, .val (.pointer (some ⟨B1, 0, none⟩)))]) (ob := [Ad B1 0, Ad B1 1]) (fun B => by as_aux_lemma => kernel_rfl) rfl (Ac (ad _ _) (Ao (ad _ _))) ?_
  clear hf; intro a hf
  refine sxbslice hf hM (t := 22) (e := 3) (len := 2) (cs := [.int .i64 px, .int .i64 py]) (ob := []) rfl rfl rfl rfl (by as_aux_lemma => kernel_rfl) An (by as_aux_lemma => kernel_rfl) ?_
  clear hf hM; intro a w2 B3 hf hM hB hk
  replace hM : MemOk [⟨B1, 114, [.int .i64 px, .int .i64 py]⟩, ⟨B1 + 1, 114, [.int .i64 hx, .int .i64 hy]⟩, ⟨B1 + 2, 50, [.int .i64 0, .int .i64 0, .int .i64 0, .int .i64 0]⟩, ⟨B3, 3, [.int .i64 px, .int .i64 py]⟩] w2 := hM
  have hbB3 : w.heap.size ≤ B3 := by have := hk0.size; omega
  have hk0 := hk0.trans hk.nn
  clear hk hB
  refine sr0 hf hM [16, 15, 14, 5, 4, 3, 2] [{}, {}] (env' := [(16, .val (.int .i64 0)), (15, .val (.int .i64 2)), (14, .val (.slice (some ⟨B3, 0, none⟩) 2 2)), (5, .val (.nilIface)), (4, .val (.pointer (some ⟨B1 + 2, 0, none⟩))), (3, .val (.pointer (some ⟨B1 + 1, 0, none⟩))), (2, .val (.pointer (some ⟨B1, 0, none⟩)))]) (ob := []) (fun B => by as_aux_lemma => kernel_rfl) rfl An ?_
  clear hf; intro a hf
  refine wpList_nil ?_
  refine hK3 _ _ ?_
  refine wp_block ?_
  refine wp_loop_rounds 3 ?_
  refine sxround (m := 2) fun L1 hL1 => ?_
  refine wp_seq_k (fun K4 hK4 => ?_)
  refine wp_region_lit ?_
  refine sr0 hf hM [17, 16, 15, 14, 5, 4, 3, 2] [{}] (env' := [(17, .val (.bool true)), (16, .val (.int .i64 0)), (15, .val (.int .i64 2)), (14, .val (.slice (some ⟨B3, 0, none⟩) 2 2)), (5, .val (.nilIface)), (4, .val (.pointer (some ⟨B1 + 2, 0, none⟩))), (3, .val (.pointer (some ⟨B1 + 1, 0, none⟩))), (2, .val (.pointer (some ⟨B1, 0, none⟩)))]) (ob := []) (fun B => by as_aux_lemma => kernel_rfl) rfl An ?_
  clear hf; intro a hf
  refine wpList_nil ?_
  refine hK4 _ _ ?_
  refine wp_seq_k (fun K5 hK5 => ?_)
  refine sxcond hf (b := true) (by kernel_rfl) (fun _ => ?_) (fun h => by cases h)
  refine wp_skip ?_
  refine hK5 _ _ ?_
  refine wp_seq_k (fun K6 hK6 => ?_)
  refine wp_block ?_
  refine wp_seq_k (fun K7 hK7 => ?_)
  refine wp_region_lit ?_
  refine sr0 hf hM [7, 16, 15, 14, 5, 4, 3, 2] [{ sp := true }, { os := [.ld 3 0] }, {}] (env' := [(7, .val (.int .i64 px)), (16, .val (.int .i64 0)), (15, .val (.int .i64 2)), (14, .val (.slice (some ⟨B3, 0, none⟩) 2 2)), (5, .val (.nilIface)), (4, .val (.pointer (some ⟨B1 + 2, 0, none⟩))), (3, .val (.pointer (some ⟨B1 + 1, 0, none⟩))), (2, .val (.pointer (some ⟨B1, 0, none⟩)))]) (ob := [(0 : Int) ≤ 0 ∧ (0 : Int) < (2 : Int), (some ⟨B3, 0, none⟩ : Option Addr).isSome = true, Ad B3 0]) (fun B => by as_aux_lemma => kernel_rfl) rfl (Ac (by omega) (Ac rfl (Ao (ad _ _)))) ?_
  clear hf; intro a hf
  refine wpList_nil ?_
  refine hK7 _ _ ?_
  refine wp_seq_k (fun K8 hK8 => ?_)
  refine wp_region_lit ?_
  refine sr0 hf hM [20, 16, 15, 14, 5, 4, 3, 2] [{}] (env' := [(20, .val (.int .i64 px)), (16, .val (.int .i64 0)), (15, .val (.int .i64 2)), (14, .val (.slice (some ⟨B3, 0, none⟩) 2 2)), (5, .val (.nilIface)), (4, .val (.pointer (some ⟨B1 + 2, 0, none⟩))), (3, .val (.pointer (some ⟨B1 + 1, 0, none⟩))), (2, .val (.pointer (some ⟨B1, 0, none⟩)))]) (ob := []) (fun B => by as_aux_lemma => kernel_rfl) rfl An ?_
  clear hf; intro a hf
  refine sxcall hf rfl rfl rfl rfl (g := 90) (vs := [.int .i64 px, .int .i64 1048576]) (ob := []) (by as_aux_lemma => kernel_rfl) An enters90 (within_any px 1048576 w2  (by omega)) ?_
  clear hf; rintro _ w3 a ⟨rfl, hk⟩ hf
  have hM := hM.keepNn hk
  have hk0 := hk0.trans hk.nn
  clear hk
  refine sr0 hf hM [22, 16, 15, 14, 5, 4, 3, 2] [{}] (env' := [(22, .val (.bool (!(within px 1048576)))), (16, .val (.int .i64 0)), (15, .val (.int .i64 2)), (14, .val (.slice (some ⟨B3, 0, none⟩) 2 2)), (5, .val (.nilIface)), (4, .val (.pointer (some ⟨B1 + 2, 0, none⟩))), (3, .val (.pointer (some ⟨B1 + 1, 0, none⟩))), (2, .val (.pointer (some ⟨B1, 0, none⟩)))]) (ob := []) (fun B => by as_aux_lemma => kernel_rfl) rfl An ?_
  clear hf; intro a hf
  refine wpList_nil ?_
  refine hK8 _ _ ?_
  refine sxcond hf (b := !(within px 1048576)) (by kernel_rfl) (fun hc2 => ?_) (fun hc2 => ?_)
  · have hc2r := hc2
    try simp only [Bool.or_eq_true, Bool.and_eq_true, Bool.not_eq_true', Bool.not_eq_false', Bool.or_eq_false_iff, Bool.and_eq_false_iff, decide_eq_true_eq, decide_eq_false_iff_not, beq_iff_eq, bne_iff_ne, beq_eq_false_iff_ne, bne_eq_false_iff_eq, Bool.and_true, Bool.true_and, ne_eq] at hc2
    refine wp_seq_k (fun K9 hK9 => ?_)
    replace hM := hM.drew; replace hk0 := hk0.drew
    obtain ⟨C1, hC1d⟩ : ∃ C : World → Prop, C = fun w' => MemOk [⟨B1, 114, [.int .i64 px, .int .i64 py]⟩, ⟨B1 + 1, 114, [.int .i64 hx, .int .i64 hy]⟩, ⟨B3, 3, [.int .i64 px, .int .i64 py]⟩] w' ∧ Keep Nn w w' ∧ True := ⟨_, rfl⟩
    have hC1i : ∀ w', (MemOk [⟨B1, 114, [.int .i64 px, .int .i64 py]⟩, ⟨B1 + 1, 114, [.int .i64 hx, .int .i64 hy]⟩, ⟨B3, 3, [.int .i64 px, .int .i64 py]⟩] w' ∧ Keep Nn w w' ∧ True) → C1 w' := fun w' h => by rw [hC1d]; exact h
    have hC1e : ∀ w', C1 w' → (MemOk [⟨B1, 114, [.int .i64 px, .int .i64 py]⟩, ⟨B1 + 1, 114, [.int .i64 hx, .int .i64 hy]⟩, ⟨B3, 3, [.int .i64 px, .int .i64 py]⟩] w' ∧ Keep Nn w w' ∧ True) := fun w' h => by rw [hC1d] at h; exact h
    refine sxdraw (C := C1) (.leaf [(0, true), (1, true), (2, false), (3, true)]) (by kernel_rfl) (by kernel_rfl) (by as_aux_lemma => kernel_rfl) rfl (by as_aux_lemma => kernel_rfl) (by kernel_rfl) (hC1i _ ⟨hM.sub (.cons_cons _ (.cons_cons _ (.cons _ (.cons_cons _ .slnil)))), hk0, trivial⟩) ?_
    refine sxleaf ?_
    have hC := (hC1i _ ⟨hM.sub (.cons_cons _ (.cons_cons _ (.cons _ (.cons_cons _ .slnil)))), hk0, trivial⟩)
    refine sc0 hf hC (fun w' h => (hC1e w' h).1) [24, 23, 5, 4] [{ sp := true }, { os := [.ex (.iface 185 (.pointer (some (E 0))))] }] (env' := [(24, .val (.iface 185 (.pointer (some (E 0))))), (23, .val (.agg #[.int .i64 0, .int .i64 0, .int .i64 0, .int .i64 0])), (5, .val (.nilIface)), (4, .val (.pointer (some ⟨B1 + 2, 0, none⟩)))]) (ob := [(∀ w', C1 w' → w'.cell? ⟨0, 0, none⟩ = some (.iface 185 (.pointer (some (E 0)))))]) (by as_aux_lemma => kernel_rfl) rfl (Ao (fun w' hc => by obtain ⟨hM, hk0, hO⟩ := hC1e w' hc; exact (hk0.cell (hG.cell 0 (by decide)) (fun h => h)))) ?_
    clear hf; intro a hf
    refine scstep rfl ?_
    have hMs : MemOk [⟨B1 + 2, 50, [.int .i64 0, .int .i64 0, .int .i64 0, .int .i64 0]⟩] w3.drew := hM.sub (.cons _ (.cons _ (.cons_cons _ (.cons _ .slnil))))
    refine sr hf hMs [24, 5, 4] [{ os := [.st 0 0, .st 0 1, .st 0 2, .st 0 3] }] (env' := fun B9 => [(24, .val (.iface 185 (.pointer (some (E 0))))), (5, .val (.nilIface)), (4, .val (.pointer (some ⟨B1 + 2, 0, none⟩)))]) (M' := fun B9 => [⟨B1 + 2, 50, [.int .i64 0, .int .i64 0, .int .i64 0, .int .i64 0]⟩]) (ob := fun B9 => [Ad (B1 + 2) 0, Ad (B1 + 2) 1, Ad (B1 + 2) 2, Ad (B1 + 2) 3]) (fun B => by as_aux_lemma => kernel_rfl) (fun B9 => (Ac (ad _ _) (Ac (ad _ _) (Ac (ad _ _) (Ao (ad _ _)))))) ?_
    clear hf hMs; intro a w4 B9 hf hMs hB hk; clear hB
    have hM : MemOk [⟨B1, 114, [.int .i64 px, .int .i64 py]⟩, ⟨B1 + 1, 114, [.int .i64 hx, .int .i64 hy]⟩, ⟨B1 + 2, 50, [.int .i64 0, .int .i64 0, .int .i64 0, .int .i64 0]⟩, ⟨B3, 3, [.int .i64 px, .int .i64 py]⟩] w4 := MemOk.upd (M1 := [⟨B1, 114, [.int .i64 px, .int .i64 py]⟩, ⟨B1 + 1, 114, [.int .i64 hx, .int .i64 hy]⟩]) (M2 := [⟨B3, 3, [.int .i64 px, .int .i64 py]⟩]) hM hk hMs rfl
    have hk0 := hk0.then hk (by intro i hi h; simp only [Is, Mem.names, List.map_cons, List.map_nil, List.mem_cons, List.not_mem_nil, or_false] at h; omega)
    clear hk hMs
    have hC := (hC1i _ ⟨hM.sub (.cons_cons _ (.cons_cons _ (.cons _ (.cons_cons _ .slnil)))), hk0, trivial⟩)
    refine scdone hC ?_
    refine sc0 hf hC (fun w' h => (hC1e w' h).1) [5, 4] [{}] (env' := [(5, .val (.iface 185 (.pointer (some (E 0))))), (4, .val (.pointer (some ⟨B1 + 2, 0, none⟩)))]) (ob := []) (by as_aux_lemma => kernel_rfl) rfl An ?_
    clear hf; intro a hf
    clear hC
    show K9 _ _
    refine hK9 _ _ ?_
    refine wp_ret ?_
    refine sxret (fn := Tryd.f71) hf hM [.ld 2 0, .ld 2 1, .ld 2 2, .ld 2 3] (l := [.agg #[.int .i64 0, .int .i64 0, .int .i64 0, .int .i64 0], .iface 185 (.pointer (some (E 0)))]) (M' := [⟨B1, 114, [.int .i64 px, .int .i64 py]⟩, ⟨B1 + 1, 114, [.int .i64 hx, .int .i64 hy]⟩, ⟨B1 + 2, 50, [.int .i64 0, .int .i64 0, .int .i64 0, .int .i64 0]⟩, ⟨B3, 3, [.int .i64 px, .int .i64 py]⟩]) (d' := false) (ob := [Ad (B1 + 2) 0, Ad (B1 + 2) 1, Ad (B1 + 2) 2, Ad (B1 + 2) 3]) (by kernel_rfl) (fun B => ⟨B, by as_aux_lemma => kernel_rfl⟩) rfl (Ac (ad _ _) (Ac (ad _ _) (Ac (ad _ _) (Ao (ad _ _))))) ?_
    show (.tuple #[.agg #[.int .i64 0, .int .i64 0, .int .i64 0, .int .i64 0], .iface 185 (.pointer (some (E 0)))] : Value) = .tuple #[.agg #[.int .i64 0, .int .i64 0, .int .i64 0, .int .i64 0], .iface 185 (.pointer (some (E 0)))] ∧ Keep Nn w w4
    exact ⟨rfl, hk0⟩
  · have hc2r := hc2
    try simp only [Bool.or_eq_true, Bool.and_eq_true, Bool.not_eq_true', Bool.not_eq_false', Bool.or_eq_false_iff, Bool.and_eq_false_iff, decide_eq_true_eq, decide_eq_false_iff_not, beq_iff_eq, bne_iff_ne, beq_eq_false_iff_ne, bne_eq_false_iff_eq, Bool.and_true, Bool.true_and, ne_eq] at hc2
    refine wp_skip ?_
    refine hK6 _ _ ?_
    refine wp_region_lit ?_
    refine sr0 hf hM [16, 15, 14, 5, 4, 3, 2] [{}, {}] (env' := [(16, .val (.int .i64 1)), (15, .val (.int .i64 2)), (14, .val (.slice (some ⟨B3, 0, none⟩) 2 2)), (5, .val (.nilIface)), (4, .val (.pointer (some ⟨B1 + 2, 0, none⟩))), (3, .val (.pointer (some ⟨B1 + 1, 0, none⟩))), (2, .val (.pointer (some ⟨B1, 0, none⟩)))]) (ob := []) (fun B => by as_aux_lemma => kernel_rfl) rfl An ?_
    clear hf; intro a hf
    refine wpList_nil ?_
    refine hL1 _ _ ?_
    refine sxround (m := 1) fun L2 hL2 => ?_
    refine wp_seq_k (fun K10 hK10 => ?_)
    refine wp_region_lit ?_
    refine sr0 hf hM [17, 16, 15, 14, 5, 4, 3, 2] [{}] (env' := [(17, .val (.bool true)), (16, .val (.int .i64 1)), (15, .val (.int .i64 2)), (14, .val (.slice (some ⟨B3, 0, none⟩) 2 2)), (5, .val (.nilIface)), (4, .val (.pointer (some ⟨B1 + 2, 0, none⟩))), (3, .val (.pointer (some ⟨B1 + 1, 0, none⟩))), (2, .val (.pointer (some ⟨B1, 0, none⟩)))]) (ob := []) (fun B => by as_aux_lemma => kernel_rfl) rfl An ?_
    clear hf; intro a hf
    refine wpList_nil ?_
    refine hK10 _ _ ?_
    refine wp_seq_k (fun K11 hK11 => ?_)
    refine sxcond hf (b := true) (by kernel_rfl) (fun _ => ?_) (fun h => by cases h)
    refine wp_skip ?_
    refine hK11 _ _ ?_
    refine wp_seq_k (fun K12 hK12 => ?_)
    refine wp_block ?_
    refine wp_seq_k (fun K13 hK13 => ?_)
    refine wp_region_lit ?_
    refine sr0 hf hM [7, 16, 15, 14, 5, 4, 3, 2] [{ sp := true }, { os := [.ld 3 1] }, {}] (env' := [(7, .val (.int .i64 py)), (16, .val (.int .i64 1)), (15, .val (.int .i64 2)), (14, .val (.slice (some ⟨B3, 0, none⟩) 2 2)), (5, .val (.nilIface)), (4, .val (.pointer (some ⟨B1 + 2, 0, none⟩))), (3, .val (.pointer (some ⟨B1 + 1, 0, none⟩))), (2, .val (.pointer (some ⟨B1, 0, none⟩)))]) (ob := [(0 : Int) ≤ 1 ∧ (1 : Int) < (2 : Int), (some ⟨B3, 0, none⟩ : Option Addr).isSome = true, Ad B3 1]) (fun B => by as_aux_lemma => kernel_rfl) rfl (Ac (by omega) (Ac rfl (Ao (ad _ _)))) ?_
    clear hf; intro a hf
    refine wpList_nil ?_
    refine hK13 _ _ ?_
    refine wp_seq_k (fun K14 hK14 => ?_)
    refine wp_region_lit ?_
    refine sr0 hf hM [20, 16, 15, 14, 5, 4, 3, 2] [{}] (env' := [(20, .val (.int .i64 py)), (16, .val (.int .i64 1)), (15, .val (.int .i64 2)), (14, .val (.slice (some ⟨B3, 0, none⟩) 2 2)), (5, .val (.nilIface)), (4, .val (.pointer (some ⟨B1 + 2, 0, none⟩))), (3, .val (.pointer (some ⟨B1 + 1, 0, none⟩))), (2, .val (.pointer (some ⟨B1, 0, none⟩)))]) (ob := []) (fun B => by as_aux_lemma => kernel_rfl) rfl An ?_
    clear hf; intro a hf
    refine sxcall hf rfl rfl rfl rfl (g := 90) (vs := [.int .i64 py, .int .i64 1048576]) (ob := []) (by as_aux_lemma => kernel_rfl) An enters90 (within_any py 1048576 w3  (by omega)) ?_
    clear hf; rintro _ w5 a ⟨rfl, hk⟩ hf
    have hM := hM.keepNn hk
    have hk0 := hk0.trans hk.nn
    clear hk
    refine sr0 hf hM [22, 16, 15, 14, 5, 4, 3, 2] [{}] (env' := [(22, .val (.bool (!(within py 1048576)))), (16, .val (.int .i64 1)), (15, .val (.int .i64 2)), (14, .val (.slice (some ⟨B3, 0, none⟩) 2 2)), (5, .val (.nilIface)), (4, .val (.pointer (some ⟨B1 + 2, 0, none⟩))), (3, .val (.pointer (some ⟨B1 + 1, 0, none⟩))), (2, .val (.pointer (some ⟨B1, 0, none⟩)))]) (ob := []) (fun B => by as_aux_lemma => kernel_rfl) rfl An ?_
    clear hf; intro a hf
    refine wpList_nil ?_
    refine hK14 _ _ ?_
    refine sxcond hf (b := !(within py 1048576)) (by kernel_rfl) (fun hc4 => ?_) (fun hc4 => ?_)
    · have hc4r := hc4
      try simp only [Bool.or_eq_true, Bool.and_eq_true, Bool.not_eq_true', Bool.not_eq_false', Bool.or_eq_false_iff, Bool.and_eq_false_iff, decide_eq_true_eq, decide_eq_false_iff_not, beq_iff_eq, bne_iff_ne, beq_eq_false_iff_ne, bne_eq_false_iff_eq, Bool.and_true, Bool.true_and, ne_eq] at hc4
      refine wp_seq_k (fun K15 hK15 => ?_)
      replace hM := hM.drew; replace hk0 := hk0.drew
      obtain ⟨C2, hC2d⟩ : ∃ C : World → Prop, C = fun w' => MemOk [⟨B1, 114, [.int .i64 px, .int .i64 py]⟩, ⟨B1 + 1, 114, [.int .i64 hx, .int .i64 hy]⟩, ⟨B3, 3, [.int .i64 px, .int .i64 py]⟩] w' ∧ Keep Nn w w' ∧ True := ⟨_, rfl⟩
      have hC2i : ∀ w', (MemOk [⟨B1, 114, [.int .i64 px, .int .i64 py]⟩, ⟨B1 + 1, 114, [.int .i64 hx, .int .i64 hy]⟩, ⟨B3, 3, [.int .i64 px, .int .i64 py]⟩] w' ∧ Keep Nn w w' ∧ True) → C2 w' := fun w' h => by rw [hC2d]; exact h
      have hC2e : ∀ w', C2 w' → (MemOk [⟨B1, 114, [.int .i64 px, .int .i64 py]⟩, ⟨B1 + 1, 114, [.int .i64 hx, .int .i64 hy]⟩, ⟨B3, 3, [.int .i64 px, .int .i64 py]⟩] w' ∧ Keep Nn w w' ∧ True) := fun w' h => by rw [hC2d] at h; exact h
      refine sxdraw (C := C2) (.leaf [(0, true), (1, true), (2, false), (3, true)]) (by kernel_rfl) (by kernel_rfl) (by as_aux_lemma => kernel_rfl) rfl (by as_aux_lemma => kernel_rfl) (by kernel_rfl) (hC2i _ ⟨hM.sub (.cons_cons _ (.cons_cons _ (.cons _ (.cons_cons _ .slnil)))), hk0, trivial⟩) ?_
      refine sxleaf ?_
      have hC := (hC2i _ ⟨hM.sub (.cons_cons _ (.cons_cons _ (.cons _ (.cons_cons _ .slnil)))), hk0, trivial⟩)
      refine sc0 hf hC (fun w' h => (hC2e w' h).1) [24, 23, 5, 4] [{ sp := true }, { os := [.ex (.iface 185 (.pointer (some (E 0))))] }] (env' := [(24, .val (.iface 185 (.pointer (some (E 0))))), (23, .val (.agg #[.int .i64 0, .int .i64 0, .int .i64 0, .int .i64 0])), (5, .val (.nilIface)), (4, .val (.pointer (some ⟨B1 + 2, 0, none⟩)))]) (ob := [(∀ w', C2 w' → w'.cell? ⟨0, 0, none⟩ = some (.iface 185 (.pointer (some (E 0)))))]) (by as_aux_lemma => kernel_rfl) rfl (Ao (fun w' hc => by obtain ⟨hM, hk0, hO⟩ := hC2e w' hc; exact (hk0.cell (hG.cell 0 (by decide)) (fun h => h)))) ?_
      clear hf; intro a hf
      refine scstep rfl ?_
      have hMs : MemOk [⟨B1 + 2, 50, [.int .i64 0, .int .i64 0, .int .i64 0, .int .i64 0]⟩] w5.drew := hM.sub (.cons _ (.cons _ (.cons_cons _ (.cons _ .slnil))))
      refine sr hf hMs [24, 5, 4] [{ os := [.st 0 0, .st 0 1, .st 0 2, .st 0 3] }] (env' := fun B15 => [(24, .val (.iface 185 (.pointer (some (E 0))))), (5, .val (.nilIface)), (4, .val (.pointer (some ⟨B1 + 2, 0, none⟩)))]) (M' := fun B15 => [⟨B1 + 2, 50, [.int .i64 0, .int .i64 0, .int .i64 0, .int .i64 0]⟩]) (ob := fun B15 => [Ad (B1 + 2) 0, Ad (B1 + 2) 1, Ad (B1 + 2) 2, Ad (B1 + 2) 3]) (fun B => by as_aux_lemma => kernel_rfl) (fun B15 => (Ac (ad _ _) (Ac (ad _ _) (Ac (ad _ _) (Ao (ad _ _)))))) ?_
      clear hf hMs; intro a w6 B15 hf hMs hB hk; clear hB
      have hM : MemOk [⟨B1, 114, [.int .i64 px, .int .i64 py]⟩, ⟨B1 + 1, 114, [.int .i64 hx, .int .i64 hy]⟩, ⟨B1 + 2, 50, [.int .i64 0, .int .i64 0, .int .i64 0, .int .i64 0]⟩, ⟨B3, 3, [.int .i64 px, .int .i64 py]⟩] w6 := MemOk.upd (M1 := [⟨B1, 114, [.int .i64 px, .int .i64 py]⟩, ⟨B1 + 1, 114, [.int .i64 hx, .int .i64 hy]⟩]) (M2 := [⟨B3, 3, [.int .i64 px, .int .i64 py]⟩]) hM hk hMs rfl
      have hk0 := hk0.then hk (by intro i hi h; simp only [Is, Mem.names, List.map_cons, List.map_nil, List.mem_cons, List.not_mem_nil, or_false] at h; omega)
      clear hk hMs
      have hC := (hC2i _ ⟨hM.sub (.cons_cons _ (.cons_cons _ (.cons _ (.cons_cons _ .slnil)))), hk0, trivial⟩)
      refine scdone hC ?_
      refine sc0 hf hC (fun w' h => (hC2e w' h).1) [5, 4] [{}] (env' := [(5, .val (.iface 185 (.pointer (some (E 0))))), (4, .val (.pointer (some ⟨B1 + 2, 0, none⟩)))]) (ob := []) (by as_aux_lemma => kernel_rfl) rfl An ?_
      clear hf; intro a hf
      clear hC
      show K15 _ _
      refine hK15 _ _ ?_
      refine wp_ret ?_
      refine sxret (fn := Tryd.f71) hf hM [.ld 2 0, .ld 2 1, .ld 2 2, .ld 2 3] (l := [.agg #[.int .i64 0, .int .i64 0, .int .i64 0, .int .i64 0], .iface 185 (.pointer (some (E 0)))]) (M' := [⟨B1, 114, [.int .i64 px, .int .i64 py]⟩, ⟨B1 + 1, 114, [.int .i64 hx, .int .i64 hy]⟩, ⟨B1 + 2, 50, [.int .i64 0, .int .i64 0, .int .i64 0, .int .i64 0]⟩, ⟨B3, 3, [.int .i64 px, .int .i64 py]⟩]) (d' := false) (ob := [Ad (B1 + 2) 0, Ad (B1 + 2) 1, Ad (B1 + 2) 2, Ad (B1 + 2) 3]) (by kernel_rfl) (fun B => ⟨B, by as_aux_lemma => kernel_rfl⟩) rfl (Ac (ad _ _) (Ac (ad _ _) (Ac (ad _ _) (Ao (ad _ _))))) ?_
      show (.tuple #[.agg #[.int .i64 0, .int .i64 0, .int .i64 0, .int .i64 0], .iface 185 (.pointer (some (E 0)))] : Value) = .tuple #[.agg #[.int .i64 0, .int .i64 0, .int .i64 0, .int .i64 0], .iface 185 (.pointer (some (E 0)))] ∧ Keep Nn w w6
      exact ⟨rfl, hk0⟩
    · have hc4r := hc4
      try simp only [Bool.or_eq_true, Bool.and_eq_true, Bool.not_eq_true', Bool.not_eq_false', Bool.or_eq_false_iff, Bool.and_eq_false_iff, decide_eq_true_eq, decide_eq_false_iff_not, beq_iff_eq, bne_iff_ne, beq_eq_false_iff_ne, bne_eq_false_iff_eq, Bool.and_true, Bool.true_and, ne_eq] at hc4
      refine wp_skip ?_
      refine hK12 _ _ ?_
      refine wp_region_lit ?_
      refine sr0 hf hM [16, 15, 14, 5, 4, 3, 2] [{}, {}] (env' := [(16, .val (.int .i64 2)), (15, .val (.int .i64 2)), (14, .val (.slice (some ⟨B3, 0, none⟩) 2 2)), (5, .val (.nilIface)), (4, .val (.pointer (some ⟨B1 + 2, 0, none⟩))), (3, .val (.pointer (some ⟨B1 + 1, 0, none⟩))), (2, .val (.pointer (some ⟨B1, 0, none⟩)))]) (ob := []) (fun B => by as_aux_lemma => kernel_rfl) rfl An ?_
      clear hf; intro a hf
      refine wpList_nil ?_
      refine hL2 _ _ ?_
      refine sxround (m := 0) fun L3 hL3 => ?_
      refine wp_seq_k (fun K16 hK16 => ?_)
      refine wp_region_lit ?_
      refine sr0 hf hM [17, 16, 15, 14, 5, 4, 3, 2] [{}] (env' := [(17, .val (.bool false)), (16, .val (.int .i64 2)), (15, .val (.int .i64 2)), (14, .val (.slice (some ⟨B3, 0, none⟩) 2 2)), (5, .val (.nilIface)), (4, .val (.pointer (some ⟨B1 + 2, 0, none⟩))), (3, .val (.pointer (some ⟨B1 + 1, 0, none⟩))), (2, .val (.pointer (some ⟨B1, 0, none⟩)))]) (ob := []) (fun B => by as_aux_lemma => kernel_rfl) rfl An ?_
      clear hf; intro a hf
      refine wpList_nil ?_
      refine hK16 _ _ ?_
      refine wp_seq_k (fun K17 hK17 => ?_)
      refine sxcond hf (b := false) (by kernel_rfl) (fun h => by cases h) (fun _ => ?_)
      refine wp_exit ?_
      refine hK2 _ _ ?_
      refine wp_seq_k (fun K18 hK18 => ?_)
      refine wp_seq_k (fun K19 hK19 => ?_)
      refine wp_region_lit ?_
      refine sr0 hf hM [29, 27, 5, 4, 3, 2] [{}, { os := [.ld 1 0] }, {}, { os := [.ld 1 1] }] (env' := [(29, .val (.int .i64 hy)), (27, .val (.int .i64 hx)), (5, .val (.nilIface)), (4, .val (.pointer (some ⟨B1 + 2, 0, none⟩))), (3, .val (.pointer (some ⟨B1 + 1, 0, none⟩))), (2, .val (.pointer (some ⟨B1, 0, none⟩)))]) (ob := [Ad (B1 + 1) 0, Ad (B1 + 1) 1]) (fun B => by as_aux_lemma => kernel_rfl) rfl (Ac (ad _ _) (Ao (ad _ _))) ?_
      clear hf; intro a hf
      refine sxbslice hf hM (t := 22) (e := 3) (len := 2) (cs := [.int .i64 hx, .int .i64 hy]) (ob := []) rfl rfl rfl rfl (by as_aux_lemma => kernel_rfl) An (by as_aux_lemma => kernel_rfl) ?_
      clear hf hM; intro a w7 B19 hf hM hB hk
      replace hM : MemOk [⟨B1, 114, [.int .i64 px, .int .i64 py]⟩, ⟨B1 + 1, 114, [.int .i64 hx, .int .i64 hy]⟩, ⟨B1 + 2, 50, [.int .i64 0, .int .i64 0, .int .i64 0, .int .i64 0]⟩, ⟨B3, 3, [.int .i64 px, .int .i64 py]⟩, ⟨B19, 3, [.int .i64 hx, .int .i64 hy]⟩] w7 := hM
      have hbB19 : w.heap.size ≤ B19 := by have := hk0.size; omega
      have hk0 := hk0.trans hk.nn
      clear hk hB
      refine sr0 hf hM [32, 31, 30, 5, 4, 3, 2] [{}, {}] (env' := [(32, .val (.int .i64 0)), (31, .val (.int .i64 2)), (30, .val (.slice (some ⟨B19, 0, none⟩) 2 2)), (5, .val (.nilIface)), (4, .val (.pointer (some ⟨B1 + 2, 0, none⟩))), (3, .val (.pointer (some ⟨B1 + 1, 0, none⟩))), (2, .val (.pointer (some ⟨B1, 0, none⟩)))]) (ob := []) (fun B => by as_aux_lemma => kernel_rfl) rfl An ?_
      clear hf; intro a hf
      refine wpList_nil ?_
      refine hK19 _ _ ?_
      refine wp_block ?_
      refine wp_loop_rounds 3 ?_
      refine sxround (m := 2) fun L4 hL4 => ?_
      refine wp_seq_k (fun K20 hK20 => ?_)
      refine wp_region_lit ?_
      refine sr0 hf hM [33, 32, 31, 30, 5, 4, 3, 2] [{}] (env' := [(33, .val (.bool true)), (32, .val (.int .i64 0)), (31, .val (.int .i64 2)), (30, .val (.slice (some ⟨B19, 0, none⟩) 2 2)), (5, .val (.nilIface)), (4, .val (.pointer (some ⟨B1 + 2, 0, none⟩))), (3, .val (.pointer (some ⟨B1 + 1, 0, none⟩))), (2, .val (.pointer (some ⟨B1, 0, none⟩)))]) (ob := []) (fun B => by as_aux_lemma => kernel_rfl) rfl An ?_
      clear hf; intro a hf
      refine wpList_nil ?_
      refine hK20 _ _ ?_
      refine wp_seq_k (fun K21 hK21 => ?_)
      refine sxcond hf (b := true) (by kernel_rfl) (fun _ => ?_) (fun h => by cases h)
      refine wp_skip ?_
      refine hK21 _ _ ?_
      refine wp_seq_k (fun K22 hK22 => ?_)
      refine wp_block ?_
      refine wp_seq_k (fun K23 hK23 => ?_)
      refine wp_region_lit ?_
      refine sr0 hf hM [9, 32, 31, 30, 5, 4, 3, 2] [{ sp := true }, { os := [.ld 4 0] }, {}] (env' := [(9, .val (.int .i64 hx)), (32, .val (.int .i64 0)), (31, .val (.int .i64 2)), (30, .val (.slice (some ⟨B19, 0, none⟩) 2 2)), (5, .val (.nilIface)), (4, .val (.pointer (some ⟨B1 + 2, 0, none⟩))), (3, .val (.pointer (some ⟨B1 + 1, 0, none⟩))), (2, .val (.pointer (some ⟨B1, 0, none⟩)))]) (ob := [(0 : Int) ≤ 0 ∧ (0 : Int) < (2 : Int), (some ⟨B19, 0, none⟩ : Option Addr).isSome = true, Ad B19 0]) (fun B => by as_aux_lemma => kernel_rfl) rfl (Ac (by omega) (Ac rfl (Ao (ad _ _)))) ?_
      clear hf; intro a hf
      refine wpList_nil ?_
      refine hK23 _ _ ?_
      refine wp_seq_k (fun K24 hK24 => ?_)
      refine wp_region_lit ?_
      refine sr0 hf hM [41, 40, 39, 32, 31, 30, 5, 4, 3, 2] [{}, {}, {}, { g := .sym }, { g := .sym }, { hint := some (.bool ((decide ((hx : Int) < 0)) || (decide ((hx : Int) > 1048576)))) }] (env' := [(41, .val (.bool ((decide ((hx : Int) < 0)) || (decide ((hx : Int) > 1048576))))), (40, .gd (decide ((hx : Int) < 0)) false (.bool (decide ((hx : Int) > 1048576)))), (39, .gd (decide ((hx : Int) < 0)) false (.int .i64 hx)), (32, .val (.int .i64 0)), (31, .val (.int .i64 2)), (30, .val (.slice (some ⟨B19, 0, none⟩) 2 2)), (5, .val (.nilIface)), (4, .val (.pointer (some ⟨B1 + 2, 0, none⟩))), (3, .val (.pointer (some ⟨B1 + 1, 0, none⟩))), (2, .val (.pointer (some ⟨B1, 0, none⟩)))]) (ob := [((decide ((hx : Int) < 0)) = false → (decide ((hx : Int) < 0)) = (decide ((hx : Int) < 0))), ((decide ((hx : Int) < 0)) = false → (decide ((hx : Int) < 0)) = (decide ((hx : Int) < 0))), (bif (decide ((hx : Int) < 0)) then (.bool true : Value) else .bool (decide ((hx : Int) > 1048576))) = .bool ((decide ((hx : Int) < 0)) || (decide ((hx : Int) > 1048576)))]) (fun B => by as_aux_lemma => kernel_rfl) rfl (Ac (fun hgd => rfl) (Ac (fun _ => rfl) (Ao (pick_or _ _)))) ?_
      clear hf; intro a hf
      refine wpList_nil ?_
      refine hK24 _ _ ?_
      refine sxcond hf (b := ((decide ((hx : Int) < 0)) || (decide ((hx : Int) > 1048576)))) (by kernel_rfl) (fun hc7 => ?_) (fun hc7 => ?_)
      · have hc7r := hc7
        try simp only [Bool.or_eq_true, Bool.and_eq_true, Bool.not_eq_true', Bool.not_eq_false', Bool.or_eq_false_iff, Bool.and_eq_false_iff, decide_eq_true_eq, decide_eq_false_iff_not, beq_iff_eq, bne_iff_ne, beq_eq_false_iff_ne, bne_eq_false_iff_eq, Bool.and_true, Bool.true_and, ne_eq] at hc7
        refine wp_seq_k (fun K25 hK25 => ?_)
        replace hM := hM.drew; replace hk0 := hk0.drew
        obtain ⟨C3, hC3d⟩ : ∃ C : World → Prop, C = fun w' => MemOk [⟨B1, 114, [.int .i64 px, .int .i64 py]⟩, ⟨B1 + 1, 114, [.int .i64 hx, .int .i64 hy]⟩, ⟨B3, 3, [.int .i64 px, .int .i64 py]⟩, ⟨B19, 3, [.int .i64 hx, .int .i64 hy]⟩] w' ∧ Keep Nn w w' ∧ True := ⟨_, rfl⟩
        have hC3i : ∀ w', (MemOk [⟨B1, 114, [.int .i64 px, .int .i64 py]⟩, ⟨B1 + 1, 114, [.int .i64 hx, .int .i64 hy]⟩, ⟨B3, 3, [.int .i64 px, .int .i64 py]⟩, ⟨B19, 3, [.int .i64 hx, .int .i64 hy]⟩] w' ∧ Keep Nn w w' ∧ True) → C3 w' := fun w' h => by rw [hC3d]; exact h
        have hC3e : ∀ w', C3 w' → (MemOk [⟨B1, 114, [.int .i64 px, .int .i64 py]⟩, ⟨B1 + 1, 114, [.int .i64 hx, .int .i64 hy]⟩, ⟨B3, 3, [.int .i64 px, .int .i64 py]⟩, ⟨B19, 3, [.int .i64 hx, .int .i64 hy]⟩] w' ∧ Keep Nn w w' ∧ True) := fun w' h => by rw [hC3d] at h; exact h
        refine sxdraw (C := C3) (.leaf [(0, true), (1, true), (2, false), (3, true)]) (by kernel_rfl) (by kernel_rfl) (by as_aux_lemma => kernel_rfl) rfl (by as_aux_lemma => kernel_rfl) (by kernel_rfl) (hC3i _ ⟨hM.sub (.cons_cons _ (.cons_cons _ (.cons _ (.cons_cons _ (.cons_cons _ .slnil))))), hk0, trivial⟩) ?_
        refine sxleaf ?_
        have hC := (hC3i _ ⟨hM.sub (.cons_cons _ (.cons_cons _ (.cons _ (.cons_cons _ (.cons_cons _ .slnil))))), hk0, trivial⟩)
        refine sc0 hf hC (fun w' h => (hC3e w' h).1) [43, 42, 5, 4] [{ sp := true }, { os := [.ex (.iface 185 (.pointer (some (E 0))))] }] (env' := [(43, .val (.iface 185 (.pointer (some (E 0))))), (42, .val (.agg #[.int .i64 0, .int .i64 0, .int .i64 0, .int .i64 0])), (5, .val (.nilIface)), (4, .val (.pointer (some ⟨B1 + 2, 0, none⟩)))]) (ob := [(∀ w', C3 w' → w'.cell? ⟨0, 0, none⟩ = some (.iface 185 (.pointer (some (E 0)))))]) (by as_aux_lemma => kernel_rfl) rfl (Ao (fun w' hc => by obtain ⟨hM, hk0, hO⟩ := hC3e w' hc; exact (hk0.cell (hG.cell 0 (by decide)) (fun h => h)))) ?_
        clear hf; intro a hf
        refine scstep rfl ?_
        have hMs : MemOk [⟨B1 + 2, 50, [.int .i64 0, .int .i64 0, .int .i64 0, .int .i64 0]⟩] w7.drew := hM.sub (.cons _ (.cons _ (.cons_cons _ (.cons _ (.cons _ .slnil)))))
        refine sr hf hMs [43, 5, 4] [{ os := [.st 0 0, .st 0 1, .st 0 2, .st 0 3] }] (env' := fun B24 => [(43, .val (.iface 185 (.pointer (some (E 0))))), (5, .val (.nilIface)), (4, .val (.pointer (some ⟨B1 + 2, 0, none⟩)))]) (M' := fun B24 => [⟨B1 + 2, 50, [.int .i64 0, .int .i64 0, .int .i64 0, .int .i64 0]⟩]) (ob := fun B24 => [Ad (B1 + 2) 0, Ad (B1 + 2) 1, Ad (B1 + 2) 2, Ad (B1 + 2) 3]) (fun B => by as_aux_lemma => kernel_rfl) (fun B24 => (Ac (ad _ _) (Ac (ad _ _) (Ac (ad _ _) (Ao (ad _ _)))))) ?_
        clear hf hMs; intro a w8 B24 hf hMs hB hk; clear hB
        have hM : MemOk [⟨B1, 114, [.int .i64 px, .int .i64 py]⟩, ⟨B1 + 1, 114, [.int .i64 hx, .int .i64 hy]⟩, ⟨B1 + 2, 50, [.int .i64 0, .int .i64 0, .int .i64 0, .int .i64 0]⟩, ⟨B3, 3, [.int .i64 px, .int .i64 py]⟩, ⟨B19, 3, [.int .i64 hx, .int .i64 hy]⟩] w8 := MemOk.upd (M1 := [⟨B1, 114, [.int .i64 px, .int .i64 py]⟩, ⟨B1 + 1, 114, [.int .i64 hx, .int .i64 hy]⟩]) (M2 := [⟨B3, 3, [.int .i64 px, .int .i64 py]⟩, ⟨B19, 3, [.int .i64 hx, .int .i64 hy]⟩]) hM hk hMs rfl
        have hk0 := hk0.then hk (by intro i hi h; simp only [Is, Mem.names, List.map_cons, List.map_nil, List.mem_cons, List.not_mem_nil, or_false] at h; omega)
        clear hk hMs
        have hC := (hC3i _ ⟨hM.sub (.cons_cons _ (.cons_cons _ (.cons _ (.cons_cons _ (.cons_cons _ .slnil))))), hk0, trivial⟩)
        refine scdone hC ?_
        refine sc0 hf hC (fun w' h => (hC3e w' h).1) [5, 4] [{}] (env' := [(5, .val (.iface 185 (.pointer (some (E 0))))), (4, .val (.pointer (some ⟨B1 + 2, 0, none⟩)))]) (ob := []) (by as_aux_lemma => kernel_rfl) rfl An ?_
        clear hf; intro a hf
        clear hC
        show K25 _ _
        refine hK25 _ _ ?_
        refine wp_ret ?_
        refine sxret (fn := Tryd.f71) hf hM [.ld 2 0, .ld 2 1, .ld 2 2, .ld 2 3] (l := [.agg #[.int .i64 0, .int .i64 0, .int .i64 0, .int .i64 0], .iface 185 (.pointer (some (E 0)))]) (M' := [⟨B1, 114, [.int .i64 px, .int .i64 py]⟩, ⟨B1 + 1, 114, [.int .i64 hx, .int .i64 hy]⟩, ⟨B1 + 2, 50, [.int .i64 0, .int .i64 0, .int .i64 0, .int .i64 0]⟩, ⟨B3, 3, [.int .i64 px, .int .i64 py]⟩, ⟨B19, 3, [.int .i64 hx, .int .i64 hy]⟩]) (d' := false) (ob := [Ad (B1 + 2) 0, Ad (B1 + 2) 1, Ad (B1 + 2) 2, Ad (B1 + 2) 3]) (by kernel_rfl) (fun B => ⟨B, by as_aux_lemma => kernel_rfl⟩) rfl (Ac (ad _ _) (Ac (ad _ _) (Ac (ad _ _) (Ao (ad _ _))))) ?_
        show (.tuple #[.agg #[.int .i64 0, .int .i64 0, .int .i64 0, .int .i64 0], .iface 185 (.pointer (some (E 0)))] : Value) = .tuple #[.agg #[.int .i64 0, .int .i64 0, .int .i64 0, .int .i64 0], .iface 185 (.pointer (some (E 0)))] ∧ Keep Nn w w8
        exact ⟨rfl, hk0⟩
      · have hc7r := hc7
        try simp only [Bool.or_eq_true, Bool.and_eq_true, Bool.not_eq_true', Bool.not_eq_false', Bool.or_eq_false_iff, Bool.and_eq_false_iff, decide_eq_true_eq, decide_eq_false_iff_not, beq_iff_eq, bne_iff_ne, beq_eq_false_iff_ne, bne_eq_false_iff_eq, Bool.and_true, Bool.true_and, ne_eq] at hc7
        refine wp_skip ?_
        refine hK22 _ _ ?_
        refine wp_region_lit ?_
        refine sr0 hf hM [32, 40, 39, 31, 30, 5, 4, 3, 2] [{}, {}] (env' := [(32, .val (.int .i64 1)), (40, .gd (decide ((hx : Int) < 0)) false (.bool (decide ((hx : Int) > 1048576)))), (39, .gd (decide ((hx : Int) < 0)) false (.int .i64 hx)), (31, .val (.int .i64 2)), (30, .val (.slice (some ⟨B19, 0, none⟩) 2 2)), (5, .val (.nilIface)), (4, .val (.pointer (some ⟨B1 + 2, 0, none⟩))), (3, .val (.pointer (some ⟨B1 + 1, 0, none⟩))), (2, .val (.pointer (some ⟨B1, 0, none⟩)))]) (ob := []) (fun B => by as_aux_lemma => kernel_rfl) rfl An ?_
        clear hf; intro a hf
        refine wpList_nil ?_
        refine hL4 _ _ ?_
        refine sxround (m := 1) fun L5 hL5 => ?_
        refine wp_seq_k (fun K26 hK26 => ?_)
        refine wp_region_lit ?_
        refine sr0 hf hM [33, 32, 40, 39, 31, 30, 5, 4, 3, 2] [{}] (env' := [(33, .val (.bool true)), (32, .val (.int .i64 1)), (40, .gd (decide ((hx : Int) < 0)) false (.bool (decide ((hx : Int) > 1048576)))), (39, .gd (decide ((hx : Int) < 0)) false (.int .i64 hx)), (31, .val (.int .i64 2)), (30, .val (.slice (some ⟨B19, 0, none⟩) 2 2)), (5, .val (.nilIface)), (4, .val (.pointer (some ⟨B1 + 2, 0, none⟩))), (3, .val (.pointer (some ⟨B1 + 1, 0, none⟩))), (2, .val (.pointer (some ⟨B1, 0, none⟩)))]) (ob := []) (fun B => by as_aux_lemma => kernel_rfl) rfl An ?_
        clear hf; intro a hf
        refine wpList_nil ?_
        refine hK26 _ _ ?_
        refine wp_seq_k (fun K27 hK27 => ?_)
        refine sxcond hf (b := true) (by kernel_rfl) (fun _ => ?_) (fun h => by cases h)
        refine wp_skip ?_
        refine hK27 _ _ ?_
        refine wp_seq_k (fun K28 hK28 => ?_)
        refine wp_block ?_
        refine wp_seq_k (fun K29 hK29 => ?_)
        refine wp_region_lit ?_
        refine sr0 hf hM [9, 32, 40, 39, 31, 30, 5, 4, 3, 2] [{ sp := true }, { os := [.ld 4 1] }, {}] (env' := [(9, .val (.int .i64 hy)), (32, .val (.int .i64 1)), (40, .gd (decide ((hx : Int) < 0)) false (.bool (decide ((hx : Int) > 1048576)))), (39, .gd (decide ((hx : Int) < 0)) false (.int .i64 hx)), (31, .val (.int .i64 2)), (30, .val (.slice (some ⟨B19, 0, none⟩) 2 2)), (5, .val (.nilIface)), (4, .val (.pointer (some ⟨B1 + 2, 0, none⟩))), (3, .val (.pointer (some ⟨B1 + 1, 0, none⟩))), (2, .val (.pointer (some ⟨B1, 0, none⟩)))]) (ob := [(0 : Int) ≤ 1 ∧ (1 : Int) < (2 : Int), (some ⟨B19, 0, none⟩ : Option Addr).isSome = true, Ad B19 1]) (fun B => by as_aux_lemma => kernel_rfl) rfl (Ac (by omega) (Ac rfl (Ao (ad _ _)))) ?_
        clear hf; intro a hf
        refine wpList_nil ?_
        refine hK29 _ _ ?_
        refine wp_seq_k (fun K30 hK30 => ?_)
        refine wp_region_lit ?_
        refine sr0 hf hM [41, 40, 39, 32, 31, 30, 5, 4, 3, 2] [{}, {}, {}, { g := .sym }, { g := .sym }, { hint := some (.bool ((decide ((hy : Int) < 0)) || (decide ((hy : Int) > 1048576)))) }] (env' := [(41, .val (.bool ((decide ((hy : Int) < 0)) || (decide ((hy : Int) > 1048576))))), (40, .gd (decide ((hy : Int) < 0)) false (.bool (decide ((hy : Int) > 1048576)))), (39, .gd (decide ((hy : Int) < 0)) false (.int .i64 hy)), (32, .val (.int .i64 1)), (31, .val (.int .i64 2)), (30, .val (.slice (some ⟨B19, 0, none⟩) 2 2)), (5, .val (.nilIface)), (4, .val (.pointer (some ⟨B1 + 2, 0, none⟩))), (3, .val (.pointer (some ⟨B1 + 1, 0, none⟩))), (2, .val (.pointer (some ⟨B1, 0, none⟩)))]) (ob := [((decide ((hy : Int) < 0)) = false → (decide ((hy : Int) < 0)) = (decide ((hy : Int) < 0))), ((decide ((hy : Int) < 0)) = false → (decide ((hy : Int) < 0)) = (decide ((hy : Int) < 0))), (bif (decide ((hy : Int) < 0)) then (.bool true : Value) else .bool (decide ((hy : Int) > 1048576))) = .bool ((decide ((hy : Int) < 0)) || (decide ((hy : Int) > 1048576)))]) (fun B => by as_aux_lemma => kernel_rfl) rfl (Ac (fun hgd => rfl) (Ac (fun _ => rfl) (Ao (pick_or _ _)))) ?_
        clear hf; intro a hf
        refine wpList_nil ?_
        refine hK30 _ _ ?_
        refine sxcond hf (b := ((decide ((hy : Int) < 0)) || (decide ((hy : Int) > 1048576)))) (by kernel_rfl) (fun hc9 => ?_) (fun hc9 => ?_)
        · have hc9r := hc9
          try simp only [Bool.or_eq_true, Bool.and_eq_true, Bool.not_eq_true', Bool.not_eq_false', Bool.or_eq_false_iff, Bool.and_eq_false_iff, decide_eq_true_eq, decide_eq_false_iff_not, beq_iff_eq, bne_iff_ne, beq_eq_false_iff_ne, bne_eq_false_iff_eq, Bool.and_true, Bool.true_and, ne_eq] at hc9
          refine wp_seq_k (fun K31 hK31 => ?_)
          replace hM := hM.drew; replace hk0 := hk0.drew
          obtain ⟨C4, hC4d⟩ : ∃ C : World → Prop, C = fun w' => MemOk [⟨B1, 114, [.int .i64 px, .int .i64 py]⟩, ⟨B1 + 1, 114, [.int .i64 hx, .int .i64 hy]⟩, ⟨B3, 3, [.int .i64 px, .int .i64 py]⟩, ⟨B19, 3, [.int .i64 hx, .int .i64 hy]⟩] w' ∧ Keep Nn w w' ∧ True := ⟨_, rfl⟩
          have hC4i : ∀ w', (MemOk [⟨B1, 114, [.int .i64 px, .int .i64 py]⟩, ⟨B1 + 1, 114, [.int .i64 hx, .int .i64 hy]⟩, ⟨B3, 3, [.int .i64 px, .int .i64 py]⟩, ⟨B19, 3, [.int .i64 hx, .int .i64 hy]⟩] w' ∧ Keep Nn w w' ∧ True) → C4 w' := fun w' h => by rw [hC4d]; exact h
          have hC4e : ∀ w', C4 w' → (MemOk [⟨B1, 114, [.int .i64 px, .int .i64 py]⟩, ⟨B1 + 1, 114, [.int .i64 hx, .int .i64 hy]⟩, ⟨B3, 3, [.int .i64 px, .int .i64 py]⟩, ⟨B19, 3, [.int .i64 hx, .int .i64 hy]⟩] w' ∧ Keep Nn w w' ∧ True) := fun w' h => by rw [hC4d] at h; exact h
          refine sxdraw (C := C4) (.leaf [(0, true), (1, true), (2, false), (3, true)]) (by kernel_rfl) (by kernel_rfl) (by as_aux_lemma => kernel_rfl) rfl (by as_aux_lemma => kernel_rfl) (by kernel_rfl) (hC4i _ ⟨hM.sub (.cons_cons _ (.cons_cons _ (.cons _ (.cons_cons _ (.cons_cons _ .slnil))))), hk0, trivial⟩) ?_
          refine sxleaf ?_
          have hC := (hC4i _ ⟨hM.sub (.cons_cons _ (.cons_cons _ (.cons _ (.cons_cons _ (.cons_cons _ .slnil))))), hk0, trivial⟩)
          refine sc0 hf hC (fun w' h => (hC4e w' h).1) [43, 42, 5, 4] [{ sp := true }, { os := [.ex (.iface 185 (.pointer (some (E 0))))] }] (env' := [(43, .val (.iface 185 (.pointer (some (E 0))))), (42, .val (.agg #[.int .i64 0, .int .i64 0, .int .i64 0, .int .i64 0])), (5, .val (.nilIface)), (4, .val (.pointer (some ⟨B1 + 2, 0, none⟩)))]) (ob := [(∀ w', C4 w' → w'.cell? ⟨0, 0, none⟩ = some (.iface 185 (.pointer (some (E 0)))))]) (by as_aux_lemma => kernel_rfl) rfl (Ao (fun w' hc => by obtain ⟨hM, hk0, hO⟩ := hC4e w' hc; exact (hk0.cell (hG.cell 0 (by decide)) (fun h => h)))) ?_
          clear hf; intro a hf
          refine scstep rfl ?_
          have hMs : MemOk [⟨B1 + 2, 50, [.int .i64 0, .int .i64 0, .int .i64 0, .int .i64 0]⟩] w7.drew := hM.sub (.cons _ (.cons _ (.cons_cons _ (.cons _ (.cons _ .slnil)))))
          refine sr hf hMs [43, 5, 4] [{ os := [.st 0 0, .st 0 1, .st 0 2, .st 0 3] }] (env' := fun B29 => [(43, .val (.iface 185 (.pointer (some (E 0))))), (5, .val (.nilIface)), (4, .val (.pointer (some ⟨B1 + 2, 0, none⟩)))]) (M' := fun B29 => [⟨B1 + 2, 50, [.int .i64 0, .int .i64 0, .int .i64 0, .int .i64 0]⟩]) (ob := fun B29 => [Ad (B1 + 2) 0, Ad (B1 + 2) 1, Ad (B1 + 2) 2, Ad (B1 + 2) 3]) (fun B => by as_aux_lemma => kernel_rfl) (fun B29 => (Ac (ad _ _) (Ac (ad _ _) (Ac (ad _ _) (Ao (ad _ _)))))) ?_
          clear hf hMs; intro a w9 B29 hf hMs hB hk; clear hB
          have hM : MemOk [⟨B1, 114, [.int .i64 px, .int .i64 py]⟩, ⟨B1 + 1, 114, [.int .i64 hx, .int .i64 hy]⟩, ⟨B1 + 2, 50, [.int .i64 0, .int .i64 0, .int .i64 0, .int .i64 0]⟩, ⟨B3, 3, [.int .i64 px, .int .i64 py]⟩, ⟨B19, 3, [.int .i64 hx, .int .i64 hy]⟩] w9 := MemOk.upd (M1 := [⟨B1, 114, [.int .i64 px, .int .i64 py]⟩, ⟨B1 + 1, 114, [.int .i64 hx, .int .i64 hy]⟩]) (M2 := [⟨B3, 3, [.int .i64 px, .int .i64 py]⟩, ⟨B19, 3, [.int .i64 hx, .int .i64 hy]⟩]) hM hk hMs rfl
          have hk0 := hk0.then hk (by intro i hi h; simp only [Is, Mem.names, List.map_cons, List.map_nil, List.mem_cons, List.not_mem_nil, or_false] at h; omega)
          clear hk hMs
          have hC := (hC4i _ ⟨hM.sub (.cons_cons _ (.cons_cons _ (.cons _ (.cons_cons _ (.cons_cons _ .slnil))))), hk0, trivial⟩)
          refine scdone hC ?_
          refine sc0 hf hC (fun w' h => (hC4e w' h).1) [5, 4] [{}] (env' := [(5, .val (.iface 185 (.pointer (some (E 0))))), (4, .val (.pointer (some ⟨B1 + 2, 0, none⟩)))]) (ob := []) (by as_aux_lemma => kernel_rfl) rfl An ?_
          clear hf; intro a hf
          clear hC
          show K31 _ _
          refine hK31 _ _ ?_
          refine wp_ret ?_
          refine sxret (fn := Tryd.f71) hf hM [.ld 2 0, .ld 2 1, .ld 2 2, .ld 2 3] (l := [.agg #[.int .i64 0, .int .i64 0, .int .i64 0, .int .i64 0], .iface 185 (.pointer (some (E 0)))]) (M' := [⟨B1, 114, [.int .i64 px, .int .i64 py]⟩, ⟨B1 + 1, 114, [.int .i64 hx, .int .i64 hy]⟩, ⟨B1 + 2, 50, [.int .i64 0, .int .i64 0, .int .i64 0, .int .i64 0]⟩, ⟨B3, 3, [.int .i64 px, .int .i64 py]⟩, ⟨B19, 3, [.int .i64 hx, .int .i64 hy]⟩]) (d' := false) (ob := [Ad (B1 + 2) 0, Ad (B1 + 2) 1, Ad (B1 + 2) 2, Ad (B1 + 2) 3]) (by kernel_rfl) (fun B => ⟨B, by as_aux_lemma => kernel_rfl⟩) rfl (Ac (ad _ _) (Ac (ad _ _) (Ac (ad _ _) (Ao (ad _ _))))) ?_
          show (.tuple #[.agg #[.int .i64 0, .int .i64 0, .int .i64 0, .int .i64 0], .iface 185 (.pointer (some (E 0)))] : Value) = .tuple #[.agg #[.int .i64 0, .int .i64 0, .int .i64 0, .int .i64 0], .iface 185 (.pointer (some (E 0)))] ∧ Keep Nn w w9
          exact ⟨rfl, hk0⟩
        · have hc9r := hc9
          try simp only [Bool.or_eq_true, Bool.and_eq_true, Bool.not_eq_true', Bool.not_eq_false', Bool.or_eq_false_iff, Bool.and_eq_false_iff, decide_eq_true_eq, decide_eq_false_iff_not, beq_iff_eq, bne_iff_ne, beq_eq_false_iff_ne, bne_eq_false_iff_eq, Bool.and_true, Bool.true_and, ne_eq] at hc9
          refine wp_skip ?_
          refine hK28 _ _ ?_
          refine wp_region_lit ?_
          refine sr0 hf hM [32, 40, 39, 31, 30, 5, 4, 3, 2] [{}, {}] (env' := [(32, .val (.int .i64 2)), (40, .gd (decide ((hy : Int) < 0)) false (.bool (decide ((hy : Int) > 1048576)))), (39, .gd (decide ((hy : Int) < 0)) false (.int .i64 hy)), (31, .val (.int .i64 2)), (30, .val (.slice (some ⟨B19, 0, none⟩) 2 2)), (5, .val (.nilIface)), (4, .val (.pointer (some ⟨B1 + 2, 0, none⟩))), (3, .val (.pointer (some ⟨B1 + 1, 0, none⟩))), (2, .val (.pointer (some ⟨B1, 0, none⟩)))]) (ob := []) (fun B => by as_aux_lemma => kernel_rfl) rfl An ?_
          clear hf; intro a hf
          refine wpList_nil ?_
          refine hL5 _ _ ?_
          refine sxround (m := 0) fun L6 hL6 => ?_
          refine wp_seq_k (fun K32 hK32 => ?_)
          refine wp_region_lit ?_
          refine sr0 hf hM [33, 32, 40, 39, 31, 30, 5, 4, 3, 2] [{}] (env' := [(33, .val (.bool false)), (32, .val (.int .i64 2)), (40, .gd (decide ((hy : Int) < 0)) false (.bool (decide ((hy : Int) > 1048576)))), (39, .gd (decide ((hy : Int) < 0)) false (.int .i64 hy)), (31, .val (.int .i64 2)), (30, .val (.slice (some ⟨B19, 0, none⟩) 2 2)), (5, .val (.nilIface)), (4, .val (.pointer (some ⟨B1 + 2, 0, none⟩))), (3, .val (.pointer (some ⟨B1 + 1, 0, none⟩))), (2, .val (.pointer (some ⟨B1, 0, none⟩)))]) (ob := []) (fun B => by as_aux_lemma => kernel_rfl) rfl An ?_
          clear hf; intro a hf
          refine wpList_nil ?_
          refine hK32 _ _ ?_
          refine wp_seq_k (fun K33 hK33 => ?_)
          refine sxcond hf (b := false) (by kernel_rfl) (fun h => by cases h) (fun _ => ?_)
          refine wp_exit ?_
          refine hK18 _ _ ?_
          refine wp_seq_k (fun K34 hK34 => ?_)
          refine wp_region_lit ?_
          refine sr hf hM [5, 4] [{}, { os := [.ld 0 0] }, {}, { os := [.ld 1 0] }, {}, {}, { os := [.ld 0 1] }, {}, { os := [.ld 1 1] }, {}, {}, { os := [.ld 0 0] }, {}, { os := [.ld 1 0] }, {}, {}, { os := [.ld 0 1] }, {}, { os := [.ld 1 1] }, {}, { sp := true }, { os := [.st 2 0, .st 2 1, .st 2 2, .st 2 3] }, {}] (env' := fun B32 => [(5, .val (.nilIface)), (4, .val (.pointer (some ⟨B1 + 2, 0, none⟩)))]) (M' := fun B32 => [⟨B1, 114, [.int .i64 px, .int .i64 py]⟩, ⟨B1 + 1, 114, [.int .i64 hx, .int .i64 hy]⟩, ⟨B1 + 2, 50, [.int .i64 (IntKind.i64.wrap (px - hx)), .int .i64 (IntKind.i64.wrap (py - hy)), .int .i64 (IntKind.i64.wrap (px + hx)), .int .i64 (IntKind.i64.wrap (py + hy))]⟩, ⟨B3, 3, [.int .i64 px, .int .i64 py]⟩, ⟨B19, 3, [.int .i64 hx, .int .i64 hy]⟩]) (ob := fun B32 => [Ad B1 0, Ad (B1 + 1) 0, Ad B1 1, Ad (B1 + 1) 1, Ad B1 0, Ad (B1 + 1) 0, Ad B1 1, Ad (B1 + 1) 1, Ad (B1 + 2) 0, Ad (B1 + 2) 1, Ad (B1 + 2) 2, Ad (B1 + 2) 3]) (fun B => by as_aux_lemma => kernel_rfl) (fun B32 => (Ac (ad _ _) (Ac (ad _ _) (Ac (ad _ _) (Ac (ad _ _) (Ac (ad _ _) (Ac (ad _ _) (Ac (ad _ _) (Ac (ad _ _) (Ac (ad _ _) (Ac (ad _ _) (Ac (ad _ _) (Ao (ad _ _)))))))))))))) ?_
          clear hf hM; intro a w10 B32 hf hM hB hk
          have hbB32 : w.heap.size ≤ B32 := by have := hk0.size; omega
          have hk0 := hk0.then hk (by intro i hi h; simp only [Is, Mem.names, List.map_cons, List.map_nil, List.mem_cons, List.not_mem_nil, or_false] at h; omega)
          clear hk hB
          refine wpList_nil ?_
          refine hK34 _ _ ?_
          refine wp_ret ?_
          refine sxret (fn := Tryd.f71) hf hM [.ld 2 0, .ld 2 1, .ld 2 2, .ld 2 3] (l := [.agg #[.int .i64 (IntKind.i64.wrap (px - hx)), .int .i64 (IntKind.i64.wrap (py - hy)), .int .i64 (IntKind.i64.wrap (px + hx)), .int .i64 (IntKind.i64.wrap (py + hy))], .nilIface]) (M' := [⟨B1, 114, [.int .i64 px, .int .i64 py]⟩, ⟨B1 + 1, 114, [.int .i64 hx, .int .i64 hy]⟩, ⟨B1 + 2, 50, [.int .i64 (IntKind.i64.wrap (px - hx)), .int .i64 (IntKind.i64.wrap (py - hy)), .int .i64 (IntKind.i64.wrap (px + hx)), .int .i64 (IntKind.i64.wrap (py + hy))]⟩, ⟨B3, 3, [.int .i64 px, .int .i64 py]⟩, ⟨B19, 3, [.int .i64 hx, .int .i64 hy]⟩]) (d' := false) (ob := [Ad (B1 + 2) 0, Ad (B1 + 2) 1, Ad (B1 + 2) 2, Ad (B1 + 2) 3]) (by kernel_rfl) (fun B => ⟨B, by as_aux_lemma => kernel_rfl⟩) rfl (Ac (ad _ _) (Ac (ad _ _) (Ac (ad _ _) (Ao (ad _ _))))) ?_
          show (.tuple #[.agg #[.int .i64 (IntKind.i64.wrap (px - hx)), .int .i64 (IntKind.i64.wrap (py - hy)), .int .i64 (IntKind.i64.wrap (px + hx)), .int .i64 (IntKind.i64.wrap (py + hy))], .nilIface] : Value) = .tuple #[.agg #[.int .i64 0, .int .i64 0, .int .i64 0, .int .i64 0], .iface 185 (.pointer (some (E 0)))] ∧ Keep Nn w w10
          exfalso
          have hb := of_decide_eq_false hn0
          try simp only [within, decide_eq_true_eq] at hc2
          try simp only [within, decide_eq_true_eq] at hc4
          try simp only [within, decide_eq_true_eq] at hc7
          try simp only [within, decide_eq_true_eq] at hc9
          omega
end Go.Proofs.YtifcgjnknikjkaaDoor
