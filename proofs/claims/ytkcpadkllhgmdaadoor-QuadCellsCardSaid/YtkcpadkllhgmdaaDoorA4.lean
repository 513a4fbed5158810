/- layer 12 -/
import Derived.Test.YtkcpadkllhgmdaaDoorA3
namespace Go.Proofs.YtkcpadkllhgmdaaDoor
open Go.Px
set_option linter.unusedVariables false
set_option linter.unusedSimpArgs false
theorem enters38 : enters Tryd.prog 38 := ⟨_, Tryd.func38, by kernel_rfl, rfl⟩
theorem enters39 : enters Tryd.prog 39 := ⟨_, Tryd.func39, by kernel_rfl, rfl⟩
theorem enters40 : enters Tryd.prog 40 := ⟨_, Tryd.func40, by kernel_rfl, rfl⟩
theorem enters41 : enters Tryd.prog 41 := ⟨_, Tryd.func41, by kernel_rfl, rfl⟩
theorem enters42 : enters Tryd.prog 42 := ⟨_, Tryd.func42, by kernel_rfl, rfl⟩

set_option maxRecDepth 10000 in
theorem rin_any (n m : Int) (w : World) (hm : 0 ≤ m ∧ m ≤ 4611686018427387904) :
    Calls Tryd.prog 39 #[.int .i64 n, .int .i64 m] w (Ret fun v w' => v = .bool (within n m) ∧ Keep Nn w w') := by
  refine sxenter (n := 14) (args := [.int .i64 n, .int .i64 m]) Tryd.func39 rfl rfl rfl fun a hf => ?_
  replace hf : Fr 14 [(0, .val (.int .i64 n)), (1, .val (.int .i64 m))] a := hf
  have hM : MemOk [] w := MemOk.nil w
  have hk0 : Keep Nn w w := Keep.refl _ _
  refine wp_seq_k (fun K1 hK1 => ?_)
  refine wp_region_lit ?_
  refine sr0 hf hM [0, 1] [{}] (env' := [(0, .val (.int .i64 n)), (1, .val (.int .i64 m))]) (ob := []) (fun B => by as_aux_lemma => kernel_rfl) rfl An ?_
  clear hf; intro a hf
  refine wpList_nil ?_
  refine hK1 _ _ ?_
  refine wp_seq_k (fun K2 hK2 => ?_)
  refine wp_region_lit ?_
  refine sr0 hf hM [4] [{}, {}, {}, {}, { g := .sym }, { g := .sym, hint := some (.int .i64 (0 - m)) }, { g := .sym }, { g := .sym }, { hint := some (.bool ((decide ((n : Int) ≤ m)) && (decide (((0 - m) : Int) ≤ n)))) }, {}] (env' := [(4, .val (.bool ((decide ((n : Int) ≤ m)) && (decide (((0 - m) : Int) ≤ n)))))]) (ob := [((decide ((n : Int) ≤ m)) = true → (decide ((n : Int) ≤ m)) = (decide ((n : Int) ≤ m))), ((decide ((n : Int) ≤ m)) = true → (.int .i64 (IntKind.i64.wrap (0 - m)) : Value) = (.int .i64 (0 - m) : Value)), ((decide ((n : Int) ≤ m)) = true → (decide ((n : Int) ≤ m)) = (decide ((n : Int) ≤ m))), ((decide ((n : Int) ≤ m)) = true → (decide ((n : Int) ≤ m)) = (decide ((n : Int) ≤ m))), ((decide ((n : Int) ≤ m)) = true → (decide ((n : Int) ≤ m)) = (decide ((n : Int) ≤ m))), (bif (decide ((n : Int) ≤ m)) then (.bool (decide (((0 - m) : Int) ≤ n)) : Value) else .bool false) = .bool ((decide ((n : Int) ≤ m)) && (decide (((0 - m) : Int) ≤ n)))]) (fun B => by as_aux_lemma => kernel_rfl) rfl (Ac (fun hgd => rfl) (Ac (fun hgd => (wr (by omega))) (Ac (fun hgd => rfl) (Ac (fun hgd => rfl) (Ac (fun _ => rfl) (Ao (pick_and _ _))))))) ?_
  clear hf; intro a hf
  refine wpList_nil ?_
  refine hK2 _ _ ?_
  refine wp_ret ?_
  refine sxret (fn := Tryd.f39) hf hM [] (l := [.bool ((decide ((n : Int) ≤ m)) && (decide (((0 - m) : Int) ≤ n)))]) (M' := []) (d' := false) (ob := []) (by kernel_rfl) (fun B => ⟨B, by as_aux_lemma => kernel_rfl⟩) rfl An ?_
  show (.bool ((decide ((n : Int) ≤ m)) && (decide (((0 - m) : Int) ≤ n))) : Value) = .bool (within n m) ∧ Keep Nn w w
  refine ⟨congrArg Value.bool ?_, hk0⟩
  rw [Bool.eq_iff_iff]
  simp only [within, Bool.or_eq_true, Bool.and_eq_true, Bool.not_eq_true', Bool.not_eq_false', Bool.or_eq_false_iff, Bool.and_eq_false_iff, decide_eq_true_eq, decide_eq_false_iff_not, beq_iff_eq, Bool.false_eq_true, Bool.true_eq_false, false_iff, true_iff, iff_true, iff_false, not_true, not_false_iff, true_and, and_true, false_and, and_false, ge_iff_le, gt_iff_lt] at *
  try omega

set_option maxRecDepth 10000 in
theorem rright_box (x0 y0 x1 y1 : Int) (w : World) :
    Calls Tryd.prog 38 #[.agg #[.int .i64 x0, .int .i64 y0, .int .i64 x1, .int .i64 y1]] w (Ret fun v w' => v = .bool (boxRight x0 y0 x1 y1) ∧ Keep Nn w w') := by
  refine sxenter (n := 35) (args := [.agg #[.int .i64 x0, .int .i64 y0, .int .i64 x1, .int .i64 y1]]) Tryd.func38 rfl rfl rfl fun a hf => ?_
  replace hf : Fr 35 [(0, .val (.agg #[.int .i64 x0, .int .i64 y0, .int .i64 x1, .int .i64 y1]))] a := hf
  have hM : MemOk [] w := MemOk.nil w
  have hk0 : Keep Nn w w := Keep.refl _ _
  refine wp_seq_k (fun K1 hK1 => ?_)
  refine wp_region_lit ?_
  refine sr hf hM [1] [{ os := [.nw] }, {}] (env' := fun B1 => [(1, .val (.pointer (some ⟨B1, 0, none⟩)))]) (M' := fun B1 => [⟨B1, 42, [.int .i64 x0, .int .i64 y0, .int .i64 x1, .int .i64 y1]⟩]) (ob := fun B1 => []) (fun B => by as_aux_lemma => kernel_rfl) (fun B1 => An) ?_
  clear hf hM; intro a w1 B1 hf hM hB hk
  have hbB1 : w.heap.size ≤ B1 := by have := hk0.size; omega
  have hk0 := hk0.then hk (by intro i _ h; cases h)
  clear hk hB
  refine wpList_nil ?_
  refine hK1 _ _ ?_
  refine wp_seq_k (fun K2 hK2 => ?_)
  refine wp_region_lit ?_
  refine sr0 hf hM [4, 1] [{}, { os := [.ld 0 0] }] (env' := [(4, .val (.int .i64 x0)), (1, .val (.pointer (some ⟨B1, 0, none⟩)))]) (ob := [Ad B1 0]) (fun B => by as_aux_lemma => kernel_rfl) rfl (Ao (ad _ _)) ?_
  clear hf; intro a hf
  refine sxcall hf rfl rfl rfl rfl (g := 39) (vs := [.int .i64 x0, .int .i64 4194304]) (ob := []) (by as_aux_lemma => kernel_rfl) An enters39 (rin_any x0 4194304 w1  (by omega)) ?_
  clear hf; rintro _ w2 a ⟨rfl, hk⟩ hf
  have hM := hM.keepNn hk
  have hk0 := hk0.trans hk.nn
  clear hk
  refine sr0 hf hM [6, 1] [{}] (env' := [(6, .val (.bool (within x0 4194304))), (1, .val (.pointer (some ⟨B1, 0, none⟩)))]) (ob := []) (fun B => by as_aux_lemma => kernel_rfl) rfl An ?_
  clear hf; intro a hf
  rcases Bool.eq_false_or_eq_true (within x0 4194304) with hg1 | hg1
  · have hg1r := hg1
    have hf := hf.prune [6, 1]
    replace hf : Fr 35 [(6, .val (.bool (within x0 4194304))), (1, .val (.pointer (some ⟨B1, 0, none⟩)))] a := hf
    replace hf := hf.conv (env' := [(6, .val (.bool true)), (1, .val (.pointer (some ⟨B1, 0, none⟩)))]) (Ac (congrArg Value.bool hg1r) (Ao rfl))
    try simp only [Bool.or_eq_true, Bool.and_eq_true, Bool.not_eq_true', Bool.not_eq_false', Bool.or_eq_false_iff, Bool.and_eq_false_iff, decide_eq_true_eq, decide_eq_false_iff_not, beq_iff_eq, bne_iff_ne, beq_eq_false_iff_ne, bne_eq_false_iff_eq, Bool.and_true, Bool.true_and, ne_eq] at hg1
    refine sr0 hf hM [8, 6, 1] [{}, { os := [.ld 0 2] }] (env' := [(8, .val (.int .i64 x1)), (6, .val (.bool true)), (1, .val (.pointer (some ⟨B1, 0, none⟩)))]) (ob := [true = true, true = true, Ad B1 2]) (fun B => by as_aux_lemma => kernel_rfl) rfl (Ac rfl (Ac rfl (Ao (ad _ _)))) ?_
    clear hf; intro a hf
    refine sxcallg hf rfl rfl rfl rfl rfl (g := 39) (vs := [.int .i64 x1, .int .i64 4194304]) (ob := []) (by as_aux_lemma => kernel_rfl) An enters39 (rin_any x1 4194304 w2  (by omega)) ?_
    clear hf; rintro _ w3 a ⟨rfl, hk⟩ hf
    have hM := hM.keepNn hk
    have hk0 := hk0.trans hk.nn
    clear hk
    refine sr0 hf hM [11, 1] [{}, {}] (env' := [(11, .val (.bool (within x1 4194304))), (1, .val (.pointer (some ⟨B1, 0, none⟩)))]) (ob := []) (fun B => by as_aux_lemma => kernel_rfl) rfl An ?_
    clear hf; intro a hf
    rcases Bool.eq_false_or_eq_true (within x1 4194304) with hg2 | hg2
    · have hg2r := hg2
      have hf := hf.prune [11, 1]
      replace hf : Fr 35 [(11, .val (.bool (within x1 4194304))), (1, .val (.pointer (some ⟨B1, 0, none⟩)))] a := hf
      replace hf := hf.conv (env' := [(11, .val (.bool true)), (1, .val (.pointer (some ⟨B1, 0, none⟩)))]) (Ac (congrArg Value.bool hg2r) (Ao rfl))
      try simp only [Bool.or_eq_true, Bool.and_eq_true, Bool.not_eq_true', Bool.not_eq_false', Bool.or_eq_false_iff, Bool.and_eq_false_iff, decide_eq_true_eq, decide_eq_false_iff_not, beq_iff_eq, bne_iff_ne, beq_eq_false_iff_ne, bne_eq_false_iff_eq, Bool.and_true, Bool.true_and, ne_eq] at hg2
      refine sr0 hf hM [13, 11, 1] [{}, { os := [.ld 0 1] }] (env' := [(13, .val (.int .i64 y0)), (11, .val (.bool true)), (1, .val (.pointer (some ⟨B1, 0, none⟩)))]) (ob := [true = true, true = true, Ad B1 1]) (fun B => by as_aux_lemma => kernel_rfl) rfl (Ac rfl (Ac rfl (Ao (ad _ _)))) ?_
      clear hf; intro a hf
      refine sxcallg hf rfl rfl rfl rfl rfl (g := 39) (vs := [.int .i64 y0, .int .i64 4194304]) (ob := []) (by as_aux_lemma => kernel_rfl) An enters39 (rin_any y0 4194304 w3  (by omega)) ?_
      clear hf; rintro _ w4 a ⟨rfl, hk⟩ hf
      have hM := hM.keepNn hk
      have hk0 := hk0.trans hk.nn
      clear hk
      refine sr0 hf hM [16, 1] [{}, {}] (env' := [(16, .val (.bool (within y0 4194304))), (1, .val (.pointer (some ⟨B1, 0, none⟩)))]) (ob := []) (fun B => by as_aux_lemma => kernel_rfl) rfl An ?_
      clear hf; intro a hf
      rcases Bool.eq_false_or_eq_true (within y0 4194304) with hg3 | hg3
      · have hg3r := hg3
        have hf := hf.prune [16, 1]
        replace hf : Fr 35 [(16, .val (.bool (within y0 4194304))), (1, .val (.pointer (some ⟨B1, 0, none⟩)))] a := hf
        replace hf := hf.conv (env' := [(16, .val (.bool true)), (1, .val (.pointer (some ⟨B1, 0, none⟩)))]) (Ac (congrArg Value.bool hg3r) (Ao rfl))
        try simp only [Bool.or_eq_true, Bool.and_eq_true, Bool.not_eq_true', Bool.not_eq_false', Bool.or_eq_false_iff, Bool.and_eq_false_iff, decide_eq_true_eq, decide_eq_false_iff_not, beq_iff_eq, bne_iff_ne, beq_eq_false_iff_ne, bne_eq_false_iff_eq, Bool.and_true, Bool.true_and, ne_eq] at hg3
        refine sr0 hf hM [18, 16, 1] [{}, { os := [.ld 0 3] }] (env' := [(18, .val (.int .i64 y1)), (16, .val (.bool true)), (1, .val (.pointer (some ⟨B1, 0, none⟩)))]) (ob := [true = true, true = true, Ad B1 3]) (fun B => by as_aux_lemma => kernel_rfl) rfl (Ac rfl (Ac rfl (Ao (ad _ _)))) ?_
        clear hf; intro a hf
        refine sxcallg hf rfl rfl rfl rfl rfl (g := 39) (vs := [.int .i64 y1, .int .i64 4194304]) (ob := []) (by as_aux_lemma => kernel_rfl) An enters39 (rin_any y1 4194304 w4  (by omega)) ?_
        clear hf; rintro _ w5 a ⟨rfl, hk⟩ hf
        have hM := hM.keepNn hk
        have hk0 := hk0.trans hk.nn
        clear hk
        refine sr0 hf hM [2] [{}, {}, { g := .sym }, { g := .sym, os := [.ld 0 0] }, { g := .sym }, { g := .sym, os := [.ld 0 2] }, { g := .sym }, { hint := some (.bool ((within y1 4194304) && (decide ((x0 : Int) ≤ x1)))) }, {}, { g := .sym }, { g := .sym, os := [.ld 0 1] }, { g := .sym }, { g := .sym, os := [.ld 0 3] }, { g := .sym }, { hint := some (.bool (((within y1 4194304) && (decide ((x0 : Int) ≤ x1))) && (decide ((y0 : Int) ≤ y1)))) }, {}] (env' := [(2, .val (.bool (((within y1 4194304) && (decide ((x0 : Int) ≤ x1))) && (decide ((y0 : Int) ≤ y1)))))]) (ob := [((within y1 4194304) = true → (within y1 4194304) = (within y1 4194304)), ((within y1 4194304) = true → Ad B1 0), ((within y1 4194304) = true → (within y1 4194304) = (within y1 4194304)), ((within y1 4194304) = true → Ad B1 2), ((within y1 4194304) = true → (within y1 4194304) = (within y1 4194304)), ((within y1 4194304) = true → (within y1 4194304) = (within y1 4194304)), ((within y1 4194304) = true → (within y1 4194304) = (within y1 4194304)), (bif within y1 4194304 then (.bool (decide ((x0 : Int) ≤ x1)) : Value) else .bool false) = .bool ((within y1 4194304) && (decide ((x0 : Int) ≤ x1))), (((within y1 4194304) && (decide ((x0 : Int) ≤ x1))) = true → ((within y1 4194304) && (decide ((x0 : Int) ≤ x1))) = ((within y1 4194304) && (decide ((x0 : Int) ≤ x1)))), (((within y1 4194304) && (decide ((x0 : Int) ≤ x1))) = true → Ad B1 1), (((within y1 4194304) && (decide ((x0 : Int) ≤ x1))) = true → ((within y1 4194304) && (decide ((x0 : Int) ≤ x1))) = ((within y1 4194304) && (decide ((x0 : Int) ≤ x1)))), (((within y1 4194304) && (decide ((x0 : Int) ≤ x1))) = true → Ad B1 3), (((within y1 4194304) && (decide ((x0 : Int) ≤ x1))) = true → ((within y1 4194304) && (decide ((x0 : Int) ≤ x1))) = ((within y1 4194304) && (decide ((x0 : Int) ≤ x1)))), (((within y1 4194304) && (decide ((x0 : Int) ≤ x1))) = true → ((within y1 4194304) && (decide ((x0 : Int) ≤ x1))) = ((within y1 4194304) && (decide ((x0 : Int) ≤ x1)))), (((within y1 4194304) && (decide ((x0 : Int) ≤ x1))) = true → ((within y1 4194304) && (decide ((x0 : Int) ≤ x1))) = ((within y1 4194304) && (decide ((x0 : Int) ≤ x1)))), (bif ((within y1 4194304) && (decide ((x0 : Int) ≤ x1))) then (.bool (decide ((y0 : Int) ≤ y1)) : Value) else .bool false) = .bool (((within y1 4194304) && (decide ((x0 : Int) ≤ x1))) && (decide ((y0 : Int) ≤ y1)))]) (fun B => by as_aux_lemma => kernel_rfl) rfl (Ac (fun hgd => rfl) (Ac (fun hgd => ad _ _) (Ac (fun hgd => rfl) (Ac (fun hgd => ad _ _) (Ac (fun hgd => rfl) (Ac (fun hgd => rfl) (Ac (fun _ => rfl) (Ac (pick_and _ _) (Ac (fun hgd => rfl) (Ac (fun hgd => ad _ _) (Ac (fun hgd => rfl) (Ac (fun hgd => ad _ _) (Ac (fun hgd => rfl) (Ac (fun hgd => rfl) (Ac (fun _ => rfl) (Ao (pick_and _ _))))))))))))))))) ?_
        clear hf; intro a hf
        refine wpList_nil ?_
        refine hK2 _ _ ?_
        refine wp_ret ?_
        refine sxret (fn := Tryd.f38) hf hM [] (l := [.bool (((within y1 4194304) && (decide ((x0 : Int) ≤ x1))) && (decide ((y0 : Int) ≤ y1)))]) (M' := [⟨B1, 42, [.int .i64 x0, .int .i64 y0, .int .i64 x1, .int .i64 y1]⟩]) (d' := false) (ob := []) (by kernel_rfl) (fun B => ⟨B, by as_aux_lemma => kernel_rfl⟩) rfl An ?_
        show (.bool (((within y1 4194304) && (decide ((x0 : Int) ≤ x1))) && (decide ((y0 : Int) ≤ y1))) : Value) = .bool (boxRight x0 y0 x1 y1) ∧ Keep Nn w w5
        refine ⟨congrArg Value.bool ?_, hk0⟩
        rw [Bool.eq_iff_iff]
        simp only [within, boxRight, Bool.or_eq_true, Bool.and_eq_true, Bool.not_eq_true', Bool.not_eq_false', Bool.or_eq_false_iff, Bool.and_eq_false_iff, decide_eq_true_eq, decide_eq_false_iff_not, beq_iff_eq, Bool.false_eq_true, Bool.true_eq_false, false_iff, true_iff, iff_true, iff_false, not_true, not_false_iff, true_and, and_true, false_and, and_false, ge_iff_le, gt_iff_lt] at *
        try omega
      · have hg3r := hg3
        have hf := hf.prune [16, 1]
        replace hf : Fr 35 [(16, .val (.bool (within y0 4194304))), (1, .val (.pointer (some ⟨B1, 0, none⟩)))] a := hf
        replace hf := hf.conv (env' := [(16, .val (.bool false)), (1, .val (.pointer (some ⟨B1, 0, none⟩)))]) (Ac (congrArg Value.bool hg3r) (Ao rfl))
        try simp only [Bool.or_eq_true, Bool.and_eq_true, Bool.not_eq_true', Bool.not_eq_false', Bool.or_eq_false_iff, Bool.and_eq_false_iff, decide_eq_true_eq, decide_eq_false_iff_not, beq_iff_eq, bne_iff_ne, beq_eq_false_iff_ne, bne_eq_false_iff_eq, Bool.and_true, Bool.true_and, ne_eq] at hg3
        refine sr0 hf hM [18, 16, 1] [{ g := .off }, { g := .off }] (env' := [(18, .val (undef)), (16, .val (.bool false)), (1, .val (.pointer (some ⟨B1, 0, none⟩)))]) (ob := [false = !true, false = !true]) (fun B => by as_aux_lemma => kernel_rfl) rfl (Ac rfl (Ao rfl)) ?_
        clear hf; intro a hf
        refine sr0 hf hM [2] [{ g := .off }, {}, {}, { g := .off }, { g := .off }, { g := .off }, { g := .off }, { g := .off }, {}, {}, { g := .off }, { g := .off }, { g := .off }, { g := .off }, { g := .off }, {}, {}] (env' := [(2, .val (.bool false))]) (ob := [false = !true, false = !true, false = !true, false = !true, false = !true, false = !true, false = !true, false = !true, false = !true, false = !true, false = !true]) (fun B => by as_aux_lemma => kernel_rfl) rfl (Ac rfl (Ac rfl (Ac rfl (Ac rfl (Ac rfl (Ac rfl (Ac rfl (Ac rfl (Ac rfl (Ac rfl (Ao rfl))))))))))) ?_
        clear hf; intro a hf
        refine wpList_nil ?_
        refine hK2 _ _ ?_
        refine wp_ret ?_
        refine sxret (fn := Tryd.f38) hf hM [] (l := [.bool false]) (M' := [⟨B1, 42, [.int .i64 x0, .int .i64 y0, .int .i64 x1, .int .i64 y1]⟩]) (d' := false) (ob := []) (by kernel_rfl) (fun B => ⟨B, by as_aux_lemma => kernel_rfl⟩) rfl An ?_
        show (.bool false : Value) = .bool (boxRight x0 y0 x1 y1) ∧ Keep Nn w w4
        refine ⟨congrArg Value.bool ?_, hk0⟩
        rw [Bool.eq_iff_iff]
        simp only [within, boxRight, Bool.or_eq_true, Bool.and_eq_true, Bool.not_eq_true', Bool.not_eq_false', Bool.or_eq_false_iff, Bool.and_eq_false_iff, decide_eq_true_eq, decide_eq_false_iff_not, beq_iff_eq, Bool.false_eq_true, Bool.true_eq_false, false_iff, true_iff, iff_true, iff_false, not_true, not_false_iff, true_and, and_true, false_and, and_false, ge_iff_le, gt_iff_lt] at *
        try omega
    · have hg2r := hg2
      have hf := hf.prune [11, 1]
      replace hf : Fr 35 [(11, .val (.bool (within x1 4194304))), (1, .val (.pointer (some ⟨B1, 0, none⟩)))] a := hf
      replace hf := hf.conv (env' := [(11, .val (.bool false)), (1, .val (.pointer (some ⟨B1, 0, none⟩)))]) (Ac (congrArg Value.bool hg2r) (Ao rfl))
      try simp only [Bool.or_eq_true, Bool.and_eq_true, Bool.not_eq_true', Bool.not_eq_false', Bool.or_eq_false_iff, Bool.and_eq_false_iff, decide_eq_true_eq, decide_eq_false_iff_not, beq_iff_eq, bne_iff_ne, beq_eq_false_iff_ne, bne_eq_false_iff_eq, Bool.and_true, Bool.true_and, ne_eq] at hg2
      refine sr0 hf hM [13, 11, 1] [{ g := .off }, { g := .off }] (env' := [(13, .val (undef)), (11, .val (.bool false)), (1, .val (.pointer (some ⟨B1, 0, none⟩)))]) (ob := [false = !true, false = !true]) (fun B => by as_aux_lemma => kernel_rfl) rfl (Ac rfl (Ao rfl)) ?_
      clear hf; intro a hf
      refine sr0 hf hM [18, 16, 1] [{ g := .off }, {}, {}, { g := .off }, { g := .off }] (env' := [(18, .val (undef)), (16, .val (.bool false)), (1, .val (.pointer (some ⟨B1, 0, none⟩)))]) (ob := [false = !true, false = !true, false = !true]) (fun B => by as_aux_lemma => kernel_rfl) rfl (Ac rfl (Ac rfl (Ao rfl))) ?_
      clear hf; intro a hf
      refine sr0 hf hM [2] [{ g := .off }, {}, {}, { g := .off }, { g := .off }, { g := .off }, { g := .off }, { g := .off }, {}, {}, { g := .off }, { g := .off }, { g := .off }, { g := .off }, { g := .off }, {}, {}] (env' := [(2, .val (.bool false))]) (ob := [false = !true, false = !true, false = !true, false = !true, false = !true, false = !true, false = !true, false = !true, false = !true, false = !true, false = !true]) (fun B => by as_aux_lemma => kernel_rfl) rfl (Ac rfl (Ac rfl (Ac rfl (Ac rfl (Ac rfl (Ac rfl (Ac rfl (Ac rfl (Ac rfl (Ac rfl (Ao rfl))))))))))) ?_
      clear hf; intro a hf
      refine wpList_nil ?_
      refine hK2 _ _ ?_
      refine wp_ret ?_
      refine sxret (fn := Tryd.f38) hf hM [] (l := [.bool false]) (M' := [⟨B1, 42, [.int .i64 x0, .int .i64 y0, .int .i64 x1, .int .i64 y1]⟩]) (d' := false) (ob := []) (by kernel_rfl) (fun B => ⟨B, by as_aux_lemma => kernel_rfl⟩) rfl An ?_
      show (.bool false : Value) = .bool (boxRight x0 y0 x1 y1) ∧ Keep Nn w w3
      refine ⟨congrArg Value.bool ?_, hk0⟩
      rw [Bool.eq_iff_iff]
      simp only [within, boxRight, Bool.or_eq_true, Bool.and_eq_true, Bool.not_eq_true', Bool.not_eq_false', Bool.or_eq_false_iff, Bool.and_eq_false_iff, decide_eq_true_eq, decide_eq_false_iff_not, beq_iff_eq, Bool.false_eq_true, Bool.true_eq_false, false_iff, true_iff, iff_true, iff_false, not_true, not_false_iff, true_and, and_true, false_and, and_false, ge_iff_le, gt_iff_lt] at *
      try omega
  · have hg1r := hg1
    have hf := hf.prune [6, 1]
    replace hf : Fr 35 [(6, .val (.bool (within x0 4194304))), (1, .val (.pointer (some ⟨B1, 0, none⟩)))] a := hf
    replace hf := hf.conv (env' := [(6, .val (.bool false)), (1, .val (.pointer (some ⟨B1, 0, none⟩)))]) (Ac (congrArg Value.bool hg1r) (Ao rfl))
    try simp only [Bool.or_eq_true, Bool.and_eq_true, Bool.not_eq_true', Bool.not_eq_false', Bool.or_eq_false_iff, Bool.and_eq_false_iff, decide_eq_true_eq, decide_eq_false_iff_not, beq_iff_eq, bne_iff_ne, beq_eq_false_iff_ne, bne_eq_false_iff_eq, Bool.and_true, Bool.true_and, ne_eq] at hg1
    refine sr0 hf hM [8, 6, 1] [{ g := .off }, { g := .off }] (env' := [(8, .val (undef)), (6, .val (.bool false)), (1, .val (.pointer (some ⟨B1, 0, none⟩)))]) (ob := [false = !true, false = !true]) (fun B => by as_aux_lemma => kernel_rfl) rfl (Ac rfl (Ao rfl)) ?_
    clear hf; intro a hf
    refine sr0 hf hM [13, 11, 1] [{ g := .off }, {}, {}, { g := .off }, { g := .off }] (env' := [(13, .val (undef)), (11, .val (.bool false)), (1, .val (.pointer (some ⟨B1, 0, none⟩)))]) (ob := [false = !true, false = !true, false = !true]) (fun B => by as_aux_lemma => kernel_rfl) rfl (Ac rfl (Ac rfl (Ao rfl))) ?_
    clear hf; intro a hf
    refine sr0 hf hM [18, 16, 1] [{ g := .off }, {}, {}, { g := .off }, { g := .off }] (env' := [(18, .val (undef)), (16, .val (.bool false)), (1, .val (.pointer (some ⟨B1, 0, none⟩)))]) (ob := [false = !true, false = !true, false = !true]) (fun B => by as_aux_lemma => kernel_rfl) rfl (Ac rfl (Ac rfl (Ao rfl))) ?_
    clear hf; intro a hf
    refine sr0 hf hM [2] [{ g := .off }, {}, {}, { g := .off }, { g := .off }, { g := .off }, { g := .off }, { g := .off }, {}, {}, { g := .off }, { g := .off }, { g := .off }, { g := .off }, { g := .off }, {}, {}] (env' := [(2, .val (.bool false))]) (ob := [false = !true, false = !true, false = !true, false = !true, false = !true, false = !true, false = !true, false = !true, false = !true, false = !true, false = !true]) (fun B => by as_aux_lemma => kernel_rfl) rfl (Ac rfl (Ac rfl (Ac rfl (Ac rfl (Ac rfl (Ac rfl (Ac rfl (Ac rfl (Ac rfl (Ac rfl (Ao rfl))))))))))) ?_
    clear hf; intro a hf
    refine wpList_nil ?_
    refine hK2 _ _ ?_
    refine wp_ret ?_
    refine sxret (fn := Tryd.f38) hf hM [] (l := [.bool false]) (M' := [⟨B1, 42, [.int .i64 x0, .int .i64 y0, .int .i64 x1, .int .i64 y1]⟩]) (d' := false) (ob := []) (by kernel_rfl) (fun B => ⟨B, by as_aux_lemma => kernel_rfl⟩) rfl An ?_
    show (.bool false : Value) = .bool (boxRight x0 y0 x1 y1) ∧ Keep Nn w w2
    refine ⟨congrArg Value.bool ?_, hk0⟩
    rw [Bool.eq_iff_iff]
    simp only [within, boxRight, Bool.or_eq_true, Bool.and_eq_true, Bool.not_eq_true', Bool.not_eq_false', Bool.or_eq_false_iff, Bool.and_eq_false_iff, decide_eq_true_eq, decide_eq_false_iff_not, beq_iff_eq, Bool.false_eq_true, Bool.true_eq_false, false_iff, true_iff, iff_true, iff_false, not_true, not_false_iff, true_and, and_true, false_and, and_false, ge_iff_le, gt_iff_lt] at *
    try omega

set_option maxRecDepth 10000 in
theorem half_any (n : Int) (w : World) (hn : -4611686018427387904 ≤ n ∧ n ≤ 4611686018427387904) :
    Calls Tryd.prog 42 #[.int .i64 n] w (Ret fun v w' => v = .int .i64 (n / 2) ∧ Keep Nn w w') := by
  refine sxenter (n := 11) (args := [.int .i64 n]) Tryd.func42 rfl rfl rfl fun a hf => ?_
  replace hf : Fr 11 [(0, .val (.int .i64 n))] a := hf
  have hM : MemOk [] w := MemOk.nil w
  have hk0 : Keep Nn w w := Keep.refl _ _
  refine wp_seq_k (fun K1 hK1 => ?_)
  refine wp_region_lit ?_
  refine sr0 hf hM [0] [{}] (env' := [(0, .val (.int .i64 n))]) (ob := []) (fun B => by as_aux_lemma => kernel_rfl) rfl An ?_
  clear hf; intro a hf
  refine wpList_nil ?_
  refine hK1 _ _ ?_
  refine wp_seq_k (fun K2 hK2 => ?_)
  refine wp_seq_k (fun K3 hK3 => ?_)
  refine wp_region_lit ?_
  refine sr0 hf hM [4, 0] [{}, {}] (env' := [(4, .val (.bool (decide ((n : Int) < 0)))), (0, .val (.int .i64 n))]) (ob := []) (fun B => by as_aux_lemma => kernel_rfl) rfl An ?_
  clear hf; intro a hf
  refine wpList_nil ?_
  refine hK3 _ _ ?_
  refine sxcond hf (b := (decide ((n : Int) < 0))) (by kernel_rfl) (fun hc1 => ?_) (fun hc1 => ?_)
  · have hc1r := hc1
    try simp only [Bool.or_eq_true, Bool.and_eq_true, Bool.not_eq_true', Bool.not_eq_false', Bool.or_eq_false_iff, Bool.and_eq_false_iff, decide_eq_true_eq, decide_eq_false_iff_not, beq_iff_eq, bne_iff_ne, beq_eq_false_iff_ne, bne_eq_false_iff_eq, Bool.and_true, Bool.true_and, ne_eq] at hc1
    refine wp_seq_k (fun K4 hK4 => ?_)
    refine wp_region_lit ?_
    refine sr0 hf hM [2] [{}, { hint := some (.int .i64 (1 - n)) }, { sp := true, hint := some (.int .i64 ((1 - n) / 2)) }, { hint := some (.int .i64 (0 - ((1 - n) / 2))) }, {}] (env' := [(2, .val (.int .i64 (0 - ((1 - n) / 2))))]) (ob := [(.int .i64 (IntKind.i64.wrap (1 - n)) : Value) = (.int .i64 (1 - n) : Value), (2 : Int) ≠ 0, (.int .i64 (IntKind.i64.wrap (Int.tdiv (1 - n) 2)) : Value) = (.int .i64 ((1 - n) / 2) : Value), (.int .i64 (IntKind.i64.wrap (0 - ((1 - n) / 2))) : Value) = (.int .i64 (0 - ((1 - n) / 2)) : Value)]) (fun B => by as_aux_lemma => kernel_rfl) rfl (Ac (wr (by omega)) (Ac (by omega) (Ac (quo2 (by omega)) (Ao (wr (by omega)))))) ?_
    clear hf; intro a hf
    refine wpList_nil ?_
    refine hK4 _ _ ?_
    refine wp_ret ?_
    refine sxret (fn := Tryd.f42) hf hM [] (l := [.int .i64 (0 - ((1 - n) / 2))]) (M' := []) (d' := false) (ob := []) (by kernel_rfl) (fun B => ⟨B, by as_aux_lemma => kernel_rfl⟩) rfl An ?_
    show (.int .i64 (0 - ((1 - n) / 2)) : Value) = .int .i64 (n / 2) ∧ Keep Nn w w
    exact ⟨by first | rfl | (congr 1; omega), hk0⟩
  · have hc1r := hc1
    try simp only [Bool.or_eq_true, Bool.and_eq_true, Bool.not_eq_true', Bool.not_eq_false', Bool.or_eq_false_iff, Bool.and_eq_false_iff, decide_eq_true_eq, decide_eq_false_iff_not, beq_iff_eq, bne_iff_ne, beq_eq_false_iff_ne, bne_eq_false_iff_eq, Bool.and_true, Bool.true_and, ne_eq] at hc1
    refine wp_skip ?_
    refine hK2 _ _ ?_
    refine wp_seq_k (fun K5 hK5 => ?_)
    refine wp_region_lit ?_
    refine sr0 hf hM [2] [{}, { sp := true, hint := some (.int .i64 (n / 2)) }, {}] (env' := [(2, .val (.int .i64 (n / 2)))]) (ob := [(2 : Int) ≠ 0, (.int .i64 (IntKind.i64.wrap (Int.tdiv n 2)) : Value) = (.int .i64 (n / 2) : Value)]) (fun B => by as_aux_lemma => kernel_rfl) rfl (Ac (by omega) (Ao (quo2 (by omega)))) ?_
    clear hf; intro a hf
    refine wpList_nil ?_
    refine hK5 _ _ ?_
    refine wp_ret ?_
    refine sxret (fn := Tryd.f42) hf hM [] (l := [.int .i64 (n / 2)]) (M' := []) (d' := false) (ob := []) (by kernel_rfl) (fun B => ⟨B, by as_aux_lemma => kernel_rfl⟩) rfl An ?_
    show (.int .i64 (n / 2) : Value) = .int .i64 (n / 2) ∧ Keep Nn w w
    exact ⟨by first | rfl | (congr 1; omega), hk0⟩

set_option maxRecDepth 10000 in
theorem rside_any (d : Int) (w : World) (hd : 0 ≤ d ∧ d ≤ 8) :
    Calls Tryd.prog 40 #[.int .i64 d] w (Ret fun v w' => v = .int .i64 (side d) ∧ Keep Nn w w') := by
  refine sxenter (n := 13) (args := [.int .i64 d]) Tryd.func40 rfl rfl rfl fun a hf => ?_
  replace hf : Fr 13 [(0, .val (.int .i64 d))] a := hf
  have hM : MemOk [] w := MemOk.nil w
  have hk0 : Keep Nn w w := Keep.refl _ _
  refine wp_seq_k (fun K1 hK1 => ?_)
  refine wp_region_lit ?_
  refine sr0 hf hM [0] [{}] (env' := [(0, .val (.int .i64 d))]) (ob := []) (fun B => by as_aux_lemma => kernel_rfl) rfl An ?_
  clear hf; intro a hf
  refine wpList_nil ?_
  refine hK1 _ _ ?_
  refine wp_seq_k (fun K2 hK2 => ?_)
  refine wp_region_lit ?_
  refine sr0 hf hM [3, 0] [{}] (env' := [(3, .val (.int .i64 4194304)), (0, .val (.int .i64 d))]) (ob := []) (fun B => by as_aux_lemma => kernel_rfl) rfl An ?_
  clear hf; intro a hf
  refine wpList_nil ?_
  refine hK2 _ _ ?_
  refine wp_seq_k (fun K3 hK3 => ?_)
  refine wp_seq_k (fun K4 hK4 => ?_)
  refine wp_region_lit ?_
  refine sr0 hf hM [4, 3, 0] [{}] (env' := [(4, .val (.int .i64 0)), (3, .val (.int .i64 4194304)), (0, .val (.int .i64 d))]) (ob := []) (fun B => by as_aux_lemma => kernel_rfl) rfl An ?_
  clear hf; intro a hf
  refine wpList_nil ?_
  refine hK4 _ _ ?_
  refine wp_block ?_
  have hf := hf.prune [0, 3, 4]
  replace hf : Fr 13 [(0, .val (.int .i64 d)), (3, .val (.int .i64 4194304)), (4, .val (.int .i64 0))] a := hf
  refine sxloop (fun m a w1 => ∃ (i : Int), m = (d - i).toNat ∧ Fr 13 [(0, .val (.int .i64 d)), (3, .val (.int .i64 (side i))), (4, .val (.int .i64 i))] a ∧ MemOk [] w1 ∧ Keep Nn w w1 ∧ (0 ≤ i ∧ i ≤ d)) _ ⟨0, rfl, hf.conv (Ac rfl (Ac (by first | rfl | (congr 1; omega)) (Ao rfl))), hM, hk0, (by omega)⟩ ?_
  clear hf hM hk0
  rintro _ a w1 ⟨i, rfl, hf, hM, hk0, hi⟩ L1 hL1
  refine wp_seq_k (fun K5 hK5 => ?_)
  refine wp_seq_k (fun K6 hK6 => ?_)
  refine wp_region_lit ?_
  refine sr0 hf hM [7, 0, 3, 4] [{}, {}, {}] (env' := [(7, .val (.bool (decide ((i : Int) < d)))), (0, .val (.int .i64 d)), (3, .val (.int .i64 (side i))), (4, .val (.int .i64 i))]) (ob := []) (fun B => by as_aux_lemma => kernel_rfl) rfl An ?_
  clear hf; intro a hf
  refine wpList_nil ?_
  refine hK6 _ _ ?_
  refine sxcond hf (b := (decide ((i : Int) < d))) (by kernel_rfl) (fun hc1 => ?_) (fun hc1 => ?_)
  · have hc1r := hc1
    try simp only [Bool.or_eq_true, Bool.and_eq_true, Bool.not_eq_true', Bool.not_eq_false', Bool.or_eq_false_iff, Bool.and_eq_false_iff, decide_eq_true_eq, decide_eq_false_iff_not, beq_iff_eq, bne_iff_ne, beq_eq_false_iff_ne, bne_eq_false_iff_eq, Bool.and_true, Bool.true_and, ne_eq] at hc1
    refine wp_skip ?_
    refine hK5 _ _ ?_
    refine wp_seq_k (fun K7 hK7 => ?_)
    refine wp_block ?_
    refine wp_region_lit ?_
    refine sr0 hf hM [3, 0, 4] [{}, { sp := true, hint := some (.int .i64 (side (i + 1))) }, {}] (env' := [(3, .val (.int .i64 (side (i + 1)))), (0, .val (.int .i64 d)), (4, .val (.int .i64 i))]) (ob := [(2 : Int) ≠ 0, (.int .i64 (IntKind.i64.wrap (Int.tdiv (side i) 2)) : Value) = (.int .i64 (side (i + 1)) : Value)]) (fun B => by as_aux_lemma => kernel_rfl) rfl (Ac (by omega) (Ao (side_quo (by omega)))) ?_
    clear hf; intro a hf
    refine wpList_nil ?_
    refine hK7 _ _ ?_
    refine wp_region_lit ?_
    refine sr0 hf hM [4, 3, 0] [{}, { hint := some (.int .i64 (i + 1)) }, {}] (env' := [(4, .val (.int .i64 (i + 1))), (3, .val (.int .i64 (side (i + 1)))), (0, .val (.int .i64 d))]) (ob := [(.int .i64 (IntKind.i64.wrap (i + 1)) : Value) = (.int .i64 (i + 1) : Value)]) (fun B => by as_aux_lemma => kernel_rfl) rfl (Ao (wr (by omega))) ?_
    clear hf; intro a hf
    refine wpList_nil ?_
    have hf := hf.prune [0, 3, 4]
    replace hf : Fr 13 [(0, .val (.int .i64 d)), (3, .val (.int .i64 (side (i + 1)))), (4, .val (.int .i64 (i + 1)))] a := hf
    refine hL1 _ _ _ (by omega) ⟨i + 1, rfl, hf.conv (Ac rfl (Ac rfl (Ao rfl))), hM, hk0, (by omega)⟩
  · have hc1r := hc1
    try simp only [Bool.or_eq_true, Bool.and_eq_true, Bool.not_eq_true', Bool.not_eq_false', Bool.or_eq_false_iff, Bool.and_eq_false_iff, decide_eq_true_eq, decide_eq_false_iff_not, beq_iff_eq, bne_iff_ne, beq_eq_false_iff_ne, bne_eq_false_iff_eq, Bool.and_true, Bool.true_and, ne_eq] at hc1
    refine wp_exit ?_
    refine hK3 _ _ ?_
    refine wp_seq_k (fun K8 hK8 => ?_)
    refine wp_region_lit ?_
    refine sr0 hf hM [2] [{}, {}] (env' := [(2, .val (.int .i64 (side i)))]) (ob := []) (fun B => by as_aux_lemma => kernel_rfl) rfl An ?_
    clear hf; intro a hf
    refine wpList_nil ?_
    refine hK8 _ _ ?_
    refine wp_ret ?_
    refine sxret (fn := Tryd.f40) hf hM [] (l := [.int .i64 (side i)]) (M' := []) (d' := false) (ob := []) (by kernel_rfl) (fun B => ⟨B, by as_aux_lemma => kernel_rfl⟩) rfl An ?_
    show (.int .i64 (side i) : Value) = .int .i64 (side d) ∧ Keep Nn w w1
    obtain rfl : i = d := by omega
    exact ⟨rfl, hk0⟩

set_option maxRecDepth 10000 in
theorem column_any (n d : Int) (w : World) (hd : 0 ≤ d ∧ d ≤ 8) (hn : -2097152 ≤ n ∧ n ≤ 2097152) :
    Calls Tryd.prog 41 #[.int .i64 n, .int .i64 d] w (Ret fun v w' => v = .int .i64 (colOf n d) ∧ Keep Nn w w') := by
  refine sxenter (n := 26) (args := [.int .i64 n, .int .i64 d]) Tryd.func41 rfl rfl rfl fun a hf => ?_
  replace hf : Fr 26 [(0, .val (.int .i64 n)), (1, .val (.int .i64 d))] a := hf
  have hM : MemOk [] w := MemOk.nil w
  have hk0 : Keep Nn w w := Keep.refl _ _
  have hp := pow_bd hd
  have hs := side_bd hd
  refine wp_seq_k (fun K1 hK1 => ?_)
  refine wp_region_lit ?_
  refine sr0 hf hM [0, 1] [{}] (env' := [(0, .val (.int .i64 n)), (1, .val (.int .i64 d))]) (ob := []) (fun B => by as_aux_lemma => kernel_rfl) rfl An ?_
  clear hf; intro a hf
  refine wpList_nil ?_
  refine hK1 _ _ ?_
  refine wp_seq_k (fun K2 hK2 => ?_)
  refine wp_region_lit ?_
  refine sr0 hf hM [7, 0, 1] [{}] (env' := [(7, .val (.int .i64 d)), (0, .val (.int .i64 n)), (1, .val (.int .i64 d))]) (ob := []) (fun B => by as_aux_lemma => kernel_rfl) rfl An ?_
  clear hf; intro a hf
  refine sxcall hf rfl rfl rfl rfl (g := 40) (vs := [.int .i64 d]) (ob := []) (by as_aux_lemma => kernel_rfl) An enters40 (rside_any d w  (by omega)) ?_
  clear hf; rintro _ w1 a ⟨rfl, hk⟩ hf
  have hM := hM.keepNn hk
  have hk0 := hk0.trans hk.nn
  clear hk
  refine sr0 hf hM [5, 0, 1] [{}] (env' := [(5, .val (.int .i64 (side d))), (0, .val (.int .i64 n)), (1, .val (.int .i64 d))]) (ob := []) (fun B => by as_aux_lemma => kernel_rfl) rfl An ?_
  clear hf; intro a hf
  refine wpList_nil ?_
  refine hK2 _ _ ?_
  refine wp_seq_k (fun K3 hK3 => ?_)
  refine wp_region_lit ?_
  refine sr0 hf hM [6, 5, 0, 1] [{}] (env' := [(6, .val (.int .i64 0)), (5, .val (.int .i64 (side d))), (0, .val (.int .i64 n)), (1, .val (.int .i64 d))]) (ob := []) (fun B => by as_aux_lemma => kernel_rfl) rfl An ?_
  clear hf; intro a hf
  refine wpList_nil ?_
  refine hK3 _ _ ?_
  refine wp_seq_k (fun K4 hK4 => ?_)
  refine wp_block ?_
  have hf := hf.prune [0, 1, 5, 6]
  replace hf : Fr 26 [(0, .val (.int .i64 n)), (1, .val (.int .i64 d)), (5, .val (.int .i64 (side d))), (6, .val (.int .i64 0))] a := hf
  refine sxloop (fun m a w1 => ∃ (k : Int), m = (256 - k).toNat ∧ Fr 26 [(0, .val (.int .i64 n)), (1, .val (.int .i64 d)), (5, .val (.int .i64 (side d))), (6, .val (.int .i64 k))] a ∧ MemOk [] w1 ∧ Keep Nn w w1 ∧ (0 ≤ k ∧ k ≤ 2 ^ d.toNat - 1) ∧ (k * side d ≤ n + 2097152)) _ ⟨0, rfl, hf.conv (Ac rfl (Ac rfl (Ac rfl (Ao rfl)))), hM, hk0, (by omega), (by rw [Int.zero_mul]; omega)⟩ ?_
  clear hf hM hk0
  rintro _ a w2 ⟨k, rfl, hf, hM, hk0, hi, hks⟩ L1 hL1
  refine wp_seq_k (fun K5 hK5 => ?_)
  refine wp_seq_k (fun K6 hK6 => ?_)
  refine wp_region_lit ?_
  refine sr0 hf hM [22, 21, 20, 19, 18, 17, 16, 15, 0, 1, 5, 6] [{}, { hint := some (.int .i64 (k + 1)) }, {}, { sp := true, hint := some (.int .i64 (2 ^ d.toNat)) }, {}, {}, { g := .sym }, { g := .sym, hint := some (.int .i64 (k + 1)) }, { g := .sym }, { g := .sym, hint := some (.int .i64 ((k + 1) * (side d))) }, { g := .sym, hint := some (.int .i64 ((-2097152) + ((k + 1) * (side d)))) }, { g := .sym }, { g := .sym }, { hint := some (.bool ((decide (((k + 1) : Int) < (2 ^ d.toNat))) && (decide ((((-2097152) + ((k + 1) * (side d))) : Int) ≤ n)))) }] (env' := [(22, .val (.bool ((decide (((k + 1) : Int) < (2 ^ d.toNat))) && (decide ((((-2097152) + ((k + 1) * (side d))) : Int) ≤ n))))), (21, .gd (decide (((k + 1) : Int) < (2 ^ d.toNat))) true (.bool (decide ((((-2097152) + ((k + 1) * (side d))) : Int) ≤ n)))), (20, .gd (decide (((k + 1) : Int) < (2 ^ d.toNat))) true (.int .i64 n)), (19, .gd (decide (((k + 1) : Int) < (2 ^ d.toNat))) true (.int .i64 ((-2097152) + ((k + 1) * (side d))))), (18, .gd (decide (((k + 1) : Int) < (2 ^ d.toNat))) true (.int .i64 ((k + 1) * (side d)))), (17, .gd (decide (((k + 1) : Int) < (2 ^ d.toNat))) true (.int .i64 (side d))), (16, .gd (decide (((k + 1) : Int) < (2 ^ d.toNat))) true (.int .i64 (k + 1))), (15, .gd (decide (((k + 1) : Int) < (2 ^ d.toNat))) true (.int .i64 k)), (0, .val (.int .i64 n)), (1, .val (.int .i64 d)), (5, .val (.int .i64 (side d))), (6, .val (.int .i64 k))]) (ob := [(.int .i64 (IntKind.i64.wrap (k + 1)) : Value) = (.int .i64 (k + 1) : Value), 0 ≤ (d : Int), (.int .i64 (IntKind.i64.wrap (1 * 2 ^ (min (d : Int).toNat IntKind.i64.bits))) : Value) = (.int .i64 (2 ^ d.toNat) : Value), ((decide (((k + 1) : Int) < (2 ^ d.toNat))) = true → (decide (((k + 1) : Int) < (2 ^ d.toNat))) = (decide (((k + 1) : Int) < (2 ^ d.toNat)))), ((decide (((k + 1) : Int) < (2 ^ d.toNat))) = true → (.int .i64 (IntKind.i64.wrap (k + 1)) : Value) = (.int .i64 (k + 1) : Value)), ((decide (((k + 1) : Int) < (2 ^ d.toNat))) = true → (decide (((k + 1) : Int) < (2 ^ d.toNat))) = (decide (((k + 1) : Int) < (2 ^ d.toNat)))), ((decide (((k + 1) : Int) < (2 ^ d.toNat))) = true → (decide (((k + 1) : Int) < (2 ^ d.toNat))) = (decide (((k + 1) : Int) < (2 ^ d.toNat)))), ((decide (((k + 1) : Int) < (2 ^ d.toNat))) = true → (.int .i64 (IntKind.i64.wrap ((k + 1) * (side d))) : Value) = (.int .i64 ((k + 1) * (side d)) : Value)), ((decide (((k + 1) : Int) < (2 ^ d.toNat))) = true → (decide (((k + 1) : Int) < (2 ^ d.toNat))) = (decide (((k + 1) : Int) < (2 ^ d.toNat)))), ((decide (((k + 1) : Int) < (2 ^ d.toNat))) = true → (.int .i64 (IntKind.i64.wrap ((-2097152) + ((k + 1) * (side d)))) : Value) = (.int .i64 ((-2097152) + ((k + 1) * (side d))) : Value)), ((decide (((k + 1) : Int) < (2 ^ d.toNat))) = true → (decide (((k + 1) : Int) < (2 ^ d.toNat))) = (decide (((k + 1) : Int) < (2 ^ d.toNat)))), ((decide (((k + 1) : Int) < (2 ^ d.toNat))) = true → (decide (((k + 1) : Int) < (2 ^ d.toNat))) = (decide (((k + 1) : Int) < (2 ^ d.toNat)))), ((decide (((k + 1) : Int) < (2 ^ d.toNat))) = true → (decide (((k + 1) : Int) < (2 ^ d.toNat))) = (decide (((k + 1) : Int) < (2 ^ d.toNat)))), (bif (decide (((k + 1) : Int) < (2 ^ d.toNat))) then (.bool (decide ((((-2097152) + ((k + 1) * (side d))) : Int) ≤ n)) : Value) else .bool false) = .bool ((decide (((k + 1) : Int) < (2 ^ d.toNat))) && (decide ((((-2097152) + ((k + 1) * (side d))) : Int) ≤ n)))]) (fun B => by as_aux_lemma => kernel_rfl) rfl (Ac (wr (by omega)) (Ac (by omega) (Ac (shl_one (by omega)) (Ac (fun hgd => rfl) (Ac (fun hgd => (wr (by omega))) (Ac (fun hgd => rfl) (Ac (fun hgd => rfl) (Ac (fun hgd => (wr (by have := mulk_bd hd hi.1 (by simpa using hgd); omega))) (Ac (fun hgd => rfl) (Ac (fun hgd => (wr (by have := mulk_bd hd hi.1 (by simpa using hgd); omega))) (Ac (fun hgd => rfl) (Ac (fun hgd => rfl) (Ac (fun _ => rfl) (Ao (pick_and _ _))))))))))))))) ?_
  clear hf; intro a hf
  refine wpList_nil ?_
  refine hK6 _ _ ?_
  refine sxcond hf (b := ((decide (((k + 1) : Int) < (2 ^ d.toNat))) && (decide ((((-2097152) + ((k + 1) * (side d))) : Int) ≤ n)))) (by kernel_rfl) (fun hc1 => ?_) (fun hc1 => ?_)
  · have hc1r := hc1
    try simp only [Bool.or_eq_true, Bool.and_eq_true, Bool.not_eq_true', Bool.not_eq_false', Bool.or_eq_false_iff, Bool.and_eq_false_iff, decide_eq_true_eq, decide_eq_false_iff_not, beq_iff_eq, bne_iff_ne, beq_eq_false_iff_ne, bne_eq_false_iff_eq, Bool.and_true, Bool.true_and, ne_eq] at hc1
    refine wp_skip ?_
    refine hK5 _ _ ?_
    refine wp_block ?_
    refine wp_region_lit ?_
    refine sr0 hf hM [6, 21, 20, 19, 18, 17, 16, 15, 0, 1, 5] [{}, { hint := some (.int .i64 (k + 1)) }, {}] (env' := [(6, .val (.int .i64 (k + 1))), (21, .gd (decide (((k + 1) : Int) < (2 ^ d.toNat))) true (.bool (decide ((((-2097152) + ((k + 1) * (side d))) : Int) ≤ n)))), (20, .gd (decide (((k + 1) : Int) < (2 ^ d.toNat))) true (.int .i64 n)), (19, .gd (decide (((k + 1) : Int) < (2 ^ d.toNat))) true (.int .i64 ((-2097152) + ((k + 1) * (side d))))), (18, .gd (decide (((k + 1) : Int) < (2 ^ d.toNat))) true (.int .i64 ((k + 1) * (side d)))), (17, .gd (decide (((k + 1) : Int) < (2 ^ d.toNat))) true (.int .i64 (side d))), (16, .gd (decide (((k + 1) : Int) < (2 ^ d.toNat))) true (.int .i64 (k + 1))), (15, .gd (decide (((k + 1) : Int) < (2 ^ d.toNat))) true (.int .i64 k)), (0, .val (.int .i64 n)), (1, .val (.int .i64 d)), (5, .val (.int .i64 (side d)))]) (ob := [(.int .i64 (IntKind.i64.wrap (k + 1)) : Value) = (.int .i64 (k + 1) : Value)]) (fun B => by as_aux_lemma => kernel_rfl) rfl (Ao (wr (by omega))) ?_
    clear hf; intro a hf
    refine wpList_nil ?_
    have hf := hf.prune [0, 1, 5, 6]
    replace hf : Fr 26 [(0, .val (.int .i64 n)), (1, .val (.int .i64 d)), (5, .val (.int .i64 (side d))), (6, .val (.int .i64 (k + 1)))] a := hf
    refine hL1 _ _ _ (by omega) ⟨k + 1, rfl, hf.conv (Ac rfl (Ac rfl (Ac rfl (Ao rfl)))), hM, hk0, (by omega), (by omega)⟩
  · have hc1r := hc1
    try simp only [Bool.or_eq_true, Bool.and_eq_true, Bool.not_eq_true', Bool.not_eq_false', Bool.or_eq_false_iff, Bool.and_eq_false_iff, decide_eq_true_eq, decide_eq_false_iff_not, beq_iff_eq, bne_iff_ne, beq_eq_false_iff_ne, bne_eq_false_iff_eq, Bool.and_true, Bool.true_and, ne_eq] at hc1
    refine wp_exit ?_
    refine hK4 _ _ ?_
    refine wp_seq_k (fun K7 hK7 => ?_)
    refine wp_region_lit ?_
    refine sr0 hf hM [4] [{}, {}] (env' := [(4, .val (.int .i64 k))]) (ob := []) (fun B => by as_aux_lemma => kernel_rfl) rfl An ?_
    clear hf; intro a hf
    refine wpList_nil ?_
    refine hK7 _ _ ?_
    refine wp_ret ?_
    refine sxret (fn := Tryd.f41) hf hM [] (l := [.int .i64 k]) (M' := []) (d' := false) (ob := []) (by kernel_rfl) (fun B => ⟨B, by as_aux_lemma => kernel_rfl⟩) rfl An ?_
    show (.int .i64 k : Value) = .int .i64 (colOf n d) ∧ Keep Nn w w2
    rw [col_done hd hi.1 hi.2 hks (by omega)]
    exact ⟨rfl, hk0⟩

set_option maxRecDepth 10000 in
theorem rcell_right (d x y : Int) (w : World) :
    Calls Tryd.prog 20 #[.agg #[.int .i64 d, .int .i64 x, .int .i64 y]] w (Ret fun v w' => v = .bool (cellRight d x y) ∧ Keep Nn w w') := by
  refine sxenter (n := 37) (args := [.agg #[.int .i64 d, .int .i64 x, .int .i64 y]]) Tryd.func20 rfl rfl rfl fun a hf => ?_
  replace hf : Fr 37 [(0, .val (.agg #[.int .i64 d, .int .i64 x, .int .i64 y]))] a := hf
  have hM : MemOk [] w := MemOk.nil w
  have hk0 : Keep Nn w w := Keep.refl _ _
  refine wp_seq_k (fun K1 hK1 => ?_)
  refine wp_region_lit ?_
  refine sr hf hM [2, 1] [{ os := [.nw] }, {}] (env' := fun B1 => [(2, .val (.bool false)), (1, .val (.pointer (some ⟨B1, 0, none⟩)))]) (M' := fun B1 => [⟨B1, 47, [.int .i64 d, .int .i64 x, .int .i64 y]⟩]) (ob := fun B1 => []) (fun B => by as_aux_lemma => kernel_rfl) (fun B1 => An) ?_
  clear hf hM; intro a w1 B1 hf hM hB hk
  have hbB1 : w.heap.size ≤ B1 := by have := hk0.size; omega
  have hk0 := hk0.then hk (by intro i _ h; cases h)
  clear hk hB
  refine wpList_nil ?_
  refine hK1 _ _ ?_
  refine wp_seq_k (fun K2 hK2 => ?_)
  refine sxdraw [] [(0, true), (1, true), (2, true), (3, true), (4, true), (5, true), (6, true), (7, true), (8, true), (9, true), (10, true), (11, true), (12, true), (13, true), (14, true), (15, true), (16, true), (17, true), (18, true), (19, true), (20, true), (21, true), (22, true), (23, true), (24, true), (25, true), (26, true), (27, true), (28, true), (29, true), (30, true), (31, true), (32, true), (33, true), (34, true)] (by kernel_rfl) (by kernel_rfl) (by as_aux_lemma => kernel_rfl) rfl (by as_aux_lemma => kernel_rfl) (by kernel_rfl) ?_
  replace hM := hM.drew; replace hk0 := hk0.drew
  have hkd := hk0
  have hC : Keep (Is []) w1.drew w1.drew := Keep.refl _ _
  have hM0 := hM
  have hMr := hM
  refine sc0 hf hMr (by intro k _ h; cases h) hC [2] [{}, { os := [.ld 0 0] }, {}, {}, { g := .sym }, { g := .sym, os := [.ld 0 0] }, { g := .sym }, { hint := some (.bool ((decide ((d : Int) ≥ 0)) && (decide ((d : Int) ≤ 8)))) }, {}, { g := .sym }, { g := .sym, os := [.ld 0 1] }, { g := .sym }, { hint := some (.bool (((decide ((d : Int) ≥ 0)) && (decide ((d : Int) ≤ 8))) && (decide ((x : Int) ≥ 0)))) }, {}, { g := .sym }, { g := .sym, os := [.ld 0 2] }, { g := .sym }, { hint := some (.bool ((((decide ((d : Int) ≥ 0)) && (decide ((d : Int) ≤ 8))) && (decide ((x : Int) ≥ 0))) && (decide ((y : Int) ≥ 0)))) }, {}, { g := .sym }, { g := .sym, os := [.ld 0 1] }, { g := .sym }, { g := .sym, os := [.ld 0 0] }, { g := .sym, sp := true, hint := some (.int .i64 (2 ^ d.toNat)) }, { g := .sym }, { hint := some (.bool (((((decide ((d : Int) ≥ 0)) && (decide ((d : Int) ≤ 8))) && (decide ((x : Int) ≥ 0))) && (decide ((y : Int) ≥ 0))) && (decide ((x : Int) < (2 ^ d.toNat))))) }, {}, { g := .sym }, { g := .sym, os := [.ld 0 2] }, { g := .sym }, { g := .sym, os := [.ld 0 0] }, { g := .sym, sp := true, hint := some (.int .i64 (2 ^ d.toNat)) }, { g := .sym }, { hint := some (.bool ((((((decide ((d : Int) ≥ 0)) && (decide ((d : Int) ≤ 8))) && (decide ((x : Int) ≥ 0))) && (decide ((y : Int) ≥ 0))) && (decide ((x : Int) < (2 ^ d.toNat)))) && (decide ((y : Int) < (2 ^ d.toNat))))) }, {}] (env' := [(2, .val (.bool ((((((decide ((d : Int) ≥ 0)) && (decide ((d : Int) ≤ 8))) && (decide ((x : Int) ≥ 0))) && (decide ((y : Int) ≥ 0))) && (decide ((x : Int) < (2 ^ d.toNat)))) && (decide ((y : Int) < (2 ^ d.toNat))))))]) (ob := [Ad B1 0, ((decide ((d : Int) ≥ 0)) = true → (decide ((d : Int) ≥ 0)) = (decide ((d : Int) ≥ 0))), ((decide ((d : Int) ≥ 0)) = true → Ad B1 0), ((decide ((d : Int) ≥ 0)) = true → (decide ((d : Int) ≥ 0)) = (decide ((d : Int) ≥ 0))), ((decide ((d : Int) ≥ 0)) = true → (decide ((d : Int) ≥ 0)) = (decide ((d : Int) ≥ 0))), (bif (decide ((d : Int) ≥ 0)) then (.bool (decide ((d : Int) ≤ 8)) : Value) else .bool false) = .bool ((decide ((d : Int) ≥ 0)) && (decide ((d : Int) ≤ 8))), (((decide ((d : Int) ≥ 0)) && (decide ((d : Int) ≤ 8))) = true → ((decide ((d : Int) ≥ 0)) && (decide ((d : Int) ≤ 8))) = ((decide ((d : Int) ≥ 0)) && (decide ((d : Int) ≤ 8)))), (((decide ((d : Int) ≥ 0)) && (decide ((d : Int) ≤ 8))) = true → Ad B1 1), (((decide ((d : Int) ≥ 0)) && (decide ((d : Int) ≤ 8))) = true → ((decide ((d : Int) ≥ 0)) && (decide ((d : Int) ≤ 8))) = ((decide ((d : Int) ≥ 0)) && (decide ((d : Int) ≤ 8)))), (((decide ((d : Int) ≥ 0)) && (decide ((d : Int) ≤ 8))) = true → ((decide ((d : Int) ≥ 0)) && (decide ((d : Int) ≤ 8))) = ((decide ((d : Int) ≥ 0)) && (decide ((d : Int) ≤ 8)))), (bif ((decide ((d : Int) ≥ 0)) && (decide ((d : Int) ≤ 8))) then (.bool (decide ((x : Int) ≥ 0)) : Value) else .bool false) = .bool (((decide ((d : Int) ≥ 0)) && (decide ((d : Int) ≤ 8))) && (decide ((x : Int) ≥ 0))), ((((decide ((d : Int) ≥ 0)) && (decide ((d : Int) ≤ 8))) && (decide ((x : Int) ≥ 0))) = true → (((decide ((d : Int) ≥ 0)) && (decide ((d : Int) ≤ 8))) && (decide ((x : Int) ≥ 0))) = (((decide ((d : Int) ≥ 0)) && (decide ((d : Int) ≤ 8))) && (decide ((x : Int) ≥ 0)))), ((((decide ((d : Int) ≥ 0)) && (decide ((d : Int) ≤ 8))) && (decide ((x : Int) ≥ 0))) = true → Ad B1 2), ((((decide ((d : Int) ≥ 0)) && (decide ((d : Int) ≤ 8))) && (decide ((x : Int) ≥ 0))) = true → (((decide ((d : Int) ≥ 0)) && (decide ((d : Int) ≤ 8))) && (decide ((x : Int) ≥ 0))) = (((decide ((d : Int) ≥ 0)) && (decide ((d : Int) ≤ 8))) && (decide ((x : Int) ≥ 0)))), ((((decide ((d : Int) ≥ 0)) && (decide ((d : Int) ≤ 8))) && (decide ((x : Int) ≥ 0))) = true → (((decide ((d : Int) ≥ 0)) && (decide ((d : Int) ≤ 8))) && (decide ((x : Int) ≥ 0))) = (((decide ((d : Int) ≥ 0)) && (decide ((d : Int) ≤ 8))) && (decide ((x : Int) ≥ 0)))), (bif (((decide ((d : Int) ≥ 0)) && (decide ((d : Int) ≤ 8))) && (decide ((x : Int) ≥ 0))) then (.bool (decide ((y : Int) ≥ 0)) : Value) else .bool false) = .bool ((((decide ((d : Int) ≥ 0)) && (decide ((d : Int) ≤ 8))) && (decide ((x : Int) ≥ 0))) && (decide ((y : Int) ≥ 0))), (((((decide ((d : Int) ≥ 0)) && (decide ((d : Int) ≤ 8))) && (decide ((x : Int) ≥ 0))) && (decide ((y : Int) ≥ 0))) = true → ((((decide ((d : Int) ≥ 0)) && (decide ((d : Int) ≤ 8))) && (decide ((x : Int) ≥ 0))) && (decide ((y : Int) ≥ 0))) = ((((decide ((d : Int) ≥ 0)) && (decide ((d : Int) ≤ 8))) && (decide ((x : Int) ≥ 0))) && (decide ((y : Int) ≥ 0)))), (((((decide ((d : Int) ≥ 0)) && (decide ((d : Int) ≤ 8))) && (decide ((x : Int) ≥ 0))) && (decide ((y : Int) ≥ 0))) = true → Ad B1 1), (((((decide ((d : Int) ≥ 0)) && (decide ((d : Int) ≤ 8))) && (decide ((x : Int) ≥ 0))) && (decide ((y : Int) ≥ 0))) = true → ((((decide ((d : Int) ≥ 0)) && (decide ((d : Int) ≤ 8))) && (decide ((x : Int) ≥ 0))) && (decide ((y : Int) ≥ 0))) = ((((decide ((d : Int) ≥ 0)) && (decide ((d : Int) ≤ 8))) && (decide ((x : Int) ≥ 0))) && (decide ((y : Int) ≥ 0)))), (((((decide ((d : Int) ≥ 0)) && (decide ((d : Int) ≤ 8))) && (decide ((x : Int) ≥ 0))) && (decide ((y : Int) ≥ 0))) = true → Ad B1 0), (((((decide ((d : Int) ≥ 0)) && (decide ((d : Int) ≤ 8))) && (decide ((x : Int) ≥ 0))) && (decide ((y : Int) ≥ 0))) = true → ((((decide ((d : Int) ≥ 0)) && (decide ((d : Int) ≤ 8))) && (decide ((x : Int) ≥ 0))) && (decide ((y : Int) ≥ 0))) = ((((decide ((d : Int) ≥ 0)) && (decide ((d : Int) ≤ 8))) && (decide ((x : Int) ≥ 0))) && (decide ((y : Int) ≥ 0)))), (((((decide ((d : Int) ≥ 0)) && (decide ((d : Int) ≤ 8))) && (decide ((x : Int) ≥ 0))) && (decide ((y : Int) ≥ 0))) = true → 0 ≤ (d : Int)), (((((decide ((d : Int) ≥ 0)) && (decide ((d : Int) ≤ 8))) && (decide ((x : Int) ≥ 0))) && (decide ((y : Int) ≥ 0))) = true → (.int .i64 (IntKind.i64.wrap (1 * 2 ^ (min (d : Int).toNat IntKind.i64.bits))) : Value) = (.int .i64 (2 ^ d.toNat) : Value)), (((((decide ((d : Int) ≥ 0)) && (decide ((d : Int) ≤ 8))) && (decide ((x : Int) ≥ 0))) && (decide ((y : Int) ≥ 0))) = true → ((((decide ((d : Int) ≥ 0)) && (decide ((d : Int) ≤ 8))) && (decide ((x : Int) ≥ 0))) && (decide ((y : Int) ≥ 0))) = ((((decide ((d : Int) ≥ 0)) && (decide ((d : Int) ≤ 8))) && (decide ((x : Int) ≥ 0))) && (decide ((y : Int) ≥ 0)))), (((((decide ((d : Int) ≥ 0)) && (decide ((d : Int) ≤ 8))) && (decide ((x : Int) ≥ 0))) && (decide ((y : Int) ≥ 0))) = true → ((((decide ((d : Int) ≥ 0)) && (decide ((d : Int) ≤ 8))) && (decide ((x : Int) ≥ 0))) && (decide ((y : Int) ≥ 0))) = ((((decide ((d : Int) ≥ 0)) && (decide ((d : Int) ≤ 8))) && (decide ((x : Int) ≥ 0))) && (decide ((y : Int) ≥ 0)))), (((((decide ((d : Int) ≥ 0)) && (decide ((d : Int) ≤ 8))) && (decide ((x : Int) ≥ 0))) && (decide ((y : Int) ≥ 0))) = true → ((((decide ((d : Int) ≥ 0)) && (decide ((d : Int) ≤ 8))) && (decide ((x : Int) ≥ 0))) && (decide ((y : Int) ≥ 0))) = ((((decide ((d : Int) ≥ 0)) && (decide ((d : Int) ≤ 8))) && (decide ((x : Int) ≥ 0))) && (decide ((y : Int) ≥ 0)))), (bif ((((decide ((d : Int) ≥ 0)) && (decide ((d : Int) ≤ 8))) && (decide ((x : Int) ≥ 0))) && (decide ((y : Int) ≥ 0))) then (.bool (decide ((x : Int) < (2 ^ d.toNat))) : Value) else .bool false) = .bool (((((decide ((d : Int) ≥ 0)) && (decide ((d : Int) ≤ 8))) && (decide ((x : Int) ≥ 0))) && (decide ((y : Int) ≥ 0))) && (decide ((x : Int) < (2 ^ d.toNat)))), ((((((decide ((d : Int) ≥ 0)) && (decide ((d : Int) ≤ 8))) && (decide ((x : Int) ≥ 0))) && (decide ((y : Int) ≥ 0))) && (decide ((x : Int) < (2 ^ d.toNat)))) = true → (((((decide ((d : Int) ≥ 0)) && (decide ((d : Int) ≤ 8))) && (decide ((x : Int) ≥ 0))) && (decide ((y : Int) ≥ 0))) && (decide ((x : Int) < (2 ^ d.toNat)))) = (((((decide ((d : Int) ≥ 0)) && (decide ((d : Int) ≤ 8))) && (decide ((x : Int) ≥ 0))) && (decide ((y : Int) ≥ 0))) && (decide ((x : Int) < (2 ^ d.toNat))))), ((((((decide ((d : Int) ≥ 0)) && (decide ((d : Int) ≤ 8))) && (decide ((x : Int) ≥ 0))) && (decide ((y : Int) ≥ 0))) && (decide ((x : Int) < (2 ^ d.toNat)))) = true → Ad B1 2), ((((((decide ((d : Int) ≥ 0)) && (decide ((d : Int) ≤ 8))) && (decide ((x : Int) ≥ 0))) && (decide ((y : Int) ≥ 0))) && (decide ((x : Int) < (2 ^ d.toNat)))) = true → (((((decide ((d : Int) ≥ 0)) && (decide ((d : Int) ≤ 8))) && (decide ((x : Int) ≥ 0))) && (decide ((y : Int) ≥ 0))) && (decide ((x : Int) < (2 ^ d.toNat)))) = (((((decide ((d : Int) ≥ 0)) && (decide ((d : Int) ≤ 8))) && (decide ((x : Int) ≥ 0))) && (decide ((y : Int) ≥ 0))) && (decide ((x : Int) < (2 ^ d.toNat))))), ((((((decide ((d : Int) ≥ 0)) && (decide ((d : Int) ≤ 8))) && (decide ((x : Int) ≥ 0))) && (decide ((y : Int) ≥ 0))) && (decide ((x : Int) < (2 ^ d.toNat)))) = true → Ad B1 0), ((((((decide ((d : Int) ≥ 0)) && (decide ((d : Int) ≤ 8))) && (decide ((x : Int) ≥ 0))) && (decide ((y : Int) ≥ 0))) && (decide ((x : Int) < (2 ^ d.toNat)))) = true → (((((decide ((d : Int) ≥ 0)) && (decide ((d : Int) ≤ 8))) && (decide ((x : Int) ≥ 0))) && (decide ((y : Int) ≥ 0))) && (decide ((x : Int) < (2 ^ d.toNat)))) = (((((decide ((d : Int) ≥ 0)) && (decide ((d : Int) ≤ 8))) && (decide ((x : Int) ≥ 0))) && (decide ((y : Int) ≥ 0))) && (decide ((x : Int) < (2 ^ d.toNat))))), ((((((decide ((d : Int) ≥ 0)) && (decide ((d : Int) ≤ 8))) && (decide ((x : Int) ≥ 0))) && (decide ((y : Int) ≥ 0))) && (decide ((x : Int) < (2 ^ d.toNat)))) = true → 0 ≤ (d : Int)), ((((((decide ((d : Int) ≥ 0)) && (decide ((d : Int) ≤ 8))) && (decide ((x : Int) ≥ 0))) && (decide ((y : Int) ≥ 0))) && (decide ((x : Int) < (2 ^ d.toNat)))) = true → (.int .i64 (IntKind.i64.wrap (1 * 2 ^ (min (d : Int).toNat IntKind.i64.bits))) : Value) = (.int .i64 (2 ^ d.toNat) : Value)), ((((((decide ((d : Int) ≥ 0)) && (decide ((d : Int) ≤ 8))) && (decide ((x : Int) ≥ 0))) && (decide ((y : Int) ≥ 0))) && (decide ((x : Int) < (2 ^ d.toNat)))) = true → (((((decide ((d : Int) ≥ 0)) && (decide ((d : Int) ≤ 8))) && (decide ((x : Int) ≥ 0))) && (decide ((y : Int) ≥ 0))) && (decide ((x : Int) < (2 ^ d.toNat)))) = (((((decide ((d : Int) ≥ 0)) && (decide ((d : Int) ≤ 8))) && (decide ((x : Int) ≥ 0))) && (decide ((y : Int) ≥ 0))) && (decide ((x : Int) < (2 ^ d.toNat))))), ((((((decide ((d : Int) ≥ 0)) && (decide ((d : Int) ≤ 8))) && (decide ((x : Int) ≥ 0))) && (decide ((y : Int) ≥ 0))) && (decide ((x : Int) < (2 ^ d.toNat)))) = true → (((((decide ((d : Int) ≥ 0)) && (decide ((d : Int) ≤ 8))) && (decide ((x : Int) ≥ 0))) && (decide ((y : Int) ≥ 0))) && (decide ((x : Int) < (2 ^ d.toNat)))) = (((((decide ((d : Int) ≥ 0)) && (decide ((d : Int) ≤ 8))) && (decide ((x : Int) ≥ 0))) && (decide ((y : Int) ≥ 0))) && (decide ((x : Int) < (2 ^ d.toNat))))), ((((((decide ((d : Int) ≥ 0)) && (decide ((d : Int) ≤ 8))) && (decide ((x : Int) ≥ 0))) && (decide ((y : Int) ≥ 0))) && (decide ((x : Int) < (2 ^ d.toNat)))) = true → (((((decide ((d : Int) ≥ 0)) && (decide ((d : Int) ≤ 8))) && (decide ((x : Int) ≥ 0))) && (decide ((y : Int) ≥ 0))) && (decide ((x : Int) < (2 ^ d.toNat)))) = (((((decide ((d : Int) ≥ 0)) && (decide ((d : Int) ≤ 8))) && (decide ((x : Int) ≥ 0))) && (decide ((y : Int) ≥ 0))) && (decide ((x : Int) < (2 ^ d.toNat))))), (bif (((((decide ((d : Int) ≥ 0)) && (decide ((d : Int) ≤ 8))) && (decide ((x : Int) ≥ 0))) && (decide ((y : Int) ≥ 0))) && (decide ((x : Int) < (2 ^ d.toNat)))) then (.bool (decide ((y : Int) < (2 ^ d.toNat))) : Value) else .bool false) = .bool ((((((decide ((d : Int) ≥ 0)) && (decide ((d : Int) ≤ 8))) && (decide ((x : Int) ≥ 0))) && (decide ((y : Int) ≥ 0))) && (decide ((x : Int) < (2 ^ d.toNat)))) && (decide ((y : Int) < (2 ^ d.toNat))))]) (by as_aux_lemma => kernel_rfl) rfl (Ac (ad _ _) (Ac (fun hgd => rfl) (Ac (fun hgd => ad _ _) (Ac (fun hgd => rfl) (Ac (fun _ => rfl) (Ac (pick_and _ _) (Ac (fun hgd => rfl) (Ac (fun hgd => ad _ _) (Ac (fun hgd => rfl) (Ac (fun _ => rfl) (Ac (pick_and _ _) (Ac (fun hgd => rfl) (Ac (fun hgd => ad _ _) (Ac (fun hgd => rfl) (Ac (fun _ => rfl) (Ac (pick_and _ _) (Ac (fun hgd => rfl) (Ac (fun hgd => ad _ _) (Ac (fun hgd => rfl) (Ac (fun hgd => ad _ _) (Ac (fun hgd => rfl) (Ac (fun hgd => (by simp at hgd; omega)) (Ac (fun hgd => shl_one (by simp at hgd; omega)) (Ac (fun hgd => rfl) (Ac (fun hgd => rfl) (Ac (fun _ => rfl) (Ac (pick_and _ _) (Ac (fun hgd => rfl) (Ac (fun hgd => ad _ _) (Ac (fun hgd => rfl) (Ac (fun hgd => ad _ _) (Ac (fun hgd => rfl) (Ac (fun hgd => (by simp at hgd; omega)) (Ac (fun hgd => shl_one (by simp at hgd; omega)) (Ac (fun hgd => rfl) (Ac (fun hgd => rfl) (Ac (fun _ => rfl) (Ao (pick_and _ _))))))))))))))))))))))))))))))))))))))) ?_
  clear hf; intro a hf
  have hM := hMr.keep hC (by intro _ _ h; cases h)
  clear hMr hC hkd
  show K2 _ _
  refine hK2 _ _ ?_
  refine wp_ret ?_
  refine sxret (fn := Tryd.f20) hf hM [] (l := [.bool ((((((decide ((d : Int) ≥ 0)) && (decide ((d : Int) ≤ 8))) && (decide ((x : Int) ≥ 0))) && (decide ((y : Int) ≥ 0))) && (decide ((x : Int) < (2 ^ d.toNat)))) && (decide ((y : Int) < (2 ^ d.toNat))))]) (M' := [⟨B1, 47, [.int .i64 d, .int .i64 x, .int .i64 y]⟩]) (d' := false) (ob := []) (by kernel_rfl) (fun B => ⟨B, by as_aux_lemma => kernel_rfl⟩) rfl An ?_
  show (.bool ((((((decide ((d : Int) ≥ 0)) && (decide ((d : Int) ≤ 8))) && (decide ((x : Int) ≥ 0))) && (decide ((y : Int) ≥ 0))) && (decide ((x : Int) < (2 ^ d.toNat)))) && (decide ((y : Int) < (2 ^ d.toNat)))) : Value) = .bool (cellRight d x y) ∧ Keep Nn w w1.drew
  refine ⟨congrArg Value.bool ?_, hk0⟩
  rw [Bool.eq_iff_iff]
  simp only [cellRight, Bool.or_eq_true, Bool.and_eq_true, Bool.not_eq_true', Bool.not_eq_false', Bool.or_eq_false_iff, Bool.and_eq_false_iff, decide_eq_true_eq, decide_eq_false_iff_not, beq_iff_eq, Bool.false_eq_true, Bool.true_eq_false, false_iff, true_iff, iff_true, iff_false, not_true, not_false_iff, true_and, and_true, false_and, and_false, ge_iff_le, gt_iff_lt] at *
  try omega

set_option maxRecDepth 10000 in
theorem rloose_ok (d x y : Int) (w : World) (hn0 : (cellRight d x y) = true) :
    Calls Tryd.prog 21 #[.agg #[.int .i64 d, .int .i64 x, .int .i64 y]] w (Ret fun v w' => v = .agg #[.int .i64 (x * side d - 2097152 - side d / 2), .int .i64 (y * side d - 2097152 - side d / 2), .int .i64 (x * side d - 2097152 + side d + side d / 2), .int .i64 (y * side d - 2097152 + side d + side d / 2)] ∧ Keep Nn w w') := by
  refine sxenter (n := 40) (args := [.agg #[.int .i64 d, .int .i64 x, .int .i64 y]]) Tryd.func21 rfl rfl rfl fun a hf => ?_
  replace hf : Fr 40 [(0, .val (.agg #[.int .i64 d, .int .i64 x, .int .i64 y]))] a := hf
  have hM : MemOk [] w := MemOk.nil w
  have hk0 : Keep Nn w w := Keep.refl _ _
  have hc := cellRight_iff.1 hn0
  have hs := side_bd (d := d) (by omega)
  have hx := mul_side (d := d) (x := x) (by omega) (by omega)
  have hy := mul_side (d := d) (x := y) (by omega) (by omega)
  refine wp_seq_k (fun K1 hK1 => ?_)
  refine wp_region_lit ?_
  refine sr hf hM [2, 1] [{ os := [.nw] }, { os := [.nw] }] (env' := fun B1 => [(2, .val (.pointer (some ⟨B1 + 1, 0, none⟩))), (1, .val (.pointer (some ⟨B1, 0, none⟩)))]) (M' := fun B1 => [⟨B1, 47, [.int .i64 d, .int .i64 x, .int .i64 y]⟩, ⟨B1 + 1, 42, [.int .i64 0, .int .i64 0, .int .i64 0, .int .i64 0]⟩]) (ob := fun B1 => []) (fun B => by as_aux_lemma => kernel_rfl) (fun B1 => An) ?_
  clear hf hM; intro a w1 B1 hf hM hB hk
  have hbB1 : w.heap.size ≤ B1 := by have := hk0.size; omega
  have hk0 := hk0.then hk (by intro i _ h; cases h)
  clear hk hB
  refine wpList_nil ?_
  refine hK1 _ _ ?_
  refine wp_seq_k (fun K2 hK2 => ?_)
  refine wp_region_lit ?_
  refine sr0 hf hM [7, 2, 1] [{}, { os := [.ld 0 0] }] (env' := [(7, .val (.int .i64 d)), (2, .val (.pointer (some ⟨B1 + 1, 0, none⟩))), (1, .val (.pointer (some ⟨B1, 0, none⟩)))]) (ob := [Ad B1 0]) (fun B => by as_aux_lemma => kernel_rfl) rfl (Ao (ad _ _)) ?_
  clear hf; intro a hf
  refine sxcall hf rfl rfl rfl rfl (g := 40) (vs := [.int .i64 d]) (ob := []) (by as_aux_lemma => kernel_rfl) An enters40 (rside_any d w1  (by omega)) ?_
  clear hf; rintro _ w2 a ⟨rfl, hk⟩ hf
  have hM := hM.keepNn hk
  have hk0 := hk0.trans hk.nn
  clear hk
  refine sr0 hf hM [3, 2, 1] [{}] (env' := [(3, .val (.int .i64 (side d))), (2, .val (.pointer (some ⟨B1 + 1, 0, none⟩))), (1, .val (.pointer (some ⟨B1, 0, none⟩)))]) (ob := []) (fun B => by as_aux_lemma => kernel_rfl) rfl An ?_
  clear hf; intro a hf
  refine wpList_nil ?_
  refine hK2 _ _ ?_
  refine wp_seq_k (fun K3 hK3 => ?_)
  refine sxdraw [] [(0, true), (1, true), (2, true), (3, true), (4, true), (5, true), (6, true), (7, true), (8, true), (9, true), (10, true), (11, true)] (by kernel_rfl) (by kernel_rfl) (by as_aux_lemma => kernel_rfl) rfl (by as_aux_lemma => kernel_rfl) (by kernel_rfl) ?_
  replace hM := hM.drew; replace hk0 := hk0.drew
  have hkd := hk0
  have hC : Keep (Is []) w2.drew w2.drew := Keep.refl _ _
  have hM0 := hM
  have hMr := hM
  refine sc0 hf hMr (by intro k _ h; cases h) hC [5, 4, 3, 2] [{}, { os := [.ld 0 1] }, {}, { hint := some (.int .i64 (x * (side d))) }, { hint := some (.int .i64 ((x * (side d)) - 2097152)) }, {}, { os := [.ld 0 2] }, {}, { hint := some (.int .i64 (y * (side d))) }, { hint := some (.int .i64 ((y * (side d)) - 2097152)) }, {}, {}] (env' := [(5, .val (.int .i64 ((y * (side d)) - 2097152))), (4, .val (.int .i64 ((x * (side d)) - 2097152))), (3, .val (.int .i64 (side d))), (2, .val (.pointer (some ⟨B1 + 1, 0, none⟩)))]) (ob := [Ad B1 1, (.int .i64 (IntKind.i64.wrap (x * (side d))) : Value) = (.int .i64 (x * (side d)) : Value), (.int .i64 (IntKind.i64.wrap ((x * (side d)) - 2097152)) : Value) = (.int .i64 ((x * (side d)) - 2097152) : Value), Ad B1 2, (.int .i64 (IntKind.i64.wrap (y * (side d))) : Value) = (.int .i64 (y * (side d)) : Value), (.int .i64 (IntKind.i64.wrap ((y * (side d)) - 2097152)) : Value) = (.int .i64 ((y * (side d)) - 2097152) : Value)]) (by as_aux_lemma => kernel_rfl) rfl (Ac (ad _ _) (Ac (wr (by omega)) (Ac (wr (by omega)) (Ac (ad _ _) (Ac (wr (by omega)) (Ao (wr (by omega)))))))) ?_
  clear hf; intro a hf
  have hM := hMr.keep hC (by intro _ _ h; cases h)
  clear hMr hC hkd
  show K3 _ _
  refine hK3 _ _ ?_
  refine wp_seq_k (fun K4 hK4 => ?_)
  refine wp_region_lit ?_
  refine sr hf hM [2] [{}, {}, { sp := true, hint := some (.int .i64 (side d / 2)) }, { hint := some (.int .i64 (((x * (side d)) - 2097152) - (side d / 2))) }, {}, {}, { sp := true, hint := some (.int .i64 (side d / 2)) }, { hint := some (.int .i64 (((y * (side d)) - 2097152) - (side d / 2))) }, {}, {}, { hint := some (.int .i64 (((x * (side d)) - 2097152) + (side d))) }, {}, { sp := true, hint := some (.int .i64 (side d / 2)) }, { hint := some (.int .i64 ((((x * (side d)) - 2097152) + (side d)) + (side d / 2))) }, {}, {}, { hint := some (.int .i64 (((y * (side d)) - 2097152) + (side d))) }, {}, { sp := true, hint := some (.int .i64 (side d / 2)) }, { hint := some (.int .i64 ((((y * (side d)) - 2097152) + (side d)) + (side d / 2))) }, { sp := true }, { os := [.st 1 0, .st 1 1, .st 1 2, .st 1 3] }] (env' := fun B4 => [(2, .val (.pointer (some ⟨B1 + 1, 0, none⟩)))]) (M' := fun B4 => [⟨B1, 47, [.int .i64 d, .int .i64 x, .int .i64 y]⟩, ⟨B1 + 1, 42, [.int .i64 (((x * (side d)) - 2097152) - (side d / 2)), .int .i64 (((y * (side d)) - 2097152) - (side d / 2)), .int .i64 ((((x * (side d)) - 2097152) + (side d)) + (side d / 2)), .int .i64 ((((y * (side d)) - 2097152) + (side d)) + (side d / 2))]⟩]) (ob := fun B4 => [(2 : Int) ≠ 0, (.int .i64 (IntKind.i64.wrap (Int.tdiv (side d) 2)) : Value) = (.int .i64 (side d / 2) : Value), (.int .i64 (IntKind.i64.wrap (((x * (side d)) - 2097152) - (side d / 2))) : Value) = (.int .i64 (((x * (side d)) - 2097152) - (side d / 2)) : Value), (2 : Int) ≠ 0, (.int .i64 (IntKind.i64.wrap (Int.tdiv (side d) 2)) : Value) = (.int .i64 (side d / 2) : Value), (.int .i64 (IntKind.i64.wrap (((y * (side d)) - 2097152) - (side d / 2))) : Value) = (.int .i64 (((y * (side d)) - 2097152) - (side d / 2)) : Value), (.int .i64 (IntKind.i64.wrap (((x * (side d)) - 2097152) + (side d))) : Value) = (.int .i64 (((x * (side d)) - 2097152) + (side d)) : Value), (2 : Int) ≠ 0, (.int .i64 (IntKind.i64.wrap (Int.tdiv (side d) 2)) : Value) = (.int .i64 (side d / 2) : Value), (.int .i64 (IntKind.i64.wrap ((((x * (side d)) - 2097152) + (side d)) + (side d / 2))) : Value) = (.int .i64 ((((x * (side d)) - 2097152) + (side d)) + (side d / 2)) : Value), (.int .i64 (IntKind.i64.wrap (((y * (side d)) - 2097152) + (side d))) : Value) = (.int .i64 (((y * (side d)) - 2097152) + (side d)) : Value), (2 : Int) ≠ 0, (.int .i64 (IntKind.i64.wrap (Int.tdiv (side d) 2)) : Value) = (.int .i64 (side d / 2) : Value), (.int .i64 (IntKind.i64.wrap ((((y * (side d)) - 2097152) + (side d)) + (side d / 2))) : Value) = (.int .i64 ((((y * (side d)) - 2097152) + (side d)) + (side d / 2)) : Value), Ad (B1 + 1) 0, Ad (B1 + 1) 1, Ad (B1 + 1) 2, Ad (B1 + 1) 3]) (fun B => by as_aux_lemma => kernel_rfl) (fun B4 => (Ac (by omega) (Ac (quo2 (by omega)) (Ac (wr (by omega)) (Ac (by omega) (Ac (quo2 (by omega)) (Ac (wr (by omega)) (Ac (wr (by omega)) (Ac (by omega) (Ac (quo2 (by omega)) (Ac (wr (by omega)) (Ac (wr (by omega)) (Ac (by omega) (Ac (quo2 (by omega)) (Ac (wr (by omega)) (Ac (ad _ _) (Ac (ad _ _) (Ac (ad _ _) (Ao (ad _ _)))))))))))))))))))) ?_
  clear hf hM; intro a w3 B4 hf hM hB hk
  have hbB4 : w.heap.size ≤ B4 := by have := hk0.size; omega
  have hk0 := hk0.then hk (by intro i hi h; simp only [Is, Mem.names, List.map_cons, List.map_nil, List.mem_cons, List.not_mem_nil, or_false] at h; omega)
  clear hk hB
  refine wpList_nil ?_
  refine hK4 _ _ ?_
  refine wp_ret ?_
  refine sxret (fn := Tryd.f21) hf hM [.ld 1 0, .ld 1 1, .ld 1 2, .ld 1 3] (l := [.agg #[.int .i64 (((x * (side d)) - 2097152) - (side d / 2)), .int .i64 (((y * (side d)) - 2097152) - (side d / 2)), .int .i64 ((((x * (side d)) - 2097152) + (side d)) + (side d / 2)), .int .i64 ((((y * (side d)) - 2097152) + (side d)) + (side d / 2))]]) (M' := [⟨B1, 47, [.int .i64 d, .int .i64 x, .int .i64 y]⟩, ⟨B1 + 1, 42, [.int .i64 (((x * (side d)) - 2097152) - (side d / 2)), .int .i64 (((y * (side d)) - 2097152) - (side d / 2)), .int .i64 ((((x * (side d)) - 2097152) + (side d)) + (side d / 2)), .int .i64 ((((y * (side d)) - 2097152) + (side d)) + (side d / 2))]⟩]) (d' := false) (ob := [Ad (B1 + 1) 0, Ad (B1 + 1) 1, Ad (B1 + 1) 2, Ad (B1 + 1) 3]) (by kernel_rfl) (fun B => ⟨B, by as_aux_lemma => kernel_rfl⟩) rfl (Ac (ad _ _) (Ac (ad _ _) (Ac (ad _ _) (Ao (ad _ _))))) ?_
  show (.agg #[.int .i64 (((x * (side d)) - 2097152) - (side d / 2)), .int .i64 (((y * (side d)) - 2097152) - (side d / 2)), .int .i64 ((((x * (side d)) - 2097152) + (side d)) + (side d / 2)), .int .i64 ((((y * (side d)) - 2097152) + (side d)) + (side d / 2))] : Value) = .agg #[.int .i64 (x * side d - 2097152 - side d / 2), .int .i64 (y * side d - 2097152 - side d / 2), .int .i64 (x * side d - 2097152 + side d + side d / 2), .int .i64 (y * side d - 2097152 + side d + side d / 2)] ∧ Keep Nn w w3
  exact ⟨rfl, hk0⟩

set_option maxRecDepth 10000 in
theorem rof_form (x0 y0 x1 y1 : Int) (w : World) (hn0 : (boxRight x0 y0 x1 y1) = false) :
    Calls Tryd.prog 17 #[.agg #[.int .i64 x0, .int .i64 y0, .int .i64 x1, .int .i64 y1]] w (Ret fun v w' => v = .tuple #[.agg #[.int .i64 0, .int .i64 0, .int .i64 0], .int .i64 7] ∧ Keep Nn w w') := by
  refine sxenter (n := 74) (args := [.agg #[.int .i64 x0, .int .i64 y0, .int .i64 x1, .int .i64 y1]]) Tryd.func17 rfl rfl rfl fun a hf => ?_
  replace hf : Fr 74 [(0, .val (.agg #[.int .i64 x0, .int .i64 y0, .int .i64 x1, .int .i64 y1]))] a := hf
  have hM : MemOk [] w := MemOk.nil w
  have hk0 : Keep Nn w w := Keep.refl _ _
  refine wp_seq_k (fun K1 hK1 => ?_)
  refine wp_region_lit ?_
  refine sr hf hM [3, 2, 1] [{ os := [.nw] }, { os := [.nw] }, {}] (env' := fun B1 => [(3, .val (.int .i64 0)), (2, .val (.pointer (some ⟨B1 + 1, 0, none⟩))), (1, .val (.pointer (some ⟨B1, 0, none⟩)))]) (M' := fun B1 => [⟨B1, 42, [.int .i64 x0, .int .i64 y0, .int .i64 x1, .int .i64 y1]⟩, ⟨B1 + 1, 47, [.int .i64 0, .int .i64 0, .int .i64 0]⟩]) (ob := fun B1 => []) (fun B => by as_aux_lemma => kernel_rfl) (fun B1 => An) ?_
  clear hf hM; intro a w1 B1 hf hM hB hk
  have hbB1 : w.heap.size ≤ B1 := by have := hk0.size; omega
  have hk0 := hk0.then hk (by intro i _ h; cases h)
  clear hk hB
  refine wpList_nil ?_
  refine hK1 _ _ ?_
  refine wp_seq_k (fun K2 hK2 => ?_)
  refine wp_seq_k (fun K3 hK3 => ?_)
  refine wp_region_lit ?_
  refine sr0 hf hM [6, 3, 2, 1] [{ os := [.ld 0 0, .ld 0 1, .ld 0 2, .ld 0 3] }] (env' := [(6, .val (.agg #[.int .i64 x0, .int .i64 y0, .int .i64 x1, .int .i64 y1])), (3, .val (.int .i64 0)), (2, .val (.pointer (some ⟨B1 + 1, 0, none⟩))), (1, .val (.pointer (some ⟨B1, 0, none⟩)))]) (ob := [Ad B1 0, Ad B1 1, Ad B1 2, Ad B1 3]) (fun B => by as_aux_lemma => kernel_rfl) rfl (Ac (ad _ _) (Ac (ad _ _) (Ac (ad _ _) (Ao (ad _ _))))) ?_
  clear hf; intro a hf
  refine sxcall hf rfl rfl rfl rfl (g := 38) (vs := [.agg #[.int .i64 x0, .int .i64 y0, .int .i64 x1, .int .i64 y1]]) (ob := []) (by as_aux_lemma => kernel_rfl) An enters38 (rright_box x0 y0 x1 y1 w1  ) ?_
  clear hf; rintro _ w2 a ⟨rfl, hk⟩ hf
  have hM := hM.keepNn hk
  have hk0 := hk0.trans hk.nn
  clear hk
  refine sr0 hf hM [8, 3, 2, 1] [{}] (env' := [(8, .val (.bool (!(boxRight x0 y0 x1 y1)))), (3, .val (.int .i64 0)), (2, .val (.pointer (some ⟨B1 + 1, 0, none⟩))), (1, .val (.pointer (some ⟨B1, 0, none⟩)))]) (ob := []) (fun B => by as_aux_lemma => kernel_rfl) rfl An ?_
  clear hf; intro a hf
  refine wpList_nil ?_
  refine hK3 _ _ ?_
  refine sxcond hf (b := !(boxRight x0 y0 x1 y1)) (by kernel_rfl) (fun _ => ?_) (fun h => absurd (h.symm.trans (by simp [hn0] : (!(boxRight x0 y0 x1 y1) : Bool) = true)) (by simp))
  refine wp_seq_k (fun K4 hK4 => ?_)
  refine wp_region_lit ?_
  refine sr hf hM [3, 2] [{ sp := true }, { os := [.st 1 0, .st 1 1, .st 1 2] }, {}] (env' := fun B4 => [(3, .val (.int .i64 7)), (2, .val (.pointer (some ⟨B1 + 1, 0, none⟩)))]) (M' := fun B4 => [⟨B1, 42, [.int .i64 x0, .int .i64 y0, .int .i64 x1, .int .i64 y1]⟩, ⟨B1 + 1, 47, [.int .i64 0, .int .i64 0, .int .i64 0]⟩]) (ob := fun B4 => [Ad (B1 + 1) 0, Ad (B1 + 1) 1, Ad (B1 + 1) 2]) (fun B => by as_aux_lemma => kernel_rfl) (fun B4 => (Ac (ad _ _) (Ac (ad _ _) (Ao (ad _ _))))) ?_
  clear hf hM; intro a w3 B4 hf hM hB hk
  have hbB4 : w.heap.size ≤ B4 := by have := hk0.size; omega
  have hk0 := hk0.then hk (by intro i hi h; simp only [Is, Mem.names, List.map_cons, List.map_nil, List.mem_cons, List.not_mem_nil, or_false] at h; omega)
  clear hk hB
  refine wpList_nil ?_
  refine hK4 _ _ ?_
  refine wp_ret ?_
  refine sxret (fn := Tryd.f17) hf hM [.ld 1 0, .ld 1 1, .ld 1 2] (l := [.agg #[.int .i64 0, .int .i64 0, .int .i64 0], .int .i64 7]) (M' := [⟨B1, 42, [.int .i64 x0, .int .i64 y0, .int .i64 x1, .int .i64 y1]⟩, ⟨B1 + 1, 47, [.int .i64 0, .int .i64 0, .int .i64 0]⟩]) (d' := false) (ob := [Ad (B1 + 1) 0, Ad (B1 + 1) 1, Ad (B1 + 1) 2]) (by kernel_rfl) (fun B => ⟨B, by as_aux_lemma => kernel_rfl⟩) rfl (Ac (ad _ _) (Ac (ad _ _) (Ao (ad _ _)))) ?_
  show (.tuple #[.agg #[.int .i64 0, .int .i64 0, .int .i64 0], .int .i64 7] : Value) = .tuple #[.agg #[.int .i64 0, .int .i64 0, .int .i64 0], .int .i64 7] ∧ Keep Nn w w3
  exact ⟨rfl, hk0⟩

set_option maxRecDepth 10000 in
theorem rof_range (x0 y0 x1 y1 : Int) (w : World) (hn0 : (boxRight x0 y0 x1 y1) = true) (hn1 : (inWorld x0 y0 x1 y1) = false) :
    Calls Tryd.prog 17 #[.agg #[.int .i64 x0, .int .i64 y0, .int .i64 x1, .int .i64 y1]] w (Ret fun v w' => v = .tuple #[.agg #[.int .i64 0, .int .i64 0, .int .i64 0], .int .i64 1] ∧ Keep Nn w w') := by
  refine sxenter (n := 74) (args := [.agg #[.int .i64 x0, .int .i64 y0, .int .i64 x1, .int .i64 y1]]) Tryd.func17 rfl rfl rfl fun a hf => ?_
  replace hf : Fr 74 [(0, .val (.agg #[.int .i64 x0, .int .i64 y0, .int .i64 x1, .int .i64 y1]))] a := hf
  have hM : MemOk [] w := MemOk.nil w
  have hk0 : Keep Nn w w := Keep.refl _ _
  refine wp_seq_k (fun K1 hK1 => ?_)
  refine wp_region_lit ?_
  refine sr hf hM [3, 2, 1] [{ os := [.nw] }, { os := [.nw] }, {}] (env' := fun B1 => [(3, .val (.int .i64 0)), (2, .val (.pointer (some ⟨B1 + 1, 0, none⟩))), (1, .val (.pointer (some ⟨B1, 0, none⟩)))]) (M' := fun B1 => [⟨B1, 42, [.int .i64 x0, .int .i64 y0, .int .i64 x1, .int .i64 y1]⟩, ⟨B1 + 1, 47, [.int .i64 0, .int .i64 0, .int .i64 0]⟩]) (ob := fun B1 => []) (fun B => by as_aux_lemma => kernel_rfl) (fun B1 => An) ?_
  clear hf hM; intro a w1 B1 hf hM hB hk
  have hbB1 : w.heap.size ≤ B1 := by have := hk0.size; omega
  have hk0 := hk0.then hk (by intro i _ h; cases h)
  clear hk hB
  refine wpList_nil ?_
  refine hK1 _ _ ?_
  refine wp_seq_k (fun K2 hK2 => ?_)
  refine wp_seq_k (fun K3 hK3 => ?_)
  refine wp_region_lit ?_
  refine sr0 hf hM [6, 3, 2, 1] [{ os := [.ld 0 0, .ld 0 1, .ld 0 2, .ld 0 3] }] (env' := [(6, .val (.agg #[.int .i64 x0, .int .i64 y0, .int .i64 x1, .int .i64 y1])), (3, .val (.int .i64 0)), (2, .val (.pointer (some ⟨B1 + 1, 0, none⟩))), (1, .val (.pointer (some ⟨B1, 0, none⟩)))]) (ob := [Ad B1 0, Ad B1 1, Ad B1 2, Ad B1 3]) (fun B => by as_aux_lemma => kernel_rfl) rfl (Ac (ad _ _) (Ac (ad _ _) (Ac (ad _ _) (Ao (ad _ _))))) ?_
  clear hf; intro a hf
  refine sxcall hf rfl rfl rfl rfl (g := 38) (vs := [.agg #[.int .i64 x0, .int .i64 y0, .int .i64 x1, .int .i64 y1]]) (ob := []) (by as_aux_lemma => kernel_rfl) An enters38 (rright_box x0 y0 x1 y1 w1  ) ?_
  clear hf; rintro _ w2 a ⟨rfl, hk⟩ hf
  have hM := hM.keepNn hk
  have hk0 := hk0.trans hk.nn
  clear hk
  refine sr0 hf hM [8, 3, 2, 1] [{}] (env' := [(8, .val (.bool (!(boxRight x0 y0 x1 y1)))), (3, .val (.int .i64 0)), (2, .val (.pointer (some ⟨B1 + 1, 0, none⟩))), (1, .val (.pointer (some ⟨B1, 0, none⟩)))]) (ob := []) (fun B => by as_aux_lemma => kernel_rfl) rfl An ?_
  clear hf; intro a hf
  refine wpList_nil ?_
  refine hK3 _ _ ?_
  refine sxcond hf (b := !(boxRight x0 y0 x1 y1)) (by kernel_rfl) (fun h => absurd (h.symm.trans (by simp [hn0] : (!(boxRight x0 y0 x1 y1) : Bool) = false)) (by simp)) (fun _ => ?_)
  refine wp_skip ?_
  refine hK2 _ _ ?_
  refine wp_seq_k (fun K4 hK4 => ?_)
  refine wp_seq_k (fun K5 hK5 => ?_)
  refine wp_region_lit ?_
  refine sr0 hf hM [11, 3, 2, 1] [{}, { os := [.ld 0 0] }] (env' := [(11, .val (.int .i64 x0)), (3, .val (.int .i64 0)), (2, .val (.pointer (some ⟨B1 + 1, 0, none⟩))), (1, .val (.pointer (some ⟨B1, 0, none⟩)))]) (ob := [Ad B1 0]) (fun B => by as_aux_lemma => kernel_rfl) rfl (Ao (ad _ _)) ?_
  clear hf; intro a hf
  refine sxcall hf rfl rfl rfl rfl (g := 39) (vs := [.int .i64 x0, .int .i64 2097152]) (ob := []) (by as_aux_lemma => kernel_rfl) An enters39 (rin_any x0 2097152 w2  (by omega)) ?_
  clear hf; rintro _ w3 a ⟨rfl, hk⟩ hf
  have hM := hM.keepNn hk
  have hk0 := hk0.trans hk.nn
  clear hk
  refine sr0 hf hM [14, 3, 2, 1] [{}, {}] (env' := [(14, .val (.bool (!(within x0 2097152)))), (3, .val (.int .i64 0)), (2, .val (.pointer (some ⟨B1 + 1, 0, none⟩))), (1, .val (.pointer (some ⟨B1, 0, none⟩)))]) (ob := []) (fun B => by as_aux_lemma => kernel_rfl) rfl An ?_
  clear hf; intro a hf
  rcases Bool.eq_false_or_eq_true (!(within x0 2097152)) with hg1 | hg1
  · have hg1r := hg1
    have hf := hf.prune [14, 3, 2, 1]
    replace hf : Fr 74 [(14, .val (.bool (!(within x0 2097152)))), (3, .val (.int .i64 0)), (2, .val (.pointer (some ⟨B1 + 1, 0, none⟩))), (1, .val (.pointer (some ⟨B1, 0, none⟩)))] a := hf
    replace hf := hf.conv (env' := [(14, .val (.bool true)), (3, .val (.int .i64 0)), (2, .val (.pointer (some ⟨B1 + 1, 0, none⟩))), (1, .val (.pointer (some ⟨B1, 0, none⟩)))]) (Ac (congrArg Value.bool hg1r) (Ac rfl (Ac rfl (Ao rfl))))
    try simp only [Bool.or_eq_true, Bool.and_eq_true, Bool.not_eq_true', Bool.not_eq_false', Bool.or_eq_false_iff, Bool.and_eq_false_iff, decide_eq_true_eq, decide_eq_false_iff_not, beq_iff_eq, bne_iff_ne, beq_eq_false_iff_ne, bne_eq_false_iff_eq, Bool.and_true, Bool.true_and, ne_eq] at hg1
    refine sr0 hf hM [16, 14, 3, 2, 1] [{ g := .off }, { g := .off }] (env' := [(16, .val (undef)), (14, .val (.bool true)), (3, .val (.int .i64 0)), (2, .val (.pointer (some ⟨B1 + 1, 0, none⟩))), (1, .val (.pointer (some ⟨B1, 0, none⟩)))]) (ob := [true = !false, true = !false]) (fun B => by as_aux_lemma => kernel_rfl) rfl (Ac rfl (Ao rfl)) ?_
    clear hf; intro a hf
    refine sr0 hf hM [22, 20, 3, 2, 1] [{ g := .off }, { g := .off }, {}, {}, { g := .off }, { g := .off }] (env' := [(22, .val (undef)), (20, .val (.bool true)), (3, .val (.int .i64 0)), (2, .val (.pointer (some ⟨B1 + 1, 0, none⟩))), (1, .val (.pointer (some ⟨B1, 0, none⟩)))]) (ob := [true = !false, true = !false, true = !false, true = !false]) (fun B => by as_aux_lemma => kernel_rfl) rfl (Ac rfl (Ac rfl (Ac rfl (Ao rfl)))) ?_
    clear hf; intro a hf
    refine sr0 hf hM [28, 26, 3, 2, 1] [{ g := .off }, { g := .off }, {}, {}, { g := .off }, { g := .off }] (env' := [(28, .val (undef)), (26, .val (.bool true)), (3, .val (.int .i64 0)), (2, .val (.pointer (some ⟨B1 + 1, 0, none⟩))), (1, .val (.pointer (some ⟨B1, 0, none⟩)))]) (ob := [true = !false, true = !false, true = !false, true = !false]) (fun B => by as_aux_lemma => kernel_rfl) rfl (Ac rfl (Ac rfl (Ac rfl (Ao rfl)))) ?_
    clear hf; intro a hf
    refine sr0 hf hM [31, 3, 2, 1] [{ g := .off }, { g := .off }, {}] (env' := [(31, .val (.bool true)), (3, .val (.int .i64 0)), (2, .val (.pointer (some ⟨B1 + 1, 0, none⟩))), (1, .val (.pointer (some ⟨B1, 0, none⟩)))]) (ob := [true = !false, true = !false]) (fun B => by as_aux_lemma => kernel_rfl) rfl (Ac rfl (Ao rfl)) ?_
    clear hf; intro a hf
    refine wpList_nil ?_
    refine hK5 _ _ ?_
    refine sxcond hf (b := true) (by kernel_rfl) (fun _ => ?_) (fun h => by cases h)
    refine wp_seq_k (fun K6 hK6 => ?_)
    refine wp_region_lit ?_
    refine sr hf hM [3, 2] [{ sp := true }, { os := [.st 1 0, .st 1 1, .st 1 2] }, {}] (env' := fun B10 => [(3, .val (.int .i64 1)), (2, .val (.pointer (some ⟨B1 + 1, 0, none⟩)))]) (M' := fun B10 => [⟨B1, 42, [.int .i64 x0, .int .i64 y0, .int .i64 x1, .int .i64 y1]⟩, ⟨B1 + 1, 47, [.int .i64 0, .int .i64 0, .int .i64 0]⟩]) (ob := fun B10 => [Ad (B1 + 1) 0, Ad (B1 + 1) 1, Ad (B1 + 1) 2]) (fun B => by as_aux_lemma => kernel_rfl) (fun B10 => (Ac (ad _ _) (Ac (ad _ _) (Ao (ad _ _))))) ?_
    clear hf hM; intro a w4 B10 hf hM hB hk
    have hbB10 : w.heap.size ≤ B10 := by have := hk0.size; omega
    have hk0 := hk0.then hk (by intro i hi h; simp only [Is, Mem.names, List.map_cons, List.map_nil, List.mem_cons, List.not_mem_nil, or_false] at h; omega)
    clear hk hB
    refine wpList_nil ?_
    refine hK6 _ _ ?_
    refine wp_ret ?_
    refine sxret (fn := Tryd.f17) hf hM [.ld 1 0, .ld 1 1, .ld 1 2] (l := [.agg #[.int .i64 0, .int .i64 0, .int .i64 0], .int .i64 1]) (M' := [⟨B1, 42, [.int .i64 x0, .int .i64 y0, .int .i64 x1, .int .i64 y1]⟩, ⟨B1 + 1, 47, [.int .i64 0, .int .i64 0, .int .i64 0]⟩]) (d' := false) (ob := [Ad (B1 + 1) 0, Ad (B1 + 1) 1, Ad (B1 + 1) 2]) (by kernel_rfl) (fun B => ⟨B, by as_aux_lemma => kernel_rfl⟩) rfl (Ac (ad _ _) (Ac (ad _ _) (Ao (ad _ _)))) ?_
    show (.tuple #[.agg #[.int .i64 0, .int .i64 0, .int .i64 0], .int .i64 1] : Value) = .tuple #[.agg #[.int .i64 0, .int .i64 0, .int .i64 0], .int .i64 1] ∧ Keep Nn w w4
    exact ⟨rfl, hk0⟩
  · have hg1r := hg1
    have hf := hf.prune [14, 3, 2, 1]
    replace hf : Fr 74 [(14, .val (.bool (!(within x0 2097152)))), (3, .val (.int .i64 0)), (2, .val (.pointer (some ⟨B1 + 1, 0, none⟩))), (1, .val (.pointer (some ⟨B1, 0, none⟩)))] a := hf
    replace hf := hf.conv (env' := [(14, .val (.bool false)), (3, .val (.int .i64 0)), (2, .val (.pointer (some ⟨B1 + 1, 0, none⟩))), (1, .val (.pointer (some ⟨B1, 0, none⟩)))]) (Ac (congrArg Value.bool hg1r) (Ac rfl (Ac rfl (Ao rfl))))
    try simp only [Bool.or_eq_true, Bool.and_eq_true, Bool.not_eq_true', Bool.not_eq_false', Bool.or_eq_false_iff, Bool.and_eq_false_iff, decide_eq_true_eq, decide_eq_false_iff_not, beq_iff_eq, bne_iff_ne, beq_eq_false_iff_ne, bne_eq_false_iff_eq, Bool.and_true, Bool.true_and, ne_eq] at hg1
    refine sr0 hf hM [16, 14, 3, 2, 1] [{}, { os := [.ld 0 1] }] (env' := [(16, .val (.int .i64 y0)), (14, .val (.bool false)), (3, .val (.int .i64 0)), (2, .val (.pointer (some ⟨B1 + 1, 0, none⟩))), (1, .val (.pointer (some ⟨B1, 0, none⟩)))]) (ob := [false = false, false = false, Ad B1 1]) (fun B => by as_aux_lemma => kernel_rfl) rfl (Ac rfl (Ac rfl (Ao (ad _ _)))) ?_
    clear hf; intro a hf
    refine sxcallg hf rfl rfl rfl rfl rfl (g := 39) (vs := [.int .i64 y0, .int .i64 2097152]) (ob := []) (by as_aux_lemma => kernel_rfl) An enters39 (rin_any y0 2097152 w3  (by omega)) ?_
    clear hf; rintro _ w5 a ⟨rfl, hk⟩ hf
    have hM := hM.keepNn hk
    have hk0 := hk0.trans hk.nn
    clear hk
    refine sr0 hf hM [20, 3, 2, 1] [{}, {}, {}] (env' := [(20, .val (.bool (!(within y0 2097152)))), (3, .val (.int .i64 0)), (2, .val (.pointer (some ⟨B1 + 1, 0, none⟩))), (1, .val (.pointer (some ⟨B1, 0, none⟩)))]) (ob := [false = false]) (fun B => by as_aux_lemma => kernel_rfl) rfl (Ao rfl) ?_
    clear hf; intro a hf
    rcases Bool.eq_false_or_eq_true (!(within y0 2097152)) with hg2 | hg2
    · have hg2r := hg2
      have hf := hf.prune [20, 3, 2, 1]
      replace hf : Fr 74 [(20, .val (.bool (!(within y0 2097152)))), (3, .val (.int .i64 0)), (2, .val (.pointer (some ⟨B1 + 1, 0, none⟩))), (1, .val (.pointer (some ⟨B1, 0, none⟩)))] a := hf
      replace hf := hf.conv (env' := [(20, .val (.bool true)), (3, .val (.int .i64 0)), (2, .val (.pointer (some ⟨B1 + 1, 0, none⟩))), (1, .val (.pointer (some ⟨B1, 0, none⟩)))]) (Ac (congrArg Value.bool hg2r) (Ac rfl (Ac rfl (Ao rfl))))
      try simp only [Bool.or_eq_true, Bool.and_eq_true, Bool.not_eq_true', Bool.not_eq_false', Bool.or_eq_false_iff, Bool.and_eq_false_iff, decide_eq_true_eq, decide_eq_false_iff_not, beq_iff_eq, bne_iff_ne, beq_eq_false_iff_ne, bne_eq_false_iff_eq, Bool.and_true, Bool.true_and, ne_eq] at hg2
      refine sr0 hf hM [22, 20, 3, 2, 1] [{ g := .off }, { g := .off }] (env' := [(22, .val (undef)), (20, .val (.bool true)), (3, .val (.int .i64 0)), (2, .val (.pointer (some ⟨B1 + 1, 0, none⟩))), (1, .val (.pointer (some ⟨B1, 0, none⟩)))]) (ob := [true = !false, true = !false]) (fun B => by as_aux_lemma => kernel_rfl) rfl (Ac rfl (Ao rfl)) ?_
      clear hf; intro a hf
      refine sr0 hf hM [28, 26, 3, 2, 1] [{ g := .off }, { g := .off }, {}, {}, { g := .off }, { g := .off }] (env' := [(28, .val (undef)), (26, .val (.bool true)), (3, .val (.int .i64 0)), (2, .val (.pointer (some ⟨B1 + 1, 0, none⟩))), (1, .val (.pointer (some ⟨B1, 0, none⟩)))]) (ob := [true = !false, true = !false, true = !false, true = !false]) (fun B => by as_aux_lemma => kernel_rfl) rfl (Ac rfl (Ac rfl (Ac rfl (Ao rfl)))) ?_
      clear hf; intro a hf
      refine sr0 hf hM [31, 3, 2, 1] [{ g := .off }, { g := .off }, {}] (env' := [(31, .val (.bool true)), (3, .val (.int .i64 0)), (2, .val (.pointer (some ⟨B1 + 1, 0, none⟩))), (1, .val (.pointer (some ⟨B1, 0, none⟩)))]) (ob := [true = !false, true = !false]) (fun B => by as_aux_lemma => kernel_rfl) rfl (Ac rfl (Ao rfl)) ?_
      clear hf; intro a hf
      refine wpList_nil ?_
      refine hK5 _ _ ?_
      refine sxcond hf (b := true) (by kernel_rfl) (fun _ => ?_) (fun h => by cases h)
      refine wp_seq_k (fun K7 hK7 => ?_)
      refine wp_region_lit ?_
      refine sr hf hM [3, 2] [{ sp := true }, { os := [.st 1 0, .st 1 1, .st 1 2] }, {}] (env' := fun B16 => [(3, .val (.int .i64 1)), (2, .val (.pointer (some ⟨B1 + 1, 0, none⟩)))]) (M' := fun B16 => [⟨B1, 42, [.int .i64 x0, .int .i64 y0, .int .i64 x1, .int .i64 y1]⟩, ⟨B1 + 1, 47, [.int .i64 0, .int .i64 0, .int .i64 0]⟩]) (ob := fun B16 => [Ad (B1 + 1) 0, Ad (B1 + 1) 1, Ad (B1 + 1) 2]) (fun B => by as_aux_lemma => kernel_rfl) (fun B16 => (Ac (ad _ _) (Ac (ad _ _) (Ao (ad _ _))))) ?_
      clear hf hM; intro a w6 B16 hf hM hB hk
      have hbB16 : w.heap.size ≤ B16 := by have := hk0.size; omega
      have hk0 := hk0.then hk (by intro i hi h; simp only [Is, Mem.names, List.map_cons, List.map_nil, List.mem_cons, List.not_mem_nil, or_false] at h; omega)
      clear hk hB
      refine wpList_nil ?_
      refine hK7 _ _ ?_
      refine wp_ret ?_
      refine sxret (fn := Tryd.f17) hf hM [.ld 1 0, .ld 1 1, .ld 1 2] (l := [.agg #[.int .i64 0, .int .i64 0, .int .i64 0], .int .i64 1]) (M' := [⟨B1, 42, [.int .i64 x0, .int .i64 y0, .int .i64 x1, .int .i64 y1]⟩, ⟨B1 + 1, 47, [.int .i64 0, .int .i64 0, .int .i64 0]⟩]) (d' := false) (ob := [Ad (B1 + 1) 0, Ad (B1 + 1) 1, Ad (B1 + 1) 2]) (by kernel_rfl) (fun B => ⟨B, by as_aux_lemma => kernel_rfl⟩) rfl (Ac (ad _ _) (Ac (ad _ _) (Ao (ad _ _)))) ?_
      show (.tuple #[.agg #[.int .i64 0, .int .i64 0, .int .i64 0], .int .i64 1] : Value) = .tuple #[.agg #[.int .i64 0, .int .i64 0, .int .i64 0], .int .i64 1] ∧ Keep Nn w w6
      exact ⟨rfl, hk0⟩
    · have hg2r := hg2
      have hf := hf.prune [20, 3, 2, 1]
      replace hf : Fr 74 [(20, .val (.bool (!(within y0 2097152)))), (3, .val (.int .i64 0)), (2, .val (.pointer (some ⟨B1 + 1, 0, none⟩))), (1, .val (.pointer (some ⟨B1, 0, none⟩)))] a := hf
      replace hf := hf.conv (env' := [(20, .val (.bool false)), (3, .val (.int .i64 0)), (2, .val (.pointer (some ⟨B1 + 1, 0, none⟩))), (1, .val (.pointer (some ⟨B1, 0, none⟩)))]) (Ac (congrArg Value.bool hg2r) (Ac rfl (Ac rfl (Ao rfl))))
      try simp only [Bool.or_eq_true, Bool.and_eq_true, Bool.not_eq_true', Bool.not_eq_false', Bool.or_eq_false_iff, Bool.and_eq_false_iff, decide_eq_true_eq, decide_eq_false_iff_not, beq_iff_eq, bne_iff_ne, beq_eq_false_iff_ne, bne_eq_false_iff_eq, Bool.and_true, Bool.true_and, ne_eq] at hg2
      refine sr0 hf hM [22, 20, 3, 2, 1] [{}, { os := [.ld 0 2] }] (env' := [(22, .val (.int .i64 x1)), (20, .val (.bool false)), (3, .val (.int .i64 0)), (2, .val (.pointer (some ⟨B1 + 1, 0, none⟩))), (1, .val (.pointer (some ⟨B1, 0, none⟩)))]) (ob := [false = false, false = false, Ad B1 2]) (fun B => by as_aux_lemma => kernel_rfl) rfl (Ac rfl (Ac rfl (Ao (ad _ _)))) ?_
      clear hf; intro a hf
      refine sxcallg hf rfl rfl rfl rfl rfl (g := 39) (vs := [.int .i64 x1, .int .i64 2097152]) (ob := []) (by as_aux_lemma => kernel_rfl) An enters39 (rin_any x1 2097152 w5  (by omega)) ?_
      clear hf; rintro _ w7 a ⟨rfl, hk⟩ hf
      have hM := hM.keepNn hk
      have hk0 := hk0.trans hk.nn
      clear hk
      refine sr0 hf hM [26, 3, 2, 1] [{}, {}, {}] (env' := [(26, .val (.bool (!(within x1 2097152)))), (3, .val (.int .i64 0)), (2, .val (.pointer (some ⟨B1 + 1, 0, none⟩))), (1, .val (.pointer (some ⟨B1, 0, none⟩)))]) (ob := [false = false]) (fun B => by as_aux_lemma => kernel_rfl) rfl (Ao rfl) ?_
      clear hf; intro a hf
      rcases Bool.eq_false_or_eq_true (!(within x1 2097152)) with hg3 | hg3
      · have hg3r := hg3
        have hf := hf.prune [26, 3, 2, 1]
        replace hf : Fr 74 [(26, .val (.bool (!(within x1 2097152)))), (3, .val (.int .i64 0)), (2, .val (.pointer (some ⟨B1 + 1, 0, none⟩))), (1, .val (.pointer (some ⟨B1, 0, none⟩)))] a := hf
        replace hf := hf.conv (env' := [(26, .val (.bool true)), (3, .val (.int .i64 0)), (2, .val (.pointer (some ⟨B1 + 1, 0, none⟩))), (1, .val (.pointer (some ⟨B1, 0, none⟩)))]) (Ac (congrArg Value.bool hg3r) (Ac rfl (Ac rfl (Ao rfl))))
        try simp only [Bool.or_eq_true, Bool.and_eq_true, Bool.not_eq_true', Bool.not_eq_false', Bool.or_eq_false_iff, Bool.and_eq_false_iff, decide_eq_true_eq, decide_eq_false_iff_not, beq_iff_eq, bne_iff_ne, beq_eq_false_iff_ne, bne_eq_false_iff_eq, Bool.and_true, Bool.true_and, ne_eq] at hg3
        refine sr0 hf hM [28, 26, 3, 2, 1] [{ g := .off }, { g := .off }] (env' := [(28, .val (undef)), (26, .val (.bool true)), (3, .val (.int .i64 0)), (2, .val (.pointer (some ⟨B1 + 1, 0, none⟩))), (1, .val (.pointer (some ⟨B1, 0, none⟩)))]) (ob := [true = !false, true = !false]) (fun B => by as_aux_lemma => kernel_rfl) rfl (Ac rfl (Ao rfl)) ?_
        clear hf; intro a hf
        refine sr0 hf hM [31, 3, 2, 1] [{ g := .off }, { g := .off }, {}] (env' := [(31, .val (.bool true)), (3, .val (.int .i64 0)), (2, .val (.pointer (some ⟨B1 + 1, 0, none⟩))), (1, .val (.pointer (some ⟨B1, 0, none⟩)))]) (ob := [true = !false, true = !false]) (fun B => by as_aux_lemma => kernel_rfl) rfl (Ac rfl (Ao rfl)) ?_
        clear hf; intro a hf
        refine wpList_nil ?_
        refine hK5 _ _ ?_
        refine sxcond hf (b := true) (by kernel_rfl) (fun _ => ?_) (fun h => by cases h)
        refine wp_seq_k (fun K8 hK8 => ?_)
        refine wp_region_lit ?_
        refine sr hf hM [3, 2] [{ sp := true }, { os := [.st 1 0, .st 1 1, .st 1 2] }, {}] (env' := fun B21 => [(3, .val (.int .i64 1)), (2, .val (.pointer (some ⟨B1 + 1, 0, none⟩)))]) (M' := fun B21 => [⟨B1, 42, [.int .i64 x0, .int .i64 y0, .int .i64 x1, .int .i64 y1]⟩, ⟨B1 + 1, 47, [.int .i64 0, .int .i64 0, .int .i64 0]⟩]) (ob := fun B21 => [Ad (B1 + 1) 0, Ad (B1 + 1) 1, Ad (B1 + 1) 2]) (fun B => by as_aux_lemma => kernel_rfl) (fun B21 => (Ac (ad _ _) (Ac (ad _ _) (Ao (ad _ _))))) ?_
        clear hf hM; intro a w8 B21 hf hM hB hk
        have hbB21 : w.heap.size ≤ B21 := by have := hk0.size; omega
        have hk0 := hk0.then hk (by intro i hi h; simp only [Is, Mem.names, List.map_cons, List.map_nil, List.mem_cons, List.not_mem_nil, or_false] at h; omega)
        clear hk hB
        refine wpList_nil ?_
        refine hK8 _ _ ?_
        refine wp_ret ?_
        refine sxret (fn := Tryd.f17) hf hM [.ld 1 0, .ld 1 1, .ld 1 2] (l := [.agg #[.int .i64 0, .int .i64 0, .int .i64 0], .int .i64 1]) (M' := [⟨B1, 42, [.int .i64 x0, .int .i64 y0, .int .i64 x1, .int .i64 y1]⟩, ⟨B1 + 1, 47, [.int .i64 0, .int .i64 0, .int .i64 0]⟩]) (d' := false) (ob := [Ad (B1 + 1) 0, Ad (B1 + 1) 1, Ad (B1 + 1) 2]) (by kernel_rfl) (fun B => ⟨B, by as_aux_lemma => kernel_rfl⟩) rfl (Ac (ad _ _) (Ac (ad _ _) (Ao (ad _ _)))) ?_
        show (.tuple #[.agg #[.int .i64 0, .int .i64 0, .int .i64 0], .int .i64 1] : Value) = .tuple #[.agg #[.int .i64 0, .int .i64 0, .int .i64 0], .int .i64 1] ∧ Keep Nn w w8
        exact ⟨rfl, hk0⟩
      · have hg3r := hg3
        have hf := hf.prune [26, 3, 2, 1]
        replace hf : Fr 74 [(26, .val (.bool (!(within x1 2097152)))), (3, .val (.int .i64 0)), (2, .val (.pointer (some ⟨B1 + 1, 0, none⟩))), (1, .val (.pointer (some ⟨B1, 0, none⟩)))] a := hf
        replace hf := hf.conv (env' := [(26, .val (.bool false)), (3, .val (.int .i64 0)), (2, .val (.pointer (some ⟨B1 + 1, 0, none⟩))), (1, .val (.pointer (some ⟨B1, 0, none⟩)))]) (Ac (congrArg Value.bool hg3r) (Ac rfl (Ac rfl (Ao rfl))))
        try simp only [Bool.or_eq_true, Bool.and_eq_true, Bool.not_eq_true', Bool.not_eq_false', Bool.or_eq_false_iff, Bool.and_eq_false_iff, decide_eq_true_eq, decide_eq_false_iff_not, beq_iff_eq, bne_iff_ne, beq_eq_false_iff_ne, bne_eq_false_iff_eq, Bool.and_true, Bool.true_and, ne_eq] at hg3
        refine sr0 hf hM [28, 26, 3, 2, 1] [{}, { os := [.ld 0 3] }] (env' := [(28, .val (.int .i64 y1)), (26, .val (.bool false)), (3, .val (.int .i64 0)), (2, .val (.pointer (some ⟨B1 + 1, 0, none⟩))), (1, .val (.pointer (some ⟨B1, 0, none⟩)))]) (ob := [false = false, false = false, Ad B1 3]) (fun B => by as_aux_lemma => kernel_rfl) rfl (Ac rfl (Ac rfl (Ao (ad _ _)))) ?_
        clear hf; intro a hf
        refine sxcallg hf rfl rfl rfl rfl rfl (g := 39) (vs := [.int .i64 y1, .int .i64 2097152]) (ob := []) (by as_aux_lemma => kernel_rfl) An enters39 (rin_any y1 2097152 w7  (by omega)) ?_
        clear hf; rintro _ w9 a ⟨rfl, hk⟩ hf
        have hM := hM.keepNn hk
        have hk0 := hk0.trans hk.nn
        clear hk
        refine sr0 hf hM [31, 3, 2, 1] [{}, {}] (env' := [(31, .val (.bool (!(within y1 2097152)))), (3, .val (.int .i64 0)), (2, .val (.pointer (some ⟨B1 + 1, 0, none⟩))), (1, .val (.pointer (some ⟨B1, 0, none⟩)))]) (ob := [false = false]) (fun B => by as_aux_lemma => kernel_rfl) rfl (Ao rfl) ?_
        clear hf; intro a hf
        refine wpList_nil ?_
        refine hK5 _ _ ?_
        refine sxcond hf (b := !(within y1 2097152)) (by kernel_rfl) (fun hc5 => ?_) (fun hc5 => ?_)
        · have hc5r := hc5
          simp [inWorld, within] at hn1 hc5; simp [within] at *
          refine wp_seq_k (fun K9 hK9 => ?_)
          refine wp_region_lit ?_
          refine sr hf hM [3, 2] [{ sp := true }, { os := [.st 1 0, .st 1 1, .st 1 2] }, {}] (env' := fun B24 => [(3, .val (.int .i64 1)), (2, .val (.pointer (some ⟨B1 + 1, 0, none⟩)))]) (M' := fun B24 => [⟨B1, 42, [.int .i64 x0, .int .i64 y0, .int .i64 x1, .int .i64 y1]⟩, ⟨B1 + 1, 47, [.int .i64 0, .int .i64 0, .int .i64 0]⟩]) (ob := fun B24 => [Ad (B1 + 1) 0, Ad (B1 + 1) 1, Ad (B1 + 1) 2]) (fun B => by as_aux_lemma => kernel_rfl) (fun B24 => (Ac (ad _ _) (Ac (ad _ _) (Ao (ad _ _))))) ?_
          clear hf hM; intro a w10 B24 hf hM hB hk
          have hbB24 : w.heap.size ≤ B24 := by have := hk0.size; omega
          have hk0 := hk0.then hk (by intro i hi h; simp only [Is, Mem.names, List.map_cons, List.map_nil, List.mem_cons, List.not_mem_nil, or_false] at h; omega)
          clear hk hB
          refine wpList_nil ?_
          refine hK9 _ _ ?_
          refine wp_ret ?_
          refine sxret (fn := Tryd.f17) hf hM [.ld 1 0, .ld 1 1, .ld 1 2] (l := [.agg #[.int .i64 0, .int .i64 0, .int .i64 0], .int .i64 1]) (M' := [⟨B1, 42, [.int .i64 x0, .int .i64 y0, .int .i64 x1, .int .i64 y1]⟩, ⟨B1 + 1, 47, [.int .i64 0, .int .i64 0, .int .i64 0]⟩]) (d' := false) (ob := [Ad (B1 + 1) 0, Ad (B1 + 1) 1, Ad (B1 + 1) 2]) (by kernel_rfl) (fun B => ⟨B, by as_aux_lemma => kernel_rfl⟩) rfl (Ac (ad _ _) (Ac (ad _ _) (Ao (ad _ _)))) ?_
          show (.tuple #[.agg #[.int .i64 0, .int .i64 0, .int .i64 0], .int .i64 1] : Value) = .tuple #[.agg #[.int .i64 0, .int .i64 0, .int .i64 0], .int .i64 1] ∧ Keep Nn w w10
          exact ⟨rfl, hk0⟩
        · have hc5r := hc5
          simp [inWorld, within] at hn1 hc5; simp [within] at *
          exfalso; omega

set_option maxRecDepth 10000 in
theorem rof_ok (x0 y0 x1 y1 : Int) (w : World) (hn0 : (boxRight x0 y0 x1 y1) = true) (hn1 : (inWorld x0 y0 x1 y1) = true) :
    Calls Tryd.prog 17 #[.agg #[.int .i64 x0, .int .i64 y0, .int .i64 x1, .int .i64 y1]] w (Ret fun v w' => v = .tuple #[.agg #[.int .i64 (depthOf (bsize x0 y0 x1 y1)), .int .i64 (colOf ((x0 + x1) / 2) (depthOf (bsize x0 y0 x1 y1))), .int .i64 (colOf ((y0 + y1) / 2) (depthOf (bsize x0 y0 x1 y1)))], .int .i64 0] ∧ Keep Nn w w') := by
  refine sxenter (n := 74) (args := [.agg #[.int .i64 x0, .int .i64 y0, .int .i64 x1, .int .i64 y1]]) Tryd.func17 rfl rfl rfl fun a hf => ?_
  replace hf : Fr 74 [(0, .val (.agg #[.int .i64 x0, .int .i64 y0, .int .i64 x1, .int .i64 y1]))] a := hf
  have hM : MemOk [] w := MemOk.nil w
  have hk0 : Keep Nn w w := Keep.refl _ _
  have hb := boxRight_iff.1 hn0
  have hw := inWorld_iff.1 hn1
  have hix0 : within x0 2097152 = true := by simp [within]; omega
  have hiy0 : within y0 2097152 = true := by simp [within]; omega
  have hix1 : within x1 2097152 = true := by simp [within]; omega
  have hiy1 : within y1 2097152 = true := by simp [within]; omega
  have hm : bsize x0 y0 x1 y1 ≤ 4194304 := by unfold bsize; split <;> omega
  have hd8 := depthOf_bd (bsize x0 y0 x1 y1)
  have hcx := half_bd (a := x0) (b := x1) (m := 2097152) (by omega)
  have hcy := half_bd (a := y0) (b := y1) (m := 2097152) (by omega)
  refine wp_seq_k (fun K1 hK1 => ?_)
  refine wp_region_lit ?_
  refine sr hf hM [3, 2, 1] [{ os := [.nw] }, { os := [.nw] }, {}] (env' := fun B1 => [(3, .val (.int .i64 0)), (2, .val (.pointer (some ⟨B1 + 1, 0, none⟩))), (1, .val (.pointer (some ⟨B1, 0, none⟩)))]) (M' := fun B1 => [⟨B1, 42, [.int .i64 x0, .int .i64 y0, .int .i64 x1, .int .i64 y1]⟩, ⟨B1 + 1, 47, [.int .i64 0, .int .i64 0, .int .i64 0]⟩]) (ob := fun B1 => []) (fun B => by as_aux_lemma => kernel_rfl) (fun B1 => An) ?_
  clear hf hM; intro a w1 B1 hf hM hB hk
  have hbB1 : w.heap.size ≤ B1 := by have := hk0.size; omega
  have hk0 := hk0.then hk (by intro i _ h; cases h)
  clear hk hB
  refine wpList_nil ?_
  refine hK1 _ _ ?_
  refine wp_seq_k (fun K2 hK2 => ?_)
  refine wp_seq_k (fun K3 hK3 => ?_)
  refine wp_region_lit ?_
  refine sr0 hf hM [6, 3, 2, 1] [{ os := [.ld 0 0, .ld 0 1, .ld 0 2, .ld 0 3] }] (env' := [(6, .val (.agg #[.int .i64 x0, .int .i64 y0, .int .i64 x1, .int .i64 y1])), (3, .val (.int .i64 0)), (2, .val (.pointer (some ⟨B1 + 1, 0, none⟩))), (1, .val (.pointer (some ⟨B1, 0, none⟩)))]) (ob := [Ad B1 0, Ad B1 1, Ad B1 2, Ad B1 3]) (fun B => by as_aux_lemma => kernel_rfl) rfl (Ac (ad _ _) (Ac (ad _ _) (Ac (ad _ _) (Ao (ad _ _))))) ?_
  clear hf; intro a hf
  refine sxcall hf rfl rfl rfl rfl (g := 38) (vs := [.agg #[.int .i64 x0, .int .i64 y0, .int .i64 x1, .int .i64 y1]]) (ob := []) (by as_aux_lemma => kernel_rfl) An enters38 (rright_box x0 y0 x1 y1 w1  ) ?_
  clear hf; rintro _ w2 a ⟨rfl, hk⟩ hf
  have hM := hM.keepNn hk
  have hk0 := hk0.trans hk.nn
  clear hk
  refine sr0 hf hM [8, 3, 2, 1] [{}] (env' := [(8, .val (.bool (!(boxRight x0 y0 x1 y1)))), (3, .val (.int .i64 0)), (2, .val (.pointer (some ⟨B1 + 1, 0, none⟩))), (1, .val (.pointer (some ⟨B1, 0, none⟩)))]) (ob := []) (fun B => by as_aux_lemma => kernel_rfl) rfl An ?_
  clear hf; intro a hf
  refine wpList_nil ?_
  refine hK3 _ _ ?_
  refine sxcond hf (b := !(boxRight x0 y0 x1 y1)) (by kernel_rfl) (fun h => absurd (h.symm.trans (by simp [hn0] : (!(boxRight x0 y0 x1 y1) : Bool) = false)) (by simp)) (fun _ => ?_)
  refine wp_skip ?_
  refine hK2 _ _ ?_
  refine wp_seq_k (fun K4 hK4 => ?_)
  refine wp_seq_k (fun K5 hK5 => ?_)
  refine wp_region_lit ?_
  refine sr0 hf hM [11, 3, 2, 1] [{}, { os := [.ld 0 0] }] (env' := [(11, .val (.int .i64 x0)), (3, .val (.int .i64 0)), (2, .val (.pointer (some ⟨B1 + 1, 0, none⟩))), (1, .val (.pointer (some ⟨B1, 0, none⟩)))]) (ob := [Ad B1 0]) (fun B => by as_aux_lemma => kernel_rfl) rfl (Ao (ad _ _)) ?_
  clear hf; intro a hf
  refine sxcall hf rfl rfl rfl rfl (g := 39) (vs := [.int .i64 x0, .int .i64 2097152]) (ob := []) (by as_aux_lemma => kernel_rfl) An enters39 (rin_any x0 2097152 w2  (by omega)) ?_
  clear hf; rintro _ w3 a ⟨rfl, hk⟩ hf
  have hM := hM.keepNn hk
  have hk0 := hk0.trans hk.nn
  clear hk
  refine sr0 hf hM [14, 3, 2, 1] [{}, {}] (env' := [(14, .val (.bool (!(within x0 2097152)))), (3, .val (.int .i64 0)), (2, .val (.pointer (some ⟨B1 + 1, 0, none⟩))), (1, .val (.pointer (some ⟨B1, 0, none⟩)))]) (ob := []) (fun B => by as_aux_lemma => kernel_rfl) rfl An ?_
  clear hf; intro a hf
  have hf := hf.prune [14, 3, 2, 1]
  replace hf : Fr 74 [(14, .val (.bool (!(within x0 2097152)))), (3, .val (.int .i64 0)), (2, .val (.pointer (some ⟨B1 + 1, 0, none⟩))), (1, .val (.pointer (some ⟨B1, 0, none⟩)))] a := hf
  replace hf := hf.conv (env' := [(14, .val (.bool false)), (3, .val (.int .i64 0)), (2, .val (.pointer (some ⟨B1 + 1, 0, none⟩))), (1, .val (.pointer (some ⟨B1, 0, none⟩)))]) (Ac (congrArg Value.bool (by simp [hix0] : (!(within x0 2097152) : Bool) = false)) (Ac rfl (Ac rfl (Ao rfl))))
  refine sr0 hf hM [16, 14, 3, 2, 1] [{}, { os := [.ld 0 1] }] (env' := [(16, .val (.int .i64 y0)), (14, .val (.bool false)), (3, .val (.int .i64 0)), (2, .val (.pointer (some ⟨B1 + 1, 0, none⟩))), (1, .val (.pointer (some ⟨B1, 0, none⟩)))]) (ob := [false = false, false = false, Ad B1 1]) (fun B => by as_aux_lemma => kernel_rfl) rfl (Ac rfl (Ac rfl (Ao (ad _ _)))) ?_
  clear hf; intro a hf
  refine sxcallg hf rfl rfl rfl rfl rfl (g := 39) (vs := [.int .i64 y0, .int .i64 2097152]) (ob := []) (by as_aux_lemma => kernel_rfl) An enters39 (rin_any y0 2097152 w3  (by omega)) ?_
  clear hf; rintro _ w4 a ⟨rfl, hk⟩ hf
  have hM := hM.keepNn hk
  have hk0 := hk0.trans hk.nn
  clear hk
  refine sr0 hf hM [20, 3, 2, 1] [{}, {}, {}] (env' := [(20, .val (.bool (!(within y0 2097152)))), (3, .val (.int .i64 0)), (2, .val (.pointer (some ⟨B1 + 1, 0, none⟩))), (1, .val (.pointer (some ⟨B1, 0, none⟩)))]) (ob := [false = false]) (fun B => by as_aux_lemma => kernel_rfl) rfl (Ao rfl) ?_
  clear hf; intro a hf
  have hf := hf.prune [20, 3, 2, 1]
  replace hf : Fr 74 [(20, .val (.bool (!(within y0 2097152)))), (3, .val (.int .i64 0)), (2, .val (.pointer (some ⟨B1 + 1, 0, none⟩))), (1, .val (.pointer (some ⟨B1, 0, none⟩)))] a := hf
  replace hf := hf.conv (env' := [(20, .val (.bool false)), (3, .val (.int .i64 0)), (2, .val (.pointer (some ⟨B1 + 1, 0, none⟩))), (1, .val (.pointer (some ⟨B1, 0, none⟩)))]) (Ac (congrArg Value.bool (by simp [hiy0] : (!(within y0 2097152) : Bool) = false)) (Ac rfl (Ac rfl (Ao rfl))))
  refine sr0 hf hM [22, 20, 3, 2, 1] [{}, { os := [.ld 0 2] }] (env' := [(22, .val (.int .i64 x1)), (20, .val (.bool false)), (3, .val (.int .i64 0)), (2, .val (.pointer (some ⟨B1 + 1, 0, none⟩))), (1, .val (.pointer (some ⟨B1, 0, none⟩)))]) (ob := [false = false, false = false, Ad B1 2]) (fun B => by as_aux_lemma => kernel_rfl) rfl (Ac rfl (Ac rfl (Ao (ad _ _)))) ?_
  clear hf; intro a hf
  refine sxcallg hf rfl rfl rfl rfl rfl (g := 39) (vs := [.int .i64 x1, .int .i64 2097152]) (ob := []) (by as_aux_lemma => kernel_rfl) An enters39 (rin_any x1 2097152 w4  (by omega)) ?_
  clear hf; rintro _ w5 a ⟨rfl, hk⟩ hf
  have hM := hM.keepNn hk
  have hk0 := hk0.trans hk.nn
  clear hk
  refine sr0 hf hM [26, 3, 2, 1] [{}, {}, {}] (env' := [(26, .val (.bool (!(within x1 2097152)))), (3, .val (.int .i64 0)), (2, .val (.pointer (some ⟨B1 + 1, 0, none⟩))), (1, .val (.pointer (some ⟨B1, 0, none⟩)))]) (ob := [false = false]) (fun B => by as_aux_lemma => kernel_rfl) rfl (Ao rfl) ?_
  clear hf; intro a hf
  have hf := hf.prune [26, 3, 2, 1]
  replace hf : Fr 74 [(26, .val (.bool (!(within x1 2097152)))), (3, .val (.int .i64 0)), (2, .val (.pointer (some ⟨B1 + 1, 0, none⟩))), (1, .val (.pointer (some ⟨B1, 0, none⟩)))] a := hf
  replace hf := hf.conv (env' := [(26, .val (.bool false)), (3, .val (.int .i64 0)), (2, .val (.pointer (some ⟨B1 + 1, 0, none⟩))), (1, .val (.pointer (some ⟨B1, 0, none⟩)))]) (Ac (congrArg Value.bool (by simp [hix1] : (!(within x1 2097152) : Bool) = false)) (Ac rfl (Ac rfl (Ao rfl))))
  refine sr0 hf hM [28, 26, 3, 2, 1] [{}, { os := [.ld 0 3] }] (env' := [(28, .val (.int .i64 y1)), (26, .val (.bool false)), (3, .val (.int .i64 0)), (2, .val (.pointer (some ⟨B1 + 1, 0, none⟩))), (1, .val (.pointer (some ⟨B1, 0, none⟩)))]) (ob := [false = false, false = false, Ad B1 3]) (fun B => by as_aux_lemma => kernel_rfl) rfl (Ac rfl (Ac rfl (Ao (ad _ _)))) ?_
  clear hf; intro a hf
  refine sxcallg hf rfl rfl rfl rfl rfl (g := 39) (vs := [.int .i64 y1, .int .i64 2097152]) (ob := []) (by as_aux_lemma => kernel_rfl) An enters39 (rin_any y1 2097152 w5  (by omega)) ?_
  clear hf; rintro _ w6 a ⟨rfl, hk⟩ hf
  have hM := hM.keepNn hk
  have hk0 := hk0.trans hk.nn
  clear hk
  refine sr0 hf hM [31, 3, 2, 1] [{}, {}] (env' := [(31, .val (.bool (!(within y1 2097152)))), (3, .val (.int .i64 0)), (2, .val (.pointer (some ⟨B1 + 1, 0, none⟩))), (1, .val (.pointer (some ⟨B1, 0, none⟩)))]) (ob := [false = false]) (fun B => by as_aux_lemma => kernel_rfl) rfl (Ao rfl) ?_
  clear hf; intro a hf
  refine wpList_nil ?_
  refine hK5 _ _ ?_
  refine sxcond hf (b := !(within y1 2097152)) (by kernel_rfl) (fun h => absurd (h.symm.trans (by simp [hiy1] : (!(within y1 2097152) : Bool) = false)) (by simp)) (fun _ => ?_)
  refine wp_skip ?_
  refine hK4 _ _ ?_
  refine wp_seq_k (fun K6 hK6 => ?_)
  refine wp_region_lit ?_
  refine sr0 hf hM [4, 3, 2, 1] [{}] (env' := [(4, .val (.int .i64 0)), (3, .val (.int .i64 0)), (2, .val (.pointer (some ⟨B1 + 1, 0, none⟩))), (1, .val (.pointer (some ⟨B1, 0, none⟩)))]) (ob := []) (fun B => by as_aux_lemma => kernel_rfl) rfl An ?_
  clear hf; intro a hf
  refine wpList_nil ?_
  refine hK6 _ _ ?_
  refine wp_seq_k (fun K7 hK7 => ?_)
  refine wp_seq_k (fun K8 hK8 => ?_)
  refine wp_region_lit ?_
  refine sr0 hf hM [5, 4, 3, 2, 1] [{}] (env' := [(5, .val (.int .i64 1)), (4, .val (.int .i64 0)), (3, .val (.int .i64 0)), (2, .val (.pointer (some ⟨B1 + 1, 0, none⟩))), (1, .val (.pointer (some ⟨B1, 0, none⟩)))]) (ob := []) (fun B => by as_aux_lemma => kernel_rfl) rfl An ?_
  clear hf; intro a hf
  refine wpList_nil ?_
  refine hK8 _ _ ?_
  refine wp_block ?_
  have hf := hf.prune [1, 2, 3, 4, 5]
  replace hf : Fr 74 [(1, .val (.pointer (some ⟨B1, 0, none⟩))), (2, .val (.pointer (some ⟨B1 + 1, 0, none⟩))), (3, .val (.int .i64 0)), (4, .val (.int .i64 0)), (5, .val (.int .i64 1))] a := hf
  refine sxloop (fun m a w1 => ∃ (k : Int), m = (9 - k).toNat ∧ Fr 74 [(1, .val (.pointer (some ⟨B1, 0, none⟩))), (2, .val (.pointer (some ⟨B1 + 1, 0, none⟩))), (3, .val (.int .i64 0)), (4, .val (.int .i64 (if k - 1 ≤ depthOf (bsize x0 y0 x1 y1) then k - 1 else depthOf (bsize x0 y0 x1 y1)))), (5, .val (.int .i64 k))] a ∧ MemOk [⟨B1, 42, [.int .i64 x0, .int .i64 y0, .int .i64 x1, .int .i64 y1]⟩, ⟨B1 + 1, 47, [.int .i64 0, .int .i64 0, .int .i64 0]⟩] w1 ∧ Keep Nn w w1 ∧ (1 ≤ k ∧ k ≤ 9)) _ ⟨1, rfl, hf.conv (Ac rfl (Ac rfl (Ac rfl (Ac (by first | rfl | (congr 1; omega)) (Ao rfl))))), hM, hk0, (by omega)⟩ ?_
  clear hf hM hk0
  rintro _ a w7 ⟨k, rfl, hf, hM, hk0, hk⟩ L1 hL1
  have hsk : k ≤ 8 → (bsize x0 y0 x1 y1 ≤ side k ↔ k ≤ depthOf (bsize x0 y0 x1 y1)) := fun h => depthOf_iff hm (by omega)
  refine wp_seq_k (fun K9 hK9 => ?_)
  refine wp_seq_k (fun K10 hK10 => ?_)
  refine wp_region_lit ?_
  refine sr0 hf hM [34, 1, 2, 3, 4, 5] [{}, {}] (env' := [(34, .val (.bool (decide ((k : Int) ≤ 8)))), (1, .val (.pointer (some ⟨B1, 0, none⟩))), (2, .val (.pointer (some ⟨B1 + 1, 0, none⟩))), (3, .val (.int .i64 0)), (4, .val (.int .i64 (if k - 1 ≤ depthOf (bsize x0 y0 x1 y1) then k - 1 else depthOf (bsize x0 y0 x1 y1)))), (5, .val (.int .i64 k))]) (ob := []) (fun B => by as_aux_lemma => kernel_rfl) rfl An ?_
  clear hf; intro a hf
  refine wpList_nil ?_
  refine hK10 _ _ ?_
  refine sxcond hf (b := (decide ((k : Int) ≤ 8))) (by kernel_rfl) (fun hc3 => ?_) (fun hc3 => ?_)
  · have hc3r := hc3
    try simp only [Bool.or_eq_true, Bool.and_eq_true, Bool.not_eq_true', Bool.not_eq_false', Bool.or_eq_false_iff, Bool.and_eq_false_iff, decide_eq_true_eq, decide_eq_false_iff_not, beq_iff_eq, bne_iff_ne, beq_eq_false_iff_ne, bne_eq_false_iff_eq, Bool.and_true, Bool.true_and, ne_eq] at hc3
    refine wp_skip ?_
    refine hK9 _ _ ?_
    refine wp_seq_k (fun K11 hK11 => ?_)
    refine wp_block ?_
    refine wp_seq_k (fun K12 hK12 => ?_)
    refine sxdraw [] [(0, true), (2, true), (3, true), (4, true), (5, true), (6, true), (1, false), (7, true), (8, true), (9, true), (11, true), (12, true), (13, true), (14, true), (15, true), (10, false), (16, true), (17, true)] (by kernel_rfl) (by kernel_rfl) (by as_aux_lemma => kernel_rfl) rfl (by as_aux_lemma => kernel_rfl) (by kernel_rfl) ?_
    replace hM := hM.drew; replace hk0 := hk0.drew
    have hkd := hk0
    have hC : Keep (Is []) w7.drew w7.drew := Keep.refl _ _
    have hM0 := hM
    have hMr := hM
    refine sc0 hf hMr (by intro k _ h; cases h) hC [43, 42, 41, 40, 39, 37, 1, 2, 3, 4, 5] [{}, {}, { os := [.ld 0 2] }, {}, { os := [.ld 0 0] }, { hint := some (.int .i64 (x1 - x0)) }] (env' := [(43, .val (.int .i64 (x1 - x0))), (42, .val (.int .i64 x0)), (41, .val (.pointer (some ⟨B1, 0, none⟩))), (40, .val (.int .i64 x1)), (39, .val (.pointer (some ⟨B1, 2, none⟩))), (37, .val (.int .i64 k)), (1, .val (.pointer (some ⟨B1, 0, none⟩))), (2, .val (.pointer (some ⟨B1 + 1, 0, none⟩))), (3, .val (.int .i64 0)), (4, .val (.int .i64 (if k - 1 ≤ depthOf (bsize x0 y0 x1 y1) then k - 1 else depthOf (bsize x0 y0 x1 y1)))), (5, .val (.int .i64 k))]) (ob := [Ad B1 2, Ad B1 0, (.int .i64 (IntKind.i64.wrap (x1 - x0)) : Value) = (.int .i64 (x1 - x0) : Value)]) (by as_aux_lemma => kernel_rfl) rfl (Ac (ad _ _) (Ac (ad _ _) (Ao (wr (by omega))))) ?_
    clear hf; intro a hf
    have hM := MemOk.nil w7.drew
    refine sccall rfl hf rfl rfl rfl rfl (g := 40) (vs := [.int .i64 k]) (ob := []) (by as_aux_lemma => kernel_rfl) An enters40 (rside_any k w7.drew  (by omega)) (by rintro _ _ ⟨rfl, hk⟩; exact hC.trans hk.nn) ?_
    clear hf; rintro _ w8 a ⟨rfl, hk⟩ hf
    have hM := hM.keepNn hk
    have hC := hC.trans hk.nn
    have hk0 := hk0.trans hk.nn
    clear hk
    refine sc0 hf hMr (by intro k _ h; cases h) hC [45, 44, 38, 43, 42, 41, 40, 39, 37, 1, 2, 3, 4, 5] [{}, {}] (env' := [(45, .val (.bool (decide (((side k) : Int) ≥ (x1 - x0))))), (44, .val (.bool (decide (((side k) : Int) ≥ (x1 - x0))))), (38, .val (.int .i64 (side k))), (43, .val (.int .i64 (x1 - x0))), (42, .val (.int .i64 x0)), (41, .val (.pointer (some ⟨B1, 0, none⟩))), (40, .val (.int .i64 x1)), (39, .val (.pointer (some ⟨B1, 2, none⟩))), (37, .val (.int .i64 k)), (1, .val (.pointer (some ⟨B1, 0, none⟩))), (2, .val (.pointer (some ⟨B1 + 1, 0, none⟩))), (3, .val (.int .i64 0)), (4, .val (.int .i64 (if k - 1 ≤ depthOf (bsize x0 y0 x1 y1) then k - 1 else depthOf (bsize x0 y0 x1 y1)))), (5, .val (.int .i64 k))]) (ob := []) (by as_aux_lemma => kernel_rfl) rfl An ?_
    clear hf; intro a hf
    rcases Bool.eq_false_or_eq_true (decide (((side k) : Int) ≥ (x1 - x0))) with hg1 | hg1
    · have hg1r := hg1
      have hf := hf.prune [45, 44, 38, 43, 42, 41, 40, 39, 37, 1, 2, 3, 4, 5]
      replace hf : Fr 74 [(45, .val (.bool (decide (((side k) : Int) ≥ (x1 - x0))))), (44, .val (.bool (decide (((side k) : Int) ≥ (x1 - x0))))), (38, .val (.int .i64 (side k))), (43, .val (.int .i64 (x1 - x0))), (42, .val (.int .i64 x0)), (41, .val (.pointer (some ⟨B1, 0, none⟩))), (40, .val (.int .i64 x1)), (39, .val (.pointer (some ⟨B1, 2, none⟩))), (37, .val (.int .i64 k)), (1, .val (.pointer (some ⟨B1, 0, none⟩))), (2, .val (.pointer (some ⟨B1 + 1, 0, none⟩))), (3, .val (.int .i64 0)), (4, .val (.int .i64 (if k - 1 ≤ depthOf (bsize x0 y0 x1 y1) then k - 1 else depthOf (bsize x0 y0 x1 y1)))), (5, .val (.int .i64 k))] a := hf
      replace hf := hf.conv (env' := [(45, .val (.bool true)), (44, .val (.bool true)), (38, .val (.int .i64 (side k))), (43, .val (.int .i64 (x1 - x0))), (42, .val (.int .i64 x0)), (41, .val (.pointer (some ⟨B1, 0, none⟩))), (40, .val (.int .i64 x1)), (39, .val (.pointer (some ⟨B1, 2, none⟩))), (37, .val (.int .i64 k)), (1, .val (.pointer (some ⟨B1, 0, none⟩))), (2, .val (.pointer (some ⟨B1 + 1, 0, none⟩))), (3, .val (.int .i64 0)), (4, .val (.int .i64 (if k - 1 ≤ depthOf (bsize x0 y0 x1 y1) then k - 1 else depthOf (bsize x0 y0 x1 y1)))), (5, .val (.int .i64 k))]) (Ac (congrArg Value.bool hg1r) (Ac (congrArg Value.bool hg1r) (Ac rfl (Ac rfl (Ac rfl (Ac rfl (Ac rfl (Ac rfl (Ac rfl (Ac rfl (Ac rfl (Ac rfl (Ac rfl (Ao rfl))))))))))))))
      try simp only [Bool.or_eq_true, Bool.and_eq_true, Bool.not_eq_true', Bool.not_eq_false', Bool.or_eq_false_iff, Bool.and_eq_false_iff, decide_eq_true_eq, decide_eq_false_iff_not, beq_iff_eq, bne_iff_ne, beq_eq_false_iff_ne, bne_eq_false_iff_eq, Bool.and_true, Bool.true_and, ne_eq] at hg1
      refine sc0 hf hMr (by intro k _ h; cases h) hC [52, 51, 50, 49, 48, 46, 45, 44, 38, 43, 42, 41, 40, 39, 37, 1, 2, 3, 4, 5] [{}, {}, { os := [.ld 0 3] }, {}, { os := [.ld 0 1] }, { hint := some (.int .i64 (y1 - y0)) }] (env' := [(52, .val (.int .i64 (y1 - y0))), (51, .val (.int .i64 y0)), (50, .val (.pointer (some ⟨B1, 1, none⟩))), (49, .val (.int .i64 y1)), (48, .val (.pointer (some ⟨B1, 3, none⟩))), (46, .val (.int .i64 k)), (45, .val (.bool true)), (44, .val (.bool true)), (38, .val (.int .i64 (side k))), (43, .val (.int .i64 (x1 - x0))), (42, .val (.int .i64 x0)), (41, .val (.pointer (some ⟨B1, 0, none⟩))), (40, .val (.int .i64 x1)), (39, .val (.pointer (some ⟨B1, 2, none⟩))), (37, .val (.int .i64 k)), (1, .val (.pointer (some ⟨B1, 0, none⟩))), (2, .val (.pointer (some ⟨B1 + 1, 0, none⟩))), (3, .val (.int .i64 0)), (4, .val (.int .i64 (if k - 1 ≤ depthOf (bsize x0 y0 x1 y1) then k - 1 else depthOf (bsize x0 y0 x1 y1)))), (5, .val (.int .i64 k))]) (ob := [true = true, true = true, true = true, Ad B1 3, true = true, true = true, Ad B1 1, true = true, (.int .i64 (IntKind.i64.wrap (y1 - y0)) : Value) = (.int .i64 (y1 - y0) : Value)]) (by as_aux_lemma => kernel_rfl) rfl (Ac rfl (Ac rfl (Ac rfl (Ac (ad _ _) (Ac rfl (Ac rfl (Ac (ad _ _) (Ac rfl (Ao (wr (by omega))))))))))) ?_
      clear hf; intro a hf
      have hM := MemOk.nil w8
      refine sccallg rfl hf rfl rfl rfl rfl rfl (g := 40) (vs := [.int .i64 k]) (ob := []) (by as_aux_lemma => kernel_rfl) An enters40 (rside_any k w8  (by omega)) (by rintro _ _ ⟨rfl, hk⟩; exact hC.trans hk.nn) ?_
      clear hf; rintro _ w9 a ⟨rfl, hk⟩ hf
      have hM := hM.keepNn hk
      have hC := hC.trans hk.nn
      have hk0 := hk0.trans hk.nn
      clear hk
      refine sc0 hf hMr (by intro k _ h; cases h) hC [54, 53, 47, 52, 51, 50, 49, 48, 46, 45, 44, 38, 43, 42, 41, 40, 39, 37, 1, 2, 3, 4, 5] [{}, {}] (env' := [(54, .val (.bool (decide (((side k) : Int) ≥ (y1 - y0))))), (53, .val (.bool (decide (((side k) : Int) ≥ (y1 - y0))))), (47, .val (.int .i64 (side k))), (52, .val (.int .i64 (y1 - y0))), (51, .val (.int .i64 y0)), (50, .val (.pointer (some ⟨B1, 1, none⟩))), (49, .val (.int .i64 y1)), (48, .val (.pointer (some ⟨B1, 3, none⟩))), (46, .val (.int .i64 k)), (45, .val (.bool true)), (44, .val (.bool true)), (38, .val (.int .i64 (side k))), (43, .val (.int .i64 (x1 - x0))), (42, .val (.int .i64 x0)), (41, .val (.pointer (some ⟨B1, 0, none⟩))), (40, .val (.int .i64 x1)), (39, .val (.pointer (some ⟨B1, 2, none⟩))), (37, .val (.int .i64 k)), (1, .val (.pointer (some ⟨B1, 0, none⟩))), (2, .val (.pointer (some ⟨B1 + 1, 0, none⟩))), (3, .val (.int .i64 0)), (4, .val (.int .i64 (if k - 1 ≤ depthOf (bsize x0 y0 x1 y1) then k - 1 else depthOf (bsize x0 y0 x1 y1)))), (5, .val (.int .i64 k))]) (ob := [true = true]) (by as_aux_lemma => kernel_rfl) rfl (Ao rfl) ?_
      clear hf; intro a hf
      have hM := hMr.keep hC (by intro _ _ h; cases h)
      clear hMr hC hkd
      show K12 _ _
      refine hK12 _ _ ?_
      refine sxcond hf (b := (decide (((side k) : Int) ≥ (y1 - y0)))) (by kernel_rfl) (fun hc4 => ?_) (fun hc4 => ?_)
      · have hc4r := hc4
        try simp only [Bool.or_eq_true, Bool.and_eq_true, Bool.not_eq_true', Bool.not_eq_false', Bool.or_eq_false_iff, Bool.and_eq_false_iff, decide_eq_true_eq, decide_eq_false_iff_not, beq_iff_eq, bne_iff_ne, beq_eq_false_iff_ne, bne_eq_false_iff_eq, Bool.and_true, Bool.true_and, ne_eq] at hc4
        refine wp_region_lit ?_
        refine sr0 hf hM [4, 54, 53, 47, 52, 51, 50, 49, 48, 46, 45, 44, 38, 43, 42, 41, 40, 39, 37, 1, 2, 3, 5] [{}, {}] (env' := [(4, .val (.int .i64 k)), (54, .val (.bool (decide (((side k) : Int) ≥ (y1 - y0))))), (53, .val (.bool (decide (((side k) : Int) ≥ (y1 - y0))))), (47, .val (.int .i64 (side k))), (52, .val (.int .i64 (y1 - y0))), (51, .val (.int .i64 y0)), (50, .val (.pointer (some ⟨B1, 1, none⟩))), (49, .val (.int .i64 y1)), (48, .val (.pointer (some ⟨B1, 3, none⟩))), (46, .val (.int .i64 k)), (45, .val (.bool true)), (44, .val (.bool true)), (38, .val (.int .i64 (side k))), (43, .val (.int .i64 (x1 - x0))), (42, .val (.int .i64 x0)), (41, .val (.pointer (some ⟨B1, 0, none⟩))), (40, .val (.int .i64 x1)), (39, .val (.pointer (some ⟨B1, 2, none⟩))), (37, .val (.int .i64 k)), (1, .val (.pointer (some ⟨B1, 0, none⟩))), (2, .val (.pointer (some ⟨B1 + 1, 0, none⟩))), (3, .val (.int .i64 0)), (5, .val (.int .i64 k))]) (ob := []) (fun B => by as_aux_lemma => kernel_rfl) rfl An ?_
        clear hf; intro a hf
        refine wpList_nil ?_
        refine hK11 _ _ ?_
        refine wp_region_lit ?_
        refine sr0 hf hM [5, 4, 54, 53, 47, 52, 51, 50, 49, 48, 46, 45, 44, 38, 43, 42, 41, 40, 39, 37, 1, 2, 3] [{}, { hint := some (.int .i64 (k + 1)) }, {}] (env' := [(5, .val (.int .i64 (k + 1))), (4, .val (.int .i64 k)), (54, .val (.bool (decide (((side k) : Int) ≥ (y1 - y0))))), (53, .val (.bool (decide (((side k) : Int) ≥ (y1 - y0))))), (47, .val (.int .i64 (side k))), (52, .val (.int .i64 (y1 - y0))), (51, .val (.int .i64 y0)), (50, .val (.pointer (some ⟨B1, 1, none⟩))), (49, .val (.int .i64 y1)), (48, .val (.pointer (some ⟨B1, 3, none⟩))), (46, .val (.int .i64 k)), (45, .val (.bool true)), (44, .val (.bool true)), (38, .val (.int .i64 (side k))), (43, .val (.int .i64 (x1 - x0))), (42, .val (.int .i64 x0)), (41, .val (.pointer (some ⟨B1, 0, none⟩))), (40, .val (.int .i64 x1)), (39, .val (.pointer (some ⟨B1, 2, none⟩))), (37, .val (.int .i64 k)), (1, .val (.pointer (some ⟨B1, 0, none⟩))), (2, .val (.pointer (some ⟨B1 + 1, 0, none⟩))), (3, .val (.int .i64 0))]) (ob := [(.int .i64 (IntKind.i64.wrap (k + 1)) : Value) = (.int .i64 (k + 1) : Value)]) (fun B => by as_aux_lemma => kernel_rfl) rfl (Ao (wr (by omega))) ?_
        clear hf; intro a hf
        refine wpList_nil ?_
        have hf := hf.prune [1, 2, 3, 4, 5]
        replace hf : Fr 74 [(1, .val (.pointer (some ⟨B1, 0, none⟩))), (2, .val (.pointer (some ⟨B1 + 1, 0, none⟩))), (3, .val (.int .i64 0)), (4, .val (.int .i64 k)), (5, .val (.int .i64 (k + 1)))] a := hf
        refine hL1 _ _ _ (by omega) ⟨k + 1, rfl, hf.conv (Ac rfl (Ac rfl (Ac rfl (Ac (by congr 1; have hbs := bsize_spec x0 y0 x1 y1; have hsk := hsk (by omega); repeat' split <;> omega) (Ao rfl))))), hM, hk0, (by omega)⟩
      · have hc4r := hc4
        try simp only [Bool.or_eq_true, Bool.and_eq_true, Bool.not_eq_true', Bool.not_eq_false', Bool.or_eq_false_iff, Bool.and_eq_false_iff, decide_eq_true_eq, decide_eq_false_iff_not, beq_iff_eq, bne_iff_ne, beq_eq_false_iff_ne, bne_eq_false_iff_eq, Bool.and_true, Bool.true_and, ne_eq] at hc4
        refine wp_skip ?_
        refine hK11 _ _ ?_
        refine wp_region_lit ?_
        refine sr0 hf hM [5, 54, 53, 47, 52, 51, 50, 49, 48, 46, 45, 44, 38, 43, 42, 41, 40, 39, 37, 1, 2, 3, 4] [{}, { hint := some (.int .i64 (k + 1)) }, {}] (env' := [(5, .val (.int .i64 (k + 1))), (54, .val (.bool (decide (((side k) : Int) ≥ (y1 - y0))))), (53, .val (.bool (decide (((side k) : Int) ≥ (y1 - y0))))), (47, .val (.int .i64 (side k))), (52, .val (.int .i64 (y1 - y0))), (51, .val (.int .i64 y0)), (50, .val (.pointer (some ⟨B1, 1, none⟩))), (49, .val (.int .i64 y1)), (48, .val (.pointer (some ⟨B1, 3, none⟩))), (46, .val (.int .i64 k)), (45, .val (.bool true)), (44, .val (.bool true)), (38, .val (.int .i64 (side k))), (43, .val (.int .i64 (x1 - x0))), (42, .val (.int .i64 x0)), (41, .val (.pointer (some ⟨B1, 0, none⟩))), (40, .val (.int .i64 x1)), (39, .val (.pointer (some ⟨B1, 2, none⟩))), (37, .val (.int .i64 k)), (1, .val (.pointer (some ⟨B1, 0, none⟩))), (2, .val (.pointer (some ⟨B1 + 1, 0, none⟩))), (3, .val (.int .i64 0)), (4, .val (.int .i64 (if k - 1 ≤ depthOf (bsize x0 y0 x1 y1) then k - 1 else depthOf (bsize x0 y0 x1 y1))))]) (ob := [(.int .i64 (IntKind.i64.wrap (k + 1)) : Value) = (.int .i64 (k + 1) : Value)]) (fun B => by as_aux_lemma => kernel_rfl) rfl (Ao (wr (by omega))) ?_
        clear hf; intro a hf
        refine wpList_nil ?_
        have hf := hf.prune [1, 2, 3, 4, 5]
        replace hf : Fr 74 [(1, .val (.pointer (some ⟨B1, 0, none⟩))), (2, .val (.pointer (some ⟨B1 + 1, 0, none⟩))), (3, .val (.int .i64 0)), (4, .val (.int .i64 (if k - 1 ≤ depthOf (bsize x0 y0 x1 y1) then k - 1 else depthOf (bsize x0 y0 x1 y1)))), (5, .val (.int .i64 (k + 1)))] a := hf
        refine hL1 _ _ _ (by omega) ⟨k + 1, rfl, hf.conv (Ac rfl (Ac rfl (Ac rfl (Ac (by congr 1; have hbs := bsize_spec x0 y0 x1 y1; have hsk := hsk (by omega); repeat' split <;> omega) (Ao rfl))))), hM, hk0, (by omega)⟩
    · have hg1r := hg1
      have hf := hf.prune [45, 44, 38, 43, 42, 41, 40, 39, 37, 1, 2, 3, 4, 5]
      replace hf : Fr 74 [(45, .val (.bool (decide (((side k) : Int) ≥ (x1 - x0))))), (44, .val (.bool (decide (((side k) : Int) ≥ (x1 - x0))))), (38, .val (.int .i64 (side k))), (43, .val (.int .i64 (x1 - x0))), (42, .val (.int .i64 x0)), (41, .val (.pointer (some ⟨B1, 0, none⟩))), (40, .val (.int .i64 x1)), (39, .val (.pointer (some ⟨B1, 2, none⟩))), (37, .val (.int .i64 k)), (1, .val (.pointer (some ⟨B1, 0, none⟩))), (2, .val (.pointer (some ⟨B1 + 1, 0, none⟩))), (3, .val (.int .i64 0)), (4, .val (.int .i64 (if k - 1 ≤ depthOf (bsize x0 y0 x1 y1) then k - 1 else depthOf (bsize x0 y0 x1 y1)))), (5, .val (.int .i64 k))] a := hf
      replace hf := hf.conv (env' := [(45, .val (.bool false)), (44, .val (.bool false)), (38, .val (.int .i64 (side k))), (43, .val (.int .i64 (x1 - x0))), (42, .val (.int .i64 x0)), (41, .val (.pointer (some ⟨B1, 0, none⟩))), (40, .val (.int .i64 x1)), (39, .val (.pointer (some ⟨B1, 2, none⟩))), (37, .val (.int .i64 k)), (1, .val (.pointer (some ⟨B1, 0, none⟩))), (2, .val (.pointer (some ⟨B1 + 1, 0, none⟩))), (3, .val (.int .i64 0)), (4, .val (.int .i64 (if k - 1 ≤ depthOf (bsize x0 y0 x1 y1) then k - 1 else depthOf (bsize x0 y0 x1 y1)))), (5, .val (.int .i64 k))]) (Ac (congrArg Value.bool hg1r) (Ac (congrArg Value.bool hg1r) (Ac rfl (Ac rfl (Ac rfl (Ac rfl (Ac rfl (Ac rfl (Ac rfl (Ac rfl (Ac rfl (Ac rfl (Ac rfl (Ao rfl))))))))))))))
      try simp only [Bool.or_eq_true, Bool.and_eq_true, Bool.not_eq_true', Bool.not_eq_false', Bool.or_eq_false_iff, Bool.and_eq_false_iff, decide_eq_true_eq, decide_eq_false_iff_not, beq_iff_eq, bne_iff_ne, beq_eq_false_iff_ne, bne_eq_false_iff_eq, Bool.and_true, Bool.true_and, ne_eq] at hg1
      refine sc0 hf hMr (by intro k _ h; cases h) hC [52, 51, 50, 49, 48, 46, 45, 44, 38, 43, 42, 41, 40, 39, 37, 1, 2, 3, 4, 5] [{ g := .off }, { g := .off }, { g := .off }, { g := .off }, { g := .off }, { g := .off }] (env' := [(52, .val (undef)), (51, .val (undef)), (50, .val (undef)), (49, .val (undef)), (48, .val (undef)), (46, .val (undef)), (45, .val (.bool false)), (44, .val (.bool false)), (38, .val (.int .i64 (side k))), (43, .val (.int .i64 (x1 - x0))), (42, .val (.int .i64 x0)), (41, .val (.pointer (some ⟨B1, 0, none⟩))), (40, .val (.int .i64 x1)), (39, .val (.pointer (some ⟨B1, 2, none⟩))), (37, .val (.int .i64 k)), (1, .val (.pointer (some ⟨B1, 0, none⟩))), (2, .val (.pointer (some ⟨B1 + 1, 0, none⟩))), (3, .val (.int .i64 0)), (4, .val (.int .i64 (if k - 1 ≤ depthOf (bsize x0 y0 x1 y1) then k - 1 else depthOf (bsize x0 y0 x1 y1)))), (5, .val (.int .i64 k))]) (ob := [false = !true, false = !true, false = !true, false = !true, false = !true, false = !true]) (by as_aux_lemma => kernel_rfl) rfl (Ac rfl (Ac rfl (Ac rfl (Ac rfl (Ac rfl (Ao rfl)))))) ?_
      clear hf; intro a hf
      refine sc1 rfl hf (MemOk.nil _) (by intro k hk; cases hk) hC [47, 52, 51, 50, 49, 48, 46, 45, 44, 38, 43, 42, 41, 40, 39, 37, 1, 2, 3, 4, 5] { g := .off } (env' := fun B18 => [(47, .val (undef)), (52, .val (undef)), (51, .val (undef)), (50, .val (undef)), (49, .val (undef)), (48, .val (undef)), (46, .val (undef)), (45, .val (.bool false)), (44, .val (.bool false)), (38, .val (.int .i64 (side k))), (43, .val (.int .i64 (x1 - x0))), (42, .val (.int .i64 x0)), (41, .val (.pointer (some ⟨B1, 0, none⟩))), (40, .val (.int .i64 x1)), (39, .val (.pointer (some ⟨B1, 2, none⟩))), (37, .val (.int .i64 k)), (1, .val (.pointer (some ⟨B1, 0, none⟩))), (2, .val (.pointer (some ⟨B1 + 1, 0, none⟩))), (3, .val (.int .i64 0)), (4, .val (.int .i64 (if k - 1 ≤ depthOf (bsize x0 y0 x1 y1) then k - 1 else depthOf (bsize x0 y0 x1 y1)))), (5, .val (.int .i64 k))]) (M' := fun B18 => []) (ob := fun B18 => [false = !true]) (fun B => by as_aux_lemma => kernel_rfl) (fun _ => Ao rfl) ?_
      clear hf; intro a w10 B18 hf _ hB hk hC
      have hk0 := hk0.then hk (by intro i _ h; cases h)
      clear hk
      clear hB
      refine sc0 hf hMr (by intro k _ h; cases h) hC [54, 53, 47, 52, 51, 50, 49, 48, 46, 45, 44, 38, 43, 42, 41, 40, 39, 37, 1, 2, 3, 4, 5] [{ g := .off }, {}] (env' := [(54, .val (.bool false)), (53, .val (undef)), (47, .val (undef)), (52, .val (undef)), (51, .val (undef)), (50, .val (undef)), (49, .val (undef)), (48, .val (undef)), (46, .val (undef)), (45, .val (.bool false)), (44, .val (.bool false)), (38, .val (.int .i64 (side k))), (43, .val (.int .i64 (x1 - x0))), (42, .val (.int .i64 x0)), (41, .val (.pointer (some ⟨B1, 0, none⟩))), (40, .val (.int .i64 x1)), (39, .val (.pointer (some ⟨B1, 2, none⟩))), (37, .val (.int .i64 k)), (1, .val (.pointer (some ⟨B1, 0, none⟩))), (2, .val (.pointer (some ⟨B1 + 1, 0, none⟩))), (3, .val (.int .i64 0)), (4, .val (.int .i64 (if k - 1 ≤ depthOf (bsize x0 y0 x1 y1) then k - 1 else depthOf (bsize x0 y0 x1 y1)))), (5, .val (.int .i64 k))]) (ob := [false = !true]) (by as_aux_lemma => kernel_rfl) rfl (Ao rfl) ?_
      clear hf; intro a hf
      have hM := hMr.keep hC (by intro _ _ h; cases h)
      clear hMr hC hkd
      show K12 _ _
      refine hK12 _ _ ?_
      refine sxcond hf (b := false) (by kernel_rfl) (fun h => by cases h) (fun _ => ?_)
      refine wp_skip ?_
      refine hK11 _ _ ?_
      refine wp_region_lit ?_
      refine sr0 hf hM [5, 54, 53, 47, 52, 51, 50, 49, 48, 46, 45, 44, 38, 43, 42, 41, 40, 39, 37, 1, 2, 3, 4] [{}, { hint := some (.int .i64 (k + 1)) }, {}] (env' := [(5, .val (.int .i64 (k + 1))), (54, .val (.bool false)), (53, .val (undef)), (47, .val (undef)), (52, .val (undef)), (51, .val (undef)), (50, .val (undef)), (49, .val (undef)), (48, .val (undef)), (46, .val (undef)), (45, .val (.bool false)), (44, .val (.bool false)), (38, .val (.int .i64 (side k))), (43, .val (.int .i64 (x1 - x0))), (42, .val (.int .i64 x0)), (41, .val (.pointer (some ⟨B1, 0, none⟩))), (40, .val (.int .i64 x1)), (39, .val (.pointer (some ⟨B1, 2, none⟩))), (37, .val (.int .i64 k)), (1, .val (.pointer (some ⟨B1, 0, none⟩))), (2, .val (.pointer (some ⟨B1 + 1, 0, none⟩))), (3, .val (.int .i64 0)), (4, .val (.int .i64 (if k - 1 ≤ depthOf (bsize x0 y0 x1 y1) then k - 1 else depthOf (bsize x0 y0 x1 y1))))]) (ob := [(.int .i64 (IntKind.i64.wrap (k + 1)) : Value) = (.int .i64 (k + 1) : Value)]) (fun B => by as_aux_lemma => kernel_rfl) rfl (Ao (wr (by omega))) ?_
      clear hf; intro a hf
      refine wpList_nil ?_
      have hf := hf.prune [1, 2, 3, 4, 5]
      replace hf : Fr 74 [(1, .val (.pointer (some ⟨B1, 0, none⟩))), (2, .val (.pointer (some ⟨B1 + 1, 0, none⟩))), (3, .val (.int .i64 0)), (4, .val (.int .i64 (if k - 1 ≤ depthOf (bsize x0 y0 x1 y1) then k - 1 else depthOf (bsize x0 y0 x1 y1)))), (5, .val (.int .i64 (k + 1)))] a := hf
      refine hL1 _ _ _ (by omega) ⟨k + 1, rfl, hf.conv (Ac rfl (Ac rfl (Ac rfl (Ac (by congr 1; have hbs := bsize_spec x0 y0 x1 y1; have hsk := hsk (by omega); repeat' split <;> omega) (Ao rfl))))), hM, hk0, (by omega)⟩
  · have hc3r := hc3
    try simp only [Bool.or_eq_true, Bool.and_eq_true, Bool.not_eq_true', Bool.not_eq_false', Bool.or_eq_false_iff, Bool.and_eq_false_iff, decide_eq_true_eq, decide_eq_false_iff_not, beq_iff_eq, bne_iff_ne, beq_eq_false_iff_ne, bne_eq_false_iff_eq, Bool.and_true, Bool.true_and, ne_eq] at hc3
    refine wp_exit ?_
    refine hK7 _ _ ?_
    refine wp_seq_k (fun K13 hK13 => ?_)
    refine sxdraw2 [] [B1 + 1] [(0, true), (1, true), (2, true), (3, true), (4, true), (5, true), (7, true), (9, true), (10, true), (11, true), (12, true), (13, true), (15, true), (6, false), (8, false), (14, false), (16, false), (17, true)] [(18, false), (19, true)] [0, 1, 2, 3, 4, 5, 6, 7, 8, 9, 10, 11, 12, 13, 14, 15, 16, 17] (by kernel_rfl) (by kernel_rfl) (by as_aux_lemma => kernel_rfl) rfl (by as_aux_lemma => kernel_rfl) (by kernel_rfl) (by as_aux_lemma => kernel_rfl) (by kernel_rfl) ?_
    replace hM := hM.drew; replace hk0 := hk0.drew
    have hkd := hk0
    have hC : Keep (Is []) w7.drew w7.drew := Keep.refl _ _
    have hM0 := hM
    have hMr := hM
    refine sc0 hf hMr (by intro k _ h; cases h) hC [71, 69, 63, 61, 56, 2, 3] [{}, {}, { os := [.ld 0 0] }, {}, { os := [.ld 0 2] }, { hint := some (.int .i64 (x0 + x1)) }, {}, {}, { os := [.ld 0 1] }, {}, { os := [.ld 0 3] }, { hint := some (.int .i64 (y0 + y1)) }, {}] (env' := [(71, .val (.int .i64 (if k - 1 ≤ depthOf (bsize x0 y0 x1 y1) then k - 1 else depthOf (bsize x0 y0 x1 y1)))), (69, .val (.int .i64 (y0 + y1))), (63, .val (.int .i64 (if k - 1 ≤ depthOf (bsize x0 y0 x1 y1) then k - 1 else depthOf (bsize x0 y0 x1 y1)))), (61, .val (.int .i64 (x0 + x1))), (56, .val (.int .i64 (if k - 1 ≤ depthOf (bsize x0 y0 x1 y1) then k - 1 else depthOf (bsize x0 y0 x1 y1)))), (2, .val (.pointer (some ⟨B1 + 1, 0, none⟩))), (3, .val (.int .i64 0))]) (ob := [Ad B1 0, Ad B1 2, (.int .i64 (IntKind.i64.wrap (x0 + x1)) : Value) = (.int .i64 (x0 + x1) : Value), Ad B1 1, Ad B1 3, (.int .i64 (IntKind.i64.wrap (y0 + y1)) : Value) = (.int .i64 (y0 + y1) : Value)]) (by as_aux_lemma => kernel_rfl) rfl (Ac (ad _ _) (Ac (ad _ _) (Ac (wr (by omega)) (Ac (ad _ _) (Ac (ad _ _) (Ao (wr (by omega)))))))) ?_
    clear hf; intro a hf
    have hM := MemOk.nil w7.drew
    refine sccall rfl hf rfl rfl rfl rfl (g := 42) (vs := [.int .i64 (x0 + x1)]) (ob := []) (by as_aux_lemma => kernel_rfl) An enters42 (half_any (x0 + x1) w7.drew  (by omega)) (by rintro _ _ ⟨rfl, hk⟩; exact hC.trans hk.nn) ?_
    clear hf; rintro _ w11 a ⟨rfl, hk⟩ hf
    have hM := hM.keepNn hk
    have hC := hC.trans hk.nn
    have hk0 := hk0.trans hk.nn
    clear hk
    have hM := MemOk.nil w11
    refine sccall rfl hf rfl rfl rfl rfl (g := 41) (vs := [.int .i64 ((x0 + x1) / 2), .int .i64 (if k - 1 ≤ depthOf (bsize x0 y0 x1 y1) then k - 1 else depthOf (bsize x0 y0 x1 y1))]) (ob := []) (by as_aux_lemma => kernel_rfl) An enters41 (column_any ((x0 + x1) / 2) (if k - 1 ≤ depthOf (bsize x0 y0 x1 y1) then k - 1 else depthOf (bsize x0 y0 x1 y1)) w11  (by omega) (by omega)) (by rintro _ _ ⟨rfl, hk⟩; exact hC.trans hk.nn) ?_
    clear hf; rintro _ w12 a ⟨rfl, hk⟩ hf
    have hM := hM.keepNn hk
    have hC := hC.trans hk.nn
    have hk0 := hk0.trans hk.nn
    clear hk
    have hM := MemOk.nil w12
    refine sccall rfl hf rfl rfl rfl rfl (g := 42) (vs := [.int .i64 (y0 + y1)]) (ob := []) (by as_aux_lemma => kernel_rfl) An enters42 (half_any (y0 + y1) w12  (by omega)) (by rintro _ _ ⟨rfl, hk⟩; exact hC.trans hk.nn) ?_
    clear hf; rintro _ w13 a ⟨rfl, hk⟩ hf
    have hM := hM.keepNn hk
    have hC := hC.trans hk.nn
    have hk0 := hk0.trans hk.nn
    clear hk
    have hM := MemOk.nil w13
    refine sccall rfl hf rfl rfl rfl rfl (g := 41) (vs := [.int .i64 ((y0 + y1) / 2), .int .i64 (if k - 1 ≤ depthOf (bsize x0 y0 x1 y1) then k - 1 else depthOf (bsize x0 y0 x1 y1))]) (ob := []) (by as_aux_lemma => kernel_rfl) An enters41 (column_any ((y0 + y1) / 2) (if k - 1 ≤ depthOf (bsize x0 y0 x1 y1) then k - 1 else depthOf (bsize x0 y0 x1 y1)) w13  (by omega) (by omega)) (by rintro _ _ ⟨rfl, hk⟩; exact hC.trans hk.nn) ?_
    clear hf; rintro _ w14 a ⟨rfl, hk⟩ hf
    have hM := hM.keepNn hk
    have hC := hC.trans hk.nn
    have hk0 := hk0.trans hk.nn
    clear hk
    refine sc0 hf hMr (by intro k _ h; cases h) hC [73, 2, 3] [{ sp := true }] (env' := [(73, .val (.agg #[.int .i64 (if k - 1 ≤ depthOf (bsize x0 y0 x1 y1) then k - 1 else depthOf (bsize x0 y0 x1 y1)), .int .i64 (colOf ((x0 + x1) / 2) (if k - 1 ≤ depthOf (bsize x0 y0 x1 y1) then k - 1 else depthOf (bsize x0 y0 x1 y1))), .int .i64 (colOf ((y0 + y1) / 2) (if k - 1 ≤ depthOf (bsize x0 y0 x1 y1) then k - 1 else depthOf (bsize x0 y0 x1 y1)))])), (2, .val (.pointer (some ⟨B1 + 1, 0, none⟩))), (3, .val (.int .i64 0))]) (ob := []) (by as_aux_lemma => kernel_rfl) rfl An ?_
    clear hf; intro a hf
    have hM : MemOk [⟨B1, 42, [.int .i64 x0, .int .i64 y0, .int .i64 x1, .int .i64 y1]⟩, ⟨B1 + 1, 47, [.int .i64 0, .int .i64 0, .int .i64 0]⟩] w14 := hMr.keep hC (by intro _ _ h; cases h)
    clear hMr hM0 hC hkd; refine sxnext ?_
    have hkd := hk0
    have hC : Keep (Is [B1 + 1]) w14 w14 := Keep.refl _ _
    have hM0 := hM
    have hMr : MemOk [⟨B1, 42, [.int .i64 x0, .int .i64 y0, .int .i64 x1, .int .i64 y1]⟩] w14 := hM.sub (.cons_cons _ (.cons _ .slnil))
    have hMs : MemOk [⟨B1 + 1, 47, [.int .i64 0, .int .i64 0, .int .i64 0]⟩] w14 := hM.sub (.cons _ (.cons_cons _ .slnil))
    have hnd := hM.nd; simp only [Mem.names, List.map_cons, List.map_nil, List.nodup_cons, List.mem_cons, List.not_mem_nil, or_false, not_or, not_false_eq_true, List.nodup_nil, and_true] at hnd
    refine sc1 rfl hf hMs (by intro k hk; exact hk) hC [2, 3] { os := [.st 0 0, .st 0 1, .st 0 2] } (env' := fun B20 => [(2, .val (.pointer (some ⟨B1 + 1, 0, none⟩))), (3, .val (.int .i64 0))]) (M' := fun B20 => [⟨B1 + 1, 47, [.int .i64 (if k - 1 ≤ depthOf (bsize x0 y0 x1 y1) then k - 1 else depthOf (bsize x0 y0 x1 y1)), .int .i64 (colOf ((x0 + x1) / 2) (if k - 1 ≤ depthOf (bsize x0 y0 x1 y1) then k - 1 else depthOf (bsize x0 y0 x1 y1))), .int .i64 (colOf ((y0 + y1) / 2) (if k - 1 ≤ depthOf (bsize x0 y0 x1 y1) then k - 1 else depthOf (bsize x0 y0 x1 y1)))]⟩]) (ob := fun B20 => [Ad (B1 + 1) 0, Ad (B1 + 1) 1, Ad (B1 + 1) 2]) (fun B => by as_aux_lemma => kernel_rfl) (fun B20 => (Ac (ad _ _) (Ac (ad _ _) (Ao (ad _ _))))) ?_
    clear hf hMs; intro a w15 B20 hf hMs hB hk hC
    have hk0 := hk0.then hk (by intro i hi h; simp only [Is, Mem.names, List.map_cons, List.map_nil, List.mem_cons, List.not_mem_nil, or_false] at h; omega)
    clear hk
    clear hB
    refine sc0 hf hMr (by intro k hk h; simp only [Is, Mem.names, List.map_cons, List.map_nil, List.mem_cons, List.not_mem_nil, or_false] at hk h; omega) hC [3, 2] [{}] (env' := [(3, .val (.int .i64 0)), (2, .val (.pointer (some ⟨B1 + 1, 0, none⟩)))]) (ob := []) (by as_aux_lemma => kernel_rfl) rfl An ?_
    clear hf; intro a hf
    have hM : MemOk [⟨B1, 42, [.int .i64 x0, .int .i64 y0, .int .i64 x1, .int .i64 y1]⟩, ⟨B1 + 1, 47, [.int .i64 (if k - 1 ≤ depthOf (bsize x0 y0 x1 y1) then k - 1 else depthOf (bsize x0 y0 x1 y1)), .int .i64 (colOf ((x0 + x1) / 2) (if k - 1 ≤ depthOf (bsize x0 y0 x1 y1) then k - 1 else depthOf (bsize x0 y0 x1 y1))), .int .i64 (colOf ((y0 + y1) / 2) (if k - 1 ≤ depthOf (bsize x0 y0 x1 y1) then k - 1 else depthOf (bsize x0 y0 x1 y1)))]⟩] w15 := hM0.merge (hMr.keep hC (by intro k hk h; simp only [Is, Mem.names, List.map_cons, List.map_nil, List.mem_cons, List.not_mem_nil, or_false] at hk h; omega)) hMs rfl (by intro b hb; simp only [List.mem_cons, List.not_mem_nil, or_false] at hb ⊢; first | (rcases hb with rfl | rfl <;> simp) | (rcases hb with rfl | rfl | rfl <;> simp) | (rcases hb with rfl | rfl | rfl | rfl <;> simp) | (rcases hb with rfl | rfl | rfl | rfl | rfl <;> simp) | (rcases hb with rfl | rfl | rfl | rfl | rfl | rfl <;> simp))
    clear hMr hC hkd hMs hnd
    show K13 _ _
    refine hK13 _ _ ?_
    refine wp_ret ?_
    refine sxret (fn := Tryd.f17) hf hM [.ld 1 0, .ld 1 1, .ld 1 2] (l := [.agg #[.int .i64 (if k - 1 ≤ depthOf (bsize x0 y0 x1 y1) then k - 1 else depthOf (bsize x0 y0 x1 y1)), .int .i64 (colOf ((x0 + x1) / 2) (if k - 1 ≤ depthOf (bsize x0 y0 x1 y1) then k - 1 else depthOf (bsize x0 y0 x1 y1))), .int .i64 (colOf ((y0 + y1) / 2) (if k - 1 ≤ depthOf (bsize x0 y0 x1 y1) then k - 1 else depthOf (bsize x0 y0 x1 y1)))], .int .i64 0]) (M' := [⟨B1, 42, [.int .i64 x0, .int .i64 y0, .int .i64 x1, .int .i64 y1]⟩, ⟨B1 + 1, 47, [.int .i64 (if k - 1 ≤ depthOf (bsize x0 y0 x1 y1) then k - 1 else depthOf (bsize x0 y0 x1 y1)), .int .i64 (colOf ((x0 + x1) / 2) (if k - 1 ≤ depthOf (bsize x0 y0 x1 y1) then k - 1 else depthOf (bsize x0 y0 x1 y1))), .int .i64 (colOf ((y0 + y1) / 2) (if k - 1 ≤ depthOf (bsize x0 y0 x1 y1) then k - 1 else depthOf (bsize x0 y0 x1 y1)))]⟩]) (d' := false) (ob := [Ad (B1 + 1) 0, Ad (B1 + 1) 1, Ad (B1 + 1) 2]) (by kernel_rfl) (fun B => ⟨B, by as_aux_lemma => kernel_rfl⟩) rfl (Ac (ad _ _) (Ac (ad _ _) (Ao (ad _ _)))) ?_
    show (.tuple #[.agg #[.int .i64 (if k - 1 ≤ depthOf (bsize x0 y0 x1 y1) then k - 1 else depthOf (bsize x0 y0 x1 y1)), .int .i64 (colOf ((x0 + x1) / 2) (if k - 1 ≤ depthOf (bsize x0 y0 x1 y1) then k - 1 else depthOf (bsize x0 y0 x1 y1))), .int .i64 (colOf ((y0 + y1) / 2) (if k - 1 ≤ depthOf (bsize x0 y0 x1 y1) then k - 1 else depthOf (bsize x0 y0 x1 y1)))], .int .i64 0] : Value) = .tuple #[.agg #[.int .i64 (depthOf (bsize x0 y0 x1 y1)), .int .i64 (colOf ((x0 + x1) / 2) (depthOf (bsize x0 y0 x1 y1))), .int .i64 (colOf ((y0 + y1) / 2) (depthOf (bsize x0 y0 x1 y1)))], .int .i64 0] ∧ Keep Nn w w15
    have hdd : (if k - 1 ≤ depthOf (bsize x0 y0 x1 y1) then k - 1 else depthOf (bsize x0 y0 x1 y1)) = depthOf (bsize x0 y0 x1 y1) := by split <;> omega
    rw [hdd]
    exact ⟨rfl, hk0⟩
end Go.Proofs.YtkcpadkllhgmdaaDoor
