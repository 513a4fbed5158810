/- layer 6: boxes, by the document -/
import Derived.Test.YtifcgjnknikjkaaDoorC5
namespace Go.Proofs.YtifcgjnknikjkaaDoor
open Go.Px
set_option linter.unusedVariables false
set_option linter.unusedSimpArgs false
theorem enters43 : enters Tryd.prog 43 := ⟨_, Tryd.func43, by kernel_rfl, rfl⟩
theorem enters44 : enters Tryd.prog 44 := ⟨_, Tryd.func44, by kernel_rfl, rfl⟩
theorem enters78 : enters Tryd.prog 78 := ⟨_, Tryd.func78, by kernel_rfl, rfl⟩
theorem enters95 : enters Tryd.prog 95 := ⟨_, Tryd.func95, by kernel_rfl, rfl⟩

set_option maxRecDepth 10000 in
set_option maxHeartbeats 4000000 in
theorem r1in (n m : Int) (w : World) (hm : 0 ≤ m ∧ m ≤ 4611686018427387904) :
    Calls Tryd.prog 95 #[.int .i64 n, .int .i64 m] w (Ret fun v w' => v = .bool (within n m) ∧ Keep Nn w w') := by
  refine sxenter (n := 14) (args := [.int .i64 n, .int .i64 m]) Tryd.func95 rfl rfl rfl fun a hf => ?_
  replace hf : Fr 14 [(0, .val (.int .i64 n)), (1, .val (.int .i64 m))] a := hf
  have hM : MemOk [] w := MemOk.nil w
  have hk0 : Keep Nn w w := Keep.refl _ _
  refine wp_seq_k (fun K1 hK1 => ?_)
  refine wp_region_lit ?_
  refine sr0 hf hM [0, 1] [{}] (env' := [(0, .val (.int .i64 n)), (1, .val (.int .i64 m))]) (ob := []) (fun B => by as_aux_lemma => kernel_rfl) rfl An ?_
  clear hf; intro a hf
  refine wpList_nil ?_
  refine hK1 _ _ ?_
  refine wp_seq_k (fun K2 hK2 => ?_)
  refine wp_region_lit ?_
  refine sr0 hf hM [4] [{}, {}, {}, {}, { g := .sym }, { g := .sym, hint := some (.int .i64 (0 - m)) }, { g := .sym }, { g := .sym }, { hint := some (.bool ((decide ((n : Int) ≤ m)) && (decide (((0 - m) : Int) ≤ n)))) }, {}] (env' := [(4, .val (.bool ((decide ((n : Int) ≤ m)) && (decide (((0 - m) : Int) ≤ n)))))]) (ob := [((decide ((n : Int) ≤ m)) = true → (decide ((n : Int) ≤ m)) = (decide ((n : Int) ≤ m))), ((decide ((n : Int) ≤ m)) = true → (.int .i64 (IntKind.i64.wrap (0 - m)) : Value) = (.int .i64 (0 - m) : Value)), ((decide ((n : Int) ≤ m)) = true → (decide ((n : Int) ≤ m)) = (decide ((n : Int) ≤ m))), ((decide ((n : Int) ≤ m)) = true → (decide ((n : Int) ≤ m)) = (decide ((n : Int) ≤ m))), ((decide ((n : Int) ≤ m)) = true → (decide ((n : Int) ≤ m)) = (decide ((n : Int) ≤ m))), (bif (decide ((n : Int) ≤ m)) then (.bool (decide (((0 - m) : Int) ≤ n)) : Value) else .bool false) = .bool ((decide ((n : Int) ≤ m)) && (decide (((0 - m) : Int) ≤ n)))]) (fun B => by as_aux_lemma => kernel_rfl) rfl (Ac (fun hgd => rfl) (Ac (fun hgd => (wr (by omega))) (Ac (fun hgd => rfl) (Ac (fun hgd => rfl) (Ac (fun _ => rfl) (Ao (pick_and _ _))))))) ?_
  clear hf; intro a hf
  refine wpList_nil ?_
  refine hK2 _ _ ?_
  refine wp_ret ?_
  refine sxret (fn := Tryd.f95) hf hM [] (l := [.bool ((decide ((n : Int) ≤ m)) && (decide (((0 - m) : Int) ≤ n)))]) (M' := []) (d' := false) (ob := []) (by kernel_rfl) (fun B => ⟨B, by as_aux_lemma => kernel_rfl⟩) rfl An ?_
  show (.bool ((decide ((n : Int) ≤ m)) && (decide (((0 - m) : Int) ≤ n))) : Value) = .bool (within n m) ∧ Keep Nn w w
  refine ⟨congrArg Value.bool ?_, hk0⟩
  rw [Bool.eq_iff_iff]
  simp only [within, Bool.or_eq_true, Bool.and_eq_true, Bool.not_eq_true', Bool.not_eq_false', Bool.or_eq_false_iff, Bool.and_eq_false_iff, decide_eq_true_eq, decide_eq_false_iff_not, beq_iff_eq, Bool.false_eq_true, Bool.true_eq_false, false_iff, true_iff, iff_true, iff_false, not_true, not_false_iff, true_and, and_true, false_and, and_false, ge_iff_le, gt_iff_lt] at *
  try omega

set_option maxRecDepth 10000 in
set_option maxHeartbeats 4000000 in
theorem r1of_ok (px py hx hy : Int) (w : World) (hn0 : (ofOk px py hx hy) = true) :
    Calls Tryd.prog 78 #[.agg #[.int .i64 px, .int .i64 py], .agg #[.int .i64 hx, .int .i64 hy]] w (Ret fun v w' => v = .tuple #[.agg #[.int .i64 (px - hx), .int .i64 (py - hy), .int .i64 (px + hx), .int .i64 (py + hy)], .bool true] ∧ Keep Nn w w') := by
  refine sxenter (n := 60) (args := [.agg #[.int .i64 px, .int .i64 py], .agg #[.int .i64 hx, .int .i64 hy]]) Tryd.func78 rfl rfl rfl fun a hf => ?_
  replace hf : Fr 60 [(0, .val (.agg #[.int .i64 px, .int .i64 py])), (1, .val (.agg #[.int .i64 hx, .int .i64 hy]))] a := hf
  have hM : MemOk [] w := MemOk.nil w
  have hk0 : Keep Nn w w := Keep.refl _ _
  have hb := of_decide_eq_true hn0
  have h0 : within px 1048576 = true := by simp [within]; omega
  have h1 : within py 1048576 = true := by simp [within]; omega
  have h2 : within hx 1048576 = true := by simp [within]; omega
  have h3 : within hy 1048576 = true := by simp [within]; omega
  refine wp_seq_k (fun K1 hK1 => ?_)
  refine wp_region_lit ?_
  refine sr hf hM [4, 3, 2] [{ os := [.nw] }, { os := [.nw] }, { os := [.nw] }, {}] (env' := fun B1 => [(4, .val (.pointer (some ⟨B1 + 2, 0, none⟩))), (3, .val (.pointer (some ⟨B1 + 1, 0, none⟩))), (2, .val (.pointer (some ⟨B1, 0, none⟩)))]) (M' := fun B1 => [⟨B1, 114, [.int .i64 px, .int .i64 py]⟩, ⟨B1 + 1, 114, [.int .i64 hx, .int .i64 hy]⟩, ⟨B1 + 2, 50, [.int .i64 0, .int .i64 0, .int .i64 0, .int .i64 0]⟩]) (ob := fun B1 => []) (fun B => by as_aux_lemma => kernel_rfl) (fun B1 => An) ?_
  clear hf hM; intro a w1 B1 hf hM hB hk
  have hbB1 : w.heap.size ≤ B1 := by have := hk0.size; omega
  have hk0 := hk0.then hk (by intro i _ h; cases h)
  clear hk hB
  refine wpList_nil ?_
  refine hK1 _ _ ?_
  refine wp_seq_k (fun K2 hK2 => ?_)
  refine wp_seq_k (fun K3 hK3 => ?_)
  refine wp_region_lit ?_
  refine sr0 hf hM [7, 4, 3, 2] [{}, { os := [.ld 0 0] }] (env' := [(7, .val (.int .i64 px)), (4, .val (.pointer (some ⟨B1 + 2, 0, none⟩))), (3, .val (.pointer (some ⟨B1 + 1, 0, none⟩))), (2, .val (.pointer (some ⟨B1, 0, none⟩)))]) (ob := [Ad B1 0]) (fun B => by as_aux_lemma => kernel_rfl) rfl (Ao (ad _ _)) ?_
  clear hf; intro a hf
  refine sxcall hf rfl rfl rfl rfl (g := 95) (vs := [.int .i64 px, .int .i64 1048576]) (ob := []) (by as_aux_lemma => kernel_rfl) An enters95 (r1in px 1048576 w1  (by omega)) ?_
  clear hf; rintro _ w2 a ⟨rfl, hk⟩ hf
  have hM := hM.keepNn hk
  have hk0 := hk0.trans hk.nn
  clear hk
  refine sr0 hf hM [10, 4, 3, 2] [{}, {}] (env' := [(10, .val (.bool (!(within px 1048576)))), (4, .val (.pointer (some ⟨B1 + 2, 0, none⟩))), (3, .val (.pointer (some ⟨B1 + 1, 0, none⟩))), (2, .val (.pointer (some ⟨B1, 0, none⟩)))]) (ob := []) (fun B => by as_aux_lemma => kernel_rfl) rfl An ?_
  clear hf; intro a hf
  have hf := hf.prune [10, 4, 3, 2]
  replace hf : Fr 60 [(10, .val (.bool (!(within px 1048576)))), (4, .val (.pointer (some ⟨B1 + 2, 0, none⟩))), (3, .val (.pointer (some ⟨B1 + 1, 0, none⟩))), (2, .val (.pointer (some ⟨B1, 0, none⟩)))] a := hf
  replace hf := hf.conv (env' := [(10, .val (.bool false)), (4, .val (.pointer (some ⟨B1 + 2, 0, none⟩))), (3, .val (.pointer (some ⟨B1 + 1, 0, none⟩))), (2, .val (.pointer (some ⟨B1, 0, none⟩)))]) (Ac (congrArg Value.bool (by simp [h0] : (!(within px 1048576) : Bool) = false)) (Ac rfl (Ac rfl (Ao rfl))))
  refine sr0 hf hM [12, 10, 4, 3, 2] [{}, { os := [.ld 0 1] }] (env' := [(12, .val (.int .i64 py)), (10, .val (.bool false)), (4, .val (.pointer (some ⟨B1 + 2, 0, none⟩))), (3, .val (.pointer (some ⟨B1 + 1, 0, none⟩))), (2, .val (.pointer (some ⟨B1, 0, none⟩)))]) (ob := [false = false, false = false, Ad B1 1]) (fun B => by as_aux_lemma => kernel_rfl) rfl (Ac rfl (Ac rfl (Ao (ad _ _)))) ?_
  clear hf; intro a hf
  refine sxcallg hf rfl rfl rfl rfl rfl (g := 95) (vs := [.int .i64 py, .int .i64 1048576]) (ob := []) (by as_aux_lemma => kernel_rfl) An enters95 (r1in py 1048576 w2  (by omega)) ?_
  clear hf; rintro _ w3 a ⟨rfl, hk⟩ hf
  have hM := hM.keepNn hk
  have hk0 := hk0.trans hk.nn
  clear hk
  refine sr0 hf hM [16, 4, 3, 2] [{}, {}, {}] (env' := [(16, .val (.bool (!(within py 1048576)))), (4, .val (.pointer (some ⟨B1 + 2, 0, none⟩))), (3, .val (.pointer (some ⟨B1 + 1, 0, none⟩))), (2, .val (.pointer (some ⟨B1, 0, none⟩)))]) (ob := [false = false]) (fun B => by as_aux_lemma => kernel_rfl) rfl (Ao rfl) ?_
  clear hf; intro a hf
  have hf := hf.prune [16, 4, 3, 2]
  replace hf : Fr 60 [(16, .val (.bool (!(within py 1048576)))), (4, .val (.pointer (some ⟨B1 + 2, 0, none⟩))), (3, .val (.pointer (some ⟨B1 + 1, 0, none⟩))), (2, .val (.pointer (some ⟨B1, 0, none⟩)))] a := hf
  replace hf := hf.conv (env' := [(16, .val (.bool false)), (4, .val (.pointer (some ⟨B1 + 2, 0, none⟩))), (3, .val (.pointer (some ⟨B1 + 1, 0, none⟩))), (2, .val (.pointer (some ⟨B1, 0, none⟩)))]) (Ac (congrArg Value.bool (by simp [h1] : (!(within py 1048576) : Bool) = false)) (Ac rfl (Ac rfl (Ao rfl))))
  refine sr0 hf hM [18, 16, 4, 3, 2] [{}, { os := [.ld 1 0] }] (env' := [(18, .val (.int .i64 hx)), (16, .val (.bool false)), (4, .val (.pointer (some ⟨B1 + 2, 0, none⟩))), (3, .val (.pointer (some ⟨B1 + 1, 0, none⟩))), (2, .val (.pointer (some ⟨B1, 0, none⟩)))]) (ob := [false = false, false = false, Ad (B1 + 1) 0]) (fun B => by as_aux_lemma => kernel_rfl) rfl (Ac rfl (Ac rfl (Ao (ad _ _)))) ?_
  clear hf; intro a hf
  refine sxcallg hf rfl rfl rfl rfl rfl (g := 95) (vs := [.int .i64 hx, .int .i64 1048576]) (ob := []) (by as_aux_lemma => kernel_rfl) An enters95 (r1in hx 1048576 w3  (by omega)) ?_
  clear hf; rintro _ w4 a ⟨rfl, hk⟩ hf
  have hM := hM.keepNn hk
  have hk0 := hk0.trans hk.nn
  clear hk
  refine sr0 hf hM [22, 4, 3, 2] [{}, {}, {}] (env' := [(22, .val (.bool (!(within hx 1048576)))), (4, .val (.pointer (some ⟨B1 + 2, 0, none⟩))), (3, .val (.pointer (some ⟨B1 + 1, 0, none⟩))), (2, .val (.pointer (some ⟨B1, 0, none⟩)))]) (ob := [false = false]) (fun B => by as_aux_lemma => kernel_rfl) rfl (Ao rfl) ?_
  clear hf; intro a hf
  have hf := hf.prune [22, 4, 3, 2]
  replace hf : Fr 60 [(22, .val (.bool (!(within hx 1048576)))), (4, .val (.pointer (some ⟨B1 + 2, 0, none⟩))), (3, .val (.pointer (some ⟨B1 + 1, 0, none⟩))), (2, .val (.pointer (some ⟨B1, 0, none⟩)))] a := hf
  replace hf := hf.conv (env' := [(22, .val (.bool false)), (4, .val (.pointer (some ⟨B1 + 2, 0, none⟩))), (3, .val (.pointer (some ⟨B1 + 1, 0, none⟩))), (2, .val (.pointer (some ⟨B1, 0, none⟩)))]) (Ac (congrArg Value.bool (by simp [h2] : (!(within hx 1048576) : Bool) = false)) (Ac rfl (Ac rfl (Ao rfl))))
  refine sr0 hf hM [24, 22, 4, 3, 2] [{}, { os := [.ld 1 1] }] (env' := [(24, .val (.int .i64 hy)), (22, .val (.bool false)), (4, .val (.pointer (some ⟨B1 + 2, 0, none⟩))), (3, .val (.pointer (some ⟨B1 + 1, 0, none⟩))), (2, .val (.pointer (some ⟨B1, 0, none⟩)))]) (ob := [false = false, false = false, Ad (B1 + 1) 1]) (fun B => by as_aux_lemma => kernel_rfl) rfl (Ac rfl (Ac rfl (Ao (ad _ _)))) ?_
  clear hf; intro a hf
  refine sxcallg hf rfl rfl rfl rfl rfl (g := 95) (vs := [.int .i64 hy, .int .i64 1048576]) (ob := []) (by as_aux_lemma => kernel_rfl) An enters95 (r1in hy 1048576 w4  (by omega)) ?_
  clear hf; rintro _ w5 a ⟨rfl, hk⟩ hf
  have hM := hM.keepNn hk
  have hk0 := hk0.trans hk.nn
  clear hk
  refine sr0 hf hM [28, 4, 3, 2] [{}, {}, {}] (env' := [(28, .val (.bool (!(within hy 1048576)))), (4, .val (.pointer (some ⟨B1 + 2, 0, none⟩))), (3, .val (.pointer (some ⟨B1 + 1, 0, none⟩))), (2, .val (.pointer (some ⟨B1, 0, none⟩)))]) (ob := [false = false]) (fun B => by as_aux_lemma => kernel_rfl) rfl (Ao rfl) ?_
  clear hf; intro a hf
  have hf := hf.prune [28, 4, 3, 2]
  replace hf : Fr 60 [(28, .val (.bool (!(within hy 1048576)))), (4, .val (.pointer (some ⟨B1 + 2, 0, none⟩))), (3, .val (.pointer (some ⟨B1 + 1, 0, none⟩))), (2, .val (.pointer (some ⟨B1, 0, none⟩)))] a := hf
  replace hf := hf.conv (env' := [(28, .val (.bool false)), (4, .val (.pointer (some ⟨B1 + 2, 0, none⟩))), (3, .val (.pointer (some ⟨B1 + 1, 0, none⟩))), (2, .val (.pointer (some ⟨B1, 0, none⟩)))]) (Ac (congrArg Value.bool (by simp [h3] : (!(within hy 1048576) : Bool) = false)) (Ac rfl (Ac rfl (Ao rfl))))
  refine sr0 hf hM [37, 4, 3, 2] [{}, { os := [.ld 1 0] }, {}, {}, {}, { g := .sym }, { g := .sym, os := [.ld 1 1] }, { g := .sym }, { hint := some (.bool ((decide ((hx : Int) < 0)) || (decide ((hy : Int) < 0)))) }] (env' := [(37, .val (.bool ((decide ((hx : Int) < 0)) || (decide ((hy : Int) < 0))))), (4, .val (.pointer (some ⟨B1 + 2, 0, none⟩))), (3, .val (.pointer (some ⟨B1 + 1, 0, none⟩))), (2, .val (.pointer (some ⟨B1, 0, none⟩)))]) (ob := [false = false, false = false, Ad (B1 + 1) 0, false = false, ((decide ((hx : Int) < 0)) = false → (decide ((hx : Int) < 0)) = (decide ((hx : Int) < 0))), ((decide ((hx : Int) < 0)) = false → Ad (B1 + 1) 1), ((decide ((hx : Int) < 0)) = false → (decide ((hx : Int) < 0)) = (decide ((hx : Int) < 0))), ((decide ((hx : Int) < 0)) = false → (decide ((hx : Int) < 0)) = (decide ((hx : Int) < 0))), (bif (decide ((hx : Int) < 0)) then (.bool true : Value) else .bool (decide ((hy : Int) < 0))) = .bool ((decide ((hx : Int) < 0)) || (decide ((hy : Int) < 0)))]) (fun B => by as_aux_lemma => kernel_rfl) rfl (Ac rfl (Ac rfl (Ac (ad _ _) (Ac rfl (Ac (fun hgd => rfl) (Ac (fun hgd => ad _ _) (Ac (fun hgd => rfl) (Ac (fun _ => rfl) (Ao (pick_or _ _)))))))))) ?_
  clear hf; intro a hf
  refine wpList_nil ?_
  refine hK3 _ _ ?_
  refine sxcond hf (b := ((decide ((hx : Int) < 0)) || (decide ((hy : Int) < 0)))) (by kernel_rfl) (fun hc1 => ?_) (fun hc1 => ?_)
  · have hc1r := hc1
    try simp only [Bool.or_eq_true, Bool.and_eq_true, Bool.not_eq_true', Bool.not_eq_false', Bool.or_eq_false_iff, Bool.and_eq_false_iff, decide_eq_true_eq, decide_eq_false_iff_not, beq_iff_eq, bne_iff_ne, beq_eq_false_iff_ne, bne_eq_false_iff_eq, Bool.and_true, Bool.true_and, ne_eq] at hc1
    exfalso; omega
  · have hc1r := hc1
    try simp only [Bool.or_eq_true, Bool.and_eq_true, Bool.not_eq_true', Bool.not_eq_false', Bool.or_eq_false_iff, Bool.and_eq_false_iff, decide_eq_true_eq, decide_eq_false_iff_not, beq_iff_eq, bne_iff_ne, beq_eq_false_iff_ne, bne_eq_false_iff_eq, Bool.and_true, Bool.true_and, ne_eq] at hc1
    refine wp_skip ?_
    refine hK2 _ _ ?_
    refine wp_seq_k (fun K4 hK4 => ?_)
    refine wp_region_lit ?_
    refine sr hf hM [5, 4] [{}, { os := [.ld 0 0] }, {}, { os := [.ld 1 0] }, { hint := some (.int .i64 (px - hx)) }, {}, { os := [.ld 0 1] }, {}, { os := [.ld 1 1] }, { hint := some (.int .i64 (py - hy)) }, {}, { os := [.ld 0 0] }, {}, { os := [.ld 1 0] }, { hint := some (.int .i64 (px + hx)) }, {}, { os := [.ld 0 1] }, {}, { os := [.ld 1 1] }, { hint := some (.int .i64 (py + hy)) }, { sp := true }, { os := [.st 2 0, .st 2 1, .st 2 2, .st 2 3] }, {}] (env' := fun B11 => [(5, .val (.bool true)), (4, .val (.pointer (some ⟨B1 + 2, 0, none⟩)))]) (M' := fun B11 => [⟨B1, 114, [.int .i64 px, .int .i64 py]⟩, ⟨B1 + 1, 114, [.int .i64 hx, .int .i64 hy]⟩, ⟨B1 + 2, 50, [.int .i64 (px - hx), .int .i64 (py - hy), .int .i64 (px + hx), .int .i64 (py + hy)]⟩]) (ob := fun B11 => [Ad B1 0, Ad (B1 + 1) 0, (.int .i64 (IntKind.i64.wrap (px - hx)) : Value) = (.int .i64 (px - hx) : Value), Ad B1 1, Ad (B1 + 1) 1, (.int .i64 (IntKind.i64.wrap (py - hy)) : Value) = (.int .i64 (py - hy) : Value), Ad B1 0, Ad (B1 + 1) 0, (.int .i64 (IntKind.i64.wrap (px + hx)) : Value) = (.int .i64 (px + hx) : Value), Ad B1 1, Ad (B1 + 1) 1, (.int .i64 (IntKind.i64.wrap (py + hy)) : Value) = (.int .i64 (py + hy) : Value), Ad (B1 + 2) 0, Ad (B1 + 2) 1, Ad (B1 + 2) 2, Ad (B1 + 2) 3]) (fun B => by as_aux_lemma => kernel_rfl) (fun B11 => (Ac (ad _ _) (Ac (ad _ _) (Ac (wr (by omega)) (Ac (ad _ _) (Ac (ad _ _) (Ac (wr (by omega)) (Ac (ad _ _) (Ac (ad _ _) (Ac (wr (by omega)) (Ac (ad _ _) (Ac (ad _ _) (Ac (wr (by omega)) (Ac (ad _ _) (Ac (ad _ _) (Ac (ad _ _) (Ao (ad _ _)))))))))))))))))) ?_
    clear hf hM; intro a w6 B11 hf hM hB hk
    have hbB11 : w.heap.size ≤ B11 := by have := hk0.size; omega
    have hk0 := hk0.then hk (by intro i hi h; simp only [Is, Mem.names, List.map_cons, List.map_nil, List.mem_cons, List.not_mem_nil, or_false] at h; omega)
    clear hk hB
    refine wpList_nil ?_
    refine hK4 _ _ ?_
    refine wp_ret ?_
    refine sxret (fn := Tryd.f78) hf hM [.ld 2 0, .ld 2 1, .ld 2 2, .ld 2 3] (l := [.agg #[.int .i64 (px - hx), .int .i64 (py - hy), .int .i64 (px + hx), .int .i64 (py + hy)], .bool true]) (M' := [⟨B1, 114, [.int .i64 px, .int .i64 py]⟩, ⟨B1 + 1, 114, [.int .i64 hx, .int .i64 hy]⟩, ⟨B1 + 2, 50, [.int .i64 (px - hx), .int .i64 (py - hy), .int .i64 (px + hx), .int .i64 (py + hy)]⟩]) (d' := false) (ob := [Ad (B1 + 2) 0, Ad (B1 + 2) 1, Ad (B1 + 2) 2, Ad (B1 + 2) 3]) (by kernel_rfl) (fun B => ⟨B, by as_aux_lemma => kernel_rfl⟩) rfl (Ac (ad _ _) (Ac (ad _ _) (Ac (ad _ _) (Ao (ad _ _))))) ?_
    show (.tuple #[.agg #[.int .i64 (px - hx), .int .i64 (py - hy), .int .i64 (px + hx), .int .i64 (py + hy)], .bool true] : Value) = .tuple #[.agg #[.int .i64 (px - hx), .int .i64 (py - hy), .int .i64 (px + hx), .int .i64 (py + hy)], .bool true] ∧ Keep Nn w w6
    first | exact ⟨rfl, hk0⟩ | (exfalso; omega)

set_option maxRecDepth 10000 in
set_option maxHeartbeats 4000000 in
theorem r1of_no (px py hx hy : Int) (w : World) (hn0 : (ofOk px py hx hy) = false) :
    Calls Tryd.prog 78 #[.agg #[.int .i64 px, .int .i64 py], .agg #[.int .i64 hx, .int .i64 hy]] w (Ret fun v w' => v = .tuple #[.agg #[.int .i64 0, .int .i64 0, .int .i64 0, .int .i64 0], .bool false] ∧ Keep Nn w w') := by
  refine sxenter (n := 60) (args := [.agg #[.int .i64 px, .int .i64 py], .agg #[.int .i64 hx, .int .i64 hy]]) Tryd.func78 rfl rfl rfl fun a hf => ?_
  replace hf : Fr 60 [(0, .val (.agg #[.int .i64 px, .int .i64 py])), (1, .val (.agg #[.int .i64 hx, .int .i64 hy]))] a := hf
  have hM : MemOk [] w := MemOk.nil w
  have hk0 : Keep Nn w w := Keep.refl _ _
  refine wp_seq_k (fun K1 hK1 => ?_)
  refine wp_region_lit ?_
  refine sr hf hM [4, 3, 2] [{ os := [.nw] }, { os := [.nw] }, { os := [.nw] }, {}] (env' := fun B1 => [(4, .val (.pointer (some ⟨B1 + 2, 0, none⟩))), (3, .val (.pointer (some ⟨B1 + 1, 0, none⟩))), (2, .val (.pointer (some ⟨B1, 0, none⟩)))]) (M' := fun B1 => [⟨B1, 114, [.int .i64 px, .int .i64 py]⟩, ⟨B1 + 1, 114, [.int .i64 hx, .int .i64 hy]⟩, ⟨B1 + 2, 50, [.int .i64 0, .int .i64 0, .int .i64 0, .int .i64 0]⟩]) (ob := fun B1 => []) (fun B => by as_aux_lemma => kernel_rfl) (fun B1 => An) ?_
  clear hf hM; intro a w1 B1 hf hM hB hk
  have hbB1 : w.heap.size ≤ B1 := by have := hk0.size; omega
  have hk0 := hk0.then hk (by intro i _ h; cases h)
  clear hk hB
  refine wpList_nil ?_
  refine hK1 _ _ ?_
  refine wp_seq_k (fun K2 hK2 => ?_)
  refine wp_seq_k (fun K3 hK3 => ?_)
  refine wp_region_lit ?_
  refine sr0 hf hM [7, 4, 3, 2] [{}, { os := [.ld 0 0] }] (env' := [(7, .val (.int .i64 px)), (4, .val (.pointer (some ⟨B1 + 2, 0, none⟩))), (3, .val (.pointer (some ⟨B1 + 1, 0, none⟩))), (2, .val (.pointer (some ⟨B1, 0, none⟩)))]) (ob := [Ad B1 0]) (fun B => by as_aux_lemma => kernel_rfl) rfl (Ao (ad _ _)) ?_
  clear hf; intro a hf
  refine sxcall hf rfl rfl rfl rfl (g := 95) (vs := [.int .i64 px, .int .i64 1048576]) (ob := []) (by as_aux_lemma => kernel_rfl) An enters95 (r1in px 1048576 w1  (by omega)) ?_
  clear hf; rintro _ w2 a ⟨rfl, hk⟩ hf
  have hM := hM.keepNn hk
  have hk0 := hk0.trans hk.nn
  clear hk
  refine sr0 hf hM [10, 4, 3, 2] [{}, {}] (env' := [(10, .val (.bool (!(within px 1048576)))), (4, .val (.pointer (some ⟨B1 + 2, 0, none⟩))), (3, .val (.pointer (some ⟨B1 + 1, 0, none⟩))), (2, .val (.pointer (some ⟨B1, 0, none⟩)))]) (ob := []) (fun B => by as_aux_lemma => kernel_rfl) rfl An ?_
  clear hf; intro a hf
  rcases Bool.eq_false_or_eq_true (!(within px 1048576)) with hg1 | hg1
  · have hg1r := hg1
    have hf := hf.prune [10, 4, 3, 2]
    replace hf : Fr 60 [(10, .val (.bool (!(within px 1048576)))), (4, .val (.pointer (some ⟨B1 + 2, 0, none⟩))), (3, .val (.pointer (some ⟨B1 + 1, 0, none⟩))), (2, .val (.pointer (some ⟨B1, 0, none⟩)))] a := hf
    replace hf := hf.conv (env' := [(10, .val (.bool true)), (4, .val (.pointer (some ⟨B1 + 2, 0, none⟩))), (3, .val (.pointer (some ⟨B1 + 1, 0, none⟩))), (2, .val (.pointer (some ⟨B1, 0, none⟩)))]) (Ac (congrArg Value.bool hg1r) (Ac rfl (Ac rfl (Ao rfl))))
    try simp only [Bool.or_eq_true, Bool.and_eq_true, Bool.not_eq_true', Bool.not_eq_false', Bool.or_eq_false_iff, Bool.and_eq_false_iff, decide_eq_true_eq, decide_eq_false_iff_not, beq_iff_eq, bne_iff_ne, beq_eq_false_iff_ne, bne_eq_false_iff_eq, Bool.and_true, Bool.true_and, ne_eq] at hg1
    refine sr0 hf hM [12, 10, 4, 3, 2] [{ g := .off }, { g := .off }] (env' := [(12, .val (undef)), (10, .val (.bool true)), (4, .val (.pointer (some ⟨B1 + 2, 0, none⟩))), (3, .val (.pointer (some ⟨B1 + 1, 0, none⟩))), (2, .val (.pointer (some ⟨B1, 0, none⟩)))]) (ob := [true = !false, true = !false]) (fun B => by as_aux_lemma => kernel_rfl) rfl (Ac rfl (Ao rfl)) ?_
    clear hf; intro a hf
    refine sr0 hf hM [18, 16, 4, 3, 2] [{ g := .off }, { g := .off }, {}, {}, { g := .off }, { g := .off }] (env' := [(18, .val (undef)), (16, .val (.bool true)), (4, .val (.pointer (some ⟨B1 + 2, 0, none⟩))), (3, .val (.pointer (some ⟨B1 + 1, 0, none⟩))), (2, .val (.pointer (some ⟨B1, 0, none⟩)))]) (ob := [true = !false, true = !false, true = !false, true = !false]) (fun B => by as_aux_lemma => kernel_rfl) rfl (Ac rfl (Ac rfl (Ac rfl (Ao rfl)))) ?_
    clear hf; intro a hf
    refine sr0 hf hM [24, 22, 4, 3, 2] [{ g := .off }, { g := .off }, {}, {}, { g := .off }, { g := .off }] (env' := [(24, .val (undef)), (22, .val (.bool true)), (4, .val (.pointer (some ⟨B1 + 2, 0, none⟩))), (3, .val (.pointer (some ⟨B1 + 1, 0, none⟩))), (2, .val (.pointer (some ⟨B1, 0, none⟩)))]) (ob := [true = !false, true = !false, true = !false, true = !false]) (fun B => by as_aux_lemma => kernel_rfl) rfl (Ac rfl (Ac rfl (Ac rfl (Ao rfl)))) ?_
    clear hf; intro a hf
    refine sr0 hf hM [37, 4, 3, 2] [{ g := .off }, { g := .off }, {}, {}, { g := .off }, { g := .off }, { g := .off }, {}, {}, { g := .off }, { g := .off }, { g := .off }, {}] (env' := [(37, .val (.bool true)), (4, .val (.pointer (some ⟨B1 + 2, 0, none⟩))), (3, .val (.pointer (some ⟨B1 + 1, 0, none⟩))), (2, .val (.pointer (some ⟨B1, 0, none⟩)))]) (ob := [true = !false, true = !false, true = !false, true = !false, true = !false, true = !false, true = !false, true = !false]) (fun B => by as_aux_lemma => kernel_rfl) rfl (Ac rfl (Ac rfl (Ac rfl (Ac rfl (Ac rfl (Ac rfl (Ac rfl (Ao rfl)))))))) ?_
    clear hf; intro a hf
    refine wpList_nil ?_
    refine hK3 _ _ ?_
    refine sxcond hf (b := true) (by kernel_rfl) (fun _ => ?_) (fun h => by cases h)
    refine wp_seq_k (fun K4 hK4 => ?_)
    refine wp_region_lit ?_
    refine sr hf hM [5, 4] [{ sp := true }, { os := [.st 2 0, .st 2 1, .st 2 2, .st 2 3] }, {}] (env' := fun B8 => [(5, .val (.bool false)), (4, .val (.pointer (some ⟨B1 + 2, 0, none⟩)))]) (M' := fun B8 => [⟨B1, 114, [.int .i64 px, .int .i64 py]⟩, ⟨B1 + 1, 114, [.int .i64 hx, .int .i64 hy]⟩, ⟨B1 + 2, 50, [.int .i64 0, .int .i64 0, .int .i64 0, .int .i64 0]⟩]) (ob := fun B8 => [Ad (B1 + 2) 0, Ad (B1 + 2) 1, Ad (B1 + 2) 2, Ad (B1 + 2) 3]) (fun B => by as_aux_lemma => kernel_rfl) (fun B8 => (Ac (ad _ _) (Ac (ad _ _) (Ac (ad _ _) (Ao (ad _ _)))))) ?_
    clear hf hM; intro a w3 B8 hf hM hB hk
    have hbB8 : w.heap.size ≤ B8 := by have := hk0.size; omega
    have hk0 := hk0.then hk (by intro i hi h; simp only [Is, Mem.names, List.map_cons, List.map_nil, List.mem_cons, List.not_mem_nil, or_false] at h; omega)
    clear hk hB
    refine wpList_nil ?_
    refine hK4 _ _ ?_
    refine wp_ret ?_
    refine sxret (fn := Tryd.f78) hf hM [.ld 2 0, .ld 2 1, .ld 2 2, .ld 2 3] (l := [.agg #[.int .i64 0, .int .i64 0, .int .i64 0, .int .i64 0], .bool false]) (M' := [⟨B1, 114, [.int .i64 px, .int .i64 py]⟩, ⟨B1 + 1, 114, [.int .i64 hx, .int .i64 hy]⟩, ⟨B1 + 2, 50, [.int .i64 0, .int .i64 0, .int .i64 0, .int .i64 0]⟩]) (d' := false) (ob := [Ad (B1 + 2) 0, Ad (B1 + 2) 1, Ad (B1 + 2) 2, Ad (B1 + 2) 3]) (by kernel_rfl) (fun B => ⟨B, by as_aux_lemma => kernel_rfl⟩) rfl (Ac (ad _ _) (Ac (ad _ _) (Ac (ad _ _) (Ao (ad _ _))))) ?_
    show (.tuple #[.agg #[.int .i64 0, .int .i64 0, .int .i64 0, .int .i64 0], .bool false] : Value) = .tuple #[.agg #[.int .i64 0, .int .i64 0, .int .i64 0, .int .i64 0], .bool false] ∧ Keep Nn w w3
    exact ⟨rfl, hk0⟩
  · have hg1r := hg1
    have hf := hf.prune [10, 4, 3, 2]
    replace hf : Fr 60 [(10, .val (.bool (!(within px 1048576)))), (4, .val (.pointer (some ⟨B1 + 2, 0, none⟩))), (3, .val (.pointer (some ⟨B1 + 1, 0, none⟩))), (2, .val (.pointer (some ⟨B1, 0, none⟩)))] a := hf
    replace hf := hf.conv (env' := [(10, .val (.bool false)), (4, .val (.pointer (some ⟨B1 + 2, 0, none⟩))), (3, .val (.pointer (some ⟨B1 + 1, 0, none⟩))), (2, .val (.pointer (some ⟨B1, 0, none⟩)))]) (Ac (congrArg Value.bool hg1r) (Ac rfl (Ac rfl (Ao rfl))))
    try simp only [Bool.or_eq_true, Bool.and_eq_true, Bool.not_eq_true', Bool.not_eq_false', Bool.or_eq_false_iff, Bool.and_eq_false_iff, decide_eq_true_eq, decide_eq_false_iff_not, beq_iff_eq, bne_iff_ne, beq_eq_false_iff_ne, bne_eq_false_iff_eq, Bool.and_true, Bool.true_and, ne_eq] at hg1
    refine sr0 hf hM [12, 10, 4, 3, 2] [{}, { os := [.ld 0 1] }] (env' := [(12, .val (.int .i64 py)), (10, .val (.bool false)), (4, .val (.pointer (some ⟨B1 + 2, 0, none⟩))), (3, .val (.pointer (some ⟨B1 + 1, 0, none⟩))), (2, .val (.pointer (some ⟨B1, 0, none⟩)))]) (ob := [false = false, false = false, Ad B1 1]) (fun B => by as_aux_lemma => kernel_rfl) rfl (Ac rfl (Ac rfl (Ao (ad _ _)))) ?_
    clear hf; intro a hf
    refine sxcallg hf rfl rfl rfl rfl rfl (g := 95) (vs := [.int .i64 py, .int .i64 1048576]) (ob := []) (by as_aux_lemma => kernel_rfl) An enters95 (r1in py 1048576 w2  (by omega)) ?_
    clear hf; rintro _ w4 a ⟨rfl, hk⟩ hf
    have hM := hM.keepNn hk
    have hk0 := hk0.trans hk.nn
    clear hk
    refine sr0 hf hM [16, 4, 3, 2] [{}, {}, {}] (env' := [(16, .val (.bool (!(within py 1048576)))), (4, .val (.pointer (some ⟨B1 + 2, 0, none⟩))), (3, .val (.pointer (some ⟨B1 + 1, 0, none⟩))), (2, .val (.pointer (some ⟨B1, 0, none⟩)))]) (ob := [false = false]) (fun B => by as_aux_lemma => kernel_rfl) rfl (Ao rfl) ?_
    clear hf; intro a hf
    rcases Bool.eq_false_or_eq_true (!(within py 1048576)) with hg2 | hg2
    · have hg2r := hg2
      have hf := hf.prune [16, 4, 3, 2]
      replace hf : Fr 60 [(16, .val (.bool (!(within py 1048576)))), (4, .val (.pointer (some ⟨B1 + 2, 0, none⟩))), (3, .val (.pointer (some ⟨B1 + 1, 0, none⟩))), (2, .val (.pointer (some ⟨B1, 0, none⟩)))] a := hf
      replace hf := hf.conv (env' := [(16, .val (.bool true)), (4, .val (.pointer (some ⟨B1 + 2, 0, none⟩))), (3, .val (.pointer (some ⟨B1 + 1, 0, none⟩))), (2, .val (.pointer (some ⟨B1, 0, none⟩)))]) (Ac (congrArg Value.bool hg2r) (Ac rfl (Ac rfl (Ao rfl))))
      try simp only [Bool.or_eq_true, Bool.and_eq_true, Bool.not_eq_true', Bool.not_eq_false', Bool.or_eq_false_iff, Bool.and_eq_false_iff, decide_eq_true_eq, decide_eq_false_iff_not, beq_iff_eq, bne_iff_ne, beq_eq_false_iff_ne, bne_eq_false_iff_eq, Bool.and_true, Bool.true_and, ne_eq] at hg2
      refine sr0 hf hM [18, 16, 4, 3, 2] [{ g := .off }, { g := .off }] (env' := [(18, .val (undef)), (16, .val (.bool true)), (4, .val (.pointer (some ⟨B1 + 2, 0, none⟩))), (3, .val (.pointer (some ⟨B1 + 1, 0, none⟩))), (2, .val (.pointer (some ⟨B1, 0, none⟩)))]) (ob := [true = !false, true = !false]) (fun B => by as_aux_lemma => kernel_rfl) rfl (Ac rfl (Ao rfl)) ?_
      clear hf; intro a hf
      refine sr0 hf hM [24, 22, 4, 3, 2] [{ g := .off }, { g := .off }, {}, {}, { g := .off }, { g := .off }] (env' := [(24, .val (undef)), (22, .val (.bool true)), (4, .val (.pointer (some ⟨B1 + 2, 0, none⟩))), (3, .val (.pointer (some ⟨B1 + 1, 0, none⟩))), (2, .val (.pointer (some ⟨B1, 0, none⟩)))]) (ob := [true = !false, true = !false, true = !false, true = !false]) (fun B => by as_aux_lemma => kernel_rfl) rfl (Ac rfl (Ac rfl (Ac rfl (Ao rfl)))) ?_
      clear hf; intro a hf
      refine sr0 hf hM [37, 4, 3, 2] [{ g := .off }, { g := .off }, {}, {}, { g := .off }, { g := .off }, { g := .off }, {}, {}, { g := .off }, { g := .off }, { g := .off }, {}] (env' := [(37, .val (.bool true)), (4, .val (.pointer (some ⟨B1 + 2, 0, none⟩))), (3, .val (.pointer (some ⟨B1 + 1, 0, none⟩))), (2, .val (.pointer (some ⟨B1, 0, none⟩)))]) (ob := [true = !false, true = !false, true = !false, true = !false, true = !false, true = !false, true = !false, true = !false]) (fun B => by as_aux_lemma => kernel_rfl) rfl (Ac rfl (Ac rfl (Ac rfl (Ac rfl (Ac rfl (Ac rfl (Ac rfl (Ao rfl)))))))) ?_
      clear hf; intro a hf
      refine wpList_nil ?_
      refine hK3 _ _ ?_
      refine sxcond hf (b := true) (by kernel_rfl) (fun _ => ?_) (fun h => by cases h)
      refine wp_seq_k (fun K5 hK5 => ?_)
      refine wp_region_lit ?_
      refine sr hf hM [5, 4] [{ sp := true }, { os := [.st 2 0, .st 2 1, .st 2 2, .st 2 3] }, {}] (env' := fun B14 => [(5, .val (.bool false)), (4, .val (.pointer (some ⟨B1 + 2, 0, none⟩)))]) (M' := fun B14 => [⟨B1, 114, [.int .i64 px, .int .i64 py]⟩, ⟨B1 + 1, 114, [.int .i64 hx, .int .i64 hy]⟩, ⟨B1 + 2, 50, [.int .i64 0, .int .i64 0, .int .i64 0, .int .i64 0]⟩]) (ob := fun B14 => [Ad (B1 + 2) 0, Ad (B1 + 2) 1, Ad (B1 + 2) 2, Ad (B1 + 2) 3]) (fun B => by as_aux_lemma => kernel_rfl) (fun B14 => (Ac (ad _ _) (Ac (ad _ _) (Ac (ad _ _) (Ao (ad _ _)))))) ?_
      clear hf hM; intro a w5 B14 hf hM hB hk
      have hbB14 : w.heap.size ≤ B14 := by have := hk0.size; omega
      have hk0 := hk0.then hk (by intro i hi h; simp only [Is, Mem.names, List.map_cons, List.map_nil, List.mem_cons, List.not_mem_nil, or_false] at h; omega)
      clear hk hB
      refine wpList_nil ?_
      refine hK5 _ _ ?_
      refine wp_ret ?_
      refine sxret (fn := Tryd.f78) hf hM [.ld 2 0, .ld 2 1, .ld 2 2, .ld 2 3] (l := [.agg #[.int .i64 0, .int .i64 0, .int .i64 0, .int .i64 0], .bool false]) (M' := [⟨B1, 114, [.int .i64 px, .int .i64 py]⟩, ⟨B1 + 1, 114, [.int .i64 hx, .int .i64 hy]⟩, ⟨B1 + 2, 50, [.int .i64 0, .int .i64 0, .int .i64 0, .int .i64 0]⟩]) (d' := false) (ob := [Ad (B1 + 2) 0, Ad (B1 + 2) 1, Ad (B1 + 2) 2, Ad (B1 + 2) 3]) (by kernel_rfl) (fun B => ⟨B, by as_aux_lemma => kernel_rfl⟩) rfl (Ac (ad _ _) (Ac (ad _ _) (Ac (ad _ _) (Ao (ad _ _))))) ?_
      show (.tuple #[.agg #[.int .i64 0, .int .i64 0, .int .i64 0, .int .i64 0], .bool false] : Value) = .tuple #[.agg #[.int .i64 0, .int .i64 0, .int .i64 0, .int .i64 0], .bool false] ∧ Keep Nn w w5
      exact ⟨rfl, hk0⟩
    · have hg2r := hg2
      have hf := hf.prune [16, 4, 3, 2]
      replace hf : Fr 60 [(16, .val (.bool (!(within py 1048576)))), (4, .val (.pointer (some ⟨B1 + 2, 0, none⟩))), (3, .val (.pointer (some ⟨B1 + 1, 0, none⟩))), (2, .val (.pointer (some ⟨B1, 0, none⟩)))] a := hf
      replace hf := hf.conv (env' := [(16, .val (.bool false)), (4, .val (.pointer (some ⟨B1 + 2, 0, none⟩))), (3, .val (.pointer (some ⟨B1 + 1, 0, none⟩))), (2, .val (.pointer (some ⟨B1, 0, none⟩)))]) (Ac (congrArg Value.bool hg2r) (Ac rfl (Ac rfl (Ao rfl))))
      try simp only [Bool.or_eq_true, Bool.and_eq_true, Bool.not_eq_true', Bool.not_eq_false', Bool.or_eq_false_iff, Bool.and_eq_false_iff, decide_eq_true_eq, decide_eq_false_iff_not, beq_iff_eq, bne_iff_ne, beq_eq_false_iff_ne, bne_eq_false_iff_eq, Bool.and_true, Bool.true_and, ne_eq] at hg2
      refine sr0 hf hM [18, 16, 4, 3, 2] [{}, { os := [.ld 1 0] }] (env' := [(18, .val (.int .i64 hx)), (16, .val (.bool false)), (4, .val (.pointer (some ⟨B1 + 2, 0, none⟩))), (3, .val (.pointer (some ⟨B1 + 1, 0, none⟩))), (2, .val (.pointer (some ⟨B1, 0, none⟩)))]) (ob := [false = false, false = false, Ad (B1 + 1) 0]) (fun B => by as_aux_lemma => kernel_rfl) rfl (Ac rfl (Ac rfl (Ao (ad _ _)))) ?_
      clear hf; intro a hf
      refine sxcallg hf rfl rfl rfl rfl rfl (g := 95) (vs := [.int .i64 hx, .int .i64 1048576]) (ob := []) (by as_aux_lemma => kernel_rfl) An enters95 (r1in hx 1048576 w4  (by omega)) ?_
      clear hf; rintro _ w6 a ⟨rfl, hk⟩ hf
      have hM := hM.keepNn hk
      have hk0 := hk0.trans hk.nn
      clear hk
      refine sr0 hf hM [22, 4, 3, 2] [{}, {}, {}] (env' := [(22, .val (.bool (!(within hx 1048576)))), (4, .val (.pointer (some ⟨B1 + 2, 0, none⟩))), (3, .val (.pointer (some ⟨B1 + 1, 0, none⟩))), (2, .val (.pointer (some ⟨B1, 0, none⟩)))]) (ob := [false = false]) (fun B => by as_aux_lemma => kernel_rfl) rfl (Ao rfl) ?_
      clear hf; intro a hf
      rcases Bool.eq_false_or_eq_true (!(within hx 1048576)) with hg3 | hg3
      · have hg3r := hg3
        have hf := hf.prune [22, 4, 3, 2]
        replace hf : Fr 60 [(22, .val (.bool (!(within hx 1048576)))), (4, .val (.pointer (some ⟨B1 + 2, 0, none⟩))), (3, .val (.pointer (some ⟨B1 + 1, 0, none⟩))), (2, .val (.pointer (some ⟨B1, 0, none⟩)))] a := hf
        replace hf := hf.conv (env' := [(22, .val (.bool true)), (4, .val (.pointer (some ⟨B1 + 2, 0, none⟩))), (3, .val (.pointer (some ⟨B1 + 1, 0, none⟩))), (2, .val (.pointer (some ⟨B1, 0, none⟩)))]) (Ac (congrArg Value.bool hg3r) (Ac rfl (Ac rfl (Ao rfl))))
        try simp only [Bool.or_eq_true, Bool.and_eq_true, Bool.not_eq_true', Bool.not_eq_false', Bool.or_eq_false_iff, Bool.and_eq_false_iff, decide_eq_true_eq, decide_eq_false_iff_not, beq_iff_eq, bne_iff_ne, beq_eq_false_iff_ne, bne_eq_false_iff_eq, Bool.and_true, Bool.true_and, ne_eq] at hg3
        refine sr0 hf hM [24, 22, 4, 3, 2] [{ g := .off }, { g := .off }] (env' := [(24, .val (undef)), (22, .val (.bool true)), (4, .val (.pointer (some ⟨B1 + 2, 0, none⟩))), (3, .val (.pointer (some ⟨B1 + 1, 0, none⟩))), (2, .val (.pointer (some ⟨B1, 0, none⟩)))]) (ob := [true = !false, true = !false]) (fun B => by as_aux_lemma => kernel_rfl) rfl (Ac rfl (Ao rfl)) ?_
        clear hf; intro a hf
        refine sr0 hf hM [37, 4, 3, 2] [{ g := .off }, { g := .off }, {}, {}, { g := .off }, { g := .off }, { g := .off }, {}, {}, { g := .off }, { g := .off }, { g := .off }, {}] (env' := [(37, .val (.bool true)), (4, .val (.pointer (some ⟨B1 + 2, 0, none⟩))), (3, .val (.pointer (some ⟨B1 + 1, 0, none⟩))), (2, .val (.pointer (some ⟨B1, 0, none⟩)))]) (ob := [true = !false, true = !false, true = !false, true = !false, true = !false, true = !false, true = !false, true = !false]) (fun B => by as_aux_lemma => kernel_rfl) rfl (Ac rfl (Ac rfl (Ac rfl (Ac rfl (Ac rfl (Ac rfl (Ac rfl (Ao rfl)))))))) ?_
        clear hf; intro a hf
        refine wpList_nil ?_
        refine hK3 _ _ ?_
        refine sxcond hf (b := true) (by kernel_rfl) (fun _ => ?_) (fun h => by cases h)
        refine wp_seq_k (fun K6 hK6 => ?_)
        refine wp_region_lit ?_
        refine sr hf hM [5, 4] [{ sp := true }, { os := [.st 2 0, .st 2 1, .st 2 2, .st 2 3] }, {}] (env' := fun B19 => [(5, .val (.bool false)), (4, .val (.pointer (some ⟨B1 + 2, 0, none⟩)))]) (M' := fun B19 => [⟨B1, 114, [.int .i64 px, .int .i64 py]⟩, ⟨B1 + 1, 114, [.int .i64 hx, .int .i64 hy]⟩, ⟨B1 + 2, 50, [.int .i64 0, .int .i64 0, .int .i64 0, .int .i64 0]⟩]) (ob := fun B19 => [Ad (B1 + 2) 0, Ad (B1 + 2) 1, Ad (B1 + 2) 2, Ad (B1 + 2) 3]) (fun B => by as_aux_lemma => kernel_rfl) (fun B19 => (Ac (ad _ _) (Ac (ad _ _) (Ac (ad _ _) (Ao (ad _ _)))))) ?_
        clear hf hM; intro a w7 B19 hf hM hB hk
        have hbB19 : w.heap.size ≤ B19 := by have := hk0.size; omega
        have hk0 := hk0.then hk (by intro i hi h; simp only [Is, Mem.names, List.map_cons, List.map_nil, List.mem_cons, List.not_mem_nil, or_false] at h; omega)
        clear hk hB
        refine wpList_nil ?_
        refine hK6 _ _ ?_
        refine wp_ret ?_
        refine sxret (fn := Tryd.f78) hf hM [.ld 2 0, .ld 2 1, .ld 2 2, .ld 2 3] (l := [.agg #[.int .i64 0, .int .i64 0, .int .i64 0, .int .i64 0], .bool false]) (M' := [⟨B1, 114, [.int .i64 px, .int .i64 py]⟩, ⟨B1 + 1, 114, [.int .i64 hx, .int .i64 hy]⟩, ⟨B1 + 2, 50, [.int .i64 0, .int .i64 0, .int .i64 0, .int .i64 0]⟩]) (d' := false) (ob := [Ad (B1 + 2) 0, Ad (B1 + 2) 1, Ad (B1 + 2) 2, Ad (B1 + 2) 3]) (by kernel_rfl) (fun B => ⟨B, by as_aux_lemma => kernel_rfl⟩) rfl (Ac (ad _ _) (Ac (ad _ _) (Ac (ad _ _) (Ao (ad _ _))))) ?_
        show (.tuple #[.agg #[.int .i64 0, .int .i64 0, .int .i64 0, .int .i64 0], .bool false] : Value) = .tuple #[.agg #[.int .i64 0, .int .i64 0, .int .i64 0, .int .i64 0], .bool false] ∧ Keep Nn w w7
        exact ⟨rfl, hk0⟩
      · have hg3r := hg3
        have hf := hf.prune [22, 4, 3, 2]
        replace hf : Fr 60 [(22, .val (.bool (!(within hx 1048576)))), (4, .val (.pointer (some ⟨B1 + 2, 0, none⟩))), (3, .val (.pointer (some ⟨B1 + 1, 0, none⟩))), (2, .val (.pointer (some ⟨B1, 0, none⟩)))] a := hf
        replace hf := hf.conv (env' := [(22, .val (.bool false)), (4, .val (.pointer (some ⟨B1 + 2, 0, none⟩))), (3, .val (.pointer (some ⟨B1 + 1, 0, none⟩))), (2, .val (.pointer (some ⟨B1, 0, none⟩)))]) (Ac (congrArg Value.bool hg3r) (Ac rfl (Ac rfl (Ao rfl))))
        try simp only [Bool.or_eq_true, Bool.and_eq_true, Bool.not_eq_true', Bool.not_eq_false', Bool.or_eq_false_iff, Bool.and_eq_false_iff, decide_eq_true_eq, decide_eq_false_iff_not, beq_iff_eq, bne_iff_ne, beq_eq_false_iff_ne, bne_eq_false_iff_eq, Bool.and_true, Bool.true_and, ne_eq] at hg3
        refine sr0 hf hM [24, 22, 4, 3, 2] [{}, { os := [.ld 1 1] }] (env' := [(24, .val (.int .i64 hy)), (22, .val (.bool false)), (4, .val (.pointer (some ⟨B1 + 2, 0, none⟩))), (3, .val (.pointer (some ⟨B1 + 1, 0, none⟩))), (2, .val (.pointer (some ⟨B1, 0, none⟩)))]) (ob := [false = false, false = false, Ad (B1 + 1) 1]) (fun B => by as_aux_lemma => kernel_rfl) rfl (Ac rfl (Ac rfl (Ao (ad _ _)))) ?_
        clear hf; intro a hf
        refine sxcallg hf rfl rfl rfl rfl rfl (g := 95) (vs := [.int .i64 hy, .int .i64 1048576]) (ob := []) (by as_aux_lemma => kernel_rfl) An enters95 (r1in hy 1048576 w6  (by omega)) ?_
        clear hf; rintro _ w8 a ⟨rfl, hk⟩ hf
        have hM := hM.keepNn hk
        have hk0 := hk0.trans hk.nn
        clear hk
        refine sr0 hf hM [37, 4, 3, 2] [{}, {}, {}, { g := .sym }, { g := .sym, os := [.ld 1 0] }, { g := .sym }, { hint := some (.bool ((!(within hy 1048576)) || (decide ((hx : Int) < 0)))) }, {}, { g := .sym }, { g := .sym, os := [.ld 1 1] }, { g := .sym }, { hint := some (.bool (((!(within hy 1048576)) || (decide ((hx : Int) < 0))) || (decide ((hy : Int) < 0)))) }] (env' := [(37, .val (.bool (((!(within hy 1048576)) || (decide ((hx : Int) < 0))) || (decide ((hy : Int) < 0))))), (4, .val (.pointer (some ⟨B1 + 2, 0, none⟩))), (3, .val (.pointer (some ⟨B1 + 1, 0, none⟩))), (2, .val (.pointer (some ⟨B1, 0, none⟩)))]) (ob := [false = false, ((!(within hy 1048576)) = false → (!(within hy 1048576)) = (!(within hy 1048576))), ((!(within hy 1048576)) = false → Ad (B1 + 1) 0), ((!(within hy 1048576)) = false → (!(within hy 1048576)) = (!(within hy 1048576))), ((!(within hy 1048576)) = false → (!(within hy 1048576)) = (!(within hy 1048576))), (bif !(within hy 1048576) then (.bool true : Value) else .bool (decide ((hx : Int) < 0))) = .bool ((!(within hy 1048576)) || (decide ((hx : Int) < 0))), (((!(within hy 1048576)) || (decide ((hx : Int) < 0))) = false → ((!(within hy 1048576)) || (decide ((hx : Int) < 0))) = ((!(within hy 1048576)) || (decide ((hx : Int) < 0)))), (((!(within hy 1048576)) || (decide ((hx : Int) < 0))) = false → Ad (B1 + 1) 1), (((!(within hy 1048576)) || (decide ((hx : Int) < 0))) = false → ((!(within hy 1048576)) || (decide ((hx : Int) < 0))) = ((!(within hy 1048576)) || (decide ((hx : Int) < 0)))), (((!(within hy 1048576)) || (decide ((hx : Int) < 0))) = false → ((!(within hy 1048576)) || (decide ((hx : Int) < 0))) = ((!(within hy 1048576)) || (decide ((hx : Int) < 0)))), (bif ((!(within hy 1048576)) || (decide ((hx : Int) < 0))) then (.bool true : Value) else .bool (decide ((hy : Int) < 0))) = .bool (((!(within hy 1048576)) || (decide ((hx : Int) < 0))) || (decide ((hy : Int) < 0)))]) (fun B => by as_aux_lemma => kernel_rfl) rfl (Ac rfl (Ac (fun hgd => rfl) (Ac (fun hgd => ad _ _) (Ac (fun hgd => rfl) (Ac (fun _ => rfl) (Ac (pick_or _ _) (Ac (fun hgd => rfl) (Ac (fun hgd => ad _ _) (Ac (fun hgd => rfl) (Ac (fun _ => rfl) (Ao (pick_or _ _)))))))))))) ?_
        clear hf; intro a hf
        refine wpList_nil ?_
        refine hK3 _ _ ?_
        refine sxcond hf (b := (((!(within hy 1048576)) || (decide ((hx : Int) < 0))) || (decide ((hy : Int) < 0)))) (by kernel_rfl) (fun hc4 => ?_) (fun hc4 => ?_)
        · have hc4r := hc4
          try simp only [Bool.or_eq_true, Bool.and_eq_true, Bool.not_eq_true', Bool.not_eq_false', Bool.or_eq_false_iff, Bool.and_eq_false_iff, decide_eq_true_eq, decide_eq_false_iff_not, beq_iff_eq, bne_iff_ne, beq_eq_false_iff_ne, bne_eq_false_iff_eq, Bool.and_true, Bool.true_and, ne_eq] at hc4
          refine wp_seq_k (fun K7 hK7 => ?_)
          refine wp_region_lit ?_
          refine sr hf hM [5, 4] [{ sp := true }, { os := [.st 2 0, .st 2 1, .st 2 2, .st 2 3] }, {}] (env' := fun B22 => [(5, .val (.bool false)), (4, .val (.pointer (some ⟨B1 + 2, 0, none⟩)))]) (M' := fun B22 => [⟨B1, 114, [.int .i64 px, .int .i64 py]⟩, ⟨B1 + 1, 114, [.int .i64 hx, .int .i64 hy]⟩, ⟨B1 + 2, 50, [.int .i64 0, .int .i64 0, .int .i64 0, .int .i64 0]⟩]) (ob := fun B22 => [Ad (B1 + 2) 0, Ad (B1 + 2) 1, Ad (B1 + 2) 2, Ad (B1 + 2) 3]) (fun B => by as_aux_lemma => kernel_rfl) (fun B22 => (Ac (ad _ _) (Ac (ad _ _) (Ac (ad _ _) (Ao (ad _ _)))))) ?_
          clear hf hM; intro a w9 B22 hf hM hB hk
          have hbB22 : w.heap.size ≤ B22 := by have := hk0.size; omega
          have hk0 := hk0.then hk (by intro i hi h; simp only [Is, Mem.names, List.map_cons, List.map_nil, List.mem_cons, List.not_mem_nil, or_false] at h; omega)
          clear hk hB
          refine wpList_nil ?_
          refine hK7 _ _ ?_
          refine wp_ret ?_
          refine sxret (fn := Tryd.f78) hf hM [.ld 2 0, .ld 2 1, .ld 2 2, .ld 2 3] (l := [.agg #[.int .i64 0, .int .i64 0, .int .i64 0, .int .i64 0], .bool false]) (M' := [⟨B1, 114, [.int .i64 px, .int .i64 py]⟩, ⟨B1 + 1, 114, [.int .i64 hx, .int .i64 hy]⟩, ⟨B1 + 2, 50, [.int .i64 0, .int .i64 0, .int .i64 0, .int .i64 0]⟩]) (d' := false) (ob := [Ad (B1 + 2) 0, Ad (B1 + 2) 1, Ad (B1 + 2) 2, Ad (B1 + 2) 3]) (by kernel_rfl) (fun B => ⟨B, by as_aux_lemma => kernel_rfl⟩) rfl (Ac (ad _ _) (Ac (ad _ _) (Ac (ad _ _) (Ao (ad _ _))))) ?_
          show (.tuple #[.agg #[.int .i64 0, .int .i64 0, .int .i64 0, .int .i64 0], .bool false] : Value) = .tuple #[.agg #[.int .i64 0, .int .i64 0, .int .i64 0, .int .i64 0], .bool false] ∧ Keep Nn w w9
          exact ⟨rfl, hk0⟩
        · have hc4r := hc4
          try simp only [Bool.or_eq_true, Bool.and_eq_true, Bool.not_eq_true', Bool.not_eq_false', Bool.or_eq_false_iff, Bool.and_eq_false_iff, decide_eq_true_eq, decide_eq_false_iff_not, beq_iff_eq, bne_iff_ne, beq_eq_false_iff_ne, bne_eq_false_iff_eq, Bool.and_true, Bool.true_and, ne_eq] at hc4
          refine wp_skip ?_
          refine hK2 _ _ ?_
          refine wp_seq_k (fun K8 hK8 => ?_)
          refine wp_region_lit ?_
          refine sr hf hM [5, 4] [{}, { os := [.ld 0 0] }, {}, { os := [.ld 1 0] }, {}, {}, { os := [.ld 0 1] }, {}, { os := [.ld 1 1] }, {}, {}, { os := [.ld 0 0] }, {}, { os := [.ld 1 0] }, {}, {}, { os := [.ld 0 1] }, {}, { os := [.ld 1 1] }, {}, { sp := true }, { os := [.st 2 0, .st 2 1, .st 2 2, .st 2 3] }, {}] (env' := fun B23 => [(5, .val (.bool true)), (4, .val (.pointer (some ⟨B1 + 2, 0, none⟩)))]) (M' := fun B23 => [⟨B1, 114, [.int .i64 px, .int .i64 py]⟩, ⟨B1 + 1, 114, [.int .i64 hx, .int .i64 hy]⟩, ⟨B1 + 2, 50, [.int .i64 (IntKind.i64.wrap (px - hx)), .int .i64 (IntKind.i64.wrap (py - hy)), .int .i64 (IntKind.i64.wrap (px + hx)), .int .i64 (IntKind.i64.wrap (py + hy))]⟩]) (ob := fun B23 => [Ad B1 0, Ad (B1 + 1) 0, Ad B1 1, Ad (B1 + 1) 1, Ad B1 0, Ad (B1 + 1) 0, Ad B1 1, Ad (B1 + 1) 1, Ad (B1 + 2) 0, Ad (B1 + 2) 1, Ad (B1 + 2) 2, Ad (B1 + 2) 3]) (fun B => by as_aux_lemma => kernel_rfl) (fun B23 => (Ac (ad _ _) (Ac (ad _ _) (Ac (ad _ _) (Ac (ad _ _) (Ac (ad _ _) (Ac (ad _ _) (Ac (ad _ _) (Ac (ad _ _) (Ac (ad _ _) (Ac (ad _ _) (Ac (ad _ _) (Ao (ad _ _)))))))))))))) ?_
          clear hf hM; intro a w10 B23 hf hM hB hk
          have hbB23 : w.heap.size ≤ B23 := by have := hk0.size; omega
          have hk0 := hk0.then hk (by intro i hi h; simp only [Is, Mem.names, List.map_cons, List.map_nil, List.mem_cons, List.not_mem_nil, or_false] at h; omega)
          clear hk hB
          refine wpList_nil ?_
          refine hK8 _ _ ?_
          refine wp_ret ?_
          refine sxret (fn := Tryd.f78) hf hM [.ld 2 0, .ld 2 1, .ld 2 2, .ld 2 3] (l := [.agg #[.int .i64 (IntKind.i64.wrap (px - hx)), .int .i64 (IntKind.i64.wrap (py - hy)), .int .i64 (IntKind.i64.wrap (px + hx)), .int .i64 (IntKind.i64.wrap (py + hy))], .bool true]) (M' := [⟨B1, 114, [.int .i64 px, .int .i64 py]⟩, ⟨B1 + 1, 114, [.int .i64 hx, .int .i64 hy]⟩, ⟨B1 + 2, 50, [.int .i64 (IntKind.i64.wrap (px - hx)), .int .i64 (IntKind.i64.wrap (py - hy)), .int .i64 (IntKind.i64.wrap (px + hx)), .int .i64 (IntKind.i64.wrap (py + hy))]⟩]) (d' := false) (ob := [Ad (B1 + 2) 0, Ad (B1 + 2) 1, Ad (B1 + 2) 2, Ad (B1 + 2) 3]) (by kernel_rfl) (fun B => ⟨B, by as_aux_lemma => kernel_rfl⟩) rfl (Ac (ad _ _) (Ac (ad _ _) (Ac (ad _ _) (Ao (ad _ _))))) ?_
          show (.tuple #[.agg #[.int .i64 (IntKind.i64.wrap (px - hx)), .int .i64 (IntKind.i64.wrap (py - hy)), .int .i64 (IntKind.i64.wrap (px + hx)), .int .i64 (IntKind.i64.wrap (py + hy))], .bool true] : Value) = .tuple #[.agg #[.int .i64 0, .int .i64 0, .int .i64 0, .int .i64 0], .bool false] ∧ Keep Nn w w10
          exfalso
          have hb := of_decide_eq_false hn0
          try simp only [within, decide_eq_true_eq] at hg1
          try simp only [within, decide_eq_true_eq] at hg2
          try simp only [within, decide_eq_true_eq] at hg3
          try simp only [within, decide_eq_true_eq] at hc4
          omega

set_option maxRecDepth 10000 in
set_option maxHeartbeats 4000000 in
theorem rbox_ok (av : Option Addr) (l : List V3) (c : Nat) (w : World) (hn0 : (hasBox l) = true) (hav : Arr w 3 av l.length c (flat fV l)) (hbav : l.length ≤ 1000000) :
    Calls Tryd.prog 44 #[.slice av l.length c] w (Ret fun v w' => v = .tuple #[.agg #[.int .i64 ((findV l 0).a - (findV l 1).a), .int .i64 ((findV l 0).b - (findV l 1).b), .int .i64 ((findV l 0).a + (findV l 1).a), .int .i64 ((findV l 0).b + (findV l 1).b)], .bool true] ∧ Keep Nn w w') := by
  refine sxenter (n := 38) (args := [.slice av l.length c]) Tryd.func44 rfl rfl rfl fun a hf => ?_
  replace hf : Fr 38 [(0, .val (.slice av l.length c))] a := hf
  have hM : MemOk [] w := MemOk.nil w
  have hk0 : Keep Nn w w := Keep.refl _ _
  have hh := hn0
  simp only [hasBox, Bool.and_eq_true] at hh
  obtain ⟨⟨hh1, hh2⟩, hh3⟩ := hh
  refine wp_seq_k (fun K1 hK1 => ?_)
  refine wp_region_lit ?_
  refine sr hf hM [2, 0] [{ os := [.nw] }, {}] (env' := fun B1 => [(2, .val (.pointer (some ⟨B1, 0, none⟩))), (0, .val (.slice av l.length c))]) (M' := fun B1 => [⟨B1, 50, [.int .i64 0, .int .i64 0, .int .i64 0, .int .i64 0]⟩]) (ob := fun B1 => []) (fun B => by as_aux_lemma => kernel_rfl) (fun B1 => An) ?_
  clear hf hM; intro a w1 B1 hf hM hB hk
  have hbB1 : w.heap.size ≤ B1 := by have := hk0.size; omega
  have hk0 := hk0.then hk (by intro i _ h; cases h)
  clear hk hB
  refine wpList_nil ?_
  refine hK1 _ _ ?_
  refine wp_seq_k (fun K2 hK2 => ?_)
  refine wp_region_lit ?_
  refine sr0 hf hM [9, 2, 0] [{}] (env' := [(9, .val (.slice av l.length c)), (2, .val (.pointer (some ⟨B1, 0, none⟩))), (0, .val (.slice av l.length c))]) (ob := []) (fun B => by as_aux_lemma => kernel_rfl) rfl An ?_
  clear hf; intro a hf
  refine sxcall hf rfl rfl rfl rfl (g := 43) (vs := [.slice av l.length c, .int .i64 0]) (ob := []) (by as_aux_lemma => kernel_rfl) An enters43 (rfind av l c 0 w1  (hav.keepNn hk0) (by first | omega | (simp; omega) | (simp; done) | exact Nat.le_trans (byKinds_len _ _) (by omega) | decide)) ?_
  clear hf; rintro _ w2 a ⟨rfl, hk⟩ hf
  have hM := hM.keepNn hk
  have hk0 := hk0.trans hk.nn
  clear hk
  refine sr hf hM [5, 4, 2, 0] [{}, {}, {}, { os := [.nw] }, { os := [.st 1 0, .st 1 1, .st 1 2] }, {}] (env' := fun B3 => [(5, .val (.bool (hasV l 0))), (4, .val (.pointer (some ⟨B3, 0, none⟩))), (2, .val (.pointer (some ⟨B1, 0, none⟩))), (0, .val (.slice av l.length c))]) (M' := fun B3 => [⟨B1, 50, [.int .i64 0, .int .i64 0, .int .i64 0, .int .i64 0]⟩, ⟨B3, 62, [.int .i64 (findV l 0).k, .int .i64 (findV l 0).a, .int .i64 (findV l 0).b]⟩]) (ob := fun B3 => [Ad B3 0, Ad B3 1, Ad B3 2]) (fun B => by as_aux_lemma => kernel_rfl) (fun B3 => (Ac (ad _ _) (Ac (ad _ _) (Ao (ad _ _))))) ?_
  clear hf hM; intro a w3 B3 hf hM hB hk
  have hbB3 : w.heap.size ≤ B3 := by have := hk0.size; omega
  have hk0 := hk0.then hk (by intro i hi h; simp only [Is, Mem.names, List.map_cons, List.map_nil, List.mem_cons, List.not_mem_nil, or_false] at h; omega)
  clear hk hB
  refine wpList_nil ?_
  refine hK2 _ _ ?_
  refine wp_seq_k (fun K3 hK3 => ?_)
  refine wp_region_lit ?_
  refine sr0 hf hM [14, 5, 4, 2] [{}] (env' := [(14, .val (.slice av l.length c)), (5, .val (.bool (hasV l 0))), (4, .val (.pointer (some ⟨B3, 0, none⟩))), (2, .val (.pointer (some ⟨B1, 0, none⟩)))]) (ob := []) (fun B => by as_aux_lemma => kernel_rfl) rfl An ?_
  clear hf; intro a hf
  refine sxcall hf rfl rfl rfl rfl (g := 43) (vs := [.slice av l.length c, .int .i64 1]) (ob := []) (by as_aux_lemma => kernel_rfl) An enters43 (rfind av l c 1 w3  (hav.keepNn hk0) (by first | omega | (simp; omega) | (simp; done) | exact Nat.le_trans (byKinds_len _ _) (by omega) | decide)) ?_
  clear hf; rintro _ w4 a ⟨rfl, hk⟩ hf
  have hM := hM.keepNn hk
  have hk0 := hk0.trans hk.nn
  clear hk
  refine sr hf hM [7, 6, 5, 4, 2] [{}, {}, {}, { os := [.nw] }, { os := [.st 2 0, .st 2 1, .st 2 2] }, {}] (env' := fun B5 => [(7, .val (.bool (hasV l 1))), (6, .val (.pointer (some ⟨B5, 0, none⟩))), (5, .val (.bool (hasV l 0))), (4, .val (.pointer (some ⟨B3, 0, none⟩))), (2, .val (.pointer (some ⟨B1, 0, none⟩)))]) (M' := fun B5 => [⟨B1, 50, [.int .i64 0, .int .i64 0, .int .i64 0, .int .i64 0]⟩, ⟨B3, 62, [.int .i64 (findV l 0).k, .int .i64 (findV l 0).a, .int .i64 (findV l 0).b]⟩, ⟨B5, 62, [.int .i64 (findV l 1).k, .int .i64 (findV l 1).a, .int .i64 (findV l 1).b]⟩]) (ob := fun B5 => [Ad B5 0, Ad B5 1, Ad B5 2]) (fun B => by as_aux_lemma => kernel_rfl) (fun B5 => (Ac (ad _ _) (Ac (ad _ _) (Ao (ad _ _))))) ?_
  clear hf hM; intro a w5 B5 hf hM hB hk
  have hbB5 : w.heap.size ≤ B5 := by have := hk0.size; omega
  have hk0 := hk0.then hk (by intro i hi h; simp only [Is, Mem.names, List.map_cons, List.map_nil, List.mem_cons, List.not_mem_nil, or_false] at h; omega)
  clear hk hB
  refine wpList_nil ?_
  refine hK3 _ _ ?_
  refine wp_seq_k (fun K4 hK4 => ?_)
  refine wp_seq_k (fun K5 hK5 => ?_)
  refine wp_region_lit ?_
  refine sr0 hf hM [20, 7, 6, 4, 2] [{}, {}, {}] (env' := [(20, .val (.bool (!(hasV l 0)))), (7, .val (.bool (hasV l 1))), (6, .val (.pointer (some ⟨B5, 0, none⟩))), (4, .val (.pointer (some ⟨B3, 0, none⟩))), (2, .val (.pointer (some ⟨B1, 0, none⟩)))]) (ob := []) (fun B => by as_aux_lemma => kernel_rfl) rfl An ?_
  clear hf; intro a hf
  have hf := hf.prune [20, 7, 6, 4, 2]
  replace hf : Fr 38 [(20, .val (.bool (!(hasV l 0)))), (7, .val (.bool (hasV l 1))), (6, .val (.pointer (some ⟨B5, 0, none⟩))), (4, .val (.pointer (some ⟨B3, 0, none⟩))), (2, .val (.pointer (some ⟨B1, 0, none⟩)))] a := hf
  replace hf := hf.conv (env' := [(20, .val (.bool false)), (7, .val (.bool (hasV l 1))), (6, .val (.pointer (some ⟨B5, 0, none⟩))), (4, .val (.pointer (some ⟨B3, 0, none⟩))), (2, .val (.pointer (some ⟨B1, 0, none⟩)))]) (Ac (congrArg Value.bool (by simp [hh1] : (!(hasV l 0) : Bool) = false)) (Ac rfl (Ac rfl (Ac rfl (Ao rfl)))))
  refine sr0 hf hM [23, 6, 4, 2] [{}, {}, {}] (env' := [(23, .val (.bool (!(hasV l 1)))), (6, .val (.pointer (some ⟨B5, 0, none⟩))), (4, .val (.pointer (some ⟨B3, 0, none⟩))), (2, .val (.pointer (some ⟨B1, 0, none⟩)))]) (ob := [false = false, false = false]) (fun B => by as_aux_lemma => kernel_rfl) rfl (Ac rfl (Ao rfl)) ?_
  clear hf; intro a hf
  refine wpList_nil ?_
  refine hK5 _ _ ?_
  refine sxcond hf (b := !(hasV l 1)) (by kernel_rfl) (fun h => absurd (h.symm.trans (by simp [hh2] : (!(hasV l 1) : Bool) = false)) (by simp)) (fun _ => ?_)
  refine wp_skip ?_
  refine hK4 _ _ ?_
  refine wp_seq_k (fun K6 hK6 => ?_)
  refine wp_region_lit ?_
  refine sr0 hf hM [34, 29, 2] [{}, { os := [.ld 1 1] }, {}, { os := [.ld 1 2] }, { sp := true }, {}, { os := [.ld 2 1] }, {}, { os := [.ld 2 2] }, { sp := true }] (env' := [(34, .val (.agg #[.int .i64 (findV l 1).a, .int .i64 (findV l 1).b])), (29, .val (.agg #[.int .i64 (findV l 0).a, .int .i64 (findV l 0).b])), (2, .val (.pointer (some ⟨B1, 0, none⟩)))]) (ob := [Ad B3 1, Ad B3 2, Ad B5 1, Ad B5 2]) (fun B => by as_aux_lemma => kernel_rfl) rfl (Ac (ad _ _) (Ac (ad _ _) (Ac (ad _ _) (Ao (ad _ _))))) ?_
  clear hf; intro a hf
  refine sxcall hf rfl rfl rfl rfl (g := 78) (vs := [.agg #[.int .i64 (findV l 0).a, .int .i64 (findV l 0).b], .agg #[.int .i64 (findV l 1).a, .int .i64 (findV l 1).b]]) (ob := []) (by as_aux_lemma => kernel_rfl) An enters78 (r1of_ok (findV l 0).a (findV l 0).b (findV l 1).a (findV l 1).b w5 hh3 ) ?_
  clear hf; rintro _ w6 a ⟨rfl, hk⟩ hf
  have hM := hM.keepNn hk
  have hk0 := hk0.trans hk.nn
  clear hk
  refine sr hf hM [3, 2] [{}, {}, { os := [.st 0 0, .st 0 1, .st 0 2, .st 0 3] }, {}] (env' := fun B9 => [(3, .val (.bool true)), (2, .val (.pointer (some ⟨B1, 0, none⟩)))]) (M' := fun B9 => [⟨B1, 50, [.int .i64 ((findV l 0).a - (findV l 1).a), .int .i64 ((findV l 0).b - (findV l 1).b), .int .i64 ((findV l 0).a + (findV l 1).a), .int .i64 ((findV l 0).b + (findV l 1).b)]⟩, ⟨B3, 62, [.int .i64 (findV l 0).k, .int .i64 (findV l 0).a, .int .i64 (findV l 0).b]⟩, ⟨B5, 62, [.int .i64 (findV l 1).k, .int .i64 (findV l 1).a, .int .i64 (findV l 1).b]⟩]) (ob := fun B9 => [Ad B1 0, Ad B1 1, Ad B1 2, Ad B1 3]) (fun B => by as_aux_lemma => kernel_rfl) (fun B9 => (Ac (ad _ _) (Ac (ad _ _) (Ac (ad _ _) (Ao (ad _ _)))))) ?_
  clear hf hM; intro a w7 B9 hf hM hB hk
  have hbB9 : w.heap.size ≤ B9 := by have := hk0.size; omega
  have hk0 := hk0.then hk (by intro i hi h; simp only [Is, Mem.names, List.map_cons, List.map_nil, List.mem_cons, List.not_mem_nil, or_false] at h; omega)
  clear hk hB
  refine wpList_nil ?_
  refine hK6 _ _ ?_
  refine wp_ret ?_
  refine sxret (fn := Tryd.f44) hf hM [.ld 0 0, .ld 0 1, .ld 0 2, .ld 0 3] (l := [.agg #[.int .i64 ((findV l 0).a - (findV l 1).a), .int .i64 ((findV l 0).b - (findV l 1).b), .int .i64 ((findV l 0).a + (findV l 1).a), .int .i64 ((findV l 0).b + (findV l 1).b)], .bool true]) (M' := [⟨B1, 50, [.int .i64 ((findV l 0).a - (findV l 1).a), .int .i64 ((findV l 0).b - (findV l 1).b), .int .i64 ((findV l 0).a + (findV l 1).a), .int .i64 ((findV l 0).b + (findV l 1).b)]⟩, ⟨B3, 62, [.int .i64 (findV l 0).k, .int .i64 (findV l 0).a, .int .i64 (findV l 0).b]⟩, ⟨B5, 62, [.int .i64 (findV l 1).k, .int .i64 (findV l 1).a, .int .i64 (findV l 1).b]⟩]) (d' := false) (ob := [Ad B1 0, Ad B1 1, Ad B1 2, Ad B1 3]) (by kernel_rfl) (fun B => ⟨B, by as_aux_lemma => kernel_rfl⟩) rfl (Ac (ad _ _) (Ac (ad _ _) (Ac (ad _ _) (Ao (ad _ _))))) ?_
  show (.tuple #[.agg #[.int .i64 ((findV l 0).a - (findV l 1).a), .int .i64 ((findV l 0).b - (findV l 1).b), .int .i64 ((findV l 0).a + (findV l 1).a), .int .i64 ((findV l 0).b + (findV l 1).b)], .bool true] : Value) = .tuple #[.agg #[.int .i64 ((findV l 0).a - (findV l 1).a), .int .i64 ((findV l 0).b - (findV l 1).b), .int .i64 ((findV l 0).a + (findV l 1).a), .int .i64 ((findV l 0).b + (findV l 1).b)], .bool true] ∧ Keep Nn w w7
  exact ⟨rfl, hk0⟩

set_option maxRecDepth 10000 in
set_option maxHeartbeats 4000000 in
theorem rbox_no (av : Option Addr) (l : List V3) (c : Nat) (w : World) (hn0 : (hasBox l) = false) (hav : Arr w 3 av l.length c (flat fV l)) (hbav : l.length ≤ 1000000) :
    Calls Tryd.prog 44 #[.slice av l.length c] w (Ret fun v w' => v = .tuple #[.agg #[.int .i64 0, .int .i64 0, .int .i64 0, .int .i64 0], .bool false] ∧ Keep Nn w w') := by
  refine sxenter (n := 38) (args := [.slice av l.length c]) Tryd.func44 rfl rfl rfl fun a hf => ?_
  replace hf : Fr 38 [(0, .val (.slice av l.length c))] a := hf
  have hM : MemOk [] w := MemOk.nil w
  have hk0 : Keep Nn w w := Keep.refl _ _
  refine wp_seq_k (fun K1 hK1 => ?_)
  refine wp_region_lit ?_
  refine sr hf hM [2, 0] [{ os := [.nw] }, {}] (env' := fun B1 => [(2, .val (.pointer (some ⟨B1, 0, none⟩))), (0, .val (.slice av l.length c))]) (M' := fun B1 => [⟨B1, 50, [.int .i64 0, .int .i64 0, .int .i64 0, .int .i64 0]⟩]) (ob := fun B1 => []) (fun B => by as_aux_lemma => kernel_rfl) (fun B1 => An) ?_
  clear hf hM; intro a w1 B1 hf hM hB hk
  have hbB1 : w.heap.size ≤ B1 := by have := hk0.size; omega
  have hk0 := hk0.then hk (by intro i _ h; cases h)
  clear hk hB
  refine wpList_nil ?_
  refine hK1 _ _ ?_
  refine wp_seq_k (fun K2 hK2 => ?_)
  refine wp_region_lit ?_
  refine sr0 hf hM [9, 2, 0] [{}] (env' := [(9, .val (.slice av l.length c)), (2, .val (.pointer (some ⟨B1, 0, none⟩))), (0, .val (.slice av l.length c))]) (ob := []) (fun B => by as_aux_lemma => kernel_rfl) rfl An ?_
  clear hf; intro a hf
  refine sxcall hf rfl rfl rfl rfl (g := 43) (vs := [.slice av l.length c, .int .i64 0]) (ob := []) (by as_aux_lemma => kernel_rfl) An enters43 (rfind av l c 0 w1  (hav.keepNn hk0) (by first | omega | (simp; omega) | (simp; done) | exact Nat.le_trans (byKinds_len _ _) (by omega) | decide)) ?_
  clear hf; rintro _ w2 a ⟨rfl, hk⟩ hf
  have hM := hM.keepNn hk
  have hk0 := hk0.trans hk.nn
  clear hk
  refine sr hf hM [5, 4, 2, 0] [{}, {}, {}, { os := [.nw] }, { os := [.st 1 0, .st 1 1, .st 1 2] }, {}] (env' := fun B3 => [(5, .val (.bool (hasV l 0))), (4, .val (.pointer (some ⟨B3, 0, none⟩))), (2, .val (.pointer (some ⟨B1, 0, none⟩))), (0, .val (.slice av l.length c))]) (M' := fun B3 => [⟨B1, 50, [.int .i64 0, .int .i64 0, .int .i64 0, .int .i64 0]⟩, ⟨B3, 62, [.int .i64 (findV l 0).k, .int .i64 (findV l 0).a, .int .i64 (findV l 0).b]⟩]) (ob := fun B3 => [Ad B3 0, Ad B3 1, Ad B3 2]) (fun B => by as_aux_lemma => kernel_rfl) (fun B3 => (Ac (ad _ _) (Ac (ad _ _) (Ao (ad _ _))))) ?_
  clear hf hM; intro a w3 B3 hf hM hB hk
  have hbB3 : w.heap.size ≤ B3 := by have := hk0.size; omega
  have hk0 := hk0.then hk (by intro i hi h; simp only [Is, Mem.names, List.map_cons, List.map_nil, List.mem_cons, List.not_mem_nil, or_false] at h; omega)
  clear hk hB
  refine wpList_nil ?_
  refine hK2 _ _ ?_
  refine wp_seq_k (fun K3 hK3 => ?_)
  refine wp_region_lit ?_
  refine sr0 hf hM [14, 5, 4, 2] [{}] (env' := [(14, .val (.slice av l.length c)), (5, .val (.bool (hasV l 0))), (4, .val (.pointer (some ⟨B3, 0, none⟩))), (2, .val (.pointer (some ⟨B1, 0, none⟩)))]) (ob := []) (fun B => by as_aux_lemma => kernel_rfl) rfl An ?_
  clear hf; intro a hf
  refine sxcall hf rfl rfl rfl rfl (g := 43) (vs := [.slice av l.length c, .int .i64 1]) (ob := []) (by as_aux_lemma => kernel_rfl) An enters43 (rfind av l c 1 w3  (hav.keepNn hk0) (by first | omega | (simp; omega) | (simp; done) | exact Nat.le_trans (byKinds_len _ _) (by omega) | decide)) ?_
  clear hf; rintro _ w4 a ⟨rfl, hk⟩ hf
  have hM := hM.keepNn hk
  have hk0 := hk0.trans hk.nn
  clear hk
  refine sr hf hM [7, 6, 5, 4, 2] [{}, {}, {}, { os := [.nw] }, { os := [.st 2 0, .st 2 1, .st 2 2] }, {}] (env' := fun B5 => [(7, .val (.bool (hasV l 1))), (6, .val (.pointer (some ⟨B5, 0, none⟩))), (5, .val (.bool (hasV l 0))), (4, .val (.pointer (some ⟨B3, 0, none⟩))), (2, .val (.pointer (some ⟨B1, 0, none⟩)))]) (M' := fun B5 => [⟨B1, 50, [.int .i64 0, .int .i64 0, .int .i64 0, .int .i64 0]⟩, ⟨B3, 62, [.int .i64 (findV l 0).k, .int .i64 (findV l 0).a, .int .i64 (findV l 0).b]⟩, ⟨B5, 62, [.int .i64 (findV l 1).k, .int .i64 (findV l 1).a, .int .i64 (findV l 1).b]⟩]) (ob := fun B5 => [Ad B5 0, Ad B5 1, Ad B5 2]) (fun B => by as_aux_lemma => kernel_rfl) (fun B5 => (Ac (ad _ _) (Ac (ad _ _) (Ao (ad _ _))))) ?_
  clear hf hM; intro a w5 B5 hf hM hB hk
  have hbB5 : w.heap.size ≤ B5 := by have := hk0.size; omega
  have hk0 := hk0.then hk (by intro i hi h; simp only [Is, Mem.names, List.map_cons, List.map_nil, List.mem_cons, List.not_mem_nil, or_false] at h; omega)
  clear hk hB
  refine wpList_nil ?_
  refine hK3 _ _ ?_
  refine wp_seq_k (fun K4 hK4 => ?_)
  refine wp_seq_k (fun K5 hK5 => ?_)
  refine wp_region_lit ?_
  refine sr0 hf hM [23, 6, 4, 2] [{}, {}, {}, { g := .sym }, { g := .sym }, { hint := some (.bool ((!(hasV l 0)) || (!(hasV l 1)))) }] (env' := [(23, .val (.bool ((!(hasV l 0)) || (!(hasV l 1))))), (6, .val (.pointer (some ⟨B5, 0, none⟩))), (4, .val (.pointer (some ⟨B3, 0, none⟩))), (2, .val (.pointer (some ⟨B1, 0, none⟩)))]) (ob := [((!(hasV l 0)) = false → (!(hasV l 0)) = (!(hasV l 0))), ((!(hasV l 0)) = false → (!(hasV l 0)) = (!(hasV l 0))), (bif !(hasV l 0) then (.bool true : Value) else .bool (!(hasV l 1))) = .bool ((!(hasV l 0)) || (!(hasV l 1)))]) (fun B => by as_aux_lemma => kernel_rfl) rfl (Ac (fun hgd => rfl) (Ac (fun _ => rfl) (Ao (pick_or _ _)))) ?_
  clear hf; intro a hf
  refine wpList_nil ?_
  refine hK5 _ _ ?_
  refine sxcond hf (b := ((!(hasV l 0)) || (!(hasV l 1)))) (by kernel_rfl) (fun hc1 => ?_) (fun hc1 => ?_)
  · have hc1r := hc1
    try simp only [Bool.or_eq_true, Bool.and_eq_true, Bool.not_eq_true', Bool.not_eq_false', Bool.or_eq_false_iff, Bool.and_eq_false_iff, decide_eq_true_eq, decide_eq_false_iff_not, beq_iff_eq, bne_iff_ne, beq_eq_false_iff_ne, bne_eq_false_iff_eq, Bool.and_true, Bool.true_and, ne_eq] at hc1
    refine wp_seq_k (fun K6 hK6 => ?_)
    refine wp_region_lit ?_
    refine sr hf hM [3, 2] [{ sp := true }, { os := [.st 0 0, .st 0 1, .st 0 2, .st 0 3] }, {}] (env' := fun B7 => [(3, .val (.bool false)), (2, .val (.pointer (some ⟨B1, 0, none⟩)))]) (M' := fun B7 => [⟨B1, 50, [.int .i64 0, .int .i64 0, .int .i64 0, .int .i64 0]⟩, ⟨B3, 62, [.int .i64 (findV l 0).k, .int .i64 (findV l 0).a, .int .i64 (findV l 0).b]⟩, ⟨B5, 62, [.int .i64 (findV l 1).k, .int .i64 (findV l 1).a, .int .i64 (findV l 1).b]⟩]) (ob := fun B7 => [Ad B1 0, Ad B1 1, Ad B1 2, Ad B1 3]) (fun B => by as_aux_lemma => kernel_rfl) (fun B7 => (Ac (ad _ _) (Ac (ad _ _) (Ac (ad _ _) (Ao (ad _ _)))))) ?_
    clear hf hM; intro a w6 B7 hf hM hB hk
    have hbB7 : w.heap.size ≤ B7 := by have := hk0.size; omega
    have hk0 := hk0.then hk (by intro i hi h; simp only [Is, Mem.names, List.map_cons, List.map_nil, List.mem_cons, List.not_mem_nil, or_false] at h; omega)
    clear hk hB
    refine wpList_nil ?_
    refine hK6 _ _ ?_
    refine wp_ret ?_
    refine sxret (fn := Tryd.f44) hf hM [.ld 0 0, .ld 0 1, .ld 0 2, .ld 0 3] (l := [.agg #[.int .i64 0, .int .i64 0, .int .i64 0, .int .i64 0], .bool false]) (M' := [⟨B1, 50, [.int .i64 0, .int .i64 0, .int .i64 0, .int .i64 0]⟩, ⟨B3, 62, [.int .i64 (findV l 0).k, .int .i64 (findV l 0).a, .int .i64 (findV l 0).b]⟩, ⟨B5, 62, [.int .i64 (findV l 1).k, .int .i64 (findV l 1).a, .int .i64 (findV l 1).b]⟩]) (d' := false) (ob := [Ad B1 0, Ad B1 1, Ad B1 2, Ad B1 3]) (by kernel_rfl) (fun B => ⟨B, by as_aux_lemma => kernel_rfl⟩) rfl (Ac (ad _ _) (Ac (ad _ _) (Ac (ad _ _) (Ao (ad _ _))))) ?_
    show (.tuple #[.agg #[.int .i64 0, .int .i64 0, .int .i64 0, .int .i64 0], .bool false] : Value) = .tuple #[.agg #[.int .i64 0, .int .i64 0, .int .i64 0, .int .i64 0], .bool false] ∧ Keep Nn w w6
    exact ⟨rfl, hk0⟩
  · have hc1r := hc1
    try simp only [Bool.or_eq_true, Bool.and_eq_true, Bool.not_eq_true', Bool.not_eq_false', Bool.or_eq_false_iff, Bool.and_eq_false_iff, decide_eq_true_eq, decide_eq_false_iff_not, beq_iff_eq, bne_iff_ne, beq_eq_false_iff_ne, bne_eq_false_iff_eq, Bool.and_true, Bool.true_and, ne_eq] at hc1
    refine wp_skip ?_
    refine hK4 _ _ ?_
    refine wp_seq_k (fun K7 hK7 => ?_)
    refine wp_region_lit ?_
    refine sr0 hf hM [34, 29, 2] [{}, { os := [.ld 1 1] }, {}, { os := [.ld 1 2] }, { sp := true }, {}, { os := [.ld 2 1] }, {}, { os := [.ld 2 2] }, { sp := true }] (env' := [(34, .val (.agg #[.int .i64 (findV l 1).a, .int .i64 (findV l 1).b])), (29, .val (.agg #[.int .i64 (findV l 0).a, .int .i64 (findV l 0).b])), (2, .val (.pointer (some ⟨B1, 0, none⟩)))]) (ob := [Ad B3 1, Ad B3 2, Ad B5 1, Ad B5 2]) (fun B => by as_aux_lemma => kernel_rfl) rfl (Ac (ad _ _) (Ac (ad _ _) (Ac (ad _ _) (Ao (ad _ _))))) ?_
    clear hf; intro a hf
    rcases Bool.eq_false_or_eq_true (ofOk (findV l 0).a (findV l 0).b (findV l 1).a (findV l 1).b) with hs1 | hs1
    · have hs1r := hs1
      try simp only [Bool.or_eq_true, Bool.and_eq_true, Bool.not_eq_true', Bool.not_eq_false', Bool.or_eq_false_iff, Bool.and_eq_false_iff, decide_eq_true_eq, decide_eq_false_iff_not, beq_iff_eq, bne_iff_ne, beq_eq_false_iff_ne, bne_eq_false_iff_eq, Bool.and_true, Bool.true_and, ne_eq] at hs1
      refine sxcall hf rfl rfl rfl rfl (g := 78) (vs := [.agg #[.int .i64 (findV l 0).a, .int .i64 (findV l 0).b], .agg #[.int .i64 (findV l 1).a, .int .i64 (findV l 1).b]]) (ob := []) (by as_aux_lemma => kernel_rfl) An enters78 (r1of_ok (findV l 0).a (findV l 0).b (findV l 1).a (findV l 1).b w5 hs1r ) ?_
      clear hf; rintro _ w7 a ⟨rfl, hk⟩ hf
      have hM := hM.keepNn hk
      have hk0 := hk0.trans hk.nn
      clear hk
      refine sr hf hM [3, 2] [{}, {}, { os := [.st 0 0, .st 0 1, .st 0 2, .st 0 3] }, {}] (env' := fun B9 => [(3, .val (.bool true)), (2, .val (.pointer (some ⟨B1, 0, none⟩)))]) (M' := fun B9 => [⟨B1, 50, [.int .i64 ((findV l 0).a - (findV l 1).a), .int .i64 ((findV l 0).b - (findV l 1).b), .int .i64 ((findV l 0).a + (findV l 1).a), .int .i64 ((findV l 0).b + (findV l 1).b)]⟩, ⟨B3, 62, [.int .i64 (findV l 0).k, .int .i64 (findV l 0).a, .int .i64 (findV l 0).b]⟩, ⟨B5, 62, [.int .i64 (findV l 1).k, .int .i64 (findV l 1).a, .int .i64 (findV l 1).b]⟩]) (ob := fun B9 => [Ad B1 0, Ad B1 1, Ad B1 2, Ad B1 3]) (fun B => by as_aux_lemma => kernel_rfl) (fun B9 => (Ac (ad _ _) (Ac (ad _ _) (Ac (ad _ _) (Ao (ad _ _)))))) ?_
      clear hf hM; intro a w8 B9 hf hM hB hk
      have hbB9 : w.heap.size ≤ B9 := by have := hk0.size; omega
      have hk0 := hk0.then hk (by intro i hi h; simp only [Is, Mem.names, List.map_cons, List.map_nil, List.mem_cons, List.not_mem_nil, or_false] at h; omega)
      clear hk hB
      refine wpList_nil ?_
      refine hK7 _ _ ?_
      refine wp_ret ?_
      refine sxret (fn := Tryd.f44) hf hM [.ld 0 0, .ld 0 1, .ld 0 2, .ld 0 3] (l := [.agg #[.int .i64 ((findV l 0).a - (findV l 1).a), .int .i64 ((findV l 0).b - (findV l 1).b), .int .i64 ((findV l 0).a + (findV l 1).a), .int .i64 ((findV l 0).b + (findV l 1).b)], .bool true]) (M' := [⟨B1, 50, [.int .i64 ((findV l 0).a - (findV l 1).a), .int .i64 ((findV l 0).b - (findV l 1).b), .int .i64 ((findV l 0).a + (findV l 1).a), .int .i64 ((findV l 0).b + (findV l 1).b)]⟩, ⟨B3, 62, [.int .i64 (findV l 0).k, .int .i64 (findV l 0).a, .int .i64 (findV l 0).b]⟩, ⟨B5, 62, [.int .i64 (findV l 1).k, .int .i64 (findV l 1).a, .int .i64 (findV l 1).b]⟩]) (d' := false) (ob := [Ad B1 0, Ad B1 1, Ad B1 2, Ad B1 3]) (by kernel_rfl) (fun B => ⟨B, by as_aux_lemma => kernel_rfl⟩) rfl (Ac (ad _ _) (Ac (ad _ _) (Ac (ad _ _) (Ao (ad _ _))))) ?_
      show (.tuple #[.agg #[.int .i64 ((findV l 0).a - (findV l 1).a), .int .i64 ((findV l 0).b - (findV l 1).b), .int .i64 ((findV l 0).a + (findV l 1).a), .int .i64 ((findV l 0).b + (findV l 1).b)], .bool true] : Value) = .tuple #[.agg #[.int .i64 0, .int .i64 0, .int .i64 0, .int .i64 0], .bool false] ∧ Keep Nn w w8
      exfalso
      have hh := hn0
      simp only [hasBox] at hh
      try simp only [hc1, Bool.and_true, Bool.true_and] at hh
      try simp only [hs1, Bool.and_true, Bool.true_and] at hh
      simp_all
    · have hs1r := hs1
      try simp only [Bool.or_eq_true, Bool.and_eq_true, Bool.not_eq_true', Bool.not_eq_false', Bool.or_eq_false_iff, Bool.and_eq_false_iff, decide_eq_true_eq, decide_eq_false_iff_not, beq_iff_eq, bne_iff_ne, beq_eq_false_iff_ne, bne_eq_false_iff_eq, Bool.and_true, Bool.true_and, ne_eq] at hs1
      refine sxcall hf rfl rfl rfl rfl (g := 78) (vs := [.agg #[.int .i64 (findV l 0).a, .int .i64 (findV l 0).b], .agg #[.int .i64 (findV l 1).a, .int .i64 (findV l 1).b]]) (ob := []) (by as_aux_lemma => kernel_rfl) An enters78 (r1of_no (findV l 0).a (findV l 0).b (findV l 1).a (findV l 1).b w5 hs1r ) ?_
      clear hf; rintro _ w9 a ⟨rfl, hk⟩ hf
      have hM := hM.keepNn hk
      have hk0 := hk0.trans hk.nn
      clear hk
      refine sr hf hM [3, 2] [{}, {}, { os := [.st 0 0, .st 0 1, .st 0 2, .st 0 3] }, {}] (env' := fun B10 => [(3, .val (.bool false)), (2, .val (.pointer (some ⟨B1, 0, none⟩)))]) (M' := fun B10 => [⟨B1, 50, [.int .i64 0, .int .i64 0, .int .i64 0, .int .i64 0]⟩, ⟨B3, 62, [.int .i64 (findV l 0).k, .int .i64 (findV l 0).a, .int .i64 (findV l 0).b]⟩, ⟨B5, 62, [.int .i64 (findV l 1).k, .int .i64 (findV l 1).a, .int .i64 (findV l 1).b]⟩]) (ob := fun B10 => [Ad B1 0, Ad B1 1, Ad B1 2, Ad B1 3]) (fun B => by as_aux_lemma => kernel_rfl) (fun B10 => (Ac (ad _ _) (Ac (ad _ _) (Ac (ad _ _) (Ao (ad _ _)))))) ?_
      clear hf hM; intro a w10 B10 hf hM hB hk
      have hbB10 : w.heap.size ≤ B10 := by have := hk0.size; omega
      have hk0 := hk0.then hk (by intro i hi h; simp only [Is, Mem.names, List.map_cons, List.map_nil, List.mem_cons, List.not_mem_nil, or_false] at h; omega)
      clear hk hB
      refine wpList_nil ?_
      refine hK7 _ _ ?_
      refine wp_ret ?_
      refine sxret (fn := Tryd.f44) hf hM [.ld 0 0, .ld 0 1, .ld 0 2, .ld 0 3] (l := [.agg #[.int .i64 0, .int .i64 0, .int .i64 0, .int .i64 0], .bool false]) (M' := [⟨B1, 50, [.int .i64 0, .int .i64 0, .int .i64 0, .int .i64 0]⟩, ⟨B3, 62, [.int .i64 (findV l 0).k, .int .i64 (findV l 0).a, .int .i64 (findV l 0).b]⟩, ⟨B5, 62, [.int .i64 (findV l 1).k, .int .i64 (findV l 1).a, .int .i64 (findV l 1).b]⟩]) (d' := false) (ob := [Ad B1 0, Ad B1 1, Ad B1 2, Ad B1 3]) (by kernel_rfl) (fun B => ⟨B, by as_aux_lemma => kernel_rfl⟩) rfl (Ac (ad _ _) (Ac (ad _ _) (Ac (ad _ _) (Ao (ad _ _))))) ?_
      show (.tuple #[.agg #[.int .i64 0, .int .i64 0, .int .i64 0, .int .i64 0], .bool false] : Value) = .tuple #[.agg #[.int .i64 0, .int .i64 0, .int .i64 0, .int .i64 0], .bool false] ∧ Keep Nn w w10
      exact ⟨rfl, hk0⟩

set_option maxRecDepth 10000 in
set_option maxHeartbeats 4000000 in
theorem sblocks (E : Nat → Addr) (av : Option Addr) (l : List V3) (c : Nat) (w : World) (hav : Arr w 3 av l.length c (flat fV l)) (hbav : l.length ≤ 1000000) (hG : Errs [0, 1, 2, 3, 4, 5, 6, 7, 8, 9] w 185 E) :
    Calls Tryd.prog 47 #[.slice av l.length c] w (Ret fun v w' => v = .bool (hasBox l && hasV l 3) ∧ Keep Nn w w') := by
  refine sxenter (n := 21) (args := [.slice av l.length c]) Tryd.func47 rfl rfl rfl fun a hf => ?_
  replace hf : Fr 21 [(0, .val (.slice av l.length c))] a := hf
  have hM : MemOk [] w := MemOk.nil w
  have hk0 : Keep Nn w w := Keep.refl _ _
  refine wp_seq_k (fun K1 hK1 => ?_)
  refine wp_region_lit ?_
  refine sr0 hf hM [0] [{}] (env' := [(0, .val (.slice av l.length c))]) (ob := []) (fun B => by as_aux_lemma => kernel_rfl) rfl An ?_
  clear hf; intro a hf
  refine wpList_nil ?_
  refine hK1 _ _ ?_
  refine wp_seq_k (fun K2 hK2 => ?_)
  refine wp_region_lit ?_
  refine sr0 hf hM [8, 0] [{}] (env' := [(8, .val (.slice av l.length c)), (0, .val (.slice av l.length c))]) (ob := []) (fun B => by as_aux_lemma => kernel_rfl) rfl An ?_
  clear hf; intro a hf
  rcases Bool.eq_false_or_eq_true (hasBox l) with hs1 | hs1
  · have hs1r := hs1
    try simp only [Bool.or_eq_true, Bool.and_eq_true, Bool.not_eq_true', Bool.not_eq_false', Bool.or_eq_false_iff, Bool.and_eq_false_iff, decide_eq_true_eq, decide_eq_false_iff_not, beq_iff_eq, bne_iff_ne, beq_eq_false_iff_ne, bne_eq_false_iff_eq, Bool.and_true, Bool.true_and, ne_eq] at hs1
    refine sxcall hf rfl rfl rfl rfl (g := 32) (vs := [.slice av l.length c]) (ob := []) (by as_aux_lemma => kernel_rfl) An enters32 (sbox_ok E av l c w hs1r (hav.keepNn hk0) (by first | omega | (simp; omega) | (simp; done) | exact Nat.le_trans (byKinds_len _ _) (by omega) | decide) (hG.keep hk0 (fun _ h => h))) ?_
    clear hf; rintro _ w1 a ⟨rfl, hk⟩ hf
    have hM := hM.keepNn hk
    have hk0 := hk0.trans hk.nn
    clear hk
    refine sr hf hM [4, 0] [{}, {}, {}, { os := [.nw] }, { os := [.st 0 0, .st 0 1, .st 0 2, .st 0 3] }, {}] (env' := fun B3 => [(4, .val (.bool true)), (0, .val (.slice av l.length c))]) (M' := fun B3 => [⟨B3, 50, [.int .i64 ((findV l 0).a - (findV l 1).a), .int .i64 ((findV l 0).b - (findV l 1).b), .int .i64 ((findV l 0).a + (findV l 1).a), .int .i64 ((findV l 0).b + (findV l 1).b)]⟩]) (ob := fun B3 => [Ad B3 0, Ad B3 1, Ad B3 2, Ad B3 3]) (fun B => by as_aux_lemma => kernel_rfl) (fun B3 => (Ac (ad _ _) (Ac (ad _ _) (Ac (ad _ _) (Ao (ad _ _)))))) ?_
    clear hf hM; intro a w2 B3 hf hM hB hk
    have hbB3 : w.heap.size ≤ B3 := by have := hk0.size; omega
    have hk0 := hk0.then hk (by intro i _ h; cases h)
    clear hk hB
    refine wpList_nil ?_
    refine hK2 _ _ ?_
    refine wp_seq_k (fun K3 hK3 => ?_)
    refine wp_region_lit ?_
    refine sr0 hf hM [13, 4] [{}] (env' := [(13, .val (.slice av l.length c)), (4, .val (.bool true))]) (ob := []) (fun B => by as_aux_lemma => kernel_rfl) rfl An ?_
    clear hf; intro a hf
    refine sxcall hf rfl rfl rfl rfl (g := 42) (vs := [.slice av l.length c, .int .i64 3]) (ob := []) (by as_aux_lemma => kernel_rfl) An enters42 (sfind av l c 3 w2  (hav.keepNn hk0) (by first | omega | (simp; omega) | (simp; done) | exact Nat.le_trans (byKinds_len _ _) (by omega) | decide)) ?_
    clear hf; rintro _ w3 a ⟨rfl, hk⟩ hf
    have hM := hM.keepNn hk
    have hk0 := hk0.trans hk.nn
    clear hk
    refine sr hf hM [6, 4] [{}, {}, {}, { os := [.nw] }, { os := [.st 1 0, .st 1 1, .st 1 2] }, {}] (env' := fun B5 => [(6, .val (.bool (hasV l 3))), (4, .val (.bool true))]) (M' := fun B5 => [⟨B3, 50, [.int .i64 ((findV l 0).a - (findV l 1).a), .int .i64 ((findV l 0).b - (findV l 1).b), .int .i64 ((findV l 0).a + (findV l 1).a), .int .i64 ((findV l 0).b + (findV l 1).b)]⟩, ⟨B5, 62, [.int .i64 (findV l 3).k, .int .i64 (findV l 3).a, .int .i64 (findV l 3).b]⟩]) (ob := fun B5 => [Ad B5 0, Ad B5 1, Ad B5 2]) (fun B => by as_aux_lemma => kernel_rfl) (fun B5 => (Ac (ad _ _) (Ac (ad _ _) (Ao (ad _ _))))) ?_
    clear hf hM; intro a w4 B5 hf hM hB hk
    have hbB5 : w.heap.size ≤ B5 := by have := hk0.size; omega
    have hk0 := hk0.then hk (by intro i hi h; simp only [Is, Mem.names, List.map_cons, List.map_nil, List.mem_cons, List.not_mem_nil, or_false] at h; omega)
    clear hk hB
    refine wpList_nil ?_
    refine hK3 _ _ ?_
    refine wp_seq_k (fun K4 hK4 => ?_)
    refine wp_region_lit ?_
    refine sr0 hf hM [2] [{}, {}, {}, {}, {}] (env' := [(2, .val (.bool (hasV l 3)))]) (ob := [true = true]) (fun B => by as_aux_lemma => kernel_rfl) rfl (Ao rfl) ?_
    clear hf; intro a hf
    refine wpList_nil ?_
    refine hK4 _ _ ?_
    refine wp_ret ?_
    refine sxret (fn := Tryd.f47) hf hM [] (l := [.bool (hasV l 3)]) (M' := [⟨B3, 50, [.int .i64 ((findV l 0).a - (findV l 1).a), .int .i64 ((findV l 0).b - (findV l 1).b), .int .i64 ((findV l 0).a + (findV l 1).a), .int .i64 ((findV l 0).b + (findV l 1).b)]⟩, ⟨B5, 62, [.int .i64 (findV l 3).k, .int .i64 (findV l 3).a, .int .i64 (findV l 3).b]⟩]) (d' := false) (ob := []) (by kernel_rfl) (fun B => ⟨B, by as_aux_lemma => kernel_rfl⟩) rfl An ?_
    show (.bool (hasV l 3) : Value) = .bool (hasBox l && hasV l 3) ∧ Keep Nn w w4
    refine ⟨congrArg Value.bool ?_, hk0⟩
    try simp only [hs1]
    simp_all
  · have hs1r := hs1
    try simp only [Bool.or_eq_true, Bool.and_eq_true, Bool.not_eq_true', Bool.not_eq_false', Bool.or_eq_false_iff, Bool.and_eq_false_iff, decide_eq_true_eq, decide_eq_false_iff_not, beq_iff_eq, bne_iff_ne, beq_eq_false_iff_ne, bne_eq_false_iff_eq, Bool.and_true, Bool.true_and, ne_eq] at hs1
    refine sxcall hf rfl rfl rfl rfl (g := 32) (vs := [.slice av l.length c]) (ob := []) (by as_aux_lemma => kernel_rfl) An enters32 (sbox_no E av l c w hs1r (hav.keepNn hk0) (by first | omega | (simp; omega) | (simp; done) | exact Nat.le_trans (byKinds_len _ _) (by omega) | decide) (hG.keep hk0 (fun _ h => h))) ?_
    clear hf; rintro _ w5 a ⟨rfl, hk⟩ hf
    have hM := hM.keepNn hk
    have hk0 := hk0.trans hk.nn
    clear hk
    refine sr hf hM [4, 0] [{}, {}, {}, { os := [.nw] }, { os := [.st 0 0, .st 0 1, .st 0 2, .st 0 3] }, {}] (env' := fun B7 => [(4, .val (.bool false)), (0, .val (.slice av l.length c))]) (M' := fun B7 => [⟨B7, 50, [.int .i64 0, .int .i64 0, .int .i64 0, .int .i64 0]⟩]) (ob := fun B7 => [Ad B7 0, Ad B7 1, Ad B7 2, Ad B7 3]) (fun B => by as_aux_lemma => kernel_rfl) (fun B7 => (Ac (ad _ _) (Ac (ad _ _) (Ac (ad _ _) (Ao (ad _ _)))))) ?_
    clear hf hM; intro a w6 B7 hf hM hB hk
    have hbB7 : w.heap.size ≤ B7 := by have := hk0.size; omega
    have hk0 := hk0.then hk (by intro i _ h; cases h)
    clear hk hB
    refine wpList_nil ?_
    refine hK2 _ _ ?_
    refine wp_seq_k (fun K5 hK5 => ?_)
    refine wp_region_lit ?_
    refine sr0 hf hM [13, 4] [{}] (env' := [(13, .val (.slice av l.length c)), (4, .val (.bool false))]) (ob := []) (fun B => by as_aux_lemma => kernel_rfl) rfl An ?_
    clear hf; intro a hf
    refine sxcall hf rfl rfl rfl rfl (g := 42) (vs := [.slice av l.length c, .int .i64 3]) (ob := []) (by as_aux_lemma => kernel_rfl) An enters42 (sfind av l c 3 w6  (hav.keepNn hk0) (by first | omega | (simp; omega) | (simp; done) | exact Nat.le_trans (byKinds_len _ _) (by omega) | decide)) ?_
    clear hf; rintro _ w7 a ⟨rfl, hk⟩ hf
    have hM := hM.keepNn hk
    have hk0 := hk0.trans hk.nn
    clear hk
    refine sr hf hM [6, 4] [{}, {}, {}, { os := [.nw] }, { os := [.st 1 0, .st 1 1, .st 1 2] }, {}] (env' := fun B9 => [(6, .val (.bool (hasV l 3))), (4, .val (.bool false))]) (M' := fun B9 => [⟨B7, 50, [.int .i64 0, .int .i64 0, .int .i64 0, .int .i64 0]⟩, ⟨B9, 62, [.int .i64 (findV l 3).k, .int .i64 (findV l 3).a, .int .i64 (findV l 3).b]⟩]) (ob := fun B9 => [Ad B9 0, Ad B9 1, Ad B9 2]) (fun B => by as_aux_lemma => kernel_rfl) (fun B9 => (Ac (ad _ _) (Ac (ad _ _) (Ao (ad _ _))))) ?_
    clear hf hM; intro a w8 B9 hf hM hB hk
    have hbB9 : w.heap.size ≤ B9 := by have := hk0.size; omega
    have hk0 := hk0.then hk (by intro i hi h; simp only [Is, Mem.names, List.map_cons, List.map_nil, List.mem_cons, List.not_mem_nil, or_false] at h; omega)
    clear hk hB
    refine wpList_nil ?_
    refine hK5 _ _ ?_
    refine wp_seq_k (fun K6 hK6 => ?_)
    refine wp_region_lit ?_
    refine sr0 hf hM [2] [{}, {}, { g := .off }, {}, {}] (env' := [(2, .val (.bool false))]) (ob := [false = !true]) (fun B => by as_aux_lemma => kernel_rfl) rfl (Ao rfl) ?_
    clear hf; intro a hf
    refine wpList_nil ?_
    refine hK6 _ _ ?_
    refine wp_ret ?_
    refine sxret (fn := Tryd.f47) hf hM [] (l := [.bool false]) (M' := [⟨B7, 50, [.int .i64 0, .int .i64 0, .int .i64 0, .int .i64 0]⟩, ⟨B9, 62, [.int .i64 (findV l 3).k, .int .i64 (findV l 3).a, .int .i64 (findV l 3).b]⟩]) (d' := false) (ob := []) (by kernel_rfl) (fun B => ⟨B, by as_aux_lemma => kernel_rfl⟩) rfl An ?_
    show (.bool false : Value) = .bool (hasBox l && hasV l 3) ∧ Keep Nn w w8
    refine ⟨congrArg Value.bool ?_, hk0⟩
    try simp only [hs1]
    simp_all

set_option maxRecDepth 10000 in
set_option maxHeartbeats 4000000 in
theorem rblocks (av : Option Addr) (l : List V3) (c : Nat) (w : World) (hav : Arr w 3 av l.length c (flat fV l)) (hbav : l.length ≤ 1000000) :
    Calls Tryd.prog 48 #[.slice av l.length c] w (Ret fun v w' => v = .bool (hasBox l && hasV l 3) ∧ Keep Nn w w') := by
  refine sxenter (n := 21) (args := [.slice av l.length c]) Tryd.func48 rfl rfl rfl fun a hf => ?_
  replace hf : Fr 21 [(0, .val (.slice av l.length c))] a := hf
  have hM : MemOk [] w := MemOk.nil w
  have hk0 : Keep Nn w w := Keep.refl _ _
  refine wp_seq_k (fun K1 hK1 => ?_)
  refine wp_region_lit ?_
  refine sr0 hf hM [0] [{}] (env' := [(0, .val (.slice av l.length c))]) (ob := []) (fun B => by as_aux_lemma => kernel_rfl) rfl An ?_
  clear hf; intro a hf
  refine wpList_nil ?_
  refine hK1 _ _ ?_
  refine wp_seq_k (fun K2 hK2 => ?_)
  refine wp_region_lit ?_
  refine sr0 hf hM [8, 0] [{}] (env' := [(8, .val (.slice av l.length c)), (0, .val (.slice av l.length c))]) (ob := []) (fun B => by as_aux_lemma => kernel_rfl) rfl An ?_
  clear hf; intro a hf
  rcases Bool.eq_false_or_eq_true (hasBox l) with hs1 | hs1
  · have hs1r := hs1
    try simp only [Bool.or_eq_true, Bool.and_eq_true, Bool.not_eq_true', Bool.not_eq_false', Bool.or_eq_false_iff, Bool.and_eq_false_iff, decide_eq_true_eq, decide_eq_false_iff_not, beq_iff_eq, bne_iff_ne, beq_eq_false_iff_ne, bne_eq_false_iff_eq, Bool.and_true, Bool.true_and, ne_eq] at hs1
    refine sxcall hf rfl rfl rfl rfl (g := 44) (vs := [.slice av l.length c]) (ob := []) (by as_aux_lemma => kernel_rfl) An enters44 (rbox_ok av l c w hs1r (hav.keepNn hk0) (by first | omega | (simp; omega) | (simp; done) | exact Nat.le_trans (byKinds_len _ _) (by omega) | decide)) ?_
    clear hf; rintro _ w1 a ⟨rfl, hk⟩ hf
    have hM := hM.keepNn hk
    have hk0 := hk0.trans hk.nn
    clear hk
    refine sr hf hM [4, 0] [{}, {}, {}, { os := [.nw] }, { os := [.st 0 0, .st 0 1, .st 0 2, .st 0 3] }, {}] (env' := fun B3 => [(4, .val (.bool true)), (0, .val (.slice av l.length c))]) (M' := fun B3 => [⟨B3, 50, [.int .i64 ((findV l 0).a - (findV l 1).a), .int .i64 ((findV l 0).b - (findV l 1).b), .int .i64 ((findV l 0).a + (findV l 1).a), .int .i64 ((findV l 0).b + (findV l 1).b)]⟩]) (ob := fun B3 => [Ad B3 0, Ad B3 1, Ad B3 2, Ad B3 3]) (fun B => by as_aux_lemma => kernel_rfl) (fun B3 => (Ac (ad _ _) (Ac (ad _ _) (Ac (ad _ _) (Ao (ad _ _)))))) ?_
    clear hf hM; intro a w2 B3 hf hM hB hk
    have hbB3 : w.heap.size ≤ B3 := by have := hk0.size; omega
    have hk0 := hk0.then hk (by intro i _ h; cases h)
    clear hk hB
    refine wpList_nil ?_
    refine hK2 _ _ ?_
    refine wp_seq_k (fun K3 hK3 => ?_)
    refine wp_region_lit ?_
    refine sr0 hf hM [13, 4] [{}] (env' := [(13, .val (.slice av l.length c)), (4, .val (.bool true))]) (ob := []) (fun B => by as_aux_lemma => kernel_rfl) rfl An ?_
    clear hf; intro a hf
    refine sxcall hf rfl rfl rfl rfl (g := 43) (vs := [.slice av l.length c, .int .i64 3]) (ob := []) (by as_aux_lemma => kernel_rfl) An enters43 (rfind av l c 3 w2  (hav.keepNn hk0) (by first | omega | (simp; omega) | (simp; done) | exact Nat.le_trans (byKinds_len _ _) (by omega) | decide)) ?_
    clear hf; rintro _ w3 a ⟨rfl, hk⟩ hf
    have hM := hM.keepNn hk
    have hk0 := hk0.trans hk.nn
    clear hk
    refine sr hf hM [6, 4] [{}, {}, {}, { os := [.nw] }, { os := [.st 1 0, .st 1 1, .st 1 2] }, {}] (env' := fun B5 => [(6, .val (.bool (hasV l 3))), (4, .val (.bool true))]) (M' := fun B5 => [⟨B3, 50, [.int .i64 ((findV l 0).a - (findV l 1).a), .int .i64 ((findV l 0).b - (findV l 1).b), .int .i64 ((findV l 0).a + (findV l 1).a), .int .i64 ((findV l 0).b + (findV l 1).b)]⟩, ⟨B5, 62, [.int .i64 (findV l 3).k, .int .i64 (findV l 3).a, .int .i64 (findV l 3).b]⟩]) (ob := fun B5 => [Ad B5 0, Ad B5 1, Ad B5 2]) (fun B => by as_aux_lemma => kernel_rfl) (fun B5 => (Ac (ad _ _) (Ac (ad _ _) (Ao (ad _ _))))) ?_
    clear hf hM; intro a w4 B5 hf hM hB hk
    have hbB5 : w.heap.size ≤ B5 := by have := hk0.size; omega
    have hk0 := hk0.then hk (by intro i hi h; simp only [Is, Mem.names, List.map_cons, List.map_nil, List.mem_cons, List.not_mem_nil, or_false] at h; omega)
    clear hk hB
    refine wpList_nil ?_
    refine hK3 _ _ ?_
    refine wp_seq_k (fun K4 hK4 => ?_)
    refine wp_region_lit ?_
    refine sr0 hf hM [2] [{}, {}, {}, {}, {}] (env' := [(2, .val (.bool (hasV l 3)))]) (ob := [true = true]) (fun B => by as_aux_lemma => kernel_rfl) rfl (Ao rfl) ?_
    clear hf; intro a hf
    refine wpList_nil ?_
    refine hK4 _ _ ?_
    refine wp_ret ?_
    refine sxret (fn := Tryd.f48) hf hM [] (l := [.bool (hasV l 3)]) (M' := [⟨B3, 50, [.int .i64 ((findV l 0).a - (findV l 1).a), .int .i64 ((findV l 0).b - (findV l 1).b), .int .i64 ((findV l 0).a + (findV l 1).a), .int .i64 ((findV l 0).b + (findV l 1).b)]⟩, ⟨B5, 62, [.int .i64 (findV l 3).k, .int .i64 (findV l 3).a, .int .i64 (findV l 3).b]⟩]) (d' := false) (ob := []) (by kernel_rfl) (fun B => ⟨B, by as_aux_lemma => kernel_rfl⟩) rfl An ?_
    show (.bool (hasV l 3) : Value) = .bool (hasBox l && hasV l 3) ∧ Keep Nn w w4
    refine ⟨congrArg Value.bool ?_, hk0⟩
    try simp only [hs1]
    simp_all
  · have hs1r := hs1
    try simp only [Bool.or_eq_true, Bool.and_eq_true, Bool.not_eq_true', Bool.not_eq_false', Bool.or_eq_false_iff, Bool.and_eq_false_iff, decide_eq_true_eq, decide_eq_false_iff_not, beq_iff_eq, bne_iff_ne, beq_eq_false_iff_ne, bne_eq_false_iff_eq, Bool.and_true, Bool.true_and, ne_eq] at hs1
    refine sxcall hf rfl rfl rfl rfl (g := 44) (vs := [.slice av l.length c]) (ob := []) (by as_aux_lemma => kernel_rfl) An enters44 (rbox_no av l c w hs1r (hav.keepNn hk0) (by first | omega | (simp; omega) | (simp; done) | exact Nat.le_trans (byKinds_len _ _) (by omega) | decide)) ?_
    clear hf; rintro _ w5 a ⟨rfl, hk⟩ hf
    have hM := hM.keepNn hk
    have hk0 := hk0.trans hk.nn
    clear hk
    refine sr hf hM [4, 0] [{}, {}, {}, { os := [.nw] }, { os := [.st 0 0, .st 0 1, .st 0 2, .st 0 3] }, {}] (env' := fun B7 => [(4, .val (.bool false)), (0, .val (.slice av l.length c))]) (M' := fun B7 => [⟨B7, 50, [.int .i64 0, .int .i64 0, .int .i64 0, .int .i64 0]⟩]) (ob := fun B7 => [Ad B7 0, Ad B7 1, Ad B7 2, Ad B7 3]) (fun B => by as_aux_lemma => kernel_rfl) (fun B7 => (Ac (ad _ _) (Ac (ad _ _) (Ac (ad _ _) (Ao (ad _ _)))))) ?_
    clear hf hM; intro a w6 B7 hf hM hB hk
    have hbB7 : w.heap.size ≤ B7 := by have := hk0.size; omega
    have hk0 := hk0.then hk (by intro i _ h; cases h)
    clear hk hB
    refine wpList_nil ?_
    refine hK2 _ _ ?_
    refine wp_seq_k (fun K5 hK5 => ?_)
    refine wp_region_lit ?_
    refine sr0 hf hM [13, 4] [{}] (env' := [(13, .val (.slice av l.length c)), (4, .val (.bool false))]) (ob := []) (fun B => by as_aux_lemma => kernel_rfl) rfl An ?_
    clear hf; intro a hf
    refine sxcall hf rfl rfl rfl rfl (g := 43) (vs := [.slice av l.length c, .int .i64 3]) (ob := []) (by as_aux_lemma => kernel_rfl) An enters43 (rfind av l c 3 w6  (hav.keepNn hk0) (by first | omega | (simp; omega) | (simp; done) | exact Nat.le_trans (byKinds_len _ _) (by omega) | decide)) ?_
    clear hf; rintro _ w7 a ⟨rfl, hk⟩ hf
    have hM := hM.keepNn hk
    have hk0 := hk0.trans hk.nn
    clear hk
    refine sr hf hM [6, 4] [{}, {}, {}, { os := [.nw] }, { os := [.st 1 0, .st 1 1, .st 1 2] }, {}] (env' := fun B9 => [(6, .val (.bool (hasV l 3))), (4, .val (.bool false))]) (M' := fun B9 => [⟨B7, 50, [.int .i64 0, .int .i64 0, .int .i64 0, .int .i64 0]⟩, ⟨B9, 62, [.int .i64 (findV l 3).k, .int .i64 (findV l 3).a, .int .i64 (findV l 3).b]⟩]) (ob := fun B9 => [Ad B9 0, Ad B9 1, Ad B9 2]) (fun B => by as_aux_lemma => kernel_rfl) (fun B9 => (Ac (ad _ _) (Ac (ad _ _) (Ao (ad _ _))))) ?_
    clear hf hM; intro a w8 B9 hf hM hB hk
    have hbB9 : w.heap.size ≤ B9 := by have := hk0.size; omega
    have hk0 := hk0.then hk (by intro i hi h; simp only [Is, Mem.names, List.map_cons, List.map_nil, List.mem_cons, List.not_mem_nil, or_false] at h; omega)
    clear hk hB
    refine wpList_nil ?_
    refine hK5 _ _ ?_
    refine wp_seq_k (fun K6 hK6 => ?_)
    refine wp_region_lit ?_
    refine sr0 hf hM [2] [{}, {}, { g := .off }, {}, {}] (env' := [(2, .val (.bool false))]) (ob := [false = !true]) (fun B => by as_aux_lemma => kernel_rfl) rfl (Ao rfl) ?_
    clear hf; intro a hf
    refine wpList_nil ?_
    refine hK6 _ _ ?_
    refine wp_ret ?_
    refine sxret (fn := Tryd.f48) hf hM [] (l := [.bool false]) (M' := [⟨B7, 50, [.int .i64 0, .int .i64 0, .int .i64 0, .int .i64 0]⟩, ⟨B9, 62, [.int .i64 (findV l 3).k, .int .i64 (findV l 3).a, .int .i64 (findV l 3).b]⟩]) (d' := false) (ob := []) (by kernel_rfl) (fun B => ⟨B, by as_aux_lemma => kernel_rfl⟩) rfl An ?_
    show (.bool false : Value) = .bool (hasBox l && hasV l 3) ∧ Keep Nn w w8
    refine ⟨congrArg Value.bool ?_, hk0⟩
    try simp only [hs1]
    simp_all
end Go.Proofs.YtifcgjnknikjkaaDoor
