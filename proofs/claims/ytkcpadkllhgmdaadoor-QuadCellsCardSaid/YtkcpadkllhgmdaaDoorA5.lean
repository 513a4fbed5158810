/- laws of layer 12 -/
import Derived.Test.YtkcpadkllhgmdaaDoorA4
namespace Go.Proofs.YtkcpadkllhgmdaaDoor
open Go.Px
set_option linter.unusedVariables false
set_option linter.unusedSimpArgs false
theorem enters11 : enters Tryd.prog 11 := ⟨_, Tryd.func11, by kernel_rfl, rfl⟩
theorem enters15 : enters Tryd.prog 15 := ⟨_, Tryd.func15, by kernel_rfl, rfl⟩
theorem enters16 : enters Tryd.prog 16 := ⟨_, Tryd.func16, by kernel_rfl, rfl⟩
theorem enters17 : enters Tryd.prog 17 := ⟨_, Tryd.func17, by kernel_rfl, rfl⟩
theorem enters18 : enters Tryd.prog 18 := ⟨_, Tryd.func18, by kernel_rfl, rfl⟩
theorem enters19 : enters Tryd.prog 19 := ⟨_, Tryd.func19, by kernel_rfl, rfl⟩
theorem enters20 : enters Tryd.prog 20 := ⟨_, Tryd.func20, by kernel_rfl, rfl⟩
theorem enters21 : enters Tryd.prog 21 := ⟨_, Tryd.func21, by kernel_rfl, rfl⟩

set_option maxRecDepth 10000 in
theorem alive_any (E : Nat → Addr) (w : World) (hG : Errs 10 w 115 E) :
    Calls Tryd.prog 15 #[] w (Ret fun v w' => v = .bool true ∧ Keep Nn w w') := by
  refine sxenter (n := 15) (args := []) Tryd.func15 rfl rfl rfl fun a hf => ?_
  replace hf : Fr 15 [] a := hf
  have hM : MemOk [] w := MemOk.nil w
  have hk0 : Keep Nn w w := Keep.refl _ _
  have hgs := hG.size
  have h1 : boxRight 0 0 10 10 = true := by decide
  have h2 : inWorld 0 0 10 10 = true := by decide
  refine wp_seq_k (fun K1 hK1 => ?_)
  refine wp_region_lit ?_
  refine sr0 hf hM [] [{}] (env' := []) (ob := []) (fun B => by as_aux_lemma => kernel_rfl) rfl An ?_
  clear hf; intro a hf
  refine wpList_nil ?_
  refine hK1 _ _ ?_
  refine wp_seq_k (fun K2 hK2 => ?_)
  refine wp_region_lit ?_
  refine sr0 hf hM [4] [{ sp := true }] (env' := [(4, .val (.agg #[.int .i64 0, .int .i64 0, .int .i64 10, .int .i64 10]))]) (ob := []) (fun B => by as_aux_lemma => kernel_rfl) rfl An ?_
  clear hf; intro a hf
  refine sxcall hf rfl rfl rfl rfl (g := 16) (vs := [.agg #[.int .i64 0, .int .i64 0, .int .i64 10, .int .i64 10]]) (ob := []) (by as_aux_lemma => kernel_rfl) An enters16 (of_ok E 0 0 10 10 w h1 h2 (hG.keep hk0 (fun _ h => h))) ?_
  clear hf; rintro _ w1 a ⟨rfl, hk⟩ hf
  have hM := hM.keepNn hk
  have hk0 := hk0.trans hk.nn
  clear hk
  refine sr hf hM [2, 1] [{}, {}, {}, { os := [.nw] }, { os := [.st 0 0, .st 0 1, .st 0 2] }, {}] (env' := fun B3 => [(2, .val (.nilIface)), (1, .val (.pointer (some ⟨B3, 0, none⟩)))]) (M' := fun B3 => [⟨B3, 44, [.int .i64 (depthOf (bsize 0 0 10 10)), .int .i64 (colOf ((0 + 10) / 2) (depthOf (bsize 0 0 10 10))), .int .i64 (colOf ((0 + 10) / 2) (depthOf (bsize 0 0 10 10)))]⟩]) (ob := fun B3 => [Ad B3 0, Ad B3 1, Ad B3 2]) (fun B => by as_aux_lemma => kernel_rfl) (fun B3 => (Ac (ad _ _) (Ac (ad _ _) (Ao (ad _ _))))) ?_
  clear hf hM; intro a w2 B3 hf hM hB hk
  have hbB3 : w.heap.size ≤ B3 := by have := hk0.size; omega
  have hk0 := hk0.then hk (by intro i _ h; cases h)
  clear hk hB
  refine wpList_nil ?_
  refine hK2 _ _ ?_
  refine wp_seq_k (fun K3 hK3 => ?_)
  refine wp_region_lit ?_
  refine sr0 hf hM [0] [{}, {}, {}, { os := [.ld 0 0, .ld 0 1, .ld 0 2] }, { sp := true }, { sp := true, hint := some (.bool ((((depthOf (bsize 0 0 10 10)) : Int) == 8) && ((((colOf ((0 + 10) / 2) (depthOf (bsize 0 0 10 10))) : Int) == 128) && (((colOf ((0 + 10) / 2) (depthOf (bsize 0 0 10 10))) : Int) == 128)))) }, {}, {}] (env' := [(0, .val (.bool ((((depthOf (bsize 0 0 10 10)) : Int) == 8) && ((((colOf ((0 + 10) / 2) (depthOf (bsize 0 0 10 10))) : Int) == 128) && (((colOf ((0 + 10) / 2) (depthOf (bsize 0 0 10 10))) : Int) == 128)))))]) (ob := [true = true, Ad B3 0, Ad B3 1, Ad B3 2, true = true, true = true, (.bool ((((depthOf (bsize 0 0 10 10)) : Int) == 8) && ((((colOf ((0 + 10) / 2) (depthOf (bsize 0 0 10 10))) : Int) == 128) && ((((colOf ((0 + 10) / 2) (depthOf (bsize 0 0 10 10))) : Int) == 128) && true))) : Value) = (.bool ((((depthOf (bsize 0 0 10 10)) : Int) == 8) && ((((colOf ((0 + 10) / 2) (depthOf (bsize 0 0 10 10))) : Int) == 128) && (((colOf ((0 + 10) / 2) (depthOf (bsize 0 0 10 10))) : Int) == 128))) : Value)]) (fun B => by as_aux_lemma => kernel_rfl) rfl (Ac rfl (Ac (ad _ _) (Ac (ad _ _) (Ac (ad _ _) (Ac rfl (Ac rfl (Ao (by simp)))))))) ?_
  clear hf; intro a hf
  refine wpList_nil ?_
  refine hK3 _ _ ?_
  refine wp_ret ?_
  refine sxret (fn := Tryd.f15) hf hM [] (l := [.bool ((((depthOf (bsize 0 0 10 10)) : Int) == 8) && ((((colOf ((0 + 10) / 2) (depthOf (bsize 0 0 10 10))) : Int) == 128) && (((colOf ((0 + 10) / 2) (depthOf (bsize 0 0 10 10))) : Int) == 128)))]) (M' := [⟨B3, 44, [.int .i64 (depthOf (bsize 0 0 10 10)), .int .i64 (colOf ((0 + 10) / 2) (depthOf (bsize 0 0 10 10))), .int .i64 (colOf ((0 + 10) / 2) (depthOf (bsize 0 0 10 10)))]⟩]) (d' := false) (ob := []) (by kernel_rfl) (fun B => ⟨B, by as_aux_lemma => kernel_rfl⟩) rfl An ?_
  show (.bool ((((depthOf (bsize 0 0 10 10)) : Int) == 8) && ((((colOf ((0 + 10) / 2) (depthOf (bsize 0 0 10 10))) : Int) == 128) && (((colOf ((0 + 10) / 2) (depthOf (bsize 0 0 10 10))) : Int) == 128))) : Value) = .bool true ∧ Keep Nn w w2
  exact ⟨congrArg Value.bool (by decide), hk0⟩

set_option maxRecDepth 10000 in
theorem ql_no (E : Nat → Addr) (d x y : Int) (w : World) (hn0 : (cellRight d x y) = false) (hG : Errs 10 w 115 E) :
    Calls Tryd.prog 5 #[.agg #[.int .i64 d, .int .i64 x, .int .i64 y]] w (Ret fun v w' => v = .bool true ∧ Keep Nn w w') := by
  refine sxenter (n := 121) (args := [.agg #[.int .i64 d, .int .i64 x, .int .i64 y]]) Tryd.func5 rfl rfl rfl fun a hf => ?_
  replace hf : Fr 121 [(0, .val (.agg #[.int .i64 d, .int .i64 x, .int .i64 y]))] a := hf
  have hM : MemOk [] w := MemOk.nil w
  have hk0 : Keep Nn w w := Keep.refl _ _
  have hgs := hG.size
  have hu : upOk d x y = false := by simp [upOk, hn0]
  refine wp_seq_k (fun K1 hK1 => ?_)
  refine wp_region_lit ?_
  refine sr hf hM [1] [{ os := [.nw] }, {}] (env' := fun B1 => [(1, .val (.pointer (some ⟨B1, 0, none⟩)))]) (M' := fun B1 => [⟨B1, 44, [.int .i64 d, .int .i64 x, .int .i64 y]⟩]) (ob := fun B1 => []) (fun B => by as_aux_lemma => kernel_rfl) (fun B1 => An) ?_
  clear hf hM; intro a w1 B1 hf hM hB hk
  have hbB1 : w.heap.size ≤ B1 := by have := hk0.size; omega
  have hk0 := hk0.then hk (by intro i _ h; cases h)
  clear hk hB
  refine wpList_nil ?_
  refine hK1 _ _ ?_
  refine wp_seq_k (fun K2 hK2 => ?_)
  refine wp_seq_k (fun K3 hK3 => ?_)
  refine wp_region_lit ?_
  refine sxcall hf rfl rfl rfl rfl (g := 15) (vs := []) (ob := []) (by as_aux_lemma => kernel_rfl) An enters15 (alive_any E w1  (hG.keep hk0 (fun _ h => h))) ?_
  clear hf; rintro _ w2 a ⟨rfl, hk⟩ hf
  have hM := hM.keepNn hk
  have hk0 := hk0.trans hk.nn
  clear hk
  refine sr0 hf hM [10, 1] [{}] (env' := [(10, .val (.bool false)), (1, .val (.pointer (some ⟨B1, 0, none⟩)))]) (ob := []) (fun B => by as_aux_lemma => kernel_rfl) rfl An ?_
  clear hf; intro a hf
  refine wpList_nil ?_
  refine hK3 _ _ ?_
  refine sxcond hf (b := false) (by kernel_rfl) (fun h => by cases h) (fun _ => ?_)
  refine wp_skip ?_
  refine hK2 _ _ ?_
  refine wp_seq_k (fun K4 hK4 => ?_)
  refine wp_region_lit ?_
  refine sr0 hf hM [12, 1] [{ os := [.ld 0 0, .ld 0 1, .ld 0 2] }] (env' := [(12, .val (.agg #[.int .i64 d, .int .i64 x, .int .i64 y])), (1, .val (.pointer (some ⟨B1, 0, none⟩)))]) (ob := [Ad B1 0, Ad B1 1, Ad B1 2]) (fun B => by as_aux_lemma => kernel_rfl) rfl (Ac (ad _ _) (Ac (ad _ _) (Ao (ad _ _)))) ?_
  clear hf; intro a hf
  refine sxcall hf rfl rfl rfl rfl (g := 18) (vs := [.agg #[.int .i64 d, .int .i64 x, .int .i64 y]]) (ob := []) (by as_aux_lemma => kernel_rfl) An enters18 (loose_no E d x y w2 hn0 (hG.keep hk0 (fun _ h => h))) ?_
  clear hf; rintro _ w3 a ⟨rfl, hk⟩ hf
  have hM := hM.keepNn hk
  have hk0 := hk0.trans hk.nn
  clear hk
  refine sr hf hM [4, 3, 1] [{}, {}, {}, { os := [.nw] }, { os := [.st 1 0, .st 1 1, .st 1 2, .st 1 3] }, {}] (env' := fun B4 => [(4, .val (.iface 115 (.pointer (some (E 0))))), (3, .val (.pointer (some ⟨B4, 0, none⟩))), (1, .val (.pointer (some ⟨B1, 0, none⟩)))]) (M' := fun B4 => [⟨B1, 44, [.int .i64 d, .int .i64 x, .int .i64 y]⟩, ⟨B4, 42, [.int .i64 0, .int .i64 0, .int .i64 0, .int .i64 0]⟩]) (ob := fun B4 => [Ad B4 0, Ad B4 1, Ad B4 2, Ad B4 3]) (fun B => by as_aux_lemma => kernel_rfl) (fun B4 => (Ac (ad _ _) (Ac (ad _ _) (Ac (ad _ _) (Ao (ad _ _)))))) ?_
  clear hf hM; intro a w4 B4 hf hM hB hk
  have hbB4 : w.heap.size ≤ B4 := by have := hk0.size; omega
  have hk0 := hk0.then hk (by intro i hi h; simp only [Is, Mem.names, List.map_cons, List.map_nil, List.mem_cons, List.not_mem_nil, or_false] at h; omega)
  clear hk hB
  refine wpList_nil ?_
  refine hK4 _ _ ?_
  refine wp_seq_k (fun K5 hK5 => ?_)
  refine wp_region_lit ?_
  refine sr0 hf hM [17, 4, 3, 1] [{ os := [.ld 0 0, .ld 0 1, .ld 0 2] }] (env' := [(17, .val (.agg #[.int .i64 d, .int .i64 x, .int .i64 y])), (4, .val (.iface 115 (.pointer (some (E 0))))), (3, .val (.pointer (some ⟨B4, 0, none⟩))), (1, .val (.pointer (some ⟨B1, 0, none⟩)))]) (ob := [Ad B1 0, Ad B1 1, Ad B1 2]) (fun B => by as_aux_lemma => kernel_rfl) rfl (Ac (ad _ _) (Ac (ad _ _) (Ao (ad _ _)))) ?_
  clear hf; intro a hf
  rcases Bool.eq_false_or_eq_true (d == 0) with hs1 | hs1
  · have hs1r := hs1
    try simp only [Bool.or_eq_true, Bool.and_eq_true, Bool.not_eq_true', Bool.not_eq_false', Bool.or_eq_false_iff, Bool.and_eq_false_iff, decide_eq_true_eq, decide_eq_false_iff_not, beq_iff_eq, bne_iff_ne, beq_eq_false_iff_ne, bne_eq_false_iff_eq, Bool.and_true, Bool.true_and, ne_eq] at hs1
    refine sxcall hf rfl rfl rfl rfl (g := 19) (vs := [.agg #[.int .i64 d, .int .i64 x, .int .i64 y]]) (ob := []) (by as_aux_lemma => kernel_rfl) An enters19 (up_no d x y w4 hu ) ?_
    clear hf; rintro _ w5 a ⟨rfl, hk⟩ hf
    have hM := hM.keepNn hk
    have hk0 := hk0.trans hk.nn
    clear hk
    refine sr hf hM [6, 5, 4, 3, 1] [{}, {}, {}, { os := [.nw] }, { os := [.st 2 0, .st 2 1, .st 2 2] }, {}] (env' := fun B6 => [(6, .val (.bool false)), (5, .val (.pointer (some ⟨B6, 0, none⟩))), (4, .val (.iface 115 (.pointer (some (E 0))))), (3, .val (.pointer (some ⟨B4, 0, none⟩))), (1, .val (.pointer (some ⟨B1, 0, none⟩)))]) (M' := fun B6 => [⟨B1, 44, [.int .i64 d, .int .i64 x, .int .i64 y]⟩, ⟨B4, 42, [.int .i64 0, .int .i64 0, .int .i64 0, .int .i64 0]⟩, ⟨B6, 44, [.int .i64 0, .int .i64 0, .int .i64 0]⟩]) (ob := fun B6 => [Ad B6 0, Ad B6 1, Ad B6 2]) (fun B => by as_aux_lemma => kernel_rfl) (fun B6 => (Ac (ad _ _) (Ac (ad _ _) (Ao (ad _ _))))) ?_
    clear hf hM; intro a w6 B6 hf hM hB hk
    have hbB6 : w.heap.size ≤ B6 := by have := hk0.size; omega
    have hk0 := hk0.then hk (by intro i hi h; simp only [Is, Mem.names, List.map_cons, List.map_nil, List.mem_cons, List.not_mem_nil, or_false] at h; omega)
    clear hk hB
    refine wpList_nil ?_
    refine hK5 _ _ ?_
    refine wp_seq_k (fun K6 hK6 => ?_)
    refine wp_region_lit ?_
    refine sr hf hM [7, 6, 5, 4, 3, 1] [{ os := [.ld 0 0, .ld 0 1, .ld 0 2] }, { os := [.nw] }, { os := [.st 3 0, .st 3 1, .st 3 2] }] (env' := fun B7 => [(7, .val (.pointer (some ⟨B7, 0, none⟩))), (6, .val (.bool false)), (5, .val (.pointer (some ⟨B6, 0, none⟩))), (4, .val (.iface 115 (.pointer (some (E 0))))), (3, .val (.pointer (some ⟨B4, 0, none⟩))), (1, .val (.pointer (some ⟨B1, 0, none⟩)))]) (M' := fun B7 => [⟨B1, 44, [.int .i64 d, .int .i64 x, .int .i64 y]⟩, ⟨B4, 42, [.int .i64 0, .int .i64 0, .int .i64 0, .int .i64 0]⟩, ⟨B6, 44, [.int .i64 0, .int .i64 0, .int .i64 0]⟩, ⟨B7, 47, [.int .i64 d, .int .i64 x, .int .i64 y]⟩]) (ob := fun B7 => [Ad B1 0, Ad B1 1, Ad B1 2, Ad B7 0, Ad B7 1, Ad B7 2]) (fun B => by as_aux_lemma => kernel_rfl) (fun B7 => (Ac (ad _ _) (Ac (ad _ _) (Ac (ad _ _) (Ac (ad _ _) (Ac (ad _ _) (Ao (ad _ _)))))))) ?_
    clear hf hM; intro a w7 B7 hf hM hB hk
    have hbB7 : w.heap.size ≤ B7 := by have := hk0.size; omega
    have hk0 := hk0.then hk (by intro i hi h; simp only [Is, Mem.names, List.map_cons, List.map_nil, List.mem_cons, List.not_mem_nil, or_false] at h; omega)
    clear hk hB
    refine wpList_nil ?_
    refine hK6 _ _ ?_
    refine wp_seq_k (fun K7 hK7 => ?_)
    refine wp_seq_k (fun K8 hK8 => ?_)
    refine wp_region_lit ?_
    refine sr0 hf hM [22, 7, 6, 5, 4, 3, 1] [{ os := [.ld 3 0, .ld 3 1, .ld 3 2] }] (env' := [(22, .val (.agg #[.int .i64 d, .int .i64 x, .int .i64 y])), (7, .val (.pointer (some ⟨B7, 0, none⟩))), (6, .val (.bool false)), (5, .val (.pointer (some ⟨B6, 0, none⟩))), (4, .val (.iface 115 (.pointer (some (E 0))))), (3, .val (.pointer (some ⟨B4, 0, none⟩))), (1, .val (.pointer (some ⟨B1, 0, none⟩)))]) (ob := [Ad B7 0, Ad B7 1, Ad B7 2]) (fun B => by as_aux_lemma => kernel_rfl) rfl (Ac (ad _ _) (Ac (ad _ _) (Ao (ad _ _)))) ?_
    clear hf; intro a hf
    refine sxcall hf rfl rfl rfl rfl (g := 20) (vs := [.agg #[.int .i64 d, .int .i64 x, .int .i64 y]]) (ob := []) (by as_aux_lemma => kernel_rfl) An enters20 (rcell_right d x y w7  ) ?_
    clear hf; rintro _ w8 a ⟨rfl, hk⟩ hf
    have hM := hM.keepNn hk
    have hk0 := hk0.trans hk.nn
    clear hk
    refine sr0 hf hM [24, 7, 6, 5, 4, 3, 1] [{}] (env' := [(24, .val (.bool (!(cellRight d x y)))), (7, .val (.pointer (some ⟨B7, 0, none⟩))), (6, .val (.bool false)), (5, .val (.pointer (some ⟨B6, 0, none⟩))), (4, .val (.iface 115 (.pointer (some (E 0))))), (3, .val (.pointer (some ⟨B4, 0, none⟩))), (1, .val (.pointer (some ⟨B1, 0, none⟩)))]) (ob := []) (fun B => by as_aux_lemma => kernel_rfl) rfl An ?_
    clear hf; intro a hf
    refine wpList_nil ?_
    refine hK8 _ _ ?_
    refine sxcond hf (b := !(cellRight d x y)) (by kernel_rfl) (fun _ => ?_) (fun h => absurd (h.symm.trans (by simp [hn0] : (!(cellRight d x y) : Bool) = true)) (by simp))
    refine wp_seq_k (fun K9 hK9 => ?_)
    refine wp_region_lit ?_
    refine sr0 hf hM [29, 28, 6, 5] [{ os := [.ld 1 0, .ld 1 1, .ld 1 2, .ld 1 3] }, { sp := true }, { sp := true, hint := some (.bool true) }, {}, {}] (env' := [(29, .val (.iface 115 (.pointer (some (E 0))))), (28, .val (.bool true)), (6, .val (.bool false)), (5, .val (.pointer (some ⟨B6, 0, none⟩)))]) (ob := [Ad B4 0, Ad B4 1, Ad B4 2, Ad B4 3, (.bool (((0 : Int) == 0) && (((0 : Int) == 0) && (((0 : Int) == 0) && (((0 : Int) == 0) && true)))) : Value) = (.bool true : Value), true = true]) (fun B => by as_aux_lemma => kernel_rfl) rfl (Ac (ad _ _) (Ac (ad _ _) (Ac (ad _ _) (Ac (ad _ _) (Ac (by simp) (Ao rfl)))))) ?_
    clear hf; intro a hf
    refine sxcallg hf rfl rfl rfl rfl rfl (g := 11) (vs := [.iface 115 (.pointer (some (E 0)))]) (ob := []) (by as_aux_lemma => kernel_rfl) An enters11 (num_err E 0 w8  (by decide) (hG.keep hk0 (fun _ h => h))) ?_
    clear hf; rintro _ w9 a ⟨rfl, hk⟩ hf
    have hM := hM.keepNn hk
    have hk0 := hk0.trans hk.nn
    clear hk
    refine sr0 hf hM [2] [{}, {}, {}, {}, {}, {}, {}, { os := [.ld 2 0, .ld 2 1, .ld 2 2] }, { sp := true }, { sp := true, hint := some (.bool true) }, {}, {}] (env' := [(2, .val (.bool true))]) (ob := [true = true, true = true, true = true, true = true, Ad B6 0, Ad B6 1, Ad B6 2, true = true, true = true, (.bool (((0 : Int) == 0) && (((0 : Int) == 0) && (((0 : Int) == 0) && true))) : Value) = (.bool true : Value)]) (fun B => by as_aux_lemma => kernel_rfl) rfl (Ac rfl (Ac rfl (Ac rfl (Ac rfl (Ac (ad _ _) (Ac (ad _ _) (Ac (ad _ _) (Ac rfl (Ac rfl (Ao (by simp))))))))))) ?_
    clear hf; intro a hf
    refine wpList_nil ?_
    refine hK9 _ _ ?_
    refine wp_ret ?_
    refine sxret (fn := Tryd.f5) hf hM [] (l := [.bool true]) (M' := [⟨B1, 44, [.int .i64 d, .int .i64 x, .int .i64 y]⟩, ⟨B4, 42, [.int .i64 0, .int .i64 0, .int .i64 0, .int .i64 0]⟩, ⟨B6, 44, [.int .i64 0, .int .i64 0, .int .i64 0]⟩, ⟨B7, 47, [.int .i64 d, .int .i64 x, .int .i64 y]⟩]) (d' := false) (ob := []) (by kernel_rfl) (fun B => ⟨B, by as_aux_lemma => kernel_rfl⟩) rfl An ?_
    show (.bool true : Value) = .bool true ∧ Keep Nn w w9
    refine ⟨congrArg Value.bool ?_, hk0⟩
    simp
  · have hs1r := hs1
    try simp only [Bool.or_eq_true, Bool.and_eq_true, Bool.not_eq_true', Bool.not_eq_false', Bool.or_eq_false_iff, Bool.and_eq_false_iff, decide_eq_true_eq, decide_eq_false_iff_not, beq_iff_eq, bne_iff_ne, beq_eq_false_iff_ne, bne_eq_false_iff_eq, Bool.and_true, Bool.true_and, ne_eq] at hs1
    refine sxcall hf rfl rfl rfl rfl (g := 19) (vs := [.agg #[.int .i64 d, .int .i64 x, .int .i64 y]]) (ob := []) (by as_aux_lemma => kernel_rfl) An enters19 (up_no d x y w4 hu ) ?_
    clear hf; rintro _ w10 a ⟨rfl, hk⟩ hf
    have hM := hM.keepNn hk
    have hk0 := hk0.trans hk.nn
    clear hk
    refine sr hf hM [6, 5, 4, 3, 1] [{}, {}, {}, { os := [.nw] }, { os := [.st 2 0, .st 2 1, .st 2 2] }, {}] (env' := fun B12 => [(6, .val (.bool false)), (5, .val (.pointer (some ⟨B12, 0, none⟩))), (4, .val (.iface 115 (.pointer (some (E 0))))), (3, .val (.pointer (some ⟨B4, 0, none⟩))), (1, .val (.pointer (some ⟨B1, 0, none⟩)))]) (M' := fun B12 => [⟨B1, 44, [.int .i64 d, .int .i64 x, .int .i64 y]⟩, ⟨B4, 42, [.int .i64 0, .int .i64 0, .int .i64 0, .int .i64 0]⟩, ⟨B12, 44, [.int .i64 0, .int .i64 0, .int .i64 0]⟩]) (ob := fun B12 => [Ad B12 0, Ad B12 1, Ad B12 2]) (fun B => by as_aux_lemma => kernel_rfl) (fun B12 => (Ac (ad _ _) (Ac (ad _ _) (Ao (ad _ _))))) ?_
    clear hf hM; intro a w11 B12 hf hM hB hk
    have hbB12 : w.heap.size ≤ B12 := by have := hk0.size; omega
    have hk0 := hk0.then hk (by intro i hi h; simp only [Is, Mem.names, List.map_cons, List.map_nil, List.mem_cons, List.not_mem_nil, or_false] at h; omega)
    clear hk hB
    refine wpList_nil ?_
    refine hK5 _ _ ?_
    refine wp_seq_k (fun K10 hK10 => ?_)
    refine wp_region_lit ?_
    refine sr hf hM [7, 6, 5, 4, 3, 1] [{ os := [.ld 0 0, .ld 0 1, .ld 0 2] }, { os := [.nw] }, { os := [.st 3 0, .st 3 1, .st 3 2] }] (env' := fun B13 => [(7, .val (.pointer (some ⟨B13, 0, none⟩))), (6, .val (.bool false)), (5, .val (.pointer (some ⟨B12, 0, none⟩))), (4, .val (.iface 115 (.pointer (some (E 0))))), (3, .val (.pointer (some ⟨B4, 0, none⟩))), (1, .val (.pointer (some ⟨B1, 0, none⟩)))]) (M' := fun B13 => [⟨B1, 44, [.int .i64 d, .int .i64 x, .int .i64 y]⟩, ⟨B4, 42, [.int .i64 0, .int .i64 0, .int .i64 0, .int .i64 0]⟩, ⟨B12, 44, [.int .i64 0, .int .i64 0, .int .i64 0]⟩, ⟨B13, 47, [.int .i64 d, .int .i64 x, .int .i64 y]⟩]) (ob := fun B13 => [Ad B1 0, Ad B1 1, Ad B1 2, Ad B13 0, Ad B13 1, Ad B13 2]) (fun B => by as_aux_lemma => kernel_rfl) (fun B13 => (Ac (ad _ _) (Ac (ad _ _) (Ac (ad _ _) (Ac (ad _ _) (Ac (ad _ _) (Ao (ad _ _)))))))) ?_
    clear hf hM; intro a w12 B13 hf hM hB hk
    have hbB13 : w.heap.size ≤ B13 := by have := hk0.size; omega
    have hk0 := hk0.then hk (by intro i hi h; simp only [Is, Mem.names, List.map_cons, List.map_nil, List.mem_cons, List.not_mem_nil, or_false] at h; omega)
    clear hk hB
    refine wpList_nil ?_
    refine hK10 _ _ ?_
    refine wp_seq_k (fun K11 hK11 => ?_)
    refine wp_seq_k (fun K12 hK12 => ?_)
    refine wp_region_lit ?_
    refine sr0 hf hM [22, 7, 6, 5, 4, 3, 1] [{ os := [.ld 3 0, .ld 3 1, .ld 3 2] }] (env' := [(22, .val (.agg #[.int .i64 d, .int .i64 x, .int .i64 y])), (7, .val (.pointer (some ⟨B13, 0, none⟩))), (6, .val (.bool false)), (5, .val (.pointer (some ⟨B12, 0, none⟩))), (4, .val (.iface 115 (.pointer (some (E 0))))), (3, .val (.pointer (some ⟨B4, 0, none⟩))), (1, .val (.pointer (some ⟨B1, 0, none⟩)))]) (ob := [Ad B13 0, Ad B13 1, Ad B13 2]) (fun B => by as_aux_lemma => kernel_rfl) rfl (Ac (ad _ _) (Ac (ad _ _) (Ao (ad _ _)))) ?_
    clear hf; intro a hf
    refine sxcall hf rfl rfl rfl rfl (g := 20) (vs := [.agg #[.int .i64 d, .int .i64 x, .int .i64 y]]) (ob := []) (by as_aux_lemma => kernel_rfl) An enters20 (rcell_right d x y w12  ) ?_
    clear hf; rintro _ w13 a ⟨rfl, hk⟩ hf
    have hM := hM.keepNn hk
    have hk0 := hk0.trans hk.nn
    clear hk
    refine sr0 hf hM [24, 7, 6, 5, 4, 3, 1] [{}] (env' := [(24, .val (.bool (!(cellRight d x y)))), (7, .val (.pointer (some ⟨B13, 0, none⟩))), (6, .val (.bool false)), (5, .val (.pointer (some ⟨B12, 0, none⟩))), (4, .val (.iface 115 (.pointer (some (E 0))))), (3, .val (.pointer (some ⟨B4, 0, none⟩))), (1, .val (.pointer (some ⟨B1, 0, none⟩)))]) (ob := []) (fun B => by as_aux_lemma => kernel_rfl) rfl An ?_
    clear hf; intro a hf
    refine wpList_nil ?_
    refine hK12 _ _ ?_
    refine sxcond hf (b := !(cellRight d x y)) (by kernel_rfl) (fun _ => ?_) (fun h => absurd (h.symm.trans (by simp [hn0] : (!(cellRight d x y) : Bool) = true)) (by simp))
    refine wp_seq_k (fun K13 hK13 => ?_)
    refine wp_region_lit ?_
    refine sr0 hf hM [29, 28, 6, 5] [{ os := [.ld 1 0, .ld 1 1, .ld 1 2, .ld 1 3] }, { sp := true }, { sp := true, hint := some (.bool true) }, {}, {}] (env' := [(29, .val (.iface 115 (.pointer (some (E 0))))), (28, .val (.bool true)), (6, .val (.bool false)), (5, .val (.pointer (some ⟨B12, 0, none⟩)))]) (ob := [Ad B4 0, Ad B4 1, Ad B4 2, Ad B4 3, (.bool (((0 : Int) == 0) && (((0 : Int) == 0) && (((0 : Int) == 0) && (((0 : Int) == 0) && true)))) : Value) = (.bool true : Value), true = true]) (fun B => by as_aux_lemma => kernel_rfl) rfl (Ac (ad _ _) (Ac (ad _ _) (Ac (ad _ _) (Ac (ad _ _) (Ac (by simp) (Ao rfl)))))) ?_
    clear hf; intro a hf
    refine sxcallg hf rfl rfl rfl rfl rfl (g := 11) (vs := [.iface 115 (.pointer (some (E 0)))]) (ob := []) (by as_aux_lemma => kernel_rfl) An enters11 (num_err E 0 w13  (by decide) (hG.keep hk0 (fun _ h => h))) ?_
    clear hf; rintro _ w14 a ⟨rfl, hk⟩ hf
    have hM := hM.keepNn hk
    have hk0 := hk0.trans hk.nn
    clear hk
    refine sr0 hf hM [2] [{}, {}, {}, {}, {}, {}, {}, { os := [.ld 2 0, .ld 2 1, .ld 2 2] }, { sp := true }, { sp := true, hint := some (.bool true) }, {}, {}] (env' := [(2, .val (.bool true))]) (ob := [true = true, true = true, true = true, true = true, Ad B12 0, Ad B12 1, Ad B12 2, true = true, true = true, (.bool (((0 : Int) == 0) && (((0 : Int) == 0) && (((0 : Int) == 0) && true))) : Value) = (.bool true : Value)]) (fun B => by as_aux_lemma => kernel_rfl) rfl (Ac rfl (Ac rfl (Ac rfl (Ac rfl (Ac (ad _ _) (Ac (ad _ _) (Ac (ad _ _) (Ac rfl (Ac rfl (Ao (by simp))))))))))) ?_
    clear hf; intro a hf
    refine wpList_nil ?_
    refine hK13 _ _ ?_
    refine wp_ret ?_
    refine sxret (fn := Tryd.f5) hf hM [] (l := [.bool true]) (M' := [⟨B1, 44, [.int .i64 d, .int .i64 x, .int .i64 y]⟩, ⟨B4, 42, [.int .i64 0, .int .i64 0, .int .i64 0, .int .i64 0]⟩, ⟨B12, 44, [.int .i64 0, .int .i64 0, .int .i64 0]⟩, ⟨B13, 47, [.int .i64 d, .int .i64 x, .int .i64 y]⟩]) (d' := false) (ob := []) (by kernel_rfl) (fun B => ⟨B, by as_aux_lemma => kernel_rfl⟩) rfl An ?_
    show (.bool true : Value) = .bool true ∧ Keep Nn w w14
    refine ⟨congrArg Value.bool ?_, hk0⟩
    simp

set_option maxRecDepth 10000 in
theorem ql_top (E : Nat → Addr) (d x y : Int) (w : World) (hn0 : (cellRight d x y) = true) (hn1 : (d == 0) = true) (hG : Errs 10 w 115 E) :
    Calls Tryd.prog 5 #[.agg #[.int .i64 d, .int .i64 x, .int .i64 y]] w (Ret fun v w' => v = .bool true ∧ Keep Nn w w') := by
  refine sxenter (n := 121) (args := [.agg #[.int .i64 d, .int .i64 x, .int .i64 y]]) Tryd.func5 rfl rfl rfl fun a hf => ?_
  replace hf : Fr 121 [(0, .val (.agg #[.int .i64 d, .int .i64 x, .int .i64 y]))] a := hf
  have hM : MemOk [] w := MemOk.nil w
  have hk0 : Keep Nn w w := Keep.refl _ _
  have hgs := hG.size
  have hu : upOk d x y = false := by simp [upOk, hn1]
  have h0 : d = 0 := by simpa using hn1
  refine wp_seq_k (fun K1 hK1 => ?_)
  refine wp_region_lit ?_
  refine sr hf hM [1] [{ os := [.nw] }, {}] (env' := fun B1 => [(1, .val (.pointer (some ⟨B1, 0, none⟩)))]) (M' := fun B1 => [⟨B1, 44, [.int .i64 d, .int .i64 x, .int .i64 y]⟩]) (ob := fun B1 => []) (fun B => by as_aux_lemma => kernel_rfl) (fun B1 => An) ?_
  clear hf hM; intro a w1 B1 hf hM hB hk
  have hbB1 : w.heap.size ≤ B1 := by have := hk0.size; omega
  have hk0 := hk0.then hk (by intro i _ h; cases h)
  clear hk hB
  refine wpList_nil ?_
  refine hK1 _ _ ?_
  refine wp_seq_k (fun K2 hK2 => ?_)
  refine wp_seq_k (fun K3 hK3 => ?_)
  refine wp_region_lit ?_
  refine sxcall hf rfl rfl rfl rfl (g := 15) (vs := []) (ob := []) (by as_aux_lemma => kernel_rfl) An enters15 (alive_any E w1  (hG.keep hk0 (fun _ h => h))) ?_
  clear hf; rintro _ w2 a ⟨rfl, hk⟩ hf
  have hM := hM.keepNn hk
  have hk0 := hk0.trans hk.nn
  clear hk
  refine sr0 hf hM [10, 1] [{}] (env' := [(10, .val (.bool false)), (1, .val (.pointer (some ⟨B1, 0, none⟩)))]) (ob := []) (fun B => by as_aux_lemma => kernel_rfl) rfl An ?_
  clear hf; intro a hf
  refine wpList_nil ?_
  refine hK3 _ _ ?_
  refine sxcond hf (b := false) (by kernel_rfl) (fun h => by cases h) (fun _ => ?_)
  refine wp_skip ?_
  refine hK2 _ _ ?_
  refine wp_seq_k (fun K4 hK4 => ?_)
  refine wp_region_lit ?_
  refine sr0 hf hM [12, 1] [{ os := [.ld 0 0, .ld 0 1, .ld 0 2] }] (env' := [(12, .val (.agg #[.int .i64 d, .int .i64 x, .int .i64 y])), (1, .val (.pointer (some ⟨B1, 0, none⟩)))]) (ob := [Ad B1 0, Ad B1 1, Ad B1 2]) (fun B => by as_aux_lemma => kernel_rfl) rfl (Ac (ad _ _) (Ac (ad _ _) (Ao (ad _ _)))) ?_
  clear hf; intro a hf
  refine sxcall hf rfl rfl rfl rfl (g := 18) (vs := [.agg #[.int .i64 d, .int .i64 x, .int .i64 y]]) (ob := []) (by as_aux_lemma => kernel_rfl) An enters18 (loose_ok E d x y w2 hn0 ) ?_
  clear hf; rintro _ w3 a ⟨rfl, hk⟩ hf
  have hM := hM.keepNn hk
  have hk0 := hk0.trans hk.nn
  clear hk
  refine sr hf hM [4, 3, 1] [{}, {}, {}, { os := [.nw] }, { os := [.st 1 0, .st 1 1, .st 1 2, .st 1 3] }, {}] (env' := fun B4 => [(4, .val (.nilIface)), (3, .val (.pointer (some ⟨B4, 0, none⟩))), (1, .val (.pointer (some ⟨B1, 0, none⟩)))]) (M' := fun B4 => [⟨B1, 44, [.int .i64 d, .int .i64 x, .int .i64 y]⟩, ⟨B4, 42, [.int .i64 (x * side d - 2097152 - side d / 2), .int .i64 (y * side d - 2097152 - side d / 2), .int .i64 (x * side d - 2097152 + side d + side d / 2), .int .i64 (y * side d - 2097152 + side d + side d / 2)]⟩]) (ob := fun B4 => [Ad B4 0, Ad B4 1, Ad B4 2, Ad B4 3]) (fun B => by as_aux_lemma => kernel_rfl) (fun B4 => (Ac (ad _ _) (Ac (ad _ _) (Ac (ad _ _) (Ao (ad _ _)))))) ?_
  clear hf hM; intro a w4 B4 hf hM hB hk
  have hbB4 : w.heap.size ≤ B4 := by have := hk0.size; omega
  have hk0 := hk0.then hk (by intro i hi h; simp only [Is, Mem.names, List.map_cons, List.map_nil, List.mem_cons, List.not_mem_nil, or_false] at h; omega)
  clear hk hB
  refine wpList_nil ?_
  refine hK4 _ _ ?_
  refine wp_seq_k (fun K5 hK5 => ?_)
  refine wp_region_lit ?_
  refine sr0 hf hM [17, 4, 3, 1] [{ os := [.ld 0 0, .ld 0 1, .ld 0 2] }] (env' := [(17, .val (.agg #[.int .i64 d, .int .i64 x, .int .i64 y])), (4, .val (.nilIface)), (3, .val (.pointer (some ⟨B4, 0, none⟩))), (1, .val (.pointer (some ⟨B1, 0, none⟩)))]) (ob := [Ad B1 0, Ad B1 1, Ad B1 2]) (fun B => by as_aux_lemma => kernel_rfl) rfl (Ac (ad _ _) (Ac (ad _ _) (Ao (ad _ _)))) ?_
  clear hf; intro a hf
  refine sxcall hf rfl rfl rfl rfl (g := 19) (vs := [.agg #[.int .i64 d, .int .i64 x, .int .i64 y]]) (ob := []) (by as_aux_lemma => kernel_rfl) An enters19 (up_no d x y w4 hu ) ?_
  clear hf; rintro _ w5 a ⟨rfl, hk⟩ hf
  have hM := hM.keepNn hk
  have hk0 := hk0.trans hk.nn
  clear hk
  refine sr hf hM [6, 5, 4, 3, 1] [{}, {}, {}, { os := [.nw] }, { os := [.st 2 0, .st 2 1, .st 2 2] }, {}] (env' := fun B6 => [(6, .val (.bool false)), (5, .val (.pointer (some ⟨B6, 0, none⟩))), (4, .val (.nilIface)), (3, .val (.pointer (some ⟨B4, 0, none⟩))), (1, .val (.pointer (some ⟨B1, 0, none⟩)))]) (M' := fun B6 => [⟨B1, 44, [.int .i64 d, .int .i64 x, .int .i64 y]⟩, ⟨B4, 42, [.int .i64 (x * side d - 2097152 - side d / 2), .int .i64 (y * side d - 2097152 - side d / 2), .int .i64 (x * side d - 2097152 + side d + side d / 2), .int .i64 (y * side d - 2097152 + side d + side d / 2)]⟩, ⟨B6, 44, [.int .i64 0, .int .i64 0, .int .i64 0]⟩]) (ob := fun B6 => [Ad B6 0, Ad B6 1, Ad B6 2]) (fun B => by as_aux_lemma => kernel_rfl) (fun B6 => (Ac (ad _ _) (Ac (ad _ _) (Ao (ad _ _))))) ?_
  clear hf hM; intro a w6 B6 hf hM hB hk
  have hbB6 : w.heap.size ≤ B6 := by have := hk0.size; omega
  have hk0 := hk0.then hk (by intro i hi h; simp only [Is, Mem.names, List.map_cons, List.map_nil, List.mem_cons, List.not_mem_nil, or_false] at h; omega)
  clear hk hB
  refine wpList_nil ?_
  refine hK5 _ _ ?_
  refine wp_seq_k (fun K6 hK6 => ?_)
  refine wp_region_lit ?_
  refine sr hf hM [7, 6, 5, 4, 3, 1] [{ os := [.ld 0 0, .ld 0 1, .ld 0 2] }, { os := [.nw] }, { os := [.st 3 0, .st 3 1, .st 3 2] }] (env' := fun B7 => [(7, .val (.pointer (some ⟨B7, 0, none⟩))), (6, .val (.bool false)), (5, .val (.pointer (some ⟨B6, 0, none⟩))), (4, .val (.nilIface)), (3, .val (.pointer (some ⟨B4, 0, none⟩))), (1, .val (.pointer (some ⟨B1, 0, none⟩)))]) (M' := fun B7 => [⟨B1, 44, [.int .i64 d, .int .i64 x, .int .i64 y]⟩, ⟨B4, 42, [.int .i64 (x * side d - 2097152 - side d / 2), .int .i64 (y * side d - 2097152 - side d / 2), .int .i64 (x * side d - 2097152 + side d + side d / 2), .int .i64 (y * side d - 2097152 + side d + side d / 2)]⟩, ⟨B6, 44, [.int .i64 0, .int .i64 0, .int .i64 0]⟩, ⟨B7, 47, [.int .i64 d, .int .i64 x, .int .i64 y]⟩]) (ob := fun B7 => [Ad B1 0, Ad B1 1, Ad B1 2, Ad B7 0, Ad B7 1, Ad B7 2]) (fun B => by as_aux_lemma => kernel_rfl) (fun B7 => (Ac (ad _ _) (Ac (ad _ _) (Ac (ad _ _) (Ac (ad _ _) (Ac (ad _ _) (Ao (ad _ _)))))))) ?_
  clear hf hM; intro a w7 B7 hf hM hB hk
  have hbB7 : w.heap.size ≤ B7 := by have := hk0.size; omega
  have hk0 := hk0.then hk (by intro i hi h; simp only [Is, Mem.names, List.map_cons, List.map_nil, List.mem_cons, List.not_mem_nil, or_false] at h; omega)
  clear hk hB
  refine wpList_nil ?_
  refine hK6 _ _ ?_
  refine wp_seq_k (fun K7 hK7 => ?_)
  refine wp_seq_k (fun K8 hK8 => ?_)
  refine wp_region_lit ?_
  refine sr0 hf hM [22, 7, 6, 5, 4, 3, 1] [{ os := [.ld 3 0, .ld 3 1, .ld 3 2] }] (env' := [(22, .val (.agg #[.int .i64 d, .int .i64 x, .int .i64 y])), (7, .val (.pointer (some ⟨B7, 0, none⟩))), (6, .val (.bool false)), (5, .val (.pointer (some ⟨B6, 0, none⟩))), (4, .val (.nilIface)), (3, .val (.pointer (some ⟨B4, 0, none⟩))), (1, .val (.pointer (some ⟨B1, 0, none⟩)))]) (ob := [Ad B7 0, Ad B7 1, Ad B7 2]) (fun B => by as_aux_lemma => kernel_rfl) rfl (Ac (ad _ _) (Ac (ad _ _) (Ao (ad _ _)))) ?_
  clear hf; intro a hf
  refine sxcall hf rfl rfl rfl rfl (g := 20) (vs := [.agg #[.int .i64 d, .int .i64 x, .int .i64 y]]) (ob := []) (by as_aux_lemma => kernel_rfl) An enters20 (rcell_right d x y w7  ) ?_
  clear hf; rintro _ w8 a ⟨rfl, hk⟩ hf
  have hM := hM.keepNn hk
  have hk0 := hk0.trans hk.nn
  clear hk
  refine sr0 hf hM [24, 7, 6, 5, 4, 3, 1] [{}] (env' := [(24, .val (.bool (!(cellRight d x y)))), (7, .val (.pointer (some ⟨B7, 0, none⟩))), (6, .val (.bool false)), (5, .val (.pointer (some ⟨B6, 0, none⟩))), (4, .val (.nilIface)), (3, .val (.pointer (some ⟨B4, 0, none⟩))), (1, .val (.pointer (some ⟨B1, 0, none⟩)))]) (ob := []) (fun B => by as_aux_lemma => kernel_rfl) rfl An ?_
  clear hf; intro a hf
  refine wpList_nil ?_
  refine hK8 _ _ ?_
  refine sxcond hf (b := !(cellRight d x y)) (by kernel_rfl) (fun h => absurd (h.symm.trans (by simp [hn0] : (!(cellRight d x y) : Bool) = false)) (by simp)) (fun _ => ?_)
  refine wp_skip ?_
  refine hK7 _ _ ?_
  refine wp_seq_k (fun K9 hK9 => ?_)
  refine wp_seq_k (fun K10 hK10 => ?_)
  refine sxdraw [] [(0, true), (1, true), (2, true), (3, true), (4, true), (5, false), (6, true), (7, true), (8, true), (9, true), (10, true), (11, true), (12, true), (13, true), (14, true)] (by kernel_rfl) (by kernel_rfl) (by as_aux_lemma => kernel_rfl) rfl (by as_aux_lemma => kernel_rfl) (by kernel_rfl) ?_
  replace hM := hM.drew; replace hk0 := hk0.drew
  have hkd := hk0
  have hC : Keep (Is []) w8.drew w8.drew := Keep.refl _ _
  have hM0 := hM
  have hMr := hM
  refine sc0 hf hMr (by intro k _ h; cases h) hC [46, 45, 44, 6, 5, 3, 1] [{}, {}, {}, { os := [.ld 1 0, .ld 1 1, .ld 1 2, .ld 1 3] }, { os := [.ld 3 0, .ld 3 1, .ld 3 2] }] (env' := [(46, .val (.agg #[.int .i64 d, .int .i64 x, .int .i64 y])), (45, .val (.agg #[.int .i64 (x * side d - 2097152 - side d / 2), .int .i64 (y * side d - 2097152 - side d / 2), .int .i64 (x * side d - 2097152 + side d + side d / 2), .int .i64 (y * side d - 2097152 + side d + side d / 2)])), (44, .val (.bool false)), (6, .val (.bool false)), (5, .val (.pointer (some ⟨B6, 0, none⟩))), (3, .val (.pointer (some ⟨B4, 0, none⟩))), (1, .val (.pointer (some ⟨B1, 0, none⟩)))]) (ob := [false = false, Ad B4 0, Ad B4 1, Ad B4 2, Ad B4 3, false = false, Ad B7 0, Ad B7 1, Ad B7 2]) (by as_aux_lemma => kernel_rfl) rfl (Ac rfl (Ac (ad _ _) (Ac (ad _ _) (Ac (ad _ _) (Ac (ad _ _) (Ac rfl (Ac (ad _ _) (Ac (ad _ _) (Ao (ad _ _)))))))))) ?_
  clear hf; intro a hf
  have hM := MemOk.nil w8.drew
  refine sccallg rfl hf rfl rfl rfl rfl rfl (g := 21) (vs := [.agg #[.int .i64 d, .int .i64 x, .int .i64 y]]) (ob := []) (by as_aux_lemma => kernel_rfl) An enters21 (rloose_ok d x y w8.drew hn0 ) (by rintro _ _ ⟨rfl, hk⟩; exact hC.trans hk.nn) ?_
  clear hf; rintro _ w9 a ⟨rfl, hk⟩ hf
  have hM := hM.keepNn hk
  have hC := hC.trans hk.nn
  have hk0 := hk0.trans hk.nn
  clear hk
  refine sc0 hf hMr (by intro k _ h; cases h) hC [56, 6, 5, 3, 1] [{ sp := true, hint := some (.bool false) }, {}, {}, {}, {}, { os := [.ld 0 0] }, {}, {}, {}] (env' := [(56, .val (.bool (!(false == (decide ((d : Int) > 0)))))), (6, .val (.bool false)), (5, .val (.pointer (some ⟨B6, 0, none⟩))), (3, .val (.pointer (some ⟨B4, 0, none⟩))), (1, .val (.pointer (some ⟨B1, 0, none⟩)))]) (ob := [false = false, (.bool (!((((x * side d - 2097152 - side d / 2) : Int) == (x * side d - 2097152 - side d / 2)) && ((((y * side d - 2097152 - side d / 2) : Int) == (y * side d - 2097152 - side d / 2)) && ((((x * side d - 2097152 + side d + side d / 2) : Int) == (x * side d - 2097152 + side d + side d / 2)) && ((((y * side d - 2097152 + side d + side d / 2) : Int) == (y * side d - 2097152 + side d + side d / 2)) && true))))) : Value) = (.bool false : Value), false = false, false = false, false = false, Ad B1 0, false = false, false = false]) (by as_aux_lemma => kernel_rfl) rfl (Ac rfl (Ac (by simp) (Ac rfl (Ac rfl (Ac rfl (Ac (ad _ _) (Ac rfl (Ao rfl)))))))) ?_
  clear hf; intro a hf
  have hM := hMr.keep hC (by intro _ _ h; cases h)
  clear hMr hC hkd
  show K10 _ _
  refine hK10 _ _ ?_
  refine sxcond hf (b := (!(false == (decide ((d : Int) > 0))))) (by kernel_rfl) (fun hc3 => ?_) (fun hc3 => ?_)
  · have hc3r := hc3
    simp [h0] at hc3
    done
  · have hc3r := hc3
    simp [h0] at hc3
    refine wp_skip ?_
    refine hK9 _ _ ?_
    refine wp_seq_k (fun K11 hK11 => ?_)
    refine wp_seq_k (fun K12 hK12 => ?_)
    refine wp_region_lit ?_
    refine sr0 hf hM [58, 5, 3, 1] [{}, {}] (env' := [(58, .val (.bool true)), (5, .val (.pointer (some ⟨B6, 0, none⟩))), (3, .val (.pointer (some ⟨B4, 0, none⟩))), (1, .val (.pointer (some ⟨B1, 0, none⟩)))]) (ob := []) (fun B => by as_aux_lemma => kernel_rfl) rfl An ?_
    clear hf; intro a hf
    refine wpList_nil ?_
    refine hK12 _ _ ?_
    refine sxcond hf (b := true) (by kernel_rfl) (fun _ => ?_) (fun h => by cases h)
    refine wp_seq_k (fun K13 hK13 => ?_)
    refine wp_region_lit ?_
    refine sr0 hf hM [2] [{ os := [.ld 2 0, .ld 2 1, .ld 2 2] }, { sp := true }, { sp := true, hint := some (.bool true) }, {}] (env' := [(2, .val (.bool true))]) (ob := [Ad B6 0, Ad B6 1, Ad B6 2, (.bool (((0 : Int) == 0) && (((0 : Int) == 0) && (((0 : Int) == 0) && true))) : Value) = (.bool true : Value)]) (fun B => by as_aux_lemma => kernel_rfl) rfl (Ac (ad _ _) (Ac (ad _ _) (Ac (ad _ _) (Ao (by simp))))) ?_
    clear hf; intro a hf
    refine wpList_nil ?_
    refine hK13 _ _ ?_
    refine wp_ret ?_
    refine sxret (fn := Tryd.f5) hf hM [] (l := [.bool true]) (M' := [⟨B1, 44, [.int .i64 d, .int .i64 x, .int .i64 y]⟩, ⟨B4, 42, [.int .i64 (x * side d - 2097152 - side d / 2), .int .i64 (y * side d - 2097152 - side d / 2), .int .i64 (x * side d - 2097152 + side d + side d / 2), .int .i64 (y * side d - 2097152 + side d + side d / 2)]⟩, ⟨B6, 44, [.int .i64 0, .int .i64 0, .int .i64 0]⟩, ⟨B7, 47, [.int .i64 d, .int .i64 x, .int .i64 y]⟩]) (d' := false) (ob := []) (by kernel_rfl) (fun B => ⟨B, by as_aux_lemma => kernel_rfl⟩) rfl An ?_
    show (.bool true : Value) = .bool true ∧ Keep Nn w w9
    refine ⟨congrArg Value.bool ?_, hk0⟩
    simp

set_option maxRecDepth 10000 in
theorem ql_ok (E : Nat → Addr) (d x y : Int) (w : World) (hn0 : (cellRight d x y) = true) (hn1 : (d == 0) = false) (hG : Errs 10 w 115 E) :
    Calls Tryd.prog 5 #[.agg #[.int .i64 d, .int .i64 x, .int .i64 y]] w (Ret fun v w' => v = .bool true ∧ Keep Nn w w') := by
  refine sxenter (n := 121) (args := [.agg #[.int .i64 d, .int .i64 x, .int .i64 y]]) Tryd.func5 rfl rfl rfl fun a hf => ?_
  replace hf : Fr 121 [(0, .val (.agg #[.int .i64 d, .int .i64 x, .int .i64 y]))] a := hf
  have hM : MemOk [] w := MemOk.nil w
  have hk0 : Keep Nn w w := Keep.refl _ _
  have hgs := hG.size
  have h0 : d ≠ 0 := by simpa using hn1
  have hc := cellRight_iff.1 hn0
  have hp := pow_bd (d := d) (by omega)
  have hu := cellRight_up hn0 h0
  have hx := up_loose (x := x) (show 1 ≤ d ∧ d ≤ 8 by omega)
  have hy := up_loose (x := y) (show 1 ≤ d ∧ d ≤ 8 by omega)
  refine wp_seq_k (fun K1 hK1 => ?_)
  refine wp_region_lit ?_
  refine sr hf hM [1] [{ os := [.nw] }, {}] (env' := fun B1 => [(1, .val (.pointer (some ⟨B1, 0, none⟩)))]) (M' := fun B1 => [⟨B1, 44, [.int .i64 d, .int .i64 x, .int .i64 y]⟩]) (ob := fun B1 => []) (fun B => by as_aux_lemma => kernel_rfl) (fun B1 => An) ?_
  clear hf hM; intro a w1 B1 hf hM hB hk
  have hbB1 : w.heap.size ≤ B1 := by have := hk0.size; omega
  have hk0 := hk0.then hk (by intro i _ h; cases h)
  clear hk hB
  refine wpList_nil ?_
  refine hK1 _ _ ?_
  refine wp_seq_k (fun K2 hK2 => ?_)
  refine wp_seq_k (fun K3 hK3 => ?_)
  refine wp_region_lit ?_
  refine sxcall hf rfl rfl rfl rfl (g := 15) (vs := []) (ob := []) (by as_aux_lemma => kernel_rfl) An enters15 (alive_any E w1  (hG.keep hk0 (fun _ h => h))) ?_
  clear hf; rintro _ w2 a ⟨rfl, hk⟩ hf
  have hM := hM.keepNn hk
  have hk0 := hk0.trans hk.nn
  clear hk
  refine sr0 hf hM [10, 1] [{}] (env' := [(10, .val (.bool false)), (1, .val (.pointer (some ⟨B1, 0, none⟩)))]) (ob := []) (fun B => by as_aux_lemma => kernel_rfl) rfl An ?_
  clear hf; intro a hf
  refine wpList_nil ?_
  refine hK3 _ _ ?_
  refine sxcond hf (b := false) (by kernel_rfl) (fun h => by cases h) (fun _ => ?_)
  refine wp_skip ?_
  refine hK2 _ _ ?_
  refine wp_seq_k (fun K4 hK4 => ?_)
  refine wp_region_lit ?_
  refine sr0 hf hM [12, 1] [{ os := [.ld 0 0, .ld 0 1, .ld 0 2] }] (env' := [(12, .val (.agg #[.int .i64 d, .int .i64 x, .int .i64 y])), (1, .val (.pointer (some ⟨B1, 0, none⟩)))]) (ob := [Ad B1 0, Ad B1 1, Ad B1 2]) (fun B => by as_aux_lemma => kernel_rfl) rfl (Ac (ad _ _) (Ac (ad _ _) (Ao (ad _ _)))) ?_
  clear hf; intro a hf
  refine sxcall hf rfl rfl rfl rfl (g := 18) (vs := [.agg #[.int .i64 d, .int .i64 x, .int .i64 y]]) (ob := []) (by as_aux_lemma => kernel_rfl) An enters18 (loose_ok E d x y w2 hn0 ) ?_
  clear hf; rintro _ w3 a ⟨rfl, hk⟩ hf
  have hM := hM.keepNn hk
  have hk0 := hk0.trans hk.nn
  clear hk
  refine sr hf hM [4, 3, 1] [{}, {}, {}, { os := [.nw] }, { os := [.st 1 0, .st 1 1, .st 1 2, .st 1 3] }, {}] (env' := fun B4 => [(4, .val (.nilIface)), (3, .val (.pointer (some ⟨B4, 0, none⟩))), (1, .val (.pointer (some ⟨B1, 0, none⟩)))]) (M' := fun B4 => [⟨B1, 44, [.int .i64 d, .int .i64 x, .int .i64 y]⟩, ⟨B4, 42, [.int .i64 (x * side d - 2097152 - side d / 2), .int .i64 (y * side d - 2097152 - side d / 2), .int .i64 (x * side d - 2097152 + side d + side d / 2), .int .i64 (y * side d - 2097152 + side d + side d / 2)]⟩]) (ob := fun B4 => [Ad B4 0, Ad B4 1, Ad B4 2, Ad B4 3]) (fun B => by as_aux_lemma => kernel_rfl) (fun B4 => (Ac (ad _ _) (Ac (ad _ _) (Ac (ad _ _) (Ao (ad _ _)))))) ?_
  clear hf hM; intro a w4 B4 hf hM hB hk
  have hbB4 : w.heap.size ≤ B4 := by have := hk0.size; omega
  have hk0 := hk0.then hk (by intro i hi h; simp only [Is, Mem.names, List.map_cons, List.map_nil, List.mem_cons, List.not_mem_nil, or_false] at h; omega)
  clear hk hB
  refine wpList_nil ?_
  refine hK4 _ _ ?_
  refine wp_seq_k (fun K5 hK5 => ?_)
  refine wp_region_lit ?_
  refine sr0 hf hM [17, 4, 3, 1] [{ os := [.ld 0 0, .ld 0 1, .ld 0 2] }] (env' := [(17, .val (.agg #[.int .i64 d, .int .i64 x, .int .i64 y])), (4, .val (.nilIface)), (3, .val (.pointer (some ⟨B4, 0, none⟩))), (1, .val (.pointer (some ⟨B1, 0, none⟩)))]) (ob := [Ad B1 0, Ad B1 1, Ad B1 2]) (fun B => by as_aux_lemma => kernel_rfl) rfl (Ac (ad _ _) (Ac (ad _ _) (Ao (ad _ _)))) ?_
  clear hf; intro a hf
  refine sxcall hf rfl rfl rfl rfl (g := 19) (vs := [.agg #[.int .i64 d, .int .i64 x, .int .i64 y]]) (ob := []) (by as_aux_lemma => kernel_rfl) An enters19 (up_ok d x y w4 hn0 hn1 ) ?_
  clear hf; rintro _ w5 a ⟨rfl, hk⟩ hf
  have hM := hM.keepNn hk
  have hk0 := hk0.trans hk.nn
  clear hk
  refine sr hf hM [6, 5, 4, 3, 1] [{}, {}, {}, { os := [.nw] }, { os := [.st 2 0, .st 2 1, .st 2 2] }, {}] (env' := fun B6 => [(6, .val (.bool true)), (5, .val (.pointer (some ⟨B6, 0, none⟩))), (4, .val (.nilIface)), (3, .val (.pointer (some ⟨B4, 0, none⟩))), (1, .val (.pointer (some ⟨B1, 0, none⟩)))]) (M' := fun B6 => [⟨B1, 44, [.int .i64 d, .int .i64 x, .int .i64 y]⟩, ⟨B4, 42, [.int .i64 (x * side d - 2097152 - side d / 2), .int .i64 (y * side d - 2097152 - side d / 2), .int .i64 (x * side d - 2097152 + side d + side d / 2), .int .i64 (y * side d - 2097152 + side d + side d / 2)]⟩, ⟨B6, 44, [.int .i64 (d - 1), .int .i64 (x / 2), .int .i64 (y / 2)]⟩]) (ob := fun B6 => [Ad B6 0, Ad B6 1, Ad B6 2]) (fun B => by as_aux_lemma => kernel_rfl) (fun B6 => (Ac (ad _ _) (Ac (ad _ _) (Ao (ad _ _))))) ?_
  clear hf hM; intro a w6 B6 hf hM hB hk
  have hbB6 : w.heap.size ≤ B6 := by have := hk0.size; omega
  have hk0 := hk0.then hk (by intro i hi h; simp only [Is, Mem.names, List.map_cons, List.map_nil, List.mem_cons, List.not_mem_nil, or_false] at h; omega)
  clear hk hB
  refine wpList_nil ?_
  refine hK5 _ _ ?_
  refine wp_seq_k (fun K6 hK6 => ?_)
  refine wp_region_lit ?_
  refine sr hf hM [7, 6, 5, 4, 3, 1] [{ os := [.ld 0 0, .ld 0 1, .ld 0 2] }, { os := [.nw] }, { os := [.st 3 0, .st 3 1, .st 3 2] }] (env' := fun B7 => [(7, .val (.pointer (some ⟨B7, 0, none⟩))), (6, .val (.bool true)), (5, .val (.pointer (some ⟨B6, 0, none⟩))), (4, .val (.nilIface)), (3, .val (.pointer (some ⟨B4, 0, none⟩))), (1, .val (.pointer (some ⟨B1, 0, none⟩)))]) (M' := fun B7 => [⟨B1, 44, [.int .i64 d, .int .i64 x, .int .i64 y]⟩, ⟨B4, 42, [.int .i64 (x * side d - 2097152 - side d / 2), .int .i64 (y * side d - 2097152 - side d / 2), .int .i64 (x * side d - 2097152 + side d + side d / 2), .int .i64 (y * side d - 2097152 + side d + side d / 2)]⟩, ⟨B6, 44, [.int .i64 (d - 1), .int .i64 (x / 2), .int .i64 (y / 2)]⟩, ⟨B7, 47, [.int .i64 d, .int .i64 x, .int .i64 y]⟩]) (ob := fun B7 => [Ad B1 0, Ad B1 1, Ad B1 2, Ad B7 0, Ad B7 1, Ad B7 2]) (fun B => by as_aux_lemma => kernel_rfl) (fun B7 => (Ac (ad _ _) (Ac (ad _ _) (Ac (ad _ _) (Ac (ad _ _) (Ac (ad _ _) (Ao (ad _ _)))))))) ?_
  clear hf hM; intro a w7 B7 hf hM hB hk
  have hbB7 : w.heap.size ≤ B7 := by have := hk0.size; omega
  have hk0 := hk0.then hk (by intro i hi h; simp only [Is, Mem.names, List.map_cons, List.map_nil, List.mem_cons, List.not_mem_nil, or_false] at h; omega)
  clear hk hB
  refine wpList_nil ?_
  refine hK6 _ _ ?_
  refine wp_seq_k (fun K7 hK7 => ?_)
  refine wp_seq_k (fun K8 hK8 => ?_)
  refine wp_region_lit ?_
  refine sr0 hf hM [22, 7, 6, 5, 4, 3, 1] [{ os := [.ld 3 0, .ld 3 1, .ld 3 2] }] (env' := [(22, .val (.agg #[.int .i64 d, .int .i64 x, .int .i64 y])), (7, .val (.pointer (some ⟨B7, 0, none⟩))), (6, .val (.bool true)), (5, .val (.pointer (some ⟨B6, 0, none⟩))), (4, .val (.nilIface)), (3, .val (.pointer (some ⟨B4, 0, none⟩))), (1, .val (.pointer (some ⟨B1, 0, none⟩)))]) (ob := [Ad B7 0, Ad B7 1, Ad B7 2]) (fun B => by as_aux_lemma => kernel_rfl) rfl (Ac (ad _ _) (Ac (ad _ _) (Ao (ad _ _)))) ?_
  clear hf; intro a hf
  refine sxcall hf rfl rfl rfl rfl (g := 20) (vs := [.agg #[.int .i64 d, .int .i64 x, .int .i64 y]]) (ob := []) (by as_aux_lemma => kernel_rfl) An enters20 (rcell_right d x y w7  ) ?_
  clear hf; rintro _ w8 a ⟨rfl, hk⟩ hf
  have hM := hM.keepNn hk
  have hk0 := hk0.trans hk.nn
  clear hk
  refine sr0 hf hM [24, 7, 6, 5, 4, 3, 1] [{}] (env' := [(24, .val (.bool (!(cellRight d x y)))), (7, .val (.pointer (some ⟨B7, 0, none⟩))), (6, .val (.bool true)), (5, .val (.pointer (some ⟨B6, 0, none⟩))), (4, .val (.nilIface)), (3, .val (.pointer (some ⟨B4, 0, none⟩))), (1, .val (.pointer (some ⟨B1, 0, none⟩)))]) (ob := []) (fun B => by as_aux_lemma => kernel_rfl) rfl An ?_
  clear hf; intro a hf
  refine wpList_nil ?_
  refine hK8 _ _ ?_
  refine sxcond hf (b := !(cellRight d x y)) (by kernel_rfl) (fun h => absurd (h.symm.trans (by simp [hn0] : (!(cellRight d x y) : Bool) = false)) (by simp)) (fun _ => ?_)
  refine wp_skip ?_
  refine hK7 _ _ ?_
  refine wp_seq_k (fun K9 hK9 => ?_)
  refine wp_seq_k (fun K10 hK10 => ?_)
  refine sxdraw [] [(0, true), (1, true), (2, true), (3, true), (4, true), (5, false), (6, true), (7, true), (8, true), (9, true), (10, true), (11, true), (12, true), (13, true), (14, true)] (by kernel_rfl) (by kernel_rfl) (by as_aux_lemma => kernel_rfl) rfl (by as_aux_lemma => kernel_rfl) (by kernel_rfl) ?_
  replace hM := hM.drew; replace hk0 := hk0.drew
  have hkd := hk0
  have hC : Keep (Is []) w8.drew w8.drew := Keep.refl _ _
  have hM0 := hM
  have hMr := hM
  refine sc0 hf hMr (by intro k _ h; cases h) hC [46, 45, 44, 6, 5, 3, 1] [{}, {}, {}, { os := [.ld 1 0, .ld 1 1, .ld 1 2, .ld 1 3] }, { os := [.ld 3 0, .ld 3 1, .ld 3 2] }] (env' := [(46, .val (.agg #[.int .i64 d, .int .i64 x, .int .i64 y])), (45, .val (.agg #[.int .i64 (x * side d - 2097152 - side d / 2), .int .i64 (y * side d - 2097152 - side d / 2), .int .i64 (x * side d - 2097152 + side d + side d / 2), .int .i64 (y * side d - 2097152 + side d + side d / 2)])), (44, .val (.bool false)), (6, .val (.bool true)), (5, .val (.pointer (some ⟨B6, 0, none⟩))), (3, .val (.pointer (some ⟨B4, 0, none⟩))), (1, .val (.pointer (some ⟨B1, 0, none⟩)))]) (ob := [false = false, Ad B4 0, Ad B4 1, Ad B4 2, Ad B4 3, false = false, Ad B7 0, Ad B7 1, Ad B7 2]) (by as_aux_lemma => kernel_rfl) rfl (Ac rfl (Ac (ad _ _) (Ac (ad _ _) (Ac (ad _ _) (Ac (ad _ _) (Ac rfl (Ac (ad _ _) (Ac (ad _ _) (Ao (ad _ _)))))))))) ?_
  clear hf; intro a hf
  have hM := MemOk.nil w8.drew
  refine sccallg rfl hf rfl rfl rfl rfl rfl (g := 21) (vs := [.agg #[.int .i64 d, .int .i64 x, .int .i64 y]]) (ob := []) (by as_aux_lemma => kernel_rfl) An enters21 (rloose_ok d x y w8.drew hn0 ) (by rintro _ _ ⟨rfl, hk⟩; exact hC.trans hk.nn) ?_
  clear hf; rintro _ w9 a ⟨rfl, hk⟩ hf
  have hM := hM.keepNn hk
  have hC := hC.trans hk.nn
  have hk0 := hk0.trans hk.nn
  clear hk
  refine sc0 hf hMr (by intro k _ h; cases h) hC [56, 6, 5, 3, 1] [{ sp := true, hint := some (.bool false) }, {}, {}, {}, {}, { os := [.ld 0 0] }, {}, {}, {}] (env' := [(56, .val (.bool (!(true == (decide ((d : Int) > 0)))))), (6, .val (.bool true)), (5, .val (.pointer (some ⟨B6, 0, none⟩))), (3, .val (.pointer (some ⟨B4, 0, none⟩))), (1, .val (.pointer (some ⟨B1, 0, none⟩)))]) (ob := [false = false, (.bool (!((((x * side d - 2097152 - side d / 2) : Int) == (x * side d - 2097152 - side d / 2)) && ((((y * side d - 2097152 - side d / 2) : Int) == (y * side d - 2097152 - side d / 2)) && ((((x * side d - 2097152 + side d + side d / 2) : Int) == (x * side d - 2097152 + side d + side d / 2)) && ((((y * side d - 2097152 + side d + side d / 2) : Int) == (y * side d - 2097152 + side d + side d / 2)) && true))))) : Value) = (.bool false : Value), false = false, false = false, false = false, Ad B1 0, false = false, false = false]) (by as_aux_lemma => kernel_rfl) rfl (Ac rfl (Ac (by simp) (Ac rfl (Ac rfl (Ac rfl (Ac (ad _ _) (Ac rfl (Ao rfl)))))))) ?_
  clear hf; intro a hf
  have hM := hMr.keep hC (by intro _ _ h; cases h)
  clear hMr hC hkd
  show K10 _ _
  refine hK10 _ _ ?_
  refine sxcond hf (b := (!(true == (decide ((d : Int) > 0))))) (by kernel_rfl) (fun hc3 => ?_) (fun hc3 => ?_)
  · have hc3r := hc3
    simp at hc3
    omega
  · have hc3r := hc3
    simp at hc3
    refine wp_skip ?_
    refine hK9 _ _ ?_
    refine wp_seq_k (fun K11 hK11 => ?_)
    refine wp_seq_k (fun K12 hK12 => ?_)
    refine wp_region_lit ?_
    refine sr0 hf hM [58, 5, 3, 1] [{}, {}] (env' := [(58, .val (.bool false)), (5, .val (.pointer (some ⟨B6, 0, none⟩))), (3, .val (.pointer (some ⟨B4, 0, none⟩))), (1, .val (.pointer (some ⟨B1, 0, none⟩)))]) (ob := []) (fun B => by as_aux_lemma => kernel_rfl) rfl An ?_
    clear hf; intro a hf
    refine wpList_nil ?_
    refine hK12 _ _ ?_
    refine sxcond hf (b := false) (by kernel_rfl) (fun h => by cases h) (fun _ => ?_)
    refine wp_skip ?_
    refine hK11 _ _ ?_
    refine wp_seq_k (fun K13 hK13 => ?_)
    refine wp_region_lit ?_
    refine sr0 hf hM [63, 5, 3, 1] [{ os := [.ld 2 0, .ld 2 1, .ld 2 2] }] (env' := [(63, .val (.agg #[.int .i64 (d - 1), .int .i64 (x / 2), .int .i64 (y / 2)])), (5, .val (.pointer (some ⟨B6, 0, none⟩))), (3, .val (.pointer (some ⟨B4, 0, none⟩))), (1, .val (.pointer (some ⟨B1, 0, none⟩)))]) (ob := [Ad B6 0, Ad B6 1, Ad B6 2]) (fun B => by as_aux_lemma => kernel_rfl) rfl (Ac (ad _ _) (Ac (ad _ _) (Ao (ad _ _)))) ?_
    clear hf; intro a hf
    refine sxcall hf rfl rfl rfl rfl (g := 18) (vs := [.agg #[.int .i64 (d - 1), .int .i64 (x / 2), .int .i64 (y / 2)]]) (ob := []) (by as_aux_lemma => kernel_rfl) An enters18 (loose_ok E (d - 1) (x / 2) (y / 2) w9 hu ) ?_
    clear hf; rintro _ w10 a ⟨rfl, hk⟩ hf
    have hM := hM.keepNn hk
    have hk0 := hk0.trans hk.nn
    clear hk
    refine sr hf hM [4, 8, 5, 3, 1] [{}, {}, {}, { os := [.nw] }, { os := [.st 4 0, .st 4 1, .st 4 2, .st 4 3] }, {}] (env' := fun B12 => [(4, .val (.nilIface)), (8, .val (.pointer (some ⟨B12, 0, none⟩))), (5, .val (.pointer (some ⟨B6, 0, none⟩))), (3, .val (.pointer (some ⟨B4, 0, none⟩))), (1, .val (.pointer (some ⟨B1, 0, none⟩)))]) (M' := fun B12 => [⟨B1, 44, [.int .i64 d, .int .i64 x, .int .i64 y]⟩, ⟨B4, 42, [.int .i64 (x * side d - 2097152 - side d / 2), .int .i64 (y * side d - 2097152 - side d / 2), .int .i64 (x * side d - 2097152 + side d + side d / 2), .int .i64 (y * side d - 2097152 + side d + side d / 2)]⟩, ⟨B6, 44, [.int .i64 (d - 1), .int .i64 (x / 2), .int .i64 (y / 2)]⟩, ⟨B7, 47, [.int .i64 d, .int .i64 x, .int .i64 y]⟩, ⟨B12, 42, [.int .i64 ((x / 2) * side (d - 1) - 2097152 - side (d - 1) / 2), .int .i64 ((y / 2) * side (d - 1) - 2097152 - side (d - 1) / 2), .int .i64 ((x / 2) * side (d - 1) - 2097152 + side (d - 1) + side (d - 1) / 2), .int .i64 ((y / 2) * side (d - 1) - 2097152 + side (d - 1) + side (d - 1) / 2)]⟩]) (ob := fun B12 => [Ad B12 0, Ad B12 1, Ad B12 2, Ad B12 3]) (fun B => by as_aux_lemma => kernel_rfl) (fun B12 => (Ac (ad _ _) (Ac (ad _ _) (Ac (ad _ _) (Ao (ad _ _)))))) ?_
    clear hf hM; intro a w11 B12 hf hM hB hk
    have hbB12 : w.heap.size ≤ B12 := by have := hk0.size; omega
    have hk0 := hk0.then hk (by intro i hi h; simp only [Is, Mem.names, List.map_cons, List.map_nil, List.mem_cons, List.not_mem_nil, or_false] at h; omega)
    clear hk hB
    refine wpList_nil ?_
    refine hK13 _ _ ?_
    refine wp_seq_k (fun K14 hK14 => ?_)
    refine wp_region_lit ?_
    refine sr0 hf hM [2] [{}, {}, {}, {}, { os := [.ld 2 0] }, {}, { os := [.ld 0 0] }, { hint := some (.int .i64 (d - 1)) }, { hint := some (.bool true) }, {}, {}, {}, { os := [.ld 2 1] }, {}, { os := [.ld 0 1] }, { sp := true, hint := some (.int .i64 (x / 2)) }, { hint := some (.bool true) }, {}, {}, {}, { os := [.ld 2 2] }, {}, { os := [.ld 0 2] }, { sp := true, hint := some (.int .i64 (y / 2)) }, { hint := some (.bool true) }, {}, {}, {}, { os := [.ld 4 0] }, {}, { os := [.ld 1 0] }, {}, {}, {}, { g := .sym }, { g := .sym, os := [.ld 4 1] }, { g := .sym }, { g := .sym, os := [.ld 1 1] }, { g := .sym }, { hint := some (.bool ((decide ((((x / 2) * side (d - 1) - 2097152 - side (d - 1) / 2) : Int) ≤ (x * side d - 2097152 - side d / 2))) && (decide ((((y / 2) * side (d - 1) - 2097152 - side (d - 1) / 2) : Int) ≤ (y * side d - 2097152 - side d / 2))))) }, {}, { g := .sym }, { g := .sym, os := [.ld 1 2] }, { g := .sym }, { g := .sym, os := [.ld 4 2] }, { g := .sym }, { hint := some (.bool (((decide ((((x / 2) * side (d - 1) - 2097152 - side (d - 1) / 2) : Int) ≤ (x * side d - 2097152 - side d / 2))) && (decide ((((y / 2) * side (d - 1) - 2097152 - side (d - 1) / 2) : Int) ≤ (y * side d - 2097152 - side d / 2)))) && (decide (((x * side d - 2097152 + side d + side d / 2) : Int) ≤ ((x / 2) * side (d - 1) - 2097152 + side (d - 1) + side (d - 1) / 2))))) }, {}, { g := .sym }, { g := .sym, os := [.ld 1 3] }, { g := .sym }, { g := .sym, os := [.ld 4 3] }, { g := .sym }, { hint := some (.bool ((((decide ((((x / 2) * side (d - 1) - 2097152 - side (d - 1) / 2) : Int) ≤ (x * side d - 2097152 - side d / 2))) && (decide ((((y / 2) * side (d - 1) - 2097152 - side (d - 1) / 2) : Int) ≤ (y * side d - 2097152 - side d / 2)))) && (decide (((x * side d - 2097152 + side d + side d / 2) : Int) ≤ ((x / 2) * side (d - 1) - 2097152 + side (d - 1) + side (d - 1) / 2)))) && (decide (((y * side d - 2097152 + side d + side d / 2) : Int) ≤ ((y / 2) * side (d - 1) - 2097152 + side (d - 1) + side (d - 1) / 2))))) }, {}] (env' := [(2, .val (.bool ((((decide ((((x / 2) * side (d - 1) - 2097152 - side (d - 1) / 2) : Int) ≤ (x * side d - 2097152 - side d / 2))) && (decide ((((y / 2) * side (d - 1) - 2097152 - side (d - 1) / 2) : Int) ≤ (y * side d - 2097152 - side d / 2)))) && (decide (((x * side d - 2097152 + side d + side d / 2) : Int) ≤ ((x / 2) * side (d - 1) - 2097152 + side (d - 1) + side (d - 1) / 2)))) && (decide (((y * side d - 2097152 + side d + side d / 2) : Int) ≤ ((y / 2) * side (d - 1) - 2097152 + side (d - 1) + side (d - 1) / 2))))))]) (ob := [true = true, true = true, Ad B6 0, true = true, true = true, Ad B1 0, true = true, (.int .i64 (IntKind.i64.wrap (d - 1)) : Value) = (.int .i64 (d - 1) : Value), true = true, (.bool (((d - 1) : Int) == (d - 1)) : Value) = (.bool true : Value), true = true, true = true, Ad B6 1, true = true, true = true, Ad B1 1, true = true, (2 : Int) ≠ 0, (.int .i64 (IntKind.i64.wrap (Int.tdiv x 2)) : Value) = (.int .i64 (x / 2) : Value), true = true, (.bool (((x / 2) : Int) == (x / 2)) : Value) = (.bool true : Value), true = true, true = true, Ad B6 2, true = true, true = true, Ad B1 2, true = true, (2 : Int) ≠ 0, (.int .i64 (IntKind.i64.wrap (Int.tdiv y 2)) : Value) = (.int .i64 (y / 2) : Value), true = true, (.bool (((y / 2) : Int) == (y / 2)) : Value) = (.bool true : Value), true = true, true = true, Ad B12 0, true = true, true = true, Ad B4 0, true = true, ((decide ((((x / 2) * side (d - 1) - 2097152 - side (d - 1) / 2) : Int) ≤ (x * side d - 2097152 - side d / 2))) = true → (decide ((((x / 2) * side (d - 1) - 2097152 - side (d - 1) / 2) : Int) ≤ (x * side d - 2097152 - side d / 2))) = (decide ((((x / 2) * side (d - 1) - 2097152 - side (d - 1) / 2) : Int) ≤ (x * side d - 2097152 - side d / 2)))), ((decide ((((x / 2) * side (d - 1) - 2097152 - side (d - 1) / 2) : Int) ≤ (x * side d - 2097152 - side d / 2))) = true → Ad B12 1), ((decide ((((x / 2) * side (d - 1) - 2097152 - side (d - 1) / 2) : Int) ≤ (x * side d - 2097152 - side d / 2))) = true → (decide ((((x / 2) * side (d - 1) - 2097152 - side (d - 1) / 2) : Int) ≤ (x * side d - 2097152 - side d / 2))) = (decide ((((x / 2) * side (d - 1) - 2097152 - side (d - 1) / 2) : Int) ≤ (x * side d - 2097152 - side d / 2)))), ((decide ((((x / 2) * side (d - 1) - 2097152 - side (d - 1) / 2) : Int) ≤ (x * side d - 2097152 - side d / 2))) = true → Ad B4 1), ((decide ((((x / 2) * side (d - 1) - 2097152 - side (d - 1) / 2) : Int) ≤ (x * side d - 2097152 - side d / 2))) = true → (decide ((((x / 2) * side (d - 1) - 2097152 - side (d - 1) / 2) : Int) ≤ (x * side d - 2097152 - side d / 2))) = (decide ((((x / 2) * side (d - 1) - 2097152 - side (d - 1) / 2) : Int) ≤ (x * side d - 2097152 - side d / 2)))), ((decide ((((x / 2) * side (d - 1) - 2097152 - side (d - 1) / 2) : Int) ≤ (x * side d - 2097152 - side d / 2))) = true → (decide ((((x / 2) * side (d - 1) - 2097152 - side (d - 1) / 2) : Int) ≤ (x * side d - 2097152 - side d / 2))) = (decide ((((x / 2) * side (d - 1) - 2097152 - side (d - 1) / 2) : Int) ≤ (x * side d - 2097152 - side d / 2)))), ((decide ((((x / 2) * side (d - 1) - 2097152 - side (d - 1) / 2) : Int) ≤ (x * side d - 2097152 - side d / 2))) = true → (decide ((((x / 2) * side (d - 1) - 2097152 - side (d - 1) / 2) : Int) ≤ (x * side d - 2097152 - side d / 2))) = (decide ((((x / 2) * side (d - 1) - 2097152 - side (d - 1) / 2) : Int) ≤ (x * side d - 2097152 - side d / 2)))), (bif (decide ((((x / 2) * side (d - 1) - 2097152 - side (d - 1) / 2) : Int) ≤ (x * side d - 2097152 - side d / 2))) then (.bool (decide ((((y / 2) * side (d - 1) - 2097152 - side (d - 1) / 2) : Int) ≤ (y * side d - 2097152 - side d / 2))) : Value) else .bool false) = .bool ((decide ((((x / 2) * side (d - 1) - 2097152 - side (d - 1) / 2) : Int) ≤ (x * side d - 2097152 - side d / 2))) && (decide ((((y / 2) * side (d - 1) - 2097152 - side (d - 1) / 2) : Int) ≤ (y * side d - 2097152 - side d / 2)))), (((decide ((((x / 2) * side (d - 1) - 2097152 - side (d - 1) / 2) : Int) ≤ (x * side d - 2097152 - side d / 2))) && (decide ((((y / 2) * side (d - 1) - 2097152 - side (d - 1) / 2) : Int) ≤ (y * side d - 2097152 - side d / 2)))) = true → ((decide ((((x / 2) * side (d - 1) - 2097152 - side (d - 1) / 2) : Int) ≤ (x * side d - 2097152 - side d / 2))) && (decide ((((y / 2) * side (d - 1) - 2097152 - side (d - 1) / 2) : Int) ≤ (y * side d - 2097152 - side d / 2)))) = ((decide ((((x / 2) * side (d - 1) - 2097152 - side (d - 1) / 2) : Int) ≤ (x * side d - 2097152 - side d / 2))) && (decide ((((y / 2) * side (d - 1) - 2097152 - side (d - 1) / 2) : Int) ≤ (y * side d - 2097152 - side d / 2))))), (((decide ((((x / 2) * side (d - 1) - 2097152 - side (d - 1) / 2) : Int) ≤ (x * side d - 2097152 - side d / 2))) && (decide ((((y / 2) * side (d - 1) - 2097152 - side (d - 1) / 2) : Int) ≤ (y * side d - 2097152 - side d / 2)))) = true → Ad B4 2), (((decide ((((x / 2) * side (d - 1) - 2097152 - side (d - 1) / 2) : Int) ≤ (x * side d - 2097152 - side d / 2))) && (decide ((((y / 2) * side (d - 1) - 2097152 - side (d - 1) / 2) : Int) ≤ (y * side d - 2097152 - side d / 2)))) = true → ((decide ((((x / 2) * side (d - 1) - 2097152 - side (d - 1) / 2) : Int) ≤ (x * side d - 2097152 - side d / 2))) && (decide ((((y / 2) * side (d - 1) - 2097152 - side (d - 1) / 2) : Int) ≤ (y * side d - 2097152 - side d / 2)))) = ((decide ((((x / 2) * side (d - 1) - 2097152 - side (d - 1) / 2) : Int) ≤ (x * side d - 2097152 - side d / 2))) && (decide ((((y / 2) * side (d - 1) - 2097152 - side (d - 1) / 2) : Int) ≤ (y * side d - 2097152 - side d / 2))))), (((decide ((((x / 2) * side (d - 1) - 2097152 - side (d - 1) / 2) : Int) ≤ (x * side d - 2097152 - side d / 2))) && (decide ((((y / 2) * side (d - 1) - 2097152 - side (d - 1) / 2) : Int) ≤ (y * side d - 2097152 - side d / 2)))) = true → Ad B12 2), (((decide ((((x / 2) * side (d - 1) - 2097152 - side (d - 1) / 2) : Int) ≤ (x * side d - 2097152 - side d / 2))) && (decide ((((y / 2) * side (d - 1) - 2097152 - side (d - 1) / 2) : Int) ≤ (y * side d - 2097152 - side d / 2)))) = true → ((decide ((((x / 2) * side (d - 1) - 2097152 - side (d - 1) / 2) : Int) ≤ (x * side d - 2097152 - side d / 2))) && (decide ((((y / 2) * side (d - 1) - 2097152 - side (d - 1) / 2) : Int) ≤ (y * side d - 2097152 - side d / 2)))) = ((decide ((((x / 2) * side (d - 1) - 2097152 - side (d - 1) / 2) : Int) ≤ (x * side d - 2097152 - side d / 2))) && (decide ((((y / 2) * side (d - 1) - 2097152 - side (d - 1) / 2) : Int) ≤ (y * side d - 2097152 - side d / 2))))), (((decide ((((x / 2) * side (d - 1) - 2097152 - side (d - 1) / 2) : Int) ≤ (x * side d - 2097152 - side d / 2))) && (decide ((((y / 2) * side (d - 1) - 2097152 - side (d - 1) / 2) : Int) ≤ (y * side d - 2097152 - side d / 2)))) = true → ((decide ((((x / 2) * side (d - 1) - 2097152 - side (d - 1) / 2) : Int) ≤ (x * side d - 2097152 - side d / 2))) && (decide ((((y / 2) * side (d - 1) - 2097152 - side (d - 1) / 2) : Int) ≤ (y * side d - 2097152 - side d / 2)))) = ((decide ((((x / 2) * side (d - 1) - 2097152 - side (d - 1) / 2) : Int) ≤ (x * side d - 2097152 - side d / 2))) && (decide ((((y / 2) * side (d - 1) - 2097152 - side (d - 1) / 2) : Int) ≤ (y * side d - 2097152 - side d / 2))))), (((decide ((((x / 2) * side (d - 1) - 2097152 - side (d - 1) / 2) : Int) ≤ (x * side d - 2097152 - side d / 2))) && (decide ((((y / 2) * side (d - 1) - 2097152 - side (d - 1) / 2) : Int) ≤ (y * side d - 2097152 - side d / 2)))) = true → ((decide ((((x / 2) * side (d - 1) - 2097152 - side (d - 1) / 2) : Int) ≤ (x * side d - 2097152 - side d / 2))) && (decide ((((y / 2) * side (d - 1) - 2097152 - side (d - 1) / 2) : Int) ≤ (y * side d - 2097152 - side d / 2)))) = ((decide ((((x / 2) * side (d - 1) - 2097152 - side (d - 1) / 2) : Int) ≤ (x * side d - 2097152 - side d / 2))) && (decide ((((y / 2) * side (d - 1) - 2097152 - side (d - 1) / 2) : Int) ≤ (y * side d - 2097152 - side d / 2))))), (bif ((decide ((((x / 2) * side (d - 1) - 2097152 - side (d - 1) / 2) : Int) ≤ (x * side d - 2097152 - side d / 2))) && (decide ((((y / 2) * side (d - 1) - 2097152 - side (d - 1) / 2) : Int) ≤ (y * side d - 2097152 - side d / 2)))) then (.bool (decide (((x * side d - 2097152 + side d + side d / 2) : Int) ≤ ((x / 2) * side (d - 1) - 2097152 + side (d - 1) + side (d - 1) / 2))) : Value) else .bool false) = .bool (((decide ((((x / 2) * side (d - 1) - 2097152 - side (d - 1) / 2) : Int) ≤ (x * side d - 2097152 - side d / 2))) && (decide ((((y / 2) * side (d - 1) - 2097152 - side (d - 1) / 2) : Int) ≤ (y * side d - 2097152 - side d / 2)))) && (decide (((x * side d - 2097152 + side d + side d / 2) : Int) ≤ ((x / 2) * side (d - 1) - 2097152 + side (d - 1) + side (d - 1) / 2)))), ((((decide ((((x / 2) * side (d - 1) - 2097152 - side (d - 1) / 2) : Int) ≤ (x * side d - 2097152 - side d / 2))) && (decide ((((y / 2) * side (d - 1) - 2097152 - side (d - 1) / 2) : Int) ≤ (y * side d - 2097152 - side d / 2)))) && (decide (((x * side d - 2097152 + side d + side d / 2) : Int) ≤ ((x / 2) * side (d - 1) - 2097152 + side (d - 1) + side (d - 1) / 2)))) = true → (((decide ((((x / 2) * side (d - 1) - 2097152 - side (d - 1) / 2) : Int) ≤ (x * side d - 2097152 - side d / 2))) && (decide ((((y / 2) * side (d - 1) - 2097152 - side (d - 1) / 2) : Int) ≤ (y * side d - 2097152 - side d / 2)))) && (decide (((x * side d - 2097152 + side d + side d / 2) : Int) ≤ ((x / 2) * side (d - 1) - 2097152 + side (d - 1) + side (d - 1) / 2)))) = (((decide ((((x / 2) * side (d - 1) - 2097152 - side (d - 1) / 2) : Int) ≤ (x * side d - 2097152 - side d / 2))) && (decide ((((y / 2) * side (d - 1) - 2097152 - side (d - 1) / 2) : Int) ≤ (y * side d - 2097152 - side d / 2)))) && (decide (((x * side d - 2097152 + side d + side d / 2) : Int) ≤ ((x / 2) * side (d - 1) - 2097152 + side (d - 1) + side (d - 1) / 2))))), ((((decide ((((x / 2) * side (d - 1) - 2097152 - side (d - 1) / 2) : Int) ≤ (x * side d - 2097152 - side d / 2))) && (decide ((((y / 2) * side (d - 1) - 2097152 - side (d - 1) / 2) : Int) ≤ (y * side d - 2097152 - side d / 2)))) && (decide (((x * side d - 2097152 + side d + side d / 2) : Int) ≤ ((x / 2) * side (d - 1) - 2097152 + side (d - 1) + side (d - 1) / 2)))) = true → Ad B4 3), ((((decide ((((x / 2) * side (d - 1) - 2097152 - side (d - 1) / 2) : Int) ≤ (x * side d - 2097152 - side d / 2))) && (decide ((((y / 2) * side (d - 1) - 2097152 - side (d - 1) / 2) : Int) ≤ (y * side d - 2097152 - side d / 2)))) && (decide (((x * side d - 2097152 + side d + side d / 2) : Int) ≤ ((x / 2) * side (d - 1) - 2097152 + side (d - 1) + side (d - 1) / 2)))) = true → (((decide ((((x / 2) * side (d - 1) - 2097152 - side (d - 1) / 2) : Int) ≤ (x * side d - 2097152 - side d / 2))) && (decide ((((y / 2) * side (d - 1) - 2097152 - side (d - 1) / 2) : Int) ≤ (y * side d - 2097152 - side d / 2)))) && (decide (((x * side d - 2097152 + side d + side d / 2) : Int) ≤ ((x / 2) * side (d - 1) - 2097152 + side (d - 1) + side (d - 1) / 2)))) = (((decide ((((x / 2) * side (d - 1) - 2097152 - side (d - 1) / 2) : Int) ≤ (x * side d - 2097152 - side d / 2))) && (decide ((((y / 2) * side (d - 1) - 2097152 - side (d - 1) / 2) : Int) ≤ (y * side d - 2097152 - side d / 2)))) && (decide (((x * side d - 2097152 + side d + side d / 2) : Int) ≤ ((x / 2) * side (d - 1) - 2097152 + side (d - 1) + side (d - 1) / 2))))), ((((decide ((((x / 2) * side (d - 1) - 2097152 - side (d - 1) / 2) : Int) ≤ (x * side d - 2097152 - side d / 2))) && (decide ((((y / 2) * side (d - 1) - 2097152 - side (d - 1) / 2) : Int) ≤ (y * side d - 2097152 - side d / 2)))) && (decide (((x * side d - 2097152 + side d + side d / 2) : Int) ≤ ((x / 2) * side (d - 1) - 2097152 + side (d - 1) + side (d - 1) / 2)))) = true → Ad B12 3), ((((decide ((((x / 2) * side (d - 1) - 2097152 - side (d - 1) / 2) : Int) ≤ (x * side d - 2097152 - side d / 2))) && (decide ((((y / 2) * side (d - 1) - 2097152 - side (d - 1) / 2) : Int) ≤ (y * side d - 2097152 - side d / 2)))) && (decide (((x * side d - 2097152 + side d + side d / 2) : Int) ≤ ((x / 2) * side (d - 1) - 2097152 + side (d - 1) + side (d - 1) / 2)))) = true → (((decide ((((x / 2) * side (d - 1) - 2097152 - side (d - 1) / 2) : Int) ≤ (x * side d - 2097152 - side d / 2))) && (decide ((((y / 2) * side (d - 1) - 2097152 - side (d - 1) / 2) : Int) ≤ (y * side d - 2097152 - side d / 2)))) && (decide (((x * side d - 2097152 + side d + side d / 2) : Int) ≤ ((x / 2) * side (d - 1) - 2097152 + side (d - 1) + side (d - 1) / 2)))) = (((decide ((((x / 2) * side (d - 1) - 2097152 - side (d - 1) / 2) : Int) ≤ (x * side d - 2097152 - side d / 2))) && (decide ((((y / 2) * side (d - 1) - 2097152 - side (d - 1) / 2) : Int) ≤ (y * side d - 2097152 - side d / 2)))) && (decide (((x * side d - 2097152 + side d + side d / 2) : Int) ≤ ((x / 2) * side (d - 1) - 2097152 + side (d - 1) + side (d - 1) / 2))))), ((((decide ((((x / 2) * side (d - 1) - 2097152 - side (d - 1) / 2) : Int) ≤ (x * side d - 2097152 - side d / 2))) && (decide ((((y / 2) * side (d - 1) - 2097152 - side (d - 1) / 2) : Int) ≤ (y * side d - 2097152 - side d / 2)))) && (decide (((x * side d - 2097152 + side d + side d / 2) : Int) ≤ ((x / 2) * side (d - 1) - 2097152 + side (d - 1) + side (d - 1) / 2)))) = true → (((decide ((((x / 2) * side (d - 1) - 2097152 - side (d - 1) / 2) : Int) ≤ (x * side d - 2097152 - side d / 2))) && (decide ((((y / 2) * side (d - 1) - 2097152 - side (d - 1) / 2) : Int) ≤ (y * side d - 2097152 - side d / 2)))) && (decide (((x * side d - 2097152 + side d + side d / 2) : Int) ≤ ((x / 2) * side (d - 1) - 2097152 + side (d - 1) + side (d - 1) / 2)))) = (((decide ((((x / 2) * side (d - 1) - 2097152 - side (d - 1) / 2) : Int) ≤ (x * side d - 2097152 - side d / 2))) && (decide ((((y / 2) * side (d - 1) - 2097152 - side (d - 1) / 2) : Int) ≤ (y * side d - 2097152 - side d / 2)))) && (decide (((x * side d - 2097152 + side d + side d / 2) : Int) ≤ ((x / 2) * side (d - 1) - 2097152 + side (d - 1) + side (d - 1) / 2))))), ((((decide ((((x / 2) * side (d - 1) - 2097152 - side (d - 1) / 2) : Int) ≤ (x * side d - 2097152 - side d / 2))) && (decide ((((y / 2) * side (d - 1) - 2097152 - side (d - 1) / 2) : Int) ≤ (y * side d - 2097152 - side d / 2)))) && (decide (((x * side d - 2097152 + side d + side d / 2) : Int) ≤ ((x / 2) * side (d - 1) - 2097152 + side (d - 1) + side (d - 1) / 2)))) = true → (((decide ((((x / 2) * side (d - 1) - 2097152 - side (d - 1) / 2) : Int) ≤ (x * side d - 2097152 - side d / 2))) && (decide ((((y / 2) * side (d - 1) - 2097152 - side (d - 1) / 2) : Int) ≤ (y * side d - 2097152 - side d / 2)))) && (decide (((x * side d - 2097152 + side d + side d / 2) : Int) ≤ ((x / 2) * side (d - 1) - 2097152 + side (d - 1) + side (d - 1) / 2)))) = (((decide ((((x / 2) * side (d - 1) - 2097152 - side (d - 1) / 2) : Int) ≤ (x * side d - 2097152 - side d / 2))) && (decide ((((y / 2) * side (d - 1) - 2097152 - side (d - 1) / 2) : Int) ≤ (y * side d - 2097152 - side d / 2)))) && (decide (((x * side d - 2097152 + side d + side d / 2) : Int) ≤ ((x / 2) * side (d - 1) - 2097152 + side (d - 1) + side (d - 1) / 2))))), (bif (((decide ((((x / 2) * side (d - 1) - 2097152 - side (d - 1) / 2) : Int) ≤ (x * side d - 2097152 - side d / 2))) && (decide ((((y / 2) * side (d - 1) - 2097152 - side (d - 1) / 2) : Int) ≤ (y * side d - 2097152 - side d / 2)))) && (decide (((x * side d - 2097152 + side d + side d / 2) : Int) ≤ ((x / 2) * side (d - 1) - 2097152 + side (d - 1) + side (d - 1) / 2)))) then (.bool (decide (((y * side d - 2097152 + side d + side d / 2) : Int) ≤ ((y / 2) * side (d - 1) - 2097152 + side (d - 1) + side (d - 1) / 2))) : Value) else .bool false) = .bool ((((decide ((((x / 2) * side (d - 1) - 2097152 - side (d - 1) / 2) : Int) ≤ (x * side d - 2097152 - side d / 2))) && (decide ((((y / 2) * side (d - 1) - 2097152 - side (d - 1) / 2) : Int) ≤ (y * side d - 2097152 - side d / 2)))) && (decide (((x * side d - 2097152 + side d + side d / 2) : Int) ≤ ((x / 2) * side (d - 1) - 2097152 + side (d - 1) + side (d - 1) / 2)))) && (decide (((y * side d - 2097152 + side d + side d / 2) : Int) ≤ ((y / 2) * side (d - 1) - 2097152 + side (d - 1) + side (d - 1) / 2))))]) (fun B => by as_aux_lemma => kernel_rfl) rfl (Ac rfl (Ac rfl (Ac (ad _ _) (Ac rfl (Ac rfl (Ac (ad _ _) (Ac rfl (Ac (wr (by omega)) (Ac rfl (Ac (by simp) (Ac rfl (Ac rfl (Ac (ad _ _) (Ac rfl (Ac rfl (Ac (ad _ _) (Ac rfl (Ac (by omega) (Ac (quo2 (by omega)) (Ac rfl (Ac (by simp) (Ac rfl (Ac rfl (Ac (ad _ _) (Ac rfl (Ac rfl (Ac (ad _ _) (Ac rfl (Ac (by omega) (Ac (quo2 (by omega)) (Ac rfl (Ac (by simp) (Ac rfl (Ac rfl (Ac (ad _ _) (Ac rfl (Ac rfl (Ac (ad _ _) (Ac rfl (Ac (fun hgd => rfl) (Ac (fun hgd => ad _ _) (Ac (fun hgd => rfl) (Ac (fun hgd => ad _ _) (Ac (fun hgd => rfl) (Ac (fun hgd => rfl) (Ac (fun _ => rfl) (Ac (pick_and _ _) (Ac (fun hgd => rfl) (Ac (fun hgd => ad _ _) (Ac (fun hgd => rfl) (Ac (fun hgd => ad _ _) (Ac (fun hgd => rfl) (Ac (fun hgd => rfl) (Ac (fun _ => rfl) (Ac (pick_and _ _) (Ac (fun hgd => rfl) (Ac (fun hgd => ad _ _) (Ac (fun hgd => rfl) (Ac (fun hgd => ad _ _) (Ac (fun hgd => rfl) (Ac (fun hgd => rfl) (Ac (fun _ => rfl) (Ao (pick_and _ _)))))))))))))))))))))))))))))))))))))))))))))))))))))))))))))))) ?_
    clear hf; intro a hf
    refine wpList_nil ?_
    refine hK14 _ _ ?_
    refine wp_ret ?_
    refine sxret (fn := Tryd.f5) hf hM [] (l := [.bool ((((decide ((((x / 2) * side (d - 1) - 2097152 - side (d - 1) / 2) : Int) ≤ (x * side d - 2097152 - side d / 2))) && (decide ((((y / 2) * side (d - 1) - 2097152 - side (d - 1) / 2) : Int) ≤ (y * side d - 2097152 - side d / 2)))) && (decide (((x * side d - 2097152 + side d + side d / 2) : Int) ≤ ((x / 2) * side (d - 1) - 2097152 + side (d - 1) + side (d - 1) / 2)))) && (decide (((y * side d - 2097152 + side d + side d / 2) : Int) ≤ ((y / 2) * side (d - 1) - 2097152 + side (d - 1) + side (d - 1) / 2))))]) (M' := [⟨B1, 44, [.int .i64 d, .int .i64 x, .int .i64 y]⟩, ⟨B4, 42, [.int .i64 (x * side d - 2097152 - side d / 2), .int .i64 (y * side d - 2097152 - side d / 2), .int .i64 (x * side d - 2097152 + side d + side d / 2), .int .i64 (y * side d - 2097152 + side d + side d / 2)]⟩, ⟨B6, 44, [.int .i64 (d - 1), .int .i64 (x / 2), .int .i64 (y / 2)]⟩, ⟨B7, 47, [.int .i64 d, .int .i64 x, .int .i64 y]⟩, ⟨B12, 42, [.int .i64 ((x / 2) * side (d - 1) - 2097152 - side (d - 1) / 2), .int .i64 ((y / 2) * side (d - 1) - 2097152 - side (d - 1) / 2), .int .i64 ((x / 2) * side (d - 1) - 2097152 + side (d - 1) + side (d - 1) / 2), .int .i64 ((y / 2) * side (d - 1) - 2097152 + side (d - 1) + side (d - 1) / 2)]⟩]) (d' := false) (ob := []) (by kernel_rfl) (fun B => ⟨B, by as_aux_lemma => kernel_rfl⟩) rfl An ?_
    show (.bool ((((decide ((((x / 2) * side (d - 1) - 2097152 - side (d - 1) / 2) : Int) ≤ (x * side d - 2097152 - side d / 2))) && (decide ((((y / 2) * side (d - 1) - 2097152 - side (d - 1) / 2) : Int) ≤ (y * side d - 2097152 - side d / 2)))) && (decide (((x * side d - 2097152 + side d + side d / 2) : Int) ≤ ((x / 2) * side (d - 1) - 2097152 + side (d - 1) + side (d - 1) / 2)))) && (decide (((y * side d - 2097152 + side d + side d / 2) : Int) ≤ ((y / 2) * side (d - 1) - 2097152 + side (d - 1) + side (d - 1) / 2)))) : Value) = .bool true ∧ Keep Nn w w11
    refine ⟨congrArg Value.bool ?_, hk0⟩
    simp
    omega

set_option maxRecDepth 10000 in
theorem qc_form (E : Nat → Addr) (x0 y0 x1 y1 : Int) (w : World) (hn0 : (boxRight x0 y0 x1 y1) = false) (hG : Errs 10 w 115 E) :
    Calls Tryd.prog 4 #[.agg #[.int .i64 x0, .int .i64 y0, .int .i64 x1, .int .i64 y1]] w (Ret fun v w' => v = .bool true ∧ Keep Nn w w') := by
  refine sxenter (n := 66) (args := [.agg #[.int .i64 x0, .int .i64 y0, .int .i64 x1, .int .i64 y1]]) Tryd.func4 rfl rfl rfl fun a hf => ?_
  replace hf : Fr 66 [(0, .val (.agg #[.int .i64 x0, .int .i64 y0, .int .i64 x1, .int .i64 y1]))] a := hf
  have hM : MemOk [] w := MemOk.nil w
  have hk0 : Keep Nn w w := Keep.refl _ _
  have hgs := hG.size
  refine wp_seq_k (fun K1 hK1 => ?_)
  refine wp_region_lit ?_
  refine sr hf hM [1] [{ os := [.nw] }, {}] (env' := fun B1 => [(1, .val (.pointer (some ⟨B1, 0, none⟩)))]) (M' := fun B1 => [⟨B1, 42, [.int .i64 x0, .int .i64 y0, .int .i64 x1, .int .i64 y1]⟩]) (ob := fun B1 => []) (fun B => by as_aux_lemma => kernel_rfl) (fun B1 => An) ?_
  clear hf hM; intro a w1 B1 hf hM hB hk
  have hbB1 : w.heap.size ≤ B1 := by have := hk0.size; omega
  have hk0 := hk0.then hk (by intro i _ h; cases h)
  clear hk hB
  refine wpList_nil ?_
  refine hK1 _ _ ?_
  refine wp_seq_k (fun K2 hK2 => ?_)
  refine wp_seq_k (fun K3 hK3 => ?_)
  refine wp_region_lit ?_
  refine sxcall hf rfl rfl rfl rfl (g := 15) (vs := []) (ob := []) (by as_aux_lemma => kernel_rfl) An enters15 (alive_any E w1  (hG.keep hk0 (fun _ h => h))) ?_
  clear hf; rintro _ w2 a ⟨rfl, hk⟩ hf
  have hM := hM.keepNn hk
  have hk0 := hk0.trans hk.nn
  clear hk
  refine sr0 hf hM [9, 1] [{}] (env' := [(9, .val (.bool false)), (1, .val (.pointer (some ⟨B1, 0, none⟩)))]) (ob := []) (fun B => by as_aux_lemma => kernel_rfl) rfl An ?_
  clear hf; intro a hf
  refine wpList_nil ?_
  refine hK3 _ _ ?_
  refine sxcond hf (b := false) (by kernel_rfl) (fun h => by cases h) (fun _ => ?_)
  refine wp_skip ?_
  refine hK2 _ _ ?_
  refine wp_seq_k (fun K4 hK4 => ?_)
  refine wp_region_lit ?_
  refine sr0 hf hM [11, 1] [{ os := [.ld 0 0, .ld 0 1, .ld 0 2, .ld 0 3] }] (env' := [(11, .val (.agg #[.int .i64 x0, .int .i64 y0, .int .i64 x1, .int .i64 y1])), (1, .val (.pointer (some ⟨B1, 0, none⟩)))]) (ob := [Ad B1 0, Ad B1 1, Ad B1 2, Ad B1 3]) (fun B => by as_aux_lemma => kernel_rfl) rfl (Ac (ad _ _) (Ac (ad _ _) (Ac (ad _ _) (Ao (ad _ _))))) ?_
  clear hf; intro a hf
  refine sxcall hf rfl rfl rfl rfl (g := 16) (vs := [.agg #[.int .i64 x0, .int .i64 y0, .int .i64 x1, .int .i64 y1]]) (ob := []) (by as_aux_lemma => kernel_rfl) An enters16 (of_form E x0 y0 x1 y1 w2 hn0 (hG.keep hk0 (fun _ h => h))) ?_
  clear hf; rintro _ w3 a ⟨rfl, hk⟩ hf
  have hM := hM.keepNn hk
  have hk0 := hk0.trans hk.nn
  clear hk
  refine sr hf hM [4, 3, 1] [{}, {}, {}, { os := [.nw] }, { os := [.st 1 0, .st 1 1, .st 1 2] }, {}] (env' := fun B4 => [(4, .val (.iface 115 (.pointer (some (E 6))))), (3, .val (.pointer (some ⟨B4, 0, none⟩))), (1, .val (.pointer (some ⟨B1, 0, none⟩)))]) (M' := fun B4 => [⟨B1, 42, [.int .i64 x0, .int .i64 y0, .int .i64 x1, .int .i64 y1]⟩, ⟨B4, 44, [.int .i64 0, .int .i64 0, .int .i64 0]⟩]) (ob := fun B4 => [Ad B4 0, Ad B4 1, Ad B4 2]) (fun B => by as_aux_lemma => kernel_rfl) (fun B4 => (Ac (ad _ _) (Ac (ad _ _) (Ao (ad _ _))))) ?_
  clear hf hM; intro a w4 B4 hf hM hB hk
  have hbB4 : w.heap.size ≤ B4 := by have := hk0.size; omega
  have hk0 := hk0.then hk (by intro i hi h; simp only [Is, Mem.names, List.map_cons, List.map_nil, List.mem_cons, List.not_mem_nil, or_false] at h; omega)
  clear hk hB
  refine wpList_nil ?_
  refine hK4 _ _ ?_
  refine wp_seq_k (fun K5 hK5 => ?_)
  refine wp_region_lit ?_
  refine sr0 hf hM [16, 4, 3, 1] [{ os := [.ld 0 0, .ld 0 1, .ld 0 2, .ld 0 3] }] (env' := [(16, .val (.agg #[.int .i64 x0, .int .i64 y0, .int .i64 x1, .int .i64 y1])), (4, .val (.iface 115 (.pointer (some (E 6))))), (3, .val (.pointer (some ⟨B4, 0, none⟩))), (1, .val (.pointer (some ⟨B1, 0, none⟩)))]) (ob := [Ad B1 0, Ad B1 1, Ad B1 2, Ad B1 3]) (fun B => by as_aux_lemma => kernel_rfl) rfl (Ac (ad _ _) (Ac (ad _ _) (Ac (ad _ _) (Ao (ad _ _))))) ?_
  clear hf; intro a hf
  refine sxcall hf rfl rfl rfl rfl (g := 17) (vs := [.agg #[.int .i64 x0, .int .i64 y0, .int .i64 x1, .int .i64 y1]]) (ob := []) (by as_aux_lemma => kernel_rfl) An enters17 (rof_form x0 y0 x1 y1 w4 hn0 ) ?_
  clear hf; rintro _ w5 a ⟨rfl, hk⟩ hf
  have hM := hM.keepNn hk
  have hk0 := hk0.trans hk.nn
  clear hk
  refine sr hf hM [6, 5, 4, 3, 1] [{}, {}, {}, { os := [.nw] }, { os := [.st 2 0, .st 2 1, .st 2 2] }, {}] (env' := fun B6 => [(6, .val (.int .i64 7)), (5, .val (.pointer (some ⟨B6, 0, none⟩))), (4, .val (.iface 115 (.pointer (some (E 6))))), (3, .val (.pointer (some ⟨B4, 0, none⟩))), (1, .val (.pointer (some ⟨B1, 0, none⟩)))]) (M' := fun B6 => [⟨B1, 42, [.int .i64 x0, .int .i64 y0, .int .i64 x1, .int .i64 y1]⟩, ⟨B4, 44, [.int .i64 0, .int .i64 0, .int .i64 0]⟩, ⟨B6, 47, [.int .i64 0, .int .i64 0, .int .i64 0]⟩]) (ob := fun B6 => [Ad B6 0, Ad B6 1, Ad B6 2]) (fun B => by as_aux_lemma => kernel_rfl) (fun B6 => (Ac (ad _ _) (Ac (ad _ _) (Ao (ad _ _))))) ?_
  clear hf hM; intro a w6 B6 hf hM hB hk
  have hbB6 : w.heap.size ≤ B6 := by have := hk0.size; omega
  have hk0 := hk0.then hk (by intro i hi h; simp only [Is, Mem.names, List.map_cons, List.map_nil, List.mem_cons, List.not_mem_nil, or_false] at h; omega)
  clear hk hB
  refine wpList_nil ?_
  refine hK5 _ _ ?_
  refine wp_seq_k (fun K6 hK6 => ?_)
  refine wp_seq_k (fun K7 hK7 => ?_)
  refine wp_region_lit ?_
  refine sr0 hf hM [24, 23, 6, 3, 1] [{ os := [.ld 1 0, .ld 1 1, .ld 1 2] }, { os := [.ld 2 0, .ld 2 1, .ld 2 2] }, { sp := true, hint := some (.bool false) }, {}, {}] (env' := [(24, .val (.iface 115 (.pointer (some (E 6))))), (23, .val (.bool false)), (6, .val (.int .i64 7)), (3, .val (.pointer (some ⟨B4, 0, none⟩))), (1, .val (.pointer (some ⟨B1, 0, none⟩)))]) (ob := [Ad B4 0, Ad B4 1, Ad B4 2, Ad B6 0, Ad B6 1, Ad B6 2, (.bool (!(((0 : Int) == 0) && (((0 : Int) == 0) && (((0 : Int) == 0) && true)))) : Value) = (.bool false : Value), false = false]) (fun B => by as_aux_lemma => kernel_rfl) rfl (Ac (ad _ _) (Ac (ad _ _) (Ac (ad _ _) (Ac (ad _ _) (Ac (ad _ _) (Ac (ad _ _) (Ac (by simp) (Ao rfl)))))))) ?_
  clear hf; intro a hf
  refine sxcallg hf rfl rfl rfl rfl rfl (g := 11) (vs := [.iface 115 (.pointer (some (E 6)))]) (ob := []) (by as_aux_lemma => kernel_rfl) An enters11 (num_err E 6 w6  (by decide) (hG.keep hk0 (fun _ h => h))) ?_
  clear hf; rintro _ w7 a ⟨rfl, hk⟩ hf
  have hM := hM.keepNn hk
  have hk0 := hk0.trans hk.nn
  clear hk
  refine sr0 hf hM [28, 6, 3, 1] [{}, {}, {}] (env' := [(28, .val (.bool false)), (6, .val (.int .i64 7)), (3, .val (.pointer (some ⟨B4, 0, none⟩))), (1, .val (.pointer (some ⟨B1, 0, none⟩)))]) (ob := [false = false, false = false]) (fun B => by as_aux_lemma => kernel_rfl) rfl (Ac rfl (Ao rfl)) ?_
  clear hf; intro a hf
  refine wpList_nil ?_
  refine hK7 _ _ ?_
  refine sxcond hf (b := false) (by kernel_rfl) (fun h => by cases h) (fun _ => ?_)
  refine wp_skip ?_
  refine hK6 _ _ ?_
  refine wp_seq_k (fun K8 hK8 => ?_)
  refine wp_seq_k (fun K9 hK9 => ?_)
  refine wp_region_lit ?_
  refine sr0 hf hM [30, 3, 1] [{}, {}] (env' := [(30, .val (.bool true)), (3, .val (.pointer (some ⟨B4, 0, none⟩))), (1, .val (.pointer (some ⟨B1, 0, none⟩)))]) (ob := []) (fun B => by as_aux_lemma => kernel_rfl) rfl An ?_
  clear hf; intro a hf
  refine wpList_nil ?_
  refine hK9 _ _ ?_
  refine sxcond hf (b := true) (by kernel_rfl) (fun _ => ?_) (fun h => by cases h)
  refine wp_seq_k (fun K10 hK10 => ?_)
  refine wp_region_lit ?_
  refine sr0 hf hM [2] [{}] (env' := [(2, .val (.bool true))]) (ob := []) (fun B => by as_aux_lemma => kernel_rfl) rfl An ?_
  clear hf; intro a hf
  refine wpList_nil ?_
  refine hK10 _ _ ?_
  refine wp_ret ?_
  refine sxret (fn := Tryd.f4) hf hM [] (l := [.bool true]) (M' := [⟨B1, 42, [.int .i64 x0, .int .i64 y0, .int .i64 x1, .int .i64 y1]⟩, ⟨B4, 44, [.int .i64 0, .int .i64 0, .int .i64 0]⟩, ⟨B6, 47, [.int .i64 0, .int .i64 0, .int .i64 0]⟩]) (d' := false) (ob := []) (by kernel_rfl) (fun B => ⟨B, by as_aux_lemma => kernel_rfl⟩) rfl An ?_
  show (.bool true : Value) = .bool true ∧ Keep Nn w w7
  refine ⟨congrArg Value.bool ?_, hk0⟩
  simp

set_option maxRecDepth 10000 in
theorem qc_range (E : Nat → Addr) (x0 y0 x1 y1 : Int) (w : World) (hn0 : (boxRight x0 y0 x1 y1) = true) (hn1 : (inWorld x0 y0 x1 y1) = false) (hG : Errs 10 w 115 E) :
    Calls Tryd.prog 4 #[.agg #[.int .i64 x0, .int .i64 y0, .int .i64 x1, .int .i64 y1]] w (Ret fun v w' => v = .bool true ∧ Keep Nn w w') := by
  refine sxenter (n := 66) (args := [.agg #[.int .i64 x0, .int .i64 y0, .int .i64 x1, .int .i64 y1]]) Tryd.func4 rfl rfl rfl fun a hf => ?_
  replace hf : Fr 66 [(0, .val (.agg #[.int .i64 x0, .int .i64 y0, .int .i64 x1, .int .i64 y1]))] a := hf
  have hM : MemOk [] w := MemOk.nil w
  have hk0 : Keep Nn w w := Keep.refl _ _
  have hgs := hG.size
  refine wp_seq_k (fun K1 hK1 => ?_)
  refine wp_region_lit ?_
  refine sr hf hM [1] [{ os := [.nw] }, {}] (env' := fun B1 => [(1, .val (.pointer (some ⟨B1, 0, none⟩)))]) (M' := fun B1 => [⟨B1, 42, [.int .i64 x0, .int .i64 y0, .int .i64 x1, .int .i64 y1]⟩]) (ob := fun B1 => []) (fun B => by as_aux_lemma => kernel_rfl) (fun B1 => An) ?_
  clear hf hM; intro a w1 B1 hf hM hB hk
  have hbB1 : w.heap.size ≤ B1 := by have := hk0.size; omega
  have hk0 := hk0.then hk (by intro i _ h; cases h)
  clear hk hB
  refine wpList_nil ?_
  refine hK1 _ _ ?_
  refine wp_seq_k (fun K2 hK2 => ?_)
  refine wp_seq_k (fun K3 hK3 => ?_)
  refine wp_region_lit ?_
  refine sxcall hf rfl rfl rfl rfl (g := 15) (vs := []) (ob := []) (by as_aux_lemma => kernel_rfl) An enters15 (alive_any E w1  (hG.keep hk0 (fun _ h => h))) ?_
  clear hf; rintro _ w2 a ⟨rfl, hk⟩ hf
  have hM := hM.keepNn hk
  have hk0 := hk0.trans hk.nn
  clear hk
  refine sr0 hf hM [9, 1] [{}] (env' := [(9, .val (.bool false)), (1, .val (.pointer (some ⟨B1, 0, none⟩)))]) (ob := []) (fun B => by as_aux_lemma => kernel_rfl) rfl An ?_
  clear hf; intro a hf
  refine wpList_nil ?_
  refine hK3 _ _ ?_
  refine sxcond hf (b := false) (by kernel_rfl) (fun h => by cases h) (fun _ => ?_)
  refine wp_skip ?_
  refine hK2 _ _ ?_
  refine wp_seq_k (fun K4 hK4 => ?_)
  refine wp_region_lit ?_
  refine sr0 hf hM [11, 1] [{ os := [.ld 0 0, .ld 0 1, .ld 0 2, .ld 0 3] }] (env' := [(11, .val (.agg #[.int .i64 x0, .int .i64 y0, .int .i64 x1, .int .i64 y1])), (1, .val (.pointer (some ⟨B1, 0, none⟩)))]) (ob := [Ad B1 0, Ad B1 1, Ad B1 2, Ad B1 3]) (fun B => by as_aux_lemma => kernel_rfl) rfl (Ac (ad _ _) (Ac (ad _ _) (Ac (ad _ _) (Ao (ad _ _))))) ?_
  clear hf; intro a hf
  refine sxcall hf rfl rfl rfl rfl (g := 16) (vs := [.agg #[.int .i64 x0, .int .i64 y0, .int .i64 x1, .int .i64 y1]]) (ob := []) (by as_aux_lemma => kernel_rfl) An enters16 (of_range E x0 y0 x1 y1 w2 hn0 hn1 (hG.keep hk0 (fun _ h => h))) ?_
  clear hf; rintro _ w3 a ⟨rfl, hk⟩ hf
  have hM := hM.keepNn hk
  have hk0 := hk0.trans hk.nn
  clear hk
  refine sr hf hM [4, 3, 1] [{}, {}, {}, { os := [.nw] }, { os := [.st 1 0, .st 1 1, .st 1 2] }, {}] (env' := fun B4 => [(4, .val (.iface 115 (.pointer (some (E 0))))), (3, .val (.pointer (some ⟨B4, 0, none⟩))), (1, .val (.pointer (some ⟨B1, 0, none⟩)))]) (M' := fun B4 => [⟨B1, 42, [.int .i64 x0, .int .i64 y0, .int .i64 x1, .int .i64 y1]⟩, ⟨B4, 44, [.int .i64 0, .int .i64 0, .int .i64 0]⟩]) (ob := fun B4 => [Ad B4 0, Ad B4 1, Ad B4 2]) (fun B => by as_aux_lemma => kernel_rfl) (fun B4 => (Ac (ad _ _) (Ac (ad _ _) (Ao (ad _ _))))) ?_
  clear hf hM; intro a w4 B4 hf hM hB hk
  have hbB4 : w.heap.size ≤ B4 := by have := hk0.size; omega
  have hk0 := hk0.then hk (by intro i hi h; simp only [Is, Mem.names, List.map_cons, List.map_nil, List.mem_cons, List.not_mem_nil, or_false] at h; omega)
  clear hk hB
  refine wpList_nil ?_
  refine hK4 _ _ ?_
  refine wp_seq_k (fun K5 hK5 => ?_)
  refine wp_region_lit ?_
  refine sr0 hf hM [16, 4, 3, 1] [{ os := [.ld 0 0, .ld 0 1, .ld 0 2, .ld 0 3] }] (env' := [(16, .val (.agg #[.int .i64 x0, .int .i64 y0, .int .i64 x1, .int .i64 y1])), (4, .val (.iface 115 (.pointer (some (E 0))))), (3, .val (.pointer (some ⟨B4, 0, none⟩))), (1, .val (.pointer (some ⟨B1, 0, none⟩)))]) (ob := [Ad B1 0, Ad B1 1, Ad B1 2, Ad B1 3]) (fun B => by as_aux_lemma => kernel_rfl) rfl (Ac (ad _ _) (Ac (ad _ _) (Ac (ad _ _) (Ao (ad _ _))))) ?_
  clear hf; intro a hf
  refine sxcall hf rfl rfl rfl rfl (g := 17) (vs := [.agg #[.int .i64 x0, .int .i64 y0, .int .i64 x1, .int .i64 y1]]) (ob := []) (by as_aux_lemma => kernel_rfl) An enters17 (rof_range x0 y0 x1 y1 w4 hn0 hn1 ) ?_
  clear hf; rintro _ w5 a ⟨rfl, hk⟩ hf
  have hM := hM.keepNn hk
  have hk0 := hk0.trans hk.nn
  clear hk
  refine sr hf hM [6, 5, 4, 3, 1] [{}, {}, {}, { os := [.nw] }, { os := [.st 2 0, .st 2 1, .st 2 2] }, {}] (env' := fun B6 => [(6, .val (.int .i64 1)), (5, .val (.pointer (some ⟨B6, 0, none⟩))), (4, .val (.iface 115 (.pointer (some (E 0))))), (3, .val (.pointer (some ⟨B4, 0, none⟩))), (1, .val (.pointer (some ⟨B1, 0, none⟩)))]) (M' := fun B6 => [⟨B1, 42, [.int .i64 x0, .int .i64 y0, .int .i64 x1, .int .i64 y1]⟩, ⟨B4, 44, [.int .i64 0, .int .i64 0, .int .i64 0]⟩, ⟨B6, 47, [.int .i64 0, .int .i64 0, .int .i64 0]⟩]) (ob := fun B6 => [Ad B6 0, Ad B6 1, Ad B6 2]) (fun B => by as_aux_lemma => kernel_rfl) (fun B6 => (Ac (ad _ _) (Ac (ad _ _) (Ao (ad _ _))))) ?_
  clear hf hM; intro a w6 B6 hf hM hB hk
  have hbB6 : w.heap.size ≤ B6 := by have := hk0.size; omega
  have hk0 := hk0.then hk (by intro i hi h; simp only [Is, Mem.names, List.map_cons, List.map_nil, List.mem_cons, List.not_mem_nil, or_false] at h; omega)
  clear hk hB
  refine wpList_nil ?_
  refine hK5 _ _ ?_
  refine wp_seq_k (fun K6 hK6 => ?_)
  refine wp_seq_k (fun K7 hK7 => ?_)
  refine wp_region_lit ?_
  refine sr0 hf hM [24, 23, 6, 3, 1] [{ os := [.ld 1 0, .ld 1 1, .ld 1 2] }, { os := [.ld 2 0, .ld 2 1, .ld 2 2] }, { sp := true, hint := some (.bool false) }, {}, {}] (env' := [(24, .val (.iface 115 (.pointer (some (E 0))))), (23, .val (.bool false)), (6, .val (.int .i64 1)), (3, .val (.pointer (some ⟨B4, 0, none⟩))), (1, .val (.pointer (some ⟨B1, 0, none⟩)))]) (ob := [Ad B4 0, Ad B4 1, Ad B4 2, Ad B6 0, Ad B6 1, Ad B6 2, (.bool (!(((0 : Int) == 0) && (((0 : Int) == 0) && (((0 : Int) == 0) && true)))) : Value) = (.bool false : Value), false = false]) (fun B => by as_aux_lemma => kernel_rfl) rfl (Ac (ad _ _) (Ac (ad _ _) (Ac (ad _ _) (Ac (ad _ _) (Ac (ad _ _) (Ac (ad _ _) (Ac (by simp) (Ao rfl)))))))) ?_
  clear hf; intro a hf
  refine sxcallg hf rfl rfl rfl rfl rfl (g := 11) (vs := [.iface 115 (.pointer (some (E 0)))]) (ob := []) (by as_aux_lemma => kernel_rfl) An enters11 (num_err E 0 w6  (by decide) (hG.keep hk0 (fun _ h => h))) ?_
  clear hf; rintro _ w7 a ⟨rfl, hk⟩ hf
  have hM := hM.keepNn hk
  have hk0 := hk0.trans hk.nn
  clear hk
  refine sr0 hf hM [28, 6, 3, 1] [{}, {}, {}] (env' := [(28, .val (.bool false)), (6, .val (.int .i64 1)), (3, .val (.pointer (some ⟨B4, 0, none⟩))), (1, .val (.pointer (some ⟨B1, 0, none⟩)))]) (ob := [false = false, false = false]) (fun B => by as_aux_lemma => kernel_rfl) rfl (Ac rfl (Ao rfl)) ?_
  clear hf; intro a hf
  refine wpList_nil ?_
  refine hK7 _ _ ?_
  refine sxcond hf (b := false) (by kernel_rfl) (fun h => by cases h) (fun _ => ?_)
  refine wp_skip ?_
  refine hK6 _ _ ?_
  refine wp_seq_k (fun K8 hK8 => ?_)
  refine wp_seq_k (fun K9 hK9 => ?_)
  refine wp_region_lit ?_
  refine sr0 hf hM [30, 3, 1] [{}, {}] (env' := [(30, .val (.bool true)), (3, .val (.pointer (some ⟨B4, 0, none⟩))), (1, .val (.pointer (some ⟨B1, 0, none⟩)))]) (ob := []) (fun B => by as_aux_lemma => kernel_rfl) rfl An ?_
  clear hf; intro a hf
  refine wpList_nil ?_
  refine hK9 _ _ ?_
  refine sxcond hf (b := true) (by kernel_rfl) (fun _ => ?_) (fun h => by cases h)
  refine wp_seq_k (fun K10 hK10 => ?_)
  refine wp_region_lit ?_
  refine sr0 hf hM [2] [{}] (env' := [(2, .val (.bool true))]) (ob := []) (fun B => by as_aux_lemma => kernel_rfl) rfl An ?_
  clear hf; intro a hf
  refine wpList_nil ?_
  refine hK10 _ _ ?_
  refine wp_ret ?_
  refine sxret (fn := Tryd.f4) hf hM [] (l := [.bool true]) (M' := [⟨B1, 42, [.int .i64 x0, .int .i64 y0, .int .i64 x1, .int .i64 y1]⟩, ⟨B4, 44, [.int .i64 0, .int .i64 0, .int .i64 0]⟩, ⟨B6, 47, [.int .i64 0, .int .i64 0, .int .i64 0]⟩]) (d' := false) (ob := []) (by kernel_rfl) (fun B => ⟨B, by as_aux_lemma => kernel_rfl⟩) rfl An ?_
  show (.bool true : Value) = .bool true ∧ Keep Nn w w7
  refine ⟨congrArg Value.bool ?_, hk0⟩
  simp

set_option maxRecDepth 10000 in
theorem qc_ok (E : Nat → Addr) (x0 y0 x1 y1 : Int) (w : World) (hn0 : (boxRight x0 y0 x1 y1) = true) (hn1 : (inWorld x0 y0 x1 y1) = true) (hG : Errs 10 w 115 E) :
    Calls Tryd.prog 4 #[.agg #[.int .i64 x0, .int .i64 y0, .int .i64 x1, .int .i64 y1]] w (Ret fun v w' => v = .bool true ∧ Keep Nn w w') := by
  refine sxenter (n := 66) (args := [.agg #[.int .i64 x0, .int .i64 y0, .int .i64 x1, .int .i64 y1]]) Tryd.func4 rfl rfl rfl fun a hf => ?_
  replace hf : Fr 66 [(0, .val (.agg #[.int .i64 x0, .int .i64 y0, .int .i64 x1, .int .i64 y1]))] a := hf
  have hM : MemOk [] w := MemOk.nil w
  have hk0 : Keep Nn w w := Keep.refl _ _
  have hgs := hG.size
  have hb := boxRight_iff.1 hn0
  have hw := inWorld_iff.1 hn1
  have hm : bsize x0 y0 x1 y1 ≤ 4194304 := by unfold bsize; split <;> omega
  have hbs := bsize_spec x0 y0 x1 y1
  have hcl := cell_of hn1
  have hx := in_loose (a := x0) (b := x1) (m := bsize x0 y0 x1 y1) (by omega) (by omega)
  have hy := in_loose (a := y0) (b := y1) (m := bsize x0 y0 x1 y1) (by omega) (by omega)
  refine wp_seq_k (fun K1 hK1 => ?_)
  refine wp_region_lit ?_
  refine sr hf hM [1] [{ os := [.nw] }, {}] (env' := fun B1 => [(1, .val (.pointer (some ⟨B1, 0, none⟩)))]) (M' := fun B1 => [⟨B1, 42, [.int .i64 x0, .int .i64 y0, .int .i64 x1, .int .i64 y1]⟩]) (ob := fun B1 => []) (fun B => by as_aux_lemma => kernel_rfl) (fun B1 => An) ?_
  clear hf hM; intro a w1 B1 hf hM hB hk
  have hbB1 : w.heap.size ≤ B1 := by have := hk0.size; omega
  have hk0 := hk0.then hk (by intro i _ h; cases h)
  clear hk hB
  refine wpList_nil ?_
  refine hK1 _ _ ?_
  refine wp_seq_k (fun K2 hK2 => ?_)
  refine wp_seq_k (fun K3 hK3 => ?_)
  refine wp_region_lit ?_
  refine sxcall hf rfl rfl rfl rfl (g := 15) (vs := []) (ob := []) (by as_aux_lemma => kernel_rfl) An enters15 (alive_any E w1  (hG.keep hk0 (fun _ h => h))) ?_
  clear hf; rintro _ w2 a ⟨rfl, hk⟩ hf
  have hM := hM.keepNn hk
  have hk0 := hk0.trans hk.nn
  clear hk
  refine sr0 hf hM [9, 1] [{}] (env' := [(9, .val (.bool false)), (1, .val (.pointer (some ⟨B1, 0, none⟩)))]) (ob := []) (fun B => by as_aux_lemma => kernel_rfl) rfl An ?_
  clear hf; intro a hf
  refine wpList_nil ?_
  refine hK3 _ _ ?_
  refine sxcond hf (b := false) (by kernel_rfl) (fun h => by cases h) (fun _ => ?_)
  refine wp_skip ?_
  refine hK2 _ _ ?_
  refine wp_seq_k (fun K4 hK4 => ?_)
  refine wp_region_lit ?_
  refine sr0 hf hM [11, 1] [{ os := [.ld 0 0, .ld 0 1, .ld 0 2, .ld 0 3] }] (env' := [(11, .val (.agg #[.int .i64 x0, .int .i64 y0, .int .i64 x1, .int .i64 y1])), (1, .val (.pointer (some ⟨B1, 0, none⟩)))]) (ob := [Ad B1 0, Ad B1 1, Ad B1 2, Ad B1 3]) (fun B => by as_aux_lemma => kernel_rfl) rfl (Ac (ad _ _) (Ac (ad _ _) (Ac (ad _ _) (Ao (ad _ _))))) ?_
  clear hf; intro a hf
  refine sxcall hf rfl rfl rfl rfl (g := 16) (vs := [.agg #[.int .i64 x0, .int .i64 y0, .int .i64 x1, .int .i64 y1]]) (ob := []) (by as_aux_lemma => kernel_rfl) An enters16 (of_ok E x0 y0 x1 y1 w2 hn0 hn1 (hG.keep hk0 (fun _ h => h))) ?_
  clear hf; rintro _ w3 a ⟨rfl, hk⟩ hf
  have hM := hM.keepNn hk
  have hk0 := hk0.trans hk.nn
  clear hk
  refine sr hf hM [4, 3, 1] [{}, {}, {}, { os := [.nw] }, { os := [.st 1 0, .st 1 1, .st 1 2] }, {}] (env' := fun B4 => [(4, .val (.nilIface)), (3, .val (.pointer (some ⟨B4, 0, none⟩))), (1, .val (.pointer (some ⟨B1, 0, none⟩)))]) (M' := fun B4 => [⟨B1, 42, [.int .i64 x0, .int .i64 y0, .int .i64 x1, .int .i64 y1]⟩, ⟨B4, 44, [.int .i64 (depthOf (bsize x0 y0 x1 y1)), .int .i64 (colOf ((x0 + x1) / 2) (depthOf (bsize x0 y0 x1 y1))), .int .i64 (colOf ((y0 + y1) / 2) (depthOf (bsize x0 y0 x1 y1)))]⟩]) (ob := fun B4 => [Ad B4 0, Ad B4 1, Ad B4 2]) (fun B => by as_aux_lemma => kernel_rfl) (fun B4 => (Ac (ad _ _) (Ac (ad _ _) (Ao (ad _ _))))) ?_
  clear hf hM; intro a w4 B4 hf hM hB hk
  have hbB4 : w.heap.size ≤ B4 := by have := hk0.size; omega
  have hk0 := hk0.then hk (by intro i hi h; simp only [Is, Mem.names, List.map_cons, List.map_nil, List.mem_cons, List.not_mem_nil, or_false] at h; omega)
  clear hk hB
  refine wpList_nil ?_
  refine hK4 _ _ ?_
  refine wp_seq_k (fun K5 hK5 => ?_)
  refine wp_region_lit ?_
  refine sr0 hf hM [16, 4, 3, 1] [{ os := [.ld 0 0, .ld 0 1, .ld 0 2, .ld 0 3] }] (env' := [(16, .val (.agg #[.int .i64 x0, .int .i64 y0, .int .i64 x1, .int .i64 y1])), (4, .val (.nilIface)), (3, .val (.pointer (some ⟨B4, 0, none⟩))), (1, .val (.pointer (some ⟨B1, 0, none⟩)))]) (ob := [Ad B1 0, Ad B1 1, Ad B1 2, Ad B1 3]) (fun B => by as_aux_lemma => kernel_rfl) rfl (Ac (ad _ _) (Ac (ad _ _) (Ac (ad _ _) (Ao (ad _ _))))) ?_
  clear hf; intro a hf
  refine sxcall hf rfl rfl rfl rfl (g := 17) (vs := [.agg #[.int .i64 x0, .int .i64 y0, .int .i64 x1, .int .i64 y1]]) (ob := []) (by as_aux_lemma => kernel_rfl) An enters17 (rof_ok x0 y0 x1 y1 w4 hn0 hn1 ) ?_
  clear hf; rintro _ w5 a ⟨rfl, hk⟩ hf
  have hM := hM.keepNn hk
  have hk0 := hk0.trans hk.nn
  clear hk
  refine sr hf hM [6, 5, 4, 3, 1] [{}, {}, {}, { os := [.nw] }, { os := [.st 2 0, .st 2 1, .st 2 2] }, {}] (env' := fun B6 => [(6, .val (.int .i64 0)), (5, .val (.pointer (some ⟨B6, 0, none⟩))), (4, .val (.nilIface)), (3, .val (.pointer (some ⟨B4, 0, none⟩))), (1, .val (.pointer (some ⟨B1, 0, none⟩)))]) (M' := fun B6 => [⟨B1, 42, [.int .i64 x0, .int .i64 y0, .int .i64 x1, .int .i64 y1]⟩, ⟨B4, 44, [.int .i64 (depthOf (bsize x0 y0 x1 y1)), .int .i64 (colOf ((x0 + x1) / 2) (depthOf (bsize x0 y0 x1 y1))), .int .i64 (colOf ((y0 + y1) / 2) (depthOf (bsize x0 y0 x1 y1)))]⟩, ⟨B6, 47, [.int .i64 (depthOf (bsize x0 y0 x1 y1)), .int .i64 (colOf ((x0 + x1) / 2) (depthOf (bsize x0 y0 x1 y1))), .int .i64 (colOf ((y0 + y1) / 2) (depthOf (bsize x0 y0 x1 y1)))]⟩]) (ob := fun B6 => [Ad B6 0, Ad B6 1, Ad B6 2]) (fun B => by as_aux_lemma => kernel_rfl) (fun B6 => (Ac (ad _ _) (Ac (ad _ _) (Ao (ad _ _))))) ?_
  clear hf hM; intro a w6 B6 hf hM hB hk
  have hbB6 : w.heap.size ≤ B6 := by have := hk0.size; omega
  have hk0 := hk0.then hk (by intro i hi h; simp only [Is, Mem.names, List.map_cons, List.map_nil, List.mem_cons, List.not_mem_nil, or_false] at h; omega)
  clear hk hB
  refine wpList_nil ?_
  refine hK5 _ _ ?_
  refine wp_seq_k (fun K6 hK6 => ?_)
  refine wp_seq_k (fun K7 hK7 => ?_)
  refine wp_region_lit ?_
  refine sr0 hf hM [24, 23, 6, 3, 1] [{ os := [.ld 1 0, .ld 1 1, .ld 1 2] }, { os := [.ld 2 0, .ld 2 1, .ld 2 2] }, { sp := true, hint := some (.bool false) }, {}, {}] (env' := [(24, .val (.nilIface)), (23, .val (.bool false)), (6, .val (.int .i64 0)), (3, .val (.pointer (some ⟨B4, 0, none⟩))), (1, .val (.pointer (some ⟨B1, 0, none⟩)))]) (ob := [Ad B4 0, Ad B4 1, Ad B4 2, Ad B6 0, Ad B6 1, Ad B6 2, (.bool (!((((depthOf (bsize x0 y0 x1 y1)) : Int) == (depthOf (bsize x0 y0 x1 y1))) && ((((colOf ((x0 + x1) / 2) (depthOf (bsize x0 y0 x1 y1))) : Int) == (colOf ((x0 + x1) / 2) (depthOf (bsize x0 y0 x1 y1)))) && ((((colOf ((y0 + y1) / 2) (depthOf (bsize x0 y0 x1 y1))) : Int) == (colOf ((y0 + y1) / 2) (depthOf (bsize x0 y0 x1 y1)))) && true)))) : Value) = (.bool false : Value), false = false]) (fun B => by as_aux_lemma => kernel_rfl) rfl (Ac (ad _ _) (Ac (ad _ _) (Ac (ad _ _) (Ac (ad _ _) (Ac (ad _ _) (Ac (ad _ _) (Ac (by simp) (Ao rfl)))))))) ?_
  clear hf; intro a hf
  refine sxcallg hf rfl rfl rfl rfl rfl (g := 11) (vs := [.nilIface]) (ob := []) (by as_aux_lemma => kernel_rfl) An enters11 (num_nil  w6  ) ?_
  clear hf; rintro _ w7 a ⟨rfl, hk⟩ hf
  have hM := hM.keepNn hk
  have hk0 := hk0.trans hk.nn
  clear hk
  refine sr0 hf hM [28, 6, 3, 1] [{}, {}, {}] (env' := [(28, .val (.bool false)), (6, .val (.int .i64 0)), (3, .val (.pointer (some ⟨B4, 0, none⟩))), (1, .val (.pointer (some ⟨B1, 0, none⟩)))]) (ob := [false = false, false = false]) (fun B => by as_aux_lemma => kernel_rfl) rfl (Ac rfl (Ao rfl)) ?_
  clear hf; intro a hf
  refine wpList_nil ?_
  refine hK7 _ _ ?_
  refine sxcond hf (b := false) (by kernel_rfl) (fun h => by cases h) (fun _ => ?_)
  refine wp_skip ?_
  refine hK6 _ _ ?_
  refine wp_seq_k (fun K8 hK8 => ?_)
  refine wp_seq_k (fun K9 hK9 => ?_)
  refine wp_region_lit ?_
  refine sr0 hf hM [30, 3, 1] [{}, {}] (env' := [(30, .val (.bool false)), (3, .val (.pointer (some ⟨B4, 0, none⟩))), (1, .val (.pointer (some ⟨B1, 0, none⟩)))]) (ob := []) (fun B => by as_aux_lemma => kernel_rfl) rfl An ?_
  clear hf; intro a hf
  refine wpList_nil ?_
  refine hK9 _ _ ?_
  refine sxcond hf (b := false) (by kernel_rfl) (fun h => by cases h) (fun _ => ?_)
  refine wp_skip ?_
  refine hK8 _ _ ?_
  refine wp_seq_k (fun K10 hK10 => ?_)
  refine wp_region_lit ?_
  refine sr0 hf hM [32, 1] [{ os := [.ld 1 0, .ld 1 1, .ld 1 2] }] (env' := [(32, .val (.agg #[.int .i64 (depthOf (bsize x0 y0 x1 y1)), .int .i64 (colOf ((x0 + x1) / 2) (depthOf (bsize x0 y0 x1 y1))), .int .i64 (colOf ((y0 + y1) / 2) (depthOf (bsize x0 y0 x1 y1)))])), (1, .val (.pointer (some ⟨B1, 0, none⟩)))]) (ob := [Ad B4 0, Ad B4 1, Ad B4 2]) (fun B => by as_aux_lemma => kernel_rfl) rfl (Ac (ad _ _) (Ac (ad _ _) (Ao (ad _ _)))) ?_
  clear hf; intro a hf
  refine sxcall hf rfl rfl rfl rfl (g := 18) (vs := [.agg #[.int .i64 (depthOf (bsize x0 y0 x1 y1)), .int .i64 (colOf ((x0 + x1) / 2) (depthOf (bsize x0 y0 x1 y1))), .int .i64 (colOf ((y0 + y1) / 2) (depthOf (bsize x0 y0 x1 y1)))]]) (ob := []) (by as_aux_lemma => kernel_rfl) An enters18 (loose_ok E (depthOf (bsize x0 y0 x1 y1)) (colOf ((x0 + x1) / 2) (depthOf (bsize x0 y0 x1 y1))) (colOf ((y0 + y1) / 2) (depthOf (bsize x0 y0 x1 y1))) w7 hcl ) ?_
  clear hf; rintro _ w8 a ⟨rfl, hk⟩ hf
  have hM := hM.keepNn hk
  have hk0 := hk0.trans hk.nn
  clear hk
  refine sr hf hM [4, 7, 1] [{}, {}, {}, { os := [.nw] }, { os := [.st 3 0, .st 3 1, .st 3 2, .st 3 3] }, {}] (env' := fun B11 => [(4, .val (.nilIface)), (7, .val (.pointer (some ⟨B11, 0, none⟩))), (1, .val (.pointer (some ⟨B1, 0, none⟩)))]) (M' := fun B11 => [⟨B1, 42, [.int .i64 x0, .int .i64 y0, .int .i64 x1, .int .i64 y1]⟩, ⟨B4, 44, [.int .i64 (depthOf (bsize x0 y0 x1 y1)), .int .i64 (colOf ((x0 + x1) / 2) (depthOf (bsize x0 y0 x1 y1))), .int .i64 (colOf ((y0 + y1) / 2) (depthOf (bsize x0 y0 x1 y1)))]⟩, ⟨B6, 47, [.int .i64 (depthOf (bsize x0 y0 x1 y1)), .int .i64 (colOf ((x0 + x1) / 2) (depthOf (bsize x0 y0 x1 y1))), .int .i64 (colOf ((y0 + y1) / 2) (depthOf (bsize x0 y0 x1 y1)))]⟩, ⟨B11, 42, [.int .i64 ((colOf ((x0 + x1) / 2) (depthOf (bsize x0 y0 x1 y1))) * side (depthOf (bsize x0 y0 x1 y1)) - 2097152 - side (depthOf (bsize x0 y0 x1 y1)) / 2), .int .i64 ((colOf ((y0 + y1) / 2) (depthOf (bsize x0 y0 x1 y1))) * side (depthOf (bsize x0 y0 x1 y1)) - 2097152 - side (depthOf (bsize x0 y0 x1 y1)) / 2), .int .i64 ((colOf ((x0 + x1) / 2) (depthOf (bsize x0 y0 x1 y1))) * side (depthOf (bsize x0 y0 x1 y1)) - 2097152 + side (depthOf (bsize x0 y0 x1 y1)) + side (depthOf (bsize x0 y0 x1 y1)) / 2), .int .i64 ((colOf ((y0 + y1) / 2) (depthOf (bsize x0 y0 x1 y1))) * side (depthOf (bsize x0 y0 x1 y1)) - 2097152 + side (depthOf (bsize x0 y0 x1 y1)) + side (depthOf (bsize x0 y0 x1 y1)) / 2)]⟩]) (ob := fun B11 => [Ad B11 0, Ad B11 1, Ad B11 2, Ad B11 3]) (fun B => by as_aux_lemma => kernel_rfl) (fun B11 => (Ac (ad _ _) (Ac (ad _ _) (Ac (ad _ _) (Ao (ad _ _)))))) ?_
  clear hf hM; intro a w9 B11 hf hM hB hk
  have hbB11 : w.heap.size ≤ B11 := by have := hk0.size; omega
  have hk0 := hk0.then hk (by intro i hi h; simp only [Is, Mem.names, List.map_cons, List.map_nil, List.mem_cons, List.not_mem_nil, or_false] at h; omega)
  clear hk hB
  refine wpList_nil ?_
  refine hK10 _ _ ?_
  refine wp_seq_k (fun K11 hK11 => ?_)
  refine wp_region_lit ?_
  refine sr0 hf hM [2] [{}, {}, {}, {}, { os := [.ld 3 0] }, {}, { os := [.ld 0 0] }, {}, {}, {}, { g := .sym }, { g := .sym, os := [.ld 3 1] }, { g := .sym }, { g := .sym, os := [.ld 0 1] }, { g := .sym }, { hint := some (.bool ((decide ((((colOf ((x0 + x1) / 2) (depthOf (bsize x0 y0 x1 y1))) * side (depthOf (bsize x0 y0 x1 y1)) - 2097152 - side (depthOf (bsize x0 y0 x1 y1)) / 2) : Int) ≤ x0)) && (decide ((((colOf ((y0 + y1) / 2) (depthOf (bsize x0 y0 x1 y1))) * side (depthOf (bsize x0 y0 x1 y1)) - 2097152 - side (depthOf (bsize x0 y0 x1 y1)) / 2) : Int) ≤ y0)))) }, {}, { g := .sym }, { g := .sym, os := [.ld 0 2] }, { g := .sym }, { g := .sym, os := [.ld 3 2] }, { g := .sym }, { hint := some (.bool (((decide ((((colOf ((x0 + x1) / 2) (depthOf (bsize x0 y0 x1 y1))) * side (depthOf (bsize x0 y0 x1 y1)) - 2097152 - side (depthOf (bsize x0 y0 x1 y1)) / 2) : Int) ≤ x0)) && (decide ((((colOf ((y0 + y1) / 2) (depthOf (bsize x0 y0 x1 y1))) * side (depthOf (bsize x0 y0 x1 y1)) - 2097152 - side (depthOf (bsize x0 y0 x1 y1)) / 2) : Int) ≤ y0))) && (decide ((x1 : Int) ≤ ((colOf ((x0 + x1) / 2) (depthOf (bsize x0 y0 x1 y1))) * side (depthOf (bsize x0 y0 x1 y1)) - 2097152 + side (depthOf (bsize x0 y0 x1 y1)) + side (depthOf (bsize x0 y0 x1 y1)) / 2))))) }, {}, { g := .sym }, { g := .sym, os := [.ld 0 3] }, { g := .sym }, { g := .sym, os := [.ld 3 3] }, { g := .sym }, { hint := some (.bool ((((decide ((((colOf ((x0 + x1) / 2) (depthOf (bsize x0 y0 x1 y1))) * side (depthOf (bsize x0 y0 x1 y1)) - 2097152 - side (depthOf (bsize x0 y0 x1 y1)) / 2) : Int) ≤ x0)) && (decide ((((colOf ((y0 + y1) / 2) (depthOf (bsize x0 y0 x1 y1))) * side (depthOf (bsize x0 y0 x1 y1)) - 2097152 - side (depthOf (bsize x0 y0 x1 y1)) / 2) : Int) ≤ y0))) && (decide ((x1 : Int) ≤ ((colOf ((x0 + x1) / 2) (depthOf (bsize x0 y0 x1 y1))) * side (depthOf (bsize x0 y0 x1 y1)) - 2097152 + side (depthOf (bsize x0 y0 x1 y1)) + side (depthOf (bsize x0 y0 x1 y1)) / 2)))) && (decide ((y1 : Int) ≤ ((colOf ((y0 + y1) / 2) (depthOf (bsize x0 y0 x1 y1))) * side (depthOf (bsize x0 y0 x1 y1)) - 2097152 + side (depthOf (bsize x0 y0 x1 y1)) + side (depthOf (bsize x0 y0 x1 y1)) / 2))))) }, {}] (env' := [(2, .val (.bool ((((decide ((((colOf ((x0 + x1) / 2) (depthOf (bsize x0 y0 x1 y1))) * side (depthOf (bsize x0 y0 x1 y1)) - 2097152 - side (depthOf (bsize x0 y0 x1 y1)) / 2) : Int) ≤ x0)) && (decide ((((colOf ((y0 + y1) / 2) (depthOf (bsize x0 y0 x1 y1))) * side (depthOf (bsize x0 y0 x1 y1)) - 2097152 - side (depthOf (bsize x0 y0 x1 y1)) / 2) : Int) ≤ y0))) && (decide ((x1 : Int) ≤ ((colOf ((x0 + x1) / 2) (depthOf (bsize x0 y0 x1 y1))) * side (depthOf (bsize x0 y0 x1 y1)) - 2097152 + side (depthOf (bsize x0 y0 x1 y1)) + side (depthOf (bsize x0 y0 x1 y1)) / 2)))) && (decide ((y1 : Int) ≤ ((colOf ((y0 + y1) / 2) (depthOf (bsize x0 y0 x1 y1))) * side (depthOf (bsize x0 y0 x1 y1)) - 2097152 + side (depthOf (bsize x0 y0 x1 y1)) + side (depthOf (bsize x0 y0 x1 y1)) / 2))))))]) (ob := [true = true, true = true, Ad B11 0, true = true, true = true, Ad B1 0, true = true, ((decide ((((colOf ((x0 + x1) / 2) (depthOf (bsize x0 y0 x1 y1))) * side (depthOf (bsize x0 y0 x1 y1)) - 2097152 - side (depthOf (bsize x0 y0 x1 y1)) / 2) : Int) ≤ x0)) = true → (decide ((((colOf ((x0 + x1) / 2) (depthOf (bsize x0 y0 x1 y1))) * side (depthOf (bsize x0 y0 x1 y1)) - 2097152 - side (depthOf (bsize x0 y0 x1 y1)) / 2) : Int) ≤ x0)) = (decide ((((colOf ((x0 + x1) / 2) (depthOf (bsize x0 y0 x1 y1))) * side (depthOf (bsize x0 y0 x1 y1)) - 2097152 - side (depthOf (bsize x0 y0 x1 y1)) / 2) : Int) ≤ x0))), ((decide ((((colOf ((x0 + x1) / 2) (depthOf (bsize x0 y0 x1 y1))) * side (depthOf (bsize x0 y0 x1 y1)) - 2097152 - side (depthOf (bsize x0 y0 x1 y1)) / 2) : Int) ≤ x0)) = true → Ad B11 1), ((decide ((((colOf ((x0 + x1) / 2) (depthOf (bsize x0 y0 x1 y1))) * side (depthOf (bsize x0 y0 x1 y1)) - 2097152 - side (depthOf (bsize x0 y0 x1 y1)) / 2) : Int) ≤ x0)) = true → (decide ((((colOf ((x0 + x1) / 2) (depthOf (bsize x0 y0 x1 y1))) * side (depthOf (bsize x0 y0 x1 y1)) - 2097152 - side (depthOf (bsize x0 y0 x1 y1)) / 2) : Int) ≤ x0)) = (decide ((((colOf ((x0 + x1) / 2) (depthOf (bsize x0 y0 x1 y1))) * side (depthOf (bsize x0 y0 x1 y1)) - 2097152 - side (depthOf (bsize x0 y0 x1 y1)) / 2) : Int) ≤ x0))), ((decide ((((colOf ((x0 + x1) / 2) (depthOf (bsize x0 y0 x1 y1))) * side (depthOf (bsize x0 y0 x1 y1)) - 2097152 - side (depthOf (bsize x0 y0 x1 y1)) / 2) : Int) ≤ x0)) = true → Ad B1 1), ((decide ((((colOf ((x0 + x1) / 2) (depthOf (bsize x0 y0 x1 y1))) * side (depthOf (bsize x0 y0 x1 y1)) - 2097152 - side (depthOf (bsize x0 y0 x1 y1)) / 2) : Int) ≤ x0)) = true → (decide ((((colOf ((x0 + x1) / 2) (depthOf (bsize x0 y0 x1 y1))) * side (depthOf (bsize x0 y0 x1 y1)) - 2097152 - side (depthOf (bsize x0 y0 x1 y1)) / 2) : Int) ≤ x0)) = (decide ((((colOf ((x0 + x1) / 2) (depthOf (bsize x0 y0 x1 y1))) * side (depthOf (bsize x0 y0 x1 y1)) - 2097152 - side (depthOf (bsize x0 y0 x1 y1)) / 2) : Int) ≤ x0))), ((decide ((((colOf ((x0 + x1) / 2) (depthOf (bsize x0 y0 x1 y1))) * side (depthOf (bsize x0 y0 x1 y1)) - 2097152 - side (depthOf (bsize x0 y0 x1 y1)) / 2) : Int) ≤ x0)) = true → (decide ((((colOf ((x0 + x1) / 2) (depthOf (bsize x0 y0 x1 y1))) * side (depthOf (bsize x0 y0 x1 y1)) - 2097152 - side (depthOf (bsize x0 y0 x1 y1)) / 2) : Int) ≤ x0)) = (decide ((((colOf ((x0 + x1) / 2) (depthOf (bsize x0 y0 x1 y1))) * side (depthOf (bsize x0 y0 x1 y1)) - 2097152 - side (depthOf (bsize x0 y0 x1 y1)) / 2) : Int) ≤ x0))), ((decide ((((colOf ((x0 + x1) / 2) (depthOf (bsize x0 y0 x1 y1))) * side (depthOf (bsize x0 y0 x1 y1)) - 2097152 - side (depthOf (bsize x0 y0 x1 y1)) / 2) : Int) ≤ x0)) = true → (decide ((((colOf ((x0 + x1) / 2) (depthOf (bsize x0 y0 x1 y1))) * side (depthOf (bsize x0 y0 x1 y1)) - 2097152 - side (depthOf (bsize x0 y0 x1 y1)) / 2) : Int) ≤ x0)) = (decide ((((colOf ((x0 + x1) / 2) (depthOf (bsize x0 y0 x1 y1))) * side (depthOf (bsize x0 y0 x1 y1)) - 2097152 - side (depthOf (bsize x0 y0 x1 y1)) / 2) : Int) ≤ x0))), (bif (decide ((((colOf ((x0 + x1) / 2) (depthOf (bsize x0 y0 x1 y1))) * side (depthOf (bsize x0 y0 x1 y1)) - 2097152 - side (depthOf (bsize x0 y0 x1 y1)) / 2) : Int) ≤ x0)) then (.bool (decide ((((colOf ((y0 + y1) / 2) (depthOf (bsize x0 y0 x1 y1))) * side (depthOf (bsize x0 y0 x1 y1)) - 2097152 - side (depthOf (bsize x0 y0 x1 y1)) / 2) : Int) ≤ y0)) : Value) else .bool false) = .bool ((decide ((((colOf ((x0 + x1) / 2) (depthOf (bsize x0 y0 x1 y1))) * side (depthOf (bsize x0 y0 x1 y1)) - 2097152 - side (depthOf (bsize x0 y0 x1 y1)) / 2) : Int) ≤ x0)) && (decide ((((colOf ((y0 + y1) / 2) (depthOf (bsize x0 y0 x1 y1))) * side (depthOf (bsize x0 y0 x1 y1)) - 2097152 - side (depthOf (bsize x0 y0 x1 y1)) / 2) : Int) ≤ y0))), (((decide ((((colOf ((x0 + x1) / 2) (depthOf (bsize x0 y0 x1 y1))) * side (depthOf (bsize x0 y0 x1 y1)) - 2097152 - side (depthOf (bsize x0 y0 x1 y1)) / 2) : Int) ≤ x0)) && (decide ((((colOf ((y0 + y1) / 2) (depthOf (bsize x0 y0 x1 y1))) * side (depthOf (bsize x0 y0 x1 y1)) - 2097152 - side (depthOf (bsize x0 y0 x1 y1)) / 2) : Int) ≤ y0))) = true → ((decide ((((colOf ((x0 + x1) / 2) (depthOf (bsize x0 y0 x1 y1))) * side (depthOf (bsize x0 y0 x1 y1)) - 2097152 - side (depthOf (bsize x0 y0 x1 y1)) / 2) : Int) ≤ x0)) && (decide ((((colOf ((y0 + y1) / 2) (depthOf (bsize x0 y0 x1 y1))) * side (depthOf (bsize x0 y0 x1 y1)) - 2097152 - side (depthOf (bsize x0 y0 x1 y1)) / 2) : Int) ≤ y0))) = ((decide ((((colOf ((x0 + x1) / 2) (depthOf (bsize x0 y0 x1 y1))) * side (depthOf (bsize x0 y0 x1 y1)) - 2097152 - side (depthOf (bsize x0 y0 x1 y1)) / 2) : Int) ≤ x0)) && (decide ((((colOf ((y0 + y1) / 2) (depthOf (bsize x0 y0 x1 y1))) * side (depthOf (bsize x0 y0 x1 y1)) - 2097152 - side (depthOf (bsize x0 y0 x1 y1)) / 2) : Int) ≤ y0)))), (((decide ((((colOf ((x0 + x1) / 2) (depthOf (bsize x0 y0 x1 y1))) * side (depthOf (bsize x0 y0 x1 y1)) - 2097152 - side (depthOf (bsize x0 y0 x1 y1)) / 2) : Int) ≤ x0)) && (decide ((((colOf ((y0 + y1) / 2) (depthOf (bsize x0 y0 x1 y1))) * side (depthOf (bsize x0 y0 x1 y1)) - 2097152 - side (depthOf (bsize x0 y0 x1 y1)) / 2) : Int) ≤ y0))) = true → Ad B1 2), (((decide ((((colOf ((x0 + x1) / 2) (depthOf (bsize x0 y0 x1 y1))) * side (depthOf (bsize x0 y0 x1 y1)) - 2097152 - side (depthOf (bsize x0 y0 x1 y1)) / 2) : Int) ≤ x0)) && (decide ((((colOf ((y0 + y1) / 2) (depthOf (bsize x0 y0 x1 y1))) * side (depthOf (bsize x0 y0 x1 y1)) - 2097152 - side (depthOf (bsize x0 y0 x1 y1)) / 2) : Int) ≤ y0))) = true → ((decide ((((colOf ((x0 + x1) / 2) (depthOf (bsize x0 y0 x1 y1))) * side (depthOf (bsize x0 y0 x1 y1)) - 2097152 - side (depthOf (bsize x0 y0 x1 y1)) / 2) : Int) ≤ x0)) && (decide ((((colOf ((y0 + y1) / 2) (depthOf (bsize x0 y0 x1 y1))) * side (depthOf (bsize x0 y0 x1 y1)) - 2097152 - side (depthOf (bsize x0 y0 x1 y1)) / 2) : Int) ≤ y0))) = ((decide ((((colOf ((x0 + x1) / 2) (depthOf (bsize x0 y0 x1 y1))) * side (depthOf (bsize x0 y0 x1 y1)) - 2097152 - side (depthOf (bsize x0 y0 x1 y1)) / 2) : Int) ≤ x0)) && (decide ((((colOf ((y0 + y1) / 2) (depthOf (bsize x0 y0 x1 y1))) * side (depthOf (bsize x0 y0 x1 y1)) - 2097152 - side (depthOf (bsize x0 y0 x1 y1)) / 2) : Int) ≤ y0)))), (((decide ((((colOf ((x0 + x1) / 2) (depthOf (bsize x0 y0 x1 y1))) * side (depthOf (bsize x0 y0 x1 y1)) - 2097152 - side (depthOf (bsize x0 y0 x1 y1)) / 2) : Int) ≤ x0)) && (decide ((((colOf ((y0 + y1) / 2) (depthOf (bsize x0 y0 x1 y1))) * side (depthOf (bsize x0 y0 x1 y1)) - 2097152 - side (depthOf (bsize x0 y0 x1 y1)) / 2) : Int) ≤ y0))) = true → Ad B11 2), (((decide ((((colOf ((x0 + x1) / 2) (depthOf (bsize x0 y0 x1 y1))) * side (depthOf (bsize x0 y0 x1 y1)) - 2097152 - side (depthOf (bsize x0 y0 x1 y1)) / 2) : Int) ≤ x0)) && (decide ((((colOf ((y0 + y1) / 2) (depthOf (bsize x0 y0 x1 y1))) * side (depthOf (bsize x0 y0 x1 y1)) - 2097152 - side (depthOf (bsize x0 y0 x1 y1)) / 2) : Int) ≤ y0))) = true → ((decide ((((colOf ((x0 + x1) / 2) (depthOf (bsize x0 y0 x1 y1))) * side (depthOf (bsize x0 y0 x1 y1)) - 2097152 - side (depthOf (bsize x0 y0 x1 y1)) / 2) : Int) ≤ x0)) && (decide ((((colOf ((y0 + y1) / 2) (depthOf (bsize x0 y0 x1 y1))) * side (depthOf (bsize x0 y0 x1 y1)) - 2097152 - side (depthOf (bsize x0 y0 x1 y1)) / 2) : Int) ≤ y0))) = ((decide ((((colOf ((x0 + x1) / 2) (depthOf (bsize x0 y0 x1 y1))) * side (depthOf (bsize x0 y0 x1 y1)) - 2097152 - side (depthOf (bsize x0 y0 x1 y1)) / 2) : Int) ≤ x0)) && (decide ((((colOf ((y0 + y1) / 2) (depthOf (bsize x0 y0 x1 y1))) * side (depthOf (bsize x0 y0 x1 y1)) - 2097152 - side (depthOf (bsize x0 y0 x1 y1)) / 2) : Int) ≤ y0)))), (((decide ((((colOf ((x0 + x1) / 2) (depthOf (bsize x0 y0 x1 y1))) * side (depthOf (bsize x0 y0 x1 y1)) - 2097152 - side (depthOf (bsize x0 y0 x1 y1)) / 2) : Int) ≤ x0)) && (decide ((((colOf ((y0 + y1) / 2) (depthOf (bsize x0 y0 x1 y1))) * side (depthOf (bsize x0 y0 x1 y1)) - 2097152 - side (depthOf (bsize x0 y0 x1 y1)) / 2) : Int) ≤ y0))) = true → ((decide ((((colOf ((x0 + x1) / 2) (depthOf (bsize x0 y0 x1 y1))) * side (depthOf (bsize x0 y0 x1 y1)) - 2097152 - side (depthOf (bsize x0 y0 x1 y1)) / 2) : Int) ≤ x0)) && (decide ((((colOf ((y0 + y1) / 2) (depthOf (bsize x0 y0 x1 y1))) * side (depthOf (bsize x0 y0 x1 y1)) - 2097152 - side (depthOf (bsize x0 y0 x1 y1)) / 2) : Int) ≤ y0))) = ((decide ((((colOf ((x0 + x1) / 2) (depthOf (bsize x0 y0 x1 y1))) * side (depthOf (bsize x0 y0 x1 y1)) - 2097152 - side (depthOf (bsize x0 y0 x1 y1)) / 2) : Int) ≤ x0)) && (decide ((((colOf ((y0 + y1) / 2) (depthOf (bsize x0 y0 x1 y1))) * side (depthOf (bsize x0 y0 x1 y1)) - 2097152 - side (depthOf (bsize x0 y0 x1 y1)) / 2) : Int) ≤ y0)))), (((decide ((((colOf ((x0 + x1) / 2) (depthOf (bsize x0 y0 x1 y1))) * side (depthOf (bsize x0 y0 x1 y1)) - 2097152 - side (depthOf (bsize x0 y0 x1 y1)) / 2) : Int) ≤ x0)) && (decide ((((colOf ((y0 + y1) / 2) (depthOf (bsize x0 y0 x1 y1))) * side (depthOf (bsize x0 y0 x1 y1)) - 2097152 - side (depthOf (bsize x0 y0 x1 y1)) / 2) : Int) ≤ y0))) = true → ((decide ((((colOf ((x0 + x1) / 2) (depthOf (bsize x0 y0 x1 y1))) * side (depthOf (bsize x0 y0 x1 y1)) - 2097152 - side (depthOf (bsize x0 y0 x1 y1)) / 2) : Int) ≤ x0)) && (decide ((((colOf ((y0 + y1) / 2) (depthOf (bsize x0 y0 x1 y1))) * side (depthOf (bsize x0 y0 x1 y1)) - 2097152 - side (depthOf (bsize x0 y0 x1 y1)) / 2) : Int) ≤ y0))) = ((decide ((((colOf ((x0 + x1) / 2) (depthOf (bsize x0 y0 x1 y1))) * side (depthOf (bsize x0 y0 x1 y1)) - 2097152 - side (depthOf (bsize x0 y0 x1 y1)) / 2) : Int) ≤ x0)) && (decide ((((colOf ((y0 + y1) / 2) (depthOf (bsize x0 y0 x1 y1))) * side (depthOf (bsize x0 y0 x1 y1)) - 2097152 - side (depthOf (bsize x0 y0 x1 y1)) / 2) : Int) ≤ y0)))), (bif ((decide ((((colOf ((x0 + x1) / 2) (depthOf (bsize x0 y0 x1 y1))) * side (depthOf (bsize x0 y0 x1 y1)) - 2097152 - side (depthOf (bsize x0 y0 x1 y1)) / 2) : Int) ≤ x0)) && (decide ((((colOf ((y0 + y1) / 2) (depthOf (bsize x0 y0 x1 y1))) * side (depthOf (bsize x0 y0 x1 y1)) - 2097152 - side (depthOf (bsize x0 y0 x1 y1)) / 2) : Int) ≤ y0))) then (.bool (decide ((x1 : Int) ≤ ((colOf ((x0 + x1) / 2) (depthOf (bsize x0 y0 x1 y1))) * side (depthOf (bsize x0 y0 x1 y1)) - 2097152 + side (depthOf (bsize x0 y0 x1 y1)) + side (depthOf (bsize x0 y0 x1 y1)) / 2))) : Value) else .bool false) = .bool (((decide ((((colOf ((x0 + x1) / 2) (depthOf (bsize x0 y0 x1 y1))) * side (depthOf (bsize x0 y0 x1 y1)) - 2097152 - side (depthOf (bsize x0 y0 x1 y1)) / 2) : Int) ≤ x0)) && (decide ((((colOf ((y0 + y1) / 2) (depthOf (bsize x0 y0 x1 y1))) * side (depthOf (bsize x0 y0 x1 y1)) - 2097152 - side (depthOf (bsize x0 y0 x1 y1)) / 2) : Int) ≤ y0))) && (decide ((x1 : Int) ≤ ((colOf ((x0 + x1) / 2) (depthOf (bsize x0 y0 x1 y1))) * side (depthOf (bsize x0 y0 x1 y1)) - 2097152 + side (depthOf (bsize x0 y0 x1 y1)) + side (depthOf (bsize x0 y0 x1 y1)) / 2)))), ((((decide ((((colOf ((x0 + x1) / 2) (depthOf (bsize x0 y0 x1 y1))) * side (depthOf (bsize x0 y0 x1 y1)) - 2097152 - side (depthOf (bsize x0 y0 x1 y1)) / 2) : Int) ≤ x0)) && (decide ((((colOf ((y0 + y1) / 2) (depthOf (bsize x0 y0 x1 y1))) * side (depthOf (bsize x0 y0 x1 y1)) - 2097152 - side (depthOf (bsize x0 y0 x1 y1)) / 2) : Int) ≤ y0))) && (decide ((x1 : Int) ≤ ((colOf ((x0 + x1) / 2) (depthOf (bsize x0 y0 x1 y1))) * side (depthOf (bsize x0 y0 x1 y1)) - 2097152 + side (depthOf (bsize x0 y0 x1 y1)) + side (depthOf (bsize x0 y0 x1 y1)) / 2)))) = true → (((decide ((((colOf ((x0 + x1) / 2) (depthOf (bsize x0 y0 x1 y1))) * side (depthOf (bsize x0 y0 x1 y1)) - 2097152 - side (depthOf (bsize x0 y0 x1 y1)) / 2) : Int) ≤ x0)) && (decide ((((colOf ((y0 + y1) / 2) (depthOf (bsize x0 y0 x1 y1))) * side (depthOf (bsize x0 y0 x1 y1)) - 2097152 - side (depthOf (bsize x0 y0 x1 y1)) / 2) : Int) ≤ y0))) && (decide ((x1 : Int) ≤ ((colOf ((x0 + x1) / 2) (depthOf (bsize x0 y0 x1 y1))) * side (depthOf (bsize x0 y0 x1 y1)) - 2097152 + side (depthOf (bsize x0 y0 x1 y1)) + side (depthOf (bsize x0 y0 x1 y1)) / 2)))) = (((decide ((((colOf ((x0 + x1) / 2) (depthOf (bsize x0 y0 x1 y1))) * side (depthOf (bsize x0 y0 x1 y1)) - 2097152 - side (depthOf (bsize x0 y0 x1 y1)) / 2) : Int) ≤ x0)) && (decide ((((colOf ((y0 + y1) / 2) (depthOf (bsize x0 y0 x1 y1))) * side (depthOf (bsize x0 y0 x1 y1)) - 2097152 - side (depthOf (bsize x0 y0 x1 y1)) / 2) : Int) ≤ y0))) && (decide ((x1 : Int) ≤ ((colOf ((x0 + x1) / 2) (depthOf (bsize x0 y0 x1 y1))) * side (depthOf (bsize x0 y0 x1 y1)) - 2097152 + side (depthOf (bsize x0 y0 x1 y1)) + side (depthOf (bsize x0 y0 x1 y1)) / 2))))), ((((decide ((((colOf ((x0 + x1) / 2) (depthOf (bsize x0 y0 x1 y1))) * side (depthOf (bsize x0 y0 x1 y1)) - 2097152 - side (depthOf (bsize x0 y0 x1 y1)) / 2) : Int) ≤ x0)) && (decide ((((colOf ((y0 + y1) / 2) (depthOf (bsize x0 y0 x1 y1))) * side (depthOf (bsize x0 y0 x1 y1)) - 2097152 - side (depthOf (bsize x0 y0 x1 y1)) / 2) : Int) ≤ y0))) && (decide ((x1 : Int) ≤ ((colOf ((x0 + x1) / 2) (depthOf (bsize x0 y0 x1 y1))) * side (depthOf (bsize x0 y0 x1 y1)) - 2097152 + side (depthOf (bsize x0 y0 x1 y1)) + side (depthOf (bsize x0 y0 x1 y1)) / 2)))) = true → Ad B1 3), ((((decide ((((colOf ((x0 + x1) / 2) (depthOf (bsize x0 y0 x1 y1))) * side (depthOf (bsize x0 y0 x1 y1)) - 2097152 - side (depthOf (bsize x0 y0 x1 y1)) / 2) : Int) ≤ x0)) && (decide ((((colOf ((y0 + y1) / 2) (depthOf (bsize x0 y0 x1 y1))) * side (depthOf (bsize x0 y0 x1 y1)) - 2097152 - side (depthOf (bsize x0 y0 x1 y1)) / 2) : Int) ≤ y0))) && (decide ((x1 : Int) ≤ ((colOf ((x0 + x1) / 2) (depthOf (bsize x0 y0 x1 y1))) * side (depthOf (bsize x0 y0 x1 y1)) - 2097152 + side (depthOf (bsize x0 y0 x1 y1)) + side (depthOf (bsize x0 y0 x1 y1)) / 2)))) = true → (((decide ((((colOf ((x0 + x1) / 2) (depthOf (bsize x0 y0 x1 y1))) * side (depthOf (bsize x0 y0 x1 y1)) - 2097152 - side (depthOf (bsize x0 y0 x1 y1)) / 2) : Int) ≤ x0)) && (decide ((((colOf ((y0 + y1) / 2) (depthOf (bsize x0 y0 x1 y1))) * side (depthOf (bsize x0 y0 x1 y1)) - 2097152 - side (depthOf (bsize x0 y0 x1 y1)) / 2) : Int) ≤ y0))) && (decide ((x1 : Int) ≤ ((colOf ((x0 + x1) / 2) (depthOf (bsize x0 y0 x1 y1))) * side (depthOf (bsize x0 y0 x1 y1)) - 2097152 + side (depthOf (bsize x0 y0 x1 y1)) + side (depthOf (bsize x0 y0 x1 y1)) / 2)))) = (((decide ((((colOf ((x0 + x1) / 2) (depthOf (bsize x0 y0 x1 y1))) * side (depthOf (bsize x0 y0 x1 y1)) - 2097152 - side (depthOf (bsize x0 y0 x1 y1)) / 2) : Int) ≤ x0)) && (decide ((((colOf ((y0 + y1) / 2) (depthOf (bsize x0 y0 x1 y1))) * side (depthOf (bsize x0 y0 x1 y1)) - 2097152 - side (depthOf (bsize x0 y0 x1 y1)) / 2) : Int) ≤ y0))) && (decide ((x1 : Int) ≤ ((colOf ((x0 + x1) / 2) (depthOf (bsize x0 y0 x1 y1))) * side (depthOf (bsize x0 y0 x1 y1)) - 2097152 + side (depthOf (bsize x0 y0 x1 y1)) + side (depthOf (bsize x0 y0 x1 y1)) / 2))))), ((((decide ((((colOf ((x0 + x1) / 2) (depthOf (bsize x0 y0 x1 y1))) * side (depthOf (bsize x0 y0 x1 y1)) - 2097152 - side (depthOf (bsize x0 y0 x1 y1)) / 2) : Int) ≤ x0)) && (decide ((((colOf ((y0 + y1) / 2) (depthOf (bsize x0 y0 x1 y1))) * side (depthOf (bsize x0 y0 x1 y1)) - 2097152 - side (depthOf (bsize x0 y0 x1 y1)) / 2) : Int) ≤ y0))) && (decide ((x1 : Int) ≤ ((colOf ((x0 + x1) / 2) (depthOf (bsize x0 y0 x1 y1))) * side (depthOf (bsize x0 y0 x1 y1)) - 2097152 + side (depthOf (bsize x0 y0 x1 y1)) + side (depthOf (bsize x0 y0 x1 y1)) / 2)))) = true → Ad B11 3), ((((decide ((((colOf ((x0 + x1) / 2) (depthOf (bsize x0 y0 x1 y1))) * side (depthOf (bsize x0 y0 x1 y1)) - 2097152 - side (depthOf (bsize x0 y0 x1 y1)) / 2) : Int) ≤ x0)) && (decide ((((colOf ((y0 + y1) / 2) (depthOf (bsize x0 y0 x1 y1))) * side (depthOf (bsize x0 y0 x1 y1)) - 2097152 - side (depthOf (bsize x0 y0 x1 y1)) / 2) : Int) ≤ y0))) && (decide ((x1 : Int) ≤ ((colOf ((x0 + x1) / 2) (depthOf (bsize x0 y0 x1 y1))) * side (depthOf (bsize x0 y0 x1 y1)) - 2097152 + side (depthOf (bsize x0 y0 x1 y1)) + side (depthOf (bsize x0 y0 x1 y1)) / 2)))) = true → (((decide ((((colOf ((x0 + x1) / 2) (depthOf (bsize x0 y0 x1 y1))) * side (depthOf (bsize x0 y0 x1 y1)) - 2097152 - side (depthOf (bsize x0 y0 x1 y1)) / 2) : Int) ≤ x0)) && (decide ((((colOf ((y0 + y1) / 2) (depthOf (bsize x0 y0 x1 y1))) * side (depthOf (bsize x0 y0 x1 y1)) - 2097152 - side (depthOf (bsize x0 y0 x1 y1)) / 2) : Int) ≤ y0))) && (decide ((x1 : Int) ≤ ((colOf ((x0 + x1) / 2) (depthOf (bsize x0 y0 x1 y1))) * side (depthOf (bsize x0 y0 x1 y1)) - 2097152 + side (depthOf (bsize x0 y0 x1 y1)) + side (depthOf (bsize x0 y0 x1 y1)) / 2)))) = (((decide ((((colOf ((x0 + x1) / 2) (depthOf (bsize x0 y0 x1 y1))) * side (depthOf (bsize x0 y0 x1 y1)) - 2097152 - side (depthOf (bsize x0 y0 x1 y1)) / 2) : Int) ≤ x0)) && (decide ((((colOf ((y0 + y1) / 2) (depthOf (bsize x0 y0 x1 y1))) * side (depthOf (bsize x0 y0 x1 y1)) - 2097152 - side (depthOf (bsize x0 y0 x1 y1)) / 2) : Int) ≤ y0))) && (decide ((x1 : Int) ≤ ((colOf ((x0 + x1) / 2) (depthOf (bsize x0 y0 x1 y1))) * side (depthOf (bsize x0 y0 x1 y1)) - 2097152 + side (depthOf (bsize x0 y0 x1 y1)) + side (depthOf (bsize x0 y0 x1 y1)) / 2))))), ((((decide ((((colOf ((x0 + x1) / 2) (depthOf (bsize x0 y0 x1 y1))) * side (depthOf (bsize x0 y0 x1 y1)) - 2097152 - side (depthOf (bsize x0 y0 x1 y1)) / 2) : Int) ≤ x0)) && (decide ((((colOf ((y0 + y1) / 2) (depthOf (bsize x0 y0 x1 y1))) * side (depthOf (bsize x0 y0 x1 y1)) - 2097152 - side (depthOf (bsize x0 y0 x1 y1)) / 2) : Int) ≤ y0))) && (decide ((x1 : Int) ≤ ((colOf ((x0 + x1) / 2) (depthOf (bsize x0 y0 x1 y1))) * side (depthOf (bsize x0 y0 x1 y1)) - 2097152 + side (depthOf (bsize x0 y0 x1 y1)) + side (depthOf (bsize x0 y0 x1 y1)) / 2)))) = true → (((decide ((((colOf ((x0 + x1) / 2) (depthOf (bsize x0 y0 x1 y1))) * side (depthOf (bsize x0 y0 x1 y1)) - 2097152 - side (depthOf (bsize x0 y0 x1 y1)) / 2) : Int) ≤ x0)) && (decide ((((colOf ((y0 + y1) / 2) (depthOf (bsize x0 y0 x1 y1))) * side (depthOf (bsize x0 y0 x1 y1)) - 2097152 - side (depthOf (bsize x0 y0 x1 y1)) / 2) : Int) ≤ y0))) && (decide ((x1 : Int) ≤ ((colOf ((x0 + x1) / 2) (depthOf (bsize x0 y0 x1 y1))) * side (depthOf (bsize x0 y0 x1 y1)) - 2097152 + side (depthOf (bsize x0 y0 x1 y1)) + side (depthOf (bsize x0 y0 x1 y1)) / 2)))) = (((decide ((((colOf ((x0 + x1) / 2) (depthOf (bsize x0 y0 x1 y1))) * side (depthOf (bsize x0 y0 x1 y1)) - 2097152 - side (depthOf (bsize x0 y0 x1 y1)) / 2) : Int) ≤ x0)) && (decide ((((colOf ((y0 + y1) / 2) (depthOf (bsize x0 y0 x1 y1))) * side (depthOf (bsize x0 y0 x1 y1)) - 2097152 - side (depthOf (bsize x0 y0 x1 y1)) / 2) : Int) ≤ y0))) && (decide ((x1 : Int) ≤ ((colOf ((x0 + x1) / 2) (depthOf (bsize x0 y0 x1 y1))) * side (depthOf (bsize x0 y0 x1 y1)) - 2097152 + side (depthOf (bsize x0 y0 x1 y1)) + side (depthOf (bsize x0 y0 x1 y1)) / 2))))), ((((decide ((((colOf ((x0 + x1) / 2) (depthOf (bsize x0 y0 x1 y1))) * side (depthOf (bsize x0 y0 x1 y1)) - 2097152 - side (depthOf (bsize x0 y0 x1 y1)) / 2) : Int) ≤ x0)) && (decide ((((colOf ((y0 + y1) / 2) (depthOf (bsize x0 y0 x1 y1))) * side (depthOf (bsize x0 y0 x1 y1)) - 2097152 - side (depthOf (bsize x0 y0 x1 y1)) / 2) : Int) ≤ y0))) && (decide ((x1 : Int) ≤ ((colOf ((x0 + x1) / 2) (depthOf (bsize x0 y0 x1 y1))) * side (depthOf (bsize x0 y0 x1 y1)) - 2097152 + side (depthOf (bsize x0 y0 x1 y1)) + side (depthOf (bsize x0 y0 x1 y1)) / 2)))) = true → (((decide ((((colOf ((x0 + x1) / 2) (depthOf (bsize x0 y0 x1 y1))) * side (depthOf (bsize x0 y0 x1 y1)) - 2097152 - side (depthOf (bsize x0 y0 x1 y1)) / 2) : Int) ≤ x0)) && (decide ((((colOf ((y0 + y1) / 2) (depthOf (bsize x0 y0 x1 y1))) * side (depthOf (bsize x0 y0 x1 y1)) - 2097152 - side (depthOf (bsize x0 y0 x1 y1)) / 2) : Int) ≤ y0))) && (decide ((x1 : Int) ≤ ((colOf ((x0 + x1) / 2) (depthOf (bsize x0 y0 x1 y1))) * side (depthOf (bsize x0 y0 x1 y1)) - 2097152 + side (depthOf (bsize x0 y0 x1 y1)) + side (depthOf (bsize x0 y0 x1 y1)) / 2)))) = (((decide ((((colOf ((x0 + x1) / 2) (depthOf (bsize x0 y0 x1 y1))) * side (depthOf (bsize x0 y0 x1 y1)) - 2097152 - side (depthOf (bsize x0 y0 x1 y1)) / 2) : Int) ≤ x0)) && (decide ((((colOf ((y0 + y1) / 2) (depthOf (bsize x0 y0 x1 y1))) * side (depthOf (bsize x0 y0 x1 y1)) - 2097152 - side (depthOf (bsize x0 y0 x1 y1)) / 2) : Int) ≤ y0))) && (decide ((x1 : Int) ≤ ((colOf ((x0 + x1) / 2) (depthOf (bsize x0 y0 x1 y1))) * side (depthOf (bsize x0 y0 x1 y1)) - 2097152 + side (depthOf (bsize x0 y0 x1 y1)) + side (depthOf (bsize x0 y0 x1 y1)) / 2))))), (bif (((decide ((((colOf ((x0 + x1) / 2) (depthOf (bsize x0 y0 x1 y1))) * side (depthOf (bsize x0 y0 x1 y1)) - 2097152 - side (depthOf (bsize x0 y0 x1 y1)) / 2) : Int) ≤ x0)) && (decide ((((colOf ((y0 + y1) / 2) (depthOf (bsize x0 y0 x1 y1))) * side (depthOf (bsize x0 y0 x1 y1)) - 2097152 - side (depthOf (bsize x0 y0 x1 y1)) / 2) : Int) ≤ y0))) && (decide ((x1 : Int) ≤ ((colOf ((x0 + x1) / 2) (depthOf (bsize x0 y0 x1 y1))) * side (depthOf (bsize x0 y0 x1 y1)) - 2097152 + side (depthOf (bsize x0 y0 x1 y1)) + side (depthOf (bsize x0 y0 x1 y1)) / 2)))) then (.bool (decide ((y1 : Int) ≤ ((colOf ((y0 + y1) / 2) (depthOf (bsize x0 y0 x1 y1))) * side (depthOf (bsize x0 y0 x1 y1)) - 2097152 + side (depthOf (bsize x0 y0 x1 y1)) + side (depthOf (bsize x0 y0 x1 y1)) / 2))) : Value) else .bool false) = .bool ((((decide ((((colOf ((x0 + x1) / 2) (depthOf (bsize x0 y0 x1 y1))) * side (depthOf (bsize x0 y0 x1 y1)) - 2097152 - side (depthOf (bsize x0 y0 x1 y1)) / 2) : Int) ≤ x0)) && (decide ((((colOf ((y0 + y1) / 2) (depthOf (bsize x0 y0 x1 y1))) * side (depthOf (bsize x0 y0 x1 y1)) - 2097152 - side (depthOf (bsize x0 y0 x1 y1)) / 2) : Int) ≤ y0))) && (decide ((x1 : Int) ≤ ((colOf ((x0 + x1) / 2) (depthOf (bsize x0 y0 x1 y1))) * side (depthOf (bsize x0 y0 x1 y1)) - 2097152 + side (depthOf (bsize x0 y0 x1 y1)) + side (depthOf (bsize x0 y0 x1 y1)) / 2)))) && (decide ((y1 : Int) ≤ ((colOf ((y0 + y1) / 2) (depthOf (bsize x0 y0 x1 y1))) * side (depthOf (bsize x0 y0 x1 y1)) - 2097152 + side (depthOf (bsize x0 y0 x1 y1)) + side (depthOf (bsize x0 y0 x1 y1)) / 2))))]) (fun B => by as_aux_lemma => kernel_rfl) rfl (Ac rfl (Ac rfl (Ac (ad _ _) (Ac rfl (Ac rfl (Ac (ad _ _) (Ac rfl (Ac (fun hgd => rfl) (Ac (fun hgd => ad _ _) (Ac (fun hgd => rfl) (Ac (fun hgd => ad _ _) (Ac (fun hgd => rfl) (Ac (fun hgd => rfl) (Ac (fun _ => rfl) (Ac (pick_and _ _) (Ac (fun hgd => rfl) (Ac (fun hgd => ad _ _) (Ac (fun hgd => rfl) (Ac (fun hgd => ad _ _) (Ac (fun hgd => rfl) (Ac (fun hgd => rfl) (Ac (fun _ => rfl) (Ac (pick_and _ _) (Ac (fun hgd => rfl) (Ac (fun hgd => ad _ _) (Ac (fun hgd => rfl) (Ac (fun hgd => ad _ _) (Ac (fun hgd => rfl) (Ac (fun hgd => rfl) (Ac (fun _ => rfl) (Ao (pick_and _ _)))))))))))))))))))))))))))))))) ?_
  clear hf; intro a hf
  refine wpList_nil ?_
  refine hK11 _ _ ?_
  refine wp_ret ?_
  refine sxret (fn := Tryd.f4) hf hM [] (l := [.bool ((((decide ((((colOf ((x0 + x1) / 2) (depthOf (bsize x0 y0 x1 y1))) * side (depthOf (bsize x0 y0 x1 y1)) - 2097152 - side (depthOf (bsize x0 y0 x1 y1)) / 2) : Int) ≤ x0)) && (decide ((((colOf ((y0 + y1) / 2) (depthOf (bsize x0 y0 x1 y1))) * side (depthOf (bsize x0 y0 x1 y1)) - 2097152 - side (depthOf (bsize x0 y0 x1 y1)) / 2) : Int) ≤ y0))) && (decide ((x1 : Int) ≤ ((colOf ((x0 + x1) / 2) (depthOf (bsize x0 y0 x1 y1))) * side (depthOf (bsize x0 y0 x1 y1)) - 2097152 + side (depthOf (bsize x0 y0 x1 y1)) + side (depthOf (bsize x0 y0 x1 y1)) / 2)))) && (decide ((y1 : Int) ≤ ((colOf ((y0 + y1) / 2) (depthOf (bsize x0 y0 x1 y1))) * side (depthOf (bsize x0 y0 x1 y1)) - 2097152 + side (depthOf (bsize x0 y0 x1 y1)) + side (depthOf (bsize x0 y0 x1 y1)) / 2))))]) (M' := [⟨B1, 42, [.int .i64 x0, .int .i64 y0, .int .i64 x1, .int .i64 y1]⟩, ⟨B4, 44, [.int .i64 (depthOf (bsize x0 y0 x1 y1)), .int .i64 (colOf ((x0 + x1) / 2) (depthOf (bsize x0 y0 x1 y1))), .int .i64 (colOf ((y0 + y1) / 2) (depthOf (bsize x0 y0 x1 y1)))]⟩, ⟨B6, 47, [.int .i64 (depthOf (bsize x0 y0 x1 y1)), .int .i64 (colOf ((x0 + x1) / 2) (depthOf (bsize x0 y0 x1 y1))), .int .i64 (colOf ((y0 + y1) / 2) (depthOf (bsize x0 y0 x1 y1)))]⟩, ⟨B11, 42, [.int .i64 ((colOf ((x0 + x1) / 2) (depthOf (bsize x0 y0 x1 y1))) * side (depthOf (bsize x0 y0 x1 y1)) - 2097152 - side (depthOf (bsize x0 y0 x1 y1)) / 2), .int .i64 ((colOf ((y0 + y1) / 2) (depthOf (bsize x0 y0 x1 y1))) * side (depthOf (bsize x0 y0 x1 y1)) - 2097152 - side (depthOf (bsize x0 y0 x1 y1)) / 2), .int .i64 ((colOf ((x0 + x1) / 2) (depthOf (bsize x0 y0 x1 y1))) * side (depthOf (bsize x0 y0 x1 y1)) - 2097152 + side (depthOf (bsize x0 y0 x1 y1)) + side (depthOf (bsize x0 y0 x1 y1)) / 2), .int .i64 ((colOf ((y0 + y1) / 2) (depthOf (bsize x0 y0 x1 y1))) * side (depthOf (bsize x0 y0 x1 y1)) - 2097152 + side (depthOf (bsize x0 y0 x1 y1)) + side (depthOf (bsize x0 y0 x1 y1)) / 2)]⟩]) (d' := false) (ob := []) (by kernel_rfl) (fun B => ⟨B, by as_aux_lemma => kernel_rfl⟩) rfl An ?_
  show (.bool ((((decide ((((colOf ((x0 + x1) / 2) (depthOf (bsize x0 y0 x1 y1))) * side (depthOf (bsize x0 y0 x1 y1)) - 2097152 - side (depthOf (bsize x0 y0 x1 y1)) / 2) : Int) ≤ x0)) && (decide ((((colOf ((y0 + y1) / 2) (depthOf (bsize x0 y0 x1 y1))) * side (depthOf (bsize x0 y0 x1 y1)) - 2097152 - side (depthOf (bsize x0 y0 x1 y1)) / 2) : Int) ≤ y0))) && (decide ((x1 : Int) ≤ ((colOf ((x0 + x1) / 2) (depthOf (bsize x0 y0 x1 y1))) * side (depthOf (bsize x0 y0 x1 y1)) - 2097152 + side (depthOf (bsize x0 y0 x1 y1)) + side (depthOf (bsize x0 y0 x1 y1)) / 2)))) && (decide ((y1 : Int) ≤ ((colOf ((y0 + y1) / 2) (depthOf (bsize x0 y0 x1 y1))) * side (depthOf (bsize x0 y0 x1 y1)) - 2097152 + side (depthOf (bsize x0 y0 x1 y1)) + side (depthOf (bsize x0 y0 x1 y1)) / 2)))) : Value) = .bool true ∧ Keep Nn w w9
  refine ⟨congrArg Value.bool ?_, hk0⟩
  simp
  omega

theorem quadLoose_any (E : Nat → Addr) (d x y : Int) (w : World) (hG : Errs 10 w 115 E) :
    Calls Tryd.prog 5 #[.agg #[.int .i64 d, .int .i64 x, .int .i64 y]] w (Ret fun v w' => v = .bool true ∧ Keep Nn w w') := by
  rcases Bool.eq_false_or_eq_true (cellRight d x y) with h | h
  · rcases Bool.eq_false_or_eq_true (d == 0) with h0 | h0
    · exact ql_top E d x y w h h0 hG
    · exact ql_ok E d x y w h h0 hG
  · exact ql_no E d x y w h hG
theorem quadCells_any (E : Nat → Addr) (x0 y0 x1 y1 : Int) (w : World) (hG : Errs 10 w 115 E) :
    Calls Tryd.prog 4 #[.agg #[.int .i64 x0, .int .i64 y0, .int .i64 x1, .int .i64 y1]] w (Ret fun v w' => v = .bool true ∧ Keep Nn w w') := by
  rcases Bool.eq_false_or_eq_true (boxRight x0 y0 x1 y1) with h | h
  · rcases Bool.eq_false_or_eq_true (inWorld x0 y0 x1 y1) with h0 | h0
    · exact qc_ok E x0 y0 x1 y1 w h h0 hG
    · exact qc_range E x0 y0 x1 y1 w h h0 hG
  · exact qc_form E x0 y0 x1 y1 w h hG
end Go.Proofs.YtkcpadkllhgmdaaDoor
