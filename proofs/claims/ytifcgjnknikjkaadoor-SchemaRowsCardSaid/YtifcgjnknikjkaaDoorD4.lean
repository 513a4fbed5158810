/- laws of layer 6: moves -/
import Derived.Test.YtifcgjnknikjkaaDoorD1
namespace Go.Proofs.YtifcgjnknikjkaaDoor
open Go.Px
set_option linter.unusedVariables false
set_option linter.unusedSimpArgs false
theorem enters30 : enters Tryd.prog 30 := ⟨_, Tryd.func30, by kernel_rfl, rfl⟩
theorem enters49 : enters Tryd.prog 49 := ⟨_, Tryd.func49, by kernel_rfl, rfl⟩

set_option maxRecDepth 10000 in
set_option maxHeartbeats 4000000 in
theorem smo_kind (E : Nat → Addr) (k x y : Int) (dx dy : Int) (w : World) (hn0 : (mvPos k x y) = false) (hdx : -9223372036854775808 ≤ dx ∧ dx ≤ 9223372036854775807) (hdy : -9223372036854775808 ≤ dy ∧ dy ≤ 9223372036854775807) (hG : Errs [0, 1, 2, 3, 4, 5, 6, 7, 8, 9] w 185 E) :
    Calls Tryd.prog 10 #[.agg #[.int .i64 k, .int .i64 x, .int .i64 y], .int .i64 dx, .int .i64 dy] w (Ret fun v w' => v = .bool true ∧ Keep Nn w w') := by
  refine sxenter (n := 36) (args := [.agg #[.int .i64 k, .int .i64 x, .int .i64 y], .int .i64 dx, .int .i64 dy]) Tryd.func10 rfl rfl rfl fun a hf => ?_
  replace hf : Fr 36 [(0, .val (.agg #[.int .i64 k, .int .i64 x, .int .i64 y])), (1, .val (.int .i64 dx)), (2, .val (.int .i64 dy))] a := hf
  have hM : MemOk [] w := MemOk.nil w
  have hk0 : Keep Nn w w := Keep.refl _ _
  refine wp_seq_k (fun K1 hK1 => ?_)
  refine wp_region_lit ?_
  refine sr hf hM [3, 1, 2] [{ os := [.nw] }, {}] (env' := fun B1 => [(3, .val (.pointer (some ⟨B1, 0, none⟩))), (1, .val (.int .i64 dx)), (2, .val (.int .i64 dy))]) (M' := fun B1 => [⟨B1, 62, [.int .i64 k, .int .i64 x, .int .i64 y]⟩]) (ob := fun B1 => []) (fun B => by as_aux_lemma => kernel_rfl) (fun B1 => An) ?_
  clear hf hM; intro a w1 B1 hf hM hB hk
  have hbB1 : w.heap.size ≤ B1 := by have := hk0.size; omega
  have hk0 := hk0.then hk (by intro i _ h; cases h)
  clear hk hB
  refine wpList_nil ?_
  refine hK1 _ _ ?_
  refine wp_seq_k (fun K2 hK2 => ?_)
  refine wp_seq_k (fun K3 hK3 => ?_)
  refine wp_region_lit ?_
  refine sxcall hf rfl rfl rfl rfl (g := 29) (vs := []) (ob := []) (by as_aux_lemma => kernel_rfl) An enters29 (alive6 E w1  (hG.keep hk0 (fun _ h => h))) ?_
  clear hf; rintro _ w2 a ⟨rfl, hk⟩ hf
  have hM := hM.keepNn hk
  have hk0 := hk0.trans hk.nn
  clear hk
  refine sr0 hf hM [12, 3, 1, 2] [{}] (env' := [(12, .val (.bool false)), (3, .val (.pointer (some ⟨B1, 0, none⟩))), (1, .val (.int .i64 dx)), (2, .val (.int .i64 dy))]) (ob := []) (fun B => by as_aux_lemma => kernel_rfl) rfl An ?_
  clear hf; intro a hf
  refine wpList_nil ?_
  refine hK3 _ _ ?_
  refine sxcond hf (b := false) (by kernel_rfl) (fun h => by cases h) (fun _ => ?_)
  refine wp_skip ?_
  refine hK2 _ _ ?_
  refine wp_seq_k (fun K4 hK4 => ?_)
  refine wp_region_lit ?_
  refine sr0 hf hM [16, 15, 14, 3, 1, 2] [{ os := [.ld 0 0, .ld 0 1, .ld 0 2] }, {}, {}] (env' := [(16, .val (.int .i64 dy)), (15, .val (.int .i64 dx)), (14, .val (.agg #[.int .i64 k, .int .i64 x, .int .i64 y])), (3, .val (.pointer (some ⟨B1, 0, none⟩))), (1, .val (.int .i64 dx)), (2, .val (.int .i64 dy))]) (ob := [Ad B1 0, Ad B1 1, Ad B1 2]) (fun B => by as_aux_lemma => kernel_rfl) rfl (Ac (ad _ _) (Ac (ad _ _) (Ao (ad _ _)))) ?_
  clear hf; intro a hf
  refine sxcall hf rfl rfl rfl rfl (g := 30) (vs := [.agg #[.int .i64 k, .int .i64 x, .int .i64 y], .int .i64 dx, .int .i64 dy]) (ob := []) (by as_aux_lemma => kernel_rfl) An enters30 (smv_kind E k x y dx dy w2 hn0 (by omega) (by omega) (hG.keep hk0 (fun _ h => h))) ?_
  clear hf; rintro _ w3 a ⟨rfl, hk⟩ hf
  have hM := hM.keepNn hk
  have hk0 := hk0.trans hk.nn
  clear hk
  refine sr hf hM [8, 7, 3, 1, 2] [{}, {}, {}, { os := [.nw] }, { os := [.st 1 0, .st 1 1, .st 1 2] }, {}] (env' := fun B4 => [(8, .val (.iface 185 (.pointer (some (E 4))))), (7, .val (.pointer (some ⟨B4, 0, none⟩))), (3, .val (.pointer (some ⟨B1, 0, none⟩))), (1, .val (.int .i64 dx)), (2, .val (.int .i64 dy))]) (M' := fun B4 => [⟨B1, 62, [.int .i64 k, .int .i64 x, .int .i64 y]⟩, ⟨B4, 62, [.int .i64 0, .int .i64 0, .int .i64 0]⟩]) (ob := fun B4 => [Ad B4 0, Ad B4 1, Ad B4 2]) (fun B => by as_aux_lemma => kernel_rfl) (fun B4 => (Ac (ad _ _) (Ac (ad _ _) (Ao (ad _ _))))) ?_
  clear hf hM; intro a w4 B4 hf hM hB hk
  have hbB4 : w.heap.size ≤ B4 := by have := hk0.size; omega
  have hk0 := hk0.then hk (by intro i hi h; simp only [Is, Mem.names, List.map_cons, List.map_nil, List.mem_cons, List.not_mem_nil, or_false] at h; omega)
  clear hk hB
  refine wpList_nil ?_
  refine hK4 _ _ ?_
  refine wp_seq_k (fun K5 hK5 => ?_)
  refine wp_region_lit ?_
  refine sr0 hf hM [23, 22, 21, 8, 7] [{ os := [.ld 0 0, .ld 0 1, .ld 0 2] }, {}, {}] (env' := [(23, .val (.int .i64 dy)), (22, .val (.int .i64 dx)), (21, .val (.agg #[.int .i64 k, .int .i64 x, .int .i64 y])), (8, .val (.iface 185 (.pointer (some (E 4))))), (7, .val (.pointer (some ⟨B4, 0, none⟩)))]) (ob := [Ad B1 0, Ad B1 1, Ad B1 2]) (fun B => by as_aux_lemma => kernel_rfl) rfl (Ac (ad _ _) (Ac (ad _ _) (Ao (ad _ _)))) ?_
  clear hf; intro a hf
  refine sxcall hf rfl rfl rfl rfl (g := 49) (vs := [.agg #[.int .i64 k, .int .i64 x, .int .i64 y], .int .i64 dx, .int .i64 dy]) (ob := []) (by as_aux_lemma => kernel_rfl) An enters49 (rmv_kind k x y dx dy w4 hn0 (by omega) (by omega)) ?_
  clear hf; rintro _ w5 a ⟨rfl, hk⟩ hf
  have hM := hM.keepNn hk
  have hk0 := hk0.trans hk.nn
  clear hk
  refine sr hf hM [10, 9, 8, 7] [{}, {}, {}, { os := [.nw] }, { os := [.st 2 0, .st 2 1, .st 2 2] }, {}] (env' := fun B6 => [(10, .val (.int .i64 5)), (9, .val (.pointer (some ⟨B6, 0, none⟩))), (8, .val (.iface 185 (.pointer (some (E 4))))), (7, .val (.pointer (some ⟨B4, 0, none⟩)))]) (M' := fun B6 => [⟨B1, 62, [.int .i64 k, .int .i64 x, .int .i64 y]⟩, ⟨B4, 62, [.int .i64 0, .int .i64 0, .int .i64 0]⟩, ⟨B6, 62, [.int .i64 0, .int .i64 0, .int .i64 0]⟩]) (ob := fun B6 => [Ad B6 0, Ad B6 1, Ad B6 2]) (fun B => by as_aux_lemma => kernel_rfl) (fun B6 => (Ac (ad _ _) (Ac (ad _ _) (Ao (ad _ _))))) ?_
  clear hf hM; intro a w6 B6 hf hM hB hk
  have hbB6 : w.heap.size ≤ B6 := by have := hk0.size; omega
  have hk0 := hk0.then hk (by intro i hi h; simp only [Is, Mem.names, List.map_cons, List.map_nil, List.mem_cons, List.not_mem_nil, or_false] at h; omega)
  clear hk hB
  refine wpList_nil ?_
  refine hK5 _ _ ?_
  refine wp_seq_k (fun K6 hK6 => ?_)
  refine wp_region_lit ?_
  refine sr0 hf hM [31, 30, 10] [{ os := [.ld 1 0, .ld 1 1, .ld 1 2] }, { os := [.ld 2 0, .ld 2 1, .ld 2 2] }, { sp := true, hint := some (.bool true) }, {}, {}] (env' := [(31, .val (.iface 185 (.pointer (some (E 4))))), (30, .val (.bool true)), (10, .val (.int .i64 5))]) (ob := [Ad B4 0, Ad B4 1, Ad B4 2, Ad B6 0, Ad B6 1, Ad B6 2, (.bool (((0 : Int) == 0) && (((0 : Int) == 0) && (((0 : Int) == 0) && true))) : Value) = (.bool true : Value), true = true]) (fun B => by as_aux_lemma => kernel_rfl) rfl (Ac (ad _ _) (Ac (ad _ _) (Ac (ad _ _) (Ac (ad _ _) (Ac (ad _ _) (Ac (ad _ _) (Ac (by simp) (Ao rfl)))))))) ?_
  clear hf; intro a hf
  refine sxcallg hf rfl rfl rfl rfl rfl (g := 17) (vs := [.iface 185 (.pointer (some (E 4)))]) (ob := []) (by as_aux_lemma => kernel_rfl) An enters17 (num_err E 4 w6  (by decide) (hG.keep hk0 (fun _ h => h))) ?_
  clear hf; rintro _ w7 a ⟨rfl, hk⟩ hf
  have hM := hM.keepNn hk
  have hk0 := hk0.trans hk.nn
  clear hk
  refine sr0 hf hM [6] [{}, {}, {}, {}] (env' := [(6, .val (.bool true))]) (ob := [true = true, true = true]) (fun B => by as_aux_lemma => kernel_rfl) rfl (Ac rfl (Ao rfl)) ?_
  clear hf; intro a hf
  refine wpList_nil ?_
  refine hK6 _ _ ?_
  refine wp_ret ?_
  refine sxret (fn := Tryd.f10) hf hM [] (l := [.bool true]) (M' := [⟨B1, 62, [.int .i64 k, .int .i64 x, .int .i64 y]⟩, ⟨B4, 62, [.int .i64 0, .int .i64 0, .int .i64 0]⟩, ⟨B6, 62, [.int .i64 0, .int .i64 0, .int .i64 0]⟩]) (d' := false) (ob := []) (by kernel_rfl) (fun B => ⟨B, by as_aux_lemma => kernel_rfl⟩) rfl An ?_
  show (.bool true : Value) = .bool true ∧ Keep Nn w w7
  refine ⟨congrArg Value.bool ?_, hk0⟩
  first | rfl | (simp; done) | (simp_all [mvPos]; done)

set_option maxRecDepth 10000 in
set_option maxHeartbeats 4000000 in
theorem smo_far (E : Nat → Addr) (k x y : Int) (dx dy : Int) (w : World) (hn0 : (mvPos k x y) = true) (hn1 : (mvIn dx dy) = false) (hdx : -9223372036854775808 ≤ dx ∧ dx ≤ 9223372036854775807) (hdy : -9223372036854775808 ≤ dy ∧ dy ≤ 9223372036854775807) (hG : Errs [0, 1, 2, 3, 4, 5, 6, 7, 8, 9] w 185 E) :
    Calls Tryd.prog 10 #[.agg #[.int .i64 k, .int .i64 x, .int .i64 y], .int .i64 dx, .int .i64 dy] w (Ret fun v w' => v = .bool true ∧ Keep Nn w w') := by
  refine sxenter (n := 36) (args := [.agg #[.int .i64 k, .int .i64 x, .int .i64 y], .int .i64 dx, .int .i64 dy]) Tryd.func10 rfl rfl rfl fun a hf => ?_
  replace hf : Fr 36 [(0, .val (.agg #[.int .i64 k, .int .i64 x, .int .i64 y])), (1, .val (.int .i64 dx)), (2, .val (.int .i64 dy))] a := hf
  have hM : MemOk [] w := MemOk.nil w
  have hk0 : Keep Nn w w := Keep.refl _ _
  refine wp_seq_k (fun K1 hK1 => ?_)
  refine wp_region_lit ?_
  refine sr hf hM [3, 1, 2] [{ os := [.nw] }, {}] (env' := fun B1 => [(3, .val (.pointer (some ⟨B1, 0, none⟩))), (1, .val (.int .i64 dx)), (2, .val (.int .i64 dy))]) (M' := fun B1 => [⟨B1, 62, [.int .i64 k, .int .i64 x, .int .i64 y]⟩]) (ob := fun B1 => []) (fun B => by as_aux_lemma => kernel_rfl) (fun B1 => An) ?_
  clear hf hM; intro a w1 B1 hf hM hB hk
  have hbB1 : w.heap.size ≤ B1 := by have := hk0.size; omega
  have hk0 := hk0.then hk (by intro i _ h; cases h)
  clear hk hB
  refine wpList_nil ?_
  refine hK1 _ _ ?_
  refine wp_seq_k (fun K2 hK2 => ?_)
  refine wp_seq_k (fun K3 hK3 => ?_)
  refine wp_region_lit ?_
  refine sxcall hf rfl rfl rfl rfl (g := 29) (vs := []) (ob := []) (by as_aux_lemma => kernel_rfl) An enters29 (alive6 E w1  (hG.keep hk0 (fun _ h => h))) ?_
  clear hf; rintro _ w2 a ⟨rfl, hk⟩ hf
  have hM := hM.keepNn hk
  have hk0 := hk0.trans hk.nn
  clear hk
  refine sr0 hf hM [12, 3, 1, 2] [{}] (env' := [(12, .val (.bool false)), (3, .val (.pointer (some ⟨B1, 0, none⟩))), (1, .val (.int .i64 dx)), (2, .val (.int .i64 dy))]) (ob := []) (fun B => by as_aux_lemma => kernel_rfl) rfl An ?_
  clear hf; intro a hf
  refine wpList_nil ?_
  refine hK3 _ _ ?_
  refine sxcond hf (b := false) (by kernel_rfl) (fun h => by cases h) (fun _ => ?_)
  refine wp_skip ?_
  refine hK2 _ _ ?_
  refine wp_seq_k (fun K4 hK4 => ?_)
  refine wp_region_lit ?_
  refine sr0 hf hM [16, 15, 14, 3, 1, 2] [{ os := [.ld 0 0, .ld 0 1, .ld 0 2] }, {}, {}] (env' := [(16, .val (.int .i64 dy)), (15, .val (.int .i64 dx)), (14, .val (.agg #[.int .i64 k, .int .i64 x, .int .i64 y])), (3, .val (.pointer (some ⟨B1, 0, none⟩))), (1, .val (.int .i64 dx)), (2, .val (.int .i64 dy))]) (ob := [Ad B1 0, Ad B1 1, Ad B1 2]) (fun B => by as_aux_lemma => kernel_rfl) rfl (Ac (ad _ _) (Ac (ad _ _) (Ao (ad _ _)))) ?_
  clear hf; intro a hf
  refine sxcall hf rfl rfl rfl rfl (g := 30) (vs := [.agg #[.int .i64 k, .int .i64 x, .int .i64 y], .int .i64 dx, .int .i64 dy]) (ob := []) (by as_aux_lemma => kernel_rfl) An enters30 (smv_far E k x y dx dy w2 hn0 hn1 (by omega) (by omega) (hG.keep hk0 (fun _ h => h))) ?_
  clear hf; rintro _ w3 a ⟨rfl, hk⟩ hf
  have hM := hM.keepNn hk
  have hk0 := hk0.trans hk.nn
  clear hk
  refine sr hf hM [8, 7, 3, 1, 2] [{}, {}, {}, { os := [.nw] }, { os := [.st 1 0, .st 1 1, .st 1 2] }, {}] (env' := fun B4 => [(8, .val (.iface 185 (.pointer (some (E 0))))), (7, .val (.pointer (some ⟨B4, 0, none⟩))), (3, .val (.pointer (some ⟨B1, 0, none⟩))), (1, .val (.int .i64 dx)), (2, .val (.int .i64 dy))]) (M' := fun B4 => [⟨B1, 62, [.int .i64 k, .int .i64 x, .int .i64 y]⟩, ⟨B4, 62, [.int .i64 0, .int .i64 0, .int .i64 0]⟩]) (ob := fun B4 => [Ad B4 0, Ad B4 1, Ad B4 2]) (fun B => by as_aux_lemma => kernel_rfl) (fun B4 => (Ac (ad _ _) (Ac (ad _ _) (Ao (ad _ _))))) ?_
  clear hf hM; intro a w4 B4 hf hM hB hk
  have hbB4 : w.heap.size ≤ B4 := by have := hk0.size; omega
  have hk0 := hk0.then hk (by intro i hi h; simp only [Is, Mem.names, List.map_cons, List.map_nil, List.mem_cons, List.not_mem_nil, or_false] at h; omega)
  clear hk hB
  refine wpList_nil ?_
  refine hK4 _ _ ?_
  refine wp_seq_k (fun K5 hK5 => ?_)
  refine wp_region_lit ?_
  refine sr0 hf hM [23, 22, 21, 8, 7] [{ os := [.ld 0 0, .ld 0 1, .ld 0 2] }, {}, {}] (env' := [(23, .val (.int .i64 dy)), (22, .val (.int .i64 dx)), (21, .val (.agg #[.int .i64 k, .int .i64 x, .int .i64 y])), (8, .val (.iface 185 (.pointer (some (E 0))))), (7, .val (.pointer (some ⟨B4, 0, none⟩)))]) (ob := [Ad B1 0, Ad B1 1, Ad B1 2]) (fun B => by as_aux_lemma => kernel_rfl) rfl (Ac (ad _ _) (Ac (ad _ _) (Ao (ad _ _)))) ?_
  clear hf; intro a hf
  refine sxcall hf rfl rfl rfl rfl (g := 49) (vs := [.agg #[.int .i64 k, .int .i64 x, .int .i64 y], .int .i64 dx, .int .i64 dy]) (ob := []) (by as_aux_lemma => kernel_rfl) An enters49 (rmv_far k x y dx dy w4 hn0 hn1 (by omega) (by omega)) ?_
  clear hf; rintro _ w5 a ⟨rfl, hk⟩ hf
  have hM := hM.keepNn hk
  have hk0 := hk0.trans hk.nn
  clear hk
  refine sr hf hM [10, 9, 8, 7] [{}, {}, {}, { os := [.nw] }, { os := [.st 2 0, .st 2 1, .st 2 2] }, {}] (env' := fun B6 => [(10, .val (.int .i64 1)), (9, .val (.pointer (some ⟨B6, 0, none⟩))), (8, .val (.iface 185 (.pointer (some (E 0))))), (7, .val (.pointer (some ⟨B4, 0, none⟩)))]) (M' := fun B6 => [⟨B1, 62, [.int .i64 k, .int .i64 x, .int .i64 y]⟩, ⟨B4, 62, [.int .i64 0, .int .i64 0, .int .i64 0]⟩, ⟨B6, 62, [.int .i64 0, .int .i64 0, .int .i64 0]⟩]) (ob := fun B6 => [Ad B6 0, Ad B6 1, Ad B6 2]) (fun B => by as_aux_lemma => kernel_rfl) (fun B6 => (Ac (ad _ _) (Ac (ad _ _) (Ao (ad _ _))))) ?_
  clear hf hM; intro a w6 B6 hf hM hB hk
  have hbB6 : w.heap.size ≤ B6 := by have := hk0.size; omega
  have hk0 := hk0.then hk (by intro i hi h; simp only [Is, Mem.names, List.map_cons, List.map_nil, List.mem_cons, List.not_mem_nil, or_false] at h; omega)
  clear hk hB
  refine wpList_nil ?_
  refine hK5 _ _ ?_
  refine wp_seq_k (fun K6 hK6 => ?_)
  refine wp_region_lit ?_
  refine sr0 hf hM [31, 30, 10] [{ os := [.ld 1 0, .ld 1 1, .ld 1 2] }, { os := [.ld 2 0, .ld 2 1, .ld 2 2] }, { sp := true, hint := some (.bool true) }, {}, {}] (env' := [(31, .val (.iface 185 (.pointer (some (E 0))))), (30, .val (.bool true)), (10, .val (.int .i64 1))]) (ob := [Ad B4 0, Ad B4 1, Ad B4 2, Ad B6 0, Ad B6 1, Ad B6 2, (.bool (((0 : Int) == 0) && (((0 : Int) == 0) && (((0 : Int) == 0) && true))) : Value) = (.bool true : Value), true = true]) (fun B => by as_aux_lemma => kernel_rfl) rfl (Ac (ad _ _) (Ac (ad _ _) (Ac (ad _ _) (Ac (ad _ _) (Ac (ad _ _) (Ac (ad _ _) (Ac (by simp) (Ao rfl)))))))) ?_
  clear hf; intro a hf
  refine sxcallg hf rfl rfl rfl rfl rfl (g := 17) (vs := [.iface 185 (.pointer (some (E 0)))]) (ob := []) (by as_aux_lemma => kernel_rfl) An enters17 (num_err E 0 w6  (by decide) (hG.keep hk0 (fun _ h => h))) ?_
  clear hf; rintro _ w7 a ⟨rfl, hk⟩ hf
  have hM := hM.keepNn hk
  have hk0 := hk0.trans hk.nn
  clear hk
  refine sr0 hf hM [6] [{}, {}, {}, {}] (env' := [(6, .val (.bool true))]) (ob := [true = true, true = true]) (fun B => by as_aux_lemma => kernel_rfl) rfl (Ac rfl (Ao rfl)) ?_
  clear hf; intro a hf
  refine wpList_nil ?_
  refine hK6 _ _ ?_
  refine wp_ret ?_
  refine sxret (fn := Tryd.f10) hf hM [] (l := [.bool true]) (M' := [⟨B1, 62, [.int .i64 k, .int .i64 x, .int .i64 y]⟩, ⟨B4, 62, [.int .i64 0, .int .i64 0, .int .i64 0]⟩, ⟨B6, 62, [.int .i64 0, .int .i64 0, .int .i64 0]⟩]) (d' := false) (ob := []) (by kernel_rfl) (fun B => ⟨B, by as_aux_lemma => kernel_rfl⟩) rfl An ?_
  show (.bool true : Value) = .bool true ∧ Keep Nn w w7
  refine ⟨congrArg Value.bool ?_, hk0⟩
  first | rfl | (simp; done) | (simp_all [mvPos]; done)

set_option maxRecDepth 10000 in
set_option maxHeartbeats 4000000 in
theorem smo_out (E : Nat → Addr) (k x y : Int) (dx dy : Int) (w : World) (hn0 : (mvPos k x y) = true) (hn1 : (mvIn dx dy) = true) (hn2 : (vrange ⟨k, (x + dx), (y + dy)⟩) = false) (hdx : -9223372036854775808 ≤ dx ∧ dx ≤ 9223372036854775807) (hdy : -9223372036854775808 ≤ dy ∧ dy ≤ 9223372036854775807) (hG : Errs [0, 1, 2, 3, 4, 5, 6, 7, 8, 9] w 185 E) :
    Calls Tryd.prog 10 #[.agg #[.int .i64 k, .int .i64 x, .int .i64 y], .int .i64 dx, .int .i64 dy] w (Ret fun v w' => v = .bool true ∧ Keep Nn w w') := by
  refine sxenter (n := 36) (args := [.agg #[.int .i64 k, .int .i64 x, .int .i64 y], .int .i64 dx, .int .i64 dy]) Tryd.func10 rfl rfl rfl fun a hf => ?_
  replace hf : Fr 36 [(0, .val (.agg #[.int .i64 k, .int .i64 x, .int .i64 y])), (1, .val (.int .i64 dx)), (2, .val (.int .i64 dy))] a := hf
  have hM : MemOk [] w := MemOk.nil w
  have hk0 : Keep Nn w w := Keep.refl _ _
  refine wp_seq_k (fun K1 hK1 => ?_)
  refine wp_region_lit ?_
  refine sr hf hM [3, 1, 2] [{ os := [.nw] }, {}] (env' := fun B1 => [(3, .val (.pointer (some ⟨B1, 0, none⟩))), (1, .val (.int .i64 dx)), (2, .val (.int .i64 dy))]) (M' := fun B1 => [⟨B1, 62, [.int .i64 k, .int .i64 x, .int .i64 y]⟩]) (ob := fun B1 => []) (fun B => by as_aux_lemma => kernel_rfl) (fun B1 => An) ?_
  clear hf hM; intro a w1 B1 hf hM hB hk
  have hbB1 : w.heap.size ≤ B1 := by have := hk0.size; omega
  have hk0 := hk0.then hk (by intro i _ h; cases h)
  clear hk hB
  refine wpList_nil ?_
  refine hK1 _ _ ?_
  refine wp_seq_k (fun K2 hK2 => ?_)
  refine wp_seq_k (fun K3 hK3 => ?_)
  refine wp_region_lit ?_
  refine sxcall hf rfl rfl rfl rfl (g := 29) (vs := []) (ob := []) (by as_aux_lemma => kernel_rfl) An enters29 (alive6 E w1  (hG.keep hk0 (fun _ h => h))) ?_
  clear hf; rintro _ w2 a ⟨rfl, hk⟩ hf
  have hM := hM.keepNn hk
  have hk0 := hk0.trans hk.nn
  clear hk
  refine sr0 hf hM [12, 3, 1, 2] [{}] (env' := [(12, .val (.bool false)), (3, .val (.pointer (some ⟨B1, 0, none⟩))), (1, .val (.int .i64 dx)), (2, .val (.int .i64 dy))]) (ob := []) (fun B => by as_aux_lemma => kernel_rfl) rfl An ?_
  clear hf; intro a hf
  refine wpList_nil ?_
  refine hK3 _ _ ?_
  refine sxcond hf (b := false) (by kernel_rfl) (fun h => by cases h) (fun _ => ?_)
  refine wp_skip ?_
  refine hK2 _ _ ?_
  refine wp_seq_k (fun K4 hK4 => ?_)
  refine wp_region_lit ?_
  refine sr0 hf hM [16, 15, 14, 3, 1, 2] [{ os := [.ld 0 0, .ld 0 1, .ld 0 2] }, {}, {}] (env' := [(16, .val (.int .i64 dy)), (15, .val (.int .i64 dx)), (14, .val (.agg #[.int .i64 k, .int .i64 x, .int .i64 y])), (3, .val (.pointer (some ⟨B1, 0, none⟩))), (1, .val (.int .i64 dx)), (2, .val (.int .i64 dy))]) (ob := [Ad B1 0, Ad B1 1, Ad B1 2]) (fun B => by as_aux_lemma => kernel_rfl) rfl (Ac (ad _ _) (Ac (ad _ _) (Ao (ad _ _)))) ?_
  clear hf; intro a hf
  refine sxcall hf rfl rfl rfl rfl (g := 30) (vs := [.agg #[.int .i64 k, .int .i64 x, .int .i64 y], .int .i64 dx, .int .i64 dy]) (ob := []) (by as_aux_lemma => kernel_rfl) An enters30 (smv_out E k x y dx dy w2 hn0 hn1 hn2 (by omega) (by omega) (hG.keep hk0 (fun _ h => h))) ?_
  clear hf; rintro _ w3 a ⟨rfl, hk⟩ hf
  have hM := hM.keepNn hk
  have hk0 := hk0.trans hk.nn
  clear hk
  refine sr hf hM [8, 7, 3, 1, 2] [{}, {}, {}, { os := [.nw] }, { os := [.st 1 0, .st 1 1, .st 1 2] }, {}] (env' := fun B4 => [(8, .val (.iface 185 (.pointer (some (E 0))))), (7, .val (.pointer (some ⟨B4, 0, none⟩))), (3, .val (.pointer (some ⟨B1, 0, none⟩))), (1, .val (.int .i64 dx)), (2, .val (.int .i64 dy))]) (M' := fun B4 => [⟨B1, 62, [.int .i64 k, .int .i64 x, .int .i64 y]⟩, ⟨B4, 62, [.int .i64 0, .int .i64 0, .int .i64 0]⟩]) (ob := fun B4 => [Ad B4 0, Ad B4 1, Ad B4 2]) (fun B => by as_aux_lemma => kernel_rfl) (fun B4 => (Ac (ad _ _) (Ac (ad _ _) (Ao (ad _ _))))) ?_
  clear hf hM; intro a w4 B4 hf hM hB hk
  have hbB4 : w.heap.size ≤ B4 := by have := hk0.size; omega
  have hk0 := hk0.then hk (by intro i hi h; simp only [Is, Mem.names, List.map_cons, List.map_nil, List.mem_cons, List.not_mem_nil, or_false] at h; omega)
  clear hk hB
  refine wpList_nil ?_
  refine hK4 _ _ ?_
  refine wp_seq_k (fun K5 hK5 => ?_)
  refine wp_region_lit ?_
  refine sr0 hf hM [23, 22, 21, 8, 7] [{ os := [.ld 0 0, .ld 0 1, .ld 0 2] }, {}, {}] (env' := [(23, .val (.int .i64 dy)), (22, .val (.int .i64 dx)), (21, .val (.agg #[.int .i64 k, .int .i64 x, .int .i64 y])), (8, .val (.iface 185 (.pointer (some (E 0))))), (7, .val (.pointer (some ⟨B4, 0, none⟩)))]) (ob := [Ad B1 0, Ad B1 1, Ad B1 2]) (fun B => by as_aux_lemma => kernel_rfl) rfl (Ac (ad _ _) (Ac (ad _ _) (Ao (ad _ _)))) ?_
  clear hf; intro a hf
  refine sxcall hf rfl rfl rfl rfl (g := 49) (vs := [.agg #[.int .i64 k, .int .i64 x, .int .i64 y], .int .i64 dx, .int .i64 dy]) (ob := []) (by as_aux_lemma => kernel_rfl) An enters49 (rmv_out k x y dx dy w4 hn0 hn1 hn2 (by omega) (by omega)) ?_
  clear hf; rintro _ w5 a ⟨rfl, hk⟩ hf
  have hM := hM.keepNn hk
  have hk0 := hk0.trans hk.nn
  clear hk
  refine sr hf hM [10, 9, 8, 7] [{}, {}, {}, { os := [.nw] }, { os := [.st 2 0, .st 2 1, .st 2 2] }, {}] (env' := fun B6 => [(10, .val (.int .i64 1)), (9, .val (.pointer (some ⟨B6, 0, none⟩))), (8, .val (.iface 185 (.pointer (some (E 0))))), (7, .val (.pointer (some ⟨B4, 0, none⟩)))]) (M' := fun B6 => [⟨B1, 62, [.int .i64 k, .int .i64 x, .int .i64 y]⟩, ⟨B4, 62, [.int .i64 0, .int .i64 0, .int .i64 0]⟩, ⟨B6, 62, [.int .i64 0, .int .i64 0, .int .i64 0]⟩]) (ob := fun B6 => [Ad B6 0, Ad B6 1, Ad B6 2]) (fun B => by as_aux_lemma => kernel_rfl) (fun B6 => (Ac (ad _ _) (Ac (ad _ _) (Ao (ad _ _))))) ?_
  clear hf hM; intro a w6 B6 hf hM hB hk
  have hbB6 : w.heap.size ≤ B6 := by have := hk0.size; omega
  have hk0 := hk0.then hk (by intro i hi h; simp only [Is, Mem.names, List.map_cons, List.map_nil, List.mem_cons, List.not_mem_nil, or_false] at h; omega)
  clear hk hB
  refine wpList_nil ?_
  refine hK5 _ _ ?_
  refine wp_seq_k (fun K6 hK6 => ?_)
  refine wp_region_lit ?_
  refine sr0 hf hM [31, 30, 10] [{ os := [.ld 1 0, .ld 1 1, .ld 1 2] }, { os := [.ld 2 0, .ld 2 1, .ld 2 2] }, { sp := true, hint := some (.bool true) }, {}, {}] (env' := [(31, .val (.iface 185 (.pointer (some (E 0))))), (30, .val (.bool true)), (10, .val (.int .i64 1))]) (ob := [Ad B4 0, Ad B4 1, Ad B4 2, Ad B6 0, Ad B6 1, Ad B6 2, (.bool (((0 : Int) == 0) && (((0 : Int) == 0) && (((0 : Int) == 0) && true))) : Value) = (.bool true : Value), true = true]) (fun B => by as_aux_lemma => kernel_rfl) rfl (Ac (ad _ _) (Ac (ad _ _) (Ac (ad _ _) (Ac (ad _ _) (Ac (ad _ _) (Ac (ad _ _) (Ac (by simp) (Ao rfl)))))))) ?_
  clear hf; intro a hf
  refine sxcallg hf rfl rfl rfl rfl rfl (g := 17) (vs := [.iface 185 (.pointer (some (E 0)))]) (ob := []) (by as_aux_lemma => kernel_rfl) An enters17 (num_err E 0 w6  (by decide) (hG.keep hk0 (fun _ h => h))) ?_
  clear hf; rintro _ w7 a ⟨rfl, hk⟩ hf
  have hM := hM.keepNn hk
  have hk0 := hk0.trans hk.nn
  clear hk
  refine sr0 hf hM [6] [{}, {}, {}, {}] (env' := [(6, .val (.bool true))]) (ob := [true = true, true = true]) (fun B => by as_aux_lemma => kernel_rfl) rfl (Ac rfl (Ao rfl)) ?_
  clear hf; intro a hf
  refine wpList_nil ?_
  refine hK6 _ _ ?_
  refine wp_ret ?_
  refine sxret (fn := Tryd.f10) hf hM [] (l := [.bool true]) (M' := [⟨B1, 62, [.int .i64 k, .int .i64 x, .int .i64 y]⟩, ⟨B4, 62, [.int .i64 0, .int .i64 0, .int .i64 0]⟩, ⟨B6, 62, [.int .i64 0, .int .i64 0, .int .i64 0]⟩]) (d' := false) (ob := []) (by kernel_rfl) (fun B => ⟨B, by as_aux_lemma => kernel_rfl⟩) rfl An ?_
  show (.bool true : Value) = .bool true ∧ Keep Nn w w7
  refine ⟨congrArg Value.bool ?_, hk0⟩
  first | rfl | (simp; done) | (simp_all [mvPos]; done)

set_option maxRecDepth 10000 in
set_option maxHeartbeats 4000000 in
theorem smo_ok (E : Nat → Addr) (k x y : Int) (dx dy : Int) (w : World) (hn0 : (mvPos k x y) = true) (hn1 : (mvIn dx dy) = true) (hn2 : (vrange ⟨k, (x + dx), (y + dy)⟩) = true) (hdx : -9223372036854775808 ≤ dx ∧ dx ≤ 9223372036854775807) (hdy : -9223372036854775808 ≤ dy ∧ dy ≤ 9223372036854775807) (hG : Errs [0, 1, 2, 3, 4, 5, 6, 7, 8, 9] w 185 E) :
    Calls Tryd.prog 10 #[.agg #[.int .i64 k, .int .i64 x, .int .i64 y], .int .i64 dx, .int .i64 dy] w (Ret fun v w' => v = .bool true ∧ Keep Nn w w') := by
  refine sxenter (n := 36) (args := [.agg #[.int .i64 k, .int .i64 x, .int .i64 y], .int .i64 dx, .int .i64 dy]) Tryd.func10 rfl rfl rfl fun a hf => ?_
  replace hf : Fr 36 [(0, .val (.agg #[.int .i64 k, .int .i64 x, .int .i64 y])), (1, .val (.int .i64 dx)), (2, .val (.int .i64 dy))] a := hf
  have hM : MemOk [] w := MemOk.nil w
  have hk0 : Keep Nn w w := Keep.refl _ _
  have hps := hn0
  simp only [mvPos, Bool.and_eq_true, decide_eq_true_eq] at hps
  obtain ⟨⟨hk_, hkk⟩, hrr⟩ := hps
  refine wp_seq_k (fun K1 hK1 => ?_)
  refine wp_region_lit ?_
  refine sr hf hM [3, 1, 2] [{ os := [.nw] }, {}] (env' := fun B1 => [(3, .val (.pointer (some ⟨B1, 0, none⟩))), (1, .val (.int .i64 dx)), (2, .val (.int .i64 dy))]) (M' := fun B1 => [⟨B1, 62, [.int .i64 k, .int .i64 x, .int .i64 y]⟩]) (ob := fun B1 => []) (fun B => by as_aux_lemma => kernel_rfl) (fun B1 => An) ?_
  clear hf hM; intro a w1 B1 hf hM hB hk
  have hbB1 : w.heap.size ≤ B1 := by have := hk0.size; omega
  have hk0 := hk0.then hk (by intro i _ h; cases h)
  clear hk hB
  refine wpList_nil ?_
  refine hK1 _ _ ?_
  refine wp_seq_k (fun K2 hK2 => ?_)
  refine wp_seq_k (fun K3 hK3 => ?_)
  refine wp_region_lit ?_
  refine sxcall hf rfl rfl rfl rfl (g := 29) (vs := []) (ob := []) (by as_aux_lemma => kernel_rfl) An enters29 (alive6 E w1  (hG.keep hk0 (fun _ h => h))) ?_
  clear hf; rintro _ w2 a ⟨rfl, hk⟩ hf
  have hM := hM.keepNn hk
  have hk0 := hk0.trans hk.nn
  clear hk
  refine sr0 hf hM [12, 3, 1, 2] [{}] (env' := [(12, .val (.bool false)), (3, .val (.pointer (some ⟨B1, 0, none⟩))), (1, .val (.int .i64 dx)), (2, .val (.int .i64 dy))]) (ob := []) (fun B => by as_aux_lemma => kernel_rfl) rfl An ?_
  clear hf; intro a hf
  refine wpList_nil ?_
  refine hK3 _ _ ?_
  refine sxcond hf (b := false) (by kernel_rfl) (fun h => by cases h) (fun _ => ?_)
  refine wp_skip ?_
  refine hK2 _ _ ?_
  refine wp_seq_k (fun K4 hK4 => ?_)
  refine wp_region_lit ?_
  refine sr0 hf hM [16, 15, 14, 3, 1, 2] [{ os := [.ld 0 0, .ld 0 1, .ld 0 2] }, {}, {}] (env' := [(16, .val (.int .i64 dy)), (15, .val (.int .i64 dx)), (14, .val (.agg #[.int .i64 k, .int .i64 x, .int .i64 y])), (3, .val (.pointer (some ⟨B1, 0, none⟩))), (1, .val (.int .i64 dx)), (2, .val (.int .i64 dy))]) (ob := [Ad B1 0, Ad B1 1, Ad B1 2]) (fun B => by as_aux_lemma => kernel_rfl) rfl (Ac (ad _ _) (Ac (ad _ _) (Ao (ad _ _)))) ?_
  clear hf; intro a hf
  refine sxcall hf rfl rfl rfl rfl (g := 30) (vs := [.agg #[.int .i64 k, .int .i64 x, .int .i64 y], .int .i64 dx, .int .i64 dy]) (ob := []) (by as_aux_lemma => kernel_rfl) An enters30 (smv_ok E k x y dx dy w2 hn0 hn1 hn2 (by omega) (by omega) (hG.keep hk0 (fun _ h => h))) ?_
  clear hf; rintro _ w3 a ⟨rfl, hk⟩ hf
  have hM := hM.keepNn hk
  have hk0 := hk0.trans hk.nn
  clear hk
  refine sr hf hM [8, 7, 3, 1, 2] [{}, {}, {}, { os := [.nw] }, { os := [.st 1 0, .st 1 1, .st 1 2] }, {}] (env' := fun B4 => [(8, .val (.nilIface)), (7, .val (.pointer (some ⟨B4, 0, none⟩))), (3, .val (.pointer (some ⟨B1, 0, none⟩))), (1, .val (.int .i64 dx)), (2, .val (.int .i64 dy))]) (M' := fun B4 => [⟨B1, 62, [.int .i64 k, .int .i64 x, .int .i64 y]⟩, ⟨B4, 62, [.int .i64 k, .int .i64 (x + dx), .int .i64 (y + dy)]⟩]) (ob := fun B4 => [Ad B4 0, Ad B4 1, Ad B4 2]) (fun B => by as_aux_lemma => kernel_rfl) (fun B4 => (Ac (ad _ _) (Ac (ad _ _) (Ao (ad _ _))))) ?_
  clear hf hM; intro a w4 B4 hf hM hB hk
  have hbB4 : w.heap.size ≤ B4 := by have := hk0.size; omega
  have hk0 := hk0.then hk (by intro i hi h; simp only [Is, Mem.names, List.map_cons, List.map_nil, List.mem_cons, List.not_mem_nil, or_false] at h; omega)
  clear hk hB
  refine wpList_nil ?_
  refine hK4 _ _ ?_
  refine wp_seq_k (fun K5 hK5 => ?_)
  refine wp_region_lit ?_
  refine sr0 hf hM [23, 22, 21, 8, 7] [{ os := [.ld 0 0, .ld 0 1, .ld 0 2] }, {}, {}] (env' := [(23, .val (.int .i64 dy)), (22, .val (.int .i64 dx)), (21, .val (.agg #[.int .i64 k, .int .i64 x, .int .i64 y])), (8, .val (.nilIface)), (7, .val (.pointer (some ⟨B4, 0, none⟩)))]) (ob := [Ad B1 0, Ad B1 1, Ad B1 2]) (fun B => by as_aux_lemma => kernel_rfl) rfl (Ac (ad _ _) (Ac (ad _ _) (Ao (ad _ _)))) ?_
  clear hf; intro a hf
  refine sxcall hf rfl rfl rfl rfl (g := 49) (vs := [.agg #[.int .i64 k, .int .i64 x, .int .i64 y], .int .i64 dx, .int .i64 dy]) (ob := []) (by as_aux_lemma => kernel_rfl) An enters49 (rmv_ok k x y dx dy w4 hn0 hn1 hn2 (by omega) (by omega)) ?_
  clear hf; rintro _ w5 a ⟨rfl, hk⟩ hf
  have hM := hM.keepNn hk
  have hk0 := hk0.trans hk.nn
  clear hk
  refine sr hf hM [10, 9, 8, 7] [{}, {}, {}, { os := [.nw] }, { os := [.st 2 0, .st 2 1, .st 2 2] }, {}] (env' := fun B6 => [(10, .val (.int .i64 0)), (9, .val (.pointer (some ⟨B6, 0, none⟩))), (8, .val (.nilIface)), (7, .val (.pointer (some ⟨B4, 0, none⟩)))]) (M' := fun B6 => [⟨B1, 62, [.int .i64 k, .int .i64 x, .int .i64 y]⟩, ⟨B4, 62, [.int .i64 k, .int .i64 (x + dx), .int .i64 (y + dy)]⟩, ⟨B6, 62, [.int .i64 0, .int .i64 (x + dx), .int .i64 (y + dy)]⟩]) (ob := fun B6 => [Ad B6 0, Ad B6 1, Ad B6 2]) (fun B => by as_aux_lemma => kernel_rfl) (fun B6 => (Ac (ad _ _) (Ac (ad _ _) (Ao (ad _ _))))) ?_
  clear hf hM; intro a w6 B6 hf hM hB hk
  have hbB6 : w.heap.size ≤ B6 := by have := hk0.size; omega
  have hk0 := hk0.then hk (by intro i hi h; simp only [Is, Mem.names, List.map_cons, List.map_nil, List.mem_cons, List.not_mem_nil, or_false] at h; omega)
  clear hk hB
  refine wpList_nil ?_
  refine hK5 _ _ ?_
  refine wp_seq_k (fun K6 hK6 => ?_)
  refine wp_region_lit ?_
  refine sr0 hf hM [30, 10, 8] [{ os := [.ld 1 0, .ld 1 1, .ld 1 2] }, { os := [.ld 2 0, .ld 2 1, .ld 2 2] }, { sp := true, hint := some (.bool ((k : Int) == 0)) }, {}] (env' := [(30, .val (.bool ((k : Int) == 0))), (10, .val (.int .i64 0)), (8, .val (.nilIface))]) (ob := [Ad B4 0, Ad B4 1, Ad B4 2, Ad B6 0, Ad B6 1, Ad B6 2, (.bool (((k : Int) == 0) && ((((x + dx) : Int) == (x + dx)) && ((((y + dy) : Int) == (y + dy)) && true))) : Value) = (.bool ((k : Int) == 0) : Value)]) (fun B => by as_aux_lemma => kernel_rfl) rfl (Ac (ad _ _) (Ac (ad _ _) (Ac (ad _ _) (Ac (ad _ _) (Ac (ad _ _) (Ac (ad _ _) (Ao (by simp)))))))) ?_
  clear hf; intro a hf
  rcases Bool.eq_false_or_eq_true ((k : Int) == 0) with hg1 | hg1
  · have hg1r := hg1
    have hf := hf.prune [30, 10, 8]
    replace hf : Fr 36 [(30, .val (.bool ((k : Int) == 0))), (10, .val (.int .i64 0)), (8, .val (.nilIface))] a := hf
    replace hf := hf.conv (env' := [(30, .val (.bool true)), (10, .val (.int .i64 0)), (8, .val (.nilIface))]) (Ac (congrArg Value.bool hg1r) (Ac rfl (Ao rfl)))
    try simp only [Bool.or_eq_true, Bool.and_eq_true, Bool.not_eq_true', Bool.not_eq_false', Bool.or_eq_false_iff, Bool.and_eq_false_iff, decide_eq_true_eq, decide_eq_false_iff_not, beq_iff_eq, bne_iff_ne, beq_eq_false_iff_ne, bne_eq_false_iff_eq, Bool.and_true, Bool.true_and, ne_eq] at hg1
    refine sr0 hf hM [31, 30, 10] [{}] (env' := [(31, .val (.nilIface)), (30, .val (.bool true)), (10, .val (.int .i64 0))]) (ob := [true = true]) (fun B => by as_aux_lemma => kernel_rfl) rfl (Ao rfl) ?_
    clear hf; intro a hf
    refine sxcallg hf rfl rfl rfl rfl rfl (g := 17) (vs := [.nilIface]) (ob := []) (by as_aux_lemma => kernel_rfl) An enters17 (num_nil  w6  ) ?_
    clear hf; rintro _ w7 a ⟨rfl, hk⟩ hf
    have hM := hM.keepNn hk
    have hk0 := hk0.trans hk.nn
    clear hk
    refine sr0 hf hM [6] [{}, {}, {}, {}] (env' := [(6, .val (.bool true))]) (ob := [true = true, true = true]) (fun B => by as_aux_lemma => kernel_rfl) rfl (Ac rfl (Ao rfl)) ?_
    clear hf; intro a hf
    refine wpList_nil ?_
    refine hK6 _ _ ?_
    refine wp_ret ?_
    refine sxret (fn := Tryd.f10) hf hM [] (l := [.bool true]) (M' := [⟨B1, 62, [.int .i64 k, .int .i64 x, .int .i64 y]⟩, ⟨B4, 62, [.int .i64 k, .int .i64 (x + dx), .int .i64 (y + dy)]⟩, ⟨B6, 62, [.int .i64 0, .int .i64 (x + dx), .int .i64 (y + dy)]⟩]) (d' := false) (ob := []) (by kernel_rfl) (fun B => ⟨B, by as_aux_lemma => kernel_rfl⟩) rfl An ?_
    show (.bool true : Value) = .bool true ∧ Keep Nn w w7
    refine ⟨congrArg Value.bool ?_, hk0⟩
    first | rfl | (simp; done) | (simp_all [mvPos]; done)
  · have hg1r := hg1
    have hf := hf.prune [30, 10, 8]
    replace hf : Fr 36 [(30, .val (.bool ((k : Int) == 0))), (10, .val (.int .i64 0)), (8, .val (.nilIface))] a := hf
    replace hf := hf.conv (env' := [(30, .val (.bool false)), (10, .val (.int .i64 0)), (8, .val (.nilIface))]) (Ac (congrArg Value.bool hg1r) (Ac rfl (Ao rfl)))
    try simp only [Bool.or_eq_true, Bool.and_eq_true, Bool.not_eq_true', Bool.not_eq_false', Bool.or_eq_false_iff, Bool.and_eq_false_iff, decide_eq_true_eq, decide_eq_false_iff_not, beq_iff_eq, bne_iff_ne, beq_eq_false_iff_ne, bne_eq_false_iff_eq, Bool.and_true, Bool.true_and, ne_eq] at hg1
    refine sr0 hf hM [31, 30, 10] [{ g := .off }] (env' := [(31, .val (undef)), (30, .val (.bool false)), (10, .val (.int .i64 0))]) (ob := [false = !true]) (fun B => by as_aux_lemma => kernel_rfl) rfl (Ao rfl) ?_
    clear hf; intro a hf
    refine sr0 hf hM [6] [{ g := .off }, { g := .off }, { g := .off }, {}, {}] (env' := [(6, .val (.bool false))]) (ob := [false = !true, false = !true, false = !true]) (fun B => by as_aux_lemma => kernel_rfl) rfl (Ac rfl (Ac rfl (Ao rfl))) ?_
    clear hf; intro a hf
    refine wpList_nil ?_
    refine hK6 _ _ ?_
    refine wp_ret ?_
    refine sxret (fn := Tryd.f10) hf hM [] (l := [.bool false]) (M' := [⟨B1, 62, [.int .i64 k, .int .i64 x, .int .i64 y]⟩, ⟨B4, 62, [.int .i64 k, .int .i64 (x + dx), .int .i64 (y + dy)]⟩, ⟨B6, 62, [.int .i64 0, .int .i64 (x + dx), .int .i64 (y + dy)]⟩]) (d' := false) (ob := []) (by kernel_rfl) (fun B => ⟨B, by as_aux_lemma => kernel_rfl⟩) rfl An ?_
    show (.bool false : Value) = .bool true ∧ Keep Nn w w6
    refine ⟨congrArg Value.bool ?_, hk0⟩
    first | rfl | (simp; done) | (simp_all [mvPos]; done)

theorem schemaMoves_any (E : Nat → Addr) (k x y : Int) (dx dy : Int) (w : World) (hdx : -9223372036854775808 ≤ dx ∧ dx ≤ 9223372036854775807) (hdy : -9223372036854775808 ≤ dy ∧ dy ≤ 9223372036854775807) (hG : Errs [0, 1, 2, 3, 4, 5, 6, 7, 8, 9] w 185 E) :
    Calls Tryd.prog 10 #[.agg #[.int .i64 k, .int .i64 x, .int .i64 y], .int .i64 dx, .int .i64 dy] w (Ret fun v w' => v = .bool true ∧ Keep Nn w w') := by
  rcases Bool.eq_false_or_eq_true (mvPos k x y) with h | h
  · rcases Bool.eq_false_or_eq_true (mvIn dx dy) with h0 | h0
    · rcases Bool.eq_false_or_eq_true (vrange ⟨k, (x + dx), (y + dy)⟩) with h1 | h1
      · exact smo_ok E k x y dx dy w h h0 h1 hdx hdy hG
      · exact smo_out E k x y dx dy w h h0 h1 hdx hdy hG
    · exact smo_far E k x y dx dy w h h0 hdx hdy hG
  · exact smo_kind E k x y dx dy w h hdx hdy hG
end Go.Proofs.YtifcgjnknikjkaaDoor
