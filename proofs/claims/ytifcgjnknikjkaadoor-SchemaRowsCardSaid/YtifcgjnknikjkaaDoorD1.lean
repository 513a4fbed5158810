/- laws of layer 6 -/
import Derived.Test.YtifcgjnknikjkaaDoorC6
namespace Go.Proofs.YtifcgjnknikjkaaDoor
open Go.Px
set_option linter.unusedVariables false
set_option linter.unusedSimpArgs false
theorem enters17 : enters Tryd.prog 17 := ⟨_, Tryd.func17, by kernel_rfl, rfl⟩
theorem enters29 : enters Tryd.prog 29 := ⟨_, Tryd.func29, by kernel_rfl, rfl⟩

set_option maxRecDepth 10000 in
set_option maxHeartbeats 4000000 in
theorem sck_kind (E : Nat → Addr) (k x y : Int) (w : World) (hn0 : (vkind ⟨k, x, y⟩) = false) (hG : Errs [0, 1, 2, 3, 4, 5, 6, 7, 8, 9] w 185 E) :
    Calls Tryd.prog 7 #[.agg #[.int .i64 k, .int .i64 x, .int .i64 y]] w (Ret fun v w' => v = .bool true ∧ Keep Nn w w') := by
  refine sxenter (n := 12) (args := [.agg #[.int .i64 k, .int .i64 x, .int .i64 y]]) Tryd.func7 rfl rfl rfl fun a hf => ?_
  replace hf : Fr 12 [(0, .val (.agg #[.int .i64 k, .int .i64 x, .int .i64 y]))] a := hf
  have hM : MemOk [] w := MemOk.nil w
  have hk0 : Keep Nn w w := Keep.refl _ _
  have hvc := vcheck_kind hn0
  refine wp_seq_k (fun K1 hK1 => ?_)
  refine wp_region_lit ?_
  refine sr hf hM [2, 1] [{ os := [.nw] }, {}] (env' := fun B1 => [(2, .val (.bool false)), (1, .val (.pointer (some ⟨B1, 0, none⟩)))]) (M' := fun B1 => [⟨B1, 62, [.int .i64 k, .int .i64 x, .int .i64 y]⟩]) (ob := fun B1 => []) (fun B => by as_aux_lemma => kernel_rfl) (fun B1 => An) ?_
  clear hf hM; intro a w1 B1 hf hM hB hk
  have hbB1 : w.heap.size ≤ B1 := by have := hk0.size; omega
  have hk0 := hk0.then hk (by intro i _ h; cases h)
  clear hk hB
  refine wpList_nil ?_
  refine hK1 _ _ ?_
  refine wp_seq_k (fun K2 hK2 => ?_)
  replace hM := hM.drew; replace hk0 := hk0.drew
  obtain ⟨C1, hC1d⟩ : ∃ C : World → Prop, C = fun w' => MemOk [⟨B1, 62, [.int .i64 k, .int .i64 x, .int .i64 y]⟩] w' ∧ Keep Nn w w' ∧ True := ⟨_, rfl⟩
  have hC1i : ∀ w', (MemOk [⟨B1, 62, [.int .i64 k, .int .i64 x, .int .i64 y]⟩] w' ∧ Keep Nn w w' ∧ True) → C1 w' := fun w' h => by rw [hC1d]; exact h
  have hC1e : ∀ w', C1 w' → (MemOk [⟨B1, 62, [.int .i64 k, .int .i64 x, .int .i64 y]⟩] w' ∧ Keep Nn w w' ∧ True) := fun w' h => by rw [hC1d] at h; exact h
  refine sxdraw (C := C1) (.leaf [(0, false), (1, true), (2, true), (5, true), (3, false), (4, false), (6, false), (7, true), (8, true), (9, true)]) (by kernel_rfl) (by kernel_rfl) (by as_aux_lemma => kernel_rfl) rfl (by as_aux_lemma => kernel_rfl) (by kernel_rfl) (hC1i _ ⟨hM.sub (.cons_cons _ .slnil), hk0, trivial⟩) ?_
  refine sxleaf ?_
  have hC := (hC1i _ ⟨hM.sub (.cons_cons _ .slnil), hk0, trivial⟩)
  refine scstep rfl ?_
  refine sxcall hf rfl rfl rfl rfl (g := 29) (vs := []) (ob := []) (by as_aux_lemma => kernel_rfl) An enters29 (alive6 E w1.drew  (hG.keep hk0 (fun _ h => h))) ?_
  clear hf; rintro _ w2 a ⟨rfl, hk⟩ hf
  have hM := hM.keepNn hk
  have hk0 := hk0.trans hk.nn
  clear hk
  have hC := (hC1i _ ⟨hM.sub (.cons_cons _ .slnil), hk0, trivial⟩)
  refine scdone hC ?_
  refine sc0 hf hC (fun w' h => (hC1e w' h).1) [8, 5, 4, 2] [{}, { os := [.ld 0 0, .ld 0 1, .ld 0 2] }, { os := [.ld 0 0, .ld 0 1, .ld 0 2] }] (env' := [(8, .val (.agg #[.int .i64 k, .int .i64 x, .int .i64 y])), (5, .val (.agg #[.int .i64 k, .int .i64 x, .int .i64 y])), (4, .val (.bool true)), (2, .val (.bool false))]) (ob := [true = true, Ad B1 0, Ad B1 1, Ad B1 2, true = true, Ad B1 0, Ad B1 1, Ad B1 2]) (by as_aux_lemma => kernel_rfl) rfl (Ac rfl (Ac (ad _ _) (Ac (ad _ _) (Ac (ad _ _) (Ac rfl (Ac (ad _ _) (Ac (ad _ _) (Ao (ad _ _))))))))) ?_
  clear hf; intro a hf
  refine scstep rfl ?_
  refine sxcallg hf rfl rfl rfl rfl rfl (g := 31) (vs := [.agg #[.int .i64 k, .int .i64 x, .int .i64 y]]) (ob := []) (by as_aux_lemma => kernel_rfl) An enters31 (scheck_kind E k x y w2 hn0 (hG.keep hk0 (fun _ h => h))) ?_
  clear hf; rintro _ w3 a ⟨rfl, hk⟩ hf
  have hM := hM.keepNn hk
  have hk0 := hk0.trans hk.nn
  clear hk
  have hC := (hC1i _ ⟨hM.sub (.cons_cons _ .slnil), hk0, trivial⟩)
  refine scdone hC ?_
  refine scstep rfl ?_
  refine sxcallg hf rfl rfl rfl rfl rfl (g := 17) (vs := [.iface 185 (.pointer (some (E 4)))]) (ob := []) (by as_aux_lemma => kernel_rfl) An enters17 (num_err E 4 w3  (by decide) (hG.keep hk0 (fun _ h => h))) ?_
  clear hf; rintro _ w4 a ⟨rfl, hk⟩ hf
  have hM := hM.keepNn hk
  have hk0 := hk0.trans hk.nn
  clear hk
  have hC := (hC1i _ ⟨hM.sub (.cons_cons _ .slnil), hk0, trivial⟩)
  refine scdone hC ?_
  refine scstep rfl ?_
  refine sxcallg hf rfl rfl rfl rfl rfl (g := 34) (vs := [.agg #[.int .i64 k, .int .i64 x, .int .i64 y]]) (ob := []) (by as_aux_lemma => kernel_rfl) An enters34 (rcheck k x y w4  ) ?_
  clear hf; rintro _ w5 a ⟨rfl, hk⟩ hf
  have hM := hM.keepNn hk
  have hk0 := hk0.trans hk.nn
  clear hk
  have hC := (hC1i _ ⟨hM.sub (.cons_cons _ .slnil), hk0, trivial⟩)
  refine scdone hC ?_
  refine sc0 hf hC (fun w' h => (hC1e w' h).1) [2] [{}, {}, {}] (env' := [(2, .val (.bool ((5 : Int) == (vcheck ⟨k, x, y⟩))))]) (ob := [true = true]) (by as_aux_lemma => kernel_rfl) rfl (Ao rfl) ?_
  clear hf; intro a hf
  clear hC
  show K2 _ _
  refine hK2 _ _ ?_
  refine wp_ret ?_
  refine sxret (fn := Tryd.f7) hf hM [] (l := [.bool ((5 : Int) == (vcheck ⟨k, x, y⟩))]) (M' := [⟨B1, 62, [.int .i64 k, .int .i64 x, .int .i64 y]⟩]) (d' := false) (ob := []) (by kernel_rfl) (fun B => ⟨B, by as_aux_lemma => kernel_rfl⟩) rfl An ?_
  show (.bool ((5 : Int) == (vcheck ⟨k, x, y⟩)) : Value) = .bool true ∧ Keep Nn w w5
  refine ⟨congrArg Value.bool ?_, hk0⟩
  simp [hvc]

set_option maxRecDepth 10000 in
set_option maxHeartbeats 4000000 in
theorem sck_range (E : Nat → Addr) (k x y : Int) (w : World) (hn0 : (vkind ⟨k, x, y⟩) = true) (hn1 : (vrange ⟨k, x, y⟩) = false) (hG : Errs [0, 1, 2, 3, 4, 5, 6, 7, 8, 9] w 185 E) :
    Calls Tryd.prog 7 #[.agg #[.int .i64 k, .int .i64 x, .int .i64 y]] w (Ret fun v w' => v = .bool true ∧ Keep Nn w w') := by
  refine sxenter (n := 12) (args := [.agg #[.int .i64 k, .int .i64 x, .int .i64 y]]) Tryd.func7 rfl rfl rfl fun a hf => ?_
  replace hf : Fr 12 [(0, .val (.agg #[.int .i64 k, .int .i64 x, .int .i64 y]))] a := hf
  have hM : MemOk [] w := MemOk.nil w
  have hk0 : Keep Nn w w := Keep.refl _ _
  have hvc := vcheck_range hn0 hn1
  refine wp_seq_k (fun K1 hK1 => ?_)
  refine wp_region_lit ?_
  refine sr hf hM [2, 1] [{ os := [.nw] }, {}] (env' := fun B1 => [(2, .val (.bool false)), (1, .val (.pointer (some ⟨B1, 0, none⟩)))]) (M' := fun B1 => [⟨B1, 62, [.int .i64 k, .int .i64 x, .int .i64 y]⟩]) (ob := fun B1 => []) (fun B => by as_aux_lemma => kernel_rfl) (fun B1 => An) ?_
  clear hf hM; intro a w1 B1 hf hM hB hk
  have hbB1 : w.heap.size ≤ B1 := by have := hk0.size; omega
  have hk0 := hk0.then hk (by intro i _ h; cases h)
  clear hk hB
  refine wpList_nil ?_
  refine hK1 _ _ ?_
  refine wp_seq_k (fun K2 hK2 => ?_)
  replace hM := hM.drew; replace hk0 := hk0.drew
  obtain ⟨C1, hC1d⟩ : ∃ C : World → Prop, C = fun w' => MemOk [⟨B1, 62, [.int .i64 k, .int .i64 x, .int .i64 y]⟩] w' ∧ Keep Nn w w' ∧ True := ⟨_, rfl⟩
  have hC1i : ∀ w', (MemOk [⟨B1, 62, [.int .i64 k, .int .i64 x, .int .i64 y]⟩] w' ∧ Keep Nn w w' ∧ True) → C1 w' := fun w' h => by rw [hC1d]; exact h
  have hC1e : ∀ w', C1 w' → (MemOk [⟨B1, 62, [.int .i64 k, .int .i64 x, .int .i64 y]⟩] w' ∧ Keep Nn w w' ∧ True) := fun w' h => by rw [hC1d] at h; exact h
  refine sxdraw (C := C1) (.leaf [(0, false), (1, true), (2, true), (5, true), (3, false), (4, false), (6, false), (7, true), (8, true), (9, true)]) (by kernel_rfl) (by kernel_rfl) (by as_aux_lemma => kernel_rfl) rfl (by as_aux_lemma => kernel_rfl) (by kernel_rfl) (hC1i _ ⟨hM.sub (.cons_cons _ .slnil), hk0, trivial⟩) ?_
  refine sxleaf ?_
  have hC := (hC1i _ ⟨hM.sub (.cons_cons _ .slnil), hk0, trivial⟩)
  refine scstep rfl ?_
  refine sxcall hf rfl rfl rfl rfl (g := 29) (vs := []) (ob := []) (by as_aux_lemma => kernel_rfl) An enters29 (alive6 E w1.drew  (hG.keep hk0 (fun _ h => h))) ?_
  clear hf; rintro _ w2 a ⟨rfl, hk⟩ hf
  have hM := hM.keepNn hk
  have hk0 := hk0.trans hk.nn
  clear hk
  have hC := (hC1i _ ⟨hM.sub (.cons_cons _ .slnil), hk0, trivial⟩)
  refine scdone hC ?_
  refine sc0 hf hC (fun w' h => (hC1e w' h).1) [8, 5, 4, 2] [{}, { os := [.ld 0 0, .ld 0 1, .ld 0 2] }, { os := [.ld 0 0, .ld 0 1, .ld 0 2] }] (env' := [(8, .val (.agg #[.int .i64 k, .int .i64 x, .int .i64 y])), (5, .val (.agg #[.int .i64 k, .int .i64 x, .int .i64 y])), (4, .val (.bool true)), (2, .val (.bool false))]) (ob := [true = true, Ad B1 0, Ad B1 1, Ad B1 2, true = true, Ad B1 0, Ad B1 1, Ad B1 2]) (by as_aux_lemma => kernel_rfl) rfl (Ac rfl (Ac (ad _ _) (Ac (ad _ _) (Ac (ad _ _) (Ac rfl (Ac (ad _ _) (Ac (ad _ _) (Ao (ad _ _))))))))) ?_
  clear hf; intro a hf
  refine scstep rfl ?_
  refine sxcallg hf rfl rfl rfl rfl rfl (g := 31) (vs := [.agg #[.int .i64 k, .int .i64 x, .int .i64 y]]) (ob := []) (by as_aux_lemma => kernel_rfl) An enters31 (scheck_range E k x y w2 hn0 hn1 (hG.keep hk0 (fun _ h => h))) ?_
  clear hf; rintro _ w3 a ⟨rfl, hk⟩ hf
  have hM := hM.keepNn hk
  have hk0 := hk0.trans hk.nn
  clear hk
  have hC := (hC1i _ ⟨hM.sub (.cons_cons _ .slnil), hk0, trivial⟩)
  refine scdone hC ?_
  refine scstep rfl ?_
  refine sxcallg hf rfl rfl rfl rfl rfl (g := 17) (vs := [.iface 185 (.pointer (some (E 0)))]) (ob := []) (by as_aux_lemma => kernel_rfl) An enters17 (num_err E 0 w3  (by decide) (hG.keep hk0 (fun _ h => h))) ?_
  clear hf; rintro _ w4 a ⟨rfl, hk⟩ hf
  have hM := hM.keepNn hk
  have hk0 := hk0.trans hk.nn
  clear hk
  have hC := (hC1i _ ⟨hM.sub (.cons_cons _ .slnil), hk0, trivial⟩)
  refine scdone hC ?_
  refine scstep rfl ?_
  refine sxcallg hf rfl rfl rfl rfl rfl (g := 34) (vs := [.agg #[.int .i64 k, .int .i64 x, .int .i64 y]]) (ob := []) (by as_aux_lemma => kernel_rfl) An enters34 (rcheck k x y w4  ) ?_
  clear hf; rintro _ w5 a ⟨rfl, hk⟩ hf
  have hM := hM.keepNn hk
  have hk0 := hk0.trans hk.nn
  clear hk
  have hC := (hC1i _ ⟨hM.sub (.cons_cons _ .slnil), hk0, trivial⟩)
  refine scdone hC ?_
  refine sc0 hf hC (fun w' h => (hC1e w' h).1) [2] [{}, {}, {}] (env' := [(2, .val (.bool ((1 : Int) == (vcheck ⟨k, x, y⟩))))]) (ob := [true = true]) (by as_aux_lemma => kernel_rfl) rfl (Ao rfl) ?_
  clear hf; intro a hf
  clear hC
  show K2 _ _
  refine hK2 _ _ ?_
  refine wp_ret ?_
  refine sxret (fn := Tryd.f7) hf hM [] (l := [.bool ((1 : Int) == (vcheck ⟨k, x, y⟩))]) (M' := [⟨B1, 62, [.int .i64 k, .int .i64 x, .int .i64 y]⟩]) (d' := false) (ob := []) (by kernel_rfl) (fun B => ⟨B, by as_aux_lemma => kernel_rfl⟩) rfl An ?_
  show (.bool ((1 : Int) == (vcheck ⟨k, x, y⟩)) : Value) = .bool true ∧ Keep Nn w w5
  refine ⟨congrArg Value.bool ?_, hk0⟩
  simp [hvc]

set_option maxRecDepth 10000 in
set_option maxHeartbeats 4000000 in
theorem sck_ok (E : Nat → Addr) (k x y : Int) (w : World) (hn0 : (vkind ⟨k, x, y⟩) = true) (hn1 : (vrange ⟨k, x, y⟩) = true) (hG : Errs [0, 1, 2, 3, 4, 5, 6, 7, 8, 9] w 185 E) :
    Calls Tryd.prog 7 #[.agg #[.int .i64 k, .int .i64 x, .int .i64 y]] w (Ret fun v w' => v = .bool true ∧ Keep Nn w w') := by
  refine sxenter (n := 12) (args := [.agg #[.int .i64 k, .int .i64 x, .int .i64 y]]) Tryd.func7 rfl rfl rfl fun a hf => ?_
  replace hf : Fr 12 [(0, .val (.agg #[.int .i64 k, .int .i64 x, .int .i64 y]))] a := hf
  have hM : MemOk [] w := MemOk.nil w
  have hk0 : Keep Nn w w := Keep.refl _ _
  have hvc := vcheck_ok hn0 hn1
  refine wp_seq_k (fun K1 hK1 => ?_)
  refine wp_region_lit ?_
  refine sr hf hM [2, 1] [{ os := [.nw] }, {}] (env' := fun B1 => [(2, .val (.bool false)), (1, .val (.pointer (some ⟨B1, 0, none⟩)))]) (M' := fun B1 => [⟨B1, 62, [.int .i64 k, .int .i64 x, .int .i64 y]⟩]) (ob := fun B1 => []) (fun B => by as_aux_lemma => kernel_rfl) (fun B1 => An) ?_
  clear hf hM; intro a w1 B1 hf hM hB hk
  have hbB1 : w.heap.size ≤ B1 := by have := hk0.size; omega
  have hk0 := hk0.then hk (by intro i _ h; cases h)
  clear hk hB
  refine wpList_nil ?_
  refine hK1 _ _ ?_
  refine wp_seq_k (fun K2 hK2 => ?_)
  replace hM := hM.drew; replace hk0 := hk0.drew
  obtain ⟨C1, hC1d⟩ : ∃ C : World → Prop, C = fun w' => MemOk [⟨B1, 62, [.int .i64 k, .int .i64 x, .int .i64 y]⟩] w' ∧ Keep Nn w w' ∧ True := ⟨_, rfl⟩
  have hC1i : ∀ w', (MemOk [⟨B1, 62, [.int .i64 k, .int .i64 x, .int .i64 y]⟩] w' ∧ Keep Nn w w' ∧ True) → C1 w' := fun w' h => by rw [hC1d]; exact h
  have hC1e : ∀ w', C1 w' → (MemOk [⟨B1, 62, [.int .i64 k, .int .i64 x, .int .i64 y]⟩] w' ∧ Keep Nn w w' ∧ True) := fun w' h => by rw [hC1d] at h; exact h
  refine sxdraw (C := C1) (.leaf [(0, false), (1, true), (2, true), (5, true), (3, false), (4, false), (6, false), (7, true), (8, true), (9, true)]) (by kernel_rfl) (by kernel_rfl) (by as_aux_lemma => kernel_rfl) rfl (by as_aux_lemma => kernel_rfl) (by kernel_rfl) (hC1i _ ⟨hM.sub (.cons_cons _ .slnil), hk0, trivial⟩) ?_
  refine sxleaf ?_
  have hC := (hC1i _ ⟨hM.sub (.cons_cons _ .slnil), hk0, trivial⟩)
  refine scstep rfl ?_
  refine sxcall hf rfl rfl rfl rfl (g := 29) (vs := []) (ob := []) (by as_aux_lemma => kernel_rfl) An enters29 (alive6 E w1.drew  (hG.keep hk0 (fun _ h => h))) ?_
  clear hf; rintro _ w2 a ⟨rfl, hk⟩ hf
  have hM := hM.keepNn hk
  have hk0 := hk0.trans hk.nn
  clear hk
  have hC := (hC1i _ ⟨hM.sub (.cons_cons _ .slnil), hk0, trivial⟩)
  refine scdone hC ?_
  refine sc0 hf hC (fun w' h => (hC1e w' h).1) [8, 5, 4, 2] [{}, { os := [.ld 0 0, .ld 0 1, .ld 0 2] }, { os := [.ld 0 0, .ld 0 1, .ld 0 2] }] (env' := [(8, .val (.agg #[.int .i64 k, .int .i64 x, .int .i64 y])), (5, .val (.agg #[.int .i64 k, .int .i64 x, .int .i64 y])), (4, .val (.bool true)), (2, .val (.bool false))]) (ob := [true = true, Ad B1 0, Ad B1 1, Ad B1 2, true = true, Ad B1 0, Ad B1 1, Ad B1 2]) (by as_aux_lemma => kernel_rfl) rfl (Ac rfl (Ac (ad _ _) (Ac (ad _ _) (Ac (ad _ _) (Ac rfl (Ac (ad _ _) (Ac (ad _ _) (Ao (ad _ _))))))))) ?_
  clear hf; intro a hf
  refine scstep rfl ?_
  refine sxcallg hf rfl rfl rfl rfl rfl (g := 31) (vs := [.agg #[.int .i64 k, .int .i64 x, .int .i64 y]]) (ob := []) (by as_aux_lemma => kernel_rfl) An enters31 (scheck_ok E k x y w2 hn0 hn1 (hG.keep hk0 (fun _ h => h))) ?_
  clear hf; rintro _ w3 a ⟨rfl, hk⟩ hf
  have hM := hM.keepNn hk
  have hk0 := hk0.trans hk.nn
  clear hk
  have hC := (hC1i _ ⟨hM.sub (.cons_cons _ .slnil), hk0, trivial⟩)
  refine scdone hC ?_
  refine scstep rfl ?_
  refine sxcallg hf rfl rfl rfl rfl rfl (g := 17) (vs := [.nilIface]) (ob := []) (by as_aux_lemma => kernel_rfl) An enters17 (num_nil  w3  ) ?_
  clear hf; rintro _ w4 a ⟨rfl, hk⟩ hf
  have hM := hM.keepNn hk
  have hk0 := hk0.trans hk.nn
  clear hk
  have hC := (hC1i _ ⟨hM.sub (.cons_cons _ .slnil), hk0, trivial⟩)
  refine scdone hC ?_
  refine scstep rfl ?_
  refine sxcallg hf rfl rfl rfl rfl rfl (g := 34) (vs := [.agg #[.int .i64 k, .int .i64 x, .int .i64 y]]) (ob := []) (by as_aux_lemma => kernel_rfl) An enters34 (rcheck k x y w4  ) ?_
  clear hf; rintro _ w5 a ⟨rfl, hk⟩ hf
  have hM := hM.keepNn hk
  have hk0 := hk0.trans hk.nn
  clear hk
  have hC := (hC1i _ ⟨hM.sub (.cons_cons _ .slnil), hk0, trivial⟩)
  refine scdone hC ?_
  refine sc0 hf hC (fun w' h => (hC1e w' h).1) [2] [{}, {}, {}] (env' := [(2, .val (.bool ((0 : Int) == (vcheck ⟨k, x, y⟩))))]) (ob := [true = true]) (by as_aux_lemma => kernel_rfl) rfl (Ao rfl) ?_
  clear hf; intro a hf
  clear hC
  show K2 _ _
  refine hK2 _ _ ?_
  refine wp_ret ?_
  refine sxret (fn := Tryd.f7) hf hM [] (l := [.bool ((0 : Int) == (vcheck ⟨k, x, y⟩))]) (M' := [⟨B1, 62, [.int .i64 k, .int .i64 x, .int .i64 y]⟩]) (d' := false) (ob := []) (by kernel_rfl) (fun B => ⟨B, by as_aux_lemma => kernel_rfl⟩) rfl An ?_
  show (.bool ((0 : Int) == (vcheck ⟨k, x, y⟩)) : Value) = .bool true ∧ Keep Nn w w5
  refine ⟨congrArg Value.bool ?_, hk0⟩
  simp [hvc]

theorem schemaChecks_any (E : Nat → Addr) (k x y : Int) (w : World) (hG : Errs [0, 1, 2, 3, 4, 5, 6, 7, 8, 9] w 185 E) :
    Calls Tryd.prog 7 #[.agg #[.int .i64 k, .int .i64 x, .int .i64 y]] w (Ret fun v w' => v = .bool true ∧ Keep Nn w w') := by
  rcases Bool.eq_false_or_eq_true (vkind ⟨k, x, y⟩) with h | h
  · rcases Bool.eq_false_or_eq_true (vrange ⟨k, x, y⟩) with h0 | h0
    · exact sck_ok E k x y w h h0 hG
    · exact sck_range E k x y w h h0 hG
  · exact sck_kind E k x y w h hG
end Go.Proofs.YtifcgjnknikjkaaDoor
