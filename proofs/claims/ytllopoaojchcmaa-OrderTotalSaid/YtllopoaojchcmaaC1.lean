/- laws of layer 2: OrderLess, OrderTotal -/
import Derived.Test.YtllopoaojchcmaaB1
namespace Go.Proofs.Ytllopoaojchcmaa
open Go.Px
set_option linter.unusedVariables false
set_option linter.unusedSimpArgs false

set_option maxRecDepth 10000 in
set_option maxHeartbeats 1600000 in
theorem ole_eq (xi xg yi yg : Int) (w : World) (hn0 : (((xi : Int) == yi) && ((xg : Int) == yg)) = true) (hn1 : (ltH ⟨xi, xg⟩ ⟨yi, yg⟩) = false) (hn2 : (ltH ⟨yi, yg⟩ ⟨xi, xg⟩) = false) :
    Calls Try.prog 4 #[.agg #[iV xi, iV xg], .agg #[iV yi, iV yg]] w (Ret fun v w' => v = .bool true ∧ Keep Nn w w') := by
 refine sxenter (n := 62) (args := [.agg #[iV xi, iV xg], .agg #[iV yi, iV yg]]) Try.func4 rfl rfl rfl fun a hf => ?_
 replace hf : Fr 62 [(0, .val (.agg #[iV xi, iV xg])), (1, .val (.agg #[iV yi, iV yg]))] a := hf
 have hM : MemOk [] w := MemOk.nil w
 have hk0 : Keep Nn w w := Keep.refl _ _
 refine wp_seq_k (fun K1 hK1 => ?_)
 refine wp_region_lit ?_
 refine q1 hf hM [] [{ os := [.nw] }, { os := [.nw] }, {}] (nw := fun B1 => [(3, eP (B1 + 1) 0), (2, eP B1 0)]) (M' := fun B1 => [⟨B1, 28, [iV xi, iV xg]⟩, ⟨B1 + 1, 28, [iV yi, iV yg]⟩]) (ob := fun B1 => []) (fun B1 => An) ?_
 clear hf hM; intro a w1 B1 hf hM hB hk
 have hbB1 : w.heap.size ≤ B1 := by have := hk0.size; omega
 have hk0 := hk0.then hk (by intro i _ h; cases h)
 clear hk hB
 refine wpList_nil ?_
 refine hK1 _ _ ?_
 refine wp_seq_k (fun K2 hK2 => ?_)
 refine wp_seq_k (fun K3 hK3 => ?_)
 refine wp_region_lit ?_
 refine sxcall hf rfl rfl rfl rfl (g := 12) (vs := []) (ob := []) (by as_aux_lemma => kernel_rfl) An enters12 (alive2  w1  ) ?_
 clear hf; rintro _ w2 a ⟨rfl, hk⟩ hf
 have hM := hM.keepNn hk
 have hk0 := hk0.trans hk.nn
 clear hk
 refine q0 hf hM [3, 2] [{}] (nw := [(8, eB false)]) An ?_
 clear hf; intro a hf
 refine wpList_nil ?_
 refine hK3 _ _ ?_
 refine sxcond hf (b := false) (by kernel_rfl) (fun h => by cases h) (fun _ => ?_)
 refine wp_skip ?_
 refine hK2 _ _ ?_
 refine wp_seq_k (fun K4 hK4 => ?_)
 refine wp_region_lit ?_
 refine q0 hf hM [3, 2] [{ os := [.ld 0 0, .ld 0 1] }, { os := [.ld 1 0, .ld 1 1] }] (nw := [(11, .val (.agg #[iV yi, iV yg])), (10, .val (.agg #[iV xi, iV xg]))]) (ob := [Ad B1 0, Ad B1 1, Ad (B1 + 1) 0, Ad (B1 + 1) 1]) (Ac (ad _ _) (Ac (ad _ _) (Ac (ad _ _) (Ao (ad _ _))))) ?_
 clear hf; intro a hf
 refine sxcall hf rfl rfl rfl rfl (g := 16) (vs := [.agg #[iV xi, iV xg], .agg #[iV yi, iV yg]]) (ob := []) (by as_aux_lemma => kernel_rfl) An enters16 (opair_no xi xg yi yg w2 hn0 ) ?_
 clear hf; rintro _ w3 a ⟨rfl, hk⟩ hf
 have hM := hM.keepNn hk
 have hk0 := hk0.trans hk.nn
 clear hk
 refine q1 hf hM [3, 2] [{}, {}, {}, { os := [.nw] }, { os := [.st 2 0, .st 2 1, .st 2 2, .st 2 3] }, {}] (nw := fun B4 => [(6, eB false), (5, eP B4 0)]) (M' := fun B4 => [⟨B1, 28, [iV xi, iV xg]⟩, ⟨B1 + 1, 28, [iV yi, iV yg]⟩, ⟨B4, 31, [iV 0, iV 0, iV 0, iV 0]⟩]) (ob := fun B4 => [Ad B4 0, Ad B4 1, Ad B4 2, Ad B4 3]) (fun B4 => (Ac (ad _ _) (Ac (ad _ _) (Ac (ad _ _) (Ao (ad _ _)))))) ?_
 clear hf hM; intro a w4 B4 hf hM hB hk
 have hbB4 : w.heap.size ≤ B4 := by have := hk0.size; omega
 have hk0 := hk0.thenNew hk (by simp [Mem.names] <;> omega)
 clear hk hB
 refine wpList_nil ?_
 refine hK4 _ _ ?_
 refine wp_seq_k (fun K5 hK5 => ?_)
 refine wp_seq_k (fun K6 hK6 => ?_)
 replace hM := hM.drew; replace hk0 := hk0.drew
 obtain ⟨C1, hC1i, hC1e⟩ := qcls fun w' => MemOk [⟨B1, 28, [iV xi, iV xg]⟩, ⟨B1 + 1, 28, [iV yi, iV yg]⟩, ⟨B4, 31, [iV 0, iV 0, iV 0, iV 0]⟩] w' ∧ Keep Nn w w' ∧ True
 refine sxdraw (C := C1) (.leaf [(0, true), (1, true), (3, true), (4, true), (2, false), (5, false), (6, true), (7, true), (8, true), (9, true), (11, true), (12, true), (10, false), (13, false), (14, true), (15, true), (16, true), (17, true), (18, true), (19, true), (20, true), (21, true), (22, true)]) (by kernel_rfl) (by kernel_rfl) (by as_aux_lemma => kernel_rfl) rfl (by as_aux_lemma => kernel_rfl) (by kernel_rfl) (hC1i _ ⟨hM.sub (.cons_cons _ (.cons_cons _ (.cons_cons _ .slnil))), hk0, trivial⟩) ?_
 refine sxleaf ?_
 have hC := (hC1i _ ⟨hM.sub (.cons_cons _ (.cons_cons _ (.cons_cons _ .slnil))), hk0, trivial⟩)
 refine qd hf hC (fun w' h => (hC1e w' h).1) [6, 5, 3, 2] [{ os := [.ld 0 0, .ld 0 1] }, { os := [.ld 1 0, .ld 1 1] }, { os := [.ld 0 0, .ld 0 1] }, { os := [.ld 1 0, .ld 1 1] }] (nw := [(19, .val (.agg #[iV yi, iV yg])), (18, .val (.agg #[iV xi, iV xg])), (16, .val (.agg #[iV yi, iV yg])), (15, .val (.agg #[iV xi, iV xg]))]) (ob := [Ad B1 0, Ad B1 1, Ad (B1 + 1) 0, Ad (B1 + 1) 1, Ad B1 0, Ad B1 1, Ad (B1 + 1) 0, Ad (B1 + 1) 1]) (Ac (ad _ _) (Ac (ad _ _) (Ac (ad _ _) (Ac (ad _ _) (Ac (ad _ _) (Ac (ad _ _) (Ac (ad _ _) (Ao (ad _ _))))))))) ?_
 clear hf; intro a hf
 refine scstep rfl ?_
 refine sxcall hf rfl rfl rfl rfl (g := 17) (vs := [.agg #[iV xi, iV xg], .agg #[iV yi, iV yg]]) (ob := []) (by as_aux_lemma => kernel_rfl) An enters17 (oless xi xg yi yg w4.drew  ) ?_
 clear hf; rintro _ w5 a ⟨rfl, hk⟩ hf
 have hM := hM.keepNn hk
 have hk0 := hk0.trans hk.nn
 clear hk
 have hC := (hC1i _ ⟨hM.sub (.cons_cons _ (.cons_cons _ (.cons_cons _ .slnil))), hk0, trivial⟩)
 refine scdone hC ?_
 refine scstep rfl ?_
 refine sxcall hf rfl rfl rfl rfl (g := 18) (vs := [.agg #[iV xi, iV xg], .agg #[iV yi, iV yg]]) (ob := []) (by as_aux_lemma => kernel_rfl) An enters18 (rless xi xg yi yg w5  ) ?_
 clear hf; rintro _ w6 a ⟨rfl, hk⟩ hf
 have hM := hM.keepNn hk
 have hk0 := hk0.trans hk.nn
 clear hk
 have hC := (hC1i _ ⟨hM.sub (.cons_cons _ (.cons_cons _ (.cons_cons _ .slnil))), hk0, trivial⟩)
 refine scdone hC ?_
 refine qd hf hC (fun w' h => (hC1e w' h).1) [6, 5, 3, 2] [{ hint := some (bV false) }, {}, { os := [.ld 1 0, .ld 1 1] }, { os := [.ld 0 0, .ld 0 1] }, { os := [.ld 1 0, .ld 1 1] }, { os := [.ld 0 0, .ld 0 1] }] (nw := [(27, .val (.agg #[iV xi, iV xg])), (26, .val (.agg #[iV yi, iV yg])), (24, .val (.agg #[iV xi, iV xg])), (23, .val (.agg #[iV yi, iV yg])), (22, eB false)]) (ob := [(bV (!((ltH ⟨xi, xg⟩ ⟨yi, yg⟩) == (ltH ⟨xi, xg⟩ ⟨yi, yg⟩))) : Value) = (bV false : Value), false = false, Ad (B1 + 1) 0, Ad (B1 + 1) 1, false = false, Ad B1 0, Ad B1 1, false = false, Ad (B1 + 1) 0, Ad (B1 + 1) 1, false = false, Ad B1 0, Ad B1 1]) (Ac (by simp) (Ac rfl (Ac (ad _ _) (Ac (ad _ _) (Ac rfl (Ac (ad _ _) (Ac (ad _ _) (Ac rfl (Ac (ad _ _) (Ac (ad _ _) (Ac rfl (Ac (ad _ _) (Ao (ad _ _)))))))))))))) ?_
 clear hf; intro a hf
 refine scstep rfl ?_
 refine sxcallg hf rfl rfl rfl rfl rfl (g := 17) (vs := [.agg #[iV yi, iV yg], .agg #[iV xi, iV xg]]) (ob := []) (by as_aux_lemma => kernel_rfl) An enters17 (oless yi yg xi xg w6  ) ?_
 clear hf; rintro _ w7 a ⟨rfl, hk⟩ hf
 have hM := hM.keepNn hk
 have hk0 := hk0.trans hk.nn
 clear hk
 have hC := (hC1i _ ⟨hM.sub (.cons_cons _ (.cons_cons _ (.cons_cons _ .slnil))), hk0, trivial⟩)
 refine scdone hC ?_
 refine scstep rfl ?_
 refine sxcallg hf rfl rfl rfl rfl rfl (g := 18) (vs := [.agg #[iV yi, iV yg], .agg #[iV xi, iV xg]]) (ob := []) (by as_aux_lemma => kernel_rfl) An enters18 (rless yi yg xi xg w7  ) ?_
 clear hf; rintro _ w8 a ⟨rfl, hk⟩ hf
 have hM := hM.keepNn hk
 have hk0 := hk0.trans hk.nn
 clear hk
 have hC := (hC1i _ ⟨hM.sub (.cons_cons _ (.cons_cons _ (.cons_cons _ .slnil))), hk0, trivial⟩)
 refine scdone hC ?_
 refine qd hf hC (fun w' h => (hC1e w' h).1) [6, 5, 3, 2] [{ hint := some (bV false) }, {}, {}, {}, { os := [.ld 0 0, .ld 0 1] }, { os := [.ld 1 0, .ld 1 1] }, { sp := true, hint := some (bV (!(((xi : Int) == yi) && ((xg : Int) == yg)))) }, { hint := some (bV (!(((xi : Int) == yi) && ((xg : Int) == yg)))) }, {}] (nw := [(37, eB (!(((xi : Int) == yi) && ((xg : Int) == yg))))]) (ob := [false = false, (bV (!((ltH ⟨yi, yg⟩ ⟨xi, xg⟩) == (ltH ⟨yi, yg⟩ ⟨xi, xg⟩))) : Value) = (bV false : Value), false = false, false = false, Ad B1 0, Ad B1 1, false = false, Ad (B1 + 1) 0, Ad (B1 + 1) 1, false = false, (bV (!(((xi : Int) == yi) && (((xg : Int) == yg) && true))) : Value) = (bV (!(((xi : Int) == yi) && ((xg : Int) == yg))) : Value), false = false, (bV (!(false == (!(((xi : Int) == yi) && ((xg : Int) == yg))))) : Value) = (bV (!(((xi : Int) == yi) && ((xg : Int) == yg))) : Value)]) (Ac rfl (Ac (by simp) (Ac rfl (Ac rfl (Ac (ad _ _) (Ac (ad _ _) (Ac rfl (Ac (ad _ _) (Ac (ad _ _) (Ac rfl (Ac (by simp) (Ac rfl (Ao (by simp)))))))))))))) ?_
 clear hf; intro a hf
 clear hC
 show K6 _ _
 refine hK6 _ _ ?_
 refine sxcond hf (b := (!(((xi : Int) == yi) && ((xg : Int) == yg)))) (by kernel_rfl) (fun h => absurd (h.symm.trans (by simp [hn0] : (!(((xi : Int) == yi) && ((xg : Int) == yg)) : Bool) = false)) (by simp)) (fun _ => ?_)
 refine wp_skip ?_
 refine hK5 _ _ ?_
 refine wp_seq_k (fun K7 hK7 => ?_)
 refine wp_seq_k (fun K8 hK8 => ?_)
 refine wp_region_lit ?_
 refine q0 hf hM [5, 3, 2] [{}, {}] (nw := [(39, eB true)]) An ?_
 clear hf; intro a hf
 refine wpList_nil ?_
 refine hK8 _ _ ?_
 refine sxcond hf (b := true) (by kernel_rfl) (fun _ => ?_) (fun h => by cases h)
 refine wp_seq_k (fun K9 hK9 => ?_)
 refine wp_region_lit ?_
 refine q0 hf hM [] [{ os := [.ld 2 0, .ld 2 1, .ld 2 2, .ld 2 3] }, { sp := true }, { sp := true, hint := some (bV true) }, {}] (nw := [(4, eB true)]) (ob := [Ad B4 0, Ad B4 1, Ad B4 2, Ad B4 3, (bV ((((0 : Int) == 0) && (((0 : Int) == 0) && true)) && ((((0 : Int) == 0) && (((0 : Int) == 0) && true)) && true)) : Value) = (bV true : Value)]) (Ac (ad _ _) (Ac (ad _ _) (Ac (ad _ _) (Ac (ad _ _) (Ao (by simp [Bool.and_assoc, Bool.or_assoc])))))) ?_
 clear hf; intro a hf
 refine wpList_nil ?_
 refine hK9 _ _ ?_
 refine wp_ret ?_
 refine qr (fn := Try.f4) hf hM [] (l := [bV true]) (ob := []) An ?_
 show (bV true : Value) = .bool true ∧ Keep Nn w w8
 refine ⟨congrArg Value.bool ?_, hk0⟩
 first | rfl | (simp_all [nrmP]; done)

set_option maxRecDepth 10000 in
set_option maxHeartbeats 1600000 in
theorem ole_lt (xi xg yi yg : Int) (w : World) (hn0 : (((xi : Int) == yi) && ((xg : Int) == yg)) = false) (hn1 : (ltH ⟨xi, xg⟩ ⟨yi, yg⟩) = true) (hn2 : (ltH ⟨yi, yg⟩ ⟨xi, xg⟩) = false) :
    Calls Try.prog 4 #[.agg #[iV xi, iV xg], .agg #[iV yi, iV yg]] w (Ret fun v w' => v = .bool true ∧ Keep Nn w w') := by
 refine sxenter (n := 62) (args := [.agg #[iV xi, iV xg], .agg #[iV yi, iV yg]]) Try.func4 rfl rfl rfl fun a hf => ?_
 replace hf : Fr 62 [(0, .val (.agg #[iV xi, iV xg])), (1, .val (.agg #[iV yi, iV yg]))] a := hf
 have hM : MemOk [] w := MemOk.nil w
 have hk0 : Keep Nn w w := Keep.refl _ _
 have hnp : (nrmP ⟨⟨xi, xg⟩, ⟨yi, yg⟩⟩) = ⟨⟨xi, xg⟩, ⟨yi, yg⟩⟩ := by simp only [nrmP, hn2]; rfl
 have hnl : ltH ⟨(nrmP ⟨⟨xi, xg⟩, ⟨yi, yg⟩⟩).a.i, (nrmP ⟨⟨xi, xg⟩, ⟨yi, yg⟩⟩).a.g⟩ ⟨(nrmP ⟨⟨xi, xg⟩, ⟨yi, yg⟩⟩).b.i, (nrmP ⟨⟨xi, xg⟩, ⟨yi, yg⟩⟩).b.g⟩ = true := by rw [hnp]; exact hn1
 have he1 : ((((nrmP ⟨⟨xi, xg⟩, ⟨yi, yg⟩⟩).a.i : Int) == xi) && ((((nrmP ⟨⟨xi, xg⟩, ⟨yi, yg⟩⟩).a.g : Int) == xg) && ((((nrmP ⟨⟨xi, xg⟩, ⟨yi, yg⟩⟩).b.i : Int) == yi) && (((nrmP ⟨⟨xi, xg⟩, ⟨yi, yg⟩⟩).b.g : Int) == yg)))) = true := by rw [hnp]; simp
 refine wp_seq_k (fun K1 hK1 => ?_)
 refine wp_region_lit ?_
 refine q1 hf hM [] [{ os := [.nw] }, { os := [.nw] }, {}] (nw := fun B1 => [(3, eP (B1 + 1) 0), (2, eP B1 0)]) (M' := fun B1 => [⟨B1, 28, [iV xi, iV xg]⟩, ⟨B1 + 1, 28, [iV yi, iV yg]⟩]) (ob := fun B1 => []) (fun B1 => An) ?_
 clear hf hM; intro a w1 B1 hf hM hB hk
 have hbB1 : w.heap.size ≤ B1 := by have := hk0.size; omega
 have hk0 := hk0.then hk (by intro i _ h; cases h)
 clear hk hB
 refine wpList_nil ?_
 refine hK1 _ _ ?_
 refine wp_seq_k (fun K2 hK2 => ?_)
 refine wp_seq_k (fun K3 hK3 => ?_)
 refine wp_region_lit ?_
 refine sxcall hf rfl rfl rfl rfl (g := 12) (vs := []) (ob := []) (by as_aux_lemma => kernel_rfl) An enters12 (alive2  w1  ) ?_
 clear hf; rintro _ w2 a ⟨rfl, hk⟩ hf
 have hM := hM.keepNn hk
 have hk0 := hk0.trans hk.nn
 clear hk
 refine q0 hf hM [3, 2] [{}] (nw := [(8, eB false)]) An ?_
 clear hf; intro a hf
 refine wpList_nil ?_
 refine hK3 _ _ ?_
 refine sxcond hf (b := false) (by kernel_rfl) (fun h => by cases h) (fun _ => ?_)
 refine wp_skip ?_
 refine hK2 _ _ ?_
 refine wp_seq_k (fun K4 hK4 => ?_)
 refine wp_region_lit ?_
 refine q0 hf hM [3, 2] [{ os := [.ld 0 0, .ld 0 1] }, { os := [.ld 1 0, .ld 1 1] }] (nw := [(11, .val (.agg #[iV yi, iV yg])), (10, .val (.agg #[iV xi, iV xg]))]) (ob := [Ad B1 0, Ad B1 1, Ad (B1 + 1) 0, Ad (B1 + 1) 1]) (Ac (ad _ _) (Ac (ad _ _) (Ac (ad _ _) (Ao (ad _ _))))) ?_
 clear hf; intro a hf
 refine sxcall hf rfl rfl rfl rfl (g := 16) (vs := [.agg #[iV xi, iV xg], .agg #[iV yi, iV yg]]) (ob := []) (by as_aux_lemma => kernel_rfl) An enters16 (opair_ok xi xg yi yg w2 hn0 ) ?_
 clear hf; rintro _ w3 a ⟨rfl, hk⟩ hf
 have hM := hM.keepNn hk
 have hk0 := hk0.trans hk.nn
 clear hk
 refine q1 hf hM [3, 2] [{}, {}, {}, { os := [.nw] }, { os := [.st 2 0, .st 2 1, .st 2 2, .st 2 3] }, {}] (nw := fun B4 => [(6, eB true), (5, eP B4 0)]) (M' := fun B4 => [⟨B1, 28, [iV xi, iV xg]⟩, ⟨B1 + 1, 28, [iV yi, iV yg]⟩, ⟨B4, 31, [iV (nrmP ⟨⟨xi, xg⟩, ⟨yi, yg⟩⟩).a.i, iV (nrmP ⟨⟨xi, xg⟩, ⟨yi, yg⟩⟩).a.g, iV (nrmP ⟨⟨xi, xg⟩, ⟨yi, yg⟩⟩).b.i, iV (nrmP ⟨⟨xi, xg⟩, ⟨yi, yg⟩⟩).b.g]⟩]) (ob := fun B4 => [Ad B4 0, Ad B4 1, Ad B4 2, Ad B4 3]) (fun B4 => (Ac (ad _ _) (Ac (ad _ _) (Ac (ad _ _) (Ao (ad _ _)))))) ?_
 clear hf hM; intro a w4 B4 hf hM hB hk
 have hbB4 : w.heap.size ≤ B4 := by have := hk0.size; omega
 have hk0 := hk0.thenNew hk (by simp [Mem.names] <;> omega)
 clear hk hB
 refine wpList_nil ?_
 refine hK4 _ _ ?_
 refine wp_seq_k (fun K5 hK5 => ?_)
 refine wp_seq_k (fun K6 hK6 => ?_)
 replace hM := hM.drew; replace hk0 := hk0.drew
 obtain ⟨C1, hC1i, hC1e⟩ := qcls fun w' => MemOk [⟨B1, 28, [iV xi, iV xg]⟩, ⟨B1 + 1, 28, [iV yi, iV yg]⟩, ⟨B4, 31, [iV (nrmP ⟨⟨xi, xg⟩, ⟨yi, yg⟩⟩).a.i, iV (nrmP ⟨⟨xi, xg⟩, ⟨yi, yg⟩⟩).a.g, iV (nrmP ⟨⟨xi, xg⟩, ⟨yi, yg⟩⟩).b.i, iV (nrmP ⟨⟨xi, xg⟩, ⟨yi, yg⟩⟩).b.g]⟩] w' ∧ Keep Nn w w' ∧ True
 refine sxdraw (C := C1) (.leaf [(0, true), (1, true), (3, true), (4, true), (2, false), (5, false), (6, true), (7, true), (8, true), (9, true), (11, true), (12, true), (10, false), (13, false), (14, true), (15, true), (16, true), (17, true), (18, true), (19, true), (20, true), (21, true), (22, true)]) (by kernel_rfl) (by kernel_rfl) (by as_aux_lemma => kernel_rfl) rfl (by as_aux_lemma => kernel_rfl) (by kernel_rfl) (hC1i _ ⟨hM.sub (.cons_cons _ (.cons_cons _ (.cons_cons _ .slnil))), hk0, trivial⟩) ?_
 refine sxleaf ?_
 have hC := (hC1i _ ⟨hM.sub (.cons_cons _ (.cons_cons _ (.cons_cons _ .slnil))), hk0, trivial⟩)
 refine qd hf hC (fun w' h => (hC1e w' h).1) [6, 5, 3, 2] [{ os := [.ld 0 0, .ld 0 1] }, { os := [.ld 1 0, .ld 1 1] }, { os := [.ld 0 0, .ld 0 1] }, { os := [.ld 1 0, .ld 1 1] }] (nw := [(19, .val (.agg #[iV yi, iV yg])), (18, .val (.agg #[iV xi, iV xg])), (16, .val (.agg #[iV yi, iV yg])), (15, .val (.agg #[iV xi, iV xg]))]) (ob := [Ad B1 0, Ad B1 1, Ad (B1 + 1) 0, Ad (B1 + 1) 1, Ad B1 0, Ad B1 1, Ad (B1 + 1) 0, Ad (B1 + 1) 1]) (Ac (ad _ _) (Ac (ad _ _) (Ac (ad _ _) (Ac (ad _ _) (Ac (ad _ _) (Ac (ad _ _) (Ac (ad _ _) (Ao (ad _ _))))))))) ?_
 clear hf; intro a hf
 refine scstep rfl ?_
 refine sxcall hf rfl rfl rfl rfl (g := 17) (vs := [.agg #[iV xi, iV xg], .agg #[iV yi, iV yg]]) (ob := []) (by as_aux_lemma => kernel_rfl) An enters17 (oless xi xg yi yg w4.drew  ) ?_
 clear hf; rintro _ w5 a ⟨rfl, hk⟩ hf
 have hM := hM.keepNn hk
 have hk0 := hk0.trans hk.nn
 clear hk
 have hC := (hC1i _ ⟨hM.sub (.cons_cons _ (.cons_cons _ (.cons_cons _ .slnil))), hk0, trivial⟩)
 refine scdone hC ?_
 refine scstep rfl ?_
 refine sxcall hf rfl rfl rfl rfl (g := 18) (vs := [.agg #[iV xi, iV xg], .agg #[iV yi, iV yg]]) (ob := []) (by as_aux_lemma => kernel_rfl) An enters18 (rless xi xg yi yg w5  ) ?_
 clear hf; rintro _ w6 a ⟨rfl, hk⟩ hf
 have hM := hM.keepNn hk
 have hk0 := hk0.trans hk.nn
 clear hk
 have hC := (hC1i _ ⟨hM.sub (.cons_cons _ (.cons_cons _ (.cons_cons _ .slnil))), hk0, trivial⟩)
 refine scdone hC ?_
 refine qd hf hC (fun w' h => (hC1e w' h).1) [6, 5, 3, 2] [{ hint := some (bV false) }, {}, { os := [.ld 1 0, .ld 1 1] }, { os := [.ld 0 0, .ld 0 1] }, { os := [.ld 1 0, .ld 1 1] }, { os := [.ld 0 0, .ld 0 1] }] (nw := [(27, .val (.agg #[iV xi, iV xg])), (26, .val (.agg #[iV yi, iV yg])), (24, .val (.agg #[iV xi, iV xg])), (23, .val (.agg #[iV yi, iV yg])), (22, eB false)]) (ob := [(bV (!((ltH ⟨xi, xg⟩ ⟨yi, yg⟩) == (ltH ⟨xi, xg⟩ ⟨yi, yg⟩))) : Value) = (bV false : Value), false = false, Ad (B1 + 1) 0, Ad (B1 + 1) 1, false = false, Ad B1 0, Ad B1 1, false = false, Ad (B1 + 1) 0, Ad (B1 + 1) 1, false = false, Ad B1 0, Ad B1 1]) (Ac (by simp) (Ac rfl (Ac (ad _ _) (Ac (ad _ _) (Ac rfl (Ac (ad _ _) (Ac (ad _ _) (Ac rfl (Ac (ad _ _) (Ac (ad _ _) (Ac rfl (Ac (ad _ _) (Ao (ad _ _)))))))))))))) ?_
 clear hf; intro a hf
 refine scstep rfl ?_
 refine sxcallg hf rfl rfl rfl rfl rfl (g := 17) (vs := [.agg #[iV yi, iV yg], .agg #[iV xi, iV xg]]) (ob := []) (by as_aux_lemma => kernel_rfl) An enters17 (oless yi yg xi xg w6  ) ?_
 clear hf; rintro _ w7 a ⟨rfl, hk⟩ hf
 have hM := hM.keepNn hk
 have hk0 := hk0.trans hk.nn
 clear hk
 have hC := (hC1i _ ⟨hM.sub (.cons_cons _ (.cons_cons _ (.cons_cons _ .slnil))), hk0, trivial⟩)
 refine scdone hC ?_
 refine scstep rfl ?_
 refine sxcallg hf rfl rfl rfl rfl rfl (g := 18) (vs := [.agg #[iV yi, iV yg], .agg #[iV xi, iV xg]]) (ob := []) (by as_aux_lemma => kernel_rfl) An enters18 (rless yi yg xi xg w7  ) ?_
 clear hf; rintro _ w8 a ⟨rfl, hk⟩ hf
 have hM := hM.keepNn hk
 have hk0 := hk0.trans hk.nn
 clear hk
 have hC := (hC1i _ ⟨hM.sub (.cons_cons _ (.cons_cons _ (.cons_cons _ .slnil))), hk0, trivial⟩)
 refine scdone hC ?_
 refine qd hf hC (fun w' h => (hC1e w' h).1) [6, 5, 3, 2] [{ hint := some (bV false) }, {}, {}, {}, { os := [.ld 0 0, .ld 0 1] }, { os := [.ld 1 0, .ld 1 1] }, { sp := true, hint := some (bV (!(((xi : Int) == yi) && ((xg : Int) == yg)))) }, { hint := some (bV (((xi : Int) == yi) && ((xg : Int) == yg))) }, {}] (nw := [(37, eB (((xi : Int) == yi) && ((xg : Int) == yg)))]) (ob := [false = false, (bV (!((ltH ⟨yi, yg⟩ ⟨xi, xg⟩) == (ltH ⟨yi, yg⟩ ⟨xi, xg⟩))) : Value) = (bV false : Value), false = false, false = false, Ad B1 0, Ad B1 1, false = false, Ad (B1 + 1) 0, Ad (B1 + 1) 1, false = false, (bV (!(((xi : Int) == yi) && (((xg : Int) == yg) && true))) : Value) = (bV (!(((xi : Int) == yi) && ((xg : Int) == yg))) : Value), false = false, (bV (!(true == (!(((xi : Int) == yi) && ((xg : Int) == yg))))) : Value) = (bV (((xi : Int) == yi) && ((xg : Int) == yg)) : Value)]) (Ac rfl (Ac (by simp) (Ac rfl (Ac rfl (Ac (ad _ _) (Ac (ad _ _) (Ac rfl (Ac (ad _ _) (Ac (ad _ _) (Ac rfl (Ac (by simp) (Ac rfl (Ao (by simp)))))))))))))) ?_
 clear hf; intro a hf
 clear hC
 show K6 _ _
 refine hK6 _ _ ?_
 refine sxcond hf (b := (((xi : Int) == yi) && ((xg : Int) == yg))) (by kernel_rfl) (fun h => absurd h (by rw [hn0]; simp)) (fun _ => ?_)
 refine wp_skip ?_
 refine hK5 _ _ ?_
 refine wp_seq_k (fun K7 hK7 => ?_)
 refine wp_seq_k (fun K8 hK8 => ?_)
 refine wp_region_lit ?_
 refine q0 hf hM [5, 3, 2] [{}, {}] (nw := [(39, eB false)]) An ?_
 clear hf; intro a hf
 refine wpList_nil ?_
 refine hK8 _ _ ?_
 refine sxcond hf (b := false) (by kernel_rfl) (fun h => by cases h) (fun _ => ?_)
 refine wp_skip ?_
 refine hK7 _ _ ?_
 refine wp_seq_k (fun K9 hK9 => ?_)
 refine wp_region_lit ?_
 refine q0 hf hM [5, 3, 2] [{}, { os := [.ld 2 0, .ld 2 1] }, {}, { os := [.ld 2 2, .ld 2 3] }] (nw := [(46, .val (.agg #[iV (nrmP ⟨⟨xi, xg⟩, ⟨yi, yg⟩⟩).b.i, iV (nrmP ⟨⟨xi, xg⟩, ⟨yi, yg⟩⟩).b.g])), (44, .val (.agg #[iV (nrmP ⟨⟨xi, xg⟩, ⟨yi, yg⟩⟩).a.i, iV (nrmP ⟨⟨xi, xg⟩, ⟨yi, yg⟩⟩).a.g]))]) (ob := [Ad B4 0, Ad B4 1, Ad B4 2, Ad B4 3]) (Ac (ad _ _) (Ac (ad _ _) (Ac (ad _ _) (Ao (ad _ _))))) ?_
 clear hf; intro a hf
 refine sxcall hf rfl rfl rfl rfl (g := 18) (vs := [.agg #[iV (nrmP ⟨⟨xi, xg⟩, ⟨yi, yg⟩⟩).a.i, iV (nrmP ⟨⟨xi, xg⟩, ⟨yi, yg⟩⟩).a.g], .agg #[iV (nrmP ⟨⟨xi, xg⟩, ⟨yi, yg⟩⟩).b.i, iV (nrmP ⟨⟨xi, xg⟩, ⟨yi, yg⟩⟩).b.g]]) (ob := []) (by as_aux_lemma => kernel_rfl) An enters18 (rless (nrmP ⟨⟨xi, xg⟩, ⟨yi, yg⟩⟩).a.i (nrmP ⟨⟨xi, xg⟩, ⟨yi, yg⟩⟩).a.g (nrmP ⟨⟨xi, xg⟩, ⟨yi, yg⟩⟩).b.i (nrmP ⟨⟨xi, xg⟩, ⟨yi, yg⟩⟩).b.g w8  ) ?_
 clear hf; rintro _ w9 a ⟨rfl, hk⟩ hf
 have hM := hM.keepNn hk
 have hk0 := hk0.trans hk.nn
 clear hk
 refine q0 hf hM [5, 3, 2] [{}] (nw := [(48, eB (ltH ⟨(nrmP ⟨⟨xi, xg⟩, ⟨yi, yg⟩⟩).a.i, (nrmP ⟨⟨xi, xg⟩, ⟨yi, yg⟩⟩).a.g⟩ ⟨(nrmP ⟨⟨xi, xg⟩, ⟨yi, yg⟩⟩).b.i, (nrmP ⟨⟨xi, xg⟩, ⟨yi, yg⟩⟩).b.g⟩))]) An ?_
 clear hf; intro a hf
 have hf := hf.setb 48 hnl
 refine q0 hf hM [48, 5, 3, 2] [{ os := [.ld 2 0, .ld 2 1, .ld 2 2, .ld 2 3] }, { os := [.ld 0 0, .ld 0 1] }, { os := [.ld 1 0, .ld 1 1] }, { sp := true }, { sp := true, hint := some (bV ((((nrmP ⟨⟨xi, xg⟩, ⟨yi, yg⟩⟩).a.i : Int) == xi) && ((((nrmP ⟨⟨xi, xg⟩, ⟨yi, yg⟩⟩).a.g : Int) == xg) && ((((nrmP ⟨⟨xi, xg⟩, ⟨yi, yg⟩⟩).b.i : Int) == yi) && (((nrmP ⟨⟨xi, xg⟩, ⟨yi, yg⟩⟩).b.g : Int) == yg))))) }, {}] (nw := [(54, eB ((((nrmP ⟨⟨xi, xg⟩, ⟨yi, yg⟩⟩).a.i : Int) == xi) && ((((nrmP ⟨⟨xi, xg⟩, ⟨yi, yg⟩⟩).a.g : Int) == xg) && ((((nrmP ⟨⟨xi, xg⟩, ⟨yi, yg⟩⟩).b.i : Int) == yi) && (((nrmP ⟨⟨xi, xg⟩, ⟨yi, yg⟩⟩).b.g : Int) == yg)))))]) (ob := [true = true, Ad B4 0, Ad B4 1, Ad B4 2, Ad B4 3, true = true, Ad B1 0, Ad B1 1, true = true, Ad (B1 + 1) 0, Ad (B1 + 1) 1, true = true, true = true, (bV (((((nrmP ⟨⟨xi, xg⟩, ⟨yi, yg⟩⟩).a.i : Int) == xi) && ((((nrmP ⟨⟨xi, xg⟩, ⟨yi, yg⟩⟩).a.g : Int) == xg) && true)) && (((((nrmP ⟨⟨xi, xg⟩, ⟨yi, yg⟩⟩).b.i : Int) == yi) && ((((nrmP ⟨⟨xi, xg⟩, ⟨yi, yg⟩⟩).b.g : Int) == yg) && true)) && true)) : Value) = (bV ((((nrmP ⟨⟨xi, xg⟩, ⟨yi, yg⟩⟩).a.i : Int) == xi) && ((((nrmP ⟨⟨xi, xg⟩, ⟨yi, yg⟩⟩).a.g : Int) == xg) && ((((nrmP ⟨⟨xi, xg⟩, ⟨yi, yg⟩⟩).b.i : Int) == yi) && (((nrmP ⟨⟨xi, xg⟩, ⟨yi, yg⟩⟩).b.g : Int) == yg)))) : Value), true = true]) (Ac rfl (Ac (ad _ _) (Ac (ad _ _) (Ac (ad _ _) (Ac (ad _ _) (Ac rfl (Ac (ad _ _) (Ac (ad _ _) (Ac rfl (Ac (ad _ _) (Ac (ad _ _) (Ac rfl (Ac rfl (Ac (by simp [Bool.and_assoc, Bool.or_assoc]) (Ao rfl))))))))))))))) ?_
 clear hf; intro a hf
 have hf := hf.setb 54 he1
 refine q0 hf hM [] [{ g := .off }, { g := .off }, { g := .off }, { g := .off }, { g := .off }, {}, {}, {}] (nw := [(4, eB true)]) (ob := [true = !false, true = !false, true = !false, true = !false, true = !false, true = true]) (Ac rfl (Ac rfl (Ac rfl (Ac rfl (Ac rfl (Ao rfl)))))) ?_
 clear hf; intro a hf
 refine wpList_nil ?_
 refine hK9 _ _ ?_
 refine wp_ret ?_
 refine qr (fn := Try.f4) hf hM [] (l := [bV true]) (ob := []) An ?_
 show (bV true : Value) = .bool true ∧ Keep Nn w w9
 refine ⟨congrArg Value.bool ?_, hk0⟩
 first | rfl | exact he2 | (simp; done)

set_option maxRecDepth 10000 in
set_option maxHeartbeats 1600000 in
theorem ole_gt (xi xg yi yg : Int) (w : World) (hn0 : (((xi : Int) == yi) && ((xg : Int) == yg)) = false) (hn1 : (ltH ⟨xi, xg⟩ ⟨yi, yg⟩) = false) (hn2 : (ltH ⟨yi, yg⟩ ⟨xi, xg⟩) = true) :
    Calls Try.prog 4 #[.agg #[iV xi, iV xg], .agg #[iV yi, iV yg]] w (Ret fun v w' => v = .bool true ∧ Keep Nn w w') := by
 refine sxenter (n := 62) (args := [.agg #[iV xi, iV xg], .agg #[iV yi, iV yg]]) Try.func4 rfl rfl rfl fun a hf => ?_
 replace hf : Fr 62 [(0, .val (.agg #[iV xi, iV xg])), (1, .val (.agg #[iV yi, iV yg]))] a := hf
 have hM : MemOk [] w := MemOk.nil w
 have hk0 : Keep Nn w w := Keep.refl _ _
 have hnp : (nrmP ⟨⟨xi, xg⟩, ⟨yi, yg⟩⟩) = ⟨⟨yi, yg⟩, ⟨xi, xg⟩⟩ := by simp only [nrmP, hn2]; rfl
 have hnl : ltH ⟨(nrmP ⟨⟨xi, xg⟩, ⟨yi, yg⟩⟩).a.i, (nrmP ⟨⟨xi, xg⟩, ⟨yi, yg⟩⟩).a.g⟩ ⟨(nrmP ⟨⟨xi, xg⟩, ⟨yi, yg⟩⟩).b.i, (nrmP ⟨⟨xi, xg⟩, ⟨yi, yg⟩⟩).b.g⟩ = true := by rw [hnp]; exact hn2
 have he1 : ((((nrmP ⟨⟨xi, xg⟩, ⟨yi, yg⟩⟩).a.i : Int) == xi) && ((((nrmP ⟨⟨xi, xg⟩, ⟨yi, yg⟩⟩).a.g : Int) == xg) && ((((nrmP ⟨⟨xi, xg⟩, ⟨yi, yg⟩⟩).b.i : Int) == yi) && (((nrmP ⟨⟨xi, xg⟩, ⟨yi, yg⟩⟩).b.g : Int) == yg)))) = false := by rw [hnp]; simp only [Bool.and_eq_false_iff, beq_eq_false_iff_ne, ne_eq] at hn0 ⊢; omega
 have he2 : ((((nrmP ⟨⟨xi, xg⟩, ⟨yi, yg⟩⟩).a.i : Int) == yi) && ((((nrmP ⟨⟨xi, xg⟩, ⟨yi, yg⟩⟩).a.g : Int) == yg) && ((((nrmP ⟨⟨xi, xg⟩, ⟨yi, yg⟩⟩).b.i : Int) == xi) && (((nrmP ⟨⟨xi, xg⟩, ⟨yi, yg⟩⟩).b.g : Int) == xg)))) = true := by rw [hnp]; simp
 refine wp_seq_k (fun K1 hK1 => ?_)
 refine wp_region_lit ?_
 refine q1 hf hM [] [{ os := [.nw] }, { os := [.nw] }, {}] (nw := fun B1 => [(3, eP (B1 + 1) 0), (2, eP B1 0)]) (M' := fun B1 => [⟨B1, 28, [iV xi, iV xg]⟩, ⟨B1 + 1, 28, [iV yi, iV yg]⟩]) (ob := fun B1 => []) (fun B1 => An) ?_
 clear hf hM; intro a w1 B1 hf hM hB hk
 have hbB1 : w.heap.size ≤ B1 := by have := hk0.size; omega
 have hk0 := hk0.then hk (by intro i _ h; cases h)
 clear hk hB
 refine wpList_nil ?_
 refine hK1 _ _ ?_
 refine wp_seq_k (fun K2 hK2 => ?_)
 refine wp_seq_k (fun K3 hK3 => ?_)
 refine wp_region_lit ?_
 refine sxcall hf rfl rfl rfl rfl (g := 12) (vs := []) (ob := []) (by as_aux_lemma => kernel_rfl) An enters12 (alive2  w1  ) ?_
 clear hf; rintro _ w2 a ⟨rfl, hk⟩ hf
 have hM := hM.keepNn hk
 have hk0 := hk0.trans hk.nn
 clear hk
 refine q0 hf hM [3, 2] [{}] (nw := [(8, eB false)]) An ?_
 clear hf; intro a hf
 refine wpList_nil ?_
 refine hK3 _ _ ?_
 refine sxcond hf (b := false) (by kernel_rfl) (fun h => by cases h) (fun _ => ?_)
 refine wp_skip ?_
 refine hK2 _ _ ?_
 refine wp_seq_k (fun K4 hK4 => ?_)
 refine wp_region_lit ?_
 refine q0 hf hM [3, 2] [{ os := [.ld 0 0, .ld 0 1] }, { os := [.ld 1 0, .ld 1 1] }] (nw := [(11, .val (.agg #[iV yi, iV yg])), (10, .val (.agg #[iV xi, iV xg]))]) (ob := [Ad B1 0, Ad B1 1, Ad (B1 + 1) 0, Ad (B1 + 1) 1]) (Ac (ad _ _) (Ac (ad _ _) (Ac (ad _ _) (Ao (ad _ _))))) ?_
 clear hf; intro a hf
 refine sxcall hf rfl rfl rfl rfl (g := 16) (vs := [.agg #[iV xi, iV xg], .agg #[iV yi, iV yg]]) (ob := []) (by as_aux_lemma => kernel_rfl) An enters16 (opair_ok xi xg yi yg w2 hn0 ) ?_
 clear hf; rintro _ w3 a ⟨rfl, hk⟩ hf
 have hM := hM.keepNn hk
 have hk0 := hk0.trans hk.nn
 clear hk
 refine q1 hf hM [3, 2] [{}, {}, {}, { os := [.nw] }, { os := [.st 2 0, .st 2 1, .st 2 2, .st 2 3] }, {}] (nw := fun B4 => [(6, eB true), (5, eP B4 0)]) (M' := fun B4 => [⟨B1, 28, [iV xi, iV xg]⟩, ⟨B1 + 1, 28, [iV yi, iV yg]⟩, ⟨B4, 31, [iV (nrmP ⟨⟨xi, xg⟩, ⟨yi, yg⟩⟩).a.i, iV (nrmP ⟨⟨xi, xg⟩, ⟨yi, yg⟩⟩).a.g, iV (nrmP ⟨⟨xi, xg⟩, ⟨yi, yg⟩⟩).b.i, iV (nrmP ⟨⟨xi, xg⟩, ⟨yi, yg⟩⟩).b.g]⟩]) (ob := fun B4 => [Ad B4 0, Ad B4 1, Ad B4 2, Ad B4 3]) (fun B4 => (Ac (ad _ _) (Ac (ad _ _) (Ac (ad _ _) (Ao (ad _ _)))))) ?_
 clear hf hM; intro a w4 B4 hf hM hB hk
 have hbB4 : w.heap.size ≤ B4 := by have := hk0.size; omega
 have hk0 := hk0.thenNew hk (by simp [Mem.names] <;> omega)
 clear hk hB
 refine wpList_nil ?_
 refine hK4 _ _ ?_
 refine wp_seq_k (fun K5 hK5 => ?_)
 refine wp_seq_k (fun K6 hK6 => ?_)
 replace hM := hM.drew; replace hk0 := hk0.drew
 obtain ⟨C1, hC1i, hC1e⟩ := qcls fun w' => MemOk [⟨B1, 28, [iV xi, iV xg]⟩, ⟨B1 + 1, 28, [iV yi, iV yg]⟩, ⟨B4, 31, [iV (nrmP ⟨⟨xi, xg⟩, ⟨yi, yg⟩⟩).a.i, iV (nrmP ⟨⟨xi, xg⟩, ⟨yi, yg⟩⟩).a.g, iV (nrmP ⟨⟨xi, xg⟩, ⟨yi, yg⟩⟩).b.i, iV (nrmP ⟨⟨xi, xg⟩, ⟨yi, yg⟩⟩).b.g]⟩] w' ∧ Keep Nn w w' ∧ True
 refine sxdraw (C := C1) (.leaf [(0, true), (1, true), (3, true), (4, true), (2, false), (5, false), (6, true), (7, true), (8, true), (9, true), (11, true), (12, true), (10, false), (13, false), (14, true), (15, true), (16, true), (17, true), (18, true), (19, true), (20, true), (21, true), (22, true)]) (by kernel_rfl) (by kernel_rfl) (by as_aux_lemma => kernel_rfl) rfl (by as_aux_lemma => kernel_rfl) (by kernel_rfl) (hC1i _ ⟨hM.sub (.cons_cons _ (.cons_cons _ (.cons_cons _ .slnil))), hk0, trivial⟩) ?_
 refine sxleaf ?_
 have hC := (hC1i _ ⟨hM.sub (.cons_cons _ (.cons_cons _ (.cons_cons _ .slnil))), hk0, trivial⟩)
 refine qd hf hC (fun w' h => (hC1e w' h).1) [6, 5, 3, 2] [{ os := [.ld 0 0, .ld 0 1] }, { os := [.ld 1 0, .ld 1 1] }, { os := [.ld 0 0, .ld 0 1] }, { os := [.ld 1 0, .ld 1 1] }] (nw := [(19, .val (.agg #[iV yi, iV yg])), (18, .val (.agg #[iV xi, iV xg])), (16, .val (.agg #[iV yi, iV yg])), (15, .val (.agg #[iV xi, iV xg]))]) (ob := [Ad B1 0, Ad B1 1, Ad (B1 + 1) 0, Ad (B1 + 1) 1, Ad B1 0, Ad B1 1, Ad (B1 + 1) 0, Ad (B1 + 1) 1]) (Ac (ad _ _) (Ac (ad _ _) (Ac (ad _ _) (Ac (ad _ _) (Ac (ad _ _) (Ac (ad _ _) (Ac (ad _ _) (Ao (ad _ _))))))))) ?_
 clear hf; intro a hf
 refine scstep rfl ?_
 refine sxcall hf rfl rfl rfl rfl (g := 17) (vs := [.agg #[iV xi, iV xg], .agg #[iV yi, iV yg]]) (ob := []) (by as_aux_lemma => kernel_rfl) An enters17 (oless xi xg yi yg w4.drew  ) ?_
 clear hf; rintro _ w5 a ⟨rfl, hk⟩ hf
 have hM := hM.keepNn hk
 have hk0 := hk0.trans hk.nn
 clear hk
 have hC := (hC1i _ ⟨hM.sub (.cons_cons _ (.cons_cons _ (.cons_cons _ .slnil))), hk0, trivial⟩)
 refine scdone hC ?_
 refine scstep rfl ?_
 refine sxcall hf rfl rfl rfl rfl (g := 18) (vs := [.agg #[iV xi, iV xg], .agg #[iV yi, iV yg]]) (ob := []) (by as_aux_lemma => kernel_rfl) An enters18 (rless xi xg yi yg w5  ) ?_
 clear hf; rintro _ w6 a ⟨rfl, hk⟩ hf
 have hM := hM.keepNn hk
 have hk0 := hk0.trans hk.nn
 clear hk
 have hC := (hC1i _ ⟨hM.sub (.cons_cons _ (.cons_cons _ (.cons_cons _ .slnil))), hk0, trivial⟩)
 refine scdone hC ?_
 refine qd hf hC (fun w' h => (hC1e w' h).1) [6, 5, 3, 2] [{ hint := some (bV false) }, {}, { os := [.ld 1 0, .ld 1 1] }, { os := [.ld 0 0, .ld 0 1] }, { os := [.ld 1 0, .ld 1 1] }, { os := [.ld 0 0, .ld 0 1] }] (nw := [(27, .val (.agg #[iV xi, iV xg])), (26, .val (.agg #[iV yi, iV yg])), (24, .val (.agg #[iV xi, iV xg])), (23, .val (.agg #[iV yi, iV yg])), (22, eB false)]) (ob := [(bV (!((ltH ⟨xi, xg⟩ ⟨yi, yg⟩) == (ltH ⟨xi, xg⟩ ⟨yi, yg⟩))) : Value) = (bV false : Value), false = false, Ad (B1 + 1) 0, Ad (B1 + 1) 1, false = false, Ad B1 0, Ad B1 1, false = false, Ad (B1 + 1) 0, Ad (B1 + 1) 1, false = false, Ad B1 0, Ad B1 1]) (Ac (by simp) (Ac rfl (Ac (ad _ _) (Ac (ad _ _) (Ac rfl (Ac (ad _ _) (Ac (ad _ _) (Ac rfl (Ac (ad _ _) (Ac (ad _ _) (Ac rfl (Ac (ad _ _) (Ao (ad _ _)))))))))))))) ?_
 clear hf; intro a hf
 refine scstep rfl ?_
 refine sxcallg hf rfl rfl rfl rfl rfl (g := 17) (vs := [.agg #[iV yi, iV yg], .agg #[iV xi, iV xg]]) (ob := []) (by as_aux_lemma => kernel_rfl) An enters17 (oless yi yg xi xg w6  ) ?_
 clear hf; rintro _ w7 a ⟨rfl, hk⟩ hf
 have hM := hM.keepNn hk
 have hk0 := hk0.trans hk.nn
 clear hk
 have hC := (hC1i _ ⟨hM.sub (.cons_cons _ (.cons_cons _ (.cons_cons _ .slnil))), hk0, trivial⟩)
 refine scdone hC ?_
 refine scstep rfl ?_
 refine sxcallg hf rfl rfl rfl rfl rfl (g := 18) (vs := [.agg #[iV yi, iV yg], .agg #[iV xi, iV xg]]) (ob := []) (by as_aux_lemma => kernel_rfl) An enters18 (rless yi yg xi xg w7  ) ?_
 clear hf; rintro _ w8 a ⟨rfl, hk⟩ hf
 have hM := hM.keepNn hk
 have hk0 := hk0.trans hk.nn
 clear hk
 have hC := (hC1i _ ⟨hM.sub (.cons_cons _ (.cons_cons _ (.cons_cons _ .slnil))), hk0, trivial⟩)
 refine scdone hC ?_
 refine qd hf hC (fun w' h => (hC1e w' h).1) [6, 5, 3, 2] [{ hint := some (bV false) }, {}, {}, {}, { os := [.ld 0 0, .ld 0 1] }, { os := [.ld 1 0, .ld 1 1] }, { sp := true, hint := some (bV (!(((xi : Int) == yi) && ((xg : Int) == yg)))) }, { hint := some (bV (((xi : Int) == yi) && ((xg : Int) == yg))) }, {}] (nw := [(37, eB (((xi : Int) == yi) && ((xg : Int) == yg)))]) (ob := [false = false, (bV (!((ltH ⟨yi, yg⟩ ⟨xi, xg⟩) == (ltH ⟨yi, yg⟩ ⟨xi, xg⟩))) : Value) = (bV false : Value), false = false, false = false, Ad B1 0, Ad B1 1, false = false, Ad (B1 + 1) 0, Ad (B1 + 1) 1, false = false, (bV (!(((xi : Int) == yi) && (((xg : Int) == yg) && true))) : Value) = (bV (!(((xi : Int) == yi) && ((xg : Int) == yg))) : Value), false = false, (bV (!(true == (!(((xi : Int) == yi) && ((xg : Int) == yg))))) : Value) = (bV (((xi : Int) == yi) && ((xg : Int) == yg)) : Value)]) (Ac rfl (Ac (by simp) (Ac rfl (Ac rfl (Ac (ad _ _) (Ac (ad _ _) (Ac rfl (Ac (ad _ _) (Ac (ad _ _) (Ac rfl (Ac (by simp) (Ac rfl (Ao (by simp)))))))))))))) ?_
 clear hf; intro a hf
 clear hC
 show K6 _ _
 refine hK6 _ _ ?_
 refine sxcond hf (b := (((xi : Int) == yi) && ((xg : Int) == yg))) (by kernel_rfl) (fun h => absurd h (by rw [hn0]; simp)) (fun _ => ?_)
 refine wp_skip ?_
 refine hK5 _ _ ?_
 refine wp_seq_k (fun K7 hK7 => ?_)
 refine wp_seq_k (fun K8 hK8 => ?_)
 refine wp_region_lit ?_
 refine q0 hf hM [5, 3, 2] [{}, {}] (nw := [(39, eB false)]) An ?_
 clear hf; intro a hf
 refine wpList_nil ?_
 refine hK8 _ _ ?_
 refine sxcond hf (b := false) (by kernel_rfl) (fun h => by cases h) (fun _ => ?_)
 refine wp_skip ?_
 refine hK7 _ _ ?_
 refine wp_seq_k (fun K9 hK9 => ?_)
 refine wp_region_lit ?_
 refine q0 hf hM [5, 3, 2] [{}, { os := [.ld 2 0, .ld 2 1] }, {}, { os := [.ld 2 2, .ld 2 3] }] (nw := [(46, .val (.agg #[iV (nrmP ⟨⟨xi, xg⟩, ⟨yi, yg⟩⟩).b.i, iV (nrmP ⟨⟨xi, xg⟩, ⟨yi, yg⟩⟩).b.g])), (44, .val (.agg #[iV (nrmP ⟨⟨xi, xg⟩, ⟨yi, yg⟩⟩).a.i, iV (nrmP ⟨⟨xi, xg⟩, ⟨yi, yg⟩⟩).a.g]))]) (ob := [Ad B4 0, Ad B4 1, Ad B4 2, Ad B4 3]) (Ac (ad _ _) (Ac (ad _ _) (Ac (ad _ _) (Ao (ad _ _))))) ?_
 clear hf; intro a hf
 refine sxcall hf rfl rfl rfl rfl (g := 18) (vs := [.agg #[iV (nrmP ⟨⟨xi, xg⟩, ⟨yi, yg⟩⟩).a.i, iV (nrmP ⟨⟨xi, xg⟩, ⟨yi, yg⟩⟩).a.g], .agg #[iV (nrmP ⟨⟨xi, xg⟩, ⟨yi, yg⟩⟩).b.i, iV (nrmP ⟨⟨xi, xg⟩, ⟨yi, yg⟩⟩).b.g]]) (ob := []) (by as_aux_lemma => kernel_rfl) An enters18 (rless (nrmP ⟨⟨xi, xg⟩, ⟨yi, yg⟩⟩).a.i (nrmP ⟨⟨xi, xg⟩, ⟨yi, yg⟩⟩).a.g (nrmP ⟨⟨xi, xg⟩, ⟨yi, yg⟩⟩).b.i (nrmP ⟨⟨xi, xg⟩, ⟨yi, yg⟩⟩).b.g w8  ) ?_
 clear hf; rintro _ w9 a ⟨rfl, hk⟩ hf
 have hM := hM.keepNn hk
 have hk0 := hk0.trans hk.nn
 clear hk
 refine q0 hf hM [5, 3, 2] [{}] (nw := [(48, eB (ltH ⟨(nrmP ⟨⟨xi, xg⟩, ⟨yi, yg⟩⟩).a.i, (nrmP ⟨⟨xi, xg⟩, ⟨yi, yg⟩⟩).a.g⟩ ⟨(nrmP ⟨⟨xi, xg⟩, ⟨yi, yg⟩⟩).b.i, (nrmP ⟨⟨xi, xg⟩, ⟨yi, yg⟩⟩).b.g⟩))]) An ?_
 clear hf; intro a hf
 have hf := hf.setb 48 hnl
 refine q0 hf hM [48, 5, 3, 2] [{ os := [.ld 2 0, .ld 2 1, .ld 2 2, .ld 2 3] }, { os := [.ld 0 0, .ld 0 1] }, { os := [.ld 1 0, .ld 1 1] }, { sp := true }, { sp := true, hint := some (bV ((((nrmP ⟨⟨xi, xg⟩, ⟨yi, yg⟩⟩).a.i : Int) == xi) && ((((nrmP ⟨⟨xi, xg⟩, ⟨yi, yg⟩⟩).a.g : Int) == xg) && ((((nrmP ⟨⟨xi, xg⟩, ⟨yi, yg⟩⟩).b.i : Int) == yi) && (((nrmP ⟨⟨xi, xg⟩, ⟨yi, yg⟩⟩).b.g : Int) == yg))))) }, {}] (nw := [(54, eB ((((nrmP ⟨⟨xi, xg⟩, ⟨yi, yg⟩⟩).a.i : Int) == xi) && ((((nrmP ⟨⟨xi, xg⟩, ⟨yi, yg⟩⟩).a.g : Int) == xg) && ((((nrmP ⟨⟨xi, xg⟩, ⟨yi, yg⟩⟩).b.i : Int) == yi) && (((nrmP ⟨⟨xi, xg⟩, ⟨yi, yg⟩⟩).b.g : Int) == yg)))))]) (ob := [true = true, Ad B4 0, Ad B4 1, Ad B4 2, Ad B4 3, true = true, Ad B1 0, Ad B1 1, true = true, Ad (B1 + 1) 0, Ad (B1 + 1) 1, true = true, true = true, (bV (((((nrmP ⟨⟨xi, xg⟩, ⟨yi, yg⟩⟩).a.i : Int) == xi) && ((((nrmP ⟨⟨xi, xg⟩, ⟨yi, yg⟩⟩).a.g : Int) == xg) && true)) && (((((nrmP ⟨⟨xi, xg⟩, ⟨yi, yg⟩⟩).b.i : Int) == yi) && ((((nrmP ⟨⟨xi, xg⟩, ⟨yi, yg⟩⟩).b.g : Int) == yg) && true)) && true)) : Value) = (bV ((((nrmP ⟨⟨xi, xg⟩, ⟨yi, yg⟩⟩).a.i : Int) == xi) && ((((nrmP ⟨⟨xi, xg⟩, ⟨yi, yg⟩⟩).a.g : Int) == xg) && ((((nrmP ⟨⟨xi, xg⟩, ⟨yi, yg⟩⟩).b.i : Int) == yi) && (((nrmP ⟨⟨xi, xg⟩, ⟨yi, yg⟩⟩).b.g : Int) == yg)))) : Value), true = true]) (Ac rfl (Ac (ad _ _) (Ac (ad _ _) (Ac (ad _ _) (Ac (ad _ _) (Ac rfl (Ac (ad _ _) (Ac (ad _ _) (Ac rfl (Ac (ad _ _) (Ac (ad _ _) (Ac rfl (Ac rfl (Ac (by simp [Bool.and_assoc, Bool.or_assoc]) (Ao rfl))))))))))))))) ?_
 clear hf; intro a hf
 have hf := hf.setb 54 he1
 refine q0 hf hM [] [{ os := [.ld 2 0, .ld 2 1, .ld 2 2, .ld 2 3] }, { os := [.ld 1 0, .ld 1 1] }, { os := [.ld 0 0, .ld 0 1] }, { sp := true }, { sp := true, hint := some (bV ((((nrmP ⟨⟨xi, xg⟩, ⟨yi, yg⟩⟩).a.i : Int) == yi) && ((((nrmP ⟨⟨xi, xg⟩, ⟨yi, yg⟩⟩).a.g : Int) == yg) && ((((nrmP ⟨⟨xi, xg⟩, ⟨yi, yg⟩⟩).b.i : Int) == xi) && (((nrmP ⟨⟨xi, xg⟩, ⟨yi, yg⟩⟩).b.g : Int) == xg))))) }, {}, {}, {}] (nw := [(4, eB ((((nrmP ⟨⟨xi, xg⟩, ⟨yi, yg⟩⟩).a.i : Int) == yi) && ((((nrmP ⟨⟨xi, xg⟩, ⟨yi, yg⟩⟩).a.g : Int) == yg) && ((((nrmP ⟨⟨xi, xg⟩, ⟨yi, yg⟩⟩).b.i : Int) == xi) && (((nrmP ⟨⟨xi, xg⟩, ⟨yi, yg⟩⟩).b.g : Int) == xg)))))]) (ob := [false = false, Ad B4 0, Ad B4 1, Ad B4 2, Ad B4 3, false = false, Ad (B1 + 1) 0, Ad (B1 + 1) 1, false = false, Ad B1 0, Ad B1 1, false = false, false = false, (bV (((((nrmP ⟨⟨xi, xg⟩, ⟨yi, yg⟩⟩).a.i : Int) == yi) && ((((nrmP ⟨⟨xi, xg⟩, ⟨yi, yg⟩⟩).a.g : Int) == yg) && true)) && (((((nrmP ⟨⟨xi, xg⟩, ⟨yi, yg⟩⟩).b.i : Int) == xi) && ((((nrmP ⟨⟨xi, xg⟩, ⟨yi, yg⟩⟩).b.g : Int) == xg) && true)) && true)) : Value) = (bV ((((nrmP ⟨⟨xi, xg⟩, ⟨yi, yg⟩⟩).a.i : Int) == yi) && ((((nrmP ⟨⟨xi, xg⟩, ⟨yi, yg⟩⟩).a.g : Int) == yg) && ((((nrmP ⟨⟨xi, xg⟩, ⟨yi, yg⟩⟩).b.i : Int) == xi) && (((nrmP ⟨⟨xi, xg⟩, ⟨yi, yg⟩⟩).b.g : Int) == xg)))) : Value), true = true]) (Ac rfl (Ac (ad _ _) (Ac (ad _ _) (Ac (ad _ _) (Ac (ad _ _) (Ac rfl (Ac (ad _ _) (Ac (ad _ _) (Ac rfl (Ac (ad _ _) (Ac (ad _ _) (Ac rfl (Ac rfl (Ac (by simp [Bool.and_assoc, Bool.or_assoc]) (Ao rfl))))))))))))))) ?_
 clear hf; intro a hf
 refine wpList_nil ?_
 refine hK9 _ _ ?_
 refine wp_ret ?_
 refine qr (fn := Try.f4) hf hM [] (l := [bV ((((nrmP ⟨⟨xi, xg⟩, ⟨yi, yg⟩⟩).a.i : Int) == yi) && ((((nrmP ⟨⟨xi, xg⟩, ⟨yi, yg⟩⟩).a.g : Int) == yg) && ((((nrmP ⟨⟨xi, xg⟩, ⟨yi, yg⟩⟩).b.i : Int) == xi) && (((nrmP ⟨⟨xi, xg⟩, ⟨yi, yg⟩⟩).b.g : Int) == xg))))]) (ob := []) An ?_
 show (bV ((((nrmP ⟨⟨xi, xg⟩, ⟨yi, yg⟩⟩).a.i : Int) == yi) && ((((nrmP ⟨⟨xi, xg⟩, ⟨yi, yg⟩⟩).a.g : Int) == yg) && ((((nrmP ⟨⟨xi, xg⟩, ⟨yi, yg⟩⟩).b.i : Int) == xi) && (((nrmP ⟨⟨xi, xg⟩, ⟨yi, yg⟩⟩).b.g : Int) == xg)))) : Value) = .bool true ∧ Keep Nn w w9
 refine ⟨congrArg Value.bool ?_, hk0⟩
 first | rfl | exact he2 | (simp; done)

theorem orderLess_any (xi xg yi yg : Int) (w : World) : Calls Try.prog 4 #[.agg #[iV xi, iV xg], .agg #[iV yi, iV yg]] w (Ret fun v w' => v = .bool true ∧ Keep Nn w w') := by
  rcases ordH.tri ⟨xi, xg⟩ ⟨yi, yg⟩ with h | h | h
  · exact ole_lt xi xg yi yg w (by have := ordH.ne h; simp at this; simp; omega) h (ordH.asym h)
  · simp only [H2.mk.injEq] at h
    obtain ⟨rfl, rfl⟩ := h
    exact ole_eq xi xg xi xg w (by simp) (ordH.irr _) (ordH.irr _)
  · exact ole_gt xi xg yi yg w (by have := ordH.ne h; simp at this; simp; omega) (ordH.asym h) h

set_option maxRecDepth 10000 in
set_option maxHeartbeats 1600000 in
theorem oto_eq (xi xg yi yg zi zg : Int) (w : World) (hn0 : (((xi : Int) == yi) && ((xg : Int) == yg)) = true) (hn1 : (ltH ⟨xi, xg⟩ ⟨yi, yg⟩) = false) (hn2 : (ltH ⟨yi, yg⟩ ⟨xi, xg⟩) = false) :
    Calls Try.prog 9 #[.agg #[iV xi, iV xg], .agg #[iV yi, iV yg], .agg #[iV zi, iV zg]] w (Ret fun v w' => v = .bool true ∧ Keep Nn w w') := by
 refine sxenter (n := 56) (args := [.agg #[iV xi, iV xg], .agg #[iV yi, iV yg], .agg #[iV zi, iV zg]]) Try.func9 rfl rfl rfl fun a hf => ?_
 replace hf : Fr 56 [(0, .val (.agg #[iV xi, iV xg])), (1, .val (.agg #[iV yi, iV yg])), (2, .val (.agg #[iV zi, iV zg]))] a := hf
 have hM : MemOk [] w := MemOk.nil w
 have hk0 : Keep Nn w w := Keep.refl _ _
 have hxx : ltH ⟨xi, xg⟩ ⟨xi, xg⟩ = false := ordH.irr _
 refine wp_seq_k (fun K1 hK1 => ?_)
 refine wp_region_lit ?_
 refine q1 hf hM [] [{ os := [.nw] }, { os := [.nw] }, { os := [.nw] }, {}] (nw := fun B1 => [(5, eP (B1 + 2) 0), (4, eP (B1 + 1) 0), (3, eP B1 0)]) (M' := fun B1 => [⟨B1, 28, [iV xi, iV xg]⟩, ⟨B1 + 1, 28, [iV yi, iV yg]⟩, ⟨B1 + 2, 28, [iV zi, iV zg]⟩]) (ob := fun B1 => []) (fun B1 => An) ?_
 clear hf hM; intro a w1 B1 hf hM hB hk
 have hbB1 : w.heap.size ≤ B1 := by have := hk0.size; omega
 have hk0 := hk0.then hk (by intro i _ h; cases h)
 clear hk hB
 refine wpList_nil ?_
 refine hK1 _ _ ?_
 refine wp_seq_k (fun K2 hK2 => ?_)
 refine wp_seq_k (fun K3 hK3 => ?_)
 refine wp_region_lit ?_
 refine sxcall hf rfl rfl rfl rfl (g := 12) (vs := []) (ob := []) (by as_aux_lemma => kernel_rfl) An enters12 (alive2  w1  ) ?_
 clear hf; rintro _ w2 a ⟨rfl, hk⟩ hf
 have hM := hM.keepNn hk
 have hk0 := hk0.trans hk.nn
 clear hk
 refine q0 hf hM [5, 4, 3] [{}] (nw := [(11, eB false)]) An ?_
 clear hf; intro a hf
 refine wpList_nil ?_
 refine hK3 _ _ ?_
 refine sxcond hf (b := false) (by kernel_rfl) (fun h => by cases h) (fun _ => ?_)
 refine wp_skip ?_
 refine hK2 _ _ ?_
 refine wp_seq_k (fun K4 hK4 => ?_)
 refine wp_region_lit ?_
 refine q0 hf hM [5, 4, 3] [{}] (nw := [(7, eI 0)]) An ?_
 clear hf; intro a hf
 refine wpList_nil ?_
 refine hK4 _ _ ?_
 refine wp_seq_k (fun K5 hK5 => ?_)
 refine wp_seq_k (fun K6 hK6 => ?_)
 replace hM := hM.drew; replace hk0 := hk0.drew
 obtain ⟨C1, hC1i, hC1e⟩ := qcls fun w' => MemOk [⟨B1, 28, [iV xi, iV xg]⟩, ⟨B1 + 1, 28, [iV yi, iV yg]⟩, ⟨B1 + 2, 28, [iV zi, iV zg]⟩] w' ∧ Keep Nn w w' ∧ True
 refine sxdraw (C := C1) (.leaf [(0, true), (1, true), (3, true), (4, true), (6, true), (7, true), (8, true), (11, true), (2, false), (5, false), (9, false), (10, true)]) (by kernel_rfl) (by kernel_rfl) (by as_aux_lemma => kernel_rfl) rfl (by as_aux_lemma => kernel_rfl) (by kernel_rfl) (hC1i _ ⟨hM.sub (.cons_cons _ (.cons_cons _ (.cons_cons _ .slnil))), hk0, trivial⟩) ?_
 refine sxleaf ?_
 have hC := (hC1i _ ⟨hM.sub (.cons_cons _ (.cons_cons _ (.cons_cons _ .slnil))), hk0, trivial⟩)
 refine qd hf hC (fun w' h => (hC1e w' h).1) [7, 5, 4, 3] [{ os := [.ld 0 0, .ld 0 1] }, { os := [.ld 1 0, .ld 1 1] }, { os := [.ld 1 0, .ld 1 1] }, { os := [.ld 0 0, .ld 0 1] }, { os := [.ld 0 0, .ld 0 1] }, { os := [.ld 1 0, .ld 1 1] }, { sp := true, hint := some (bV (((xi : Int) == yi) && ((xg : Int) == yg))) }, {}] (nw := [(23, eI 0), (20, eB (((xi : Int) == yi) && ((xg : Int) == yg))), (16, .val (.agg #[iV xi, iV xg])), (15, .val (.agg #[iV yi, iV yg])), (13, .val (.agg #[iV yi, iV yg])), (12, .val (.agg #[iV xi, iV xg]))]) (ob := [Ad B1 0, Ad B1 1, Ad (B1 + 1) 0, Ad (B1 + 1) 1, Ad (B1 + 1) 0, Ad (B1 + 1) 1, Ad B1 0, Ad B1 1, Ad B1 0, Ad B1 1, Ad (B1 + 1) 0, Ad (B1 + 1) 1, (bV (((xi : Int) == yi) && (((xg : Int) == yg) && true)) : Value) = (bV (((xi : Int) == yi) && ((xg : Int) == yg)) : Value)]) (Ac (ad _ _) (Ac (ad _ _) (Ac (ad _ _) (Ac (ad _ _) (Ac (ad _ _) (Ac (ad _ _) (Ac (ad _ _) (Ac (ad _ _) (Ac (ad _ _) (Ac (ad _ _) (Ac (ad _ _) (Ac (ad _ _) (Ao (by simp)))))))))))))) ?_
 clear hf; intro a hf
 refine scstep rfl ?_
 refine sxcall hf rfl rfl rfl rfl (g := 17) (vs := [.agg #[iV xi, iV xg], .agg #[iV yi, iV yg]]) (ob := []) (by as_aux_lemma => kernel_rfl) An enters17 (oless xi xg yi yg w2.drew  ) ?_
 clear hf; rintro _ w3 a ⟨rfl, hk⟩ hf
 have hM := hM.keepNn hk
 have hk0 := hk0.trans hk.nn
 clear hk
 have hC := (hC1i _ ⟨hM.sub (.cons_cons _ (.cons_cons _ (.cons_cons _ .slnil))), hk0, trivial⟩)
 refine scdone hC ?_
 refine scstep rfl ?_
 refine sxcall hf rfl rfl rfl rfl (g := 17) (vs := [.agg #[iV yi, iV yg], .agg #[iV xi, iV xg]]) (ob := []) (by as_aux_lemma => kernel_rfl) An enters17 (oless yi yg xi xg w3  ) ?_
 clear hf; rintro _ w4 a ⟨rfl, hk⟩ hf
 have hM := hM.keepNn hk
 have hk0 := hk0.trans hk.nn
 clear hk
 have hC := (hC1i _ ⟨hM.sub (.cons_cons _ (.cons_cons _ (.cons_cons _ .slnil))), hk0, trivial⟩)
 refine scdone hC ?_
 refine scstep rfl ?_
 refine sxbslice hf hM (t := 49) (e := 4) (len := 3) (cs := [bV (ltH ⟨xi, xg⟩ ⟨yi, yg⟩), bV (ltH ⟨yi, yg⟩ ⟨xi, xg⟩), bV (((xi : Int) == yi) && ((xg : Int) == yg))]) (ob := []) rfl rfl rfl rfl (by as_aux_lemma => kernel_rfl) An (by as_aux_lemma => kernel_rfl) ?_
 clear hf hM; intro a w5 B4 hf hM hB hk
 replace hM : MemOk [⟨B1, 28, [iV xi, iV xg]⟩, ⟨B1 + 1, 28, [iV yi, iV yg]⟩, ⟨B1 + 2, 28, [iV zi, iV zg]⟩, ⟨B4, 4, [bV (ltH ⟨xi, xg⟩ ⟨yi, yg⟩), bV (ltH ⟨yi, yg⟩ ⟨xi, xg⟩), bV (((xi : Int) == yi) && ((xg : Int) == yg))]⟩] w5 := hM
 have hbB4 : w.heap.size ≤ B4 := by have := hk0.size; omega
 have hk0 := hk0.trans hk.nn
 clear hk hB
 have hC := (hC1i _ ⟨hM.sub (.cons_cons _ (.cons_cons _ (.cons_cons _ (.cons _ .slnil)))), hk0, trivial⟩)
 refine scdone hC ?_
 refine qd hf hC (fun w' h => (hC1e w' h).1) [21, 23, 7, 5, 4, 3] [{}] (nw := [(22, eI 3)]) An ?_
 clear hf; intro a hf
 clear hC
 show K6 _ _
 refine hK6 _ _ ?_
 refine wp_block ?_
 refine wp_loop_rounds 4 ?_
 refine sxround (m := 3) fun L1 hL1 => ?_
 refine wp_seq_k (fun K7 hK7 => ?_)
 refine wp_region_lit ?_
 refine q0 hf hM [22, 21, 23, 7, 5, 4, 3] [{}] (nw := [(24, eB true)]) An ?_
 clear hf; intro a hf
 refine wpList_nil ?_
 refine hK7 _ _ ?_
 refine wp_seq_k (fun K8 hK8 => ?_)
 refine sxcond hf (b := true) (by kernel_rfl) (fun _ => ?_) (fun h => by cases h)
 refine wp_skip ?_
 refine hK8 _ _ ?_
 refine wp_seq_k (fun K9 hK9 => ?_)
 refine wp_block ?_
 refine wp_seq_k (fun K10 hK10 => ?_)
 refine wp_region_lit ?_
 refine q0 hf hM [22, 21, 23, 7, 5, 4, 3] [{ sp := true }, { os := [.ld 3 0] }, {}] (nw := [(9, eB (ltH ⟨xi, xg⟩ ⟨yi, yg⟩))]) (ob := [(0 : Int) ≤ 0 ∧ (0 : Int) < (3 : Int), (some ⟨B4, 0, none⟩ : Option Addr).isSome = true, Ad B4 0]) (Ac (by omega) (Ac rfl (Ao (ad _ _)))) ?_
 clear hf; intro a hf
 refine wpList_nil ?_
 refine hK10 _ _ ?_
 refine wp_seq_k (fun K11 hK11 => ?_)
 refine wp_region_lit ?_
 refine q0 hf hM [22, 21, 23, 7, 5, 4, 3] [{}] (nw := [(27, eB (ltH ⟨xi, xg⟩ ⟨yi, yg⟩))]) An ?_
 clear hf; intro a hf
 refine wpList_nil ?_
 refine hK11 _ _ ?_
 refine sxcond hf (b := ltH ⟨xi, xg⟩ ⟨yi, yg⟩) (by kernel_rfl) (fun h => absurd h (by rw [hn1]; simp)) (fun _ => ?_)
 refine wp_skip ?_
 refine hK9 _ _ ?_
 refine wp_region_lit ?_
 refine q0 hf hM [22, 21, 7, 5, 4, 3] [{}, {}] (nw := [(23, eI 1)]) An ?_
 clear hf; intro a hf
 refine wpList_nil ?_
 refine hL1 _ _ ?_
 refine sxround (m := 2) fun L2 hL2 => ?_
 refine wp_seq_k (fun K12 hK12 => ?_)
 refine wp_region_lit ?_
 refine q0 hf hM [23, 22, 21, 7, 5, 4, 3] [{}] (nw := [(24, eB true)]) An ?_
 clear hf; intro a hf
 refine wpList_nil ?_
 refine hK12 _ _ ?_
 refine wp_seq_k (fun K13 hK13 => ?_)
 refine sxcond hf (b := true) (by kernel_rfl) (fun _ => ?_) (fun h => by cases h)
 refine wp_skip ?_
 refine hK13 _ _ ?_
 refine wp_seq_k (fun K14 hK14 => ?_)
 refine wp_block ?_
 refine wp_seq_k (fun K15 hK15 => ?_)
 refine wp_region_lit ?_
 refine q0 hf hM [23, 22, 21, 7, 5, 4, 3] [{ sp := true }, { os := [.ld 3 1] }, {}] (nw := [(9, eB (ltH ⟨yi, yg⟩ ⟨xi, xg⟩))]) (ob := [(0 : Int) ≤ 1 ∧ (1 : Int) < (3 : Int), (some ⟨B4, 0, none⟩ : Option Addr).isSome = true, Ad B4 1]) (Ac (by omega) (Ac rfl (Ao (ad _ _)))) ?_
 clear hf; intro a hf
 refine wpList_nil ?_
 refine hK15 _ _ ?_
 refine wp_seq_k (fun K16 hK16 => ?_)
 refine wp_region_lit ?_
 refine q0 hf hM [23, 22, 21, 7, 5, 4, 3] [{}] (nw := [(27, eB (ltH ⟨yi, yg⟩ ⟨xi, xg⟩))]) An ?_
 clear hf; intro a hf
 refine wpList_nil ?_
 refine hK16 _ _ ?_
 refine sxcond hf (b := ltH ⟨yi, yg⟩ ⟨xi, xg⟩) (by kernel_rfl) (fun h => absurd h (by rw [hn2]; simp)) (fun _ => ?_)
 refine wp_skip ?_
 refine hK14 _ _ ?_
 refine wp_region_lit ?_
 refine q0 hf hM [22, 21, 7, 5, 4, 3] [{}, {}] (nw := [(23, eI 2)]) An ?_
 clear hf; intro a hf
 refine wpList_nil ?_
 refine hL2 _ _ ?_
 refine sxround (m := 1) fun L3 hL3 => ?_
 refine wp_seq_k (fun K17 hK17 => ?_)
 refine wp_region_lit ?_
 refine q0 hf hM [23, 22, 21, 7, 5, 4, 3] [{}] (nw := [(24, eB true)]) An ?_
 clear hf; intro a hf
 refine wpList_nil ?_
 refine hK17 _ _ ?_
 refine wp_seq_k (fun K18 hK18 => ?_)
 refine sxcond hf (b := true) (by kernel_rfl) (fun _ => ?_) (fun h => by cases h)
 refine wp_skip ?_
 refine hK18 _ _ ?_
 refine wp_seq_k (fun K19 hK19 => ?_)
 refine wp_block ?_
 refine wp_seq_k (fun K20 hK20 => ?_)
 refine wp_region_lit ?_
 refine q0 hf hM [23, 22, 21, 7, 5, 4, 3] [{ sp := true }, { os := [.ld 3 2] }, {}] (nw := [(9, eB (((xi : Int) == yi) && ((xg : Int) == yg)))]) (ob := [(0 : Int) ≤ 2 ∧ (2 : Int) < (3 : Int), (some ⟨B4, 0, none⟩ : Option Addr).isSome = true, Ad B4 2]) (Ac (by omega) (Ac rfl (Ao (ad _ _)))) ?_
 clear hf; intro a hf
 refine wpList_nil ?_
 refine hK20 _ _ ?_
 refine wp_seq_k (fun K21 hK21 => ?_)
 refine wp_region_lit ?_
 refine q0 hf hM [23, 22, 21, 7, 5, 4, 3] [{}] (nw := [(27, eB (((xi : Int) == yi) && ((xg : Int) == yg)))]) An ?_
 clear hf; intro a hf
 refine wpList_nil ?_
 refine hK21 _ _ ?_
 refine sxcond hf (b := (((xi : Int) == yi) && ((xg : Int) == yg))) (by kernel_rfl) (fun _ => ?_) (fun h => absurd h (by rw [hn0]; simp))
 refine wp_region_lit ?_
 refine q0 hf hM [23, 22, 21, 5, 4, 3] [{}, {}, {}] (nw := [(7, eI 1)]) An ?_
 clear hf; intro a hf
 refine wpList_nil ?_
 refine hK19 _ _ ?_
 refine wp_region_lit ?_
 refine q0 hf hM [7, 22, 21, 5, 4, 3] [{}, {}] (nw := [(23, eI 3)]) An ?_
 clear hf; intro a hf
 refine wpList_nil ?_
 refine hL3 _ _ ?_
 refine sxround (m := 0) fun L4 hL4 => ?_
 refine wp_seq_k (fun K22 hK22 => ?_)
 refine wp_region_lit ?_
 refine q0 hf hM [23, 7, 22, 21, 5, 4, 3] [{}] (nw := [(24, eB false)]) An ?_
 clear hf; intro a hf
 refine wpList_nil ?_
 refine hK22 _ _ ?_
 refine wp_seq_k (fun K23 hK23 => ?_)
 refine sxcond hf (b := false) (by kernel_rfl) (fun h => by cases h) (fun _ => ?_)
 refine wp_exit ?_
 refine hK5 _ _ ?_
 refine wp_seq_k (fun K24 hK24 => ?_)
 refine wp_region_lit ?_
 refine q0 hf hM [5, 4, 3] [{}, {}, {}, { os := [.ld 0 0, .ld 0 1] }, { os := [.ld 0 0, .ld 0 1] }] (nw := [(35, .val (.agg #[iV xi, iV xg])), (34, .val (.agg #[iV xi, iV xg])), (33, eB true)]) (ob := [true = true, Ad B1 0, Ad B1 1, true = true, Ad B1 0, Ad B1 1]) (Ac rfl (Ac (ad _ _) (Ac (ad _ _) (Ac rfl (Ac (ad _ _) (Ao (ad _ _))))))) ?_
 clear hf; intro a hf
 refine sxcallg hf rfl rfl rfl rfl rfl (g := 17) (vs := [.agg #[iV xi, iV xg], .agg #[iV xi, iV xg]]) (ob := []) (by as_aux_lemma => kernel_rfl) An enters17 (oless xi xg xi xg w5  ) ?_
 clear hf; rintro _ w6 a ⟨rfl, hk⟩ hf
 have hM := hM.keepNn hk
 have hk0 := hk0.trans hk.nn
 clear hk
 refine q0 hf hM [5, 4, 3] [{}, {}, {}] (nw := [(39, eB (!(ltH ⟨xi, xg⟩ ⟨xi, xg⟩)))]) (ob := [true = true]) (Ao rfl) ?_
 clear hf; intro a hf
 have hf := hf.setb 39 (by simp [hxx] : (!(ltH ⟨xi, xg⟩ ⟨xi, xg⟩) : Bool) = true)
 refine q0 hf hM [39, 5, 4, 3] [{ os := [.ld 0 0, .ld 0 1] }, { os := [.ld 1 0, .ld 1 1] }] (nw := [(41, .val (.agg #[iV yi, iV yg])), (40, .val (.agg #[iV xi, iV xg]))]) (ob := [true = true, Ad B1 0, Ad B1 1, true = true, Ad (B1 + 1) 0, Ad (B1 + 1) 1]) (Ac rfl (Ac (ad _ _) (Ac (ad _ _) (Ac rfl (Ac (ad _ _) (Ao (ad _ _))))))) ?_
 clear hf; intro a hf
 refine sxcallg hf rfl rfl rfl rfl rfl (g := 17) (vs := [.agg #[iV xi, iV xg], .agg #[iV yi, iV yg]]) (ob := []) (by as_aux_lemma => kernel_rfl) An enters17 (oless xi xg yi yg w6  ) ?_
 clear hf; rintro _ w7 a ⟨rfl, hk⟩ hf
 have hM := hM.keepNn hk
 have hk0 := hk0.trans hk.nn
 clear hk
 refine q0 hf hM [39, 5, 4, 3] [{}, {}] (nw := [(44, eB (!(ltH ⟨xi, xg⟩ ⟨yi, yg⟩)))]) (ob := [true = true, true = true]) (Ac rfl (Ao rfl)) ?_
 clear hf; intro a hf
 have hf := hf.setb 44 (by simp [hn1] : (!(ltH ⟨xi, xg⟩ ⟨yi, yg⟩) : Bool) = true)
 refine q0 hf hM [44, 39, 5, 3] [{ g := .off }, { g := .off }] (nw := [(46, .val (undef)), (45, .val (undef))]) (ob := [true = !false, true = !false]) (Ac rfl (Ao rfl)) ?_
 clear hf; intro a hf
 refine q0 hf hM [39] [{ g := .off }, { g := .off }, {}, {}, { g := .off }, { g := .off }] (nw := [(52, .val (undef)), (51, .val (undef)), (50, eB true)]) (ob := [true = !false, true = !false, true = true, true = true, true = !false, true = !false]) (Ac rfl (Ac rfl (Ac rfl (Ac rfl (Ac rfl (Ao rfl)))))) ?_
 clear hf; intro a hf
 refine q0 hf hM [] [{ g := .off }, {}, {}, {}] (nw := [(6, eB true)]) (ob := [true = !false, true = true]) (Ac rfl (Ao rfl)) ?_
 clear hf; intro a hf
 refine wpList_nil ?_
 refine hK24 _ _ ?_
 refine wp_ret ?_
 refine qr (fn := Try.f9) hf hM [] (l := [bV true]) (ob := []) An ?_
 show (bV true : Value) = .bool true ∧ Keep Nn w w7
 refine ⟨congrArg Value.bool ?_, hk0⟩
 first | rfl | (simp_all; done) | (have h5 := ordH.tr _ _ _ hn1 ‹ltH ⟨yi, yg⟩ ⟨zi, zg⟩ = true›; simp_all; done)

set_option maxRecDepth 10000 in
set_option maxHeartbeats 1600000 in
theorem oto_lt (xi xg yi yg zi zg : Int) (w : World) (hn0 : (((xi : Int) == yi) && ((xg : Int) == yg)) = false) (hn1 : (ltH ⟨xi, xg⟩ ⟨yi, yg⟩) = true) (hn2 : (ltH ⟨yi, yg⟩ ⟨xi, xg⟩) = false) :
    Calls Try.prog 9 #[.agg #[iV xi, iV xg], .agg #[iV yi, iV yg], .agg #[iV zi, iV zg]] w (Ret fun v w' => v = .bool true ∧ Keep Nn w w') := by
 refine sxenter (n := 56) (args := [.agg #[iV xi, iV xg], .agg #[iV yi, iV yg], .agg #[iV zi, iV zg]]) Try.func9 rfl rfl rfl fun a hf => ?_
 replace hf : Fr 56 [(0, .val (.agg #[iV xi, iV xg])), (1, .val (.agg #[iV yi, iV yg])), (2, .val (.agg #[iV zi, iV zg]))] a := hf
 have hM : MemOk [] w := MemOk.nil w
 have hk0 : Keep Nn w w := Keep.refl _ _
 have hxx : ltH ⟨xi, xg⟩ ⟨xi, xg⟩ = false := ordH.irr _
 refine wp_seq_k (fun K1 hK1 => ?_)
 refine wp_region_lit ?_
 refine q1 hf hM [] [{ os := [.nw] }, { os := [.nw] }, { os := [.nw] }, {}] (nw := fun B1 => [(5, eP (B1 + 2) 0), (4, eP (B1 + 1) 0), (3, eP B1 0)]) (M' := fun B1 => [⟨B1, 28, [iV xi, iV xg]⟩, ⟨B1 + 1, 28, [iV yi, iV yg]⟩, ⟨B1 + 2, 28, [iV zi, iV zg]⟩]) (ob := fun B1 => []) (fun B1 => An) ?_
 clear hf hM; intro a w1 B1 hf hM hB hk
 have hbB1 : w.heap.size ≤ B1 := by have := hk0.size; omega
 have hk0 := hk0.then hk (by intro i _ h; cases h)
 clear hk hB
 refine wpList_nil ?_
 refine hK1 _ _ ?_
 refine wp_seq_k (fun K2 hK2 => ?_)
 refine wp_seq_k (fun K3 hK3 => ?_)
 refine wp_region_lit ?_
 refine sxcall hf rfl rfl rfl rfl (g := 12) (vs := []) (ob := []) (by as_aux_lemma => kernel_rfl) An enters12 (alive2  w1  ) ?_
 clear hf; rintro _ w2 a ⟨rfl, hk⟩ hf
 have hM := hM.keepNn hk
 have hk0 := hk0.trans hk.nn
 clear hk
 refine q0 hf hM [5, 4, 3] [{}] (nw := [(11, eB false)]) An ?_
 clear hf; intro a hf
 refine wpList_nil ?_
 refine hK3 _ _ ?_
 refine sxcond hf (b := false) (by kernel_rfl) (fun h => by cases h) (fun _ => ?_)
 refine wp_skip ?_
 refine hK2 _ _ ?_
 refine wp_seq_k (fun K4 hK4 => ?_)
 refine wp_region_lit ?_
 refine q0 hf hM [5, 4, 3] [{}] (nw := [(7, eI 0)]) An ?_
 clear hf; intro a hf
 refine wpList_nil ?_
 refine hK4 _ _ ?_
 refine wp_seq_k (fun K5 hK5 => ?_)
 refine wp_seq_k (fun K6 hK6 => ?_)
 replace hM := hM.drew; replace hk0 := hk0.drew
 obtain ⟨C1, hC1i, hC1e⟩ := qcls fun w' => MemOk [⟨B1, 28, [iV xi, iV xg]⟩, ⟨B1 + 1, 28, [iV yi, iV yg]⟩, ⟨B1 + 2, 28, [iV zi, iV zg]⟩] w' ∧ Keep Nn w w' ∧ True
 refine sxdraw (C := C1) (.leaf [(0, true), (1, true), (3, true), (4, true), (6, true), (7, true), (8, true), (11, true), (2, false), (5, false), (9, false), (10, true)]) (by kernel_rfl) (by kernel_rfl) (by as_aux_lemma => kernel_rfl) rfl (by as_aux_lemma => kernel_rfl) (by kernel_rfl) (hC1i _ ⟨hM.sub (.cons_cons _ (.cons_cons _ (.cons_cons _ .slnil))), hk0, trivial⟩) ?_
 refine sxleaf ?_
 have hC := (hC1i _ ⟨hM.sub (.cons_cons _ (.cons_cons _ (.cons_cons _ .slnil))), hk0, trivial⟩)
 refine qd hf hC (fun w' h => (hC1e w' h).1) [7, 5, 4, 3] [{ os := [.ld 0 0, .ld 0 1] }, { os := [.ld 1 0, .ld 1 1] }, { os := [.ld 1 0, .ld 1 1] }, { os := [.ld 0 0, .ld 0 1] }, { os := [.ld 0 0, .ld 0 1] }, { os := [.ld 1 0, .ld 1 1] }, { sp := true, hint := some (bV (((xi : Int) == yi) && ((xg : Int) == yg))) }, {}] (nw := [(23, eI 0), (20, eB (((xi : Int) == yi) && ((xg : Int) == yg))), (16, .val (.agg #[iV xi, iV xg])), (15, .val (.agg #[iV yi, iV yg])), (13, .val (.agg #[iV yi, iV yg])), (12, .val (.agg #[iV xi, iV xg]))]) (ob := [Ad B1 0, Ad B1 1, Ad (B1 + 1) 0, Ad (B1 + 1) 1, Ad (B1 + 1) 0, Ad (B1 + 1) 1, Ad B1 0, Ad B1 1, Ad B1 0, Ad B1 1, Ad (B1 + 1) 0, Ad (B1 + 1) 1, (bV (((xi : Int) == yi) && (((xg : Int) == yg) && true)) : Value) = (bV (((xi : Int) == yi) && ((xg : Int) == yg)) : Value)]) (Ac (ad _ _) (Ac (ad _ _) (Ac (ad _ _) (Ac (ad _ _) (Ac (ad _ _) (Ac (ad _ _) (Ac (ad _ _) (Ac (ad _ _) (Ac (ad _ _) (Ac (ad _ _) (Ac (ad _ _) (Ac (ad _ _) (Ao (by simp)))))))))))))) ?_
 clear hf; intro a hf
 refine scstep rfl ?_
 refine sxcall hf rfl rfl rfl rfl (g := 17) (vs := [.agg #[iV xi, iV xg], .agg #[iV yi, iV yg]]) (ob := []) (by as_aux_lemma => kernel_rfl) An enters17 (oless xi xg yi yg w2.drew  ) ?_
 clear hf; rintro _ w3 a ⟨rfl, hk⟩ hf
 have hM := hM.keepNn hk
 have hk0 := hk0.trans hk.nn
 clear hk
 have hC := (hC1i _ ⟨hM.sub (.cons_cons _ (.cons_cons _ (.cons_cons _ .slnil))), hk0, trivial⟩)
 refine scdone hC ?_
 refine scstep rfl ?_
 refine sxcall hf rfl rfl rfl rfl (g := 17) (vs := [.agg #[iV yi, iV yg], .agg #[iV xi, iV xg]]) (ob := []) (by as_aux_lemma => kernel_rfl) An enters17 (oless yi yg xi xg w3  ) ?_
 clear hf; rintro _ w4 a ⟨rfl, hk⟩ hf
 have hM := hM.keepNn hk
 have hk0 := hk0.trans hk.nn
 clear hk
 have hC := (hC1i _ ⟨hM.sub (.cons_cons _ (.cons_cons _ (.cons_cons _ .slnil))), hk0, trivial⟩)
 refine scdone hC ?_
 refine scstep rfl ?_
 refine sxbslice hf hM (t := 49) (e := 4) (len := 3) (cs := [bV (ltH ⟨xi, xg⟩ ⟨yi, yg⟩), bV (ltH ⟨yi, yg⟩ ⟨xi, xg⟩), bV (((xi : Int) == yi) && ((xg : Int) == yg))]) (ob := []) rfl rfl rfl rfl (by as_aux_lemma => kernel_rfl) An (by as_aux_lemma => kernel_rfl) ?_
 clear hf hM; intro a w5 B4 hf hM hB hk
 replace hM : MemOk [⟨B1, 28, [iV xi, iV xg]⟩, ⟨B1 + 1, 28, [iV yi, iV yg]⟩, ⟨B1 + 2, 28, [iV zi, iV zg]⟩, ⟨B4, 4, [bV (ltH ⟨xi, xg⟩ ⟨yi, yg⟩), bV (ltH ⟨yi, yg⟩ ⟨xi, xg⟩), bV (((xi : Int) == yi) && ((xg : Int) == yg))]⟩] w5 := hM
 have hbB4 : w.heap.size ≤ B4 := by have := hk0.size; omega
 have hk0 := hk0.trans hk.nn
 clear hk hB
 have hC := (hC1i _ ⟨hM.sub (.cons_cons _ (.cons_cons _ (.cons_cons _ (.cons _ .slnil)))), hk0, trivial⟩)
 refine scdone hC ?_
 refine qd hf hC (fun w' h => (hC1e w' h).1) [21, 23, 7, 5, 4, 3] [{}] (nw := [(22, eI 3)]) An ?_
 clear hf; intro a hf
 clear hC
 show K6 _ _
 refine hK6 _ _ ?_
 refine wp_block ?_
 refine wp_loop_rounds 4 ?_
 refine sxround (m := 3) fun L1 hL1 => ?_
 refine wp_seq_k (fun K7 hK7 => ?_)
 refine wp_region_lit ?_
 refine q0 hf hM [22, 21, 23, 7, 5, 4, 3] [{}] (nw := [(24, eB true)]) An ?_
 clear hf; intro a hf
 refine wpList_nil ?_
 refine hK7 _ _ ?_
 refine wp_seq_k (fun K8 hK8 => ?_)
 refine sxcond hf (b := true) (by kernel_rfl) (fun _ => ?_) (fun h => by cases h)
 refine wp_skip ?_
 refine hK8 _ _ ?_
 refine wp_seq_k (fun K9 hK9 => ?_)
 refine wp_block ?_
 refine wp_seq_k (fun K10 hK10 => ?_)
 refine wp_region_lit ?_
 refine q0 hf hM [22, 21, 23, 7, 5, 4, 3] [{ sp := true }, { os := [.ld 3 0] }, {}] (nw := [(9, eB (ltH ⟨xi, xg⟩ ⟨yi, yg⟩))]) (ob := [(0 : Int) ≤ 0 ∧ (0 : Int) < (3 : Int), (some ⟨B4, 0, none⟩ : Option Addr).isSome = true, Ad B4 0]) (Ac (by omega) (Ac rfl (Ao (ad _ _)))) ?_
 clear hf; intro a hf
 refine wpList_nil ?_
 refine hK10 _ _ ?_
 refine wp_seq_k (fun K11 hK11 => ?_)
 refine wp_region_lit ?_
 refine q0 hf hM [22, 21, 23, 7, 5, 4, 3] [{}] (nw := [(27, eB (ltH ⟨xi, xg⟩ ⟨yi, yg⟩))]) An ?_
 clear hf; intro a hf
 refine wpList_nil ?_
 refine hK11 _ _ ?_
 refine sxcond hf (b := ltH ⟨xi, xg⟩ ⟨yi, yg⟩) (by kernel_rfl) (fun _ => ?_) (fun h => absurd h (by rw [hn1]; simp))
 refine wp_region_lit ?_
 refine q0 hf hM [22, 21, 23, 5, 4, 3] [{}, {}, {}] (nw := [(7, eI 1)]) An ?_
 clear hf; intro a hf
 refine wpList_nil ?_
 refine hK9 _ _ ?_
 refine wp_region_lit ?_
 refine q0 hf hM [7, 22, 21, 5, 4, 3] [{}, {}] (nw := [(23, eI 1)]) An ?_
 clear hf; intro a hf
 refine wpList_nil ?_
 refine hL1 _ _ ?_
 refine sxround (m := 2) fun L2 hL2 => ?_
 refine wp_seq_k (fun K12 hK12 => ?_)
 refine wp_region_lit ?_
 refine q0 hf hM [23, 7, 22, 21, 5, 4, 3] [{}] (nw := [(24, eB true)]) An ?_
 clear hf; intro a hf
 refine wpList_nil ?_
 refine hK12 _ _ ?_
 refine wp_seq_k (fun K13 hK13 => ?_)
 refine sxcond hf (b := true) (by kernel_rfl) (fun _ => ?_) (fun h => by cases h)
 refine wp_skip ?_
 refine hK13 _ _ ?_
 refine wp_seq_k (fun K14 hK14 => ?_)
 refine wp_block ?_
 refine wp_seq_k (fun K15 hK15 => ?_)
 refine wp_region_lit ?_
 refine q0 hf hM [23, 7, 22, 21, 5, 4, 3] [{ sp := true }, { os := [.ld 3 1] }, {}] (nw := [(9, eB (ltH ⟨yi, yg⟩ ⟨xi, xg⟩))]) (ob := [(0 : Int) ≤ 1 ∧ (1 : Int) < (3 : Int), (some ⟨B4, 0, none⟩ : Option Addr).isSome = true, Ad B4 1]) (Ac (by omega) (Ac rfl (Ao (ad _ _)))) ?_
 clear hf; intro a hf
 refine wpList_nil ?_
 refine hK15 _ _ ?_
 refine wp_seq_k (fun K16 hK16 => ?_)
 refine wp_region_lit ?_
 refine q0 hf hM [23, 7, 22, 21, 5, 4, 3] [{}] (nw := [(27, eB (ltH ⟨yi, yg⟩ ⟨xi, xg⟩))]) An ?_
 clear hf; intro a hf
 refine wpList_nil ?_
 refine hK16 _ _ ?_
 refine sxcond hf (b := ltH ⟨yi, yg⟩ ⟨xi, xg⟩) (by kernel_rfl) (fun h => absurd h (by rw [hn2]; simp)) (fun _ => ?_)
 refine wp_skip ?_
 refine hK14 _ _ ?_
 refine wp_region_lit ?_
 refine q0 hf hM [7, 22, 21, 5, 4, 3] [{}, {}] (nw := [(23, eI 2)]) An ?_
 clear hf; intro a hf
 refine wpList_nil ?_
 refine hL2 _ _ ?_
 refine sxround (m := 1) fun L3 hL3 => ?_
 refine wp_seq_k (fun K17 hK17 => ?_)
 refine wp_region_lit ?_
 refine q0 hf hM [23, 7, 22, 21, 5, 4, 3] [{}] (nw := [(24, eB true)]) An ?_
 clear hf; intro a hf
 refine wpList_nil ?_
 refine hK17 _ _ ?_
 refine wp_seq_k (fun K18 hK18 => ?_)
 refine sxcond hf (b := true) (by kernel_rfl) (fun _ => ?_) (fun h => by cases h)
 refine wp_skip ?_
 refine hK18 _ _ ?_
 refine wp_seq_k (fun K19 hK19 => ?_)
 refine wp_block ?_
 refine wp_seq_k (fun K20 hK20 => ?_)
 refine wp_region_lit ?_
 refine q0 hf hM [23, 7, 22, 21, 5, 4, 3] [{ sp := true }, { os := [.ld 3 2] }, {}] (nw := [(9, eB (((xi : Int) == yi) && ((xg : Int) == yg)))]) (ob := [(0 : Int) ≤ 2 ∧ (2 : Int) < (3 : Int), (some ⟨B4, 0, none⟩ : Option Addr).isSome = true, Ad B4 2]) (Ac (by omega) (Ac rfl (Ao (ad _ _)))) ?_
 clear hf; intro a hf
 refine wpList_nil ?_
 refine hK20 _ _ ?_
 refine wp_seq_k (fun K21 hK21 => ?_)
 refine wp_region_lit ?_
 refine q0 hf hM [23, 7, 22, 21, 5, 4, 3] [{}] (nw := [(27, eB (((xi : Int) == yi) && ((xg : Int) == yg)))]) An ?_
 clear hf; intro a hf
 refine wpList_nil ?_
 refine hK21 _ _ ?_
 refine sxcond hf (b := (((xi : Int) == yi) && ((xg : Int) == yg))) (by kernel_rfl) (fun h => absurd h (by rw [hn0]; simp)) (fun _ => ?_)
 refine wp_skip ?_
 refine hK19 _ _ ?_
 refine wp_region_lit ?_
 refine q0 hf hM [7, 22, 21, 5, 4, 3] [{}, {}] (nw := [(23, eI 3)]) An ?_
 clear hf; intro a hf
 refine wpList_nil ?_
 refine hL3 _ _ ?_
 refine sxround (m := 0) fun L4 hL4 => ?_
 refine wp_seq_k (fun K22 hK22 => ?_)
 refine wp_region_lit ?_
 refine q0 hf hM [23, 7, 22, 21, 5, 4, 3] [{}] (nw := [(24, eB false)]) An ?_
 clear hf; intro a hf
 refine wpList_nil ?_
 refine hK22 _ _ ?_
 refine wp_seq_k (fun K23 hK23 => ?_)
 refine sxcond hf (b := false) (by kernel_rfl) (fun h => by cases h) (fun _ => ?_)
 refine wp_exit ?_
 refine hK5 _ _ ?_
 refine wp_seq_k (fun K24 hK24 => ?_)
 refine wp_region_lit ?_
 refine q0 hf hM [5, 4, 3] [{}, {}, {}, { os := [.ld 0 0, .ld 0 1] }, { os := [.ld 0 0, .ld 0 1] }] (nw := [(35, .val (.agg #[iV xi, iV xg])), (34, .val (.agg #[iV xi, iV xg])), (33, eB true)]) (ob := [true = true, Ad B1 0, Ad B1 1, true = true, Ad B1 0, Ad B1 1]) (Ac rfl (Ac (ad _ _) (Ac (ad _ _) (Ac rfl (Ac (ad _ _) (Ao (ad _ _))))))) ?_
 clear hf; intro a hf
 refine sxcallg hf rfl rfl rfl rfl rfl (g := 17) (vs := [.agg #[iV xi, iV xg], .agg #[iV xi, iV xg]]) (ob := []) (by as_aux_lemma => kernel_rfl) An enters17 (oless xi xg xi xg w5  ) ?_
 clear hf; rintro _ w6 a ⟨rfl, hk⟩ hf
 have hM := hM.keepNn hk
 have hk0 := hk0.trans hk.nn
 clear hk
 refine q0 hf hM [5, 4, 3] [{}, {}, {}] (nw := [(39, eB (!(ltH ⟨xi, xg⟩ ⟨xi, xg⟩)))]) (ob := [true = true]) (Ao rfl) ?_
 clear hf; intro a hf
 have hf := hf.setb 39 (by simp [hxx] : (!(ltH ⟨xi, xg⟩ ⟨xi, xg⟩) : Bool) = true)
 refine q0 hf hM [39, 5, 4, 3] [{ os := [.ld 0 0, .ld 0 1] }, { os := [.ld 1 0, .ld 1 1] }] (nw := [(41, .val (.agg #[iV yi, iV yg])), (40, .val (.agg #[iV xi, iV xg]))]) (ob := [true = true, Ad B1 0, Ad B1 1, true = true, Ad (B1 + 1) 0, Ad (B1 + 1) 1]) (Ac rfl (Ac (ad _ _) (Ac (ad _ _) (Ac rfl (Ac (ad _ _) (Ao (ad _ _))))))) ?_
 clear hf; intro a hf
 refine sxcallg hf rfl rfl rfl rfl rfl (g := 17) (vs := [.agg #[iV xi, iV xg], .agg #[iV yi, iV yg]]) (ob := []) (by as_aux_lemma => kernel_rfl) An enters17 (oless xi xg yi yg w6  ) ?_
 clear hf; rintro _ w7 a ⟨rfl, hk⟩ hf
 have hM := hM.keepNn hk
 have hk0 := hk0.trans hk.nn
 clear hk
 refine q0 hf hM [39, 5, 4, 3] [{}, {}] (nw := [(44, eB (!(ltH ⟨xi, xg⟩ ⟨yi, yg⟩)))]) (ob := [true = true, true = true]) (Ac rfl (Ao rfl)) ?_
 clear hf; intro a hf
 have hf := hf.setb 44 (by simp [hn1] : (!(ltH ⟨xi, xg⟩ ⟨yi, yg⟩) : Bool) = false)
 refine q0 hf hM [44, 39, 5, 3] [{ os := [.ld 1 0, .ld 1 1] }, { os := [.ld 2 0, .ld 2 1] }] (nw := [(46, .val (.agg #[iV zi, iV zg])), (45, .val (.agg #[iV yi, iV yg]))]) (ob := [false = false, Ad (B1 + 1) 0, Ad (B1 + 1) 1, false = false, Ad (B1 + 2) 0, Ad (B1 + 2) 1]) (Ac rfl (Ac (ad _ _) (Ac (ad _ _) (Ac rfl (Ac (ad _ _) (Ao (ad _ _))))))) ?_
 clear hf; intro a hf
 refine sxcallg hf rfl rfl rfl rfl rfl (g := 17) (vs := [.agg #[iV yi, iV yg], .agg #[iV zi, iV zg]]) (ob := []) (by as_aux_lemma => kernel_rfl) An enters17 (oless yi yg zi zg w7  ) ?_
 clear hf; rintro _ w8 a ⟨rfl, hk⟩ hf
 have hM := hM.keepNn hk
 have hk0 := hk0.trans hk.nn
 clear hk
 refine q0 hf hM [39, 5, 3] [{}, {}, {}] (nw := [(50, eB (!(ltH ⟨yi, yg⟩ ⟨zi, zg⟩)))]) (ob := [false = false, true = true, true = true]) (Ac rfl (Ac rfl (Ao rfl))) ?_
 clear hf; intro a hf
 rcases Bool.eq_false_or_eq_true (!(ltH ⟨yi, yg⟩ ⟨zi, zg⟩)) with hg1r | hg1r
 · have hg1 := hg1r
   try simp only [Bool.or_eq_true, Bool.and_eq_true, Bool.not_eq_true', Bool.not_eq_false', Bool.or_eq_false_iff, Bool.and_eq_false_iff, decide_eq_true_eq, decide_eq_false_iff_not, beq_iff_eq, bne_iff_ne, beq_eq_false_iff_ne, bne_eq_false_iff_eq, Bool.and_true, Bool.true_and, ne_eq] at hg1
   have hf := hf.setb 50 hg1r
   refine q0 hf hM [50, 39] [{ g := .off }, { g := .off }] (nw := [(52, .val (undef)), (51, .val (undef))]) (ob := [true = !false, true = !false]) (Ac rfl (Ao rfl)) ?_
   clear hf; intro a hf
   refine q0 hf hM [] [{ g := .off }, {}, {}, {}] (nw := [(6, eB true)]) (ob := [true = !false, true = true]) (Ac rfl (Ao rfl)) ?_
   clear hf; intro a hf
   refine wpList_nil ?_
   refine hK24 _ _ ?_
   refine wp_ret ?_
   refine qr (fn := Try.f9) hf hM [] (l := [bV true]) (ob := []) An ?_
   show (bV true : Value) = .bool true ∧ Keep Nn w w8
   refine ⟨congrArg Value.bool ?_, hk0⟩
   first | rfl | (simp_all; done) | (have h5 := ordH.tr _ _ _ hn1 ‹ltH ⟨yi, yg⟩ ⟨zi, zg⟩ = true›; simp_all; done)
 · have hg1 := hg1r
   try simp only [Bool.or_eq_true, Bool.and_eq_true, Bool.not_eq_true', Bool.not_eq_false', Bool.or_eq_false_iff, Bool.and_eq_false_iff, decide_eq_true_eq, decide_eq_false_iff_not, beq_iff_eq, bne_iff_ne, beq_eq_false_iff_ne, bne_eq_false_iff_eq, Bool.and_true, Bool.true_and, ne_eq] at hg1
   have hf := hf.setb 50 hg1r
   refine q0 hf hM [50, 39] [{ os := [.ld 0 0, .ld 0 1] }, { os := [.ld 2 0, .ld 2 1] }] (nw := [(52, .val (.agg #[iV zi, iV zg])), (51, .val (.agg #[iV xi, iV xg]))]) (ob := [false = false, Ad B1 0, Ad B1 1, false = false, Ad (B1 + 2) 0, Ad (B1 + 2) 1]) (Ac rfl (Ac (ad _ _) (Ac (ad _ _) (Ac rfl (Ac (ad _ _) (Ao (ad _ _))))))) ?_
   clear hf; intro a hf
   refine sxcallg hf rfl rfl rfl rfl rfl (g := 17) (vs := [.agg #[iV xi, iV xg], .agg #[iV zi, iV zg]]) (ob := []) (by as_aux_lemma => kernel_rfl) An enters17 (oless xi xg zi zg w8  ) ?_
   clear hf; rintro _ w9 a ⟨rfl, hk⟩ hf
   have hM := hM.keepNn hk
   have hk0 := hk0.trans hk.nn
   clear hk
   refine q0 hf hM [] [{}, {}, {}] (nw := [(6, eB (ltH ⟨xi, xg⟩ ⟨zi, zg⟩))]) (ob := [true = true]) (Ao rfl) ?_
   clear hf; intro a hf
   refine wpList_nil ?_
   refine hK24 _ _ ?_
   refine wp_ret ?_
   refine qr (fn := Try.f9) hf hM [] (l := [bV (ltH ⟨xi, xg⟩ ⟨zi, zg⟩)]) (ob := []) An ?_
   show (bV (ltH ⟨xi, xg⟩ ⟨zi, zg⟩) : Value) = .bool true ∧ Keep Nn w w9
   refine ⟨congrArg Value.bool ?_, hk0⟩
   first | rfl | (simp_all; done) | (have h5 := ordH.tr _ _ _ hn1 ‹ltH ⟨yi, yg⟩ ⟨zi, zg⟩ = true›; simp_all; done)

set_option maxRecDepth 10000 in
set_option maxHeartbeats 1600000 in
theorem oto_gt (xi xg yi yg zi zg : Int) (w : World) (hn0 : (((xi : Int) == yi) && ((xg : Int) == yg)) = false) (hn1 : (ltH ⟨xi, xg⟩ ⟨yi, yg⟩) = false) (hn2 : (ltH ⟨yi, yg⟩ ⟨xi, xg⟩) = true) :
    Calls Try.prog 9 #[.agg #[iV xi, iV xg], .agg #[iV yi, iV yg], .agg #[iV zi, iV zg]] w (Ret fun v w' => v = .bool true ∧ Keep Nn w w') := by
 refine sxenter (n := 56) (args := [.agg #[iV xi, iV xg], .agg #[iV yi, iV yg], .agg #[iV zi, iV zg]]) Try.func9 rfl rfl rfl fun a hf => ?_
 replace hf : Fr 56 [(0, .val (.agg #[iV xi, iV xg])), (1, .val (.agg #[iV yi, iV yg])), (2, .val (.agg #[iV zi, iV zg]))] a := hf
 have hM : MemOk [] w := MemOk.nil w
 have hk0 : Keep Nn w w := Keep.refl _ _
 have hxx : ltH ⟨xi, xg⟩ ⟨xi, xg⟩ = false := ordH.irr _
 refine wp_seq_k (fun K1 hK1 => ?_)
 refine wp_region_lit ?_
 refine q1 hf hM [] [{ os := [.nw] }, { os := [.nw] }, { os := [.nw] }, {}] (nw := fun B1 => [(5, eP (B1 + 2) 0), (4, eP (B1 + 1) 0), (3, eP B1 0)]) (M' := fun B1 => [⟨B1, 28, [iV xi, iV xg]⟩, ⟨B1 + 1, 28, [iV yi, iV yg]⟩, ⟨B1 + 2, 28, [iV zi, iV zg]⟩]) (ob := fun B1 => []) (fun B1 => An) ?_
 clear hf hM; intro a w1 B1 hf hM hB hk
 have hbB1 : w.heap.size ≤ B1 := by have := hk0.size; omega
 have hk0 := hk0.then hk (by intro i _ h; cases h)
 clear hk hB
 refine wpList_nil ?_
 refine hK1 _ _ ?_
 refine wp_seq_k (fun K2 hK2 => ?_)
 refine wp_seq_k (fun K3 hK3 => ?_)
 refine wp_region_lit ?_
 refine sxcall hf rfl rfl rfl rfl (g := 12) (vs := []) (ob := []) (by as_aux_lemma => kernel_rfl) An enters12 (alive2  w1  ) ?_
 clear hf; rintro _ w2 a ⟨rfl, hk⟩ hf
 have hM := hM.keepNn hk
 have hk0 := hk0.trans hk.nn
 clear hk
 refine q0 hf hM [5, 4, 3] [{}] (nw := [(11, eB false)]) An ?_
 clear hf; intro a hf
 refine wpList_nil ?_
 refine hK3 _ _ ?_
 refine sxcond hf (b := false) (by kernel_rfl) (fun h => by cases h) (fun _ => ?_)
 refine wp_skip ?_
 refine hK2 _ _ ?_
 refine wp_seq_k (fun K4 hK4 => ?_)
 refine wp_region_lit ?_
 refine q0 hf hM [5, 4, 3] [{}] (nw := [(7, eI 0)]) An ?_
 clear hf; intro a hf
 refine wpList_nil ?_
 refine hK4 _ _ ?_
 refine wp_seq_k (fun K5 hK5 => ?_)
 refine wp_seq_k (fun K6 hK6 => ?_)
 replace hM := hM.drew; replace hk0 := hk0.drew
 obtain ⟨C1, hC1i, hC1e⟩ := qcls fun w' => MemOk [⟨B1, 28, [iV xi, iV xg]⟩, ⟨B1 + 1, 28, [iV yi, iV yg]⟩, ⟨B1 + 2, 28, [iV zi, iV zg]⟩] w' ∧ Keep Nn w w' ∧ True
 refine sxdraw (C := C1) (.leaf [(0, true), (1, true), (3, true), (4, true), (6, true), (7, true), (8, true), (11, true), (2, false), (5, false), (9, false), (10, true)]) (by kernel_rfl) (by kernel_rfl) (by as_aux_lemma => kernel_rfl) rfl (by as_aux_lemma => kernel_rfl) (by kernel_rfl) (hC1i _ ⟨hM.sub (.cons_cons _ (.cons_cons _ (.cons_cons _ .slnil))), hk0, trivial⟩) ?_
 refine sxleaf ?_
 have hC := (hC1i _ ⟨hM.sub (.cons_cons _ (.cons_cons _ (.cons_cons _ .slnil))), hk0, trivial⟩)
 refine qd hf hC (fun w' h => (hC1e w' h).1) [7, 5, 4, 3] [{ os := [.ld 0 0, .ld 0 1] }, { os := [.ld 1 0, .ld 1 1] }, { os := [.ld 1 0, .ld 1 1] }, { os := [.ld 0 0, .ld 0 1] }, { os := [.ld 0 0, .ld 0 1] }, { os := [.ld 1 0, .ld 1 1] }, { sp := true, hint := some (bV (((xi : Int) == yi) && ((xg : Int) == yg))) }, {}] (nw := [(23, eI 0), (20, eB (((xi : Int) == yi) && ((xg : Int) == yg))), (16, .val (.agg #[iV xi, iV xg])), (15, .val (.agg #[iV yi, iV yg])), (13, .val (.agg #[iV yi, iV yg])), (12, .val (.agg #[iV xi, iV xg]))]) (ob := [Ad B1 0, Ad B1 1, Ad (B1 + 1) 0, Ad (B1 + 1) 1, Ad (B1 + 1) 0, Ad (B1 + 1) 1, Ad B1 0, Ad B1 1, Ad B1 0, Ad B1 1, Ad (B1 + 1) 0, Ad (B1 + 1) 1, (bV (((xi : Int) == yi) && (((xg : Int) == yg) && true)) : Value) = (bV (((xi : Int) == yi) && ((xg : Int) == yg)) : Value)]) (Ac (ad _ _) (Ac (ad _ _) (Ac (ad _ _) (Ac (ad _ _) (Ac (ad _ _) (Ac (ad _ _) (Ac (ad _ _) (Ac (ad _ _) (Ac (ad _ _) (Ac (ad _ _) (Ac (ad _ _) (Ac (ad _ _) (Ao (by simp)))))))))))))) ?_
 clear hf; intro a hf
 refine scstep rfl ?_
 refine sxcall hf rfl rfl rfl rfl (g := 17) (vs := [.agg #[iV xi, iV xg], .agg #[iV yi, iV yg]]) (ob := []) (by as_aux_lemma => kernel_rfl) An enters17 (oless xi xg yi yg w2.drew  ) ?_
 clear hf; rintro _ w3 a ⟨rfl, hk⟩ hf
 have hM := hM.keepNn hk
 have hk0 := hk0.trans hk.nn
 clear hk
 have hC := (hC1i _ ⟨hM.sub (.cons_cons _ (.cons_cons _ (.cons_cons _ .slnil))), hk0, trivial⟩)
 refine scdone hC ?_
 refine scstep rfl ?_
 refine sxcall hf rfl rfl rfl rfl (g := 17) (vs := [.agg #[iV yi, iV yg], .agg #[iV xi, iV xg]]) (ob := []) (by as_aux_lemma => kernel_rfl) An enters17 (oless yi yg xi xg w3  ) ?_
 clear hf; rintro _ w4 a ⟨rfl, hk⟩ hf
 have hM := hM.keepNn hk
 have hk0 := hk0.trans hk.nn
 clear hk
 have hC := (hC1i _ ⟨hM.sub (.cons_cons _ (.cons_cons _ (.cons_cons _ .slnil))), hk0, trivial⟩)
 refine scdone hC ?_
 refine scstep rfl ?_
 refine sxbslice hf hM (t := 49) (e := 4) (len := 3) (cs := [bV (ltH ⟨xi, xg⟩ ⟨yi, yg⟩), bV (ltH ⟨yi, yg⟩ ⟨xi, xg⟩), bV (((xi : Int) == yi) && ((xg : Int) == yg))]) (ob := []) rfl rfl rfl rfl (by as_aux_lemma => kernel_rfl) An (by as_aux_lemma => kernel_rfl) ?_
 clear hf hM; intro a w5 B4 hf hM hB hk
 replace hM : MemOk [⟨B1, 28, [iV xi, iV xg]⟩, ⟨B1 + 1, 28, [iV yi, iV yg]⟩, ⟨B1 + 2, 28, [iV zi, iV zg]⟩, ⟨B4, 4, [bV (ltH ⟨xi, xg⟩ ⟨yi, yg⟩), bV (ltH ⟨yi, yg⟩ ⟨xi, xg⟩), bV (((xi : Int) == yi) && ((xg : Int) == yg))]⟩] w5 := hM
 have hbB4 : w.heap.size ≤ B4 := by have := hk0.size; omega
 have hk0 := hk0.trans hk.nn
 clear hk hB
 have hC := (hC1i _ ⟨hM.sub (.cons_cons _ (.cons_cons _ (.cons_cons _ (.cons _ .slnil)))), hk0, trivial⟩)
 refine scdone hC ?_
 refine qd hf hC (fun w' h => (hC1e w' h).1) [21, 23, 7, 5, 4, 3] [{}] (nw := [(22, eI 3)]) An ?_
 clear hf; intro a hf
 clear hC
 show K6 _ _
 refine hK6 _ _ ?_
 refine wp_block ?_
 refine wp_loop_rounds 4 ?_
 refine sxround (m := 3) fun L1 hL1 => ?_
 refine wp_seq_k (fun K7 hK7 => ?_)
 refine wp_region_lit ?_
 refine q0 hf hM [22, 21, 23, 7, 5, 4, 3] [{}] (nw := [(24, eB true)]) An ?_
 clear hf; intro a hf
 refine wpList_nil ?_
 refine hK7 _ _ ?_
 refine wp_seq_k (fun K8 hK8 => ?_)
 refine sxcond hf (b := true) (by kernel_rfl) (fun _ => ?_) (fun h => by cases h)
 refine wp_skip ?_
 refine hK8 _ _ ?_
 refine wp_seq_k (fun K9 hK9 => ?_)
 refine wp_block ?_
 refine wp_seq_k (fun K10 hK10 => ?_)
 refine wp_region_lit ?_
 refine q0 hf hM [22, 21, 23, 7, 5, 4, 3] [{ sp := true }, { os := [.ld 3 0] }, {}] (nw := [(9, eB (ltH ⟨xi, xg⟩ ⟨yi, yg⟩))]) (ob := [(0 : Int) ≤ 0 ∧ (0 : Int) < (3 : Int), (some ⟨B4, 0, none⟩ : Option Addr).isSome = true, Ad B4 0]) (Ac (by omega) (Ac rfl (Ao (ad _ _)))) ?_
 clear hf; intro a hf
 refine wpList_nil ?_
 refine hK10 _ _ ?_
 refine wp_seq_k (fun K11 hK11 => ?_)
 refine wp_region_lit ?_
 refine q0 hf hM [22, 21, 23, 7, 5, 4, 3] [{}] (nw := [(27, eB (ltH ⟨xi, xg⟩ ⟨yi, yg⟩))]) An ?_
 clear hf; intro a hf
 refine wpList_nil ?_
 refine hK11 _ _ ?_
 refine sxcond hf (b := ltH ⟨xi, xg⟩ ⟨yi, yg⟩) (by kernel_rfl) (fun h => absurd h (by rw [hn1]; simp)) (fun _ => ?_)
 refine wp_skip ?_
 refine hK9 _ _ ?_
 refine wp_region_lit ?_
 refine q0 hf hM [22, 21, 7, 5, 4, 3] [{}, {}] (nw := [(23, eI 1)]) An ?_
 clear hf; intro a hf
 refine wpList_nil ?_
 refine hL1 _ _ ?_
 refine sxround (m := 2) fun L2 hL2 => ?_
 refine wp_seq_k (fun K12 hK12 => ?_)
 refine wp_region_lit ?_
 refine q0 hf hM [23, 22, 21, 7, 5, 4, 3] [{}] (nw := [(24, eB true)]) An ?_
 clear hf; intro a hf
 refine wpList_nil ?_
 refine hK12 _ _ ?_
 refine wp_seq_k (fun K13 hK13 => ?_)
 refine sxcond hf (b := true) (by kernel_rfl) (fun _ => ?_) (fun h => by cases h)
 refine wp_skip ?_
 refine hK13 _ _ ?_
 refine wp_seq_k (fun K14 hK14 => ?_)
 refine wp_block ?_
 refine wp_seq_k (fun K15 hK15 => ?_)
 refine wp_region_lit ?_
 refine q0 hf hM [23, 22, 21, 7, 5, 4, 3] [{ sp := true }, { os := [.ld 3 1] }, {}] (nw := [(9, eB (ltH ⟨yi, yg⟩ ⟨xi, xg⟩))]) (ob := [(0 : Int) ≤ 1 ∧ (1 : Int) < (3 : Int), (some ⟨B4, 0, none⟩ : Option Addr).isSome = true, Ad B4 1]) (Ac (by omega) (Ac rfl (Ao (ad _ _)))) ?_
 clear hf; intro a hf
 refine wpList_nil ?_
 refine hK15 _ _ ?_
 refine wp_seq_k (fun K16 hK16 => ?_)
 refine wp_region_lit ?_
 refine q0 hf hM [23, 22, 21, 7, 5, 4, 3] [{}] (nw := [(27, eB (ltH ⟨yi, yg⟩ ⟨xi, xg⟩))]) An ?_
 clear hf; intro a hf
 refine wpList_nil ?_
 refine hK16 _ _ ?_
 refine sxcond hf (b := ltH ⟨yi, yg⟩ ⟨xi, xg⟩) (by kernel_rfl) (fun _ => ?_) (fun h => absurd h (by rw [hn2]; simp))
 refine wp_region_lit ?_
 refine q0 hf hM [23, 22, 21, 5, 4, 3] [{}, {}, {}] (nw := [(7, eI 1)]) An ?_
 clear hf; intro a hf
 refine wpList_nil ?_
 refine hK14 _ _ ?_
 refine wp_region_lit ?_
 refine q0 hf hM [7, 22, 21, 5, 4, 3] [{}, {}] (nw := [(23, eI 2)]) An ?_
 clear hf; intro a hf
 refine wpList_nil ?_
 refine hL2 _ _ ?_
 refine sxround (m := 1) fun L3 hL3 => ?_
 refine wp_seq_k (fun K17 hK17 => ?_)
 refine wp_region_lit ?_
 refine q0 hf hM [23, 7, 22, 21, 5, 4, 3] [{}] (nw := [(24, eB true)]) An ?_
 clear hf; intro a hf
 refine wpList_nil ?_
 refine hK17 _ _ ?_
 refine wp_seq_k (fun K18 hK18 => ?_)
 refine sxcond hf (b := true) (by kernel_rfl) (fun _ => ?_) (fun h => by cases h)
 refine wp_skip ?_
 refine hK18 _ _ ?_
 refine wp_seq_k (fun K19 hK19 => ?_)
 refine wp_block ?_
 refine wp_seq_k (fun K20 hK20 => ?_)
 refine wp_region_lit ?_
 refine q0 hf hM [23, 7, 22, 21, 5, 4, 3] [{ sp := true }, { os := [.ld 3 2] }, {}] (nw := [(9, eB (((xi : Int) == yi) && ((xg : Int) == yg)))]) (ob := [(0 : Int) ≤ 2 ∧ (2 : Int) < (3 : Int), (some ⟨B4, 0, none⟩ : Option Addr).isSome = true, Ad B4 2]) (Ac (by omega) (Ac rfl (Ao (ad _ _)))) ?_
 clear hf; intro a hf
 refine wpList_nil ?_
 refine hK20 _ _ ?_
 refine wp_seq_k (fun K21 hK21 => ?_)
 refine wp_region_lit ?_
 refine q0 hf hM [23, 7, 22, 21, 5, 4, 3] [{}] (nw := [(27, eB (((xi : Int) == yi) && ((xg : Int) == yg)))]) An ?_
 clear hf; intro a hf
 refine wpList_nil ?_
 refine hK21 _ _ ?_
 refine sxcond hf (b := (((xi : Int) == yi) && ((xg : Int) == yg))) (by kernel_rfl) (fun h => absurd h (by rw [hn0]; simp)) (fun _ => ?_)
 refine wp_skip ?_
 refine hK19 _ _ ?_
 refine wp_region_lit ?_
 refine q0 hf hM [7, 22, 21, 5, 4, 3] [{}, {}] (nw := [(23, eI 3)]) An ?_
 clear hf; intro a hf
 refine wpList_nil ?_
 refine hL3 _ _ ?_
 refine sxround (m := 0) fun L4 hL4 => ?_
 refine wp_seq_k (fun K22 hK22 => ?_)
 refine wp_region_lit ?_
 refine q0 hf hM [23, 7, 22, 21, 5, 4, 3] [{}] (nw := [(24, eB false)]) An ?_
 clear hf; intro a hf
 refine wpList_nil ?_
 refine hK22 _ _ ?_
 refine wp_seq_k (fun K23 hK23 => ?_)
 refine sxcond hf (b := false) (by kernel_rfl) (fun h => by cases h) (fun _ => ?_)
 refine wp_exit ?_
 refine hK5 _ _ ?_
 refine wp_seq_k (fun K24 hK24 => ?_)
 refine wp_region_lit ?_
 refine q0 hf hM [5, 4, 3] [{}, {}, {}, { os := [.ld 0 0, .ld 0 1] }, { os := [.ld 0 0, .ld 0 1] }] (nw := [(35, .val (.agg #[iV xi, iV xg])), (34, .val (.agg #[iV xi, iV xg])), (33, eB true)]) (ob := [true = true, Ad B1 0, Ad B1 1, true = true, Ad B1 0, Ad B1 1]) (Ac rfl (Ac (ad _ _) (Ac (ad _ _) (Ac rfl (Ac (ad _ _) (Ao (ad _ _))))))) ?_
 clear hf; intro a hf
 refine sxcallg hf rfl rfl rfl rfl rfl (g := 17) (vs := [.agg #[iV xi, iV xg], .agg #[iV xi, iV xg]]) (ob := []) (by as_aux_lemma => kernel_rfl) An enters17 (oless xi xg xi xg w5  ) ?_
 clear hf; rintro _ w6 a ⟨rfl, hk⟩ hf
 have hM := hM.keepNn hk
 have hk0 := hk0.trans hk.nn
 clear hk
 refine q0 hf hM [5, 4, 3] [{}, {}, {}] (nw := [(39, eB (!(ltH ⟨xi, xg⟩ ⟨xi, xg⟩)))]) (ob := [true = true]) (Ao rfl) ?_
 clear hf; intro a hf
 have hf := hf.setb 39 (by simp [hxx] : (!(ltH ⟨xi, xg⟩ ⟨xi, xg⟩) : Bool) = true)
 refine q0 hf hM [39, 5, 4, 3] [{ os := [.ld 0 0, .ld 0 1] }, { os := [.ld 1 0, .ld 1 1] }] (nw := [(41, .val (.agg #[iV yi, iV yg])), (40, .val (.agg #[iV xi, iV xg]))]) (ob := [true = true, Ad B1 0, Ad B1 1, true = true, Ad (B1 + 1) 0, Ad (B1 + 1) 1]) (Ac rfl (Ac (ad _ _) (Ac (ad _ _) (Ac rfl (Ac (ad _ _) (Ao (ad _ _))))))) ?_
 clear hf; intro a hf
 refine sxcallg hf rfl rfl rfl rfl rfl (g := 17) (vs := [.agg #[iV xi, iV xg], .agg #[iV yi, iV yg]]) (ob := []) (by as_aux_lemma => kernel_rfl) An enters17 (oless xi xg yi yg w6  ) ?_
 clear hf; rintro _ w7 a ⟨rfl, hk⟩ hf
 have hM := hM.keepNn hk
 have hk0 := hk0.trans hk.nn
 clear hk
 refine q0 hf hM [39, 5, 4, 3] [{}, {}] (nw := [(44, eB (!(ltH ⟨xi, xg⟩ ⟨yi, yg⟩)))]) (ob := [true = true, true = true]) (Ac rfl (Ao rfl)) ?_
 clear hf; intro a hf
 have hf := hf.setb 44 (by simp [hn1] : (!(ltH ⟨xi, xg⟩ ⟨yi, yg⟩) : Bool) = true)
 refine q0 hf hM [44, 39, 5, 3] [{ g := .off }, { g := .off }] (nw := [(46, .val (undef)), (45, .val (undef))]) (ob := [true = !false, true = !false]) (Ac rfl (Ao rfl)) ?_
 clear hf; intro a hf
 refine q0 hf hM [39] [{ g := .off }, { g := .off }, {}, {}, { g := .off }, { g := .off }] (nw := [(52, .val (undef)), (51, .val (undef)), (50, eB true)]) (ob := [true = !false, true = !false, true = true, true = true, true = !false, true = !false]) (Ac rfl (Ac rfl (Ac rfl (Ac rfl (Ac rfl (Ao rfl)))))) ?_
 clear hf; intro a hf
 refine q0 hf hM [] [{ g := .off }, {}, {}, {}] (nw := [(6, eB true)]) (ob := [true = !false, true = true]) (Ac rfl (Ao rfl)) ?_
 clear hf; intro a hf
 refine wpList_nil ?_
 refine hK24 _ _ ?_
 refine wp_ret ?_
 refine qr (fn := Try.f9) hf hM [] (l := [bV true]) (ob := []) An ?_
 show (bV true : Value) = .bool true ∧ Keep Nn w w7
 refine ⟨congrArg Value.bool ?_, hk0⟩
 first | rfl | (simp_all; done) | (have h5 := ordH.tr _ _ _ hn1 ‹ltH ⟨yi, yg⟩ ⟨zi, zg⟩ = true›; simp_all; done)

theorem orderTotal_any (xi xg yi yg zi zg : Int) (w : World) : Calls Try.prog 9 #[.agg #[iV xi, iV xg], .agg #[iV yi, iV yg], .agg #[iV zi, iV zg]] w (Ret fun v w' => v = .bool true ∧ Keep Nn w w') := by
  rcases ordH.tri ⟨xi, xg⟩ ⟨yi, yg⟩ with h | h | h
  · exact oto_lt xi xg yi yg zi zg w (by have := ordH.ne h; simp at this; simp; omega) h (ordH.asym h)
  · simp only [H2.mk.injEq] at h
    obtain ⟨rfl, rfl⟩ := h
    exact oto_eq xi xg xi xg zi zg w (by simp) (ordH.irr _) (ordH.irr _)
  · exact oto_gt xi xg yi yg zi zg w (by have := ordH.ne h; simp at this; simp; omega) (ordH.asym h) h
end Go.Proofs.Ytllopoaojchcmaa
