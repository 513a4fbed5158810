/- laws of layer 6: the way -/
import Derived.Test.YtifcgjnknikjkaaDoorBC6
namespace Go.Proofs.YtifcgjnknikjkaaDoor
open Go.Px
set_option linter.unusedVariables false
set_option linter.unusedSimpArgs false

set_option maxRecDepth 10000 in
set_option maxHeartbeats 1600000 in
theorem swy_kind (E : Nat → Addr) (k x y kh hx hy dx dy : Int) (w : World) (hn0 : (mvPos k x y) = false) (hdx : -9223372036854775808 ≤ dx ∧ dx ≤ 9223372036854775807) (hdy : -9223372036854775808 ≤ dy ∧ dy ≤ 9223372036854775807) (hG : Errs [0, 3, 4] w 185 E) :
    Calls Tryd.prog 5 #[.agg #[iV k, iV x, iV y, iV kh, iV hx, iV hy, iV dx, iV dy]] w (Ret fun v w' => v = .bool true ∧ Keep Nn w w') := by
 refine sxenter (n := 95) (args := [.agg #[iV k, iV x, iV y, iV kh, iV hx, iV hy, iV dx, iV dy]]) Tryd.func5 rfl rfl rfl fun a hf => ?_
 replace hf : Fr 95 [(0, .val (.agg #[iV k, iV x, iV y, iV kh, iV hx, iV hy, iV dx, iV dy]))] a := hf
 have hM : MemOk [] w := MemOk.nil w
 have hk0 : Keep Nn w w := Keep.refl _ _
 refine wp_seq_k (fun K1 hK1 => ?_)
 refine wp_region_lit ?_
 refine q1 hf hM [1] [{ os := [.nw] }, {}] (env' := fun B1 => [(1, eP B1 0)]) (M' := fun B1 => [⟨B1, 64, [iV k, iV x, iV y, iV kh, iV hx, iV hy, iV dx, iV dy]⟩]) (ob := fun B1 => []) (fun B1 => An) ?_
 clear hf hM; intro a w1 B1 hf hM hB hk
 have hbB1 : w.heap.size ≤ B1 := by have := hk0.size; omega
 have hk0 := hk0.then hk (by intro i _ h; cases h)
 clear hk hB
 refine wpList_nil ?_
 refine hK1 _ _ ?_
 refine wp_seq_k (fun K2 hK2 => ?_)
 replace hM := hM.drew; replace hk0 := hk0.drew
 obtain ⟨C1, hC1d⟩ : ∃ C : World → Prop, C = fun w' => MemOk [⟨B1, 64, [iV k, iV x, iV y, iV kh, iV hx, iV hy, iV dx, iV dy]⟩] w' ∧ Keep Nn w w' ∧ True := ⟨_, rfl⟩
 have hC1i : ∀ w', (MemOk [⟨B1, 64, [iV k, iV x, iV y, iV kh, iV hx, iV hy, iV dx, iV dy]⟩] w' ∧ Keep Nn w w' ∧ True) → C1 w' := fun w' h => by rw [hC1d]; exact h
 have hC1e : ∀ w', C1 w' → (MemOk [⟨B1, 64, [iV k, iV x, iV y, iV kh, iV hx, iV hy, iV dx, iV dy]⟩] w' ∧ Keep Nn w w' ∧ True) := fun w' h => by rw [hC1d] at h; exact h
 refine sxdraw (C := C1) (.alt [(0, true), (1, true), (2, true), (3, true), (4, true), (5, true), (6, true), (7, true)] (.leaf [(8, false), (9, false), (10, false), (11, false), (12, true), (13, true)]) (.leaf [(9, false), (8, false), (10, false), (11, false), (12, true), (13, true)])) (by kernel_rfl) (by kernel_rfl) (by as_aux_lemma => kernel_rfl) rfl (by as_aux_lemma => kernel_rfl) (by kernel_rfl) (hC1i _ ⟨hM.sub (.cons_cons _ .slnil), hk0, trivial⟩) ?_
 refine sxalts ?_
 have hC := (hC1i _ ⟨hM.sub (.cons_cons _ .slnil), hk0, trivial⟩)
 refine qd hf hC (fun w' h => (hC1e w' h).1) [21, 19, 17, 15] [{}, { os := [.ld 0 0, .ld 0 1, .ld 0 2] }, {}, { os := [.ld 0 3, .ld 0 4, .ld 0 5] }, {}, { os := [.ld 0 6] }, {}, { os := [.ld 0 7] }] (env' := [(21, eI dy), (19, eI dx), (17, .val (.agg #[iV kh, iV hx, iV hy])), (15, .val (.agg #[iV k, iV x, iV y]))]) (ob := [Ad B1 0, Ad B1 1, Ad B1 2, Ad B1 3, Ad B1 4, Ad B1 5, Ad B1 6, Ad B1 7]) (Ac (ad _ _) (Ac (ad _ _) (Ac (ad _ _) (Ac (ad _ _) (Ac (ad _ _) (Ac (ad _ _) (Ac (ad _ _) (Ao (ad _ _))))))))) ?_
 clear hf; intro a hf
 refine sxboth ?_ ?_
 ·
  refine sxleaf ?_
  have hC := (hC1i _ ⟨hM.sub (.cons_cons _ .slnil), hk0, trivial⟩)
  refine scstep rfl ?_
  refine q1 hf (MemOk.nil _) [3, 21, 19, 17, 15] [{ os := [.nw] }] (env' := fun B2 => [(3, eP B2 0), (21, eI dy), (19, eI dx), (17, .val (.agg #[iV kh, iV hx, iV hy])), (15, .val (.agg #[iV k, iV x, iV y]))]) (M' := fun B2 => [⟨B2, 62, [iV 0, iV 0, iV 0]⟩]) (ob := fun B2 => []) (fun B2 => An) ?_
  clear hf; intro a w2 B2 hf hMs hB hk; have hk : Keep Nn w1.drew w2 := hk.mono (by intro _ _ h; cases h)
  have hbB2 : w.heap.size ≤ B2 := by have := hk0.size; omega
  have hMo := hM; have hM : MemOk [⟨B1, 64, [iV k, iV x, iV y, iV kh, iV hx, iV hy, iV dx, iV dy]⟩, ⟨B2, 62, [iV 0, iV 0, iV 0]⟩] w2 := MemOk.more hM hk (by omega) (hMs.at_ _ (List.Mem.head _))
  have hk0 := hk0.trans hk.nn
  clear hk hMs hMo hB
  have hC := (hC1i _ ⟨hM.sub (.cons_cons _ (.cons _ .slnil)), hk0, trivial⟩)
  refine scdone hC ?_
  refine scstep rfl ?_
  refine q1 hf (MemOk.nil _) [4, 3, 21, 19, 17, 15] [{ os := [.nw] }] (env' := fun B3 => [(4, eP B3 0), (3, eP B2 0), (21, eI dy), (19, eI dx), (17, .val (.agg #[iV kh, iV hx, iV hy])), (15, .val (.agg #[iV k, iV x, iV y]))]) (M' := fun B3 => [⟨B3, 62, [iV 0, iV 0, iV 0]⟩]) (ob := fun B3 => []) (fun B3 => An) ?_
  clear hf; intro a w3 B3 hf hMs hB hk; have hk : Keep Nn w2 w3 := hk.mono (by intro _ _ h; cases h)
  have hbB3 : w.heap.size ≤ B3 := by have := hk0.size; omega
  have hMo := hM; have hM : MemOk [⟨B1, 64, [iV k, iV x, iV y, iV kh, iV hx, iV hy, iV dx, iV dy]⟩, ⟨B2, 62, [iV 0, iV 0, iV 0]⟩, ⟨B3, 62, [iV 0, iV 0, iV 0]⟩] w3 := MemOk.more hM hk (by omega) (hMs.at_ _ (List.Mem.head _))
  have hk0 := hk0.trans hk.nn
  clear hk hMs hMo hB
  have hC := (hC1i _ ⟨hM.sub (.cons_cons _ (.cons _ (.cons _ .slnil))), hk0, trivial⟩)
  refine scdone hC ?_
  refine scstep rfl ?_
  have hMs : MemOk [⟨B2, 62, [iV 0, iV 0, iV 0]⟩] w3 := hM.sub (.cons _ (.cons_cons _ (.cons _ .slnil)))
  refine q1 hf hMs [4, 3, 21, 19, 17] [{ os := [.st 0 0, .st 0 1, .st 0 2] }] (env' := fun B4 => [(4, eP B3 0), (3, eP B2 0), (21, eI dy), (19, eI dx), (17, .val (.agg #[iV kh, iV hx, iV hy]))]) (M' := fun B4 => [⟨B2, 62, [iV k, iV x, iV y]⟩]) (ob := fun B4 => [Ad B2 0, Ad B2 1, Ad B2 2]) (fun B4 => (Ac (ad _ _) (Ac (ad _ _) (Ao (ad _ _))))) ?_
  clear hf hMs; intro a w4 B4 hf hMs hB hk; clear hB
  have hM : MemOk [⟨B1, 64, [iV k, iV x, iV y, iV kh, iV hx, iV hy, iV dx, iV dy]⟩, ⟨B2, 62, [iV k, iV x, iV y]⟩, ⟨B3, 62, [iV 0, iV 0, iV 0]⟩] w4 := MemOk.upd (M1 := [⟨B1, 64, [iV k, iV x, iV y, iV kh, iV hx, iV hy, iV dx, iV dy]⟩]) (M2 := [⟨B3, 62, [iV 0, iV 0, iV 0]⟩]) hM hk hMs rfl
  have hk0 := hk0.then hk (by intro i hi h; simp only [Is, Mem.names, List.map_cons, List.map_nil, List.mem_cons, List.not_mem_nil, or_false] at h; omega)
  clear hk hMs
  have hC := (hC1i _ ⟨hM.sub (.cons_cons _ (.cons _ (.cons _ .slnil))), hk0, trivial⟩)
  refine scdone hC ?_
  refine scstep rfl ?_
  have hMs : MemOk [⟨B3, 62, [iV 0, iV 0, iV 0]⟩] w4 := hM.sub (.cons _ (.cons _ (.cons_cons _ .slnil)))
  refine q1 hf hMs [4, 3, 21, 19] [{ os := [.st 0 0, .st 0 1, .st 0 2] }] (env' := fun B5 => [(4, eP B3 0), (3, eP B2 0), (21, eI dy), (19, eI dx)]) (M' := fun B5 => [⟨B3, 62, [iV kh, iV hx, iV hy]⟩]) (ob := fun B5 => [Ad B3 0, Ad B3 1, Ad B3 2]) (fun B5 => (Ac (ad _ _) (Ac (ad _ _) (Ao (ad _ _))))) ?_
  clear hf hMs; intro a w5 B5 hf hMs hB hk; clear hB
  have hM : MemOk [⟨B1, 64, [iV k, iV x, iV y, iV kh, iV hx, iV hy, iV dx, iV dy]⟩, ⟨B2, 62, [iV k, iV x, iV y]⟩, ⟨B3, 62, [iV kh, iV hx, iV hy]⟩] w5 := MemOk.upd (M1 := [⟨B1, 64, [iV k, iV x, iV y, iV kh, iV hx, iV hy, iV dx, iV dy]⟩, ⟨B2, 62, [iV k, iV x, iV y]⟩]) (M2 := []) hM hk hMs rfl
  have hk0 := hk0.then hk (by intro i hi h; simp only [Is, Mem.names, List.map_cons, List.map_nil, List.mem_cons, List.not_mem_nil, or_false] at h; omega)
  clear hk hMs
  have hC := (hC1i _ ⟨hM.sub (.cons_cons _ (.cons _ (.cons _ .slnil))), hk0, trivial⟩)
  refine scdone hC ?_
  refine qd hf hC (fun w' h => (hC1e w' h).1) [6, 5, 4, 3] [{}, {}] (env' := [(6, eI dy), (5, eI dx), (4, eP B3 0), (3, eP B2 0)]) (ob := []) An ?_
  clear hf; intro a hf
  clear hC
  show K2 _ _
  refine hK2 _ _ ?_
  refine wp_seq_k (fun K3 hK3 => ?_)
  refine wp_seq_k (fun K4 hK4 => ?_)
  refine wp_region_lit ?_
  refine sxcall hf rfl rfl rfl rfl (g := 29) (vs := []) (ob := []) (by as_aux_lemma => kernel_rfl) An enters29 (alive6 E w5  (hG.keep hk0 (fun _ h => h))) ?_
  clear hf; rintro _ w6 a ⟨rfl, hk⟩ hf
  have hM := hM.keepNn hk
  have hk0 := hk0.trans hk.nn
  clear hk
  refine q0 hf hM [23, 6, 5, 4, 3] [{}] (env' := [(23, eB false), (6, eI dy), (5, eI dx), (4, eP B3 0), (3, eP B2 0)]) (ob := []) An ?_
  clear hf; intro a hf
  refine wpList_nil ?_
  refine hK4 _ _ ?_
  refine sxcond hf (b := false) (by kernel_rfl) (fun h => by cases h) (fun _ => ?_)
  refine wp_skip ?_
  refine hK3 _ _ ?_
  refine wp_seq_k (fun K5 hK5 => ?_)
  refine wp_region_lit ?_
  refine q0 hf hM [27, 26, 25, 6, 5, 4, 3] [{ os := [.ld 1 0, .ld 1 1, .ld 1 2] }, {}, {}] (env' := [(27, eI dy), (26, eI dx), (25, .val (.agg #[iV k, iV x, iV y])), (6, eI dy), (5, eI dx), (4, eP B3 0), (3, eP B2 0)]) (ob := [Ad B2 0, Ad B2 1, Ad B2 2]) (Ac (ad _ _) (Ac (ad _ _) (Ao (ad _ _)))) ?_
  clear hf; intro a hf
  refine sxcall hf rfl rfl rfl rfl (g := 30) (vs := [.agg #[iV k, iV x, iV y], iV dx, iV dy]) (ob := []) (by as_aux_lemma => kernel_rfl) An enters30 (smv_kind E k x y dx dy w6 hn0 (by omega) (by omega) (hG.keep hk0 (fun _ h => h))) ?_
  clear hf; rintro _ w7 a ⟨rfl, hk⟩ hf
  have hM := hM.keepNn hk
  have hk0 := hk0.trans hk.nn
  clear hk
  refine q1 hf hM [8, 7, 6, 5, 4, 3] [{}, {}, {}, { os := [.nw] }, { os := [.st 3 0, .st 3 1, .st 3 2] }, {}] (env' := fun B8 => [(8, .val (.iface 185 (.pointer (some (E 4))))), (7, eP B8 0), (6, eI dy), (5, eI dx), (4, eP B3 0), (3, eP B2 0)]) (M' := fun B8 => [⟨B1, 64, [iV k, iV x, iV y, iV kh, iV hx, iV hy, iV dx, iV dy]⟩, ⟨B2, 62, [iV k, iV x, iV y]⟩, ⟨B3, 62, [iV kh, iV hx, iV hy]⟩, ⟨B8, 62, [iV 0, iV 0, iV 0]⟩]) (ob := fun B8 => [Ad B8 0, Ad B8 1, Ad B8 2]) (fun B8 => (Ac (ad _ _) (Ac (ad _ _) (Ao (ad _ _))))) ?_
  clear hf hM; intro a w8 B8 hf hM hB hk
  have hbB8 : w.heap.size ≤ B8 := by have := hk0.size; omega
  have hk0 := hk0.then hk (by intro i hi h; simp only [Is, Mem.names, List.map_cons, List.map_nil, List.mem_cons, List.not_mem_nil, or_false] at h; omega)
  clear hk hB
  refine wpList_nil ?_
  refine hK5 _ _ ?_
  refine wp_seq_k (fun K6 hK6 => ?_)
  refine wp_seq_k (fun K7 hK7 => ?_)
  refine wp_region_lit ?_
  refine q0 hf hM [32, 7, 6, 5, 4, 3] [{}, {}] (env' := [(32, eB true), (7, eP B8 0), (6, eI dy), (5, eI dx), (4, eP B3 0), (3, eP B2 0)]) (ob := []) An ?_
  clear hf; intro a hf
  refine wpList_nil ?_
  refine hK7 _ _ ?_
  refine sxcond hf (b := true) (by kernel_rfl) (fun _ => ?_) (fun h => by cases h)
  refine wp_seq_k (fun K8 hK8 => ?_)
  refine wp_region_lit ?_
  refine q0 hf hM [2] [{ os := [.ld 3 0, .ld 3 1, .ld 3 2] }, { sp := true }, { sp := true, hint := some (bV true) }, {}] (env' := [(2, eB true)]) (ob := [Ad B8 0, Ad B8 1, Ad B8 2, (bV (((0 : Int) == 0) && (((0 : Int) == 0) && (((0 : Int) == 0) && true))) : Value) = (bV true : Value)]) (Ac (ad _ _) (Ac (ad _ _) (Ac (ad _ _) (Ao (by simp))))) ?_
  clear hf; intro a hf
  refine wpList_nil ?_
  refine hK8 _ _ ?_
  refine wp_ret ?_
  refine qr (fn := Tryd.f5) hf hM [] (l := [bV true]) (ob := []) An ?_
  show (bV true : Value) = .bool true ∧ Keep Nn w w8
  refine ⟨congrArg Value.bool ?_, hk0⟩
  first | rfl | (simp; done) | (simp_all; done)
 ·
  refine sxleaf ?_
  have hC := (hC1i _ ⟨hM.sub (.cons_cons _ .slnil), hk0, trivial⟩)
  refine scstep rfl ?_
  refine q1 hf (MemOk.nil _) [4, 21, 19, 17, 15] [{ os := [.nw] }] (env' := fun B11 => [(4, eP B11 0), (21, eI dy), (19, eI dx), (17, .val (.agg #[iV kh, iV hx, iV hy])), (15, .val (.agg #[iV k, iV x, iV y]))]) (M' := fun B11 => [⟨B11, 62, [iV 0, iV 0, iV 0]⟩]) (ob := fun B11 => []) (fun B11 => An) ?_
  clear hf; intro a w9 B11 hf hMs hB hk; have hk : Keep Nn w1.drew w9 := hk.mono (by intro _ _ h; cases h)
  have hbB11 : w.heap.size ≤ B11 := by have := hk0.size; omega
  have hMo := hM; have hM : MemOk [⟨B1, 64, [iV k, iV x, iV y, iV kh, iV hx, iV hy, iV dx, iV dy]⟩, ⟨B11, 62, [iV 0, iV 0, iV 0]⟩] w9 := MemOk.more hM hk (by omega) (hMs.at_ _ (List.Mem.head _))
  have hk0 := hk0.trans hk.nn
  clear hk hMs hMo hB
  have hC := (hC1i _ ⟨hM.sub (.cons_cons _ (.cons _ .slnil)), hk0, trivial⟩)
  refine scdone hC ?_
  refine scstep rfl ?_
  refine q1 hf (MemOk.nil _) [3, 4, 21, 19, 17, 15] [{ os := [.nw] }] (env' := fun B12 => [(3, eP B12 0), (4, eP B11 0), (21, eI dy), (19, eI dx), (17, .val (.agg #[iV kh, iV hx, iV hy])), (15, .val (.agg #[iV k, iV x, iV y]))]) (M' := fun B12 => [⟨B12, 62, [iV 0, iV 0, iV 0]⟩]) (ob := fun B12 => []) (fun B12 => An) ?_
  clear hf; intro a w10 B12 hf hMs hB hk; have hk : Keep Nn w9 w10 := hk.mono (by intro _ _ h; cases h)
  have hbB12 : w.heap.size ≤ B12 := by have := hk0.size; omega
  have hMo := hM; have hM : MemOk [⟨B1, 64, [iV k, iV x, iV y, iV kh, iV hx, iV hy, iV dx, iV dy]⟩, ⟨B11, 62, [iV 0, iV 0, iV 0]⟩, ⟨B12, 62, [iV 0, iV 0, iV 0]⟩] w10 := MemOk.more hM hk (by omega) (hMs.at_ _ (List.Mem.head _))
  have hk0 := hk0.trans hk.nn
  clear hk hMs hMo hB
  have hC := (hC1i _ ⟨hM.sub (.cons_cons _ (.cons _ (.cons _ .slnil))), hk0, trivial⟩)
  refine scdone hC ?_
  refine scstep rfl ?_
  have hMs : MemOk [⟨B12, 62, [iV 0, iV 0, iV 0]⟩] w10 := hM.sub (.cons _ (.cons _ (.cons_cons _ .slnil)))
  refine q1 hf hMs [3, 4, 21, 19, 17] [{ os := [.st 0 0, .st 0 1, .st 0 2] }] (env' := fun B13 => [(3, eP B12 0), (4, eP B11 0), (21, eI dy), (19, eI dx), (17, .val (.agg #[iV kh, iV hx, iV hy]))]) (M' := fun B13 => [⟨B12, 62, [iV k, iV x, iV y]⟩]) (ob := fun B13 => [Ad B12 0, Ad B12 1, Ad B12 2]) (fun B13 => (Ac (ad _ _) (Ac (ad _ _) (Ao (ad _ _))))) ?_
  clear hf hMs; intro a w11 B13 hf hMs hB hk; clear hB
  have hM : MemOk [⟨B1, 64, [iV k, iV x, iV y, iV kh, iV hx, iV hy, iV dx, iV dy]⟩, ⟨B11, 62, [iV 0, iV 0, iV 0]⟩, ⟨B12, 62, [iV k, iV x, iV y]⟩] w11 := MemOk.upd (M1 := [⟨B1, 64, [iV k, iV x, iV y, iV kh, iV hx, iV hy, iV dx, iV dy]⟩, ⟨B11, 62, [iV 0, iV 0, iV 0]⟩]) (M2 := []) hM hk hMs rfl
  have hk0 := hk0.then hk (by intro i hi h; simp only [Is, Mem.names, List.map_cons, List.map_nil, List.mem_cons, List.not_mem_nil, or_false] at h; omega)
  clear hk hMs
  have hC := (hC1i _ ⟨hM.sub (.cons_cons _ (.cons _ (.cons _ .slnil))), hk0, trivial⟩)
  refine scdone hC ?_
  refine scstep rfl ?_
  have hMs : MemOk [⟨B11, 62, [iV 0, iV 0, iV 0]⟩] w11 := hM.sub (.cons _ (.cons_cons _ (.cons _ .slnil)))
  refine q1 hf hMs [3, 4, 21, 19] [{ os := [.st 0 0, .st 0 1, .st 0 2] }] (env' := fun B14 => [(3, eP B12 0), (4, eP B11 0), (21, eI dy), (19, eI dx)]) (M' := fun B14 => [⟨B11, 62, [iV kh, iV hx, iV hy]⟩]) (ob := fun B14 => [Ad B11 0, Ad B11 1, Ad B11 2]) (fun B14 => (Ac (ad _ _) (Ac (ad _ _) (Ao (ad _ _))))) ?_
  clear hf hMs; intro a w12 B14 hf hMs hB hk; clear hB
  have hM : MemOk [⟨B1, 64, [iV k, iV x, iV y, iV kh, iV hx, iV hy, iV dx, iV dy]⟩, ⟨B11, 62, [iV kh, iV hx, iV hy]⟩, ⟨B12, 62, [iV k, iV x, iV y]⟩] w12 := MemOk.upd (M1 := [⟨B1, 64, [iV k, iV x, iV y, iV kh, iV hx, iV hy, iV dx, iV dy]⟩]) (M2 := [⟨B12, 62, [iV k, iV x, iV y]⟩]) hM hk hMs rfl
  have hk0 := hk0.then hk (by intro i hi h; simp only [Is, Mem.names, List.map_cons, List.map_nil, List.mem_cons, List.not_mem_nil, or_false] at h; omega)
  clear hk hMs
  have hC := (hC1i _ ⟨hM.sub (.cons_cons _ (.cons _ (.cons _ .slnil))), hk0, trivial⟩)
  refine scdone hC ?_
  refine qd hf hC (fun w' h => (hC1e w' h).1) [6, 5, 3, 4] [{}, {}] (env' := [(6, eI dy), (5, eI dx), (3, eP B12 0), (4, eP B11 0)]) (ob := []) An ?_
  clear hf; intro a hf
  clear hC
  show K2 _ _
  refine hK2 _ _ ?_
  refine wp_seq_k (fun K9 hK9 => ?_)
  refine wp_seq_k (fun K10 hK10 => ?_)
  refine wp_region_lit ?_
  refine sxcall hf rfl rfl rfl rfl (g := 29) (vs := []) (ob := []) (by as_aux_lemma => kernel_rfl) An enters29 (alive6 E w12  (hG.keep hk0 (fun _ h => h))) ?_
  clear hf; rintro _ w13 a ⟨rfl, hk⟩ hf
  have hM := hM.keepNn hk
  have hk0 := hk0.trans hk.nn
  clear hk
  refine q0 hf hM [23, 6, 5, 3, 4] [{}] (env' := [(23, eB false), (6, eI dy), (5, eI dx), (3, eP B12 0), (4, eP B11 0)]) (ob := []) An ?_
  clear hf; intro a hf
  refine wpList_nil ?_
  refine hK10 _ _ ?_
  refine sxcond hf (b := false) (by kernel_rfl) (fun h => by cases h) (fun _ => ?_)
  refine wp_skip ?_
  refine hK9 _ _ ?_
  refine wp_seq_k (fun K11 hK11 => ?_)
  refine wp_region_lit ?_
  refine q0 hf hM [27, 26, 25, 6, 5, 3, 4] [{ os := [.ld 2 0, .ld 2 1, .ld 2 2] }, {}, {}] (env' := [(27, eI dy), (26, eI dx), (25, .val (.agg #[iV k, iV x, iV y])), (6, eI dy), (5, eI dx), (3, eP B12 0), (4, eP B11 0)]) (ob := [Ad B12 0, Ad B12 1, Ad B12 2]) (Ac (ad _ _) (Ac (ad _ _) (Ao (ad _ _)))) ?_
  clear hf; intro a hf
  refine sxcall hf rfl rfl rfl rfl (g := 30) (vs := [.agg #[iV k, iV x, iV y], iV dx, iV dy]) (ob := []) (by as_aux_lemma => kernel_rfl) An enters30 (smv_kind E k x y dx dy w13 hn0 (by omega) (by omega) (hG.keep hk0 (fun _ h => h))) ?_
  clear hf; rintro _ w14 a ⟨rfl, hk⟩ hf
  have hM := hM.keepNn hk
  have hk0 := hk0.trans hk.nn
  clear hk
  refine q1 hf hM [8, 7, 6, 5, 3, 4] [{}, {}, {}, { os := [.nw] }, { os := [.st 3 0, .st 3 1, .st 3 2] }, {}] (env' := fun B17 => [(8, .val (.iface 185 (.pointer (some (E 4))))), (7, eP B17 0), (6, eI dy), (5, eI dx), (3, eP B12 0), (4, eP B11 0)]) (M' := fun B17 => [⟨B1, 64, [iV k, iV x, iV y, iV kh, iV hx, iV hy, iV dx, iV dy]⟩, ⟨B11, 62, [iV kh, iV hx, iV hy]⟩, ⟨B12, 62, [iV k, iV x, iV y]⟩, ⟨B17, 62, [iV 0, iV 0, iV 0]⟩]) (ob := fun B17 => [Ad B17 0, Ad B17 1, Ad B17 2]) (fun B17 => (Ac (ad _ _) (Ac (ad _ _) (Ao (ad _ _))))) ?_
  clear hf hM; intro a w15 B17 hf hM hB hk
  have hbB17 : w.heap.size ≤ B17 := by have := hk0.size; omega
  have hk0 := hk0.then hk (by intro i hi h; simp only [Is, Mem.names, List.map_cons, List.map_nil, List.mem_cons, List.not_mem_nil, or_false] at h; omega)
  clear hk hB
  refine wpList_nil ?_
  refine hK11 _ _ ?_
  refine wp_seq_k (fun K12 hK12 => ?_)
  refine wp_seq_k (fun K13 hK13 => ?_)
  refine wp_region_lit ?_
  refine q0 hf hM [32, 7, 6, 5, 3, 4] [{}, {}] (env' := [(32, eB true), (7, eP B17 0), (6, eI dy), (5, eI dx), (3, eP B12 0), (4, eP B11 0)]) (ob := []) An ?_
  clear hf; intro a hf
  refine wpList_nil ?_
  refine hK13 _ _ ?_
  refine sxcond hf (b := true) (by kernel_rfl) (fun _ => ?_) (fun h => by cases h)
  refine wp_seq_k (fun K14 hK14 => ?_)
  refine wp_region_lit ?_
  refine q0 hf hM [2] [{ os := [.ld 3 0, .ld 3 1, .ld 3 2] }, { sp := true }, { sp := true, hint := some (bV true) }, {}] (env' := [(2, eB true)]) (ob := [Ad B17 0, Ad B17 1, Ad B17 2, (bV (((0 : Int) == 0) && (((0 : Int) == 0) && (((0 : Int) == 0) && true))) : Value) = (bV true : Value)]) (Ac (ad _ _) (Ac (ad _ _) (Ac (ad _ _) (Ao (by simp))))) ?_
  clear hf; intro a hf
  refine wpList_nil ?_
  refine hK14 _ _ ?_
  refine wp_ret ?_
  refine qr (fn := Tryd.f5) hf hM [] (l := [bV true]) (ob := []) An ?_
  show (bV true : Value) = .bool true ∧ Keep Nn w w15
  refine ⟨congrArg Value.bool ?_, hk0⟩
  first | rfl | (simp; done) | (simp_all; done)

set_option maxRecDepth 10000 in
set_option maxHeartbeats 1600000 in
theorem swy_far (E : Nat → Addr) (k x y kh hx hy dx dy : Int) (w : World) (hn0 : (mvPos k x y) = true) (hn1 : (mvIn dx dy) = false) (hdx : -9223372036854775808 ≤ dx ∧ dx ≤ 9223372036854775807) (hdy : -9223372036854775808 ≤ dy ∧ dy ≤ 9223372036854775807) (hG : Errs [0, 3, 4] w 185 E) :
    Calls Tryd.prog 5 #[.agg #[iV k, iV x, iV y, iV kh, iV hx, iV hy, iV dx, iV dy]] w (Ret fun v w' => v = .bool true ∧ Keep Nn w w') := by
 refine sxenter (n := 95) (args := [.agg #[iV k, iV x, iV y, iV kh, iV hx, iV hy, iV dx, iV dy]]) Tryd.func5 rfl rfl rfl fun a hf => ?_
 replace hf : Fr 95 [(0, .val (.agg #[iV k, iV x, iV y, iV kh, iV hx, iV hy, iV dx, iV dy]))] a := hf
 have hM : MemOk [] w := MemOk.nil w
 have hk0 : Keep Nn w w := Keep.refl _ _
 refine wp_seq_k (fun K1 hK1 => ?_)
 refine wp_region_lit ?_
 refine q1 hf hM [1] [{ os := [.nw] }, {}] (env' := fun B1 => [(1, eP B1 0)]) (M' := fun B1 => [⟨B1, 64, [iV k, iV x, iV y, iV kh, iV hx, iV hy, iV dx, iV dy]⟩]) (ob := fun B1 => []) (fun B1 => An) ?_
 clear hf hM; intro a w1 B1 hf hM hB hk
 have hbB1 : w.heap.size ≤ B1 := by have := hk0.size; omega
 have hk0 := hk0.then hk (by intro i _ h; cases h)
 clear hk hB
 refine wpList_nil ?_
 refine hK1 _ _ ?_
 refine wp_seq_k (fun K2 hK2 => ?_)
 replace hM := hM.drew; replace hk0 := hk0.drew
 obtain ⟨C1, hC1d⟩ : ∃ C : World → Prop, C = fun w' => MemOk [⟨B1, 64, [iV k, iV x, iV y, iV kh, iV hx, iV hy, iV dx, iV dy]⟩] w' ∧ Keep Nn w w' ∧ True := ⟨_, rfl⟩
 have hC1i : ∀ w', (MemOk [⟨B1, 64, [iV k, iV x, iV y, iV kh, iV hx, iV hy, iV dx, iV dy]⟩] w' ∧ Keep Nn w w' ∧ True) → C1 w' := fun w' h => by rw [hC1d]; exact h
 have hC1e : ∀ w', C1 w' → (MemOk [⟨B1, 64, [iV k, iV x, iV y, iV kh, iV hx, iV hy, iV dx, iV dy]⟩] w' ∧ Keep Nn w w' ∧ True) := fun w' h => by rw [hC1d] at h; exact h
 refine sxdraw (C := C1) (.alt [(0, true), (1, true), (2, true), (3, true), (4, true), (5, true), (6, true), (7, true)] (.leaf [(8, false), (9, false), (10, false), (11, false), (12, true), (13, true)]) (.leaf [(9, false), (8, false), (10, false), (11, false), (12, true), (13, true)])) (by kernel_rfl) (by kernel_rfl) (by as_aux_lemma => kernel_rfl) rfl (by as_aux_lemma => kernel_rfl) (by kernel_rfl) (hC1i _ ⟨hM.sub (.cons_cons _ .slnil), hk0, trivial⟩) ?_
 refine sxalts ?_
 have hC := (hC1i _ ⟨hM.sub (.cons_cons _ .slnil), hk0, trivial⟩)
 refine qd hf hC (fun w' h => (hC1e w' h).1) [21, 19, 17, 15] [{}, { os := [.ld 0 0, .ld 0 1, .ld 0 2] }, {}, { os := [.ld 0 3, .ld 0 4, .ld 0 5] }, {}, { os := [.ld 0 6] }, {}, { os := [.ld 0 7] }] (env' := [(21, eI dy), (19, eI dx), (17, .val (.agg #[iV kh, iV hx, iV hy])), (15, .val (.agg #[iV k, iV x, iV y]))]) (ob := [Ad B1 0, Ad B1 1, Ad B1 2, Ad B1 3, Ad B1 4, Ad B1 5, Ad B1 6, Ad B1 7]) (Ac (ad _ _) (Ac (ad _ _) (Ac (ad _ _) (Ac (ad _ _) (Ac (ad _ _) (Ac (ad _ _) (Ac (ad _ _) (Ao (ad _ _))))))))) ?_
 clear hf; intro a hf
 refine sxboth ?_ ?_
 ·
  refine sxleaf ?_
  have hC := (hC1i _ ⟨hM.sub (.cons_cons _ .slnil), hk0, trivial⟩)
  refine scstep rfl ?_
  refine q1 hf (MemOk.nil _) [3, 21, 19, 17, 15] [{ os := [.nw] }] (env' := fun B2 => [(3, eP B2 0), (21, eI dy), (19, eI dx), (17, .val (.agg #[iV kh, iV hx, iV hy])), (15, .val (.agg #[iV k, iV x, iV y]))]) (M' := fun B2 => [⟨B2, 62, [iV 0, iV 0, iV 0]⟩]) (ob := fun B2 => []) (fun B2 => An) ?_
  clear hf; intro a w2 B2 hf hMs hB hk; have hk : Keep Nn w1.drew w2 := hk.mono (by intro _ _ h; cases h)
  have hbB2 : w.heap.size ≤ B2 := by have := hk0.size; omega
  have hMo := hM; have hM : MemOk [⟨B1, 64, [iV k, iV x, iV y, iV kh, iV hx, iV hy, iV dx, iV dy]⟩, ⟨B2, 62, [iV 0, iV 0, iV 0]⟩] w2 := MemOk.more hM hk (by omega) (hMs.at_ _ (List.Mem.head _))
  have hk0 := hk0.trans hk.nn
  clear hk hMs hMo hB
  have hC := (hC1i _ ⟨hM.sub (.cons_cons _ (.cons _ .slnil)), hk0, trivial⟩)
  refine scdone hC ?_
  refine scstep rfl ?_
  refine q1 hf (MemOk.nil _) [4, 3, 21, 19, 17, 15] [{ os := [.nw] }] (env' := fun B3 => [(4, eP B3 0), (3, eP B2 0), (21, eI dy), (19, eI dx), (17, .val (.agg #[iV kh, iV hx, iV hy])), (15, .val (.agg #[iV k, iV x, iV y]))]) (M' := fun B3 => [⟨B3, 62, [iV 0, iV 0, iV 0]⟩]) (ob := fun B3 => []) (fun B3 => An) ?_
  clear hf; intro a w3 B3 hf hMs hB hk; have hk : Keep Nn w2 w3 := hk.mono (by intro _ _ h; cases h)
  have hbB3 : w.heap.size ≤ B3 := by have := hk0.size; omega
  have hMo := hM; have hM : MemOk [⟨B1, 64, [iV k, iV x, iV y, iV kh, iV hx, iV hy, iV dx, iV dy]⟩, ⟨B2, 62, [iV 0, iV 0, iV 0]⟩, ⟨B3, 62, [iV 0, iV 0, iV 0]⟩] w3 := MemOk.more hM hk (by omega) (hMs.at_ _ (List.Mem.head _))
  have hk0 := hk0.trans hk.nn
  clear hk hMs hMo hB
  have hC := (hC1i _ ⟨hM.sub (.cons_cons _ (.cons _ (.cons _ .slnil))), hk0, trivial⟩)
  refine scdone hC ?_
  refine scstep rfl ?_
  have hMs : MemOk [⟨B2, 62, [iV 0, iV 0, iV 0]⟩] w3 := hM.sub (.cons _ (.cons_cons _ (.cons _ .slnil)))
  refine q1 hf hMs [4, 3, 21, 19, 17] [{ os := [.st 0 0, .st 0 1, .st 0 2] }] (env' := fun B4 => [(4, eP B3 0), (3, eP B2 0), (21, eI dy), (19, eI dx), (17, .val (.agg #[iV kh, iV hx, iV hy]))]) (M' := fun B4 => [⟨B2, 62, [iV k, iV x, iV y]⟩]) (ob := fun B4 => [Ad B2 0, Ad B2 1, Ad B2 2]) (fun B4 => (Ac (ad _ _) (Ac (ad _ _) (Ao (ad _ _))))) ?_
  clear hf hMs; intro a w4 B4 hf hMs hB hk; clear hB
  have hM : MemOk [⟨B1, 64, [iV k, iV x, iV y, iV kh, iV hx, iV hy, iV dx, iV dy]⟩, ⟨B2, 62, [iV k, iV x, iV y]⟩, ⟨B3, 62, [iV 0, iV 0, iV 0]⟩] w4 := MemOk.upd (M1 := [⟨B1, 64, [iV k, iV x, iV y, iV kh, iV hx, iV hy, iV dx, iV dy]⟩]) (M2 := [⟨B3, 62, [iV 0, iV 0, iV 0]⟩]) hM hk hMs rfl
  have hk0 := hk0.then hk (by intro i hi h; simp only [Is, Mem.names, List.map_cons, List.map_nil, List.mem_cons, List.not_mem_nil, or_false] at h; omega)
  clear hk hMs
  have hC := (hC1i _ ⟨hM.sub (.cons_cons _ (.cons _ (.cons _ .slnil))), hk0, trivial⟩)
  refine scdone hC ?_
  refine scstep rfl ?_
  have hMs : MemOk [⟨B3, 62, [iV 0, iV 0, iV 0]⟩] w4 := hM.sub (.cons _ (.cons _ (.cons_cons _ .slnil)))
  refine q1 hf hMs [4, 3, 21, 19] [{ os := [.st 0 0, .st 0 1, .st 0 2] }] (env' := fun B5 => [(4, eP B3 0), (3, eP B2 0), (21, eI dy), (19, eI dx)]) (M' := fun B5 => [⟨B3, 62, [iV kh, iV hx, iV hy]⟩]) (ob := fun B5 => [Ad B3 0, Ad B3 1, Ad B3 2]) (fun B5 => (Ac (ad _ _) (Ac (ad _ _) (Ao (ad _ _))))) ?_
  clear hf hMs; intro a w5 B5 hf hMs hB hk; clear hB
  have hM : MemOk [⟨B1, 64, [iV k, iV x, iV y, iV kh, iV hx, iV hy, iV dx, iV dy]⟩, ⟨B2, 62, [iV k, iV x, iV y]⟩, ⟨B3, 62, [iV kh, iV hx, iV hy]⟩] w5 := MemOk.upd (M1 := [⟨B1, 64, [iV k, iV x, iV y, iV kh, iV hx, iV hy, iV dx, iV dy]⟩, ⟨B2, 62, [iV k, iV x, iV y]⟩]) (M2 := []) hM hk hMs rfl
  have hk0 := hk0.then hk (by intro i hi h; simp only [Is, Mem.names, List.map_cons, List.map_nil, List.mem_cons, List.not_mem_nil, or_false] at h; omega)
  clear hk hMs
  have hC := (hC1i _ ⟨hM.sub (.cons_cons _ (.cons _ (.cons _ .slnil))), hk0, trivial⟩)
  refine scdone hC ?_
  refine qd hf hC (fun w' h => (hC1e w' h).1) [6, 5, 4, 3] [{}, {}] (env' := [(6, eI dy), (5, eI dx), (4, eP B3 0), (3, eP B2 0)]) (ob := []) An ?_
  clear hf; intro a hf
  clear hC
  show K2 _ _
  refine hK2 _ _ ?_
  refine wp_seq_k (fun K3 hK3 => ?_)
  refine wp_seq_k (fun K4 hK4 => ?_)
  refine wp_region_lit ?_
  refine sxcall hf rfl rfl rfl rfl (g := 29) (vs := []) (ob := []) (by as_aux_lemma => kernel_rfl) An enters29 (alive6 E w5  (hG.keep hk0 (fun _ h => h))) ?_
  clear hf; rintro _ w6 a ⟨rfl, hk⟩ hf
  have hM := hM.keepNn hk
  have hk0 := hk0.trans hk.nn
  clear hk
  refine q0 hf hM [23, 6, 5, 4, 3] [{}] (env' := [(23, eB false), (6, eI dy), (5, eI dx), (4, eP B3 0), (3, eP B2 0)]) (ob := []) An ?_
  clear hf; intro a hf
  refine wpList_nil ?_
  refine hK4 _ _ ?_
  refine sxcond hf (b := false) (by kernel_rfl) (fun h => by cases h) (fun _ => ?_)
  refine wp_skip ?_
  refine hK3 _ _ ?_
  refine wp_seq_k (fun K5 hK5 => ?_)
  refine wp_region_lit ?_
  refine q0 hf hM [27, 26, 25, 6, 5, 4, 3] [{ os := [.ld 1 0, .ld 1 1, .ld 1 2] }, {}, {}] (env' := [(27, eI dy), (26, eI dx), (25, .val (.agg #[iV k, iV x, iV y])), (6, eI dy), (5, eI dx), (4, eP B3 0), (3, eP B2 0)]) (ob := [Ad B2 0, Ad B2 1, Ad B2 2]) (Ac (ad _ _) (Ac (ad _ _) (Ao (ad _ _)))) ?_
  clear hf; intro a hf
  refine sxcall hf rfl rfl rfl rfl (g := 30) (vs := [.agg #[iV k, iV x, iV y], iV dx, iV dy]) (ob := []) (by as_aux_lemma => kernel_rfl) An enters30 (smv_far E k x y dx dy w6 hn0 hn1 (by omega) (by omega) (hG.keep hk0 (fun _ h => h))) ?_
  clear hf; rintro _ w7 a ⟨rfl, hk⟩ hf
  have hM := hM.keepNn hk
  have hk0 := hk0.trans hk.nn
  clear hk
  refine q1 hf hM [8, 7, 6, 5, 4, 3] [{}, {}, {}, { os := [.nw] }, { os := [.st 3 0, .st 3 1, .st 3 2] }, {}] (env' := fun B8 => [(8, .val (.iface 185 (.pointer (some (E 0))))), (7, eP B8 0), (6, eI dy), (5, eI dx), (4, eP B3 0), (3, eP B2 0)]) (M' := fun B8 => [⟨B1, 64, [iV k, iV x, iV y, iV kh, iV hx, iV hy, iV dx, iV dy]⟩, ⟨B2, 62, [iV k, iV x, iV y]⟩, ⟨B3, 62, [iV kh, iV hx, iV hy]⟩, ⟨B8, 62, [iV 0, iV 0, iV 0]⟩]) (ob := fun B8 => [Ad B8 0, Ad B8 1, Ad B8 2]) (fun B8 => (Ac (ad _ _) (Ac (ad _ _) (Ao (ad _ _))))) ?_
  clear hf hM; intro a w8 B8 hf hM hB hk
  have hbB8 : w.heap.size ≤ B8 := by have := hk0.size; omega
  have hk0 := hk0.then hk (by intro i hi h; simp only [Is, Mem.names, List.map_cons, List.map_nil, List.mem_cons, List.not_mem_nil, or_false] at h; omega)
  clear hk hB
  refine wpList_nil ?_
  refine hK5 _ _ ?_
  refine wp_seq_k (fun K6 hK6 => ?_)
  refine wp_seq_k (fun K7 hK7 => ?_)
  refine wp_region_lit ?_
  refine q0 hf hM [32, 7, 6, 5, 4, 3] [{}, {}] (env' := [(32, eB true), (7, eP B8 0), (6, eI dy), (5, eI dx), (4, eP B3 0), (3, eP B2 0)]) (ob := []) An ?_
  clear hf; intro a hf
  refine wpList_nil ?_
  refine hK7 _ _ ?_
  refine sxcond hf (b := true) (by kernel_rfl) (fun _ => ?_) (fun h => by cases h)
  refine wp_seq_k (fun K8 hK8 => ?_)
  refine wp_region_lit ?_
  refine q0 hf hM [2] [{ os := [.ld 3 0, .ld 3 1, .ld 3 2] }, { sp := true }, { sp := true, hint := some (bV true) }, {}] (env' := [(2, eB true)]) (ob := [Ad B8 0, Ad B8 1, Ad B8 2, (bV (((0 : Int) == 0) && (((0 : Int) == 0) && (((0 : Int) == 0) && true))) : Value) = (bV true : Value)]) (Ac (ad _ _) (Ac (ad _ _) (Ac (ad _ _) (Ao (by simp))))) ?_
  clear hf; intro a hf
  refine wpList_nil ?_
  refine hK8 _ _ ?_
  refine wp_ret ?_
  refine qr (fn := Tryd.f5) hf hM [] (l := [bV true]) (ob := []) An ?_
  show (bV true : Value) = .bool true ∧ Keep Nn w w8
  refine ⟨congrArg Value.bool ?_, hk0⟩
  first | rfl | (simp; done) | (simp_all; done)
 ·
  refine sxleaf ?_
  have hC := (hC1i _ ⟨hM.sub (.cons_cons _ .slnil), hk0, trivial⟩)
  refine scstep rfl ?_
  refine q1 hf (MemOk.nil _) [4, 21, 19, 17, 15] [{ os := [.nw] }] (env' := fun B11 => [(4, eP B11 0), (21, eI dy), (19, eI dx), (17, .val (.agg #[iV kh, iV hx, iV hy])), (15, .val (.agg #[iV k, iV x, iV y]))]) (M' := fun B11 => [⟨B11, 62, [iV 0, iV 0, iV 0]⟩]) (ob := fun B11 => []) (fun B11 => An) ?_
  clear hf; intro a w9 B11 hf hMs hB hk; have hk : Keep Nn w1.drew w9 := hk.mono (by intro _ _ h; cases h)
  have hbB11 : w.heap.size ≤ B11 := by have := hk0.size; omega
  have hMo := hM; have hM : MemOk [⟨B1, 64, [iV k, iV x, iV y, iV kh, iV hx, iV hy, iV dx, iV dy]⟩, ⟨B11, 62, [iV 0, iV 0, iV 0]⟩] w9 := MemOk.more hM hk (by omega) (hMs.at_ _ (List.Mem.head _))
  have hk0 := hk0.trans hk.nn
  clear hk hMs hMo hB
  have hC := (hC1i _ ⟨hM.sub (.cons_cons _ (.cons _ .slnil)), hk0, trivial⟩)
  refine scdone hC ?_
  refine scstep rfl ?_
  refine q1 hf (MemOk.nil _) [3, 4, 21, 19, 17, 15] [{ os := [.nw] }] (env' := fun B12 => [(3, eP B12 0), (4, eP B11 0), (21, eI dy), (19, eI dx), (17, .val (.agg #[iV kh, iV hx, iV hy])), (15, .val (.agg #[iV k, iV x, iV y]))]) (M' := fun B12 => [⟨B12, 62, [iV 0, iV 0, iV 0]⟩]) (ob := fun B12 => []) (fun B12 => An) ?_
  clear hf; intro a w10 B12 hf hMs hB hk; have hk : Keep Nn w9 w10 := hk.mono (by intro _ _ h; cases h)
  have hbB12 : w.heap.size ≤ B12 := by have := hk0.size; omega
  have hMo := hM; have hM : MemOk [⟨B1, 64, [iV k, iV x, iV y, iV kh, iV hx, iV hy, iV dx, iV dy]⟩, ⟨B11, 62, [iV 0, iV 0, iV 0]⟩, ⟨B12, 62, [iV 0, iV 0, iV 0]⟩] w10 := MemOk.more hM hk (by omega) (hMs.at_ _ (List.Mem.head _))
  have hk0 := hk0.trans hk.nn
  clear hk hMs hMo hB
  have hC := (hC1i _ ⟨hM.sub (.cons_cons _ (.cons _ (.cons _ .slnil))), hk0, trivial⟩)
  refine scdone hC ?_
  refine scstep rfl ?_
  have hMs : MemOk [⟨B12, 62, [iV 0, iV 0, iV 0]⟩] w10 := hM.sub (.cons _ (.cons _ (.cons_cons _ .slnil)))
  refine q1 hf hMs [3, 4, 21, 19, 17] [{ os := [.st 0 0, .st 0 1, .st 0 2] }] (env' := fun B13 => [(3, eP B12 0), (4, eP B11 0), (21, eI dy), (19, eI dx), (17, .val (.agg #[iV kh, iV hx, iV hy]))]) (M' := fun B13 => [⟨B12, 62, [iV k, iV x, iV y]⟩]) (ob := fun B13 => [Ad B12 0, Ad B12 1, Ad B12 2]) (fun B13 => (Ac (ad _ _) (Ac (ad _ _) (Ao (ad _ _))))) ?_
  clear hf hMs; intro a w11 B13 hf hMs hB hk; clear hB
  have hM : MemOk [⟨B1, 64, [iV k, iV x, iV y, iV kh, iV hx, iV hy, iV dx, iV dy]⟩, ⟨B11, 62, [iV 0, iV 0, iV 0]⟩, ⟨B12, 62, [iV k, iV x, iV y]⟩] w11 := MemOk.upd (M1 := [⟨B1, 64, [iV k, iV x, iV y, iV kh, iV hx, iV hy, iV dx, iV dy]⟩, ⟨B11, 62, [iV 0, iV 0, iV 0]⟩]) (M2 := []) hM hk hMs rfl
  have hk0 := hk0.then hk (by intro i hi h; simp only [Is, Mem.names, List.map_cons, List.map_nil, List.mem_cons, List.not_mem_nil, or_false] at h; omega)
  clear hk hMs
  have hC := (hC1i _ ⟨hM.sub (.cons_cons _ (.cons _ (.cons _ .slnil))), hk0, trivial⟩)
  refine scdone hC ?_
  refine scstep rfl ?_
  have hMs : MemOk [⟨B11, 62, [iV 0, iV 0, iV 0]⟩] w11 := hM.sub (.cons _ (.cons_cons _ (.cons _ .slnil)))
  refine q1 hf hMs [3, 4, 21, 19] [{ os := [.st 0 0, .st 0 1, .st 0 2] }] (env' := fun B14 => [(3, eP B12 0), (4, eP B11 0), (21, eI dy), (19, eI dx)]) (M' := fun B14 => [⟨B11, 62, [iV kh, iV hx, iV hy]⟩]) (ob := fun B14 => [Ad B11 0, Ad B11 1, Ad B11 2]) (fun B14 => (Ac (ad _ _) (Ac (ad _ _) (Ao (ad _ _))))) ?_
  clear hf hMs; intro a w12 B14 hf hMs hB hk; clear hB
  have hM : MemOk [⟨B1, 64, [iV k, iV x, iV y, iV kh, iV hx, iV hy, iV dx, iV dy]⟩, ⟨B11, 62, [iV kh, iV hx, iV hy]⟩, ⟨B12, 62, [iV k, iV x, iV y]⟩] w12 := MemOk.upd (M1 := [⟨B1, 64, [iV k, iV x, iV y, iV kh, iV hx, iV hy, iV dx, iV dy]⟩]) (M2 := [⟨B12, 62, [iV k, iV x, iV y]⟩]) hM hk hMs rfl
  have hk0 := hk0.then hk (by intro i hi h; simp only [Is, Mem.names, List.map_cons, List.map_nil, List.mem_cons, List.not_mem_nil, or_false] at h; omega)
  clear hk hMs
  have hC := (hC1i _ ⟨hM.sub (.cons_cons _ (.cons _ (.cons _ .slnil))), hk0, trivial⟩)
  refine scdone hC ?_
  refine qd hf hC (fun w' h => (hC1e w' h).1) [6, 5, 3, 4] [{}, {}] (env' := [(6, eI dy), (5, eI dx), (3, eP B12 0), (4, eP B11 0)]) (ob := []) An ?_
  clear hf; intro a hf
  clear hC
  show K2 _ _
  refine hK2 _ _ ?_
  refine wp_seq_k (fun K9 hK9 => ?_)
  refine wp_seq_k (fun K10 hK10 => ?_)
  refine wp_region_lit ?_
  refine sxcall hf rfl rfl rfl rfl (g := 29) (vs := []) (ob := []) (by as_aux_lemma => kernel_rfl) An enters29 (alive6 E w12  (hG.keep hk0 (fun _ h => h))) ?_
  clear hf; rintro _ w13 a ⟨rfl, hk⟩ hf
  have hM := hM.keepNn hk
  have hk0 := hk0.trans hk.nn
  clear hk
  refine q0 hf hM [23, 6, 5, 3, 4] [{}] (env' := [(23, eB false), (6, eI dy), (5, eI dx), (3, eP B12 0), (4, eP B11 0)]) (ob := []) An ?_
  clear hf; intro a hf
  refine wpList_nil ?_
  refine hK10 _ _ ?_
  refine sxcond hf (b := false) (by kernel_rfl) (fun h => by cases h) (fun _ => ?_)
  refine wp_skip ?_
  refine hK9 _ _ ?_
  refine wp_seq_k (fun K11 hK11 => ?_)
  refine wp_region_lit ?_
  refine q0 hf hM [27, 26, 25, 6, 5, 3, 4] [{ os := [.ld 2 0, .ld 2 1, .ld 2 2] }, {}, {}] (env' := [(27, eI dy), (26, eI dx), (25, .val (.agg #[iV k, iV x, iV y])), (6, eI dy), (5, eI dx), (3, eP B12 0), (4, eP B11 0)]) (ob := [Ad B12 0, Ad B12 1, Ad B12 2]) (Ac (ad _ _) (Ac (ad _ _) (Ao (ad _ _)))) ?_
  clear hf; intro a hf
  refine sxcall hf rfl rfl rfl rfl (g := 30) (vs := [.agg #[iV k, iV x, iV y], iV dx, iV dy]) (ob := []) (by as_aux_lemma => kernel_rfl) An enters30 (smv_far E k x y dx dy w13 hn0 hn1 (by omega) (by omega) (hG.keep hk0 (fun _ h => h))) ?_
  clear hf; rintro _ w14 a ⟨rfl, hk⟩ hf
  have hM := hM.keepNn hk
  have hk0 := hk0.trans hk.nn
  clear hk
  refine q1 hf hM [8, 7, 6, 5, 3, 4] [{}, {}, {}, { os := [.nw] }, { os := [.st 3 0, .st 3 1, .st 3 2] }, {}] (env' := fun B17 => [(8, .val (.iface 185 (.pointer (some (E 0))))), (7, eP B17 0), (6, eI dy), (5, eI dx), (3, eP B12 0), (4, eP B11 0)]) (M' := fun B17 => [⟨B1, 64, [iV k, iV x, iV y, iV kh, iV hx, iV hy, iV dx, iV dy]⟩, ⟨B11, 62, [iV kh, iV hx, iV hy]⟩, ⟨B12, 62, [iV k, iV x, iV y]⟩, ⟨B17, 62, [iV 0, iV 0, iV 0]⟩]) (ob := fun B17 => [Ad B17 0, Ad B17 1, Ad B17 2]) (fun B17 => (Ac (ad _ _) (Ac (ad _ _) (Ao (ad _ _))))) ?_
  clear hf hM; intro a w15 B17 hf hM hB hk
  have hbB17 : w.heap.size ≤ B17 := by have := hk0.size; omega
  have hk0 := hk0.then hk (by intro i hi h; simp only [Is, Mem.names, List.map_cons, List.map_nil, List.mem_cons, List.not_mem_nil, or_false] at h; omega)
  clear hk hB
  refine wpList_nil ?_
  refine hK11 _ _ ?_
  refine wp_seq_k (fun K12 hK12 => ?_)
  refine wp_seq_k (fun K13 hK13 => ?_)
  refine wp_region_lit ?_
  refine q0 hf hM [32, 7, 6, 5, 3, 4] [{}, {}] (env' := [(32, eB true), (7, eP B17 0), (6, eI dy), (5, eI dx), (3, eP B12 0), (4, eP B11 0)]) (ob := []) An ?_
  clear hf; intro a hf
  refine wpList_nil ?_
  refine hK13 _ _ ?_
  refine sxcond hf (b := true) (by kernel_rfl) (fun _ => ?_) (fun h => by cases h)
  refine wp_seq_k (fun K14 hK14 => ?_)
  refine wp_region_lit ?_
  refine q0 hf hM [2] [{ os := [.ld 3 0, .ld 3 1, .ld 3 2] }, { sp := true }, { sp := true, hint := some (bV true) }, {}] (env' := [(2, eB true)]) (ob := [Ad B17 0, Ad B17 1, Ad B17 2, (bV (((0 : Int) == 0) && (((0 : Int) == 0) && (((0 : Int) == 0) && true))) : Value) = (bV true : Value)]) (Ac (ad _ _) (Ac (ad _ _) (Ac (ad _ _) (Ao (by simp))))) ?_
  clear hf; intro a hf
  refine wpList_nil ?_
  refine hK14 _ _ ?_
  refine wp_ret ?_
  refine qr (fn := Tryd.f5) hf hM [] (l := [bV true]) (ob := []) An ?_
  show (bV true : Value) = .bool true ∧ Keep Nn w w15
  refine ⟨congrArg Value.bool ?_, hk0⟩
  first | rfl | (simp; done) | (simp_all; done)

set_option maxRecDepth 10000 in
set_option maxHeartbeats 1600000 in
theorem swy_out (E : Nat → Addr) (k x y kh hx hy dx dy : Int) (w : World) (hn0 : (mvPos k x y) = true) (hn1 : (mvIn dx dy) = true) (hn2 : (vrange ⟨k, (x + dx), (y + dy)⟩) = false) (hdx : -9223372036854775808 ≤ dx ∧ dx ≤ 9223372036854775807) (hdy : -9223372036854775808 ≤ dy ∧ dy ≤ 9223372036854775807) (hG : Errs [0, 3, 4] w 185 E) :
    Calls Tryd.prog 5 #[.agg #[iV k, iV x, iV y, iV kh, iV hx, iV hy, iV dx, iV dy]] w (Ret fun v w' => v = .bool true ∧ Keep Nn w w') := by
 refine sxenter (n := 95) (args := [.agg #[iV k, iV x, iV y, iV kh, iV hx, iV hy, iV dx, iV dy]]) Tryd.func5 rfl rfl rfl fun a hf => ?_
 replace hf : Fr 95 [(0, .val (.agg #[iV k, iV x, iV y, iV kh, iV hx, iV hy, iV dx, iV dy]))] a := hf
 have hM : MemOk [] w := MemOk.nil w
 have hk0 : Keep Nn w w := Keep.refl _ _
 refine wp_seq_k (fun K1 hK1 => ?_)
 refine wp_region_lit ?_
 refine q1 hf hM [1] [{ os := [.nw] }, {}] (env' := fun B1 => [(1, eP B1 0)]) (M' := fun B1 => [⟨B1, 64, [iV k, iV x, iV y, iV kh, iV hx, iV hy, iV dx, iV dy]⟩]) (ob := fun B1 => []) (fun B1 => An) ?_
 clear hf hM; intro a w1 B1 hf hM hB hk
 have hbB1 : w.heap.size ≤ B1 := by have := hk0.size; omega
 have hk0 := hk0.then hk (by intro i _ h; cases h)
 clear hk hB
 refine wpList_nil ?_
 refine hK1 _ _ ?_
 refine wp_seq_k (fun K2 hK2 => ?_)
 replace hM := hM.drew; replace hk0 := hk0.drew
 obtain ⟨C1, hC1d⟩ : ∃ C : World → Prop, C = fun w' => MemOk [⟨B1, 64, [iV k, iV x, iV y, iV kh, iV hx, iV hy, iV dx, iV dy]⟩] w' ∧ Keep Nn w w' ∧ True := ⟨_, rfl⟩
 have hC1i : ∀ w', (MemOk [⟨B1, 64, [iV k, iV x, iV y, iV kh, iV hx, iV hy, iV dx, iV dy]⟩] w' ∧ Keep Nn w w' ∧ True) → C1 w' := fun w' h => by rw [hC1d]; exact h
 have hC1e : ∀ w', C1 w' → (MemOk [⟨B1, 64, [iV k, iV x, iV y, iV kh, iV hx, iV hy, iV dx, iV dy]⟩] w' ∧ Keep Nn w w' ∧ True) := fun w' h => by rw [hC1d] at h; exact h
 refine sxdraw (C := C1) (.alt [(0, true), (1, true), (2, true), (3, true), (4, true), (5, true), (6, true), (7, true)] (.leaf [(8, false), (9, false), (10, false), (11, false), (12, true), (13, true)]) (.leaf [(9, false), (8, false), (10, false), (11, false), (12, true), (13, true)])) (by kernel_rfl) (by kernel_rfl) (by as_aux_lemma => kernel_rfl) rfl (by as_aux_lemma => kernel_rfl) (by kernel_rfl) (hC1i _ ⟨hM.sub (.cons_cons _ .slnil), hk0, trivial⟩) ?_
 refine sxalts ?_
 have hC := (hC1i _ ⟨hM.sub (.cons_cons _ .slnil), hk0, trivial⟩)
 refine qd hf hC (fun w' h => (hC1e w' h).1) [21, 19, 17, 15] [{}, { os := [.ld 0 0, .ld 0 1, .ld 0 2] }, {}, { os := [.ld 0 3, .ld 0 4, .ld 0 5] }, {}, { os := [.ld 0 6] }, {}, { os := [.ld 0 7] }] (env' := [(21, eI dy), (19, eI dx), (17, .val (.agg #[iV kh, iV hx, iV hy])), (15, .val (.agg #[iV k, iV x, iV y]))]) (ob := [Ad B1 0, Ad B1 1, Ad B1 2, Ad B1 3, Ad B1 4, Ad B1 5, Ad B1 6, Ad B1 7]) (Ac (ad _ _) (Ac (ad _ _) (Ac (ad _ _) (Ac (ad _ _) (Ac (ad _ _) (Ac (ad _ _) (Ac (ad _ _) (Ao (ad _ _))))))))) ?_
 clear hf; intro a hf
 refine sxboth ?_ ?_
 ·
  refine sxleaf ?_
  have hC := (hC1i _ ⟨hM.sub (.cons_cons _ .slnil), hk0, trivial⟩)
  refine scstep rfl ?_
  refine q1 hf (MemOk.nil _) [3, 21, 19, 17, 15] [{ os := [.nw] }] (env' := fun B2 => [(3, eP B2 0), (21, eI dy), (19, eI dx), (17, .val (.agg #[iV kh, iV hx, iV hy])), (15, .val (.agg #[iV k, iV x, iV y]))]) (M' := fun B2 => [⟨B2, 62, [iV 0, iV 0, iV 0]⟩]) (ob := fun B2 => []) (fun B2 => An) ?_
  clear hf; intro a w2 B2 hf hMs hB hk; have hk : Keep Nn w1.drew w2 := hk.mono (by intro _ _ h; cases h)
  have hbB2 : w.heap.size ≤ B2 := by have := hk0.size; omega
  have hMo := hM; have hM : MemOk [⟨B1, 64, [iV k, iV x, iV y, iV kh, iV hx, iV hy, iV dx, iV dy]⟩, ⟨B2, 62, [iV 0, iV 0, iV 0]⟩] w2 := MemOk.more hM hk (by omega) (hMs.at_ _ (List.Mem.head _))
  have hk0 := hk0.trans hk.nn
  clear hk hMs hMo hB
  have hC := (hC1i _ ⟨hM.sub (.cons_cons _ (.cons _ .slnil)), hk0, trivial⟩)
  refine scdone hC ?_
  refine scstep rfl ?_
  refine q1 hf (MemOk.nil _) [4, 3, 21, 19, 17, 15] [{ os := [.nw] }] (env' := fun B3 => [(4, eP B3 0), (3, eP B2 0), (21, eI dy), (19, eI dx), (17, .val (.agg #[iV kh, iV hx, iV hy])), (15, .val (.agg #[iV k, iV x, iV y]))]) (M' := fun B3 => [⟨B3, 62, [iV 0, iV 0, iV 0]⟩]) (ob := fun B3 => []) (fun B3 => An) ?_
  clear hf; intro a w3 B3 hf hMs hB hk; have hk : Keep Nn w2 w3 := hk.mono (by intro _ _ h; cases h)
  have hbB3 : w.heap.size ≤ B3 := by have := hk0.size; omega
  have hMo := hM; have hM : MemOk [⟨B1, 64, [iV k, iV x, iV y, iV kh, iV hx, iV hy, iV dx, iV dy]⟩, ⟨B2, 62, [iV 0, iV 0, iV 0]⟩, ⟨B3, 62, [iV 0, iV 0, iV 0]⟩] w3 := MemOk.more hM hk (by omega) (hMs.at_ _ (List.Mem.head _))
  have hk0 := hk0.trans hk.nn
  clear hk hMs hMo hB
  have hC := (hC1i _ ⟨hM.sub (.cons_cons _ (.cons _ (.cons _ .slnil))), hk0, trivial⟩)
  refine scdone hC ?_
  refine scstep rfl ?_
  have hMs : MemOk [⟨B2, 62, [iV 0, iV 0, iV 0]⟩] w3 := hM.sub (.cons _ (.cons_cons _ (.cons _ .slnil)))
  refine q1 hf hMs [4, 3, 21, 19, 17] [{ os := [.st 0 0, .st 0 1, .st 0 2] }] (env' := fun B4 => [(4, eP B3 0), (3, eP B2 0), (21, eI dy), (19, eI dx), (17, .val (.agg #[iV kh, iV hx, iV hy]))]) (M' := fun B4 => [⟨B2, 62, [iV k, iV x, iV y]⟩]) (ob := fun B4 => [Ad B2 0, Ad B2 1, Ad B2 2]) (fun B4 => (Ac (ad _ _) (Ac (ad _ _) (Ao (ad _ _))))) ?_
  clear hf hMs; intro a w4 B4 hf hMs hB hk; clear hB
  have hM : MemOk [⟨B1, 64, [iV k, iV x, iV y, iV kh, iV hx, iV hy, iV dx, iV dy]⟩, ⟨B2, 62, [iV k, iV x, iV y]⟩, ⟨B3, 62, [iV 0, iV 0, iV 0]⟩] w4 := MemOk.upd (M1 := [⟨B1, 64, [iV k, iV x, iV y, iV kh, iV hx, iV hy, iV dx, iV dy]⟩]) (M2 := [⟨B3, 62, [iV 0, iV 0, iV 0]⟩]) hM hk hMs rfl
  have hk0 := hk0.then hk (by intro i hi h; simp only [Is, Mem.names, List.map_cons, List.map_nil, List.mem_cons, List.not_mem_nil, or_false] at h; omega)
  clear hk hMs
  have hC := (hC1i _ ⟨hM.sub (.cons_cons _ (.cons _ (.cons _ .slnil))), hk0, trivial⟩)
  refine scdone hC ?_
  refine scstep rfl ?_
  have hMs : MemOk [⟨B3, 62, [iV 0, iV 0, iV 0]⟩] w4 := hM.sub (.cons _ (.cons _ (.cons_cons _ .slnil)))
  refine q1 hf hMs [4, 3, 21, 19] [{ os := [.st 0 0, .st 0 1, .st 0 2] }] (env' := fun B5 => [(4, eP B3 0), (3, eP B2 0), (21, eI dy), (19, eI dx)]) (M' := fun B5 => [⟨B3, 62, [iV kh, iV hx, iV hy]⟩]) (ob := fun B5 => [Ad B3 0, Ad B3 1, Ad B3 2]) (fun B5 => (Ac (ad _ _) (Ac (ad _ _) (Ao (ad _ _))))) ?_
  clear hf hMs; intro a w5 B5 hf hMs hB hk; clear hB
  have hM : MemOk [⟨B1, 64, [iV k, iV x, iV y, iV kh, iV hx, iV hy, iV dx, iV dy]⟩, ⟨B2, 62, [iV k, iV x, iV y]⟩, ⟨B3, 62, [iV kh, iV hx, iV hy]⟩] w5 := MemOk.upd (M1 := [⟨B1, 64, [iV k, iV x, iV y, iV kh, iV hx, iV hy, iV dx, iV dy]⟩, ⟨B2, 62, [iV k, iV x, iV y]⟩]) (M2 := []) hM hk hMs rfl
  have hk0 := hk0.then hk (by intro i hi h; simp only [Is, Mem.names, List.map_cons, List.map_nil, List.mem_cons, List.not_mem_nil, or_false] at h; omega)
  clear hk hMs
  have hC := (hC1i _ ⟨hM.sub (.cons_cons _ (.cons _ (.cons _ .slnil))), hk0, trivial⟩)
  refine scdone hC ?_
  refine qd hf hC (fun w' h => (hC1e w' h).1) [6, 5, 4, 3] [{}, {}] (env' := [(6, eI dy), (5, eI dx), (4, eP B3 0), (3, eP B2 0)]) (ob := []) An ?_
  clear hf; intro a hf
  clear hC
  show K2 _ _
  refine hK2 _ _ ?_
  refine wp_seq_k (fun K3 hK3 => ?_)
  refine wp_seq_k (fun K4 hK4 => ?_)
  refine wp_region_lit ?_
  refine sxcall hf rfl rfl rfl rfl (g := 29) (vs := []) (ob := []) (by as_aux_lemma => kernel_rfl) An enters29 (alive6 E w5  (hG.keep hk0 (fun _ h => h))) ?_
  clear hf; rintro _ w6 a ⟨rfl, hk⟩ hf
  have hM := hM.keepNn hk
  have hk0 := hk0.trans hk.nn
  clear hk
  refine q0 hf hM [23, 6, 5, 4, 3] [{}] (env' := [(23, eB false), (6, eI dy), (5, eI dx), (4, eP B3 0), (3, eP B2 0)]) (ob := []) An ?_
  clear hf; intro a hf
  refine wpList_nil ?_
  refine hK4 _ _ ?_
  refine sxcond hf (b := false) (by kernel_rfl) (fun h => by cases h) (fun _ => ?_)
  refine wp_skip ?_
  refine hK3 _ _ ?_
  refine wp_seq_k (fun K5 hK5 => ?_)
  refine wp_region_lit ?_
  refine q0 hf hM [27, 26, 25, 6, 5, 4, 3] [{ os := [.ld 1 0, .ld 1 1, .ld 1 2] }, {}, {}] (env' := [(27, eI dy), (26, eI dx), (25, .val (.agg #[iV k, iV x, iV y])), (6, eI dy), (5, eI dx), (4, eP B3 0), (3, eP B2 0)]) (ob := [Ad B2 0, Ad B2 1, Ad B2 2]) (Ac (ad _ _) (Ac (ad _ _) (Ao (ad _ _)))) ?_
  clear hf; intro a hf
  refine sxcall hf rfl rfl rfl rfl (g := 30) (vs := [.agg #[iV k, iV x, iV y], iV dx, iV dy]) (ob := []) (by as_aux_lemma => kernel_rfl) An enters30 (smv_out E k x y dx dy w6 hn0 hn1 hn2 (by omega) (by omega) (hG.keep hk0 (fun _ h => h))) ?_
  clear hf; rintro _ w7 a ⟨rfl, hk⟩ hf
  have hM := hM.keepNn hk
  have hk0 := hk0.trans hk.nn
  clear hk
  refine q1 hf hM [8, 7, 6, 5, 4, 3] [{}, {}, {}, { os := [.nw] }, { os := [.st 3 0, .st 3 1, .st 3 2] }, {}] (env' := fun B8 => [(8, .val (.iface 185 (.pointer (some (E 0))))), (7, eP B8 0), (6, eI dy), (5, eI dx), (4, eP B3 0), (3, eP B2 0)]) (M' := fun B8 => [⟨B1, 64, [iV k, iV x, iV y, iV kh, iV hx, iV hy, iV dx, iV dy]⟩, ⟨B2, 62, [iV k, iV x, iV y]⟩, ⟨B3, 62, [iV kh, iV hx, iV hy]⟩, ⟨B8, 62, [iV 0, iV 0, iV 0]⟩]) (ob := fun B8 => [Ad B8 0, Ad B8 1, Ad B8 2]) (fun B8 => (Ac (ad _ _) (Ac (ad _ _) (Ao (ad _ _))))) ?_
  clear hf hM; intro a w8 B8 hf hM hB hk
  have hbB8 : w.heap.size ≤ B8 := by have := hk0.size; omega
  have hk0 := hk0.then hk (by intro i hi h; simp only [Is, Mem.names, List.map_cons, List.map_nil, List.mem_cons, List.not_mem_nil, or_false] at h; omega)
  clear hk hB
  refine wpList_nil ?_
  refine hK5 _ _ ?_
  refine wp_seq_k (fun K6 hK6 => ?_)
  refine wp_seq_k (fun K7 hK7 => ?_)
  refine wp_region_lit ?_
  refine q0 hf hM [32, 7, 6, 5, 4, 3] [{}, {}] (env' := [(32, eB true), (7, eP B8 0), (6, eI dy), (5, eI dx), (4, eP B3 0), (3, eP B2 0)]) (ob := []) An ?_
  clear hf; intro a hf
  refine wpList_nil ?_
  refine hK7 _ _ ?_
  refine sxcond hf (b := true) (by kernel_rfl) (fun _ => ?_) (fun h => by cases h)
  refine wp_seq_k (fun K8 hK8 => ?_)
  refine wp_region_lit ?_
  refine q0 hf hM [2] [{ os := [.ld 3 0, .ld 3 1, .ld 3 2] }, { sp := true }, { sp := true, hint := some (bV true) }, {}] (env' := [(2, eB true)]) (ob := [Ad B8 0, Ad B8 1, Ad B8 2, (bV (((0 : Int) == 0) && (((0 : Int) == 0) && (((0 : Int) == 0) && true))) : Value) = (bV true : Value)]) (Ac (ad _ _) (Ac (ad _ _) (Ac (ad _ _) (Ao (by simp))))) ?_
  clear hf; intro a hf
  refine wpList_nil ?_
  refine hK8 _ _ ?_
  refine wp_ret ?_
  refine qr (fn := Tryd.f5) hf hM [] (l := [bV true]) (ob := []) An ?_
  show (bV true : Value) = .bool true ∧ Keep Nn w w8
  refine ⟨congrArg Value.bool ?_, hk0⟩
  first | rfl | (simp; done) | (simp_all; done)
 ·
  refine sxleaf ?_
  have hC := (hC1i _ ⟨hM.sub (.cons_cons _ .slnil), hk0, trivial⟩)
  refine scstep rfl ?_
  refine q1 hf (MemOk.nil _) [4, 21, 19, 17, 15] [{ os := [.nw] }] (env' := fun B11 => [(4, eP B11 0), (21, eI dy), (19, eI dx), (17, .val (.agg #[iV kh, iV hx, iV hy])), (15, .val (.agg #[iV k, iV x, iV y]))]) (M' := fun B11 => [⟨B11, 62, [iV 0, iV 0, iV 0]⟩]) (ob := fun B11 => []) (fun B11 => An) ?_
  clear hf; intro a w9 B11 hf hMs hB hk; have hk : Keep Nn w1.drew w9 := hk.mono (by intro _ _ h; cases h)
  have hbB11 : w.heap.size ≤ B11 := by have := hk0.size; omega
  have hMo := hM; have hM : MemOk [⟨B1, 64, [iV k, iV x, iV y, iV kh, iV hx, iV hy, iV dx, iV dy]⟩, ⟨B11, 62, [iV 0, iV 0, iV 0]⟩] w9 := MemOk.more hM hk (by omega) (hMs.at_ _ (List.Mem.head _))
  have hk0 := hk0.trans hk.nn
  clear hk hMs hMo hB
  have hC := (hC1i _ ⟨hM.sub (.cons_cons _ (.cons _ .slnil)), hk0, trivial⟩)
  refine scdone hC ?_
  refine scstep rfl ?_
  refine q1 hf (MemOk.nil _) [3, 4, 21, 19, 17, 15] [{ os := [.nw] }] (env' := fun B12 => [(3, eP B12 0), (4, eP B11 0), (21, eI dy), (19, eI dx), (17, .val (.agg #[iV kh, iV hx, iV hy])), (15, .val (.agg #[iV k, iV x, iV y]))]) (M' := fun B12 => [⟨B12, 62, [iV 0, iV 0, iV 0]⟩]) (ob := fun B12 => []) (fun B12 => An) ?_
  clear hf; intro a w10 B12 hf hMs hB hk; have hk : Keep Nn w9 w10 := hk.mono (by intro _ _ h; cases h)
  have hbB12 : w.heap.size ≤ B12 := by have := hk0.size; omega
  have hMo := hM; have hM : MemOk [⟨B1, 64, [iV k, iV x, iV y, iV kh, iV hx, iV hy, iV dx, iV dy]⟩, ⟨B11, 62, [iV 0, iV 0, iV 0]⟩, ⟨B12, 62, [iV 0, iV 0, iV 0]⟩] w10 := MemOk.more hM hk (by omega) (hMs.at_ _ (List.Mem.head _))
  have hk0 := hk0.trans hk.nn
  clear hk hMs hMo hB
  have hC := (hC1i _ ⟨hM.sub (.cons_cons _ (.cons _ (.cons _ .slnil))), hk0, trivial⟩)
  refine scdone hC ?_
  refine scstep rfl ?_
  have hMs : MemOk [⟨B12, 62, [iV 0, iV 0, iV 0]⟩] w10 := hM.sub (.cons _ (.cons _ (.cons_cons _ .slnil)))
  refine q1 hf hMs [3, 4, 21, 19, 17] [{ os := [.st 0 0, .st 0 1, .st 0 2] }] (env' := fun B13 => [(3, eP B12 0), (4, eP B11 0), (21, eI dy), (19, eI dx), (17, .val (.agg #[iV kh, iV hx, iV hy]))]) (M' := fun B13 => [⟨B12, 62, [iV k, iV x, iV y]⟩]) (ob := fun B13 => [Ad B12 0, Ad B12 1, Ad B12 2]) (fun B13 => (Ac (ad _ _) (Ac (ad _ _) (Ao (ad _ _))))) ?_
  clear hf hMs; intro a w11 B13 hf hMs hB hk; clear hB
  have hM : MemOk [⟨B1, 64, [iV k, iV x, iV y, iV kh, iV hx, iV hy, iV dx, iV dy]⟩, ⟨B11, 62, [iV 0, iV 0, iV 0]⟩, ⟨B12, 62, [iV k, iV x, iV y]⟩] w11 := MemOk.upd (M1 := [⟨B1, 64, [iV k, iV x, iV y, iV kh, iV hx, iV hy, iV dx, iV dy]⟩, ⟨B11, 62, [iV 0, iV 0, iV 0]⟩]) (M2 := []) hM hk hMs rfl
  have hk0 := hk0.then hk (by intro i hi h; simp only [Is, Mem.names, List.map_cons, List.map_nil, List.mem_cons, List.not_mem_nil, or_false] at h; omega)
  clear hk hMs
  have hC := (hC1i _ ⟨hM.sub (.cons_cons _ (.cons _ (.cons _ .slnil))), hk0, trivial⟩)
  refine scdone hC ?_
  refine scstep rfl ?_
  have hMs : MemOk [⟨B11, 62, [iV 0, iV 0, iV 0]⟩] w11 := hM.sub (.cons _ (.cons_cons _ (.cons _ .slnil)))
  refine q1 hf hMs [3, 4, 21, 19] [{ os := [.st 0 0, .st 0 1, .st 0 2] }] (env' := fun B14 => [(3, eP B12 0), (4, eP B11 0), (21, eI dy), (19, eI dx)]) (M' := fun B14 => [⟨B11, 62, [iV kh, iV hx, iV hy]⟩]) (ob := fun B14 => [Ad B11 0, Ad B11 1, Ad B11 2]) (fun B14 => (Ac (ad _ _) (Ac (ad _ _) (Ao (ad _ _))))) ?_
  clear hf hMs; intro a w12 B14 hf hMs hB hk; clear hB
  have hM : MemOk [⟨B1, 64, [iV k, iV x, iV y, iV kh, iV hx, iV hy, iV dx, iV dy]⟩, ⟨B11, 62, [iV kh, iV hx, iV hy]⟩, ⟨B12, 62, [iV k, iV x, iV y]⟩] w12 := MemOk.upd (M1 := [⟨B1, 64, [iV k, iV x, iV y, iV kh, iV hx, iV hy, iV dx, iV dy]⟩]) (M2 := [⟨B12, 62, [iV k, iV x, iV y]⟩]) hM hk hMs rfl
  have hk0 := hk0.then hk (by intro i hi h; simp only [Is, Mem.names, List.map_cons, List.map_nil, List.mem_cons, List.not_mem_nil, or_false] at h; omega)
  clear hk hMs
  have hC := (hC1i _ ⟨hM.sub (.cons_cons _ (.cons _ (.cons _ .slnil))), hk0, trivial⟩)
  refine scdone hC ?_
  refine qd hf hC (fun w' h => (hC1e w' h).1) [6, 5, 3, 4] [{}, {}] (env' := [(6, eI dy), (5, eI dx), (3, eP B12 0), (4, eP B11 0)]) (ob := []) An ?_
  clear hf; intro a hf
  clear hC
  show K2 _ _
  refine hK2 _ _ ?_
  refine wp_seq_k (fun K9 hK9 => ?_)
  refine wp_seq_k (fun K10 hK10 => ?_)
  refine wp_region_lit ?_
  refine sxcall hf rfl rfl rfl rfl (g := 29) (vs := []) (ob := []) (by as_aux_lemma => kernel_rfl) An enters29 (alive6 E w12  (hG.keep hk0 (fun _ h => h))) ?_
  clear hf; rintro _ w13 a ⟨rfl, hk⟩ hf
  have hM := hM.keepNn hk
  have hk0 := hk0.trans hk.nn
  clear hk
  refine q0 hf hM [23, 6, 5, 3, 4] [{}] (env' := [(23, eB false), (6, eI dy), (5, eI dx), (3, eP B12 0), (4, eP B11 0)]) (ob := []) An ?_
  clear hf; intro a hf
  refine wpList_nil ?_
  refine hK10 _ _ ?_
  refine sxcond hf (b := false) (by kernel_rfl) (fun h => by cases h) (fun _ => ?_)
  refine wp_skip ?_
  refine hK9 _ _ ?_
  refine wp_seq_k (fun K11 hK11 => ?_)
  refine wp_region_lit ?_
  refine q0 hf hM [27, 26, 25, 6, 5, 3, 4] [{ os := [.ld 2 0, .ld 2 1, .ld 2 2] }, {}, {}] (env' := [(27, eI dy), (26, eI dx), (25, .val (.agg #[iV k, iV x, iV y])), (6, eI dy), (5, eI dx), (3, eP B12 0), (4, eP B11 0)]) (ob := [Ad B12 0, Ad B12 1, Ad B12 2]) (Ac (ad _ _) (Ac (ad _ _) (Ao (ad _ _)))) ?_
  clear hf; intro a hf
  refine sxcall hf rfl rfl rfl rfl (g := 30) (vs := [.agg #[iV k, iV x, iV y], iV dx, iV dy]) (ob := []) (by as_aux_lemma => kernel_rfl) An enters30 (smv_out E k x y dx dy w13 hn0 hn1 hn2 (by omega) (by omega) (hG.keep hk0 (fun _ h => h))) ?_
  clear hf; rintro _ w14 a ⟨rfl, hk⟩ hf
  have hM := hM.keepNn hk
  have hk0 := hk0.trans hk.nn
  clear hk
  refine q1 hf hM [8, 7, 6, 5, 3, 4] [{}, {}, {}, { os := [.nw] }, { os := [.st 3 0, .st 3 1, .st 3 2] }, {}] (env' := fun B17 => [(8, .val (.iface 185 (.pointer (some (E 0))))), (7, eP B17 0), (6, eI dy), (5, eI dx), (3, eP B12 0), (4, eP B11 0)]) (M' := fun B17 => [⟨B1, 64, [iV k, iV x, iV y, iV kh, iV hx, iV hy, iV dx, iV dy]⟩, ⟨B11, 62, [iV kh, iV hx, iV hy]⟩, ⟨B12, 62, [iV k, iV x, iV y]⟩, ⟨B17, 62, [iV 0, iV 0, iV 0]⟩]) (ob := fun B17 => [Ad B17 0, Ad B17 1, Ad B17 2]) (fun B17 => (Ac (ad _ _) (Ac (ad _ _) (Ao (ad _ _))))) ?_
  clear hf hM; intro a w15 B17 hf hM hB hk
  have hbB17 : w.heap.size ≤ B17 := by have := hk0.size; omega
  have hk0 := hk0.then hk (by intro i hi h; simp only [Is, Mem.names, List.map_cons, List.map_nil, List.mem_cons, List.not_mem_nil, or_false] at h; omega)
  clear hk hB
  refine wpList_nil ?_
  refine hK11 _ _ ?_
  refine wp_seq_k (fun K12 hK12 => ?_)
  refine wp_seq_k (fun K13 hK13 => ?_)
  refine wp_region_lit ?_
  refine q0 hf hM [32, 7, 6, 5, 3, 4] [{}, {}] (env' := [(32, eB true), (7, eP B17 0), (6, eI dy), (5, eI dx), (3, eP B12 0), (4, eP B11 0)]) (ob := []) An ?_
  clear hf; intro a hf
  refine wpList_nil ?_
  refine hK13 _ _ ?_
  refine sxcond hf (b := true) (by kernel_rfl) (fun _ => ?_) (fun h => by cases h)
  refine wp_seq_k (fun K14 hK14 => ?_)
  refine wp_region_lit ?_
  refine q0 hf hM [2] [{ os := [.ld 3 0, .ld 3 1, .ld 3 2] }, { sp := true }, { sp := true, hint := some (bV true) }, {}] (env' := [(2, eB true)]) (ob := [Ad B17 0, Ad B17 1, Ad B17 2, (bV (((0 : Int) == 0) && (((0 : Int) == 0) && (((0 : Int) == 0) && true))) : Value) = (bV true : Value)]) (Ac (ad _ _) (Ac (ad _ _) (Ac (ad _ _) (Ao (by simp))))) ?_
  clear hf; intro a hf
  refine wpList_nil ?_
  refine hK14 _ _ ?_
  refine wp_ret ?_
  refine qr (fn := Tryd.f5) hf hM [] (l := [bV true]) (ob := []) An ?_
  show (bV true : Value) = .bool true ∧ Keep Nn w w15
  refine ⟨congrArg Value.bool ?_, hk0⟩
  first | rfl | (simp; done) | (simp_all; done)

set_option maxRecDepth 10000 in
set_option maxHeartbeats 1600000 in
theorem swy_half (E : Nat → Addr) (k x y kh hx hy dx dy : Int) (w : World) (hn0 : (mvPos k x y) = true) (hn1 : (mvIn dx dy) = true) (hn2 : (vrange ⟨k, (x + dx), (y + dy)⟩) = true) (hn3 : (vrange ⟨1, hx, hy⟩) = false) (hdx : -9223372036854775808 ≤ dx ∧ dx ≤ 9223372036854775807) (hdy : -9223372036854775808 ≤ dy ∧ dy ≤ 9223372036854775807) (hG : Errs [0, 3, 4] w 185 E) :
    Calls Tryd.prog 5 #[.agg #[iV k, iV x, iV y, iV kh, iV hx, iV hy, iV dx, iV dy]] w (Ret fun v w' => v = .bool true ∧ Keep Nn w w') := by
 refine sxenter (n := 95) (args := [.agg #[iV k, iV x, iV y, iV kh, iV hx, iV hy, iV dx, iV dy]]) Tryd.func5 rfl rfl rfl fun a hf => ?_
 replace hf : Fr 95 [(0, .val (.agg #[iV k, iV x, iV y, iV kh, iV hx, iV hy, iV dx, iV dy]))] a := hf
 have hM : MemOk [] w := MemOk.nil w
 have hk0 : Keep Nn w w := Keep.refl _ _
 have hps := hn0
 simp only [mvPos, Bool.and_eq_true, decide_eq_true_eq] at hps
 obtain ⟨⟨hk_, hkk⟩, hrr⟩ := hps
 have hin := of_decide_eq_true hn1
 have hrx := hrr
 simp only [vrange, hk_, true_or, if_true, decide_eq_true_eq] at hrx
 have hp2 : mvPos k (x + dx) (y + dy) = true := by simp only [mvPos, Bool.and_eq_true, decide_eq_true_eq]; exact ⟨⟨hk_, hkk⟩, hn2⟩
 have hi2 : mvIn (0 - dx) (0 - dy) = true := by simp only [mvIn, decide_eq_true_eq]; omega
 have hv2 : vrange ⟨k, ((x + dx) + (0 - dx)), ((y + dy) + (0 - dy))⟩ = true := by rw [show (x + dx) + (0 - dx) = x by omega, show (y + dy) + (0 - dy) = y by omega]; exact hrr
 have hv3 := hn2
 simp only [vrange, hk_, true_or, if_true, decide_eq_true_eq] at hv3
 have hkh : vkind ⟨1, hx, hy⟩ = true := rfl
 have he0 : (findV ([⟨k, x, y⟩, ⟨1, hx, hy⟩] : List V3) 0).a = x := by simp [findV, hk_]
 have he1 : (findV ([⟨k, x, y⟩, ⟨1, hx, hy⟩] : List V3) 0).b = y := by simp [findV, hk_]
 have he2 : (findV ([⟨k, x, y⟩, ⟨1, hx, hy⟩] : List V3) 1).a = hx := by simp [findV, hk_]
 have he3 : (findV ([⟨k, x, y⟩, ⟨1, hx, hy⟩] : List V3) 1).b = hy := by simp [findV, hk_]
 have hf0 : (findV ([⟨k, x + dx, y + dy⟩, ⟨1, hx, hy⟩] : List V3) 0).a = x + dx := by simp [findV, hk_]
 have hf1 : (findV ([⟨k, x + dx, y + dy⟩, ⟨1, hx, hy⟩] : List V3) 0).b = y + dy := by simp [findV, hk_]
 have hf2 : (findV ([⟨k, x + dx, y + dy⟩, ⟨1, hx, hy⟩] : List V3) 1).a = hx := by simp [findV, hk_]
 have hf3 : (findV ([⟨k, x + dx, y + dy⟩, ⟨1, hx, hy⟩] : List V3) 1).b = hy := by simp [findV, hk_]
 refine wp_seq_k (fun K1 hK1 => ?_)
 refine wp_region_lit ?_
 refine q1 hf hM [1] [{ os := [.nw] }, {}] (env' := fun B1 => [(1, eP B1 0)]) (M' := fun B1 => [⟨B1, 64, [iV k, iV x, iV y, iV kh, iV hx, iV hy, iV dx, iV dy]⟩]) (ob := fun B1 => []) (fun B1 => An) ?_
 clear hf hM; intro a w1 B1 hf hM hB hk
 have hbB1 : w.heap.size ≤ B1 := by have := hk0.size; omega
 have hk0 := hk0.then hk (by intro i _ h; cases h)
 clear hk hB
 refine wpList_nil ?_
 refine hK1 _ _ ?_
 refine wp_seq_k (fun K2 hK2 => ?_)
 replace hM := hM.drew; replace hk0 := hk0.drew
 obtain ⟨C1, hC1d⟩ : ∃ C : World → Prop, C = fun w' => MemOk [⟨B1, 64, [iV k, iV x, iV y, iV kh, iV hx, iV hy, iV dx, iV dy]⟩] w' ∧ Keep Nn w w' ∧ True := ⟨_, rfl⟩
 have hC1i : ∀ w', (MemOk [⟨B1, 64, [iV k, iV x, iV y, iV kh, iV hx, iV hy, iV dx, iV dy]⟩] w' ∧ Keep Nn w w' ∧ True) → C1 w' := fun w' h => by rw [hC1d]; exact h
 have hC1e : ∀ w', C1 w' → (MemOk [⟨B1, 64, [iV k, iV x, iV y, iV kh, iV hx, iV hy, iV dx, iV dy]⟩] w' ∧ Keep Nn w w' ∧ True) := fun w' h => by rw [hC1d] at h; exact h
 refine sxdraw (C := C1) (.alt [(0, true), (1, true), (2, true), (3, true), (4, true), (5, true), (6, true), (7, true)] (.leaf [(8, false), (9, false), (10, false), (11, false), (12, true), (13, true)]) (.leaf [(9, false), (8, false), (10, false), (11, false), (12, true), (13, true)])) (by kernel_rfl) (by kernel_rfl) (by as_aux_lemma => kernel_rfl) rfl (by as_aux_lemma => kernel_rfl) (by kernel_rfl) (hC1i _ ⟨hM.sub (.cons_cons _ .slnil), hk0, trivial⟩) ?_
 refine sxalts ?_
 have hC := (hC1i _ ⟨hM.sub (.cons_cons _ .slnil), hk0, trivial⟩)
 refine qd hf hC (fun w' h => (hC1e w' h).1) [21, 19, 17, 15] [{}, { os := [.ld 0 0, .ld 0 1, .ld 0 2] }, {}, { os := [.ld 0 3, .ld 0 4, .ld 0 5] }, {}, { os := [.ld 0 6] }, {}, { os := [.ld 0 7] }] (env' := [(21, eI dy), (19, eI dx), (17, .val (.agg #[iV kh, iV hx, iV hy])), (15, .val (.agg #[iV k, iV x, iV y]))]) (ob := [Ad B1 0, Ad B1 1, Ad B1 2, Ad B1 3, Ad B1 4, Ad B1 5, Ad B1 6, Ad B1 7]) (Ac (ad _ _) (Ac (ad _ _) (Ac (ad _ _) (Ac (ad _ _) (Ac (ad _ _) (Ac (ad _ _) (Ac (ad _ _) (Ao (ad _ _))))))))) ?_
 clear hf; intro a hf
 refine sxboth ?_ ?_
 ·
  refine sxleaf ?_
  have hC := (hC1i _ ⟨hM.sub (.cons_cons _ .slnil), hk0, trivial⟩)
  refine scstep rfl ?_
  refine q1 hf (MemOk.nil _) [3, 21, 19, 17, 15] [{ os := [.nw] }] (env' := fun B2 => [(3, eP B2 0), (21, eI dy), (19, eI dx), (17, .val (.agg #[iV kh, iV hx, iV hy])), (15, .val (.agg #[iV k, iV x, iV y]))]) (M' := fun B2 => [⟨B2, 62, [iV 0, iV 0, iV 0]⟩]) (ob := fun B2 => []) (fun B2 => An) ?_
  clear hf; intro a w2 B2 hf hMs hB hk; have hk : Keep Nn w1.drew w2 := hk.mono (by intro _ _ h; cases h)
  have hbB2 : w.heap.size ≤ B2 := by have := hk0.size; omega
  have hMo := hM; have hM : MemOk [⟨B1, 64, [iV k, iV x, iV y, iV kh, iV hx, iV hy, iV dx, iV dy]⟩, ⟨B2, 62, [iV 0, iV 0, iV 0]⟩] w2 := MemOk.more hM hk (by omega) (hMs.at_ _ (List.Mem.head _))
  have hk0 := hk0.trans hk.nn
  clear hk hMs hMo hB
  have hC := (hC1i _ ⟨hM.sub (.cons_cons _ (.cons _ .slnil)), hk0, trivial⟩)
  refine scdone hC ?_
  refine scstep rfl ?_
  refine q1 hf (MemOk.nil _) [4, 3, 21, 19, 17, 15] [{ os := [.nw] }] (env' := fun B3 => [(4, eP B3 0), (3, eP B2 0), (21, eI dy), (19, eI dx), (17, .val (.agg #[iV kh, iV hx, iV hy])), (15, .val (.agg #[iV k, iV x, iV y]))]) (M' := fun B3 => [⟨B3, 62, [iV 0, iV 0, iV 0]⟩]) (ob := fun B3 => []) (fun B3 => An) ?_
  clear hf; intro a w3 B3 hf hMs hB hk; have hk : Keep Nn w2 w3 := hk.mono (by intro _ _ h; cases h)
  have hbB3 : w.heap.size ≤ B3 := by have := hk0.size; omega
  have hMo := hM; have hM : MemOk [⟨B1, 64, [iV k, iV x, iV y, iV kh, iV hx, iV hy, iV dx, iV dy]⟩, ⟨B2, 62, [iV 0, iV 0, iV 0]⟩, ⟨B3, 62, [iV 0, iV 0, iV 0]⟩] w3 := MemOk.more hM hk (by omega) (hMs.at_ _ (List.Mem.head _))
  have hk0 := hk0.trans hk.nn
  clear hk hMs hMo hB
  have hC := (hC1i _ ⟨hM.sub (.cons_cons _ (.cons _ (.cons _ .slnil))), hk0, trivial⟩)
  refine scdone hC ?_
  refine scstep rfl ?_
  have hMs : MemOk [⟨B2, 62, [iV 0, iV 0, iV 0]⟩] w3 := hM.sub (.cons _ (.cons_cons _ (.cons _ .slnil)))
  refine q1 hf hMs [4, 3, 21, 19, 17] [{ os := [.st 0 0, .st 0 1, .st 0 2] }] (env' := fun B4 => [(4, eP B3 0), (3, eP B2 0), (21, eI dy), (19, eI dx), (17, .val (.agg #[iV kh, iV hx, iV hy]))]) (M' := fun B4 => [⟨B2, 62, [iV k, iV x, iV y]⟩]) (ob := fun B4 => [Ad B2 0, Ad B2 1, Ad B2 2]) (fun B4 => (Ac (ad _ _) (Ac (ad _ _) (Ao (ad _ _))))) ?_
  clear hf hMs; intro a w4 B4 hf hMs hB hk; clear hB
  have hM : MemOk [⟨B1, 64, [iV k, iV x, iV y, iV kh, iV hx, iV hy, iV dx, iV dy]⟩, ⟨B2, 62, [iV k, iV x, iV y]⟩, ⟨B3, 62, [iV 0, iV 0, iV 0]⟩] w4 := MemOk.upd (M1 := [⟨B1, 64, [iV k, iV x, iV y, iV kh, iV hx, iV hy, iV dx, iV dy]⟩]) (M2 := [⟨B3, 62, [iV 0, iV 0, iV 0]⟩]) hM hk hMs rfl
  have hk0 := hk0.then hk (by intro i hi h; simp only [Is, Mem.names, List.map_cons, List.map_nil, List.mem_cons, List.not_mem_nil, or_false] at h; omega)
  clear hk hMs
  have hC := (hC1i _ ⟨hM.sub (.cons_cons _ (.cons _ (.cons _ .slnil))), hk0, trivial⟩)
  refine scdone hC ?_
  refine scstep rfl ?_
  have hMs : MemOk [⟨B3, 62, [iV 0, iV 0, iV 0]⟩] w4 := hM.sub (.cons _ (.cons _ (.cons_cons _ .slnil)))
  refine q1 hf hMs [4, 3, 21, 19] [{ os := [.st 0 0, .st 0 1, .st 0 2] }] (env' := fun B5 => [(4, eP B3 0), (3, eP B2 0), (21, eI dy), (19, eI dx)]) (M' := fun B5 => [⟨B3, 62, [iV kh, iV hx, iV hy]⟩]) (ob := fun B5 => [Ad B3 0, Ad B3 1, Ad B3 2]) (fun B5 => (Ac (ad _ _) (Ac (ad _ _) (Ao (ad _ _))))) ?_
  clear hf hMs; intro a w5 B5 hf hMs hB hk; clear hB
  have hM : MemOk [⟨B1, 64, [iV k, iV x, iV y, iV kh, iV hx, iV hy, iV dx, iV dy]⟩, ⟨B2, 62, [iV k, iV x, iV y]⟩, ⟨B3, 62, [iV kh, iV hx, iV hy]⟩] w5 := MemOk.upd (M1 := [⟨B1, 64, [iV k, iV x, iV y, iV kh, iV hx, iV hy, iV dx, iV dy]⟩, ⟨B2, 62, [iV k, iV x, iV y]⟩]) (M2 := []) hM hk hMs rfl
  have hk0 := hk0.then hk (by intro i hi h; simp only [Is, Mem.names, List.map_cons, List.map_nil, List.mem_cons, List.not_mem_nil, or_false] at h; omega)
  clear hk hMs
  have hC := (hC1i _ ⟨hM.sub (.cons_cons _ (.cons _ (.cons _ .slnil))), hk0, trivial⟩)
  refine scdone hC ?_
  refine qd hf hC (fun w' h => (hC1e w' h).1) [6, 5, 4, 3] [{}, {}] (env' := [(6, eI dy), (5, eI dx), (4, eP B3 0), (3, eP B2 0)]) (ob := []) An ?_
  clear hf; intro a hf
  clear hC
  show K2 _ _
  refine hK2 _ _ ?_
  refine wp_seq_k (fun K3 hK3 => ?_)
  refine wp_seq_k (fun K4 hK4 => ?_)
  refine wp_region_lit ?_
  refine sxcall hf rfl rfl rfl rfl (g := 29) (vs := []) (ob := []) (by as_aux_lemma => kernel_rfl) An enters29 (alive6 E w5  (hG.keep hk0 (fun _ h => h))) ?_
  clear hf; rintro _ w6 a ⟨rfl, hk⟩ hf
  have hM := hM.keepNn hk
  have hk0 := hk0.trans hk.nn
  clear hk
  refine q0 hf hM [23, 6, 5, 4, 3] [{}] (env' := [(23, eB false), (6, eI dy), (5, eI dx), (4, eP B3 0), (3, eP B2 0)]) (ob := []) An ?_
  clear hf; intro a hf
  refine wpList_nil ?_
  refine hK4 _ _ ?_
  refine sxcond hf (b := false) (by kernel_rfl) (fun h => by cases h) (fun _ => ?_)
  refine wp_skip ?_
  refine hK3 _ _ ?_
  refine wp_seq_k (fun K5 hK5 => ?_)
  refine wp_region_lit ?_
  refine q0 hf hM [27, 26, 25, 6, 5, 4, 3] [{ os := [.ld 1 0, .ld 1 1, .ld 1 2] }, {}, {}] (env' := [(27, eI dy), (26, eI dx), (25, .val (.agg #[iV k, iV x, iV y])), (6, eI dy), (5, eI dx), (4, eP B3 0), (3, eP B2 0)]) (ob := [Ad B2 0, Ad B2 1, Ad B2 2]) (Ac (ad _ _) (Ac (ad _ _) (Ao (ad _ _)))) ?_
  clear hf; intro a hf
  refine sxcall hf rfl rfl rfl rfl (g := 30) (vs := [.agg #[iV k, iV x, iV y], iV dx, iV dy]) (ob := []) (by as_aux_lemma => kernel_rfl) An enters30 (smv_ok E k x y dx dy w6 hn0 hn1 hn2 (by omega) (by omega) (hG.keep hk0 (fun _ h => h))) ?_
  clear hf; rintro _ w7 a ⟨rfl, hk⟩ hf
  have hM := hM.keepNn hk
  have hk0 := hk0.trans hk.nn
  clear hk
  refine q1 hf hM [8, 7, 6, 5, 4, 3] [{}, {}, {}, { os := [.nw] }, { os := [.st 3 0, .st 3 1, .st 3 2] }, {}] (env' := fun B8 => [(8, .val (.nilIface)), (7, eP B8 0), (6, eI dy), (5, eI dx), (4, eP B3 0), (3, eP B2 0)]) (M' := fun B8 => [⟨B1, 64, [iV k, iV x, iV y, iV kh, iV hx, iV hy, iV dx, iV dy]⟩, ⟨B2, 62, [iV k, iV x, iV y]⟩, ⟨B3, 62, [iV kh, iV hx, iV hy]⟩, ⟨B8, 62, [iV k, iV (x + dx), iV (y + dy)]⟩]) (ob := fun B8 => [Ad B8 0, Ad B8 1, Ad B8 2]) (fun B8 => (Ac (ad _ _) (Ac (ad _ _) (Ao (ad _ _))))) ?_
  clear hf hM; intro a w8 B8 hf hM hB hk
  have hbB8 : w.heap.size ≤ B8 := by have := hk0.size; omega
  have hk0 := hk0.then hk (by intro i hi h; simp only [Is, Mem.names, List.map_cons, List.map_nil, List.mem_cons, List.not_mem_nil, or_false] at h; omega)
  clear hk hB
  refine wpList_nil ?_
  refine hK5 _ _ ?_
  refine wp_seq_k (fun K6 hK6 => ?_)
  refine wp_seq_k (fun K7 hK7 => ?_)
  refine wp_region_lit ?_
  refine q0 hf hM [32, 7, 6, 5, 4, 3] [{}, {}] (env' := [(32, eB false), (7, eP B8 0), (6, eI dy), (5, eI dx), (4, eP B3 0), (3, eP B2 0)]) (ob := []) An ?_
  clear hf; intro a hf
  refine wpList_nil ?_
  refine hK7 _ _ ?_
  refine sxcond hf (b := false) (by kernel_rfl) (fun h => by cases h) (fun _ => ?_)
  refine wp_skip ?_
  refine hK6 _ _ ?_
  refine wp_seq_k (fun K8 hK8 => ?_)
  refine wp_region_lit ?_
  refine q0 hf hM [41, 39, 37, 7, 6, 5, 4, 3] [{ os := [.ld 3 0, .ld 3 1, .ld 3 2] }, {}, { hint := some (iV (0 - dx)) }, {}, { hint := some (iV (0 - dy)) }] (env' := [(41, eI (0 - dy)), (39, eI (0 - dx)), (37, .val (.agg #[iV k, iV (x + dx), iV (y + dy)])), (7, eP B8 0), (6, eI dy), (5, eI dx), (4, eP B3 0), (3, eP B2 0)]) (ob := [Ad B8 0, Ad B8 1, Ad B8 2, (iV (IntKind.i64.wrap (0 - dx)) : Value) = (iV (0 - dx) : Value), (iV (IntKind.i64.wrap (0 - dy)) : Value) = (iV (0 - dy) : Value)]) (Ac (ad _ _) (Ac (ad _ _) (Ac (ad _ _) (Ac (wr (by omega)) (Ao (wr (by omega))))))) ?_
  clear hf; intro a hf
  refine sxcall hf rfl rfl rfl rfl (g := 30) (vs := [.agg #[iV k, iV (x + dx), iV (y + dy)], iV (0 - dx), iV (0 - dy)]) (ob := []) (by as_aux_lemma => kernel_rfl) An enters30 (smv_ok E k (x + dx) (y + dy) (0 - dx) (0 - dy) w8 hp2 hi2 hv2 (by omega) (by omega) (hG.keep hk0 (fun _ h => h))) ?_
  clear hf; rintro _ w9 a ⟨rfl, hk⟩ hf
  have hM := hM.keepNn hk
  have hk0 := hk0.trans hk.nn
  clear hk
  refine q1 hf hM [8, 9, 7, 6, 5, 4, 3] [{}, {}, {}, { os := [.nw] }, { os := [.st 4 0, .st 4 1, .st 4 2] }, {}] (env' := fun B11 => [(8, .val (.nilIface)), (9, eP B11 0), (7, eP B8 0), (6, eI dy), (5, eI dx), (4, eP B3 0), (3, eP B2 0)]) (M' := fun B11 => [⟨B1, 64, [iV k, iV x, iV y, iV kh, iV hx, iV hy, iV dx, iV dy]⟩, ⟨B2, 62, [iV k, iV x, iV y]⟩, ⟨B3, 62, [iV kh, iV hx, iV hy]⟩, ⟨B8, 62, [iV k, iV (x + dx), iV (y + dy)]⟩, ⟨B11, 62, [iV k, iV ((x + dx) + (0 - dx)), iV ((y + dy) + (0 - dy))]⟩]) (ob := fun B11 => [Ad B11 0, Ad B11 1, Ad B11 2]) (fun B11 => (Ac (ad _ _) (Ac (ad _ _) (Ao (ad _ _))))) ?_
  clear hf hM; intro a w10 B11 hf hM hB hk
  have hbB11 : w.heap.size ≤ B11 := by have := hk0.size; omega
  have hk0 := hk0.then hk (by intro i hi h; simp only [Is, Mem.names, List.map_cons, List.map_nil, List.mem_cons, List.not_mem_nil, or_false] at h; omega)
  clear hk hB
  refine wpList_nil ?_
  refine hK8 _ _ ?_
  refine wp_seq_k (fun K9 hK9 => ?_)
  refine wp_seq_k (fun K10 hK10 => ?_)
  refine wp_region_lit ?_
  refine q0 hf hM [51, 7, 6, 5, 4, 3] [{}, {}, {}, { os := [.ld 4 0, .ld 4 1, .ld 4 2] }, { os := [.ld 1 0, .ld 1 1, .ld 1 2] }, { sp := true, hint := some (bV (!(((((x + dx) + (0 - dx)) : Int) == x) && ((((y + dy) + (0 - dy)) : Int) == y)))) }, {}] (env' := [(51, eB (!(((((x + dx) + (0 - dx)) : Int) == x) && ((((y + dy) + (0 - dy)) : Int) == y)))), (7, eP B8 0), (6, eI dy), (5, eI dx), (4, eP B3 0), (3, eP B2 0)]) (ob := [false = false, Ad B11 0, Ad B11 1, Ad B11 2, false = false, Ad B2 0, Ad B2 1, Ad B2 2, false = false, (bV (!(((k : Int) == k) && (((((x + dx) + (0 - dx)) : Int) == x) && (((((y + dy) + (0 - dy)) : Int) == y) && true)))) : Value) = (bV (!(((((x + dx) + (0 - dx)) : Int) == x) && ((((y + dy) + (0 - dy)) : Int) == y))) : Value)]) (Ac rfl (Ac (ad _ _) (Ac (ad _ _) (Ac (ad _ _) (Ac rfl (Ac (ad _ _) (Ac (ad _ _) (Ac (ad _ _) (Ac rfl (Ao (by simp))))))))))) ?_
  clear hf; intro a hf
  refine wpList_nil ?_
  refine hK10 _ _ ?_
  refine qc hf (b := (!(((((x + dx) + (0 - dx)) : Int) == x) && ((((y + dy) + (0 - dy)) : Int) == y)))) (fun hc3r => ?_) (fun hc3r => ?_)
  · have hc3 := hc3r
    exfalso; simp at hc3; omega
  · have hc3 := hc3r
    refine wp_skip ?_
    refine hK9 _ _ ?_
    refine wp_seq_k (fun K11 hK11 => ?_)
    refine wp_region_lit ?_
    refine q1 hf hM [7, 6, 5, 4, 3] [{}, { os := [.st 2 0] }] (env' := fun B13 => [(7, eP B8 0), (6, eI dy), (5, eI dx), (4, eP B3 0), (3, eP B2 0)]) (M' := fun B13 => [⟨B1, 64, [iV k, iV x, iV y, iV kh, iV hx, iV hy, iV dx, iV dy]⟩, ⟨B2, 62, [iV k, iV x, iV y]⟩, ⟨B3, 62, [iV 1, iV hx, iV hy]⟩, ⟨B8, 62, [iV k, iV (x + dx), iV (y + dy)]⟩, ⟨B11, 62, [iV k, iV ((x + dx) + (0 - dx)), iV ((y + dy) + (0 - dy))]⟩]) (ob := fun B13 => [Ad B3 0]) (fun B13 => (Ao (ad _ _))) ?_
    clear hf hM; intro a w11 B13 hf hM hB hk
    have hbB13 : w.heap.size ≤ B13 := by have := hk0.size; omega
    have hk0 := hk0.then hk (by intro i hi h; simp only [Is, Mem.names, List.map_cons, List.map_nil, List.mem_cons, List.not_mem_nil, or_false] at h; omega)
    clear hk hB
    refine wpList_nil ?_
    refine hK11 _ _ ?_
    refine wp_seq_k (fun K12 hK12 => ?_)
    refine wp_seq_k (fun K13 hK13 => ?_)
    refine wp_region_lit ?_
    refine q0 hf hM [53, 7, 6, 5, 4, 3] [{ os := [.ld 2 0, .ld 2 1, .ld 2 2] }] (env' := [(53, .val (.agg #[iV 1, iV hx, iV hy])), (7, eP B8 0), (6, eI dy), (5, eI dx), (4, eP B3 0), (3, eP B2 0)]) (ob := [Ad B3 0, Ad B3 1, Ad B3 2]) (Ac (ad _ _) (Ac (ad _ _) (Ao (ad _ _)))) ?_
    clear hf; intro a hf
    refine sxcall hf rfl rfl rfl rfl (g := 31) (vs := [.agg #[iV 1, iV hx, iV hy]]) (ob := []) (by as_aux_lemma => kernel_rfl) An enters31 (scheck_range E 1 hx hy w11 hkh hn3 (hG.keep hk0 (fun _ h => h))) ?_
    clear hf; rintro _ w12 a ⟨rfl, hk⟩ hf
    have hM := hM.keepNn hk
    have hk0 := hk0.trans hk.nn
    clear hk
    refine q0 hf hM [55, 7, 6, 5, 4, 3] [{}] (env' := [(55, eB true), (7, eP B8 0), (6, eI dy), (5, eI dx), (4, eP B3 0), (3, eP B2 0)]) (ob := []) An ?_
    clear hf; intro a hf
    refine wpList_nil ?_
    refine hK13 _ _ ?_
    refine sxcond hf (b := true) (by kernel_rfl) (fun _ => ?_) (fun h => by cases h)
    refine wp_seq_k (fun K14 hK14 => ?_)
    refine wp_region_lit ?_
    refine q0 hf hM [2] [{}] (env' := [(2, eB true)]) (ob := []) An ?_
    clear hf; intro a hf
    refine wpList_nil ?_
    refine hK14 _ _ ?_
    refine wp_ret ?_
    refine qr (fn := Tryd.f5) hf hM [] (l := [bV true]) (ob := []) An ?_
    show (bV true : Value) = .bool true ∧ Keep Nn w w12
    refine ⟨congrArg Value.bool ?_, hk0⟩
    first | rfl | (simp; done) | (simp_all; done)
 ·
  refine sxleaf ?_
  have hC := (hC1i _ ⟨hM.sub (.cons_cons _ .slnil), hk0, trivial⟩)
  refine scstep rfl ?_
  refine q1 hf (MemOk.nil _) [4, 21, 19, 17, 15] [{ os := [.nw] }] (env' := fun B17 => [(4, eP B17 0), (21, eI dy), (19, eI dx), (17, .val (.agg #[iV kh, iV hx, iV hy])), (15, .val (.agg #[iV k, iV x, iV y]))]) (M' := fun B17 => [⟨B17, 62, [iV 0, iV 0, iV 0]⟩]) (ob := fun B17 => []) (fun B17 => An) ?_
  clear hf; intro a w13 B17 hf hMs hB hk; have hk : Keep Nn w1.drew w13 := hk.mono (by intro _ _ h; cases h)
  have hbB17 : w.heap.size ≤ B17 := by have := hk0.size; omega
  have hMo := hM; have hM : MemOk [⟨B1, 64, [iV k, iV x, iV y, iV kh, iV hx, iV hy, iV dx, iV dy]⟩, ⟨B17, 62, [iV 0, iV 0, iV 0]⟩] w13 := MemOk.more hM hk (by omega) (hMs.at_ _ (List.Mem.head _))
  have hk0 := hk0.trans hk.nn
  clear hk hMs hMo hB
  have hC := (hC1i _ ⟨hM.sub (.cons_cons _ (.cons _ .slnil)), hk0, trivial⟩)
  refine scdone hC ?_
  refine scstep rfl ?_
  refine q1 hf (MemOk.nil _) [3, 4, 21, 19, 17, 15] [{ os := [.nw] }] (env' := fun B18 => [(3, eP B18 0), (4, eP B17 0), (21, eI dy), (19, eI dx), (17, .val (.agg #[iV kh, iV hx, iV hy])), (15, .val (.agg #[iV k, iV x, iV y]))]) (M' := fun B18 => [⟨B18, 62, [iV 0, iV 0, iV 0]⟩]) (ob := fun B18 => []) (fun B18 => An) ?_
  clear hf; intro a w14 B18 hf hMs hB hk; have hk : Keep Nn w13 w14 := hk.mono (by intro _ _ h; cases h)
  have hbB18 : w.heap.size ≤ B18 := by have := hk0.size; omega
  have hMo := hM; have hM : MemOk [⟨B1, 64, [iV k, iV x, iV y, iV kh, iV hx, iV hy, iV dx, iV dy]⟩, ⟨B17, 62, [iV 0, iV 0, iV 0]⟩, ⟨B18, 62, [iV 0, iV 0, iV 0]⟩] w14 := MemOk.more hM hk (by omega) (hMs.at_ _ (List.Mem.head _))
  have hk0 := hk0.trans hk.nn
  clear hk hMs hMo hB
  have hC := (hC1i _ ⟨hM.sub (.cons_cons _ (.cons _ (.cons _ .slnil))), hk0, trivial⟩)
  refine scdone hC ?_
  refine scstep rfl ?_
  have hMs : MemOk [⟨B18, 62, [iV 0, iV 0, iV 0]⟩] w14 := hM.sub (.cons _ (.cons _ (.cons_cons _ .slnil)))
  refine q1 hf hMs [3, 4, 21, 19, 17] [{ os := [.st 0 0, .st 0 1, .st 0 2] }] (env' := fun B19 => [(3, eP B18 0), (4, eP B17 0), (21, eI dy), (19, eI dx), (17, .val (.agg #[iV kh, iV hx, iV hy]))]) (M' := fun B19 => [⟨B18, 62, [iV k, iV x, iV y]⟩]) (ob := fun B19 => [Ad B18 0, Ad B18 1, Ad B18 2]) (fun B19 => (Ac (ad _ _) (Ac (ad _ _) (Ao (ad _ _))))) ?_
  clear hf hMs; intro a w15 B19 hf hMs hB hk; clear hB
  have hM : MemOk [⟨B1, 64, [iV k, iV x, iV y, iV kh, iV hx, iV hy, iV dx, iV dy]⟩, ⟨B17, 62, [iV 0, iV 0, iV 0]⟩, ⟨B18, 62, [iV k, iV x, iV y]⟩] w15 := MemOk.upd (M1 := [⟨B1, 64, [iV k, iV x, iV y, iV kh, iV hx, iV hy, iV dx, iV dy]⟩, ⟨B17, 62, [iV 0, iV 0, iV 0]⟩]) (M2 := []) hM hk hMs rfl
  have hk0 := hk0.then hk (by intro i hi h; simp only [Is, Mem.names, List.map_cons, List.map_nil, List.mem_cons, List.not_mem_nil, or_false] at h; omega)
  clear hk hMs
  have hC := (hC1i _ ⟨hM.sub (.cons_cons _ (.cons _ (.cons _ .slnil))), hk0, trivial⟩)
  refine scdone hC ?_
  refine scstep rfl ?_
  have hMs : MemOk [⟨B17, 62, [iV 0, iV 0, iV 0]⟩] w15 := hM.sub (.cons _ (.cons_cons _ (.cons _ .slnil)))
  refine q1 hf hMs [3, 4, 21, 19] [{ os := [.st 0 0, .st 0 1, .st 0 2] }] (env' := fun B20 => [(3, eP B18 0), (4, eP B17 0), (21, eI dy), (19, eI dx)]) (M' := fun B20 => [⟨B17, 62, [iV kh, iV hx, iV hy]⟩]) (ob := fun B20 => [Ad B17 0, Ad B17 1, Ad B17 2]) (fun B20 => (Ac (ad _ _) (Ac (ad _ _) (Ao (ad _ _))))) ?_
  clear hf hMs; intro a w16 B20 hf hMs hB hk; clear hB
  have hM : MemOk [⟨B1, 64, [iV k, iV x, iV y, iV kh, iV hx, iV hy, iV dx, iV dy]⟩, ⟨B17, 62, [iV kh, iV hx, iV hy]⟩, ⟨B18, 62, [iV k, iV x, iV y]⟩] w16 := MemOk.upd (M1 := [⟨B1, 64, [iV k, iV x, iV y, iV kh, iV hx, iV hy, iV dx, iV dy]⟩]) (M2 := [⟨B18, 62, [iV k, iV x, iV y]⟩]) hM hk hMs rfl
  have hk0 := hk0.then hk (by intro i hi h; simp only [Is, Mem.names, List.map_cons, List.map_nil, List.mem_cons, List.not_mem_nil, or_false] at h; omega)
  clear hk hMs
  have hC := (hC1i _ ⟨hM.sub (.cons_cons _ (.cons _ (.cons _ .slnil))), hk0, trivial⟩)
  refine scdone hC ?_
  refine qd hf hC (fun w' h => (hC1e w' h).1) [6, 5, 3, 4] [{}, {}] (env' := [(6, eI dy), (5, eI dx), (3, eP B18 0), (4, eP B17 0)]) (ob := []) An ?_
  clear hf; intro a hf
  clear hC
  show K2 _ _
  refine hK2 _ _ ?_
  refine wp_seq_k (fun K15 hK15 => ?_)
  refine wp_seq_k (fun K16 hK16 => ?_)
  refine wp_region_lit ?_
  refine sxcall hf rfl rfl rfl rfl (g := 29) (vs := []) (ob := []) (by as_aux_lemma => kernel_rfl) An enters29 (alive6 E w16  (hG.keep hk0 (fun _ h => h))) ?_
  clear hf; rintro _ w17 a ⟨rfl, hk⟩ hf
  have hM := hM.keepNn hk
  have hk0 := hk0.trans hk.nn
  clear hk
  refine q0 hf hM [23, 6, 5, 3, 4] [{}] (env' := [(23, eB false), (6, eI dy), (5, eI dx), (3, eP B18 0), (4, eP B17 0)]) (ob := []) An ?_
  clear hf; intro a hf
  refine wpList_nil ?_
  refine hK16 _ _ ?_
  refine sxcond hf (b := false) (by kernel_rfl) (fun h => by cases h) (fun _ => ?_)
  refine wp_skip ?_
  refine hK15 _ _ ?_
  refine wp_seq_k (fun K17 hK17 => ?_)
  refine wp_region_lit ?_
  refine q0 hf hM [27, 26, 25, 6, 5, 3, 4] [{ os := [.ld 2 0, .ld 2 1, .ld 2 2] }, {}, {}] (env' := [(27, eI dy), (26, eI dx), (25, .val (.agg #[iV k, iV x, iV y])), (6, eI dy), (5, eI dx), (3, eP B18 0), (4, eP B17 0)]) (ob := [Ad B18 0, Ad B18 1, Ad B18 2]) (Ac (ad _ _) (Ac (ad _ _) (Ao (ad _ _)))) ?_
  clear hf; intro a hf
  refine sxcall hf rfl rfl rfl rfl (g := 30) (vs := [.agg #[iV k, iV x, iV y], iV dx, iV dy]) (ob := []) (by as_aux_lemma => kernel_rfl) An enters30 (smv_ok E k x y dx dy w17 hn0 hn1 hn2 (by omega) (by omega) (hG.keep hk0 (fun _ h => h))) ?_
  clear hf; rintro _ w18 a ⟨rfl, hk⟩ hf
  have hM := hM.keepNn hk
  have hk0 := hk0.trans hk.nn
  clear hk
  refine q1 hf hM [8, 7, 6, 5, 3, 4] [{}, {}, {}, { os := [.nw] }, { os := [.st 3 0, .st 3 1, .st 3 2] }, {}] (env' := fun B23 => [(8, .val (.nilIface)), (7, eP B23 0), (6, eI dy), (5, eI dx), (3, eP B18 0), (4, eP B17 0)]) (M' := fun B23 => [⟨B1, 64, [iV k, iV x, iV y, iV kh, iV hx, iV hy, iV dx, iV dy]⟩, ⟨B17, 62, [iV kh, iV hx, iV hy]⟩, ⟨B18, 62, [iV k, iV x, iV y]⟩, ⟨B23, 62, [iV k, iV (x + dx), iV (y + dy)]⟩]) (ob := fun B23 => [Ad B23 0, Ad B23 1, Ad B23 2]) (fun B23 => (Ac (ad _ _) (Ac (ad _ _) (Ao (ad _ _))))) ?_
  clear hf hM; intro a w19 B23 hf hM hB hk
  have hbB23 : w.heap.size ≤ B23 := by have := hk0.size; omega
  have hk0 := hk0.then hk (by intro i hi h; simp only [Is, Mem.names, List.map_cons, List.map_nil, List.mem_cons, List.not_mem_nil, or_false] at h; omega)
  clear hk hB
  refine wpList_nil ?_
  refine hK17 _ _ ?_
  refine wp_seq_k (fun K18 hK18 => ?_)
  refine wp_seq_k (fun K19 hK19 => ?_)
  refine wp_region_lit ?_
  refine q0 hf hM [32, 7, 6, 5, 3, 4] [{}, {}] (env' := [(32, eB false), (7, eP B23 0), (6, eI dy), (5, eI dx), (3, eP B18 0), (4, eP B17 0)]) (ob := []) An ?_
  clear hf; intro a hf
  refine wpList_nil ?_
  refine hK19 _ _ ?_
  refine sxcond hf (b := false) (by kernel_rfl) (fun h => by cases h) (fun _ => ?_)
  refine wp_skip ?_
  refine hK18 _ _ ?_
  refine wp_seq_k (fun K20 hK20 => ?_)
  refine wp_region_lit ?_
  refine q0 hf hM [41, 39, 37, 7, 6, 5, 3, 4] [{ os := [.ld 3 0, .ld 3 1, .ld 3 2] }, {}, { hint := some (iV (0 - dx)) }, {}, { hint := some (iV (0 - dy)) }] (env' := [(41, eI (0 - dy)), (39, eI (0 - dx)), (37, .val (.agg #[iV k, iV (x + dx), iV (y + dy)])), (7, eP B23 0), (6, eI dy), (5, eI dx), (3, eP B18 0), (4, eP B17 0)]) (ob := [Ad B23 0, Ad B23 1, Ad B23 2, (iV (IntKind.i64.wrap (0 - dx)) : Value) = (iV (0 - dx) : Value), (iV (IntKind.i64.wrap (0 - dy)) : Value) = (iV (0 - dy) : Value)]) (Ac (ad _ _) (Ac (ad _ _) (Ac (ad _ _) (Ac (wr (by omega)) (Ao (wr (by omega))))))) ?_
  clear hf; intro a hf
  refine sxcall hf rfl rfl rfl rfl (g := 30) (vs := [.agg #[iV k, iV (x + dx), iV (y + dy)], iV (0 - dx), iV (0 - dy)]) (ob := []) (by as_aux_lemma => kernel_rfl) An enters30 (smv_ok E k (x + dx) (y + dy) (0 - dx) (0 - dy) w19 hp2 hi2 hv2 (by omega) (by omega) (hG.keep hk0 (fun _ h => h))) ?_
  clear hf; rintro _ w20 a ⟨rfl, hk⟩ hf
  have hM := hM.keepNn hk
  have hk0 := hk0.trans hk.nn
  clear hk
  refine q1 hf hM [8, 9, 7, 6, 5, 3, 4] [{}, {}, {}, { os := [.nw] }, { os := [.st 4 0, .st 4 1, .st 4 2] }, {}] (env' := fun B26 => [(8, .val (.nilIface)), (9, eP B26 0), (7, eP B23 0), (6, eI dy), (5, eI dx), (3, eP B18 0), (4, eP B17 0)]) (M' := fun B26 => [⟨B1, 64, [iV k, iV x, iV y, iV kh, iV hx, iV hy, iV dx, iV dy]⟩, ⟨B17, 62, [iV kh, iV hx, iV hy]⟩, ⟨B18, 62, [iV k, iV x, iV y]⟩, ⟨B23, 62, [iV k, iV (x + dx), iV (y + dy)]⟩, ⟨B26, 62, [iV k, iV ((x + dx) + (0 - dx)), iV ((y + dy) + (0 - dy))]⟩]) (ob := fun B26 => [Ad B26 0, Ad B26 1, Ad B26 2]) (fun B26 => (Ac (ad _ _) (Ac (ad _ _) (Ao (ad _ _))))) ?_
  clear hf hM; intro a w21 B26 hf hM hB hk
  have hbB26 : w.heap.size ≤ B26 := by have := hk0.size; omega
  have hk0 := hk0.then hk (by intro i hi h; simp only [Is, Mem.names, List.map_cons, List.map_nil, List.mem_cons, List.not_mem_nil, or_false] at h; omega)
  clear hk hB
  refine wpList_nil ?_
  refine hK20 _ _ ?_
  refine wp_seq_k (fun K21 hK21 => ?_)
  refine wp_seq_k (fun K22 hK22 => ?_)
  refine wp_region_lit ?_
  refine q0 hf hM [51, 7, 6, 5, 3, 4] [{}, {}, {}, { os := [.ld 4 0, .ld 4 1, .ld 4 2] }, { os := [.ld 2 0, .ld 2 1, .ld 2 2] }, { sp := true, hint := some (bV (!(((((x + dx) + (0 - dx)) : Int) == x) && ((((y + dy) + (0 - dy)) : Int) == y)))) }, {}] (env' := [(51, eB (!(((((x + dx) + (0 - dx)) : Int) == x) && ((((y + dy) + (0 - dy)) : Int) == y)))), (7, eP B23 0), (6, eI dy), (5, eI dx), (3, eP B18 0), (4, eP B17 0)]) (ob := [false = false, Ad B26 0, Ad B26 1, Ad B26 2, false = false, Ad B18 0, Ad B18 1, Ad B18 2, false = false, (bV (!(((k : Int) == k) && (((((x + dx) + (0 - dx)) : Int) == x) && (((((y + dy) + (0 - dy)) : Int) == y) && true)))) : Value) = (bV (!(((((x + dx) + (0 - dx)) : Int) == x) && ((((y + dy) + (0 - dy)) : Int) == y))) : Value)]) (Ac rfl (Ac (ad _ _) (Ac (ad _ _) (Ac (ad _ _) (Ac rfl (Ac (ad _ _) (Ac (ad _ _) (Ac (ad _ _) (Ac rfl (Ao (by simp))))))))))) ?_
  clear hf; intro a hf
  refine wpList_nil ?_
  refine hK22 _ _ ?_
  refine qc hf (b := (!(((((x + dx) + (0 - dx)) : Int) == x) && ((((y + dy) + (0 - dy)) : Int) == y)))) (fun hc7r => ?_) (fun hc7r => ?_)
  · have hc7 := hc7r
    exfalso; simp at hc7; omega
  · have hc7 := hc7r
    refine wp_skip ?_
    refine hK21 _ _ ?_
    refine wp_seq_k (fun K23 hK23 => ?_)
    refine wp_region_lit ?_
    refine q1 hf hM [7, 6, 5, 3, 4] [{}, { os := [.st 1 0] }] (env' := fun B28 => [(7, eP B23 0), (6, eI dy), (5, eI dx), (3, eP B18 0), (4, eP B17 0)]) (M' := fun B28 => [⟨B1, 64, [iV k, iV x, iV y, iV kh, iV hx, iV hy, iV dx, iV dy]⟩, ⟨B17, 62, [iV 1, iV hx, iV hy]⟩, ⟨B18, 62, [iV k, iV x, iV y]⟩, ⟨B23, 62, [iV k, iV (x + dx), iV (y + dy)]⟩, ⟨B26, 62, [iV k, iV ((x + dx) + (0 - dx)), iV ((y + dy) + (0 - dy))]⟩]) (ob := fun B28 => [Ad B17 0]) (fun B28 => (Ao (ad _ _))) ?_
    clear hf hM; intro a w22 B28 hf hM hB hk
    have hbB28 : w.heap.size ≤ B28 := by have := hk0.size; omega
    have hk0 := hk0.then hk (by intro i hi h; simp only [Is, Mem.names, List.map_cons, List.map_nil, List.mem_cons, List.not_mem_nil, or_false] at h; omega)
    clear hk hB
    refine wpList_nil ?_
    refine hK23 _ _ ?_
    refine wp_seq_k (fun K24 hK24 => ?_)
    refine wp_seq_k (fun K25 hK25 => ?_)
    refine wp_region_lit ?_
    refine q0 hf hM [53, 7, 6, 5, 3, 4] [{ os := [.ld 1 0, .ld 1 1, .ld 1 2] }] (env' := [(53, .val (.agg #[iV 1, iV hx, iV hy])), (7, eP B23 0), (6, eI dy), (5, eI dx), (3, eP B18 0), (4, eP B17 0)]) (ob := [Ad B17 0, Ad B17 1, Ad B17 2]) (Ac (ad _ _) (Ac (ad _ _) (Ao (ad _ _)))) ?_
    clear hf; intro a hf
    refine sxcall hf rfl rfl rfl rfl (g := 31) (vs := [.agg #[iV 1, iV hx, iV hy]]) (ob := []) (by as_aux_lemma => kernel_rfl) An enters31 (scheck_range E 1 hx hy w22 hkh hn3 (hG.keep hk0 (fun _ h => h))) ?_
    clear hf; rintro _ w23 a ⟨rfl, hk⟩ hf
    have hM := hM.keepNn hk
    have hk0 := hk0.trans hk.nn
    clear hk
    refine q0 hf hM [55, 7, 6, 5, 3, 4] [{}] (env' := [(55, eB true), (7, eP B23 0), (6, eI dy), (5, eI dx), (3, eP B18 0), (4, eP B17 0)]) (ob := []) An ?_
    clear hf; intro a hf
    refine wpList_nil ?_
    refine hK25 _ _ ?_
    refine sxcond hf (b := true) (by kernel_rfl) (fun _ => ?_) (fun h => by cases h)
    refine wp_seq_k (fun K26 hK26 => ?_)
    refine wp_region_lit ?_
    refine q0 hf hM [2] [{}] (env' := [(2, eB true)]) (ob := []) An ?_
    clear hf; intro a hf
    refine wpList_nil ?_
    refine hK26 _ _ ?_
    refine wp_ret ?_
    refine qr (fn := Tryd.f5) hf hM [] (l := [bV true]) (ob := []) An ?_
    show (bV true : Value) = .bool true ∧ Keep Nn w w23
    refine ⟨congrArg Value.bool ?_, hk0⟩
    first | rfl | (simp; done) | (simp_all; done)

set_option maxRecDepth 10000 in
set_option maxHeartbeats 1600000 in
theorem swy_ok (E : Nat → Addr) (k x y kh hx hy dx dy : Int) (w : World) (hn0 : (mvPos k x y) = true) (hn1 : (mvIn dx dy) = true) (hn2 : (vrange ⟨k, (x + dx), (y + dy)⟩) = true) (hn3 : (vrange ⟨1, hx, hy⟩) = true) (hdx : -9223372036854775808 ≤ dx ∧ dx ≤ 9223372036854775807) (hdy : -9223372036854775808 ≤ dy ∧ dy ≤ 9223372036854775807) (hG : Errs [0, 3, 4] w 185 E) :
    Calls Tryd.prog 5 #[.agg #[iV k, iV x, iV y, iV kh, iV hx, iV hy, iV dx, iV dy]] w (Ret fun v w' => v = .bool true ∧ Keep Nn w w') := by
 refine sxenter (n := 95) (args := [.agg #[iV k, iV x, iV y, iV kh, iV hx, iV hy, iV dx, iV dy]]) Tryd.func5 rfl rfl rfl fun a hf => ?_
 replace hf : Fr 95 [(0, .val (.agg #[iV k, iV x, iV y, iV kh, iV hx, iV hy, iV dx, iV dy]))] a := hf
 have hM : MemOk [] w := MemOk.nil w
 have hk0 : Keep Nn w w := Keep.refl _ _
 have hps := hn0
 simp only [mvPos, Bool.and_eq_true, decide_eq_true_eq] at hps
 obtain ⟨⟨hk_, hkk⟩, hrr⟩ := hps
 have hin := of_decide_eq_true hn1
 have hrx := hrr
 simp only [vrange, hk_, true_or, if_true, decide_eq_true_eq] at hrx
 have hp2 : mvPos k (x + dx) (y + dy) = true := by simp only [mvPos, Bool.and_eq_true, decide_eq_true_eq]; exact ⟨⟨hk_, hkk⟩, hn2⟩
 have hi2 : mvIn (0 - dx) (0 - dy) = true := by simp only [mvIn, decide_eq_true_eq]; omega
 have hv2 : vrange ⟨k, ((x + dx) + (0 - dx)), ((y + dy) + (0 - dy))⟩ = true := by rw [show (x + dx) + (0 - dx) = x by omega, show (y + dy) + (0 - dy) = y by omega]; exact hrr
 have hv3 := hn2
 simp only [vrange, hk_, true_or, if_true, decide_eq_true_eq] at hv3
 have hkh : vkind ⟨1, hx, hy⟩ = true := rfl
 have he0 : (findV ([⟨k, x, y⟩, ⟨1, hx, hy⟩] : List V3) 0).a = x := by simp [findV, hk_]
 have he1 : (findV ([⟨k, x, y⟩, ⟨1, hx, hy⟩] : List V3) 0).b = y := by simp [findV, hk_]
 have he2 : (findV ([⟨k, x, y⟩, ⟨1, hx, hy⟩] : List V3) 1).a = hx := by simp [findV, hk_]
 have he3 : (findV ([⟨k, x, y⟩, ⟨1, hx, hy⟩] : List V3) 1).b = hy := by simp [findV, hk_]
 have hf0 : (findV ([⟨k, x + dx, y + dy⟩, ⟨1, hx, hy⟩] : List V3) 0).a = x + dx := by simp [findV, hk_]
 have hf1 : (findV ([⟨k, x + dx, y + dy⟩, ⟨1, hx, hy⟩] : List V3) 0).b = y + dy := by simp [findV, hk_]
 have hf2 : (findV ([⟨k, x + dx, y + dy⟩, ⟨1, hx, hy⟩] : List V3) 1).a = hx := by simp [findV, hk_]
 have hf3 : (findV ([⟨k, x + dx, y + dy⟩, ⟨1, hx, hy⟩] : List V3) 1).b = hy := by simp [findV, hk_]
 have hhr := hn3
 simp [vrange] at hhr
 have hbx1 : hasBox ([⟨k, x, y⟩, ⟨1, hx, hy⟩] : List V3) = true := by simp only [hasBox, hasV, he0, he1, he2, he3, ofOk, Bool.and_eq_true, decide_eq_true_eq]; refine ⟨⟨by simp [hk_], by simp [hk_]⟩, ?_⟩; omega
 have hbx2 : hasBox ([⟨k, x + dx, y + dy⟩, ⟨1, hx, hy⟩] : List V3) = true := by simp only [hasBox, hasV, hf0, hf1, hf2, hf3, ofOk, Bool.and_eq_true, decide_eq_true_eq]; refine ⟨⟨by simp [hk_], by simp [hk_]⟩, ?_⟩; omega
 refine wp_seq_k (fun K1 hK1 => ?_)
 refine wp_region_lit ?_
 refine q1 hf hM [1] [{ os := [.nw] }, {}] (env' := fun B1 => [(1, eP B1 0)]) (M' := fun B1 => [⟨B1, 64, [iV k, iV x, iV y, iV kh, iV hx, iV hy, iV dx, iV dy]⟩]) (ob := fun B1 => []) (fun B1 => An) ?_
 clear hf hM; intro a w1 B1 hf hM hB hk
 have hbB1 : w.heap.size ≤ B1 := by have := hk0.size; omega
 have hk0 := hk0.then hk (by intro i _ h; cases h)
 clear hk hB
 refine wpList_nil ?_
 refine hK1 _ _ ?_
 refine wp_seq_k (fun K2 hK2 => ?_)
 replace hM := hM.drew; replace hk0 := hk0.drew
 obtain ⟨C1, hC1d⟩ : ∃ C : World → Prop, C = fun w' => MemOk [⟨B1, 64, [iV k, iV x, iV y, iV kh, iV hx, iV hy, iV dx, iV dy]⟩] w' ∧ Keep Nn w w' ∧ True := ⟨_, rfl⟩
 have hC1i : ∀ w', (MemOk [⟨B1, 64, [iV k, iV x, iV y, iV kh, iV hx, iV hy, iV dx, iV dy]⟩] w' ∧ Keep Nn w w' ∧ True) → C1 w' := fun w' h => by rw [hC1d]; exact h
 have hC1e : ∀ w', C1 w' → (MemOk [⟨B1, 64, [iV k, iV x, iV y, iV kh, iV hx, iV hy, iV dx, iV dy]⟩] w' ∧ Keep Nn w w' ∧ True) := fun w' h => by rw [hC1d] at h; exact h
 refine sxdraw (C := C1) (.alt [(0, true), (1, true), (2, true), (3, true), (4, true), (5, true), (6, true), (7, true)] (.leaf [(8, false), (9, false), (10, false), (11, false), (12, true), (13, true)]) (.leaf [(9, false), (8, false), (10, false), (11, false), (12, true), (13, true)])) (by kernel_rfl) (by kernel_rfl) (by as_aux_lemma => kernel_rfl) rfl (by as_aux_lemma => kernel_rfl) (by kernel_rfl) (hC1i _ ⟨hM.sub (.cons_cons _ .slnil), hk0, trivial⟩) ?_
 refine sxalts ?_
 have hC := (hC1i _ ⟨hM.sub (.cons_cons _ .slnil), hk0, trivial⟩)
 refine qd hf hC (fun w' h => (hC1e w' h).1) [21, 19, 17, 15] [{}, { os := [.ld 0 0, .ld 0 1, .ld 0 2] }, {}, { os := [.ld 0 3, .ld 0 4, .ld 0 5] }, {}, { os := [.ld 0 6] }, {}, { os := [.ld 0 7] }] (env' := [(21, eI dy), (19, eI dx), (17, .val (.agg #[iV kh, iV hx, iV hy])), (15, .val (.agg #[iV k, iV x, iV y]))]) (ob := [Ad B1 0, Ad B1 1, Ad B1 2, Ad B1 3, Ad B1 4, Ad B1 5, Ad B1 6, Ad B1 7]) (Ac (ad _ _) (Ac (ad _ _) (Ac (ad _ _) (Ac (ad _ _) (Ac (ad _ _) (Ac (ad _ _) (Ac (ad _ _) (Ao (ad _ _))))))))) ?_
 clear hf; intro a hf
 refine sxboth ?_ ?_
 ·
  refine sxleaf ?_
  have hC := (hC1i _ ⟨hM.sub (.cons_cons _ .slnil), hk0, trivial⟩)
  refine scstep rfl ?_
  refine q1 hf (MemOk.nil _) [3, 21, 19, 17, 15] [{ os := [.nw] }] (env' := fun B2 => [(3, eP B2 0), (21, eI dy), (19, eI dx), (17, .val (.agg #[iV kh, iV hx, iV hy])), (15, .val (.agg #[iV k, iV x, iV y]))]) (M' := fun B2 => [⟨B2, 62, [iV 0, iV 0, iV 0]⟩]) (ob := fun B2 => []) (fun B2 => An) ?_
  clear hf; intro a w2 B2 hf hMs hB hk; have hk : Keep Nn w1.drew w2 := hk.mono (by intro _ _ h; cases h)
  have hbB2 : w.heap.size ≤ B2 := by have := hk0.size; omega
  have hMo := hM; have hM : MemOk [⟨B1, 64, [iV k, iV x, iV y, iV kh, iV hx, iV hy, iV dx, iV dy]⟩, ⟨B2, 62, [iV 0, iV 0, iV 0]⟩] w2 := MemOk.more hM hk (by omega) (hMs.at_ _ (List.Mem.head _))
  have hk0 := hk0.trans hk.nn
  clear hk hMs hMo hB
  have hC := (hC1i _ ⟨hM.sub (.cons_cons _ (.cons _ .slnil)), hk0, trivial⟩)
  refine scdone hC ?_
  refine scstep rfl ?_
  refine q1 hf (MemOk.nil _) [4, 3, 21, 19, 17, 15] [{ os := [.nw] }] (env' := fun B3 => [(4, eP B3 0), (3, eP B2 0), (21, eI dy), (19, eI dx), (17, .val (.agg #[iV kh, iV hx, iV hy])), (15, .val (.agg #[iV k, iV x, iV y]))]) (M' := fun B3 => [⟨B3, 62, [iV 0, iV 0, iV 0]⟩]) (ob := fun B3 => []) (fun B3 => An) ?_
  clear hf; intro a w3 B3 hf hMs hB hk; have hk : Keep Nn w2 w3 := hk.mono (by intro _ _ h; cases h)
  have hbB3 : w.heap.size ≤ B3 := by have := hk0.size; omega
  have hMo := hM; have hM : MemOk [⟨B1, 64, [iV k, iV x, iV y, iV kh, iV hx, iV hy, iV dx, iV dy]⟩, ⟨B2, 62, [iV 0, iV 0, iV 0]⟩, ⟨B3, 62, [iV 0, iV 0, iV 0]⟩] w3 := MemOk.more hM hk (by omega) (hMs.at_ _ (List.Mem.head _))
  have hk0 := hk0.trans hk.nn
  clear hk hMs hMo hB
  have hC := (hC1i _ ⟨hM.sub (.cons_cons _ (.cons _ (.cons _ .slnil))), hk0, trivial⟩)
  refine scdone hC ?_
  refine scstep rfl ?_
  have hMs : MemOk [⟨B2, 62, [iV 0, iV 0, iV 0]⟩] w3 := hM.sub (.cons _ (.cons_cons _ (.cons _ .slnil)))
  refine q1 hf hMs [4, 3, 21, 19, 17] [{ os := [.st 0 0, .st 0 1, .st 0 2] }] (env' := fun B4 => [(4, eP B3 0), (3, eP B2 0), (21, eI dy), (19, eI dx), (17, .val (.agg #[iV kh, iV hx, iV hy]))]) (M' := fun B4 => [⟨B2, 62, [iV k, iV x, iV y]⟩]) (ob := fun B4 => [Ad B2 0, Ad B2 1, Ad B2 2]) (fun B4 => (Ac (ad _ _) (Ac (ad _ _) (Ao (ad _ _))))) ?_
  clear hf hMs; intro a w4 B4 hf hMs hB hk; clear hB
  have hM : MemOk [⟨B1, 64, [iV k, iV x, iV y, iV kh, iV hx, iV hy, iV dx, iV dy]⟩, ⟨B2, 62, [iV k, iV x, iV y]⟩, ⟨B3, 62, [iV 0, iV 0, iV 0]⟩] w4 := MemOk.upd (M1 := [⟨B1, 64, [iV k, iV x, iV y, iV kh, iV hx, iV hy, iV dx, iV dy]⟩]) (M2 := [⟨B3, 62, [iV 0, iV 0, iV 0]⟩]) hM hk hMs rfl
  have hk0 := hk0.then hk (by intro i hi h; simp only [Is, Mem.names, List.map_cons, List.map_nil, List.mem_cons, List.not_mem_nil, or_false] at h; omega)
  clear hk hMs
  have hC := (hC1i _ ⟨hM.sub (.cons_cons _ (.cons _ (.cons _ .slnil))), hk0, trivial⟩)
  refine scdone hC ?_
  refine scstep rfl ?_
  have hMs : MemOk [⟨B3, 62, [iV 0, iV 0, iV 0]⟩] w4 := hM.sub (.cons _ (.cons _ (.cons_cons _ .slnil)))
  refine q1 hf hMs [4, 3, 21, 19] [{ os := [.st 0 0, .st 0 1, .st 0 2] }] (env' := fun B5 => [(4, eP B3 0), (3, eP B2 0), (21, eI dy), (19, eI dx)]) (M' := fun B5 => [⟨B3, 62, [iV kh, iV hx, iV hy]⟩]) (ob := fun B5 => [Ad B3 0, Ad B3 1, Ad B3 2]) (fun B5 => (Ac (ad _ _) (Ac (ad _ _) (Ao (ad _ _))))) ?_
  clear hf hMs; intro a w5 B5 hf hMs hB hk; clear hB
  have hM : MemOk [⟨B1, 64, [iV k, iV x, iV y, iV kh, iV hx, iV hy, iV dx, iV dy]⟩, ⟨B2, 62, [iV k, iV x, iV y]⟩, ⟨B3, 62, [iV kh, iV hx, iV hy]⟩] w5 := MemOk.upd (M1 := [⟨B1, 64, [iV k, iV x, iV y, iV kh, iV hx, iV hy, iV dx, iV dy]⟩, ⟨B2, 62, [iV k, iV x, iV y]⟩]) (M2 := []) hM hk hMs rfl
  have hk0 := hk0.then hk (by intro i hi h; simp only [Is, Mem.names, List.map_cons, List.map_nil, List.mem_cons, List.not_mem_nil, or_false] at h; omega)
  clear hk hMs
  have hC := (hC1i _ ⟨hM.sub (.cons_cons _ (.cons _ (.cons _ .slnil))), hk0, trivial⟩)
  refine scdone hC ?_
  refine qd hf hC (fun w' h => (hC1e w' h).1) [6, 5, 4, 3] [{}, {}] (env' := [(6, eI dy), (5, eI dx), (4, eP B3 0), (3, eP B2 0)]) (ob := []) An ?_
  clear hf; intro a hf
  clear hC
  show K2 _ _
  refine hK2 _ _ ?_
  refine wp_seq_k (fun K3 hK3 => ?_)
  refine wp_seq_k (fun K4 hK4 => ?_)
  refine wp_region_lit ?_
  refine sxcall hf rfl rfl rfl rfl (g := 29) (vs := []) (ob := []) (by as_aux_lemma => kernel_rfl) An enters29 (alive6 E w5  (hG.keep hk0 (fun _ h => h))) ?_
  clear hf; rintro _ w6 a ⟨rfl, hk⟩ hf
  have hM := hM.keepNn hk
  have hk0 := hk0.trans hk.nn
  clear hk
  refine q0 hf hM [23, 6, 5, 4, 3] [{}] (env' := [(23, eB false), (6, eI dy), (5, eI dx), (4, eP B3 0), (3, eP B2 0)]) (ob := []) An ?_
  clear hf; intro a hf
  refine wpList_nil ?_
  refine hK4 _ _ ?_
  refine sxcond hf (b := false) (by kernel_rfl) (fun h => by cases h) (fun _ => ?_)
  refine wp_skip ?_
  refine hK3 _ _ ?_
  refine wp_seq_k (fun K5 hK5 => ?_)
  refine wp_region_lit ?_
  refine q0 hf hM [27, 26, 25, 6, 5, 4, 3] [{ os := [.ld 1 0, .ld 1 1, .ld 1 2] }, {}, {}] (env' := [(27, eI dy), (26, eI dx), (25, .val (.agg #[iV k, iV x, iV y])), (6, eI dy), (5, eI dx), (4, eP B3 0), (3, eP B2 0)]) (ob := [Ad B2 0, Ad B2 1, Ad B2 2]) (Ac (ad _ _) (Ac (ad _ _) (Ao (ad _ _)))) ?_
  clear hf; intro a hf
  refine sxcall hf rfl rfl rfl rfl (g := 30) (vs := [.agg #[iV k, iV x, iV y], iV dx, iV dy]) (ob := []) (by as_aux_lemma => kernel_rfl) An enters30 (smv_ok E k x y dx dy w6 hn0 hn1 hn2 (by omega) (by omega) (hG.keep hk0 (fun _ h => h))) ?_
  clear hf; rintro _ w7 a ⟨rfl, hk⟩ hf
  have hM := hM.keepNn hk
  have hk0 := hk0.trans hk.nn
  clear hk
  refine q1 hf hM [8, 7, 6, 5, 4, 3] [{}, {}, {}, { os := [.nw] }, { os := [.st 3 0, .st 3 1, .st 3 2] }, {}] (env' := fun B8 => [(8, .val (.nilIface)), (7, eP B8 0), (6, eI dy), (5, eI dx), (4, eP B3 0), (3, eP B2 0)]) (M' := fun B8 => [⟨B1, 64, [iV k, iV x, iV y, iV kh, iV hx, iV hy, iV dx, iV dy]⟩, ⟨B2, 62, [iV k, iV x, iV y]⟩, ⟨B3, 62, [iV kh, iV hx, iV hy]⟩, ⟨B8, 62, [iV k, iV (x + dx), iV (y + dy)]⟩]) (ob := fun B8 => [Ad B8 0, Ad B8 1, Ad B8 2]) (fun B8 => (Ac (ad _ _) (Ac (ad _ _) (Ao (ad _ _))))) ?_
  clear hf hM; intro a w8 B8 hf hM hB hk
  have hbB8 : w.heap.size ≤ B8 := by have := hk0.size; omega
  have hk0 := hk0.then hk (by intro i hi h; simp only [Is, Mem.names, List.map_cons, List.map_nil, List.mem_cons, List.not_mem_nil, or_false] at h; omega)
  clear hk hB
  refine wpList_nil ?_
  refine hK5 _ _ ?_
  refine wp_seq_k (fun K6 hK6 => ?_)
  refine wp_seq_k (fun K7 hK7 => ?_)
  refine wp_region_lit ?_
  refine q0 hf hM [32, 7, 6, 5, 4, 3] [{}, {}] (env' := [(32, eB false), (7, eP B8 0), (6, eI dy), (5, eI dx), (4, eP B3 0), (3, eP B2 0)]) (ob := []) An ?_
  clear hf; intro a hf
  refine wpList_nil ?_
  refine hK7 _ _ ?_
  refine sxcond hf (b := false) (by kernel_rfl) (fun h => by cases h) (fun _ => ?_)
  refine wp_skip ?_
  refine hK6 _ _ ?_
  refine wp_seq_k (fun K8 hK8 => ?_)
  refine wp_region_lit ?_
  refine q0 hf hM [41, 39, 37, 7, 6, 5, 4, 3] [{ os := [.ld 3 0, .ld 3 1, .ld 3 2] }, {}, { hint := some (iV (0 - dx)) }, {}, { hint := some (iV (0 - dy)) }] (env' := [(41, eI (0 - dy)), (39, eI (0 - dx)), (37, .val (.agg #[iV k, iV (x + dx), iV (y + dy)])), (7, eP B8 0), (6, eI dy), (5, eI dx), (4, eP B3 0), (3, eP B2 0)]) (ob := [Ad B8 0, Ad B8 1, Ad B8 2, (iV (IntKind.i64.wrap (0 - dx)) : Value) = (iV (0 - dx) : Value), (iV (IntKind.i64.wrap (0 - dy)) : Value) = (iV (0 - dy) : Value)]) (Ac (ad _ _) (Ac (ad _ _) (Ac (ad _ _) (Ac (wr (by omega)) (Ao (wr (by omega))))))) ?_
  clear hf; intro a hf
  refine sxcall hf rfl rfl rfl rfl (g := 30) (vs := [.agg #[iV k, iV (x + dx), iV (y + dy)], iV (0 - dx), iV (0 - dy)]) (ob := []) (by as_aux_lemma => kernel_rfl) An enters30 (smv_ok E k (x + dx) (y + dy) (0 - dx) (0 - dy) w8 hp2 hi2 hv2 (by omega) (by omega) (hG.keep hk0 (fun _ h => h))) ?_
  clear hf; rintro _ w9 a ⟨rfl, hk⟩ hf
  have hM := hM.keepNn hk
  have hk0 := hk0.trans hk.nn
  clear hk
  refine q1 hf hM [8, 9, 7, 6, 5, 4, 3] [{}, {}, {}, { os := [.nw] }, { os := [.st 4 0, .st 4 1, .st 4 2] }, {}] (env' := fun B11 => [(8, .val (.nilIface)), (9, eP B11 0), (7, eP B8 0), (6, eI dy), (5, eI dx), (4, eP B3 0), (3, eP B2 0)]) (M' := fun B11 => [⟨B1, 64, [iV k, iV x, iV y, iV kh, iV hx, iV hy, iV dx, iV dy]⟩, ⟨B2, 62, [iV k, iV x, iV y]⟩, ⟨B3, 62, [iV kh, iV hx, iV hy]⟩, ⟨B8, 62, [iV k, iV (x + dx), iV (y + dy)]⟩, ⟨B11, 62, [iV k, iV ((x + dx) + (0 - dx)), iV ((y + dy) + (0 - dy))]⟩]) (ob := fun B11 => [Ad B11 0, Ad B11 1, Ad B11 2]) (fun B11 => (Ac (ad _ _) (Ac (ad _ _) (Ao (ad _ _))))) ?_
  clear hf hM; intro a w10 B11 hf hM hB hk
  have hbB11 : w.heap.size ≤ B11 := by have := hk0.size; omega
  have hk0 := hk0.then hk (by intro i hi h; simp only [Is, Mem.names, List.map_cons, List.map_nil, List.mem_cons, List.not_mem_nil, or_false] at h; omega)
  clear hk hB
  refine wpList_nil ?_
  refine hK8 _ _ ?_
  refine wp_seq_k (fun K9 hK9 => ?_)
  refine wp_seq_k (fun K10 hK10 => ?_)
  refine wp_region_lit ?_
  refine q0 hf hM [51, 7, 6, 5, 4, 3] [{}, {}, {}, { os := [.ld 4 0, .ld 4 1, .ld 4 2] }, { os := [.ld 1 0, .ld 1 1, .ld 1 2] }, { sp := true, hint := some (bV (!(((((x + dx) + (0 - dx)) : Int) == x) && ((((y + dy) + (0 - dy)) : Int) == y)))) }, {}] (env' := [(51, eB (!(((((x + dx) + (0 - dx)) : Int) == x) && ((((y + dy) + (0 - dy)) : Int) == y)))), (7, eP B8 0), (6, eI dy), (5, eI dx), (4, eP B3 0), (3, eP B2 0)]) (ob := [false = false, Ad B11 0, Ad B11 1, Ad B11 2, false = false, Ad B2 0, Ad B2 1, Ad B2 2, false = false, (bV (!(((k : Int) == k) && (((((x + dx) + (0 - dx)) : Int) == x) && (((((y + dy) + (0 - dy)) : Int) == y) && true)))) : Value) = (bV (!(((((x + dx) + (0 - dx)) : Int) == x) && ((((y + dy) + (0 - dy)) : Int) == y))) : Value)]) (Ac rfl (Ac (ad _ _) (Ac (ad _ _) (Ac (ad _ _) (Ac rfl (Ac (ad _ _) (Ac (ad _ _) (Ac (ad _ _) (Ac rfl (Ao (by simp))))))))))) ?_
  clear hf; intro a hf
  refine wpList_nil ?_
  refine hK10 _ _ ?_
  refine qc hf (b := (!(((((x + dx) + (0 - dx)) : Int) == x) && ((((y + dy) + (0 - dy)) : Int) == y)))) (fun hc3r => ?_) (fun hc3r => ?_)
  · have hc3 := hc3r
    exfalso; simp at hc3; omega
  · have hc3 := hc3r
    refine wp_skip ?_
    refine hK9 _ _ ?_
    refine wp_seq_k (fun K11 hK11 => ?_)
    refine wp_region_lit ?_
    refine q1 hf hM [7, 6, 5, 4, 3] [{}, { os := [.st 2 0] }] (env' := fun B13 => [(7, eP B8 0), (6, eI dy), (5, eI dx), (4, eP B3 0), (3, eP B2 0)]) (M' := fun B13 => [⟨B1, 64, [iV k, iV x, iV y, iV kh, iV hx, iV hy, iV dx, iV dy]⟩, ⟨B2, 62, [iV k, iV x, iV y]⟩, ⟨B3, 62, [iV 1, iV hx, iV hy]⟩, ⟨B8, 62, [iV k, iV (x + dx), iV (y + dy)]⟩, ⟨B11, 62, [iV k, iV ((x + dx) + (0 - dx)), iV ((y + dy) + (0 - dy))]⟩]) (ob := fun B13 => [Ad B3 0]) (fun B13 => (Ao (ad _ _))) ?_
    clear hf hM; intro a w11 B13 hf hM hB hk
    have hbB13 : w.heap.size ≤ B13 := by have := hk0.size; omega
    have hk0 := hk0.then hk (by intro i hi h; simp only [Is, Mem.names, List.map_cons, List.map_nil, List.mem_cons, List.not_mem_nil, or_false] at h; omega)
    clear hk hB
    refine wpList_nil ?_
    refine hK11 _ _ ?_
    refine wp_seq_k (fun K12 hK12 => ?_)
    refine wp_seq_k (fun K13 hK13 => ?_)
    refine wp_region_lit ?_
    refine q0 hf hM [53, 7, 6, 5, 4, 3] [{ os := [.ld 2 0, .ld 2 1, .ld 2 2] }] (env' := [(53, .val (.agg #[iV 1, iV hx, iV hy])), (7, eP B8 0), (6, eI dy), (5, eI dx), (4, eP B3 0), (3, eP B2 0)]) (ob := [Ad B3 0, Ad B3 1, Ad B3 2]) (Ac (ad _ _) (Ac (ad _ _) (Ao (ad _ _)))) ?_
    clear hf; intro a hf
    refine sxcall hf rfl rfl rfl rfl (g := 31) (vs := [.agg #[iV 1, iV hx, iV hy]]) (ob := []) (by as_aux_lemma => kernel_rfl) An enters31 (scheck_ok E 1 hx hy w11 hkh hn3 (hG.keep hk0 (fun _ h => h))) ?_
    clear hf; rintro _ w12 a ⟨rfl, hk⟩ hf
    have hM := hM.keepNn hk
    have hk0 := hk0.trans hk.nn
    clear hk
    refine q0 hf hM [55, 7, 6, 5, 4, 3] [{}] (env' := [(55, eB false), (7, eP B8 0), (6, eI dy), (5, eI dx), (4, eP B3 0), (3, eP B2 0)]) (ob := []) An ?_
    clear hf; intro a hf
    refine wpList_nil ?_
    refine hK13 _ _ ?_
    refine sxcond hf (b := false) (by kernel_rfl) (fun h => by cases h) (fun _ => ?_)
    refine wp_skip ?_
    refine hK12 _ _ ?_
    refine wp_seq_k (fun K14 hK14 => ?_)
    refine wp_region_lit ?_
    refine q0 hf hM [58, 57, 7, 6, 5, 4] [{ os := [.ld 1 0, .ld 1 1, .ld 1 2] }, { os := [.ld 2 0, .ld 2 1, .ld 2 2] }] (env' := [(58, .val (.agg #[iV 1, iV hx, iV hy])), (57, .val (.agg #[iV k, iV x, iV y])), (7, eP B8 0), (6, eI dy), (5, eI dx), (4, eP B3 0)]) (ob := [Ad B2 0, Ad B2 1, Ad B2 2, Ad B3 0, Ad B3 1, Ad B3 2]) (Ac (ad _ _) (Ac (ad _ _) (Ac (ad _ _) (Ac (ad _ _) (Ac (ad _ _) (Ao (ad _ _))))))) ?_
    clear hf; intro a hf
    refine sxbslice hf hM (t := 23) (e := 62) (len := 2) (cs := [iV k, iV x, iV y, iV 1, iV hx, iV hy]) (ob := []) rfl rfl rfl rfl (by as_aux_lemma => kernel_rfl) An (by as_aux_lemma => kernel_rfl) ?_
    clear hf hM; intro a w13 B17 hf hM hB hk
    replace hM : MemOk [⟨B1, 64, [iV k, iV x, iV y, iV kh, iV hx, iV hy, iV dx, iV dy]⟩, ⟨B2, 62, [iV k, iV x, iV y]⟩, ⟨B3, 62, [iV 1, iV hx, iV hy]⟩, ⟨B8, 62, [iV k, iV (x + dx), iV (y + dy)]⟩, ⟨B11, 62, [iV k, iV ((x + dx) + (0 - dx)), iV ((y + dy) + (0 - dy))]⟩, ⟨B17, 62, [iV k, iV x, iV y, iV 1, iV hx, iV hy]⟩] w13 := hM
    have hbB17 : w.heap.size ≤ B17 := by have := hk0.size; omega
    have hk0 := hk0.trans hk.nn
    clear hk hB
    refine sxcall hf rfl rfl rfl rfl (g := 32) (vs := [.slice (some ⟨B17, 0, none⟩) ([⟨k, x, y⟩, ⟨1, hx, hy⟩] : List V3).length 2]) (ob := []) (by as_aux_lemma => kernel_rfl) An enters32 (sbox_ok E (some ⟨B17, 0, none⟩) ([⟨k, x, y⟩, ⟨1, hx, hy⟩] : List V3) 2 w13 hbx1 (Arr.of_memT (sz := 3) (f := fV) (L := ([⟨k, x, y⟩, ⟨1, hx, hy⟩] : List V3)) (l := ([⟨k, x, y⟩, ⟨1, hx, hy⟩] : List V3)) hM (List.Mem.tail _ (List.Mem.tail _ (List.Mem.tail _ (List.Mem.tail _ (List.Mem.tail _ (List.Mem.head _)))))) (fun _ => rfl) rfl rfl) (by first | omega | (simp; omega) | (simp; done) | exact Nat.le_trans (byKinds_len _ _) (by omega) | decide) (hG.keep hk0 (fun _ h => h))) ?_
    clear hf; rintro _ w14 a ⟨rfl, hk⟩ hf
    have hM := hM.keepNn hk
    have hk0 := hk0.trans hk.nn
    clear hk
    refine q1 hf hM [11, 10, 7, 6, 5, 4] [{}, {}, {}, { os := [.nw] }, { os := [.st 6 0, .st 6 1, .st 6 2, .st 6 3] }, {}] (env' := fun B18 => [(11, eB true), (10, eP B18 0), (7, eP B8 0), (6, eI dy), (5, eI dx), (4, eP B3 0)]) (M' := fun B18 => [⟨B1, 64, [iV k, iV x, iV y, iV kh, iV hx, iV hy, iV dx, iV dy]⟩, ⟨B2, 62, [iV k, iV x, iV y]⟩, ⟨B3, 62, [iV 1, iV hx, iV hy]⟩, ⟨B8, 62, [iV k, iV (x + dx), iV (y + dy)]⟩, ⟨B11, 62, [iV k, iV ((x + dx) + (0 - dx)), iV ((y + dy) + (0 - dy))]⟩, ⟨B17, 62, [iV k, iV x, iV y, iV 1, iV hx, iV hy]⟩, ⟨B18, 50, [iV ((findV ([⟨k, x, y⟩, ⟨1, hx, hy⟩] : List V3) 0).a - (findV ([⟨k, x, y⟩, ⟨1, hx, hy⟩] : List V3) 1).a), iV ((findV ([⟨k, x, y⟩, ⟨1, hx, hy⟩] : List V3) 0).b - (findV ([⟨k, x, y⟩, ⟨1, hx, hy⟩] : List V3) 1).b), iV ((findV ([⟨k, x, y⟩, ⟨1, hx, hy⟩] : List V3) 0).a + (findV ([⟨k, x, y⟩, ⟨1, hx, hy⟩] : List V3) 1).a), iV ((findV ([⟨k, x, y⟩, ⟨1, hx, hy⟩] : List V3) 0).b + (findV ([⟨k, x, y⟩, ⟨1, hx, hy⟩] : List V3) 1).b)]⟩]) (ob := fun B18 => [Ad B18 0, Ad B18 1, Ad B18 2, Ad B18 3]) (fun B18 => (Ac (ad _ _) (Ac (ad _ _) (Ac (ad _ _) (Ao (ad _ _)))))) ?_
    clear hf hM; intro a w15 B18 hf hM hB hk
    have hbB18 : w.heap.size ≤ B18 := by have := hk0.size; omega
    have hk0 := hk0.then hk (by intro i hi h; simp only [Is, Mem.names, List.map_cons, List.map_nil, List.mem_cons, List.not_mem_nil, or_false] at h; omega)
    clear hk hB
    refine wpList_nil ?_
    refine hK14 _ _ ?_
    refine wp_seq_k (fun K15 hK15 => ?_)
    refine wp_region_lit ?_
    refine q0 hf hM [65, 64, 11, 10, 6, 5] [{ os := [.ld 3 0, .ld 3 1, .ld 3 2] }, { os := [.ld 2 0, .ld 2 1, .ld 2 2] }] (env' := [(65, .val (.agg #[iV 1, iV hx, iV hy])), (64, .val (.agg #[iV k, iV (x + dx), iV (y + dy)])), (11, eB true), (10, eP B18 0), (6, eI dy), (5, eI dx)]) (ob := [Ad B8 0, Ad B8 1, Ad B8 2, Ad B3 0, Ad B3 1, Ad B3 2]) (Ac (ad _ _) (Ac (ad _ _) (Ac (ad _ _) (Ac (ad _ _) (Ac (ad _ _) (Ao (ad _ _))))))) ?_
    clear hf; intro a hf
    refine sxbslice hf hM (t := 23) (e := 62) (len := 2) (cs := [iV k, iV (x + dx), iV (y + dy), iV 1, iV hx, iV hy]) (ob := []) rfl rfl rfl rfl (by as_aux_lemma => kernel_rfl) An (by as_aux_lemma => kernel_rfl) ?_
    clear hf hM; intro a w16 B20 hf hM hB hk
    replace hM : MemOk [⟨B1, 64, [iV k, iV x, iV y, iV kh, iV hx, iV hy, iV dx, iV dy]⟩, ⟨B2, 62, [iV k, iV x, iV y]⟩, ⟨B3, 62, [iV 1, iV hx, iV hy]⟩, ⟨B8, 62, [iV k, iV (x + dx), iV (y + dy)]⟩, ⟨B11, 62, [iV k, iV ((x + dx) + (0 - dx)), iV ((y + dy) + (0 - dy))]⟩, ⟨B17, 62, [iV k, iV x, iV y, iV 1, iV hx, iV hy]⟩, ⟨B18, 50, [iV ((findV ([⟨k, x, y⟩, ⟨1, hx, hy⟩] : List V3) 0).a - (findV ([⟨k, x, y⟩, ⟨1, hx, hy⟩] : List V3) 1).a), iV ((findV ([⟨k, x, y⟩, ⟨1, hx, hy⟩] : List V3) 0).b - (findV ([⟨k, x, y⟩, ⟨1, hx, hy⟩] : List V3) 1).b), iV ((findV ([⟨k, x, y⟩, ⟨1, hx, hy⟩] : List V3) 0).a + (findV ([⟨k, x, y⟩, ⟨1, hx, hy⟩] : List V3) 1).a), iV ((findV ([⟨k, x, y⟩, ⟨1, hx, hy⟩] : List V3) 0).b + (findV ([⟨k, x, y⟩, ⟨1, hx, hy⟩] : List V3) 1).b)]⟩, ⟨B20, 62, [iV k, iV (x + dx), iV (y + dy), iV 1, iV hx, iV hy]⟩] w16 := hM
    have hbB20 : w.heap.size ≤ B20 := by have := hk0.size; omega
    have hk0 := hk0.trans hk.nn
    clear hk hB
    refine sxcall hf rfl rfl rfl rfl (g := 32) (vs := [.slice (some ⟨B20, 0, none⟩) ([⟨k, x + dx, y + dy⟩, ⟨1, hx, hy⟩] : List V3).length 2]) (ob := []) (by as_aux_lemma => kernel_rfl) An enters32 (sbox_ok E (some ⟨B20, 0, none⟩) ([⟨k, x + dx, y + dy⟩, ⟨1, hx, hy⟩] : List V3) 2 w16 hbx2 (Arr.of_memT (sz := 3) (f := fV) (L := ([⟨k, x + dx, y + dy⟩, ⟨1, hx, hy⟩] : List V3)) (l := ([⟨k, x + dx, y + dy⟩, ⟨1, hx, hy⟩] : List V3)) hM (List.Mem.tail _ (List.Mem.tail _ (List.Mem.tail _ (List.Mem.tail _ (List.Mem.tail _ (List.Mem.tail _ (List.Mem.tail _ (List.Mem.head _)))))))) (fun _ => rfl) rfl rfl) (by first | omega | (simp; omega) | (simp; done) | exact Nat.le_trans (byKinds_len _ _) (by omega) | decide) (hG.keep hk0 (fun _ h => h))) ?_
    clear hf; rintro _ w17 a ⟨rfl, hk⟩ hf
    have hM := hM.keepNn hk
    have hk0 := hk0.trans hk.nn
    clear hk
    refine q1 hf hM [13, 12, 11, 10, 6, 5] [{}, {}, {}, { os := [.nw] }, { os := [.st 8 0, .st 8 1, .st 8 2, .st 8 3] }, {}] (env' := fun B21 => [(13, eB true), (12, eP B21 0), (11, eB true), (10, eP B18 0), (6, eI dy), (5, eI dx)]) (M' := fun B21 => [⟨B1, 64, [iV k, iV x, iV y, iV kh, iV hx, iV hy, iV dx, iV dy]⟩, ⟨B2, 62, [iV k, iV x, iV y]⟩, ⟨B3, 62, [iV 1, iV hx, iV hy]⟩, ⟨B8, 62, [iV k, iV (x + dx), iV (y + dy)]⟩, ⟨B11, 62, [iV k, iV ((x + dx) + (0 - dx)), iV ((y + dy) + (0 - dy))]⟩, ⟨B17, 62, [iV k, iV x, iV y, iV 1, iV hx, iV hy]⟩, ⟨B18, 50, [iV ((findV ([⟨k, x, y⟩, ⟨1, hx, hy⟩] : List V3) 0).a - (findV ([⟨k, x, y⟩, ⟨1, hx, hy⟩] : List V3) 1).a), iV ((findV ([⟨k, x, y⟩, ⟨1, hx, hy⟩] : List V3) 0).b - (findV ([⟨k, x, y⟩, ⟨1, hx, hy⟩] : List V3) 1).b), iV ((findV ([⟨k, x, y⟩, ⟨1, hx, hy⟩] : List V3) 0).a + (findV ([⟨k, x, y⟩, ⟨1, hx, hy⟩] : List V3) 1).a), iV ((findV ([⟨k, x, y⟩, ⟨1, hx, hy⟩] : List V3) 0).b + (findV ([⟨k, x, y⟩, ⟨1, hx, hy⟩] : List V3) 1).b)]⟩, ⟨B20, 62, [iV k, iV (x + dx), iV (y + dy), iV 1, iV hx, iV hy]⟩, ⟨B21, 50, [iV ((findV ([⟨k, x + dx, y + dy⟩, ⟨1, hx, hy⟩] : List V3) 0).a - (findV ([⟨k, x + dx, y + dy⟩, ⟨1, hx, hy⟩] : List V3) 1).a), iV ((findV ([⟨k, x + dx, y + dy⟩, ⟨1, hx, hy⟩] : List V3) 0).b - (findV ([⟨k, x + dx, y + dy⟩, ⟨1, hx, hy⟩] : List V3) 1).b), iV ((findV ([⟨k, x + dx, y + dy⟩, ⟨1, hx, hy⟩] : List V3) 0).a + (findV ([⟨k, x + dx, y + dy⟩, ⟨1, hx, hy⟩] : List V3) 1).a), iV ((findV ([⟨k, x + dx, y + dy⟩, ⟨1, hx, hy⟩] : List V3) 0).b + (findV ([⟨k, x + dx, y + dy⟩, ⟨1, hx, hy⟩] : List V3) 1).b)]⟩]) (ob := fun B21 => [Ad B21 0, Ad B21 1, Ad B21 2, Ad B21 3]) (fun B21 => (Ac (ad _ _) (Ac (ad _ _) (Ac (ad _ _) (Ao (ad _ _)))))) ?_
    clear hf hM; intro a w18 B21 hf hM hB hk
    have hbB21 : w.heap.size ≤ B21 := by have := hk0.size; omega
    have hk0 := hk0.then hk (by intro i hi h; simp only [Is, Mem.names, List.map_cons, List.map_nil, List.mem_cons, List.not_mem_nil, or_false] at h; omega)
    clear hk hB
    refine wpList_nil ?_
    refine hK15 _ _ ?_
    refine wp_seq_k (fun K16 hK16 => ?_)
    refine wp_region_lit ?_
    refine q0 hf hM [2] [{}, {}, {}, {}, {}, { os := [.ld 8 0, .ld 8 1, .ld 8 2, .ld 8 3] }, {}, { os := [.ld 6 0] }, {}, { hint := some (iV (((findV ([⟨k, x, y⟩, ⟨1, hx, hy⟩] : List V3) 0).a - (findV ([⟨k, x, y⟩, ⟨1, hx, hy⟩] : List V3) 1).a) + dx)) }, {}, { os := [.ld 6 1] }, {}, { hint := some (iV (((findV ([⟨k, x, y⟩, ⟨1, hx, hy⟩] : List V3) 0).b - (findV ([⟨k, x, y⟩, ⟨1, hx, hy⟩] : List V3) 1).b) + dy)) }, {}, { os := [.ld 6 2] }, {}, { hint := some (iV (((findV ([⟨k, x, y⟩, ⟨1, hx, hy⟩] : List V3) 0).a + (findV ([⟨k, x, y⟩, ⟨1, hx, hy⟩] : List V3) 1).a) + dx)) }, {}, { os := [.ld 6 3] }, {}, { hint := some (iV (((findV ([⟨k, x, y⟩, ⟨1, hx, hy⟩] : List V3) 0).b + (findV ([⟨k, x, y⟩, ⟨1, hx, hy⟩] : List V3) 1).b) + dy)) }, { sp := true }, { sp := true, hint := some (bV (((((findV ([⟨k, x + dx, y + dy⟩, ⟨1, hx, hy⟩] : List V3) 0).a - (findV ([⟨k, x + dx, y + dy⟩, ⟨1, hx, hy⟩] : List V3) 1).a) : Int) == (((findV ([⟨k, x, y⟩, ⟨1, hx, hy⟩] : List V3) 0).a - (findV ([⟨k, x, y⟩, ⟨1, hx, hy⟩] : List V3) 1).a) + dx)) && (((((findV ([⟨k, x + dx, y + dy⟩, ⟨1, hx, hy⟩] : List V3) 0).b - (findV ([⟨k, x + dx, y + dy⟩, ⟨1, hx, hy⟩] : List V3) 1).b) : Int) == (((findV ([⟨k, x, y⟩, ⟨1, hx, hy⟩] : List V3) 0).b - (findV ([⟨k, x, y⟩, ⟨1, hx, hy⟩] : List V3) 1).b) + dy)) && (((((findV ([⟨k, x + dx, y + dy⟩, ⟨1, hx, hy⟩] : List V3) 0).a + (findV ([⟨k, x + dx, y + dy⟩, ⟨1, hx, hy⟩] : List V3) 1).a) : Int) == (((findV ([⟨k, x, y⟩, ⟨1, hx, hy⟩] : List V3) 0).a + (findV ([⟨k, x, y⟩, ⟨1, hx, hy⟩] : List V3) 1).a) + dx)) && ((((findV ([⟨k, x + dx, y + dy⟩, ⟨1, hx, hy⟩] : List V3) 0).b + (findV ([⟨k, x + dx, y + dy⟩, ⟨1, hx, hy⟩] : List V3) 1).b) : Int) == (((findV ([⟨k, x, y⟩, ⟨1, hx, hy⟩] : List V3) 0).b + (findV ([⟨k, x, y⟩, ⟨1, hx, hy⟩] : List V3) 1).b) + dy)))))) }, {}, {}] (env' := [(2, eB (((((findV ([⟨k, x + dx, y + dy⟩, ⟨1, hx, hy⟩] : List V3) 0).a - (findV ([⟨k, x + dx, y + dy⟩, ⟨1, hx, hy⟩] : List V3) 1).a) : Int) == (((findV ([⟨k, x, y⟩, ⟨1, hx, hy⟩] : List V3) 0).a - (findV ([⟨k, x, y⟩, ⟨1, hx, hy⟩] : List V3) 1).a) + dx)) && (((((findV ([⟨k, x + dx, y + dy⟩, ⟨1, hx, hy⟩] : List V3) 0).b - (findV ([⟨k, x + dx, y + dy⟩, ⟨1, hx, hy⟩] : List V3) 1).b) : Int) == (((findV ([⟨k, x, y⟩, ⟨1, hx, hy⟩] : List V3) 0).b - (findV ([⟨k, x, y⟩, ⟨1, hx, hy⟩] : List V3) 1).b) + dy)) && (((((findV ([⟨k, x + dx, y + dy⟩, ⟨1, hx, hy⟩] : List V3) 0).a + (findV ([⟨k, x + dx, y + dy⟩, ⟨1, hx, hy⟩] : List V3) 1).a) : Int) == (((findV ([⟨k, x, y⟩, ⟨1, hx, hy⟩] : List V3) 0).a + (findV ([⟨k, x, y⟩, ⟨1, hx, hy⟩] : List V3) 1).a) + dx)) && ((((findV ([⟨k, x + dx, y + dy⟩, ⟨1, hx, hy⟩] : List V3) 0).b + (findV ([⟨k, x + dx, y + dy⟩, ⟨1, hx, hy⟩] : List V3) 1).b) : Int) == (((findV ([⟨k, x, y⟩, ⟨1, hx, hy⟩] : List V3) 0).b + (findV ([⟨k, x, y⟩, ⟨1, hx, hy⟩] : List V3) 1).b) + dy))))))]) (ob := [true = true, true = true, Ad B21 0, Ad B21 1, Ad B21 2, Ad B21 3, true = true, true = true, Ad B18 0, true = true, true = true, (iV (IntKind.i64.wrap (((findV ([⟨k, x, y⟩, ⟨1, hx, hy⟩] : List V3) 0).a - (findV ([⟨k, x, y⟩, ⟨1, hx, hy⟩] : List V3) 1).a) + dx)) : Value) = (iV (((findV ([⟨k, x, y⟩, ⟨1, hx, hy⟩] : List V3) 0).a - (findV ([⟨k, x, y⟩, ⟨1, hx, hy⟩] : List V3) 1).a) + dx) : Value), true = true, true = true, Ad B18 1, true = true, true = true, (iV (IntKind.i64.wrap (((findV ([⟨k, x, y⟩, ⟨1, hx, hy⟩] : List V3) 0).b - (findV ([⟨k, x, y⟩, ⟨1, hx, hy⟩] : List V3) 1).b) + dy)) : Value) = (iV (((findV ([⟨k, x, y⟩, ⟨1, hx, hy⟩] : List V3) 0).b - (findV ([⟨k, x, y⟩, ⟨1, hx, hy⟩] : List V3) 1).b) + dy) : Value), true = true, true = true, Ad B18 2, true = true, true = true, (iV (IntKind.i64.wrap (((findV ([⟨k, x, y⟩, ⟨1, hx, hy⟩] : List V3) 0).a + (findV ([⟨k, x, y⟩, ⟨1, hx, hy⟩] : List V3) 1).a) + dx)) : Value) = (iV (((findV ([⟨k, x, y⟩, ⟨1, hx, hy⟩] : List V3) 0).a + (findV ([⟨k, x, y⟩, ⟨1, hx, hy⟩] : List V3) 1).a) + dx) : Value), true = true, true = true, Ad B18 3, true = true, true = true, (iV (IntKind.i64.wrap (((findV ([⟨k, x, y⟩, ⟨1, hx, hy⟩] : List V3) 0).b + (findV ([⟨k, x, y⟩, ⟨1, hx, hy⟩] : List V3) 1).b) + dy)) : Value) = (iV (((findV ([⟨k, x, y⟩, ⟨1, hx, hy⟩] : List V3) 0).b + (findV ([⟨k, x, y⟩, ⟨1, hx, hy⟩] : List V3) 1).b) + dy) : Value), true = true, true = true, (bV (((((findV ([⟨k, x + dx, y + dy⟩, ⟨1, hx, hy⟩] : List V3) 0).a - (findV ([⟨k, x + dx, y + dy⟩, ⟨1, hx, hy⟩] : List V3) 1).a) : Int) == (((findV ([⟨k, x, y⟩, ⟨1, hx, hy⟩] : List V3) 0).a - (findV ([⟨k, x, y⟩, ⟨1, hx, hy⟩] : List V3) 1).a) + dx)) && (((((findV ([⟨k, x + dx, y + dy⟩, ⟨1, hx, hy⟩] : List V3) 0).b - (findV ([⟨k, x + dx, y + dy⟩, ⟨1, hx, hy⟩] : List V3) 1).b) : Int) == (((findV ([⟨k, x, y⟩, ⟨1, hx, hy⟩] : List V3) 0).b - (findV ([⟨k, x, y⟩, ⟨1, hx, hy⟩] : List V3) 1).b) + dy)) && (((((findV ([⟨k, x + dx, y + dy⟩, ⟨1, hx, hy⟩] : List V3) 0).a + (findV ([⟨k, x + dx, y + dy⟩, ⟨1, hx, hy⟩] : List V3) 1).a) : Int) == (((findV ([⟨k, x, y⟩, ⟨1, hx, hy⟩] : List V3) 0).a + (findV ([⟨k, x, y⟩, ⟨1, hx, hy⟩] : List V3) 1).a) + dx)) && (((((findV ([⟨k, x + dx, y + dy⟩, ⟨1, hx, hy⟩] : List V3) 0).b + (findV ([⟨k, x + dx, y + dy⟩, ⟨1, hx, hy⟩] : List V3) 1).b) : Int) == (((findV ([⟨k, x, y⟩, ⟨1, hx, hy⟩] : List V3) 0).b + (findV ([⟨k, x, y⟩, ⟨1, hx, hy⟩] : List V3) 1).b) + dy)) && true)))) : Value) = (bV (((((findV ([⟨k, x + dx, y + dy⟩, ⟨1, hx, hy⟩] : List V3) 0).a - (findV ([⟨k, x + dx, y + dy⟩, ⟨1, hx, hy⟩] : List V3) 1).a) : Int) == (((findV ([⟨k, x, y⟩, ⟨1, hx, hy⟩] : List V3) 0).a - (findV ([⟨k, x, y⟩, ⟨1, hx, hy⟩] : List V3) 1).a) + dx)) && (((((findV ([⟨k, x + dx, y + dy⟩, ⟨1, hx, hy⟩] : List V3) 0).b - (findV ([⟨k, x + dx, y + dy⟩, ⟨1, hx, hy⟩] : List V3) 1).b) : Int) == (((findV ([⟨k, x, y⟩, ⟨1, hx, hy⟩] : List V3) 0).b - (findV ([⟨k, x, y⟩, ⟨1, hx, hy⟩] : List V3) 1).b) + dy)) && (((((findV ([⟨k, x + dx, y + dy⟩, ⟨1, hx, hy⟩] : List V3) 0).a + (findV ([⟨k, x + dx, y + dy⟩, ⟨1, hx, hy⟩] : List V3) 1).a) : Int) == (((findV ([⟨k, x, y⟩, ⟨1, hx, hy⟩] : List V3) 0).a + (findV ([⟨k, x, y⟩, ⟨1, hx, hy⟩] : List V3) 1).a) + dx)) && ((((findV ([⟨k, x + dx, y + dy⟩, ⟨1, hx, hy⟩] : List V3) 0).b + (findV ([⟨k, x + dx, y + dy⟩, ⟨1, hx, hy⟩] : List V3) 1).b) : Int) == (((findV ([⟨k, x, y⟩, ⟨1, hx, hy⟩] : List V3) 0).b + (findV ([⟨k, x, y⟩, ⟨1, hx, hy⟩] : List V3) 1).b) + dy))))) : Value)]) (Ac rfl (Ac rfl (Ac (ad _ _) (Ac (ad _ _) (Ac (ad _ _) (Ac (ad _ _) (Ac rfl (Ac rfl (Ac (ad _ _) (Ac rfl (Ac rfl (Ac (wr (by omega)) (Ac rfl (Ac rfl (Ac (ad _ _) (Ac rfl (Ac rfl (Ac (wr (by omega)) (Ac rfl (Ac rfl (Ac (ad _ _) (Ac rfl (Ac rfl (Ac (wr (by omega)) (Ac rfl (Ac rfl (Ac (ad _ _) (Ac rfl (Ac rfl (Ac (wr (by omega)) (Ac rfl (Ac rfl (Ao (by simp)))))))))))))))))))))))))))))))))) ?_
    clear hf; intro a hf
    refine wpList_nil ?_
    refine hK16 _ _ ?_
    refine wp_ret ?_
    refine qr (fn := Tryd.f5) hf hM [] (l := [bV (((((findV ([⟨k, x + dx, y + dy⟩, ⟨1, hx, hy⟩] : List V3) 0).a - (findV ([⟨k, x + dx, y + dy⟩, ⟨1, hx, hy⟩] : List V3) 1).a) : Int) == (((findV ([⟨k, x, y⟩, ⟨1, hx, hy⟩] : List V3) 0).a - (findV ([⟨k, x, y⟩, ⟨1, hx, hy⟩] : List V3) 1).a) + dx)) && (((((findV ([⟨k, x + dx, y + dy⟩, ⟨1, hx, hy⟩] : List V3) 0).b - (findV ([⟨k, x + dx, y + dy⟩, ⟨1, hx, hy⟩] : List V3) 1).b) : Int) == (((findV ([⟨k, x, y⟩, ⟨1, hx, hy⟩] : List V3) 0).b - (findV ([⟨k, x, y⟩, ⟨1, hx, hy⟩] : List V3) 1).b) + dy)) && (((((findV ([⟨k, x + dx, y + dy⟩, ⟨1, hx, hy⟩] : List V3) 0).a + (findV ([⟨k, x + dx, y + dy⟩, ⟨1, hx, hy⟩] : List V3) 1).a) : Int) == (((findV ([⟨k, x, y⟩, ⟨1, hx, hy⟩] : List V3) 0).a + (findV ([⟨k, x, y⟩, ⟨1, hx, hy⟩] : List V3) 1).a) + dx)) && ((((findV ([⟨k, x + dx, y + dy⟩, ⟨1, hx, hy⟩] : List V3) 0).b + (findV ([⟨k, x + dx, y + dy⟩, ⟨1, hx, hy⟩] : List V3) 1).b) : Int) == (((findV ([⟨k, x, y⟩, ⟨1, hx, hy⟩] : List V3) 0).b + (findV ([⟨k, x, y⟩, ⟨1, hx, hy⟩] : List V3) 1).b) + dy)))))]) (ob := []) An ?_
    show (bV (((((findV ([⟨k, x + dx, y + dy⟩, ⟨1, hx, hy⟩] : List V3) 0).a - (findV ([⟨k, x + dx, y + dy⟩, ⟨1, hx, hy⟩] : List V3) 1).a) : Int) == (((findV ([⟨k, x, y⟩, ⟨1, hx, hy⟩] : List V3) 0).a - (findV ([⟨k, x, y⟩, ⟨1, hx, hy⟩] : List V3) 1).a) + dx)) && (((((findV ([⟨k, x + dx, y + dy⟩, ⟨1, hx, hy⟩] : List V3) 0).b - (findV ([⟨k, x + dx, y + dy⟩, ⟨1, hx, hy⟩] : List V3) 1).b) : Int) == (((findV ([⟨k, x, y⟩, ⟨1, hx, hy⟩] : List V3) 0).b - (findV ([⟨k, x, y⟩, ⟨1, hx, hy⟩] : List V3) 1).b) + dy)) && (((((findV ([⟨k, x + dx, y + dy⟩, ⟨1, hx, hy⟩] : List V3) 0).a + (findV ([⟨k, x + dx, y + dy⟩, ⟨1, hx, hy⟩] : List V3) 1).a) : Int) == (((findV ([⟨k, x, y⟩, ⟨1, hx, hy⟩] : List V3) 0).a + (findV ([⟨k, x, y⟩, ⟨1, hx, hy⟩] : List V3) 1).a) + dx)) && ((((findV ([⟨k, x + dx, y + dy⟩, ⟨1, hx, hy⟩] : List V3) 0).b + (findV ([⟨k, x + dx, y + dy⟩, ⟨1, hx, hy⟩] : List V3) 1).b) : Int) == (((findV ([⟨k, x, y⟩, ⟨1, hx, hy⟩] : List V3) 0).b + (findV ([⟨k, x, y⟩, ⟨1, hx, hy⟩] : List V3) 1).b) + dy))))) : Value) = .bool true ∧ Keep Nn w w18
    refine ⟨congrArg Value.bool ?_, hk0⟩
    simp only [he0, he1, he2, he3, hf0, hf1, hf2, hf3]
    simp
    omega
 ·
  refine sxleaf ?_
  have hC := (hC1i _ ⟨hM.sub (.cons_cons _ .slnil), hk0, trivial⟩)
  refine scstep rfl ?_
  refine q1 hf (MemOk.nil _) [4, 21, 19, 17, 15] [{ os := [.nw] }] (env' := fun B23 => [(4, eP B23 0), (21, eI dy), (19, eI dx), (17, .val (.agg #[iV kh, iV hx, iV hy])), (15, .val (.agg #[iV k, iV x, iV y]))]) (M' := fun B23 => [⟨B23, 62, [iV 0, iV 0, iV 0]⟩]) (ob := fun B23 => []) (fun B23 => An) ?_
  clear hf; intro a w19 B23 hf hMs hB hk; have hk : Keep Nn w1.drew w19 := hk.mono (by intro _ _ h; cases h)
  have hbB23 : w.heap.size ≤ B23 := by have := hk0.size; omega
  have hMo := hM; have hM : MemOk [⟨B1, 64, [iV k, iV x, iV y, iV kh, iV hx, iV hy, iV dx, iV dy]⟩, ⟨B23, 62, [iV 0, iV 0, iV 0]⟩] w19 := MemOk.more hM hk (by omega) (hMs.at_ _ (List.Mem.head _))
  have hk0 := hk0.trans hk.nn
  clear hk hMs hMo hB
  have hC := (hC1i _ ⟨hM.sub (.cons_cons _ (.cons _ .slnil)), hk0, trivial⟩)
  refine scdone hC ?_
  refine scstep rfl ?_
  refine q1 hf (MemOk.nil _) [3, 4, 21, 19, 17, 15] [{ os := [.nw] }] (env' := fun B24 => [(3, eP B24 0), (4, eP B23 0), (21, eI dy), (19, eI dx), (17, .val (.agg #[iV kh, iV hx, iV hy])), (15, .val (.agg #[iV k, iV x, iV y]))]) (M' := fun B24 => [⟨B24, 62, [iV 0, iV 0, iV 0]⟩]) (ob := fun B24 => []) (fun B24 => An) ?_
  clear hf; intro a w20 B24 hf hMs hB hk; have hk : Keep Nn w19 w20 := hk.mono (by intro _ _ h; cases h)
  have hbB24 : w.heap.size ≤ B24 := by have := hk0.size; omega
  have hMo := hM; have hM : MemOk [⟨B1, 64, [iV k, iV x, iV y, iV kh, iV hx, iV hy, iV dx, iV dy]⟩, ⟨B23, 62, [iV 0, iV 0, iV 0]⟩, ⟨B24, 62, [iV 0, iV 0, iV 0]⟩] w20 := MemOk.more hM hk (by omega) (hMs.at_ _ (List.Mem.head _))
  have hk0 := hk0.trans hk.nn
  clear hk hMs hMo hB
  have hC := (hC1i _ ⟨hM.sub (.cons_cons _ (.cons _ (.cons _ .slnil))), hk0, trivial⟩)
  refine scdone hC ?_
  refine scstep rfl ?_
  have hMs : MemOk [⟨B24, 62, [iV 0, iV 0, iV 0]⟩] w20 := hM.sub (.cons _ (.cons _ (.cons_cons _ .slnil)))
  refine q1 hf hMs [3, 4, 21, 19, 17] [{ os := [.st 0 0, .st 0 1, .st 0 2] }] (env' := fun B25 => [(3, eP B24 0), (4, eP B23 0), (21, eI dy), (19, eI dx), (17, .val (.agg #[iV kh, iV hx, iV hy]))]) (M' := fun B25 => [⟨B24, 62, [iV k, iV x, iV y]⟩]) (ob := fun B25 => [Ad B24 0, Ad B24 1, Ad B24 2]) (fun B25 => (Ac (ad _ _) (Ac (ad _ _) (Ao (ad _ _))))) ?_
  clear hf hMs; intro a w21 B25 hf hMs hB hk; clear hB
  have hM : MemOk [⟨B1, 64, [iV k, iV x, iV y, iV kh, iV hx, iV hy, iV dx, iV dy]⟩, ⟨B23, 62, [iV 0, iV 0, iV 0]⟩, ⟨B24, 62, [iV k, iV x, iV y]⟩] w21 := MemOk.upd (M1 := [⟨B1, 64, [iV k, iV x, iV y, iV kh, iV hx, iV hy, iV dx, iV dy]⟩, ⟨B23, 62, [iV 0, iV 0, iV 0]⟩]) (M2 := []) hM hk hMs rfl
  have hk0 := hk0.then hk (by intro i hi h; simp only [Is, Mem.names, List.map_cons, List.map_nil, List.mem_cons, List.not_mem_nil, or_false] at h; omega)
  clear hk hMs
  have hC := (hC1i _ ⟨hM.sub (.cons_cons _ (.cons _ (.cons _ .slnil))), hk0, trivial⟩)
  refine scdone hC ?_
  refine scstep rfl ?_
  have hMs : MemOk [⟨B23, 62, [iV 0, iV 0, iV 0]⟩] w21 := hM.sub (.cons _ (.cons_cons _ (.cons _ .slnil)))
  refine q1 hf hMs [3, 4, 21, 19] [{ os := [.st 0 0, .st 0 1, .st 0 2] }] (env' := fun B26 => [(3, eP B24 0), (4, eP B23 0), (21, eI dy), (19, eI dx)]) (M' := fun B26 => [⟨B23, 62, [iV kh, iV hx, iV hy]⟩]) (ob := fun B26 => [Ad B23 0, Ad B23 1, Ad B23 2]) (fun B26 => (Ac (ad _ _) (Ac (ad _ _) (Ao (ad _ _))))) ?_
  clear hf hMs; intro a w22 B26 hf hMs hB hk; clear hB
  have hM : MemOk [⟨B1, 64, [iV k, iV x, iV y, iV kh, iV hx, iV hy, iV dx, iV dy]⟩, ⟨B23, 62, [iV kh, iV hx, iV hy]⟩, ⟨B24, 62, [iV k, iV x, iV y]⟩] w22 := MemOk.upd (M1 := [⟨B1, 64, [iV k, iV x, iV y, iV kh, iV hx, iV hy, iV dx, iV dy]⟩]) (M2 := [⟨B24, 62, [iV k, iV x, iV y]⟩]) hM hk hMs rfl
  have hk0 := hk0.then hk (by intro i hi h; simp only [Is, Mem.names, List.map_cons, List.map_nil, List.mem_cons, List.not_mem_nil, or_false] at h; omega)
  clear hk hMs
  have hC := (hC1i _ ⟨hM.sub (.cons_cons _ (.cons _ (.cons _ .slnil))), hk0, trivial⟩)
  refine scdone hC ?_
  refine qd hf hC (fun w' h => (hC1e w' h).1) [6, 5, 3, 4] [{}, {}] (env' := [(6, eI dy), (5, eI dx), (3, eP B24 0), (4, eP B23 0)]) (ob := []) An ?_
  clear hf; intro a hf
  clear hC
  show K2 _ _
  refine hK2 _ _ ?_
  refine wp_seq_k (fun K17 hK17 => ?_)
  refine wp_seq_k (fun K18 hK18 => ?_)
  refine wp_region_lit ?_
  refine sxcall hf rfl rfl rfl rfl (g := 29) (vs := []) (ob := []) (by as_aux_lemma => kernel_rfl) An enters29 (alive6 E w22  (hG.keep hk0 (fun _ h => h))) ?_
  clear hf; rintro _ w23 a ⟨rfl, hk⟩ hf
  have hM := hM.keepNn hk
  have hk0 := hk0.trans hk.nn
  clear hk
  refine q0 hf hM [23, 6, 5, 3, 4] [{}] (env' := [(23, eB false), (6, eI dy), (5, eI dx), (3, eP B24 0), (4, eP B23 0)]) (ob := []) An ?_
  clear hf; intro a hf
  refine wpList_nil ?_
  refine hK18 _ _ ?_
  refine sxcond hf (b := false) (by kernel_rfl) (fun h => by cases h) (fun _ => ?_)
  refine wp_skip ?_
  refine hK17 _ _ ?_
  refine wp_seq_k (fun K19 hK19 => ?_)
  refine wp_region_lit ?_
  refine q0 hf hM [27, 26, 25, 6, 5, 3, 4] [{ os := [.ld 2 0, .ld 2 1, .ld 2 2] }, {}, {}] (env' := [(27, eI dy), (26, eI dx), (25, .val (.agg #[iV k, iV x, iV y])), (6, eI dy), (5, eI dx), (3, eP B24 0), (4, eP B23 0)]) (ob := [Ad B24 0, Ad B24 1, Ad B24 2]) (Ac (ad _ _) (Ac (ad _ _) (Ao (ad _ _)))) ?_
  clear hf; intro a hf
  refine sxcall hf rfl rfl rfl rfl (g := 30) (vs := [.agg #[iV k, iV x, iV y], iV dx, iV dy]) (ob := []) (by as_aux_lemma => kernel_rfl) An enters30 (smv_ok E k x y dx dy w23 hn0 hn1 hn2 (by omega) (by omega) (hG.keep hk0 (fun _ h => h))) ?_
  clear hf; rintro _ w24 a ⟨rfl, hk⟩ hf
  have hM := hM.keepNn hk
  have hk0 := hk0.trans hk.nn
  clear hk
  refine q1 hf hM [8, 7, 6, 5, 3, 4] [{}, {}, {}, { os := [.nw] }, { os := [.st 3 0, .st 3 1, .st 3 2] }, {}] (env' := fun B29 => [(8, .val (.nilIface)), (7, eP B29 0), (6, eI dy), (5, eI dx), (3, eP B24 0), (4, eP B23 0)]) (M' := fun B29 => [⟨B1, 64, [iV k, iV x, iV y, iV kh, iV hx, iV hy, iV dx, iV dy]⟩, ⟨B23, 62, [iV kh, iV hx, iV hy]⟩, ⟨B24, 62, [iV k, iV x, iV y]⟩, ⟨B29, 62, [iV k, iV (x + dx), iV (y + dy)]⟩]) (ob := fun B29 => [Ad B29 0, Ad B29 1, Ad B29 2]) (fun B29 => (Ac (ad _ _) (Ac (ad _ _) (Ao (ad _ _))))) ?_
  clear hf hM; intro a w25 B29 hf hM hB hk
  have hbB29 : w.heap.size ≤ B29 := by have := hk0.size; omega
  have hk0 := hk0.then hk (by intro i hi h; simp only [Is, Mem.names, List.map_cons, List.map_nil, List.mem_cons, List.not_mem_nil, or_false] at h; omega)
  clear hk hB
  refine wpList_nil ?_
  refine hK19 _ _ ?_
  refine wp_seq_k (fun K20 hK20 => ?_)
  refine wp_seq_k (fun K21 hK21 => ?_)
  refine wp_region_lit ?_
  refine q0 hf hM [32, 7, 6, 5, 3, 4] [{}, {}] (env' := [(32, eB false), (7, eP B29 0), (6, eI dy), (5, eI dx), (3, eP B24 0), (4, eP B23 0)]) (ob := []) An ?_
  clear hf; intro a hf
  refine wpList_nil ?_
  refine hK21 _ _ ?_
  refine sxcond hf (b := false) (by kernel_rfl) (fun h => by cases h) (fun _ => ?_)
  refine wp_skip ?_
  refine hK20 _ _ ?_
  refine wp_seq_k (fun K22 hK22 => ?_)
  refine wp_region_lit ?_
  refine q0 hf hM [41, 39, 37, 7, 6, 5, 3, 4] [{ os := [.ld 3 0, .ld 3 1, .ld 3 2] }, {}, { hint := some (iV (0 - dx)) }, {}, { hint := some (iV (0 - dy)) }] (env' := [(41, eI (0 - dy)), (39, eI (0 - dx)), (37, .val (.agg #[iV k, iV (x + dx), iV (y + dy)])), (7, eP B29 0), (6, eI dy), (5, eI dx), (3, eP B24 0), (4, eP B23 0)]) (ob := [Ad B29 0, Ad B29 1, Ad B29 2, (iV (IntKind.i64.wrap (0 - dx)) : Value) = (iV (0 - dx) : Value), (iV (IntKind.i64.wrap (0 - dy)) : Value) = (iV (0 - dy) : Value)]) (Ac (ad _ _) (Ac (ad _ _) (Ac (ad _ _) (Ac (wr (by omega)) (Ao (wr (by omega))))))) ?_
  clear hf; intro a hf
  refine sxcall hf rfl rfl rfl rfl (g := 30) (vs := [.agg #[iV k, iV (x + dx), iV (y + dy)], iV (0 - dx), iV (0 - dy)]) (ob := []) (by as_aux_lemma => kernel_rfl) An enters30 (smv_ok E k (x + dx) (y + dy) (0 - dx) (0 - dy) w25 hp2 hi2 hv2 (by omega) (by omega) (hG.keep hk0 (fun _ h => h))) ?_
  clear hf; rintro _ w26 a ⟨rfl, hk⟩ hf
  have hM := hM.keepNn hk
  have hk0 := hk0.trans hk.nn
  clear hk
  refine q1 hf hM [8, 9, 7, 6, 5, 3, 4] [{}, {}, {}, { os := [.nw] }, { os := [.st 4 0, .st 4 1, .st 4 2] }, {}] (env' := fun B32 => [(8, .val (.nilIface)), (9, eP B32 0), (7, eP B29 0), (6, eI dy), (5, eI dx), (3, eP B24 0), (4, eP B23 0)]) (M' := fun B32 => [⟨B1, 64, [iV k, iV x, iV y, iV kh, iV hx, iV hy, iV dx, iV dy]⟩, ⟨B23, 62, [iV kh, iV hx, iV hy]⟩, ⟨B24, 62, [iV k, iV x, iV y]⟩, ⟨B29, 62, [iV k, iV (x + dx), iV (y + dy)]⟩, ⟨B32, 62, [iV k, iV ((x + dx) + (0 - dx)), iV ((y + dy) + (0 - dy))]⟩]) (ob := fun B32 => [Ad B32 0, Ad B32 1, Ad B32 2]) (fun B32 => (Ac (ad _ _) (Ac (ad _ _) (Ao (ad _ _))))) ?_
  clear hf hM; intro a w27 B32 hf hM hB hk
  have hbB32 : w.heap.size ≤ B32 := by have := hk0.size; omega
  have hk0 := hk0.then hk (by intro i hi h; simp only [Is, Mem.names, List.map_cons, List.map_nil, List.mem_cons, List.not_mem_nil, or_false] at h; omega)
  clear hk hB
  refine wpList_nil ?_
  refine hK22 _ _ ?_
  refine wp_seq_k (fun K23 hK23 => ?_)
  refine wp_seq_k (fun K24 hK24 => ?_)
  refine wp_region_lit ?_
  refine q0 hf hM [51, 7, 6, 5, 3, 4] [{}, {}, {}, { os := [.ld 4 0, .ld 4 1, .ld 4 2] }, { os := [.ld 2 0, .ld 2 1, .ld 2 2] }, { sp := true, hint := some (bV (!(((((x + dx) + (0 - dx)) : Int) == x) && ((((y + dy) + (0 - dy)) : Int) == y)))) }, {}] (env' := [(51, eB (!(((((x + dx) + (0 - dx)) : Int) == x) && ((((y + dy) + (0 - dy)) : Int) == y)))), (7, eP B29 0), (6, eI dy), (5, eI dx), (3, eP B24 0), (4, eP B23 0)]) (ob := [false = false, Ad B32 0, Ad B32 1, Ad B32 2, false = false, Ad B24 0, Ad B24 1, Ad B24 2, false = false, (bV (!(((k : Int) == k) && (((((x + dx) + (0 - dx)) : Int) == x) && (((((y + dy) + (0 - dy)) : Int) == y) && true)))) : Value) = (bV (!(((((x + dx) + (0 - dx)) : Int) == x) && ((((y + dy) + (0 - dy)) : Int) == y))) : Value)]) (Ac rfl (Ac (ad _ _) (Ac (ad _ _) (Ac (ad _ _) (Ac rfl (Ac (ad _ _) (Ac (ad _ _) (Ac (ad _ _) (Ac rfl (Ao (by simp))))))))))) ?_
  clear hf; intro a hf
  refine wpList_nil ?_
  refine hK24 _ _ ?_
  refine qc hf (b := (!(((((x + dx) + (0 - dx)) : Int) == x) && ((((y + dy) + (0 - dy)) : Int) == y)))) (fun hc7r => ?_) (fun hc7r => ?_)
  · have hc7 := hc7r
    exfalso; simp at hc7; omega
  · have hc7 := hc7r
    refine wp_skip ?_
    refine hK23 _ _ ?_
    refine wp_seq_k (fun K25 hK25 => ?_)
    refine wp_region_lit ?_
    refine q1 hf hM [7, 6, 5, 3, 4] [{}, { os := [.st 1 0] }] (env' := fun B34 => [(7, eP B29 0), (6, eI dy), (5, eI dx), (3, eP B24 0), (4, eP B23 0)]) (M' := fun B34 => [⟨B1, 64, [iV k, iV x, iV y, iV kh, iV hx, iV hy, iV dx, iV dy]⟩, ⟨B23, 62, [iV 1, iV hx, iV hy]⟩, ⟨B24, 62, [iV k, iV x, iV y]⟩, ⟨B29, 62, [iV k, iV (x + dx), iV (y + dy)]⟩, ⟨B32, 62, [iV k, iV ((x + dx) + (0 - dx)), iV ((y + dy) + (0 - dy))]⟩]) (ob := fun B34 => [Ad B23 0]) (fun B34 => (Ao (ad _ _))) ?_
    clear hf hM; intro a w28 B34 hf hM hB hk
    have hbB34 : w.heap.size ≤ B34 := by have := hk0.size; omega
    have hk0 := hk0.then hk (by intro i hi h; simp only [Is, Mem.names, List.map_cons, List.map_nil, List.mem_cons, List.not_mem_nil, or_false] at h; omega)
    clear hk hB
    refine wpList_nil ?_
    refine hK25 _ _ ?_
    refine wp_seq_k (fun K26 hK26 => ?_)
    refine wp_seq_k (fun K27 hK27 => ?_)
    refine wp_region_lit ?_
    refine q0 hf hM [53, 7, 6, 5, 3, 4] [{ os := [.ld 1 0, .ld 1 1, .ld 1 2] }] (env' := [(53, .val (.agg #[iV 1, iV hx, iV hy])), (7, eP B29 0), (6, eI dy), (5, eI dx), (3, eP B24 0), (4, eP B23 0)]) (ob := [Ad B23 0, Ad B23 1, Ad B23 2]) (Ac (ad _ _) (Ac (ad _ _) (Ao (ad _ _)))) ?_
    clear hf; intro a hf
    refine sxcall hf rfl rfl rfl rfl (g := 31) (vs := [.agg #[iV 1, iV hx, iV hy]]) (ob := []) (by as_aux_lemma => kernel_rfl) An enters31 (scheck_ok E 1 hx hy w28 hkh hn3 (hG.keep hk0 (fun _ h => h))) ?_
    clear hf; rintro _ w29 a ⟨rfl, hk⟩ hf
    have hM := hM.keepNn hk
    have hk0 := hk0.trans hk.nn
    clear hk
    refine q0 hf hM [55, 7, 6, 5, 3, 4] [{}] (env' := [(55, eB false), (7, eP B29 0), (6, eI dy), (5, eI dx), (3, eP B24 0), (4, eP B23 0)]) (ob := []) An ?_
    clear hf; intro a hf
    refine wpList_nil ?_
    refine hK27 _ _ ?_
    refine sxcond hf (b := false) (by kernel_rfl) (fun h => by cases h) (fun _ => ?_)
    refine wp_skip ?_
    refine hK26 _ _ ?_
    refine wp_seq_k (fun K28 hK28 => ?_)
    refine wp_region_lit ?_
    refine q0 hf hM [58, 57, 7, 6, 5, 4] [{ os := [.ld 2 0, .ld 2 1, .ld 2 2] }, { os := [.ld 1 0, .ld 1 1, .ld 1 2] }] (env' := [(58, .val (.agg #[iV 1, iV hx, iV hy])), (57, .val (.agg #[iV k, iV x, iV y])), (7, eP B29 0), (6, eI dy), (5, eI dx), (4, eP B23 0)]) (ob := [Ad B24 0, Ad B24 1, Ad B24 2, Ad B23 0, Ad B23 1, Ad B23 2]) (Ac (ad _ _) (Ac (ad _ _) (Ac (ad _ _) (Ac (ad _ _) (Ac (ad _ _) (Ao (ad _ _))))))) ?_
    clear hf; intro a hf
    refine sxbslice hf hM (t := 23) (e := 62) (len := 2) (cs := [iV k, iV x, iV y, iV 1, iV hx, iV hy]) (ob := []) rfl rfl rfl rfl (by as_aux_lemma => kernel_rfl) An (by as_aux_lemma => kernel_rfl) ?_
    clear hf hM; intro a w30 B38 hf hM hB hk
    replace hM : MemOk [⟨B1, 64, [iV k, iV x, iV y, iV kh, iV hx, iV hy, iV dx, iV dy]⟩, ⟨B23, 62, [iV 1, iV hx, iV hy]⟩, ⟨B24, 62, [iV k, iV x, iV y]⟩, ⟨B29, 62, [iV k, iV (x + dx), iV (y + dy)]⟩, ⟨B32, 62, [iV k, iV ((x + dx) + (0 - dx)), iV ((y + dy) + (0 - dy))]⟩, ⟨B38, 62, [iV k, iV x, iV y, iV 1, iV hx, iV hy]⟩] w30 := hM
    have hbB38 : w.heap.size ≤ B38 := by have := hk0.size; omega
    have hk0 := hk0.trans hk.nn
    clear hk hB
    refine sxcall hf rfl rfl rfl rfl (g := 32) (vs := [.slice (some ⟨B38, 0, none⟩) ([⟨k, x, y⟩, ⟨1, hx, hy⟩] : List V3).length 2]) (ob := []) (by as_aux_lemma => kernel_rfl) An enters32 (sbox_ok E (some ⟨B38, 0, none⟩) ([⟨k, x, y⟩, ⟨1, hx, hy⟩] : List V3) 2 w30 hbx1 (Arr.of_memT (sz := 3) (f := fV) (L := ([⟨k, x, y⟩, ⟨1, hx, hy⟩] : List V3)) (l := ([⟨k, x, y⟩, ⟨1, hx, hy⟩] : List V3)) hM (List.Mem.tail _ (List.Mem.tail _ (List.Mem.tail _ (List.Mem.tail _ (List.Mem.tail _ (List.Mem.head _)))))) (fun _ => rfl) rfl rfl) (by first | omega | (simp; omega) | (simp; done) | exact Nat.le_trans (byKinds_len _ _) (by omega) | decide) (hG.keep hk0 (fun _ h => h))) ?_
    clear hf; rintro _ w31 a ⟨rfl, hk⟩ hf
    have hM := hM.keepNn hk
    have hk0 := hk0.trans hk.nn
    clear hk
    refine q1 hf hM [11, 10, 7, 6, 5, 4] [{}, {}, {}, { os := [.nw] }, { os := [.st 6 0, .st 6 1, .st 6 2, .st 6 3] }, {}] (env' := fun B39 => [(11, eB true), (10, eP B39 0), (7, eP B29 0), (6, eI dy), (5, eI dx), (4, eP B23 0)]) (M' := fun B39 => [⟨B1, 64, [iV k, iV x, iV y, iV kh, iV hx, iV hy, iV dx, iV dy]⟩, ⟨B23, 62, [iV 1, iV hx, iV hy]⟩, ⟨B24, 62, [iV k, iV x, iV y]⟩, ⟨B29, 62, [iV k, iV (x + dx), iV (y + dy)]⟩, ⟨B32, 62, [iV k, iV ((x + dx) + (0 - dx)), iV ((y + dy) + (0 - dy))]⟩, ⟨B38, 62, [iV k, iV x, iV y, iV 1, iV hx, iV hy]⟩, ⟨B39, 50, [iV ((findV ([⟨k, x, y⟩, ⟨1, hx, hy⟩] : List V3) 0).a - (findV ([⟨k, x, y⟩, ⟨1, hx, hy⟩] : List V3) 1).a), iV ((findV ([⟨k, x, y⟩, ⟨1, hx, hy⟩] : List V3) 0).b - (findV ([⟨k, x, y⟩, ⟨1, hx, hy⟩] : List V3) 1).b), iV ((findV ([⟨k, x, y⟩, ⟨1, hx, hy⟩] : List V3) 0).a + (findV ([⟨k, x, y⟩, ⟨1, hx, hy⟩] : List V3) 1).a), iV ((findV ([⟨k, x, y⟩, ⟨1, hx, hy⟩] : List V3) 0).b + (findV ([⟨k, x, y⟩, ⟨1, hx, hy⟩] : List V3) 1).b)]⟩]) (ob := fun B39 => [Ad B39 0, Ad B39 1, Ad B39 2, Ad B39 3]) (fun B39 => (Ac (ad _ _) (Ac (ad _ _) (Ac (ad _ _) (Ao (ad _ _)))))) ?_
    clear hf hM; intro a w32 B39 hf hM hB hk
    have hbB39 : w.heap.size ≤ B39 := by have := hk0.size; omega
    have hk0 := hk0.then hk (by intro i hi h; simp only [Is, Mem.names, List.map_cons, List.map_nil, List.mem_cons, List.not_mem_nil, or_false] at h; omega)
    clear hk hB
    refine wpList_nil ?_
    refine hK28 _ _ ?_
    refine wp_seq_k (fun K29 hK29 => ?_)
    refine wp_region_lit ?_
    refine q0 hf hM [65, 64, 11, 10, 6, 5] [{ os := [.ld 3 0, .ld 3 1, .ld 3 2] }, { os := [.ld 1 0, .ld 1 1, .ld 1 2] }] (env' := [(65, .val (.agg #[iV 1, iV hx, iV hy])), (64, .val (.agg #[iV k, iV (x + dx), iV (y + dy)])), (11, eB true), (10, eP B39 0), (6, eI dy), (5, eI dx)]) (ob := [Ad B29 0, Ad B29 1, Ad B29 2, Ad B23 0, Ad B23 1, Ad B23 2]) (Ac (ad _ _) (Ac (ad _ _) (Ac (ad _ _) (Ac (ad _ _) (Ac (ad _ _) (Ao (ad _ _))))))) ?_
    clear hf; intro a hf
    refine sxbslice hf hM (t := 23) (e := 62) (len := 2) (cs := [iV k, iV (x + dx), iV (y + dy), iV 1, iV hx, iV hy]) (ob := []) rfl rfl rfl rfl (by as_aux_lemma => kernel_rfl) An (by as_aux_lemma => kernel_rfl) ?_
    clear hf hM; intro a w33 B41 hf hM hB hk
    replace hM : MemOk [⟨B1, 64, [iV k, iV x, iV y, iV kh, iV hx, iV hy, iV dx, iV dy]⟩, ⟨B23, 62, [iV 1, iV hx, iV hy]⟩, ⟨B24, 62, [iV k, iV x, iV y]⟩, ⟨B29, 62, [iV k, iV (x + dx), iV (y + dy)]⟩, ⟨B32, 62, [iV k, iV ((x + dx) + (0 - dx)), iV ((y + dy) + (0 - dy))]⟩, ⟨B38, 62, [iV k, iV x, iV y, iV 1, iV hx, iV hy]⟩, ⟨B39, 50, [iV ((findV ([⟨k, x, y⟩, ⟨1, hx, hy⟩] : List V3) 0).a - (findV ([⟨k, x, y⟩, ⟨1, hx, hy⟩] : List V3) 1).a), iV ((findV ([⟨k, x, y⟩, ⟨1, hx, hy⟩] : List V3) 0).b - (findV ([⟨k, x, y⟩, ⟨1, hx, hy⟩] : List V3) 1).b), iV ((findV ([⟨k, x, y⟩, ⟨1, hx, hy⟩] : List V3) 0).a + (findV ([⟨k, x, y⟩, ⟨1, hx, hy⟩] : List V3) 1).a), iV ((findV ([⟨k, x, y⟩, ⟨1, hx, hy⟩] : List V3) 0).b + (findV ([⟨k, x, y⟩, ⟨1, hx, hy⟩] : List V3) 1).b)]⟩, ⟨B41, 62, [iV k, iV (x + dx), iV (y + dy), iV 1, iV hx, iV hy]⟩] w33 := hM
    have hbB41 : w.heap.size ≤ B41 := by have := hk0.size; omega
    have hk0 := hk0.trans hk.nn
    clear hk hB
    refine sxcall hf rfl rfl rfl rfl (g := 32) (vs := [.slice (some ⟨B41, 0, none⟩) ([⟨k, x + dx, y + dy⟩, ⟨1, hx, hy⟩] : List V3).length 2]) (ob := []) (by as_aux_lemma => kernel_rfl) An enters32 (sbox_ok E (some ⟨B41, 0, none⟩) ([⟨k, x + dx, y + dy⟩, ⟨1, hx, hy⟩] : List V3) 2 w33 hbx2 (Arr.of_memT (sz := 3) (f := fV) (L := ([⟨k, x + dx, y + dy⟩, ⟨1, hx, hy⟩] : List V3)) (l := ([⟨k, x + dx, y + dy⟩, ⟨1, hx, hy⟩] : List V3)) hM (List.Mem.tail _ (List.Mem.tail _ (List.Mem.tail _ (List.Mem.tail _ (List.Mem.tail _ (List.Mem.tail _ (List.Mem.tail _ (List.Mem.head _)))))))) (fun _ => rfl) rfl rfl) (by first | omega | (simp; omega) | (simp; done) | exact Nat.le_trans (byKinds_len _ _) (by omega) | decide) (hG.keep hk0 (fun _ h => h))) ?_
    clear hf; rintro _ w34 a ⟨rfl, hk⟩ hf
    have hM := hM.keepNn hk
    have hk0 := hk0.trans hk.nn
    clear hk
    refine q1 hf hM [13, 12, 11, 10, 6, 5] [{}, {}, {}, { os := [.nw] }, { os := [.st 8 0, .st 8 1, .st 8 2, .st 8 3] }, {}] (env' := fun B42 => [(13, eB true), (12, eP B42 0), (11, eB true), (10, eP B39 0), (6, eI dy), (5, eI dx)]) (M' := fun B42 => [⟨B1, 64, [iV k, iV x, iV y, iV kh, iV hx, iV hy, iV dx, iV dy]⟩, ⟨B23, 62, [iV 1, iV hx, iV hy]⟩, ⟨B24, 62, [iV k, iV x, iV y]⟩, ⟨B29, 62, [iV k, iV (x + dx), iV (y + dy)]⟩, ⟨B32, 62, [iV k, iV ((x + dx) + (0 - dx)), iV ((y + dy) + (0 - dy))]⟩, ⟨B38, 62, [iV k, iV x, iV y, iV 1, iV hx, iV hy]⟩, ⟨B39, 50, [iV ((findV ([⟨k, x, y⟩, ⟨1, hx, hy⟩] : List V3) 0).a - (findV ([⟨k, x, y⟩, ⟨1, hx, hy⟩] : List V3) 1).a), iV ((findV ([⟨k, x, y⟩, ⟨1, hx, hy⟩] : List V3) 0).b - (findV ([⟨k, x, y⟩, ⟨1, hx, hy⟩] : List V3) 1).b), iV ((findV ([⟨k, x, y⟩, ⟨1, hx, hy⟩] : List V3) 0).a + (findV ([⟨k, x, y⟩, ⟨1, hx, hy⟩] : List V3) 1).a), iV ((findV ([⟨k, x, y⟩, ⟨1, hx, hy⟩] : List V3) 0).b + (findV ([⟨k, x, y⟩, ⟨1, hx, hy⟩] : List V3) 1).b)]⟩, ⟨B41, 62, [iV k, iV (x + dx), iV (y + dy), iV 1, iV hx, iV hy]⟩, ⟨B42, 50, [iV ((findV ([⟨k, x + dx, y + dy⟩, ⟨1, hx, hy⟩] : List V3) 0).a - (findV ([⟨k, x + dx, y + dy⟩, ⟨1, hx, hy⟩] : List V3) 1).a), iV ((findV ([⟨k, x + dx, y + dy⟩, ⟨1, hx, hy⟩] : List V3) 0).b - (findV ([⟨k, x + dx, y + dy⟩, ⟨1, hx, hy⟩] : List V3) 1).b), iV ((findV ([⟨k, x + dx, y + dy⟩, ⟨1, hx, hy⟩] : List V3) 0).a + (findV ([⟨k, x + dx, y + dy⟩, ⟨1, hx, hy⟩] : List V3) 1).a), iV ((findV ([⟨k, x + dx, y + dy⟩, ⟨1, hx, hy⟩] : List V3) 0).b + (findV ([⟨k, x + dx, y + dy⟩, ⟨1, hx, hy⟩] : List V3) 1).b)]⟩]) (ob := fun B42 => [Ad B42 0, Ad B42 1, Ad B42 2, Ad B42 3]) (fun B42 => (Ac (ad _ _) (Ac (ad _ _) (Ac (ad _ _) (Ao (ad _ _)))))) ?_
    clear hf hM; intro a w35 B42 hf hM hB hk
    have hbB42 : w.heap.size ≤ B42 := by have := hk0.size; omega
    have hk0 := hk0.then hk (by intro i hi h; simp only [Is, Mem.names, List.map_cons, List.map_nil, List.mem_cons, List.not_mem_nil, or_false] at h; omega)
    clear hk hB
    refine wpList_nil ?_
    refine hK29 _ _ ?_
    refine wp_seq_k (fun K30 hK30 => ?_)
    refine wp_region_lit ?_
    refine q0 hf hM [2] [{}, {}, {}, {}, {}, { os := [.ld 8 0, .ld 8 1, .ld 8 2, .ld 8 3] }, {}, { os := [.ld 6 0] }, {}, { hint := some (iV (((findV ([⟨k, x, y⟩, ⟨1, hx, hy⟩] : List V3) 0).a - (findV ([⟨k, x, y⟩, ⟨1, hx, hy⟩] : List V3) 1).a) + dx)) }, {}, { os := [.ld 6 1] }, {}, { hint := some (iV (((findV ([⟨k, x, y⟩, ⟨1, hx, hy⟩] : List V3) 0).b - (findV ([⟨k, x, y⟩, ⟨1, hx, hy⟩] : List V3) 1).b) + dy)) }, {}, { os := [.ld 6 2] }, {}, { hint := some (iV (((findV ([⟨k, x, y⟩, ⟨1, hx, hy⟩] : List V3) 0).a + (findV ([⟨k, x, y⟩, ⟨1, hx, hy⟩] : List V3) 1).a) + dx)) }, {}, { os := [.ld 6 3] }, {}, { hint := some (iV (((findV ([⟨k, x, y⟩, ⟨1, hx, hy⟩] : List V3) 0).b + (findV ([⟨k, x, y⟩, ⟨1, hx, hy⟩] : List V3) 1).b) + dy)) }, { sp := true }, { sp := true, hint := some (bV (((((findV ([⟨k, x + dx, y + dy⟩, ⟨1, hx, hy⟩] : List V3) 0).a - (findV ([⟨k, x + dx, y + dy⟩, ⟨1, hx, hy⟩] : List V3) 1).a) : Int) == (((findV ([⟨k, x, y⟩, ⟨1, hx, hy⟩] : List V3) 0).a - (findV ([⟨k, x, y⟩, ⟨1, hx, hy⟩] : List V3) 1).a) + dx)) && (((((findV ([⟨k, x + dx, y + dy⟩, ⟨1, hx, hy⟩] : List V3) 0).b - (findV ([⟨k, x + dx, y + dy⟩, ⟨1, hx, hy⟩] : List V3) 1).b) : Int) == (((findV ([⟨k, x, y⟩, ⟨1, hx, hy⟩] : List V3) 0).b - (findV ([⟨k, x, y⟩, ⟨1, hx, hy⟩] : List V3) 1).b) + dy)) && (((((findV ([⟨k, x + dx, y + dy⟩, ⟨1, hx, hy⟩] : List V3) 0).a + (findV ([⟨k, x + dx, y + dy⟩, ⟨1, hx, hy⟩] : List V3) 1).a) : Int) == (((findV ([⟨k, x, y⟩, ⟨1, hx, hy⟩] : List V3) 0).a + (findV ([⟨k, x, y⟩, ⟨1, hx, hy⟩] : List V3) 1).a) + dx)) && ((((findV ([⟨k, x + dx, y + dy⟩, ⟨1, hx, hy⟩] : List V3) 0).b + (findV ([⟨k, x + dx, y + dy⟩, ⟨1, hx, hy⟩] : List V3) 1).b) : Int) == (((findV ([⟨k, x, y⟩, ⟨1, hx, hy⟩] : List V3) 0).b + (findV ([⟨k, x, y⟩, ⟨1, hx, hy⟩] : List V3) 1).b) + dy)))))) }, {}, {}] (env' := [(2, eB (((((findV ([⟨k, x + dx, y + dy⟩, ⟨1, hx, hy⟩] : List V3) 0).a - (findV ([⟨k, x + dx, y + dy⟩, ⟨1, hx, hy⟩] : List V3) 1).a) : Int) == (((findV ([⟨k, x, y⟩, ⟨1, hx, hy⟩] : List V3) 0).a - (findV ([⟨k, x, y⟩, ⟨1, hx, hy⟩] : List V3) 1).a) + dx)) && (((((findV ([⟨k, x + dx, y + dy⟩, ⟨1, hx, hy⟩] : List V3) 0).b - (findV ([⟨k, x + dx, y + dy⟩, ⟨1, hx, hy⟩] : List V3) 1).b) : Int) == (((findV ([⟨k, x, y⟩, ⟨1, hx, hy⟩] : List V3) 0).b - (findV ([⟨k, x, y⟩, ⟨1, hx, hy⟩] : List V3) 1).b) + dy)) && (((((findV ([⟨k, x + dx, y + dy⟩, ⟨1, hx, hy⟩] : List V3) 0).a + (findV ([⟨k, x + dx, y + dy⟩, ⟨1, hx, hy⟩] : List V3) 1).a) : Int) == (((findV ([⟨k, x, y⟩, ⟨1, hx, hy⟩] : List V3) 0).a + (findV ([⟨k, x, y⟩, ⟨1, hx, hy⟩] : List V3) 1).a) + dx)) && ((((findV ([⟨k, x + dx, y + dy⟩, ⟨1, hx, hy⟩] : List V3) 0).b + (findV ([⟨k, x + dx, y + dy⟩, ⟨1, hx, hy⟩] : List V3) 1).b) : Int) == (((findV ([⟨k, x, y⟩, ⟨1, hx, hy⟩] : List V3) 0).b + (findV ([⟨k, x, y⟩, ⟨1, hx, hy⟩] : List V3) 1).b) + dy))))))]) (ob := [true = true, true = true, Ad B42 0, Ad B42 1, Ad B42 2, Ad B42 3, true = true, true = true, Ad B39 0, true = true, true = true, (iV (IntKind.i64.wrap (((findV ([⟨k, x, y⟩, ⟨1, hx, hy⟩] : List V3) 0).a - (findV ([⟨k, x, y⟩, ⟨1, hx, hy⟩] : List V3) 1).a) + dx)) : Value) = (iV (((findV ([⟨k, x, y⟩, ⟨1, hx, hy⟩] : List V3) 0).a - (findV ([⟨k, x, y⟩, ⟨1, hx, hy⟩] : List V3) 1).a) + dx) : Value), true = true, true = true, Ad B39 1, true = true, true = true, (iV (IntKind.i64.wrap (((findV ([⟨k, x, y⟩, ⟨1, hx, hy⟩] : List V3) 0).b - (findV ([⟨k, x, y⟩, ⟨1, hx, hy⟩] : List V3) 1).b) + dy)) : Value) = (iV (((findV ([⟨k, x, y⟩, ⟨1, hx, hy⟩] : List V3) 0).b - (findV ([⟨k, x, y⟩, ⟨1, hx, hy⟩] : List V3) 1).b) + dy) : Value), true = true, true = true, Ad B39 2, true = true, true = true, (iV (IntKind.i64.wrap (((findV ([⟨k, x, y⟩, ⟨1, hx, hy⟩] : List V3) 0).a + (findV ([⟨k, x, y⟩, ⟨1, hx, hy⟩] : List V3) 1).a) + dx)) : Value) = (iV (((findV ([⟨k, x, y⟩, ⟨1, hx, hy⟩] : List V3) 0).a + (findV ([⟨k, x, y⟩, ⟨1, hx, hy⟩] : List V3) 1).a) + dx) : Value), true = true, true = true, Ad B39 3, true = true, true = true, (iV (IntKind.i64.wrap (((findV ([⟨k, x, y⟩, ⟨1, hx, hy⟩] : List V3) 0).b + (findV ([⟨k, x, y⟩, ⟨1, hx, hy⟩] : List V3) 1).b) + dy)) : Value) = (iV (((findV ([⟨k, x, y⟩, ⟨1, hx, hy⟩] : List V3) 0).b + (findV ([⟨k, x, y⟩, ⟨1, hx, hy⟩] : List V3) 1).b) + dy) : Value), true = true, true = true, (bV (((((findV ([⟨k, x + dx, y + dy⟩, ⟨1, hx, hy⟩] : List V3) 0).a - (findV ([⟨k, x + dx, y + dy⟩, ⟨1, hx, hy⟩] : List V3) 1).a) : Int) == (((findV ([⟨k, x, y⟩, ⟨1, hx, hy⟩] : List V3) 0).a - (findV ([⟨k, x, y⟩, ⟨1, hx, hy⟩] : List V3) 1).a) + dx)) && (((((findV ([⟨k, x + dx, y + dy⟩, ⟨1, hx, hy⟩] : List V3) 0).b - (findV ([⟨k, x + dx, y + dy⟩, ⟨1, hx, hy⟩] : List V3) 1).b) : Int) == (((findV ([⟨k, x, y⟩, ⟨1, hx, hy⟩] : List V3) 0).b - (findV ([⟨k, x, y⟩, ⟨1, hx, hy⟩] : List V3) 1).b) + dy)) && (((((findV ([⟨k, x + dx, y + dy⟩, ⟨1, hx, hy⟩] : List V3) 0).a + (findV ([⟨k, x + dx, y + dy⟩, ⟨1, hx, hy⟩] : List V3) 1).a) : Int) == (((findV ([⟨k, x, y⟩, ⟨1, hx, hy⟩] : List V3) 0).a + (findV ([⟨k, x, y⟩, ⟨1, hx, hy⟩] : List V3) 1).a) + dx)) && (((((findV ([⟨k, x + dx, y + dy⟩, ⟨1, hx, hy⟩] : List V3) 0).b + (findV ([⟨k, x + dx, y + dy⟩, ⟨1, hx, hy⟩] : List V3) 1).b) : Int) == (((findV ([⟨k, x, y⟩, ⟨1, hx, hy⟩] : List V3) 0).b + (findV ([⟨k, x, y⟩, ⟨1, hx, hy⟩] : List V3) 1).b) + dy)) && true)))) : Value) = (bV (((((findV ([⟨k, x + dx, y + dy⟩, ⟨1, hx, hy⟩] : List V3) 0).a - (findV ([⟨k, x + dx, y + dy⟩, ⟨1, hx, hy⟩] : List V3) 1).a) : Int) == (((findV ([⟨k, x, y⟩, ⟨1, hx, hy⟩] : List V3) 0).a - (findV ([⟨k, x, y⟩, ⟨1, hx, hy⟩] : List V3) 1).a) + dx)) && (((((findV ([⟨k, x + dx, y + dy⟩, ⟨1, hx, hy⟩] : List V3) 0).b - (findV ([⟨k, x + dx, y + dy⟩, ⟨1, hx, hy⟩] : List V3) 1).b) : Int) == (((findV ([⟨k, x, y⟩, ⟨1, hx, hy⟩] : List V3) 0).b - (findV ([⟨k, x, y⟩, ⟨1, hx, hy⟩] : List V3) 1).b) + dy)) && (((((findV ([⟨k, x + dx, y + dy⟩, ⟨1, hx, hy⟩] : List V3) 0).a + (findV ([⟨k, x + dx, y + dy⟩, ⟨1, hx, hy⟩] : List V3) 1).a) : Int) == (((findV ([⟨k, x, y⟩, ⟨1, hx, hy⟩] : List V3) 0).a + (findV ([⟨k, x, y⟩, ⟨1, hx, hy⟩] : List V3) 1).a) + dx)) && ((((findV ([⟨k, x + dx, y + dy⟩, ⟨1, hx, hy⟩] : List V3) 0).b + (findV ([⟨k, x + dx, y + dy⟩, ⟨1, hx, hy⟩] : List V3) 1).b) : Int) == (((findV ([⟨k, x, y⟩, ⟨1, hx, hy⟩] : List V3) 0).b + (findV ([⟨k, x, y⟩, ⟨1, hx, hy⟩] : List V3) 1).b) + dy))))) : Value)]) (Ac rfl (Ac rfl (Ac (ad _ _) (Ac (ad _ _) (Ac (ad _ _) (Ac (ad _ _) (Ac rfl (Ac rfl (Ac (ad _ _) (Ac rfl (Ac rfl (Ac (wr (by omega)) (Ac rfl (Ac rfl (Ac (ad _ _) (Ac rfl (Ac rfl (Ac (wr (by omega)) (Ac rfl (Ac rfl (Ac (ad _ _) (Ac rfl (Ac rfl (Ac (wr (by omega)) (Ac rfl (Ac rfl (Ac (ad _ _) (Ac rfl (Ac rfl (Ac (wr (by omega)) (Ac rfl (Ac rfl (Ao (by simp)))))))))))))))))))))))))))))))))) ?_
    clear hf; intro a hf
    refine wpList_nil ?_
    refine hK30 _ _ ?_
    refine wp_ret ?_
    refine qr (fn := Tryd.f5) hf hM [] (l := [bV (((((findV ([⟨k, x + dx, y + dy⟩, ⟨1, hx, hy⟩] : List V3) 0).a - (findV ([⟨k, x + dx, y + dy⟩, ⟨1, hx, hy⟩] : List V3) 1).a) : Int) == (((findV ([⟨k, x, y⟩, ⟨1, hx, hy⟩] : List V3) 0).a - (findV ([⟨k, x, y⟩, ⟨1, hx, hy⟩] : List V3) 1).a) + dx)) && (((((findV ([⟨k, x + dx, y + dy⟩, ⟨1, hx, hy⟩] : List V3) 0).b - (findV ([⟨k, x + dx, y + dy⟩, ⟨1, hx, hy⟩] : List V3) 1).b) : Int) == (((findV ([⟨k, x, y⟩, ⟨1, hx, hy⟩] : List V3) 0).b - (findV ([⟨k, x, y⟩, ⟨1, hx, hy⟩] : List V3) 1).b) + dy)) && (((((findV ([⟨k, x + dx, y + dy⟩, ⟨1, hx, hy⟩] : List V3) 0).a + (findV ([⟨k, x + dx, y + dy⟩, ⟨1, hx, hy⟩] : List V3) 1).a) : Int) == (((findV ([⟨k, x, y⟩, ⟨1, hx, hy⟩] : List V3) 0).a + (findV ([⟨k, x, y⟩, ⟨1, hx, hy⟩] : List V3) 1).a) + dx)) && ((((findV ([⟨k, x + dx, y + dy⟩, ⟨1, hx, hy⟩] : List V3) 0).b + (findV ([⟨k, x + dx, y + dy⟩, ⟨1, hx, hy⟩] : List V3) 1).b) : Int) == (((findV ([⟨k, x, y⟩, ⟨1, hx, hy⟩] : List V3) 0).b + (findV ([⟨k, x, y⟩, ⟨1, hx, hy⟩] : List V3) 1).b) + dy)))))]) (ob := []) An ?_
    show (bV (((((findV ([⟨k, x + dx, y + dy⟩, ⟨1, hx, hy⟩] : List V3) 0).a - (findV ([⟨k, x + dx, y + dy⟩, ⟨1, hx, hy⟩] : List V3) 1).a) : Int) == (((findV ([⟨k, x, y⟩, ⟨1, hx, hy⟩] : List V3) 0).a - (findV ([⟨k, x, y⟩, ⟨1, hx, hy⟩] : List V3) 1).a) + dx)) && (((((findV ([⟨k, x + dx, y + dy⟩, ⟨1, hx, hy⟩] : List V3) 0).b - (findV ([⟨k, x + dx, y + dy⟩, ⟨1, hx, hy⟩] : List V3) 1).b) : Int) == (((findV ([⟨k, x, y⟩, ⟨1, hx, hy⟩] : List V3) 0).b - (findV ([⟨k, x, y⟩, ⟨1, hx, hy⟩] : List V3) 1).b) + dy)) && (((((findV ([⟨k, x + dx, y + dy⟩, ⟨1, hx, hy⟩] : List V3) 0).a + (findV ([⟨k, x + dx, y + dy⟩, ⟨1, hx, hy⟩] : List V3) 1).a) : Int) == (((findV ([⟨k, x, y⟩, ⟨1, hx, hy⟩] : List V3) 0).a + (findV ([⟨k, x, y⟩, ⟨1, hx, hy⟩] : List V3) 1).a) + dx)) && ((((findV ([⟨k, x + dx, y + dy⟩, ⟨1, hx, hy⟩] : List V3) 0).b + (findV ([⟨k, x + dx, y + dy⟩, ⟨1, hx, hy⟩] : List V3) 1).b) : Int) == (((findV ([⟨k, x, y⟩, ⟨1, hx, hy⟩] : List V3) 0).b + (findV ([⟨k, x, y⟩, ⟨1, hx, hy⟩] : List V3) 1).b) + dy))))) : Value) = .bool true ∧ Keep Nn w w35
    refine ⟨congrArg Value.bool ?_, hk0⟩
    simp only [he0, he1, he2, he3, hf0, hf1, hf2, hf3]
    simp
    omega

theorem schemaWay_any (E : Nat → Addr) (k x y kh hx hy dx dy : Int) (w : World) (hdx : -9223372036854775808 ≤ dx ∧ dx ≤ 9223372036854775807) (hdy : -9223372036854775808 ≤ dy ∧ dy ≤ 9223372036854775807) (hG : Errs [0, 3, 4] w 185 E) :
    Calls Tryd.prog 5 #[.agg #[iV k, iV x, iV y, iV kh, iV hx, iV hy, iV dx, iV dy]] w (Ret fun v w' => v = .bool true ∧ Keep Nn w w') := by
  rcases Bool.eq_false_or_eq_true (mvPos k x y) with h | h
  · rcases Bool.eq_false_or_eq_true (mvIn dx dy) with h0 | h0
    · rcases Bool.eq_false_or_eq_true (vrange ⟨k, (x + dx), (y + dy)⟩) with h1 | h1
      · rcases Bool.eq_false_or_eq_true (vrange ⟨1, hx, hy⟩) with h2 | h2
        · exact swy_ok E k x y kh hx hy dx dy w h h0 h1 h2 hdx hdy hG
        · exact swy_half E k x y kh hx hy dx dy w h h0 h1 h2 hdx hdy hG
      · exact swy_out E k x y kh hx hy dx dy w h h0 h1 hdx hdy hG
    · exact swy_far E k x y kh hx hy dx dy w h h0 hdx hdy hG
  · exact swy_kind E k x y kh hx hy dx dy w h hdx hdy hG
end Go.Proofs.YtifcgjnknikjkaaDoor
