/- layer 12: nodes are counted -/
import Derived.Test.YthofalkkdpjdlaaDoorR3
namespace Go.Proofs.YthofalkkdpjdlaaDoor
open Go.Px
set_option linter.unusedVariables false
set_option linter.unusedSimpArgs false

set_option maxRecDepth 10000 in
set_option maxHeartbeats 1600000 in
theorem up_zero (d x y : Int) (w : World) (hn0 : (d == 0) = true) :
    Calls Tryd.prog 15 #[.agg #[iV d, iV x, iV y]] w (Ret fun v w' => v = .tuple #[.agg #[.int .i64 0, .int .i64 0, .int .i64 0], .bool false] ∧ Keep Nn w w') := by
 refine sxenter (n := 23) (args := [.agg #[iV d, iV x, iV y]]) Tryd.func15 rfl rfl rfl fun a hf => ?_
 replace hf : Fr 23 [(0, .val (.agg #[iV d, iV x, iV y]))] a := hf
 have hM : MemOk [] w := MemOk.nil w
 have hk0 : Keep Nn w w := Keep.refl _ _
 refine wp_seq_k (fun K1 hK1 => ?_)
 refine wp_region_lit ?_
 refine q1 hf hM [] [{ os := [.nw] }, { os := [.nw] }, {}] (nw := fun B1 => [(2, eP (B1 + 1) 0), (1, eP B1 0)]) (M' := fun B1 => [⟨B1, 29, [iV d, iV x, iV y]⟩, ⟨B1 + 1, 29, [iV 0, iV 0, iV 0]⟩]) (ob := fun B1 => []) (fun B1 => An) ?_
 clear hf hM; intro a w1 B1 hf hM hB hk
 have hbB1 : w.heap.size ≤ B1 := by have := hk0.size; omega
 have hk0 := hk0.then hk (by intro i _ h; cases h)
 clear hk hB
 refine wpList_nil ?_
 refine hK1 _ _ ?_
 refine wp_seq_k (fun K2 hK2 => ?_)
 refine wp_seq_k (fun K3 hK3 => ?_)
 refine wp_region_lit ?_
 refine q0 hf hM [2, 1] [{ os := [.ld 0 0, .ld 0 1, .ld 0 2] }] (nw := [(4, .val (.agg #[iV d, iV x, iV y]))]) (ob := [Ad B1 0, Ad B1 1, Ad B1 2]) (Ac (ad _ _) (Ac (ad _ _) (Ao (ad _ _)))) ?_
 clear hf; intro a hf
 refine sxcall hf rfl rfl rfl rfl (g := 36) (vs := [.agg #[iV d, iV x, iV y]]) (ob := []) (by as_aux_lemma => kernel_rfl) An enters36 (cell_right d x y w1  ) ?_
 clear hf; rintro _ w2 a ⟨rfl, hk⟩ hf
 have hM := hM.keepNn hk
 have hk0 := hk0.trans hk.nn
 clear hk
 refine q0 hf hM [2, 1] [{}, {}, { g := .sym }, { g := .sym, os := [.ld 0 0] }, { g := .sym }, { hint := some (bV ((!(cellRight d x y)) || ((d : Int) == 0))) }] (nw := [(11, eB ((!(cellRight d x y)) || ((d : Int) == 0)))]) (ob := [((!(cellRight d x y)) = false → (!(cellRight d x y)) = (!(cellRight d x y))), ((!(cellRight d x y)) = false → Ad B1 0), ((!(cellRight d x y)) = false → (!(cellRight d x y)) = (!(cellRight d x y))), ((!(cellRight d x y)) = false → (!(cellRight d x y)) = (!(cellRight d x y))), (bif !(cellRight d x y) then (bV true : Value) else bV ((d : Int) == 0)) = .bool ((!(cellRight d x y)) || ((d : Int) == 0))]) (Ac (fun hgd => rfl) (Ac (fun hgd => ad _ _) (Ac (fun hgd => rfl) (Ac (fun _ => rfl) (Ao (pick_or _ _)))))) ?_
 clear hf; intro a hf
 refine wpList_nil ?_
 refine hK3 _ _ ?_
 refine qc hf (b := ((!(cellRight d x y)) || ((d : Int) == 0))) (fun hc1r => ?_) (fun hc1r => ?_)
 · have hc1 := hc1r
   simp [eq_of_beq hn0] at hc1
   refine wp_seq_k (fun K4 hK4 => ?_)
   refine wp_region_lit ?_
   refine q1 hf hM [2] [{ sp := true }, { os := [.st 1 0, .st 1 1, .st 1 2] }, {}] (nw := fun B4 => [(3, eB false)]) (M' := fun B4 => [⟨B1, 29, [iV d, iV x, iV y]⟩, ⟨B1 + 1, 29, [iV 0, iV 0, iV 0]⟩]) (ob := fun B4 => [Ad (B1 + 1) 0, Ad (B1 + 1) 1, Ad (B1 + 1) 2]) (fun B4 => (Ac (ad _ _) (Ac (ad _ _) (Ao (ad _ _))))) ?_
   clear hf hM; intro a w3 B4 hf hM hB hk
   have hbB4 : w.heap.size ≤ B4 := by have := hk0.size; omega
   have hk0 := hk0.thenNew hk (by simp [Mem.names] <;> omega)
   clear hk hB
   refine wpList_nil ?_
   refine hK4 _ _ ?_
   refine wp_ret ?_
   refine qr (fn := Tryd.f15) hf hM [.ld 1 0, .ld 1 1, .ld 1 2] (l := [.agg #[iV 0, iV 0, iV 0], bV false]) (ob := [Ad (B1 + 1) 0, Ad (B1 + 1) 1, Ad (B1 + 1) 2]) (Ac (ad _ _) (Ac (ad _ _) (Ao (ad _ _)))) ?_
   show (.tuple #[.agg #[iV 0, iV 0, iV 0], bV false] : Value) = .tuple #[.agg #[.int .i64 0, .int .i64 0, .int .i64 0], .bool false] ∧ Keep Nn w w3
   exact ⟨rfl, hk0⟩
 · have hc1 := hc1r
   simp [eq_of_beq hn0] at hc1
   skip

set_option maxRecDepth 10000 in
set_option maxHeartbeats 1600000 in
theorem tcount (base T nB : Nat) (N : List ND) (K : List C3) (d x y : Int) (w : World) (hown : (oNM 68 nB N).φ base w) (hdist : (oNM 68 nB N).B.Nodup) (hbw : base ≤ w.heap.size) (hT : w.cell? ⟨T, 0, none⟩ = some (.map (some nB))) (hTn : ¬ T ∈ (oNM 68 nB N).B) (hc : okC (⟨d, x, y⟩ : C3) = true) (hnf : NodesF N (fK K)) (hK : K.length ≤ 1000) :
    Calls Tryd.prog 35 #[pV T 0, .agg #[iV d, iV x, iV y], iV 1] w (Ret fun v w' => v = .tuple #[] ∧ ∃ N', (oNM 68 nB N').φ base w' ∧ NodesF N' (fK ((⟨d, x, y⟩ : C3) :: K)) ∧ (∀ z, bsAt N' z = bsAt N z) ∧ (∀ i ∈ (oNM 68 nB N').B, i ∈ (oNM 68 nB N).B ∨ w.heap.size ≤ i) ∧ (oNM 68 nB N').B.Nodup ∧ Keep (fun i => i ∈ (oNM 68 nB N).B) w w') := by
 refine sxenter (n := 58) (args := [pV T 0, .agg #[iV d, iV x, iV y], iV 1]) Tryd.func35 rfl rfl rfl fun a hf => ?_
 replace hf : Fr 58 [(0, eP T 0), (1, .val (.agg #[iV d, iV x, iV y])), (2, eI 1)] a := hf
 have hM : MemOk [] w := MemOk.nil w
 have hk0 : Keep (fun i => i ∈ (oNM 68 nB N).B) w w := Keep.refl _ _
 have hO : OwnOk base [] [oNM 68 nB N] w := OwnOk.oneB hown hdist
 refine wp_seq_k (fun K1 hK1 => ?_)
 refine wp_region_lit ?_
 refine q1 hf hM [0, 2] [{ os := [.nw] }] (nw := fun B1 => [(4, eP B1 0)]) (M' := fun B1 => [⟨B1, 29, [iV d, iV x, iV y]⟩]) (ob := fun B1 => []) (fun B1 => An) ?_
 clear hf hM; intro a w1 B1 hf hM hB hk
 have hbB1 : w.heap.size ≤ B1 := by have := hk0.size; omega
 have hk0 := hk0.then hk (by intro i _ h; cases h)
 have hO := hO.step hM (hk.mono (by intro _ _ h; cases h)) (by intro i h; simp only [Mem.names, List.map_cons, List.map_nil, List.mem_cons, List.not_mem_nil, or_false, List.map_append, List.cons_append, List.nil_append] at h ⊢; omega)
 clear hk hB
 refine wpList_nil ?_
 refine hK1 _ _ ?_
 refine wp_seq_k (fun K2 hK2 => ?_)
 refine wp_region_lit ?_
 refine q0 hf hM [4, 0, 2] [{}] (nw := [(6, eB true)]) An ?_
 clear hf; intro a hf
 refine wpList_nil ?_
 refine hK2 _ _ ?_
 refine wp_block ?_
 have hf := (hf.prune [0, 2, 4, 6]).to (env' := [(0, eP T 0), (2, eI 1), (4, eP B1 0), (6, eB true)]) (by kernel_rfl)
 replace hM : MemOk [⟨B1, 29, [iV (⟨d, x, y⟩ : C3).d, iV (⟨d, x, y⟩ : C3).x, iV (⟨d, x, y⟩ : C3).y]⟩] w1 := by
  have e : ([⟨B1, 29, [iV d, iV x, iV y]⟩] : Mem) = [⟨B1, 29, [iV (⟨d, x, y⟩ : C3).d, iV (⟨d, x, y⟩ : C3).x, iV (⟨d, x, y⟩ : C3).y]⟩] := by first | rfl | (congr 3 <;> first | rfl | omega) | (simp; omega)
  rw [← e]; exact hM
 replace hO : OwnOk base [⟨B1, 29, [iV (⟨d, x, y⟩ : C3).d, iV (⟨d, x, y⟩ : C3).x, iV (⟨d, x, y⟩ : C3).y]⟩] [oNM 68 nB N] w1 := ⟨hO.own, hO.nd⟩
 refine sxloop (fun zm a w1 => ∃ (zz : C3) (done : List C3) (NN : List ND) (more : Bool), zm = (if more = true then zz.d.toNat + 1 else 0) ∧ Fr 58 [(0, eP T 0), (2, eI 1), (4, eP B1 0), (6, eB more)] a ∧ MemOk [⟨B1, 29, [iV zz.d, iV zz.x, iV zz.y]⟩] w1 ∧ Keep (fun i => i ∈ (oNM 68 nB N).B) w w1 ∧ OwnOk base [⟨B1, 29, [iV zz.d, iV zz.x, iV zz.y]⟩] [oNM 68 nB NN] w1 ∧ (more = true → okC zz = true ∧ chain (⟨d, x, y⟩ : C3) = done ++ chain zz) ∧ (more = false → done = chain (⟨d, x, y⟩ : C3)) ∧ (NodesF NN (fD K done)) ∧ (∀ z, bsAt NN z = bsAt N z) ∧ (∀ i ∈ (oNM 68 nB NN).B, i ∈ (oNM 68 nB N).B ∨ w.heap.size ≤ i)) _ ⟨(⟨d, x, y⟩ : C3), [], N, true, rfl, hf.conv (Ac rfl (Ac rfl (Ac rfl (Ao rfl)))), hM, hk0, hO, (fun _ => ⟨hc, rfl⟩), (fun h => by cases h), (by rw [fD_nil]; exact hnf), (fun _ => rfl), (fun i hi => .inl hi)⟩ ?_
 clear hf hM hk0 hO
 rintro _ a w2 ⟨zz, done, NN, more, rfl, hf, hM, hk0, hO, hmt, hmf, hnn, hbb, hbl⟩ L1 hL1
 refine wp_seq_k (fun K3 hK3 => ?_)
 refine wp_seq_k (fun K4 hK4 => ?_)
 refine wp_region_lit ?_
 refine q0 hf hM [0, 2, 4] [{}] (nw := [(9, eB more)]) An ?_
 clear hf; intro a hf
 refine wpList_nil ?_
 refine hK4 _ _ ?_
 refine qc hf (b := more) (fun hc1r => ?_) (fun hc1r => ?_)
 · have hc1 := hc1r
   obtain rfl : more = true := hc1r
   refine wp_skip ?_
   refine hK3 _ _ ?_
   refine wp_seq_k (fun K5 hK5 => ?_)
   refine wp_block ?_
   refine wp_seq_k (fun K6 hK6 => ?_)
   have hO := hO.openNM
   replace hO : OwnOk base [⟨B1, 29, [iV zz.d, iV zz.x, iV zz.y]⟩] [oM nB vC vP (ndL NN), oN 68 NN] w2 := hO
   obtain ⟨hz, hch⟩ := hmt rfl
   have hzc := okC_iff.1 hz
   have hnd := notDone hc hch
   have hfb := fD_bd (done := done) hK zz
   replace hM := hM.drew; replace hk0 := hk0.drew; replace hO := hO.drew
   obtain ⟨Cq1, hCq1i, hCq1e⟩ := qcls fun w' => MemOk [⟨B1, 29, [iV zz.d, iV zz.x, iV zz.y]⟩] w' ∧ Keep (fun i => i ∈ (oNM 68 nB N).B) w w' ∧ OwnOk base [⟨B1, 29, [iV zz.d, iV zz.x, iV zz.y]⟩] [oM nB vC vP (ndL NN), oN 68 NN] w'
   refine sxdraw (C := Cq1) (.leaf [(0, true), (1, true), (2, true), (3, true), (4, true), (5, false), (6, true), (7, true), (8, true), (9, true), (10, true)]) (by kernel_rfl) (by kernel_rfl) (by as_aux_lemma => kernel_rfl) rfl (by as_aux_lemma => kernel_rfl) (by kernel_rfl) (hCq1i _ ⟨hM.sub (.cons_cons _ .slnil), hk0, hO.sub (.cons_cons _ .slnil) (.cons_cons _ (.cons_cons _ .slnil))⟩) ?_
   refine sxleaf ?_
   have hC := (hCq1i _ ⟨hM.sub (.cons_cons _ .slnil), hk0, hO.sub (.cons_cons _ .slnil) (.cons_cons _ (.cons_cons _ .slnil))⟩)
   refine qd hf hC (fun w' h => (hCq1e w' h).1) [0, 2, 4] [{}, {}, {}, { os := [.ex (.map (some nB))] }, { os := [.ld 0 0, .ld 0 1, .ld 0 2] }] (nw := [(20, .val (.agg #[iV zz.d, iV zz.x, iV zz.y])), (19, .val (.map (some nB))), (18, eP T 0), (17, eP T 0), (16, eP T 0)]) (ob := [(∀ w', Cq1 w' → w'.cell? ⟨T, 0, none⟩ = some (.map (some nB))), Ad B1 0, Ad B1 1, Ad B1 2]) (Ac (fun w' hc => by obtain ⟨hM, hk0, hO⟩ := hCq1e w' hc; exact (hk0.cell hT hTn)) (Ac (ad _ _) (Ac (ad _ _) (Ao (ad _ _))))) ?_
   clear hf; intro a hf
   refine scstep rfl ?_
   refine sxlookup hf (hO.own _ (List.Mem.head _)).2 keyC rfl rfl rfl rfl rfl (⟨zz.d, zz.x, zz.y⟩ : C3) rfl Tryd.underlying69 (none : Option Nat) (by kernel_rfl) (V := .tuple #[vP ((getK (ndL NN) (⟨zz.d, zz.x, zz.y⟩ : C3)).getD (none : Option Nat)), bV (hasK (ndL NN) (⟨zz.d, zz.x, zz.y⟩ : C3))]) rfl ?_; clear hf; intro a hf
   have hC := (hCq1i _ ⟨hM.sub (.cons_cons _ .slnil), hk0, hO.sub (.cons_cons _ .slnil) (.cons_cons _ (.cons_cons _ .slnil))⟩)
   refine scdone hC ?_
   refine qd hf hC (fun w' h => (hCq1e w' h).1) [21, 20, 19, 18, 17, 16, 0, 2, 4] [{}, {}, {}, {}, {}] (nw := [(8, eB (hasK (ndL NN) (⟨zz.d, zz.x, zz.y⟩ : C3))), (7, .val (vP ((getK (ndL NN) (⟨zz.d, zz.x, zz.y⟩ : C3)).getD (none : Option Nat)))), (23, eB (hasK (ndL NN) (⟨zz.d, zz.x, zz.y⟩ : C3))), (22, .val (vP ((getK (ndL NN) (⟨zz.d, zz.x, zz.y⟩ : C3)).getD (none : Option Nat)))), (15, .val (.tuple #[vP ((getK (ndL NN) (⟨zz.d, zz.x, zz.y⟩ : C3)).getD (none : Option Nat)), bV (hasK (ndL NN) (⟨zz.d, zz.x, zz.y⟩ : C3))]))]) An ?_
   clear hf; intro a hf
   clear hC
   show K6 _ _
   refine hK6 _ _ ?_
   refine wp_seq_k (fun K7 hK7 => ?_)
   refine wp_seq_k (fun K8 hK8 => ?_)
   refine wp_region_lit ?_
   refine q0 hf hM [8, 7, 23, 22, 15, 21, 20, 19, 18, 17, 16, 0, 2, 4] [{}, {}] (nw := [(25, eB (!(hasK (ndL NN) (⟨zz.d, zz.x, zz.y⟩ : C3))))]) An ?_
   clear hf; intro a hf
   refine wpList_nil ?_
   refine hK8 _ _ ?_
   refine qc hf (b := !(hasK (ndL NN) (⟨zz.d, zz.x, zz.y⟩ : C3))) (fun hc2r => ?_) (fun hc2r => ?_)
   · have hc2 := hc2r
     try simp only [Bool.or_eq_true, Bool.and_eq_true, Bool.not_eq_true', Bool.not_eq_false', Bool.or_eq_false_iff, Bool.and_eq_false_iff, decide_eq_true_eq, decide_eq_false_iff_not, beq_iff_eq, bne_iff_ne, beq_eq_false_iff_ne, bne_eq_false_iff_eq, Bool.and_true, Bool.true_and, ne_eq] at hc2
     refine wp_seq_k (fun K9 hK9 => ?_)
     refine wp_region_lit ?_
     refine sxmakemap vH vB hf hM hO rfl rfl rfl rfl (by have := hk0.size; omega) ?_
     clear hf hM hO; intro a w3 Bm1 hf hM hO hB hk
     have hbBm1 : w.heap.size ≤ Bm1 := by have := hk0.size; omega
     replace hO : OwnOk base [⟨B1, 29, [iV zz.d, iV zz.x, iV zz.y]⟩] [oM Bm1 vH vB ([] : List (H2 × B4)), oM nB vC vP (ndL NN), oN 68 NN] w3 := hO
     have hk0 := hk0.trans hk.nn
     clear hk hB
     refine q1 hf hM [8, 23, 22, 15, 21, 20, 19, 18, 17, 16, 0, 2, 4] [{ sp := true }, { os := [.nw] }, {}] (nw := fun B5 => [(7, eP B5 0)]) (M' := fun B5 => [⟨B1, 29, [iV zz.d, iV zz.x, iV zz.y]⟩, ⟨B5, 68, [.map (some Bm1), iV 0]⟩]) (ob := fun B5 => []) (fun B5 => An) ?_
     clear hf hM; intro a w4 B5 hf hM hB hk
     have hbB5 : w.heap.size ≤ B5 := by have := hk0.size; omega
     have hk0 := hk0.then hk (by intro i hi h; simp only [Is, Mem.names, List.map_cons, List.map_nil, List.mem_cons, List.not_mem_nil, or_false] at h; first | omega | (rcases h with h | h <;> first | omega | (subst h; exact hpF.resolve_right (by omega))))
     have hO := hO.step hM hk (by intro i h; simp only [Mem.names, List.map_cons, List.map_nil, List.mem_cons, List.not_mem_nil, or_false, List.map_append, List.cons_append, List.nil_append] at h ⊢; omega)
     clear hk hB
     refine wpList_nil ?_
     refine hK9 _ _ ?_
     replace hM := hM.drew; replace hk0 := hk0.drew; replace hO := hO.drew
     obtain ⟨Cq2, hCq2i, hCq2e⟩ := qcls fun w' => MemOk [⟨B1, 29, [iV zz.d, iV zz.x, iV zz.y]⟩, ⟨B5, 68, [.map (some Bm1), iV 0]⟩] w' ∧ Keep (fun i => i ∈ (oNM 68 nB N).B) w w' ∧ OwnOk base [⟨B1, 29, [iV zz.d, iV zz.x, iV zz.y]⟩, ⟨B5, 68, [.map (some Bm1), iV 0]⟩] [oN 68 NN] w'
     refine sxdraw (C := Cq2) (.leaf [(0, true), (1, true), (2, true), (3, true), (4, true), (5, true), (6, false)]) (by kernel_rfl) (by kernel_rfl) (by as_aux_lemma => kernel_rfl) rfl (by as_aux_lemma => kernel_rfl) (by kernel_rfl) (hCq2i _ ⟨hM.sub (.cons_cons _ (.cons_cons _ .slnil)), hk0, hO.sub (.cons_cons _ (.cons_cons _ .slnil)) (.cons _ (.cons _ (.cons_cons _ .slnil)))⟩) ?_
     refine sxleaf ?_
     have hC := (hCq2i _ ⟨hM.sub (.cons_cons _ (.cons_cons _ .slnil)), hk0, hO.sub (.cons_cons _ (.cons_cons _ .slnil)) (.cons _ (.cons _ (.cons_cons _ .slnil)))⟩)
     refine qd hf hC (fun w' h => (hCq2e w' h).1) [7, 8, 23, 22, 15, 21, 20, 19, 18, 17, 16, 0, 2, 4] [{}, {}, {}, { os := [.ex (.map (some nB))] }, { os := [.ld 0 0, .ld 0 1, .ld 0 2] }, {}] (nw := [(34, eP B5 0), (33, .val (.agg #[iV zz.d, iV zz.x, iV zz.y])), (32, .val (.map (some nB))), (31, eP T 0), (30, eP T 0), (29, eP T 0)]) (ob := [(∀ w', Cq2 w' → w'.cell? ⟨T, 0, none⟩ = some (.map (some nB))), Ad B1 0, Ad B1 1, Ad B1 2]) (Ac (fun w' hc => by obtain ⟨hM, hk0, hO⟩ := hCq2e w' hc; exact (hk0.cell hT hTn)) (Ac (ad _ _) (Ac (ad _ _) (Ao (ad _ _))))) ?_
     clear hf; intro a hf
     refine scstep rfl ?_
     replace hO : OwnOk base [⟨B1, 29, [iV zz.d, iV zz.x, iV zz.y]⟩, ⟨B5, 68, [.map (some Bm1), iV 0]⟩] [oM nB vC vP (ndL NN), oM Bm1 vH vB ([] : List (H2 × B4)), oN 68 NN] w4.drew := OwnOk.front (l1 := [oM Bm1 vH vB ([] : List (H2 × B4))]) (l2 := [oN 68 NN]) hO
     refine sxmapset hf hM hO keyC rfl rfl rfl rfl (⟨zz.d, zz.x, zz.y⟩ : C3) rfl (some B5 : Option Nat) rfl Tryd.underlying69 ?_; clear hf hM; intro a w5 hf hM hO2 hk
     have hk0 := hk0.then hk (by intro i hi h; subst h; exact List.mem_cons_self ..)
     clear hO; have hO := hO2; clear hO2
     clear hk
     replace hO : OwnOk base [⟨B1, 29, [iV zz.d, iV zz.x, iV zz.y]⟩, ⟨B5, 68, [.map (some Bm1), iV 0]⟩] [oM nB vC vP (putK (ndL NN) (⟨zz.d, zz.x, zz.y⟩ : C3) (some B5 : Option Nat)), oM Bm1 vH vB ([] : List (H2 × B4)), oN 68 NN] w5 := hO
     have hC := (hCq2i _ ⟨hM.sub (.cons_cons _ (.cons_cons _ .slnil)), hk0, hO.sub (.cons_cons _ (.cons_cons _ .slnil)) (.cons _ (.cons _ (.cons_cons _ .slnil)))⟩)
     refine scdone hC ?_
     clear hC
     show K7 _ _
     refine hK7 _ _ ?_
     refine wp_seq_k (fun K10 hK10 => ?_)
     have hh : hasK (ndL NN) zz = false := by simpa using hc2r
     have ep : (putK (ndL NN) (⟨zz.d, zz.x, zz.y⟩ : C3) (some B5 : Option Nat)) = ndL (NN ++ [(⟨zz, B5, Bm1, 0, []⟩ : ND)]) := ndL_put hh
     rw [ep] at hO
     have hpF : B5 ∈ (oNM 68 nB N).B ∨ w.heap.size ≤ B5 := .inr (by omega)
     have hbp : base ≤ B5 := by omega
     refine wp_region_lit ?_
     refine q1 hf hM [34, 33, 32, 31, 30, 29, 7, 8, 23, 22, 15, 21, 20, 19, 18, 17, 16, 0, 2, 4] [{}, {}, {}, { os := [.ld 1 1] }, {}, {}, {}, {}, { os := [.st 1 1] }] (nw := fun B6 => []) (M' := fun B6 => [⟨B1, 29, [iV zz.d, iV zz.x, iV zz.y]⟩, ⟨B5, 68, [.map (some Bm1), iV 1]⟩]) (ob := fun B6 => [Ad B5 1, Ad B5 1]) (fun B6 => (Ac (ad _ _) (Ao (ad _ _)))) ?_
     clear hf hM; intro a w6 B6 hf hM hB hk
     have hbB6 : w.heap.size ≤ B6 := by have := hk0.size; omega
     have hk0 := hk0.then hk (by intro i hi h; simp only [Is, Mem.names, List.map_cons, List.map_nil, List.mem_cons, List.not_mem_nil, or_false] at h; first | omega | (rcases h with h | h <;> first | omega | (subst h; exact hpF.resolve_right (by omega))))
     have hO := hO.step hM hk (by intro i h; simp only [Mem.names, List.map_cons, List.map_nil, List.mem_cons, List.not_mem_nil, or_false, List.map_append, List.cons_append, List.nil_append] at h ⊢; omega)
     clear hk hB
     refine wpList_nil ?_
     refine hK10 _ _ ?_
     refine wp_seq_k (fun K11 hK11 => ?_)
     refine wp_region_lit ?_
     refine q0 hf hM [34, 33, 32, 31, 30, 29, 7, 8, 23, 22, 15, 21, 20, 19, 18, 17, 16, 0, 2, 4] [{}, {}, {}, { os := [.ld 1 1] }, { hint := some (bV false) }, {}, { g := .off }, { g := .off }, { g := .off }, {}] (nw := [(52, eB false), (51, .val (undef)), (50, .val (undef)), (49, .val (undef))]) (ob := [Ad B5 1, (bV false : Value) = (bV false : Value), false = !true, false = !true, false = !true]) (Ac (ad _ _) (Ac rfl (Ac rfl (Ac rfl (Ao rfl))))) ?_
     clear hf; intro a hf
     refine wpList_nil ?_
     refine hK11 _ _ ?_
     refine sxcond hf (b := false) (by kernel_rfl) (fun h => by cases h) (fun _ => ?_)
     refine wp_skip ?_
     refine hK5 _ _ ?_
     refine wp_region_lit ?_
     refine q0 hf hM [51, 50, 49, 34, 33, 32, 31, 30, 29, 7, 8, 23, 22, 15, 21, 20, 19, 18, 17, 16, 0, 2, 4] [{ os := [.ld 0 0, .ld 0 1, .ld 0 2] }] (nw := [(11, .val (.agg #[iV zz.d, iV zz.x, iV zz.y]))]) (ob := [Ad B1 0, Ad B1 1, Ad B1 2]) (Ac (ad _ _) (Ac (ad _ _) (Ao (ad _ _)))) ?_
     clear hf; intro a hf
     rcases Bool.eq_false_or_eq_true (zz.d == 0) with hs1r | hs1r
     · have hs1 := hs1r
       try simp only [Bool.or_eq_true, Bool.and_eq_true, Bool.not_eq_true', Bool.not_eq_false', Bool.or_eq_false_iff, Bool.and_eq_false_iff, decide_eq_true_eq, decide_eq_false_iff_not, beq_iff_eq, bne_iff_ne, beq_eq_false_iff_ne, bne_eq_false_iff_eq, Bool.and_true, Bool.true_and, ne_eq] at hs1
       refine sxcall hf rfl rfl rfl rfl (g := 15) (vs := [.agg #[iV zz.d, iV zz.x, iV zz.y]]) (ob := []) (by as_aux_lemma => kernel_rfl) An enters15 (up_zero zz.d zz.x zz.y w6 hs1r ) ?_
       clear hf; rintro _ w7 a ⟨rfl, hk⟩ hf
       have hO := hO.keepNn hk
       have hM := hM.keepNn hk
       have hk0 := hk0.trans hk.nn
       clear hk
       refine q1 hf hM [51, 50, 49, 34, 33, 32, 31, 30, 29, 7, 8, 23, 22, 15, 21, 20, 19, 18, 17, 16, 0, 2, 4] [{}, {}, {}, { os := [.st 0 0, .st 0 1, .st 0 2] }, {}] (nw := fun B9 => [(6, eB false)]) (M' := fun B9 => [⟨B1, 29, [iV 0, iV 0, iV 0]⟩, ⟨B5, 68, [.map (some Bm1), iV 1]⟩]) (ob := fun B9 => [Ad B1 0, Ad B1 1, Ad B1 2]) (fun B9 => (Ac (ad _ _) (Ac (ad _ _) (Ao (ad _ _))))) ?_
       clear hf hM; intro a w8 B9 hf hM hB hk
       have hbB9 : w.heap.size ≤ B9 := by have := hk0.size; omega
       have hk0 := hk0.then hk (by intro i hi h; simp only [Is, Mem.names, List.map_cons, List.map_nil, List.mem_cons, List.not_mem_nil, or_false] at h; first | omega | (rcases h with h | h <;> first | omega | (subst h; exact hpF.resolve_right (by omega))))
       have hO := hO.step hM hk (by intro i h; simp only [Mem.names, List.map_cons, List.map_nil, List.mem_cons, List.not_mem_nil, or_false, List.map_append, List.cons_append, List.nil_append] at h ⊢; omega)
       clear hk hB
       refine wpList_nil ?_
       replace hO : OwnOk base [⟨B1, 29, [iV 0, iV 0, iV 0]⟩, ⟨B5, 68, [.map (some Bm1), iV 1]⟩] [oN 68 NN, oM nB vC vP (ndL (NN ++ [(⟨zz, B5, Bm1, 0, []⟩ : ND)])), oM Bm1 vH vB ([] : List (H2 × B4))] w8 := OwnOk.front (l1 := [oM nB vC vP (ndL (NN ++ [(⟨zz, B5, Bm1, 0, []⟩ : ND)])), oM Bm1 vH vB ([] : List (H2 × B4))]) (l2 := []) hO
       replace hO : OwnOk base [⟨B1, 29, [iV 0, iV 0, iV 0]⟩, ⟨B5, 68, [.map (some Bm1), iV 1]⟩] [oM Bm1 vH vB ([] : List (H2 × B4)), oN 68 NN, oM nB vC vP (ndL (NN ++ [(⟨zz, B5, Bm1, 0, []⟩ : ND)]))] w8 := OwnOk.front (l1 := [oN 68 NN, oM nB vC vP (ndL (NN ++ [(⟨zz, B5, Bm1, 0, []⟩ : ND)]))]) (l2 := []) hO
       rw [show oN 68 NN = oN 68 (NN ++ []) by rw [List.append_nil]] at hO
       obtain ⟨hM, hO⟩ := OwnOk.shutN (M := [⟨B1, 29, [iV 0, iV 0, iV 0]⟩]) (n := (⟨zz, B5, Bm1, 1, []⟩ : ND)) (N1 := NN) (N2 := []) hO hM hbp
       replace hM : MemOk [⟨B1, 29, [iV 0, iV 0, iV 0]⟩] w8 := hM
       replace hO : OwnOk base [⟨B1, 29, [iV 0, iV 0, iV 0]⟩] [oN 68 (NN ++ (⟨zz, B5, Bm1, 1, []⟩ : ND) :: []), oM nB vC vP (ndL (NN ++ [(⟨zz, B5, Bm1, 0, []⟩ : ND)]))] w8 := hO
       replace hO : OwnOk base [⟨B1, 29, [iV 0, iV 0, iV 0]⟩] [oM nB vC vP (ndL (NN ++ [(⟨zz, B5, Bm1, 0, []⟩ : ND)])), oN 68 (NN ++ (⟨zz, B5, Bm1, 1, []⟩ : ND) :: [])] w8 := OwnOk.front (l1 := [oN 68 (NN ++ (⟨zz, B5, Bm1, 1, []⟩ : ND) :: [])]) (l2 := []) hO
       have el : ndL (NN ++ (⟨zz, B5, Bm1, 0, []⟩ : ND) :: []) = ndL (NN ++ (⟨zz, B5, Bm1, 1, []⟩ : ND) :: []) := by simp [ndL]
       rw [show (ndL (NN ++ [(⟨zz, B5, Bm1, 0, []⟩ : ND)])) = ndL (NN ++ (⟨zz, B5, Bm1, 1, []⟩ : ND) :: []) from el] at hO
       have hO := hO.shutNM
       replace hO : OwnOk base [⟨B1, 29, [iV 0, iV 0, iV 0]⟩] [oNM 68 nB (NN ++ (⟨zz, B5, Bm1, 1, []⟩ : ND) :: [])] w8 := hO
       have hnn2 : NodesF (NN ++ (⟨zz, B5, Bm1, 1, []⟩ : ND) :: []) (fD K (done ++ [zz])) := hnn.fresh hh hnd _ _
       have hbb2 : ∀ z, bsAt (NN ++ (⟨zz, B5, Bm1, 1, []⟩ : ND) :: []) z = bsAt N z := fun z => (bsAt_new (fun hm => by rw [ndL_has.2 hm] at hh; cases hh) _ _ _ z).trans (hbb z)
       have hbl2 : ∀ i ∈ (oNM 68 nB (NN ++ (⟨zz, B5, Bm1, 1, []⟩ : ND) :: [])).B, i ∈ (oNM 68 nB N).B ∨ w.heap.size ≤ i := fun i hi => by
         simp only [oNM, List.flatMap_append, List.flatMap_cons, List.flatMap_nil, List.append_nil, List.mem_cons, List.mem_append, ndB, List.not_mem_nil, or_false] at hi
         rcases hi with hi | hi | hi | hi
         · exact hbl i (List.mem_cons.2 (.inl hi))
         · exact hbl i (List.mem_cons_of_mem _ hi)
         · omega
         · omega
       have hd0 := hs1r
       have hf := (hf.prune [0, 2, 4, 6]).to (env' := [(0, eP T 0), (2, eI 1), (4, eP B1 0), (6, eB false)]) (by kernel_rfl)
       replace hM : MemOk [⟨B1, 29, [iV (⟨0, 0, 0⟩ : C3).d, iV (⟨0, 0, 0⟩ : C3).x, iV (⟨0, 0, 0⟩ : C3).y]⟩] w8 := by
        have e : ([⟨B1, 29, [iV 0, iV 0, iV 0]⟩] : Mem) = [⟨B1, 29, [iV (⟨0, 0, 0⟩ : C3).d, iV (⟨0, 0, 0⟩ : C3).x, iV (⟨0, 0, 0⟩ : C3).y]⟩] := by first | rfl | (congr 3 <;> first | rfl | omega) | (simp; omega)
        rw [← e]; exact hM
       replace hO : OwnOk base [⟨B1, 29, [iV (⟨0, 0, 0⟩ : C3).d, iV (⟨0, 0, 0⟩ : C3).x, iV (⟨0, 0, 0⟩ : C3).y]⟩] [oNM 68 nB (NN ++ (⟨zz, B5, Bm1, 1, []⟩ : ND) :: [])] w8 := ⟨hO.own, hO.nd⟩
       refine hL1 _ _ _ (by simp) ⟨(⟨0, 0, 0⟩ : C3), (done ++ [zz]), (NN ++ (⟨zz, B5, Bm1, 1, []⟩ : ND) :: []), false, rfl, hf.conv (Ac rfl (Ac rfl (Ac rfl (Ao rfl)))), hM, hk0, hO, (fun h => by cases h), (fun _ => chain_last (eq_of_beq hd0) hch), hnn2, hbb2, hbl2⟩
     · have hs1 := hs1r
       try simp only [Bool.or_eq_true, Bool.and_eq_true, Bool.not_eq_true', Bool.not_eq_false', Bool.or_eq_false_iff, Bool.and_eq_false_iff, decide_eq_true_eq, decide_eq_false_iff_not, beq_iff_eq, bne_iff_ne, beq_eq_false_iff_ne, bne_eq_false_iff_eq, Bool.and_true, Bool.true_and, ne_eq] at hs1
       refine sxcall hf rfl rfl rfl rfl (g := 15) (vs := [.agg #[iV zz.d, iV zz.x, iV zz.y]]) (ob := []) (by as_aux_lemma => kernel_rfl) An enters15 (up_ok zz.d zz.x zz.y w6 hz hs1r ) ?_
       clear hf; rintro _ w9 a ⟨rfl, hk⟩ hf
       have hO := hO.keepNn hk
       have hM := hM.keepNn hk
       have hk0 := hk0.trans hk.nn
       clear hk
       refine q1 hf hM [51, 50, 49, 34, 33, 32, 31, 30, 29, 7, 8, 23, 22, 15, 21, 20, 19, 18, 17, 16, 0, 2, 4] [{}, {}, {}, { os := [.st 0 0, .st 0 1, .st 0 2] }, {}] (nw := fun B10 => [(6, eB true)]) (M' := fun B10 => [⟨B1, 29, [iV (zz.d - 1), iV (zz.x / 2), iV (zz.y / 2)]⟩, ⟨B5, 68, [.map (some Bm1), iV 1]⟩]) (ob := fun B10 => [Ad B1 0, Ad B1 1, Ad B1 2]) (fun B10 => (Ac (ad _ _) (Ac (ad _ _) (Ao (ad _ _))))) ?_
       clear hf hM; intro a w10 B10 hf hM hB hk
       have hbB10 : w.heap.size ≤ B10 := by have := hk0.size; omega
       have hk0 := hk0.then hk (by intro i hi h; simp only [Is, Mem.names, List.map_cons, List.map_nil, List.mem_cons, List.not_mem_nil, or_false] at h; first | omega | (rcases h with h | h <;> first | omega | (subst h; exact hpF.resolve_right (by omega))))
       have hO := hO.step hM hk (by intro i h; simp only [Mem.names, List.map_cons, List.map_nil, List.mem_cons, List.not_mem_nil, or_false, List.map_append, List.cons_append, List.nil_append] at h ⊢; omega)
       clear hk hB
       refine wpList_nil ?_
       replace hO : OwnOk base [⟨B1, 29, [iV (zz.d - 1), iV (zz.x / 2), iV (zz.y / 2)]⟩, ⟨B5, 68, [.map (some Bm1), iV 1]⟩] [oN 68 NN, oM nB vC vP (ndL (NN ++ [(⟨zz, B5, Bm1, 0, []⟩ : ND)])), oM Bm1 vH vB ([] : List (H2 × B4))] w10 := OwnOk.front (l1 := [oM nB vC vP (ndL (NN ++ [(⟨zz, B5, Bm1, 0, []⟩ : ND)])), oM Bm1 vH vB ([] : List (H2 × B4))]) (l2 := []) hO
       replace hO : OwnOk base [⟨B1, 29, [iV (zz.d - 1), iV (zz.x / 2), iV (zz.y / 2)]⟩, ⟨B5, 68, [.map (some Bm1), iV 1]⟩] [oM Bm1 vH vB ([] : List (H2 × B4)), oN 68 NN, oM nB vC vP (ndL (NN ++ [(⟨zz, B5, Bm1, 0, []⟩ : ND)]))] w10 := OwnOk.front (l1 := [oN 68 NN, oM nB vC vP (ndL (NN ++ [(⟨zz, B5, Bm1, 0, []⟩ : ND)]))]) (l2 := []) hO
       rw [show oN 68 NN = oN 68 (NN ++ []) by rw [List.append_nil]] at hO
       obtain ⟨hM, hO⟩ := OwnOk.shutN (M := [⟨B1, 29, [iV (zz.d - 1), iV (zz.x / 2), iV (zz.y / 2)]⟩]) (n := (⟨zz, B5, Bm1, 1, []⟩ : ND)) (N1 := NN) (N2 := []) hO hM hbp
       replace hM : MemOk [⟨B1, 29, [iV (zz.d - 1), iV (zz.x / 2), iV (zz.y / 2)]⟩] w10 := hM
       replace hO : OwnOk base [⟨B1, 29, [iV (zz.d - 1), iV (zz.x / 2), iV (zz.y / 2)]⟩] [oN 68 (NN ++ (⟨zz, B5, Bm1, 1, []⟩ : ND) :: []), oM nB vC vP (ndL (NN ++ [(⟨zz, B5, Bm1, 0, []⟩ : ND)]))] w10 := hO
       replace hO : OwnOk base [⟨B1, 29, [iV (zz.d - 1), iV (zz.x / 2), iV (zz.y / 2)]⟩] [oM nB vC vP (ndL (NN ++ [(⟨zz, B5, Bm1, 0, []⟩ : ND)])), oN 68 (NN ++ (⟨zz, B5, Bm1, 1, []⟩ : ND) :: [])] w10 := OwnOk.front (l1 := [oN 68 (NN ++ (⟨zz, B5, Bm1, 1, []⟩ : ND) :: [])]) (l2 := []) hO
       have el : ndL (NN ++ (⟨zz, B5, Bm1, 0, []⟩ : ND) :: []) = ndL (NN ++ (⟨zz, B5, Bm1, 1, []⟩ : ND) :: []) := by simp [ndL]
       rw [show (ndL (NN ++ [(⟨zz, B5, Bm1, 0, []⟩ : ND)])) = ndL (NN ++ (⟨zz, B5, Bm1, 1, []⟩ : ND) :: []) from el] at hO
       have hO := hO.shutNM
       replace hO : OwnOk base [⟨B1, 29, [iV (zz.d - 1), iV (zz.x / 2), iV (zz.y / 2)]⟩] [oNM 68 nB (NN ++ (⟨zz, B5, Bm1, 1, []⟩ : ND) :: [])] w10 := hO
       have hnn2 : NodesF (NN ++ (⟨zz, B5, Bm1, 1, []⟩ : ND) :: []) (fD K (done ++ [zz])) := hnn.fresh hh hnd _ _
       have hbb2 : ∀ z, bsAt (NN ++ (⟨zz, B5, Bm1, 1, []⟩ : ND) :: []) z = bsAt N z := fun z => (bsAt_new (fun hm => by rw [ndL_has.2 hm] at hh; cases hh) _ _ _ z).trans (hbb z)
       have hbl2 : ∀ i ∈ (oNM 68 nB (NN ++ (⟨zz, B5, Bm1, 1, []⟩ : ND) :: [])).B, i ∈ (oNM 68 nB N).B ∨ w.heap.size ≤ i := fun i hi => by
         simp only [oNM, List.flatMap_append, List.flatMap_cons, List.flatMap_nil, List.append_nil, List.mem_cons, List.mem_append, ndB, List.not_mem_nil, or_false] at hi
         rcases hi with hi | hi | hi | hi
         · exact hbl i (List.mem_cons.2 (.inl hi))
         · exact hbl i (List.mem_cons_of_mem _ hi)
         · omega
         · omega
       have hd0 := hs1r
       have hf := (hf.prune [0, 2, 4, 6]).to (env' := [(0, eP T 0), (2, eI 1), (4, eP B1 0), (6, eB true)]) (by kernel_rfl)
       replace hM : MemOk [⟨B1, 29, [iV (⟨zz.d - 1, zz.x / 2, zz.y / 2⟩ : C3).d, iV (⟨zz.d - 1, zz.x / 2, zz.y / 2⟩ : C3).x, iV (⟨zz.d - 1, zz.x / 2, zz.y / 2⟩ : C3).y]⟩] w10 := by
        have e : ([⟨B1, 29, [iV (zz.d - 1), iV (zz.x / 2), iV (zz.y / 2)]⟩] : Mem) = [⟨B1, 29, [iV (⟨zz.d - 1, zz.x / 2, zz.y / 2⟩ : C3).d, iV (⟨zz.d - 1, zz.x / 2, zz.y / 2⟩ : C3).x, iV (⟨zz.d - 1, zz.x / 2, zz.y / 2⟩ : C3).y]⟩] := by first | rfl | (congr 3 <;> first | rfl | omega) | (simp; omega)
        rw [← e]; exact hM
       replace hO : OwnOk base [⟨B1, 29, [iV (⟨zz.d - 1, zz.x / 2, zz.y / 2⟩ : C3).d, iV (⟨zz.d - 1, zz.x / 2, zz.y / 2⟩ : C3).x, iV (⟨zz.d - 1, zz.x / 2, zz.y / 2⟩ : C3).y]⟩] [oNM 68 nB (NN ++ (⟨zz, B5, Bm1, 1, []⟩ : ND) :: [])] w10 := ⟨hO.own, hO.nd⟩
       refine hL1 _ _ _ (by simp only [if_true, Bool.false_eq_true, if_false]; have := beq_eq_false_iff_ne.1 hd0; omega) ⟨(⟨zz.d - 1, zz.x / 2, zz.y / 2⟩ : C3), (done ++ [zz]), (NN ++ (⟨zz, B5, Bm1, 1, []⟩ : ND) :: []), true, rfl, hf.conv (Ac rfl (Ac rfl (Ac rfl (Ao rfl)))), hM, hk0, hO, (fun _ => ⟨okC_up hz (beq_eq_false_iff_ne.1 hd0), chain_more hz (beq_eq_false_iff_ne.1 hd0) hch⟩), (fun h => by cases h), hnn2, hbb2, hbl2⟩
   · have hc2 := hc2r
     try simp only [Bool.or_eq_true, Bool.and_eq_true, Bool.not_eq_true', Bool.not_eq_false', Bool.or_eq_false_iff, Bool.and_eq_false_iff, decide_eq_true_eq, decide_eq_false_iff_not, beq_iff_eq, bne_iff_ne, beq_eq_false_iff_ne, bne_eq_false_iff_eq, Bool.and_true, Bool.true_and, ne_eq] at hc2
     have hh : hasK (ndL NN) zz = true := by simpa using hc2r
     obtain ⟨N1, nd, N2, hNN, hnc, hgp⟩ := ndL_split hh
     replace hf := (hf.prune [7, 0, 2, 4]).to (env' := [(7, .val (vP ((getK (ndL NN) (⟨zz.d, zz.x, zz.y⟩ : C3)).getD (none : Option Nat)))), (0, eP T 0), (2, eI 1), (4, eP B1 0)]) (by kernel_rfl)
     replace hf : Fr 58 [(7, eP nd.p 0), (0, eP T 0), (2, eI 1), (4, eP B1 0)] a := hf.conv (Ac (congrArg vP hgp) (Ac rfl (Ac rfl (Ao rfl))))
     subst hNN
     have hcnt := hnn.cnt nd (by simp)
     rw [hnc] at hcnt
     have hpF := hbl nd.p (by simp [oNM, ndB])
     replace hO : OwnOk base [⟨B1, 29, [iV zz.d, iV zz.x, iV zz.y]⟩] [oN 68 (N1 ++ nd :: N2), oM nB vC vP (ndL (N1 ++ nd :: N2))] w2.drew := OwnOk.front (l1 := [oM nB vC vP (ndL (N1 ++ nd :: N2))]) (l2 := []) hO
     have hbp := ((hO.own _ (List.Mem.head _)) nd (by simp)).1
     have hmm := ((hO.own _ (List.Mem.head _)) nd (by simp)).2.1
     obtain ⟨hM, hO⟩ := OwnOk.openN hO hM
     replace hM : MemOk [⟨B1, 29, [iV zz.d, iV zz.x, iV zz.y]⟩, ⟨nd.p, 68, [.map (some nd.m), iV nd.n]⟩] w2.drew := hM
     replace hO : OwnOk base [⟨B1, 29, [iV zz.d, iV zz.x, iV zz.y]⟩, ⟨nd.p, 68, [.map (some nd.m), iV nd.n]⟩] [oM nd.m vH vB nd.bs, oN 68 (N1 ++ N2), oM nB vC vP (ndL (N1 ++ nd :: N2))] w2.drew := hO
     refine wp_skip ?_
     refine hK7 _ _ ?_
     refine wp_seq_k (fun K12 hK12 => ?_)
     refine wp_region_lit ?_
     refine q1 hf hM [7, 0, 2, 4] [{}, {}, {}, { os := [.ld 1 1] }, {}, { hint := some (iV (nd.n + 1)) }, {}, {}, { os := [.st 1 1] }] (nw := fun B11 => []) (M' := fun B11 => [⟨B1, 29, [iV zz.d, iV zz.x, iV zz.y]⟩, ⟨nd.p, 68, [.map (some nd.m), iV (nd.n + 1)]⟩]) (ob := fun B11 => [Ad nd.p 1, (iV (IntKind.i64.wrap (nd.n + 1)) : Value) = (iV (nd.n + 1) : Value), Ad nd.p 1]) (fun B11 => (Ac (ad _ _) (Ac (wr (by omega)) (Ao (ad _ _))))) ?_
     clear hf hM; intro a w11 B11 hf hM hB hk
     have hbB11 : w.heap.size ≤ B11 := by have := hk0.size; omega
     have hk0 := hk0.then hk (by intro i hi h; simp only [Is, Mem.names, List.map_cons, List.map_nil, List.mem_cons, List.not_mem_nil, or_false] at h; first | omega | (rcases h with h | h <;> first | omega | (subst h; exact hpF.resolve_right (by omega))))
     have hO := hO.step hM hk (by intro i h; simp only [Mem.names, List.map_cons, List.map_nil, List.mem_cons, List.not_mem_nil, or_false, List.map_append, List.cons_append, List.nil_append] at h ⊢; omega)
     clear hk hB
     refine wpList_nil ?_
     refine hK12 _ _ ?_
     refine wp_seq_k (fun K13 hK13 => ?_)
     refine wp_region_lit ?_
     refine q0 hf hM [7, 0, 2, 4] [{}, {}, {}, { os := [.ld 1 1] }, { hint := some (bV false) }, {}, { g := .off }, { g := .off }, { g := .off }, {}] (nw := [(52, eB false), (51, .val (undef)), (50, .val (undef)), (49, .val (undef))]) (ob := [Ad nd.p 1, (bV (((nd.n + 1) : Int) == 0) : Value) = (bV false : Value), false = !true, false = !true, false = !true]) (Ac (ad _ _) (Ac (congrArg Value.bool (beq_eq_false_iff_ne.2 (by omega))) (Ac rfl (Ac rfl (Ao rfl))))) ?_
     clear hf; intro a hf
     refine wpList_nil ?_
     refine hK13 _ _ ?_
     refine sxcond hf (b := false) (by kernel_rfl) (fun h => by cases h) (fun _ => ?_)
     refine wp_skip ?_
     refine hK5 _ _ ?_
     refine wp_region_lit ?_
     refine q0 hf hM [51, 50, 49, 7, 0, 2, 4] [{ os := [.ld 0 0, .ld 0 1, .ld 0 2] }] (nw := [(11, .val (.agg #[iV zz.d, iV zz.x, iV zz.y]))]) (ob := [Ad B1 0, Ad B1 1, Ad B1 2]) (Ac (ad _ _) (Ac (ad _ _) (Ao (ad _ _)))) ?_
     clear hf; intro a hf
     rcases Bool.eq_false_or_eq_true (zz.d == 0) with hs2r | hs2r
     · have hs2 := hs2r
       try simp only [Bool.or_eq_true, Bool.and_eq_true, Bool.not_eq_true', Bool.not_eq_false', Bool.or_eq_false_iff, Bool.and_eq_false_iff, decide_eq_true_eq, decide_eq_false_iff_not, beq_iff_eq, bne_iff_ne, beq_eq_false_iff_ne, bne_eq_false_iff_eq, Bool.and_true, Bool.true_and, ne_eq] at hs2
       refine sxcall hf rfl rfl rfl rfl (g := 15) (vs := [.agg #[iV zz.d, iV zz.x, iV zz.y]]) (ob := []) (by as_aux_lemma => kernel_rfl) An enters15 (up_zero zz.d zz.x zz.y w11 hs2r ) ?_
       clear hf; rintro _ w12 a ⟨rfl, hk⟩ hf
       have hO := hO.keepNn hk
       have hM := hM.keepNn hk
       have hk0 := hk0.trans hk.nn
       clear hk
       refine q1 hf hM [51, 50, 49, 7, 0, 2, 4] [{}, {}, {}, { os := [.st 0 0, .st 0 1, .st 0 2] }, {}] (nw := fun B14 => [(6, eB false)]) (M' := fun B14 => [⟨B1, 29, [iV 0, iV 0, iV 0]⟩, ⟨nd.p, 68, [.map (some nd.m), iV (nd.n + 1)]⟩]) (ob := fun B14 => [Ad B1 0, Ad B1 1, Ad B1 2]) (fun B14 => (Ac (ad _ _) (Ac (ad _ _) (Ao (ad _ _))))) ?_
       clear hf hM; intro a w13 B14 hf hM hB hk
       have hbB14 : w.heap.size ≤ B14 := by have := hk0.size; omega
       have hk0 := hk0.then hk (by intro i hi h; simp only [Is, Mem.names, List.map_cons, List.map_nil, List.mem_cons, List.not_mem_nil, or_false] at h; first | omega | (rcases h with h | h <;> first | omega | (subst h; exact hpF.resolve_right (by omega))))
       have hO := hO.step hM hk (by intro i h; simp only [Mem.names, List.map_cons, List.map_nil, List.mem_cons, List.not_mem_nil, or_false, List.map_append, List.cons_append, List.nil_append] at h ⊢; omega)
       clear hk hB
       refine wpList_nil ?_
       replace hO : OwnOk base [⟨B1, 29, [iV 0, iV 0, iV 0]⟩, ⟨nd.p, 68, [.map (some nd.m), iV (nd.n + 1)]⟩] [oN 68 (N1 ++ N2), oM nd.m vH vB nd.bs, oM nB vC vP (ndL (N1 ++ nd :: N2))] w13 := OwnOk.front (l1 := [oM nd.m vH vB nd.bs]) (l2 := [oM nB vC vP (ndL (N1 ++ nd :: N2))]) hO
       replace hO : OwnOk base [⟨B1, 29, [iV 0, iV 0, iV 0]⟩, ⟨nd.p, 68, [.map (some nd.m), iV (nd.n + 1)]⟩] [oM nd.m vH vB nd.bs, oN 68 (N1 ++ N2), oM nB vC vP (ndL (N1 ++ nd :: N2))] w13 := OwnOk.front (l1 := [oN 68 (N1 ++ N2)]) (l2 := [oM nB vC vP (ndL (N1 ++ nd :: N2))]) hO
       obtain ⟨hM, hO⟩ := OwnOk.shutN (M := [⟨B1, 29, [iV 0, iV 0, iV 0]⟩]) (n := ({ nd with n := nd.n + 1 } : ND)) (N1 := N1) (N2 := N2) hO hM hbp
       replace hM : MemOk [⟨B1, 29, [iV 0, iV 0, iV 0]⟩] w13 := hM
       replace hO : OwnOk base [⟨B1, 29, [iV 0, iV 0, iV 0]⟩] [oN 68 (N1 ++ ({ nd with n := nd.n + 1 } : ND) :: N2), oM nB vC vP (ndL (N1 ++ nd :: N2))] w13 := hO
       replace hO : OwnOk base [⟨B1, 29, [iV 0, iV 0, iV 0]⟩] [oM nB vC vP (ndL (N1 ++ nd :: N2)), oN 68 (N1 ++ ({ nd with n := nd.n + 1 } : ND) :: N2)] w13 := OwnOk.front (l1 := [oN 68 (N1 ++ ({ nd with n := nd.n + 1 } : ND) :: N2)]) (l2 := []) hO
       have el : ndL (N1 ++ nd :: N2) = ndL (N1 ++ ({ nd with n := nd.n + 1 } : ND) :: N2) := by simp [ndL]
       rw [show (ndL (N1 ++ nd :: N2)) = ndL (N1 ++ ({ nd with n := nd.n + 1 } : ND) :: N2) from el] at hO
       have hO := hO.shutNM
       replace hO : OwnOk base [⟨B1, 29, [iV 0, iV 0, iV 0]⟩] [oNM 68 nB (N1 ++ ({ nd with n := nd.n + 1 } : ND) :: N2)] w13 := hO
       have hnn2 : NodesF (N1 ++ ({ nd with n := nd.n + 1 } : ND) :: N2) (fD K (done ++ [zz])) := hnn.bump hnc hnd hK
       have hbb2 : ∀ z, bsAt (N1 ++ ({ nd with n := nd.n + 1 } : ND) :: N2) z = bsAt N z := fun z => (bsAt_bump hnn.nd z).trans (hbb z)
       have hbl2 : ∀ i ∈ (oNM 68 nB (N1 ++ ({ nd with n := nd.n + 1 } : ND) :: N2)).B, i ∈ (oNM 68 nB N).B ∨ w.heap.size ≤ i := fun i hi => hbl i (by rw [oNM_bump] at hi; exact hi)
       have hd0 := hs2r
       have hf := (hf.prune [0, 2, 4, 6]).to (env' := [(0, eP T 0), (2, eI 1), (4, eP B1 0), (6, eB false)]) (by kernel_rfl)
       replace hM : MemOk [⟨B1, 29, [iV (⟨0, 0, 0⟩ : C3).d, iV (⟨0, 0, 0⟩ : C3).x, iV (⟨0, 0, 0⟩ : C3).y]⟩] w13 := by
        have e : ([⟨B1, 29, [iV 0, iV 0, iV 0]⟩] : Mem) = [⟨B1, 29, [iV (⟨0, 0, 0⟩ : C3).d, iV (⟨0, 0, 0⟩ : C3).x, iV (⟨0, 0, 0⟩ : C3).y]⟩] := by first | rfl | (congr 3 <;> first | rfl | omega) | (simp; omega)
        rw [← e]; exact hM
       replace hO : OwnOk base [⟨B1, 29, [iV (⟨0, 0, 0⟩ : C3).d, iV (⟨0, 0, 0⟩ : C3).x, iV (⟨0, 0, 0⟩ : C3).y]⟩] [oNM 68 nB (N1 ++ ({ nd with n := nd.n + 1 } : ND) :: N2)] w13 := ⟨hO.own, hO.nd⟩
       refine hL1 _ _ _ (by simp) ⟨(⟨0, 0, 0⟩ : C3), (done ++ [zz]), (N1 ++ ({ nd with n := nd.n + 1 } : ND) :: N2), false, rfl, hf.conv (Ac rfl (Ac rfl (Ac rfl (Ao rfl)))), hM, hk0, hO, (fun h => by cases h), (fun _ => chain_last (eq_of_beq hd0) hch), hnn2, hbb2, hbl2⟩
     · have hs2 := hs2r
       try simp only [Bool.or_eq_true, Bool.and_eq_true, Bool.not_eq_true', Bool.not_eq_false', Bool.or_eq_false_iff, Bool.and_eq_false_iff, decide_eq_true_eq, decide_eq_false_iff_not, beq_iff_eq, bne_iff_ne, beq_eq_false_iff_ne, bne_eq_false_iff_eq, Bool.and_true, Bool.true_and, ne_eq] at hs2
       refine sxcall hf rfl rfl rfl rfl (g := 15) (vs := [.agg #[iV zz.d, iV zz.x, iV zz.y]]) (ob := []) (by as_aux_lemma => kernel_rfl) An enters15 (up_ok zz.d zz.x zz.y w11 hz hs2r ) ?_
       clear hf; rintro _ w14 a ⟨rfl, hk⟩ hf
       have hO := hO.keepNn hk
       have hM := hM.keepNn hk
       have hk0 := hk0.trans hk.nn
       clear hk
       refine q1 hf hM [51, 50, 49, 7, 0, 2, 4] [{}, {}, {}, { os := [.st 0 0, .st 0 1, .st 0 2] }, {}] (nw := fun B15 => [(6, eB true)]) (M' := fun B15 => [⟨B1, 29, [iV (zz.d - 1), iV (zz.x / 2), iV (zz.y / 2)]⟩, ⟨nd.p, 68, [.map (some nd.m), iV (nd.n + 1)]⟩]) (ob := fun B15 => [Ad B1 0, Ad B1 1, Ad B1 2]) (fun B15 => (Ac (ad _ _) (Ac (ad _ _) (Ao (ad _ _))))) ?_
       clear hf hM; intro a w15 B15 hf hM hB hk
       have hbB15 : w.heap.size ≤ B15 := by have := hk0.size; omega
       have hk0 := hk0.then hk (by intro i hi h; simp only [Is, Mem.names, List.map_cons, List.map_nil, List.mem_cons, List.not_mem_nil, or_false] at h; first | omega | (rcases h with h | h <;> first | omega | (subst h; exact hpF.resolve_right (by omega))))
       have hO := hO.step hM hk (by intro i h; simp only [Mem.names, List.map_cons, List.map_nil, List.mem_cons, List.not_mem_nil, or_false, List.map_append, List.cons_append, List.nil_append] at h ⊢; omega)
       clear hk hB
       refine wpList_nil ?_
       replace hO : OwnOk base [⟨B1, 29, [iV (zz.d - 1), iV (zz.x / 2), iV (zz.y / 2)]⟩, ⟨nd.p, 68, [.map (some nd.m), iV (nd.n + 1)]⟩] [oN 68 (N1 ++ N2), oM nd.m vH vB nd.bs, oM nB vC vP (ndL (N1 ++ nd :: N2))] w15 := OwnOk.front (l1 := [oM nd.m vH vB nd.bs]) (l2 := [oM nB vC vP (ndL (N1 ++ nd :: N2))]) hO
       replace hO : OwnOk base [⟨B1, 29, [iV (zz.d - 1), iV (zz.x / 2), iV (zz.y / 2)]⟩, ⟨nd.p, 68, [.map (some nd.m), iV (nd.n + 1)]⟩] [oM nd.m vH vB nd.bs, oN 68 (N1 ++ N2), oM nB vC vP (ndL (N1 ++ nd :: N2))] w15 := OwnOk.front (l1 := [oN 68 (N1 ++ N2)]) (l2 := [oM nB vC vP (ndL (N1 ++ nd :: N2))]) hO
       obtain ⟨hM, hO⟩ := OwnOk.shutN (M := [⟨B1, 29, [iV (zz.d - 1), iV (zz.x / 2), iV (zz.y / 2)]⟩]) (n := ({ nd with n := nd.n + 1 } : ND)) (N1 := N1) (N2 := N2) hO hM hbp
       replace hM : MemOk [⟨B1, 29, [iV (zz.d - 1), iV (zz.x / 2), iV (zz.y / 2)]⟩] w15 := hM
       replace hO : OwnOk base [⟨B1, 29, [iV (zz.d - 1), iV (zz.x / 2), iV (zz.y / 2)]⟩] [oN 68 (N1 ++ ({ nd with n := nd.n + 1 } : ND) :: N2), oM nB vC vP (ndL (N1 ++ nd :: N2))] w15 := hO
       replace hO : OwnOk base [⟨B1, 29, [iV (zz.d - 1), iV (zz.x / 2), iV (zz.y / 2)]⟩] [oM nB vC vP (ndL (N1 ++ nd :: N2)), oN 68 (N1 ++ ({ nd with n := nd.n + 1 } : ND) :: N2)] w15 := OwnOk.front (l1 := [oN 68 (N1 ++ ({ nd with n := nd.n + 1 } : ND) :: N2)]) (l2 := []) hO
       have el : ndL (N1 ++ nd :: N2) = ndL (N1 ++ ({ nd with n := nd.n + 1 } : ND) :: N2) := by simp [ndL]
       rw [show (ndL (N1 ++ nd :: N2)) = ndL (N1 ++ ({ nd with n := nd.n + 1 } : ND) :: N2) from el] at hO
       have hO := hO.shutNM
       replace hO : OwnOk base [⟨B1, 29, [iV (zz.d - 1), iV (zz.x / 2), iV (zz.y / 2)]⟩] [oNM 68 nB (N1 ++ ({ nd with n := nd.n + 1 } : ND) :: N2)] w15 := hO
       have hnn2 : NodesF (N1 ++ ({ nd with n := nd.n + 1 } : ND) :: N2) (fD K (done ++ [zz])) := hnn.bump hnc hnd hK
       have hbb2 : ∀ z, bsAt (N1 ++ ({ nd with n := nd.n + 1 } : ND) :: N2) z = bsAt N z := fun z => (bsAt_bump hnn.nd z).trans (hbb z)
       have hbl2 : ∀ i ∈ (oNM 68 nB (N1 ++ ({ nd with n := nd.n + 1 } : ND) :: N2)).B, i ∈ (oNM 68 nB N).B ∨ w.heap.size ≤ i := fun i hi => hbl i (by rw [oNM_bump] at hi; exact hi)
       have hd0 := hs2r
       have hf := (hf.prune [0, 2, 4, 6]).to (env' := [(0, eP T 0), (2, eI 1), (4, eP B1 0), (6, eB true)]) (by kernel_rfl)
       replace hM : MemOk [⟨B1, 29, [iV (⟨zz.d - 1, zz.x / 2, zz.y / 2⟩ : C3).d, iV (⟨zz.d - 1, zz.x / 2, zz.y / 2⟩ : C3).x, iV (⟨zz.d - 1, zz.x / 2, zz.y / 2⟩ : C3).y]⟩] w15 := by
        have e : ([⟨B1, 29, [iV (zz.d - 1), iV (zz.x / 2), iV (zz.y / 2)]⟩] : Mem) = [⟨B1, 29, [iV (⟨zz.d - 1, zz.x / 2, zz.y / 2⟩ : C3).d, iV (⟨zz.d - 1, zz.x / 2, zz.y / 2⟩ : C3).x, iV (⟨zz.d - 1, zz.x / 2, zz.y / 2⟩ : C3).y]⟩] := by first | rfl | (congr 3 <;> first | rfl | omega) | (simp; omega)
        rw [← e]; exact hM
       replace hO : OwnOk base [⟨B1, 29, [iV (⟨zz.d - 1, zz.x / 2, zz.y / 2⟩ : C3).d, iV (⟨zz.d - 1, zz.x / 2, zz.y / 2⟩ : C3).x, iV (⟨zz.d - 1, zz.x / 2, zz.y / 2⟩ : C3).y]⟩] [oNM 68 nB (N1 ++ ({ nd with n := nd.n + 1 } : ND) :: N2)] w15 := ⟨hO.own, hO.nd⟩
       refine hL1 _ _ _ (by simp only [if_true, Bool.false_eq_true, if_false]; have := beq_eq_false_iff_ne.1 hd0; omega) ⟨(⟨zz.d - 1, zz.x / 2, zz.y / 2⟩ : C3), (done ++ [zz]), (N1 ++ ({ nd with n := nd.n + 1 } : ND) :: N2), true, rfl, hf.conv (Ac rfl (Ac rfl (Ac rfl (Ao rfl)))), hM, hk0, hO, (fun _ => ⟨okC_up hz (beq_eq_false_iff_ne.1 hd0), chain_more hz (beq_eq_false_iff_ne.1 hd0) hch⟩), (fun h => by cases h), hnn2, hbb2, hbl2⟩
 · have hc1 := hc1r
   refine wp_exit ?_
   refine qe (fn := Tryd.f35) hf hM [] (l := []) (ob := []) An ?_
   show (.tuple #[] : Value) = .tuple #[] ∧ ∃ N', (oNM 68 nB N').φ base w2 ∧ NodesF N' (fK ((⟨d, x, y⟩ : C3) :: K)) ∧ (∀ z, bsAt N' z = bsAt N z) ∧ (∀ i ∈ (oNM 68 nB N').B, i ∈ (oNM 68 nB N).B ∨ w.heap.size ≤ i) ∧ (oNM 68 nB N').B.Nodup ∧ Keep (fun i => i ∈ (oNM 68 nB N).B) w w2
   have hm0 : more = false := by assumption
   exact ⟨rfl, _, hO.own _ (List.Mem.head _), by rw [← fD_chain, ← hmf hm0]; exact hnn, hbb, hbl, hO.ndH, hk0⟩
end Go.Proofs.YthofalkkdpjdlaaDoor
