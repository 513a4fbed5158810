/- layer 12: the law of walks -/
import Derived.Test.YthofalkkdpjdlaaDoorR8
namespace Go.Proofs.YthofalkkdpjdlaaDoor
open Go.Px
set_option linter.unusedVariables false
set_option linter.unusedSimpArgs false

set_option maxRecDepth 10000 in
set_option maxHeartbeats 1600000 in
theorem quadWalks_any (E : Nat → Addr) (av : Option Addr) (l : List B4) (c : Nat) (deep : Int) (left : Bool) (w : World) (hG : Errs [1, 3, 0] w 161 E) (hav : Arr w 4 av l.length c (flat fB4 l)) :
    Calls Tryd.prog 3 #[.slice av l.length c, iV deep, bV left] w (Ret fun v w' => v = .bool true ∧ Keep Nn w w') := by
 refine sxenter (n := 95) (args := [.slice av l.length c, iV deep, bV left]) Tryd.func3 rfl rfl rfl fun a hf => ?_
 replace hf : Fr 95 [(0, eS av l.length c), (1, eI deep), (2, eB left)] a := hf
 have hM : MemOk [] w := MemOk.nil w
 have hk0 : Keep Nn w w := Keep.refl _ _
 refine wp_seq_k (fun K1 hK1 => ?_)
 refine wp_region_lit ?_
 refine q1 hf hM [] [{ os := [.nw] }, { os := [.nw] }, { os := [.nw] }, {}] (nw := fun B1 => [(5, eP (B1 + 2) 0), (4, eP (B1 + 1) 0), (3, eP B1 0)]) (M' := fun B1 => [⟨B1, 22, [.slice av l.length c]⟩, ⟨B1 + 1, 3, [iV deep]⟩, ⟨B1 + 2, 4, [bV left]⟩]) (ob := fun B1 => []) (fun B1 => An) ?_
 clear hf hM; intro a w1 B1 hf hM hB hk
 have hbB1 : w.heap.size ≤ B1 := by have := hk0.size; omega
 have hk0 := hk0.then hk (by intro i _ h; cases h)
 clear hk hB
 refine wpList_nil ?_
 refine hK1 _ _ ?_
 refine wp_seq_k (fun K2 hK2 => ?_)
 refine wp_seq_k (fun K3 hK3 => ?_)
 refine wp_region_lit ?_
 refine sxcall hf rfl rfl rfl rfl (g := 10) (vs := []) (ob := []) (by as_aux_lemma => kernel_rfl) An enters10 (alive_any E w1  (hG.keep hk0 (fun _ h => h))) ?_
 clear hf; rintro _ w2 a ⟨rfl, hk⟩ hf
 have hM := hM.keepNn hk
 have hk0 := hk0.trans hk.nn
 clear hk
 refine q0 hf hM [5, 4, 3] [{}] (nw := [(20, eB false)]) An ?_
 clear hf; intro a hf
 refine wpList_nil ?_
 refine hK3 _ _ ?_
 refine sxcond hf (b := false) (by kernel_rfl) (fun h => by cases h) (fun _ => ?_)
 refine wp_skip ?_
 refine hK2 _ _ ?_
 refine wp_seq_k (fun K4 hK4 => ?_)
 refine wp_seq_k (fun K5 hK5 => ?_)
 refine wp_region_lit ?_
 refine q0 hf hM [5, 4, 3] [{ os := [.ld 0 0] }, {}, {}] (nw := [(23, eB (decide (((l.length : Int) : Int) > 40)))]) (ob := [Ad B1 0]) (Ao (ad _ _)) ?_
 clear hf; intro a hf
 refine wpList_nil ?_
 refine hK5 _ _ ?_
 refine qc hf (b := (decide (((l.length : Int) : Int) > 40))) (fun hc2r => ?_) (fun hc2r => ?_)
 · have hc2 := (nT hc2r)
   refine wp_seq_k (fun K6 hK6 => ?_)
   refine wp_region_lit ?_
   refine q0 hf hM [] [{}] (nw := [(6, eB true)]) An ?_
   clear hf; intro a hf
   refine wpList_nil ?_
   refine hK6 _ _ ?_
   refine wp_ret ?_
   refine qr (fn := Tryd.f3) hf hM [] (l := [bV true]) (ob := []) An ?_
   show (bV true : Value) = .bool true ∧ Keep Nn w w2
   exact ⟨rfl, hk0⟩
 · have hc2 := (nU hc2r)
   refine wp_skip ?_
   refine hK4 _ _ ?_
   refine wp_seq_k (fun K7 hK7 => ?_)
   refine wp_region_lit ?_
   refine sxcall hf rfl rfl rfl rfl (g := 11) (vs := []) (ob := []) (by as_aux_lemma => kernel_rfl) An enters11 (tnew  w2  ) ?_
   clear hf; rintro _ w3 a ⟨T1, Bl1, rfl, hk, hx1, hdb1⟩ hf
   have hO : OwnOk w.heap.size [⟨B1, 22, [.slice av l.length c]⟩, ⟨B1 + 1, 3, [iV deep]⟩, ⟨B1 + 2, 4, [bV left]⟩] [] w2 := OwnOk.nil hM
   have hO := hO.moreB hM hk (by have := hk0.size; omega) hx1 hdb1
   replace hO : OwnOk w.heap.size [⟨B1, 22, [.slice av l.length c]⟩, ⟨B1 + 1, 3, [iV deep]⟩, ⟨B1 + 2, 4, [bV left]⟩] [oTree 72 68 T1 Bl1 ([] : List (H2 × B4))] _ := hO
   have hM := hM.keepNn hk
   have hk0 := hk0.trans hk.nn
   clear hk
   refine q0 hf hM [5, 4, 3] [{}] (nw := [(7, eP T1 0)]) An ?_
   clear hf; intro a hf
   refine wpList_nil ?_
   refine hK7 _ _ ?_
   refine wp_seq_k (fun K8 hK8 => ?_)
   refine wp_region_lit ?_
   refine sxmakemap vH vT hf hM hO rfl rfl rfl rfl (by have := hk0.size; omega) ?_
   clear hf hM hO; intro a w4 Bm1 hf hM hO hB hk
   have hbBm1 : w.heap.size ≤ Bm1 := by have := hk0.size; omega
   replace hO : OwnOk w.heap.size [⟨B1, 22, [.slice av l.length c]⟩, ⟨B1 + 1, 3, [iV deep]⟩, ⟨B1 + 2, 4, [bV left]⟩] [oM Bm1 vH vT ([] : List (H2 × Bool)), oTree 72 68 T1 Bl1 ([] : List (H2 × B4))] w4 := hO
   have hk0 := hk0.trans hk.nn
   clear hk hB
   refine q1 hf hM [7, 5, 4, 3] [{ os := [.nw] }, { os := [.st 3 0] }] (nw := fun B6 => [(8, eP B6 0)]) (M' := fun B6 => [⟨B1, 22, [.slice av l.length c]⟩, ⟨B1 + 1, 3, [iV deep]⟩, ⟨B1 + 2, 4, [bV left]⟩, ⟨B6, 26, [.map (some Bm1)]⟩]) (ob := fun B6 => [Ad B6 0]) (fun B6 => (Ao (ad _ _))) ?_
   clear hf hM; intro a w5 B6 hf hM hB hk
   have hbB6 : w.heap.size ≤ B6 := by have := hk0.size; omega
   have hk0 := hk0.thenNew hk (by simp [Mem.names] <;> omega)
   have hO := hO.step hM hk (by intro i h; simp only [Mem.names, List.map_cons, List.map_nil, List.mem_cons, List.not_mem_nil, or_false, List.map_append, List.cons_append, List.nil_append] at h ⊢; omega)
   clear hk hB
   refine wpList_nil ?_
   refine hK8 _ _ ?_
   refine wp_seq_k (fun K9 hK9 => ?_)
   refine wp_region_lit ?_
   refine q1 hf hM [8, 7, 5, 4, 3] [{ os := [.ld 1 0] }, {}, { sp := true }, { hint := some (iV (deepV deep)) }, { os := [.st 1 0] }] (nw := fun B7 => []) (M' := fun B7 => [⟨B1, 22, [.slice av l.length c]⟩, ⟨B1 + 1, 3, [iV (deepV deep)]⟩, ⟨B1 + 2, 4, [bV left]⟩, ⟨B6, 26, [.map (some Bm1)]⟩]) (ob := fun B7 => [Ad (B1 + 1) 0, (10 : Int) ≠ 0, (iV (IntKind.i64.wrap (Int.tmod (IntKind.u64.wrap deep) 10)) : Value) = (iV (deepV deep) : Value), Ad (B1 + 1) 0]) (fun B7 => (Ac (ad _ _) (Ac (by omega) (Ac rfl (Ao (ad _ _)))))) ?_
   clear hf hM; intro a w6 B7 hf hM hB hk
   have hbB7 : w.heap.size ≤ B7 := by have := hk0.size; omega
   have hk0 := hk0.thenNew hk (by simp [Mem.names] <;> omega)
   have hO := hO.step hM hk (by intro i h; simp only [Mem.names, List.map_cons, List.map_nil, List.mem_cons, List.not_mem_nil, or_false, List.map_append, List.cons_append, List.nil_append] at h ⊢; omega)
   clear hk hB
   refine wpList_nil ?_
   refine hK9 _ _ ?_
   refine wp_seq_k (fun K10 hK10 => ?_)
   refine wp_region_lit ?_
   refine q0 hf hM [8, 7, 3] [{}, {}] (nw := [(9, .val (.func (.func 12) #[] #[pV (B1 + 1) 0, pV (B1 + 2) 0]))]) An ?_
   clear hf; intro a hf
   refine wpList_nil ?_
   refine hK10 _ _ ?_
   refine wp_seq_k (fun K11 hK11 => ?_)
   refine wp_seq_k (fun K12 hK12 => ?_)
   refine wp_region_lit ?_
   refine q0 hf hM [9, 8, 7, 3] [{ os := [.ld 0 0] }, {}, {}] (nw := [(33, eI 0), (32, eI (l.length : Int)), (31, eS av l.length c)]) (ob := [Ad B1 0]) (Ao (ad _ _)) ?_
   clear hf; intro a hf
   refine wpList_nil ?_
   refine hK12 _ _ ?_
   refine wp_block ?_
   have hf := (hf.prune [3, 7, 8, 9, 31, 32, 33]).to (env' := [(3, eP B1 0), (7, eP T1 0), (8, eP B6 0), (9, .val (.func (.func 12) #[] #[pV (B1 + 1) 0, pV (B1 + 2) 0])), (31, eS av l.length c), (32, eI (l.length : Int)), (33, eI 0)]) (by kernel_rfl)
   replace hO : OwnOk w.heap.size [⟨B1, 22, [.slice av l.length c]⟩, ⟨B1 + 1, 3, [iV (deepV deep)]⟩, ⟨B1 + 2, 4, [bV left]⟩, ⟨B6, 26, [.map (some Bm1)]⟩] [oM Bm1 vH vT (wantL (enC (deepV deep) left) (bsx l (0 : Int).toNat)), oTree 72 68 T1 Bl1 (bsx l (0 : Int).toNat)] w6 := by
    first | exact hO | (have e : ([oM Bm1 vH vT ([] : List (H2 × Bool)), oTree 72 68 T1 Bl1 ([] : List (H2 × B4))] : List Own) = [oM Bm1 vH vT (wantL (enC (deepV deep) left) (bsx l (0 : Int).toNat)), oTree 72 68 T1 Bl1 (bsx l (0 : Int).toNat)] := by rfl) <;> (rw [← e]; exact hO)
   refine sxloop (fun zm a w1 => ∃ (i : Int) (Bl : List Nat), zm = ((l.length : Int) - i).toNat ∧ Fr 95 [(3, eP B1 0), (7, eP T1 0), (8, eP B6 0), (9, .val (.func (.func 12) #[] #[pV (B1 + 1) 0, pV (B1 + 2) 0])), (31, eS av l.length c), (32, eI (l.length : Int)), (33, eI i)] a ∧ MemOk [⟨B1, 22, [.slice av l.length c]⟩, ⟨B1 + 1, 3, [iV (deepV deep)]⟩, ⟨B1 + 2, 4, [bV left]⟩, ⟨B6, 26, [.map (some Bm1)]⟩] w1 ∧ Keep Nn w w1 ∧ OwnOk w.heap.size [⟨B1, 22, [.slice av l.length c]⟩, ⟨B1 + 1, 3, [iV (deepV deep)]⟩, ⟨B1 + 2, 4, [bV left]⟩, ⟨B6, 26, [.map (some Bm1)]⟩] [oM Bm1 vH vT (wantL (enC (deepV deep) left) (bsx l i.toNat)), oTree 72 68 T1 Bl (bsx l i.toNat)] w1 ∧ (0 ≤ i ∧ i ≤ (l.length : Int))) _ ⟨0, Bl1, rfl, hf.conv (Ac rfl (Ac rfl (Ac rfl (Ac rfl (Ac rfl (Ac rfl (Ao rfl))))))), hM, hk0, hO, (by omega)⟩ ?_
   clear hf hM hk0 hO
   rintro _ a w7 ⟨i, Bl, rfl, hf, hM, hk0, hO, hi⟩ L1 hL1
   refine wp_seq_k (fun K13 hK13 => ?_)
   refine wp_region_lit ?_
   refine q0 hf hM [3, 7, 8, 9, 31, 32, 33] [{}] (nw := [(34, eB (decide ((i : Int) < (l.length : Int))))]) An ?_
   clear hf; intro a hf
   refine wpList_nil ?_
   refine hK13 _ _ ?_
   refine wp_seq_k (fun K14 hK14 => ?_)
   refine qc hf (b := (decide ((i : Int) < (l.length : Int)))) (fun hc3r => ?_) (fun hc3r => ?_)
   · have hc3 := (nT hc3r)
     refine wp_skip ?_
     refine hK14 _ _ ?_
     refine wp_seq_k (fun K15 hK15 => ?_)
     refine wp_block ?_
     refine wp_seq_k (fun K16 hK16 => ?_)
     obtain ⟨bb, hbb⟩ : ∃ b : B4, b = l.getD i.toNat ⟨0, 0, 0, 0⟩ := ⟨_, rfl⟩
     refine wp_region_lit ?_
     refine q1 hf hM [3, 7, 8, 9, 31, 32, 33] [{}, { sp := true }, { os := [.ex (iV (l.getD i.toNat ⟨0, 0, 0, 0⟩).x0), .ex (iV (l.getD i.toNat ⟨0, 0, 0, 0⟩).y0), .ex (iV (l.getD i.toNat ⟨0, 0, 0, 0⟩).x1), .ex (iV (l.getD i.toNat ⟨0, 0, 0, 0⟩).y1)], hint := some (.agg #[iV bb.x0, iV bb.y0, iV bb.x1, iV bb.y1]) }, { os := [.nw] }, {}, { os := [.st 4 0, .st 4 1, .st 4 2, .st 4 3] }] (nw := fun B11 => [(10, eI i), (11, eP B11 0)]) (M' := fun B11 => [⟨B1, 22, [.slice av l.length c]⟩, ⟨B1 + 1, 3, [iV (deepV deep)]⟩, ⟨B1 + 2, 4, [bV left]⟩, ⟨B6, 26, [.map (some Bm1)]⟩, ⟨B11, 32, [iV bb.x0, iV bb.y0, iV bb.x1, iV bb.y1]⟩]) (ob := fun B11 => [(0 : Int) ≤ i ∧ i < (l.length : Int), (av : Option Addr).isSome = true, w7.cell? (((sa av : Addr).add (i.toNat * 4)).add 0) = some (iV (l.getD i.toNat ⟨0, 0, 0, 0⟩).x0), w7.cell? (((sa av : Addr).add (i.toNat * 4)).add 1) = some (iV (l.getD i.toNat ⟨0, 0, 0, 0⟩).y0), w7.cell? (((sa av : Addr).add (i.toNat * 4)).add 2) = some (iV (l.getD i.toNat ⟨0, 0, 0, 0⟩).x1), w7.cell? (((sa av : Addr).add (i.toNat * 4)).add 3) = some (iV (l.getD i.toNat ⟨0, 0, 0, 0⟩).y1), (.agg #[iV (l.getD i.toNat ⟨0, 0, 0, 0⟩).x0, iV (l.getD i.toNat ⟨0, 0, 0, 0⟩).y0, iV (l.getD i.toNat ⟨0, 0, 0, 0⟩).x1, iV (l.getD i.toNat ⟨0, 0, 0, 0⟩).y1] : Value) = (.agg #[iV bb.x0, iV bb.y0, iV bb.x1, iV bb.y1] : Value), Ad B11 0, Ad B11 1, Ad B11 2, Ad B11 3]) (fun B11 => (Ac (by first | omega | (simp; done)) (Ac ((hav.keepNn hk0).some_ (by first | omega | (simp; done))) (Ac ((hav.keepNn hk0).get (fun _ => rfl) (by first | omega | (simp; done)) rfl) (Ac ((hav.keepNn hk0).get (fun _ => rfl) (by first | omega | (simp; done)) rfl) (Ac ((hav.keepNn hk0).get (fun _ => rfl) (by first | omega | (simp; done)) rfl) (Ac ((hav.keepNn hk0).get (fun _ => rfl) (by first | omega | (simp; done)) rfl) (Ac (by rw [hbb]) (Ac (ad _ _) (Ac (ad _ _) (Ac (ad _ _) (Ao (ad _ _))))))))))))) ?_
     clear hf hM; intro a w8 B11 hf hM hB hk
     have hbB11 : w.heap.size ≤ B11 := by have := hk0.size; omega
     have hk0 := hk0.thenNew hk (by simp [Mem.names] <;> omega)
     have hO := hO.step hM hk (by intro i h; simp only [Mem.names, List.map_cons, List.map_nil, List.mem_cons, List.not_mem_nil, or_false, List.map_append, List.cons_append, List.nil_append] at h ⊢; omega)
     clear hk hB
     refine wpList_nil ?_
     refine hK16 _ _ ?_
     refine wp_seq_k (fun K17 hK17 => ?_)
     refine wp_region_lit ?_
     refine q0 hf hM [10, 11, 3, 7, 8, 9, 31, 32, 33] [{ os := [.ld 4 0, .ld 4 1, .ld 4 2, .ld 4 3] }] (nw := [(39, .val (.agg #[iV bb.x0, iV bb.y0, iV bb.x1, iV bb.y1]))]) (ob := [Ad B11 0, Ad B11 1, Ad B11 2, Ad B11 3]) (Ac (ad _ _) (Ac (ad _ _) (Ac (ad _ _) (Ao (ad _ _))))) ?_
     clear hf; intro a hf
     rcases Bool.eq_false_or_eq_true (boxRight bb.x0 bb.y0 bb.x1 bb.y1) with hs1r | hs1r
     · have hs1 := hs1r
       rcases Bool.eq_false_or_eq_true (inWorld bb.x0 bb.y0 bb.x1 bb.y1) with hs2r | hs2r
       · have hs2 := hs2r
         refine sxcall hf rfl rfl rfl rfl (g := 13) (vs := [.agg #[iV bb.x0, iV bb.y0, iV bb.x1, iV bb.y1]]) (ob := []) (by as_aux_lemma => kernel_rfl) An enters13 (of_cell E bb.x0 bb.y0 bb.x1 bb.y1 w8 hs1r hs2r (hG.keep hk0 (fun _ h => h))) ?_
         clear hf; rintro _ w9 a ⟨rfl, hk⟩ hf
         have hO := hO.keepNn hk
         have hM := hM.keepNn hk
         have hk0 := hk0.trans hk.nn
         clear hk
         refine q1 hf hM [10, 11, 3, 7, 8, 9, 31, 32, 33] [{}, {}, {}, { os := [.nw] }, { os := [.st 5 0, .st 5 1, .st 5 2] }, {}] (nw := fun B13 => [(13, .val (.nilIface)), (12, eP B13 0)]) (M' := fun B13 => [⟨B1, 22, [.slice av l.length c]⟩, ⟨B1 + 1, 3, [iV (deepV deep)]⟩, ⟨B1 + 2, 4, [bV left]⟩, ⟨B6, 26, [.map (some Bm1)]⟩, ⟨B11, 32, [iV bb.x0, iV bb.y0, iV bb.x1, iV bb.y1]⟩, ⟨B13, 29, [iV ((cellB (⟨bb.x0, bb.y0, bb.x1, bb.y1⟩ : B4)).d), iV ((cellB (⟨bb.x0, bb.y0, bb.x1, bb.y1⟩ : B4)).x), iV ((cellB (⟨bb.x0, bb.y0, bb.x1, bb.y1⟩ : B4)).y)]⟩]) (ob := fun B13 => [Ad B13 0, Ad B13 1, Ad B13 2]) (fun B13 => (Ac (ad _ _) (Ac (ad _ _) (Ao (ad _ _))))) ?_
         clear hf hM; intro a w10 B13 hf hM hB hk
         have hbB13 : w.heap.size ≤ B13 := by have := hk0.size; omega
         have hk0 := hk0.thenNew hk (by simp [Mem.names] <;> omega)
         have hO := hO.step hM hk (by intro i h; simp only [Mem.names, List.map_cons, List.map_nil, List.mem_cons, List.not_mem_nil, or_false, List.map_append, List.cons_append, List.nil_append] at h ⊢; omega)
         clear hk hB
         refine wpList_nil ?_
         refine hK17 _ _ ?_
         refine wp_seq_k (fun K18 hK18 => ?_)
         refine wp_seq_k (fun K19 hK19 => ?_)
         refine wp_region_lit ?_
         refine q0 hf hM [12, 10, 3, 7, 8, 9, 31, 32, 33] [{}, {}, {}, {}, {}, { sp := true }, { os := [.ld 4 0, .ld 4 1, .ld 4 2, .ld 4 3] }] (nw := [(49, .val (.agg #[iV bb.x0, iV bb.y0, iV bb.x1, iV bb.y1])), (48, .val (.agg #[iV i, iV 1])), (47, eI i), (46, eP T1 0), (45, eB false)]) (ob := [false = false, false = false, false = false, false = false, Ad B11 0, Ad B11 1, Ad B11 2, Ad B11 3]) (Ac rfl (Ac rfl (Ac rfl (Ac rfl (Ac (ad _ _) (Ac (ad _ _) (Ac (ad _ _) (Ao (ad _ _))))))))) ?_
         clear hf; intro a hf
         replace hO : OwnOk w.heap.size [⟨B1, 22, [.slice av l.length c]⟩, ⟨B1 + 1, 3, [iV (deepV deep)]⟩, ⟨B1 + 2, 4, [bV left]⟩, ⟨B6, 26, [.map (some Bm1)]⟩, ⟨B11, 32, [iV bb.x0, iV bb.y0, iV bb.x1, iV bb.y1]⟩, ⟨B13, 29, [iV ((cellB (⟨bb.x0, bb.y0, bb.x1, bb.y1⟩ : B4)).d), iV ((cellB (⟨bb.x0, bb.y0, bb.x1, bb.y1⟩ : B4)).x), iV ((cellB (⟨bb.x0, bb.y0, bb.x1, bb.y1⟩ : B4)).y)]⟩] [oTree 72 68 T1 Bl (bsx l i.toNat), oM Bm1 vH vT (wantL (enC (deepV deep) left) (bsx l i.toNat))] w10 := OwnOk.front (l1 := [oM Bm1 vH vT (wantL (enC (deepV deep) left) (bsx l i.toNat))]) (l2 := []) hO
         refine sxcallg hf rfl rfl rfl rfl rfl (g := 14) (vs := [pV T1 0, .agg #[iV i, iV 1], .agg #[iV bb.x0, iV bb.y0, iV bb.x1, iV bb.y1]]) (ob := []) (by as_aux_lemma => kernel_rfl) An enters14 (tput_ok E w.heap.size T1 Bl (bsx l i.toNat) i 1 bb.x0 bb.y0 bb.x1 bb.y1 w10 hs1r hs2r (hO.own _ (List.Mem.head _)) hO.ndH hk0.size (bsx_new l hi.1) (by rw [bsx_len]; omega) (fun W hkW => hG.keepOld hk0 hkW (fun i hi => (hO.ltB (List.Mem.head _) hi).1))) ?_
         clear hf; rintro _ w11 a ⟨Bl2, rfl, hx, hB1, hd1, hk⟩ hf
         have hO2 := hO.turnB hM hk hx hB1 hd1; have hM := hO.memTurnB hM hk
         have hk0 := hk0.then hk (by intro i hi h; have := (hO.ltB (List.Mem.head _) h).1; omega); clear hO; have hO := hO2; clear hO2
         clear hk hx hB1 hd1
         replace hO : OwnOk w.heap.size [⟨B1, 22, [.slice av l.length c]⟩, ⟨B1 + 1, 3, [iV (deepV deep)]⟩, ⟨B1 + 2, 4, [bV left]⟩, ⟨B6, 26, [.map (some Bm1)]⟩, ⟨B11, 32, [iV bb.x0, iV bb.y0, iV bb.x1, iV bb.y1]⟩, ⟨B13, 29, [iV ((cellB (⟨bb.x0, bb.y0, bb.x1, bb.y1⟩ : B4)).d), iV ((cellB (⟨bb.x0, bb.y0, bb.x1, bb.y1⟩ : B4)).x), iV ((cellB (⟨bb.x0, bb.y0, bb.x1, bb.y1⟩ : B4)).y)]⟩] [oTree 72 68 T1 Bl2 ((bsx l i.toNat) ++ [((⟨i, 1⟩ : H2), (⟨bb.x0, bb.y0, bb.x1, bb.y1⟩ : B4))]), oM Bm1 vH vT (wantL (enC (deepV deep) left) (bsx l i.toNat))] w11 := hO
         have eb : bsx l i.toNat ++ [((⟨i, 1⟩ : H2), bb)] = bsx l (i + 1).toNat := by rw [bsx_succ l hi.1, ← hbb]
         replace hO : OwnOk w.heap.size [⟨B1, 22, [.slice av l.length c]⟩, ⟨B1 + 1, 3, [iV (deepV deep)]⟩, ⟨B1 + 2, 4, [bV left]⟩, ⟨B6, 26, [.map (some Bm1)]⟩, ⟨B11, 32, [iV bb.x0, iV bb.y0, iV bb.x1, iV bb.y1]⟩, ⟨B13, 29, [iV ((cellB (⟨bb.x0, bb.y0, bb.x1, bb.y1⟩ : B4)).d), iV ((cellB (⟨bb.x0, bb.y0, bb.x1, bb.y1⟩ : B4)).x), iV ((cellB (⟨bb.x0, bb.y0, bb.x1, bb.y1⟩ : B4)).y)]⟩] [oTree 72 68 T1 Bl2 (bsx l (i + 1).toNat), oM Bm1 vH vT (wantL (enC (deepV deep) left) (bsx l i.toNat))] w11 := by rw [← eb]; exact hO
         have hoc : okC (cellB bb) = true := okC_cell (by unfold okB; rw [hs1r, hs2r]; rfl)
         refine q0 hf hM [50, 49, 48, 47, 46, 12, 10, 3, 7, 8, 9, 31, 32, 33] [{}, {}] (nw := [(52, eB false), (51, eB false)]) (ob := [false = false]) (Ao rfl) ?_
         clear hf; intro a hf
         refine wpList_nil ?_
         refine hK19 _ _ ?_
         refine sxcond hf (b := false) (by kernel_rfl) (fun h => by cases h) (fun _ => ?_)
         refine wp_skip ?_
         refine hK18 _ _ ?_
         refine wp_seq_k (fun K20 hK20 => ?_)
         refine wp_region_lit ?_
         refine q0 hf hM [51, 50, 49, 48, 47, 46, 12, 10, 3, 7, 8, 9, 31, 32, 33] [{}, { os := [.ld 5 0, .ld 5 1, .ld 5 2] }] (nw := [(54, .val (.agg #[iV ((cellB (⟨bb.x0, bb.y0, bb.x1, bb.y1⟩ : B4)).d), iV ((cellB (⟨bb.x0, bb.y0, bb.x1, bb.y1⟩ : B4)).x), iV ((cellB (⟨bb.x0, bb.y0, bb.x1, bb.y1⟩ : B4)).y)])), (53, .val (.func (.func 12) #[] #[pV (B1 + 1) 0, pV (B1 + 2) 0]))]) (ob := [Ad B13 0, Ad B13 1, Ad B13 2]) (Ac (ad _ _) (Ac (ad _ _) (Ao (ad _ _)))) ?_
         clear hf; intro a hf
         refine sxcall hf rfl rfl rfl rfl (g := 12) (vs := [.agg #[iV ((cellB (⟨bb.x0, bb.y0, bb.x1, bb.y1⟩ : B4)).d), iV ((cellB (⟨bb.x0, bb.y0, bb.x1, bb.y1⟩ : B4)).x), iV ((cellB (⟨bb.x0, bb.y0, bb.x1, bb.y1⟩ : B4)).y)], pV (B1 + 1) 0, pV (B1 + 2) 0]) (ob := []) (by as_aux_lemma => kernel_rfl) An enters12 (enters_any (B1 + 1) (B1 + 2) (deepV deep) left ((cellB (⟨bb.x0, bb.y0, bb.x1, bb.y1⟩ : B4)).d) ((cellB (⟨bb.x0, bb.y0, bb.x1, bb.y1⟩ : B4)).x) ((cellB (⟨bb.x0, bb.y0, bb.x1, bb.y1⟩ : B4)).y) w11 hoc ((cell?_blk (hM.at_ _ (List.Mem.tail _ (List.Mem.head _))) 0).trans rfl) ((cell?_blk (hM.at_ _ (List.Mem.tail _ (List.Mem.tail _ (List.Mem.head _)))) 0).trans rfl)) ?_
         clear hf; rintro _ w12 a ⟨rfl, hk⟩ hf
         have hO := hO.keepNn hk
         have hM := hM.keepNn hk
         have hk0 := hk0.trans hk.nn
         clear hk
         refine q0 hf hM [51, 50, 49, 48, 47, 46, 12, 10, 3, 7, 8, 9, 31, 32, 33] [{}] (nw := [(14, eB (entW (deepV deep) left ((cellB (⟨bb.x0, bb.y0, bb.x1, bb.y1⟩ : B4)).d) ((cellB (⟨bb.x0, bb.y0, bb.x1, bb.y1⟩ : B4)).x)))]) An ?_
         clear hf; intro a hf
         refine wpList_nil ?_
         refine hK20 _ _ ?_
         refine wp_seq_k (fun K21 hK21 => ?_)
         refine wp_seq_k (fun K22 hK22 => ?_)
         refine wp_region_lit ?_
         refine q0 hf hM [14, 51, 50, 49, 48, 47, 46, 10, 3, 7, 8, 9, 31, 32, 33] [{ os := [.ld 5 0, .ld 5 1, .ld 5 2] }] (nw := [(57, .val (.agg #[iV ((cellB (⟨bb.x0, bb.y0, bb.x1, bb.y1⟩ : B4)).d), iV ((cellB (⟨bb.x0, bb.y0, bb.x1, bb.y1⟩ : B4)).x), iV ((cellB (⟨bb.x0, bb.y0, bb.x1, bb.y1⟩ : B4)).y)]))]) (ob := [Ad B13 0, Ad B13 1, Ad B13 2]) (Ac (ad _ _) (Ac (ad _ _) (Ao (ad _ _)))) ?_
         clear hf; intro a hf
         refine sxcall hf rfl rfl rfl rfl (g := 15) (vs := [.agg #[iV ((cellB (⟨bb.x0, bb.y0, bb.x1, bb.y1⟩ : B4)).d), iV ((cellB (⟨bb.x0, bb.y0, bb.x1, bb.y1⟩ : B4)).x), iV ((cellB (⟨bb.x0, bb.y0, bb.x1, bb.y1⟩ : B4)).y)]]) (ob := []) (by as_aux_lemma => kernel_rfl) An enters15 (up_any ((cellB (⟨bb.x0, bb.y0, bb.x1, bb.y1⟩ : B4)).d) ((cellB (⟨bb.x0, bb.y0, bb.x1, bb.y1⟩ : B4)).x) ((cellB (⟨bb.x0, bb.y0, bb.x1, bb.y1⟩ : B4)).y) w12 hoc ) ?_
         clear hf; rintro _ w13 a ⟨rfl, hk⟩ hf
         have hO := hO.keepNn hk
         have hM := hM.keepNn hk
         have hk0 := hk0.trans hk.nn
         clear hk
         refine q1 hf hM [14, 51, 50, 49, 48, 47, 46, 10, 3, 7, 8, 9, 31, 32, 33] [{}, {}, {}, { os := [.nw] }, { os := [.st 6 0, .st 6 1, .st 6 2] }, {}] (nw := fun B19 => [(16, eB (!(((cellB (⟨bb.x0, bb.y0, bb.x1, bb.y1⟩ : B4)).d) == 0))), (15, eP B19 0)]) (M' := fun B19 => [⟨B1, 22, [.slice av l.length c]⟩, ⟨B1 + 1, 3, [iV (deepV deep)]⟩, ⟨B1 + 2, 4, [bV left]⟩, ⟨B6, 26, [.map (some Bm1)]⟩, ⟨B11, 32, [iV bb.x0, iV bb.y0, iV bb.x1, iV bb.y1]⟩, ⟨B13, 29, [iV ((cellB (⟨bb.x0, bb.y0, bb.x1, bb.y1⟩ : B4)).d), iV ((cellB (⟨bb.x0, bb.y0, bb.x1, bb.y1⟩ : B4)).x), iV ((cellB (⟨bb.x0, bb.y0, bb.x1, bb.y1⟩ : B4)).y)]⟩, ⟨B19, 29, [iV ((upZ (⟨((cellB (⟨bb.x0, bb.y0, bb.x1, bb.y1⟩ : B4)).d), ((cellB (⟨bb.x0, bb.y0, bb.x1, bb.y1⟩ : B4)).x), ((cellB (⟨bb.x0, bb.y0, bb.x1, bb.y1⟩ : B4)).y)⟩ : C3)).d), iV ((upZ (⟨((cellB (⟨bb.x0, bb.y0, bb.x1, bb.y1⟩ : B4)).d), ((cellB (⟨bb.x0, bb.y0, bb.x1, bb.y1⟩ : B4)).x), ((cellB (⟨bb.x0, bb.y0, bb.x1, bb.y1⟩ : B4)).y)⟩ : C3)).x), iV ((upZ (⟨((cellB (⟨bb.x0, bb.y0, bb.x1, bb.y1⟩ : B4)).d), ((cellB (⟨bb.x0, bb.y0, bb.x1, bb.y1⟩ : B4)).x), ((cellB (⟨bb.x0, bb.y0, bb.x1, bb.y1⟩ : B4)).y)⟩ : C3)).y)]⟩]) (ob := fun B19 => [Ad B19 0, Ad B19 1, Ad B19 2]) (fun B19 => (Ac (ad _ _) (Ac (ad _ _) (Ao (ad _ _))))) ?_
         clear hf hM; intro a w14 B19 hf hM hB hk
         have hbB19 : w.heap.size ≤ B19 := by have := hk0.size; omega
         have hk0 := hk0.thenNew hk (by simp [Mem.names] <;> omega)
         have hO := hO.step hM hk (by intro i h; simp only [Mem.names, List.map_cons, List.map_nil, List.mem_cons, List.not_mem_nil, or_false, List.map_append, List.cons_append, List.nil_append] at h ⊢; omega)
         clear hk hB
         refine wpList_nil ?_
         refine hK22 _ _ ?_
         refine wp_block ?_
         have hf := (hf.prune [3, 7, 8, 9, 10, 14, 15, 16, 31, 32, 33, 46, 47, 48, 49, 50, 51]).to (env' := [(3, eP B1 0), (7, eP T1 0), (8, eP B6 0), (9, .val (.func (.func 12) #[] #[pV (B1 + 1) 0, pV (B1 + 2) 0])), (10, eI i), (14, eB (entW (deepV deep) left ((cellB (⟨bb.x0, bb.y0, bb.x1, bb.y1⟩ : B4)).d) ((cellB (⟨bb.x0, bb.y0, bb.x1, bb.y1⟩ : B4)).x))), (15, eP B19 0), (16, eB (!(((cellB (⟨bb.x0, bb.y0, bb.x1, bb.y1⟩ : B4)).d) == 0))), (31, eS av l.length c), (32, eI (l.length : Int)), (33, eI i), (46, eP T1 0), (47, eI i), (48, .val (.agg #[iV i, iV 1])), (49, .val (.agg #[iV bb.x0, iV bb.y0, iV bb.x1, iV bb.y1])), (50, .val (.nilIface)), (51, eB false)]) (by kernel_rfl)
         replace hM : MemOk [⟨B1, 22, [.slice av l.length c]⟩, ⟨B1 + 1, 3, [iV (deepV deep)]⟩, ⟨B1 + 2, 4, [bV left]⟩, ⟨B6, 26, [.map (some Bm1)]⟩, ⟨B11, 32, [iV bb.x0, iV bb.y0, iV bb.x1, iV bb.y1]⟩, ⟨B13, 29, [iV ((cellB (⟨bb.x0, bb.y0, bb.x1, bb.y1⟩ : B4)).d), iV ((cellB (⟨bb.x0, bb.y0, bb.x1, bb.y1⟩ : B4)).x), iV ((cellB (⟨bb.x0, bb.y0, bb.x1, bb.y1⟩ : B4)).y)]⟩, ⟨B19, 29, [iV ((upZ (cellB bb)).d), iV ((upZ (cellB bb)).x), iV ((upZ (cellB bb)).y)]⟩] w14 := by
          have e : ([⟨B1, 22, [.slice av l.length c]⟩, ⟨B1 + 1, 3, [iV (deepV deep)]⟩, ⟨B1 + 2, 4, [bV left]⟩, ⟨B6, 26, [.map (some Bm1)]⟩, ⟨B11, 32, [iV bb.x0, iV bb.y0, iV bb.x1, iV bb.y1]⟩, ⟨B13, 29, [iV ((cellB (⟨bb.x0, bb.y0, bb.x1, bb.y1⟩ : B4)).d), iV ((cellB (⟨bb.x0, bb.y0, bb.x1, bb.y1⟩ : B4)).x), iV ((cellB (⟨bb.x0, bb.y0, bb.x1, bb.y1⟩ : B4)).y)]⟩, ⟨B19, 29, [iV ((upZ (⟨((cellB (⟨bb.x0, bb.y0, bb.x1, bb.y1⟩ : B4)).d), ((cellB (⟨bb.x0, bb.y0, bb.x1, bb.y1⟩ : B4)).x), ((cellB (⟨bb.x0, bb.y0, bb.x1, bb.y1⟩ : B4)).y)⟩ : C3)).d), iV ((upZ (⟨((cellB (⟨bb.x0, bb.y0, bb.x1, bb.y1⟩ : B4)).d), ((cellB (⟨bb.x0, bb.y0, bb.x1, bb.y1⟩ : B4)).x), ((cellB (⟨bb.x0, bb.y0, bb.x1, bb.y1⟩ : B4)).y)⟩ : C3)).x), iV ((upZ (⟨((cellB (⟨bb.x0, bb.y0, bb.x1, bb.y1⟩ : B4)).d), ((cellB (⟨bb.x0, bb.y0, bb.x1, bb.y1⟩ : B4)).x), ((cellB (⟨bb.x0, bb.y0, bb.x1, bb.y1⟩ : B4)).y)⟩ : C3)).y)]⟩] : Mem) = [⟨B1, 22, [.slice av l.length c]⟩, ⟨B1 + 1, 3, [iV (deepV deep)]⟩, ⟨B1 + 2, 4, [bV left]⟩, ⟨B6, 26, [.map (some Bm1)]⟩, ⟨B11, 32, [iV bb.x0, iV bb.y0, iV bb.x1, iV bb.y1]⟩, ⟨B13, 29, [iV ((cellB (⟨bb.x0, bb.y0, bb.x1, bb.y1⟩ : B4)).d), iV ((cellB (⟨bb.x0, bb.y0, bb.x1, bb.y1⟩ : B4)).x), iV ((cellB (⟨bb.x0, bb.y0, bb.x1, bb.y1⟩ : B4)).y)]⟩, ⟨B19, 29, [iV ((upZ (cellB bb)).d), iV ((upZ (cellB bb)).x), iV ((upZ (cellB bb)).y)]⟩] := by first | rfl | (congr 3 <;> first | rfl | omega) | (simp; omega)
          rw [← e]; exact hM
         replace hO : OwnOk w.heap.size [⟨B1, 22, [.slice av l.length c]⟩, ⟨B1 + 1, 3, [iV (deepV deep)]⟩, ⟨B1 + 2, 4, [bV left]⟩, ⟨B6, 26, [.map (some Bm1)]⟩, ⟨B11, 32, [iV bb.x0, iV bb.y0, iV bb.x1, iV bb.y1]⟩, ⟨B13, 29, [iV ((cellB (⟨bb.x0, bb.y0, bb.x1, bb.y1⟩ : B4)).d), iV ((cellB (⟨bb.x0, bb.y0, bb.x1, bb.y1⟩ : B4)).x), iV ((cellB (⟨bb.x0, bb.y0, bb.x1, bb.y1⟩ : B4)).y)]⟩, ⟨B19, 29, [iV ((upZ (cellB bb)).d), iV ((upZ (cellB bb)).x), iV ((upZ (cellB bb)).y)]⟩] [oTree 72 68 T1 Bl2 (bsx l (i + 1).toNat), oM Bm1 vH vT (wantL (enC (deepV deep) left) (bsx l i.toNat))] w14 := ⟨hO.own, hO.nd⟩
         refine sxloop (fun zm a w1 => ∃ (ub : Nat) (zz : C3) (done : List C3) (inn more : Bool), zm = (if more = true then zz.d.toNat + 1 else 0) ∧ Fr 95 [(3, eP B1 0), (7, eP T1 0), (8, eP B6 0), (9, .val (.func (.func 12) #[] #[pV (B1 + 1) 0, pV (B1 + 2) 0])), (10, eI i), (14, eB inn), (15, eP ub 0), (16, eB more), (31, eS av l.length c), (32, eI (l.length : Int)), (33, eI i), (46, eP T1 0), (47, eI i), (48, .val (.agg #[iV i, iV 1])), (49, .val (.agg #[iV bb.x0, iV bb.y0, iV bb.x1, iV bb.y1])), (50, .val (.nilIface)), (51, eB false)] a ∧ MemOk [⟨B1, 22, [.slice av l.length c]⟩, ⟨B1 + 1, 3, [iV (deepV deep)]⟩, ⟨B1 + 2, 4, [bV left]⟩, ⟨B6, 26, [.map (some Bm1)]⟩, ⟨B11, 32, [iV bb.x0, iV bb.y0, iV bb.x1, iV bb.y1]⟩, ⟨B13, 29, [iV ((cellB (⟨bb.x0, bb.y0, bb.x1, bb.y1⟩ : B4)).d), iV ((cellB (⟨bb.x0, bb.y0, bb.x1, bb.y1⟩ : B4)).x), iV ((cellB (⟨bb.x0, bb.y0, bb.x1, bb.y1⟩ : B4)).y)]⟩, ⟨ub, 29, [iV zz.d, iV zz.x, iV zz.y]⟩] w1 ∧ Keep Nn w w1 ∧ OwnOk w.heap.size [⟨B1, 22, [.slice av l.length c]⟩, ⟨B1 + 1, 3, [iV (deepV deep)]⟩, ⟨B1 + 2, 4, [bV left]⟩, ⟨B6, 26, [.map (some Bm1)]⟩, ⟨B11, 32, [iV bb.x0, iV bb.y0, iV bb.x1, iV bb.y1]⟩, ⟨B13, 29, [iV ((cellB (⟨bb.x0, bb.y0, bb.x1, bb.y1⟩ : B4)).d), iV ((cellB (⟨bb.x0, bb.y0, bb.x1, bb.y1⟩ : B4)).x), iV ((cellB (⟨bb.x0, bb.y0, bb.x1, bb.y1⟩ : B4)).y)]⟩, ⟨ub, 29, [iV zz.d, iV zz.x, iV zz.y]⟩] [oTree 72 68 T1 Bl2 (bsx l (i + 1).toNat), oM Bm1 vH vT (wantL (enC (deepV deep) left) (bsx l i.toNat))] w1 ∧ (more = true → okC zz = true ∧ chain (cellB bb) = done ++ chain zz) ∧ (more = false → done = chain (cellB bb)) ∧ (inn = done.all (enC (deepV deep) left)) ∧ (w.heap.size ≤ ub)) _ ⟨B19, (upZ (cellB bb)), [cellB bb], (entW (deepV deep) left (cellB bb).d (cellB bb).x), (!((cellB bb).d == 0)), rfl, hf.conv (Ac rfl (Ac rfl (Ac rfl (Ac rfl (Ac rfl (Ac (by first | rfl | (congr 1)) (Ac rfl (Ac (by first | rfl | (congr 1)) (Ac rfl (Ac rfl (Ac rfl (Ac rfl (Ac rfl (Ac rfl (Ac rfl (Ac rfl (Ao rfl))))))))))))))))), hM, hk0, hO, (fun h => up_start hoc h), (fun h => up_stop h), (by simp [enC]), (by omega)⟩ ?_
         clear hf hM hk0 hO
         rintro _ a w15 ⟨ub, zz, done, inn, more, rfl, hf, hM, hk0, hO, hmt, hmf, hin, hbub⟩ L2 hL2
         refine wp_seq_k (fun K23 hK23 => ?_)
         refine wp_seq_k (fun K24 hK24 => ?_)
         refine wp_region_lit ?_
         refine q0 hf hM [3, 7, 8, 9, 10, 14, 15, 31, 32, 33, 46, 47, 48, 49, 50, 51] [{}] (nw := [(61, eB more)]) An ?_
         clear hf; intro a hf
         refine wpList_nil ?_
         refine hK24 _ _ ?_
         refine qc hf (b := more) (fun hc5r => ?_) (fun hc5r => ?_)
         · have hc5 := hc5r
           obtain rfl : more = true := hc5r
           obtain ⟨hz, hch⟩ := hmt rfl
           refine wp_skip ?_
           refine hK23 _ _ ?_
           refine wp_seq_k (fun K25 hK25 => ?_)
           refine wp_block ?_
           refine wp_region_lit ?_
           refine q0 hf hM [3, 7, 8, 9, 10, 14, 15, 31, 32, 33, 46, 47, 48, 49, 50, 51] [{}, {}] (nw := [(68, eB inn)]) An ?_
           clear hf; intro a hf
           rcases Bool.eq_false_or_eq_true inn with hg1r | hg1r
           · have hg1 := hg1r
             have hf := (hf.setb 68 hg1r).setb 14 hg1r
             refine q0 hf hM [68, 3, 7, 8, 9, 10, 14, 15, 31, 32, 33, 46, 47, 48, 49, 50, 51] [{}, { os := [.ld 6 0, .ld 6 1, .ld 6 2] }] (nw := [(70, .val (.agg #[iV zz.d, iV zz.x, iV zz.y])), (69, .val (.func (.func 12) #[] #[pV (B1 + 1) 0, pV (B1 + 2) 0]))]) (ob := [true = true, true = true, Ad ub 0, Ad ub 1, Ad ub 2]) (Ac rfl (Ac rfl (Ac (ad _ _) (Ac (ad _ _) (Ao (ad _ _)))))) ?_
             clear hf; intro a hf
             refine sxcallg hf rfl rfl rfl rfl rfl (g := 12) (vs := [.agg #[iV zz.d, iV zz.x, iV zz.y], pV (B1 + 1) 0, pV (B1 + 2) 0]) (ob := []) (by as_aux_lemma => kernel_rfl) An enters12 (enters_any (B1 + 1) (B1 + 2) (deepV deep) left zz.d zz.x zz.y w15 hz ((cell?_blk (hM.at_ _ (List.Mem.tail _ (List.Mem.head _))) 0).trans rfl) ((cell?_blk (hM.at_ _ (List.Mem.tail _ (List.Mem.tail _ (List.Mem.head _)))) 0).trans rfl)) ?_
             clear hf; rintro _ w16 a ⟨rfl, hk⟩ hf
             have hO := hO.keepNn hk
             have hM := hM.keepNn hk
             have hk0 := hk0.trans hk.nn
             clear hk
             refine q0 hf hM [71, 70, 69, 3, 7, 8, 9, 10, 15, 31, 32, 33, 46, 47, 48, 49, 50, 51] [{}, {}] (nw := [(14, eB (entW (deepV deep) left zz.d zz.x))]) An ?_
             clear hf; intro a hf
             refine wpList_nil ?_
             refine hK25 _ _ ?_
             refine wp_seq_k (fun K26 hK26 => ?_)
             refine wp_seq_k (fun K27 hK27 => ?_)
             refine wp_region_lit ?_
             refine q0 hf hM [14, 71, 70, 69, 3, 7, 8, 9, 10, 31, 32, 33, 46, 47, 48, 49, 50, 51] [{ os := [.ld 6 0, .ld 6 1, .ld 6 2] }] (nw := [(73, .val (.agg #[iV zz.d, iV zz.x, iV zz.y]))]) (ob := [Ad ub 0, Ad ub 1, Ad ub 2]) (Ac (ad _ _) (Ac (ad _ _) (Ao (ad _ _)))) ?_
             clear hf; intro a hf
             refine wpList_nil ?_
             refine hK27 _ _ ?_
             refine wp_region_lit ?_
             refine q1 hf hM [14, 71, 70, 69, 3, 7, 8, 9, 10, 31, 32, 33, 46, 47, 48, 49, 50, 51] [{ os := [.nw] }, { os := [.st 7 0, .st 7 1, .st 7 2] }] (nw := fun B25 => [(15, eP B25 0)]) (M' := fun B25 => [⟨B1, 22, [.slice av l.length c]⟩, ⟨B1 + 1, 3, [iV (deepV deep)]⟩, ⟨B1 + 2, 4, [bV left]⟩, ⟨B6, 26, [.map (some Bm1)]⟩, ⟨B11, 32, [iV bb.x0, iV bb.y0, iV bb.x1, iV bb.y1]⟩, ⟨B13, 29, [iV ((cellB (⟨bb.x0, bb.y0, bb.x1, bb.y1⟩ : B4)).d), iV ((cellB (⟨bb.x0, bb.y0, bb.x1, bb.y1⟩ : B4)).x), iV ((cellB (⟨bb.x0, bb.y0, bb.x1, bb.y1⟩ : B4)).y)]⟩, ⟨ub, 29, [iV zz.d, iV zz.x, iV zz.y]⟩, ⟨B25, 29, [iV zz.d, iV zz.x, iV zz.y]⟩]) (ob := fun B25 => [Ad B25 0, Ad B25 1, Ad B25 2]) (fun B25 => (Ac (ad _ _) (Ac (ad _ _) (Ao (ad _ _))))) ?_
             clear hf hM; intro a w17 B25 hf hM hB hk
             have hbB25 : w.heap.size ≤ B25 := by have := hk0.size; omega
             have hk0 := hk0.thenNew hk (by simp [Mem.names] <;> omega)
             have hO := hO.step hM hk (by intro i h; simp only [Mem.names, List.map_cons, List.map_nil, List.mem_cons, List.not_mem_nil, or_false, List.map_append, List.cons_append, List.nil_append] at h ⊢; omega)
             clear hk hB
             refine wpList_nil ?_
             refine hK26 _ _ ?_
             refine wp_region_lit ?_
             refine q0 hf hM [15, 14, 71, 70, 69, 3, 7, 8, 9, 10, 31, 32, 33, 46, 47, 48, 49, 50, 51] [{ os := [.ld 7 0, .ld 7 1, .ld 7 2] }] (nw := [(63, .val (.agg #[iV zz.d, iV zz.x, iV zz.y]))]) (ob := [Ad B25 0, Ad B25 1, Ad B25 2]) (Ac (ad _ _) (Ac (ad _ _) (Ao (ad _ _)))) ?_
             clear hf; intro a hf
             refine sxcall hf rfl rfl rfl rfl (g := 15) (vs := [.agg #[iV zz.d, iV zz.x, iV zz.y]]) (ob := []) (by as_aux_lemma => kernel_rfl) An enters15 (up_any zz.d zz.x zz.y w17 hz ) ?_
             clear hf; rintro _ w18 a ⟨rfl, hk⟩ hf
             have hO := hO.keepNn hk
             have hM := hM.keepNn hk
             have hk0 := hk0.trans hk.nn
             clear hk
             refine q1 hf hM [15, 14, 71, 70, 69, 3, 7, 8, 9, 10, 31, 32, 33, 46, 47, 48, 49, 50, 51] [{}, {}, {}, { os := [.st 7 0, .st 7 1, .st 7 2] }, {}] (nw := fun B27 => [(16, eB (!(zz.d == 0)))]) (M' := fun B27 => [⟨B1, 22, [.slice av l.length c]⟩, ⟨B1 + 1, 3, [iV (deepV deep)]⟩, ⟨B1 + 2, 4, [bV left]⟩, ⟨B6, 26, [.map (some Bm1)]⟩, ⟨B11, 32, [iV bb.x0, iV bb.y0, iV bb.x1, iV bb.y1]⟩, ⟨B13, 29, [iV ((cellB (⟨bb.x0, bb.y0, bb.x1, bb.y1⟩ : B4)).d), iV ((cellB (⟨bb.x0, bb.y0, bb.x1, bb.y1⟩ : B4)).x), iV ((cellB (⟨bb.x0, bb.y0, bb.x1, bb.y1⟩ : B4)).y)]⟩, ⟨ub, 29, [iV zz.d, iV zz.x, iV zz.y]⟩, ⟨B25, 29, [iV ((upZ (⟨zz.d, zz.x, zz.y⟩ : C3)).d), iV ((upZ (⟨zz.d, zz.x, zz.y⟩ : C3)).x), iV ((upZ (⟨zz.d, zz.x, zz.y⟩ : C3)).y)]⟩]) (ob := fun B27 => [Ad B25 0, Ad B25 1, Ad B25 2]) (fun B27 => (Ac (ad _ _) (Ac (ad _ _) (Ao (ad _ _))))) ?_
             clear hf hM; intro a w19 B27 hf hM hB hk
             have hbB27 : w.heap.size ≤ B27 := by have := hk0.size; omega
             have hk0 := hk0.thenNew hk (by simp [Mem.names] <;> omega)
             have hO := hO.step hM hk (by intro i h; simp only [Mem.names, List.map_cons, List.map_nil, List.mem_cons, List.not_mem_nil, or_false, List.map_append, List.cons_append, List.nil_append] at h ⊢; omega)
             clear hk hB
             refine wpList_nil ?_
             have hf := (hf.prune [3, 7, 8, 9, 10, 14, 15, 16, 31, 32, 33, 46, 47, 48, 49, 50, 51]).to (env' := [(3, eP B1 0), (7, eP T1 0), (8, eP B6 0), (9, .val (.func (.func 12) #[] #[pV (B1 + 1) 0, pV (B1 + 2) 0])), (10, eI i), (14, eB (entW (deepV deep) left zz.d zz.x)), (15, eP B25 0), (16, eB (!(zz.d == 0))), (31, eS av l.length c), (32, eI (l.length : Int)), (33, eI i), (46, eP T1 0), (47, eI i), (48, .val (.agg #[iV i, iV 1])), (49, .val (.agg #[iV bb.x0, iV bb.y0, iV bb.x1, iV bb.y1])), (50, .val (.nilIface)), (51, eB false)]) (by kernel_rfl)
             replace hO : OwnOk w.heap.size [⟨B1, 22, [.slice av l.length c]⟩, ⟨B1 + 1, 3, [iV (deepV deep)]⟩, ⟨B1 + 2, 4, [bV left]⟩, ⟨B6, 26, [.map (some Bm1)]⟩, ⟨B11, 32, [iV bb.x0, iV bb.y0, iV bb.x1, iV bb.y1]⟩, ⟨B13, 29, [iV ((cellB (⟨bb.x0, bb.y0, bb.x1, bb.y1⟩ : B4)).d), iV ((cellB (⟨bb.x0, bb.y0, bb.x1, bb.y1⟩ : B4)).x), iV ((cellB (⟨bb.x0, bb.y0, bb.x1, bb.y1⟩ : B4)).y)]⟩, ⟨B25, 29, [iV ((upZ (⟨zz.d, zz.x, zz.y⟩ : C3)).d), iV ((upZ (⟨zz.d, zz.x, zz.y⟩ : C3)).x), iV ((upZ (⟨zz.d, zz.x, zz.y⟩ : C3)).y)]⟩] [oTree 72 68 T1 Bl2 (bsx l (i + 1).toNat), oM Bm1 vH vT (wantL (enC (deepV deep) left) (bsx l i.toNat))] w19 := hO.sub (.cons_cons _ (.cons_cons _ (.cons_cons _ (.cons_cons _ (.cons_cons _ (.cons_cons _ (.cons _ (.cons_cons _ .slnil)))))))) (List.Sublist.refl _)
             replace hM : MemOk [⟨B1, 22, [.slice av l.length c]⟩, ⟨B1 + 1, 3, [iV (deepV deep)]⟩, ⟨B1 + 2, 4, [bV left]⟩, ⟨B6, 26, [.map (some Bm1)]⟩, ⟨B11, 32, [iV bb.x0, iV bb.y0, iV bb.x1, iV bb.y1]⟩, ⟨B13, 29, [iV ((cellB (⟨bb.x0, bb.y0, bb.x1, bb.y1⟩ : B4)).d), iV ((cellB (⟨bb.x0, bb.y0, bb.x1, bb.y1⟩ : B4)).x), iV ((cellB (⟨bb.x0, bb.y0, bb.x1, bb.y1⟩ : B4)).y)]⟩, ⟨B25, 29, [iV ((upZ (⟨zz.d, zz.x, zz.y⟩ : C3)).d), iV ((upZ (⟨zz.d, zz.x, zz.y⟩ : C3)).x), iV ((upZ (⟨zz.d, zz.x, zz.y⟩ : C3)).y)]⟩] w19 := hM.sub (.cons_cons _ (.cons_cons _ (.cons_cons _ (.cons_cons _ (.cons_cons _ (.cons_cons _ (.cons _ (.cons_cons _ .slnil))))))))
             replace hM : MemOk [⟨B1, 22, [.slice av l.length c]⟩, ⟨B1 + 1, 3, [iV (deepV deep)]⟩, ⟨B1 + 2, 4, [bV left]⟩, ⟨B6, 26, [.map (some Bm1)]⟩, ⟨B11, 32, [iV bb.x0, iV bb.y0, iV bb.x1, iV bb.y1]⟩, ⟨B13, 29, [iV ((cellB (⟨bb.x0, bb.y0, bb.x1, bb.y1⟩ : B4)).d), iV ((cellB (⟨bb.x0, bb.y0, bb.x1, bb.y1⟩ : B4)).x), iV ((cellB (⟨bb.x0, bb.y0, bb.x1, bb.y1⟩ : B4)).y)]⟩, ⟨B25, 29, [iV (upZ zz).d, iV (upZ zz).x, iV (upZ zz).y]⟩] w19 := by
              have e : ([⟨B1, 22, [.slice av l.length c]⟩, ⟨B1 + 1, 3, [iV (deepV deep)]⟩, ⟨B1 + 2, 4, [bV left]⟩, ⟨B6, 26, [.map (some Bm1)]⟩, ⟨B11, 32, [iV bb.x0, iV bb.y0, iV bb.x1, iV bb.y1]⟩, ⟨B13, 29, [iV ((cellB (⟨bb.x0, bb.y0, bb.x1, bb.y1⟩ : B4)).d), iV ((cellB (⟨bb.x0, bb.y0, bb.x1, bb.y1⟩ : B4)).x), iV ((cellB (⟨bb.x0, bb.y0, bb.x1, bb.y1⟩ : B4)).y)]⟩, ⟨B25, 29, [iV ((upZ (⟨zz.d, zz.x, zz.y⟩ : C3)).d), iV ((upZ (⟨zz.d, zz.x, zz.y⟩ : C3)).x), iV ((upZ (⟨zz.d, zz.x, zz.y⟩ : C3)).y)]⟩] : Mem) = [⟨B1, 22, [.slice av l.length c]⟩, ⟨B1 + 1, 3, [iV (deepV deep)]⟩, ⟨B1 + 2, 4, [bV left]⟩, ⟨B6, 26, [.map (some Bm1)]⟩, ⟨B11, 32, [iV bb.x0, iV bb.y0, iV bb.x1, iV bb.y1]⟩, ⟨B13, 29, [iV ((cellB (⟨bb.x0, bb.y0, bb.x1, bb.y1⟩ : B4)).d), iV ((cellB (⟨bb.x0, bb.y0, bb.x1, bb.y1⟩ : B4)).x), iV ((cellB (⟨bb.x0, bb.y0, bb.x1, bb.y1⟩ : B4)).y)]⟩, ⟨B25, 29, [iV (upZ zz).d, iV (upZ zz).x, iV (upZ zz).y]⟩] := by first | rfl | (congr 3 <;> first | rfl | omega) | (simp; omega)
              rw [← e]; exact hM
             replace hO : OwnOk w.heap.size [⟨B1, 22, [.slice av l.length c]⟩, ⟨B1 + 1, 3, [iV (deepV deep)]⟩, ⟨B1 + 2, 4, [bV left]⟩, ⟨B6, 26, [.map (some Bm1)]⟩, ⟨B11, 32, [iV bb.x0, iV bb.y0, iV bb.x1, iV bb.y1]⟩, ⟨B13, 29, [iV ((cellB (⟨bb.x0, bb.y0, bb.x1, bb.y1⟩ : B4)).d), iV ((cellB (⟨bb.x0, bb.y0, bb.x1, bb.y1⟩ : B4)).x), iV ((cellB (⟨bb.x0, bb.y0, bb.x1, bb.y1⟩ : B4)).y)]⟩, ⟨B25, 29, [iV (upZ zz).d, iV (upZ zz).x, iV (upZ zz).y]⟩] [oTree 72 68 T1 Bl2 (bsx l (i + 1).toNat), oM Bm1 vH vT (wantL (enC (deepV deep) left) (bsx l i.toNat))] w19 := ⟨hO.own, hO.nd⟩
             refine hL2 _ _ _ (by rw [if_pos rfl]; exact mea_up hz) ⟨B25, (upZ zz), (done ++ [zz]), entW (deepV deep) left zz.d zz.x, (!(zz.d == 0)), rfl, hf.conv (Ac rfl (Ac rfl (Ac rfl (Ac rfl (Ac rfl (Ac rfl (Ac rfl (Ac rfl (Ac rfl (Ac rfl (Ac rfl (Ac rfl (Ac rfl (Ac rfl (Ac rfl (Ac rfl (Ao rfl))))))))))))))))), hM, hk0, hO, (fun h => up_next hz hch h), (fun h => up_last hch h), (all_next hin (by rw [hg1r]; rfl)), (by omega)⟩
           · have hg1 := hg1r
             have hf := (hf.setb 68 hg1r).setb 14 hg1r
             refine q0 hf hM [68, 3, 7, 8, 9, 10, 14, 15, 31, 32, 33, 46, 47, 48, 49, 50, 51] [{ g := .off }, { g := .off }] (nw := [(70, .val (undef)), (69, .val (undef))]) (ob := [false = !true, false = !true]) (Ac rfl (Ao rfl)) ?_
             clear hf; intro a hf
             refine q0 hf hM [14, 70, 69, 3, 7, 8, 9, 10, 15, 31, 32, 33, 46, 47, 48, 49, 50, 51] [{ g := .off }, {}, {}] (nw := [(71, .val (undef))]) (ob := [false = !true]) (Ao rfl) ?_
             clear hf; intro a hf
             refine wpList_nil ?_
             refine hK25 _ _ ?_
             refine wp_seq_k (fun K28 hK28 => ?_)
             refine wp_seq_k (fun K29 hK29 => ?_)
             refine wp_region_lit ?_
             refine q0 hf hM [71, 14, 70, 69, 3, 7, 8, 9, 10, 31, 32, 33, 46, 47, 48, 49, 50, 51] [{ os := [.ld 6 0, .ld 6 1, .ld 6 2] }] (nw := [(73, .val (.agg #[iV zz.d, iV zz.x, iV zz.y]))]) (ob := [Ad ub 0, Ad ub 1, Ad ub 2]) (Ac (ad _ _) (Ac (ad _ _) (Ao (ad _ _)))) ?_
             clear hf; intro a hf
             refine wpList_nil ?_
             refine hK29 _ _ ?_
             refine wp_region_lit ?_
             refine q1 hf hM [71, 14, 70, 69, 3, 7, 8, 9, 10, 31, 32, 33, 46, 47, 48, 49, 50, 51] [{ os := [.nw] }, { os := [.st 7 0, .st 7 1, .st 7 2] }] (nw := fun B31 => [(15, eP B31 0)]) (M' := fun B31 => [⟨B1, 22, [.slice av l.length c]⟩, ⟨B1 + 1, 3, [iV (deepV deep)]⟩, ⟨B1 + 2, 4, [bV left]⟩, ⟨B6, 26, [.map (some Bm1)]⟩, ⟨B11, 32, [iV bb.x0, iV bb.y0, iV bb.x1, iV bb.y1]⟩, ⟨B13, 29, [iV ((cellB (⟨bb.x0, bb.y0, bb.x1, bb.y1⟩ : B4)).d), iV ((cellB (⟨bb.x0, bb.y0, bb.x1, bb.y1⟩ : B4)).x), iV ((cellB (⟨bb.x0, bb.y0, bb.x1, bb.y1⟩ : B4)).y)]⟩, ⟨ub, 29, [iV zz.d, iV zz.x, iV zz.y]⟩, ⟨B31, 29, [iV zz.d, iV zz.x, iV zz.y]⟩]) (ob := fun B31 => [Ad B31 0, Ad B31 1, Ad B31 2]) (fun B31 => (Ac (ad _ _) (Ac (ad _ _) (Ao (ad _ _))))) ?_
             clear hf hM; intro a w20 B31 hf hM hB hk
             have hbB31 : w.heap.size ≤ B31 := by have := hk0.size; omega
             have hk0 := hk0.thenNew hk (by simp [Mem.names] <;> omega)
             have hO := hO.step hM hk (by intro i h; simp only [Mem.names, List.map_cons, List.map_nil, List.mem_cons, List.not_mem_nil, or_false, List.map_append, List.cons_append, List.nil_append] at h ⊢; omega)
             clear hk hB
             refine wpList_nil ?_
             refine hK28 _ _ ?_
             refine wp_region_lit ?_
             refine q0 hf hM [15, 71, 14, 70, 69, 3, 7, 8, 9, 10, 31, 32, 33, 46, 47, 48, 49, 50, 51] [{ os := [.ld 7 0, .ld 7 1, .ld 7 2] }] (nw := [(63, .val (.agg #[iV zz.d, iV zz.x, iV zz.y]))]) (ob := [Ad B31 0, Ad B31 1, Ad B31 2]) (Ac (ad _ _) (Ac (ad _ _) (Ao (ad _ _)))) ?_
             clear hf; intro a hf
             refine sxcall hf rfl rfl rfl rfl (g := 15) (vs := [.agg #[iV zz.d, iV zz.x, iV zz.y]]) (ob := []) (by as_aux_lemma => kernel_rfl) An enters15 (up_any zz.d zz.x zz.y w20 hz ) ?_
             clear hf; rintro _ w21 a ⟨rfl, hk⟩ hf
             have hO := hO.keepNn hk
             have hM := hM.keepNn hk
             have hk0 := hk0.trans hk.nn
             clear hk
             refine q1 hf hM [15, 71, 14, 70, 69, 3, 7, 8, 9, 10, 31, 32, 33, 46, 47, 48, 49, 50, 51] [{}, {}, {}, { os := [.st 7 0, .st 7 1, .st 7 2] }, {}] (nw := fun B33 => [(16, eB (!(zz.d == 0)))]) (M' := fun B33 => [⟨B1, 22, [.slice av l.length c]⟩, ⟨B1 + 1, 3, [iV (deepV deep)]⟩, ⟨B1 + 2, 4, [bV left]⟩, ⟨B6, 26, [.map (some Bm1)]⟩, ⟨B11, 32, [iV bb.x0, iV bb.y0, iV bb.x1, iV bb.y1]⟩, ⟨B13, 29, [iV ((cellB (⟨bb.x0, bb.y0, bb.x1, bb.y1⟩ : B4)).d), iV ((cellB (⟨bb.x0, bb.y0, bb.x1, bb.y1⟩ : B4)).x), iV ((cellB (⟨bb.x0, bb.y0, bb.x1, bb.y1⟩ : B4)).y)]⟩, ⟨ub, 29, [iV zz.d, iV zz.x, iV zz.y]⟩, ⟨B31, 29, [iV ((upZ (⟨zz.d, zz.x, zz.y⟩ : C3)).d), iV ((upZ (⟨zz.d, zz.x, zz.y⟩ : C3)).x), iV ((upZ (⟨zz.d, zz.x, zz.y⟩ : C3)).y)]⟩]) (ob := fun B33 => [Ad B31 0, Ad B31 1, Ad B31 2]) (fun B33 => (Ac (ad _ _) (Ac (ad _ _) (Ao (ad _ _))))) ?_
             clear hf hM; intro a w22 B33 hf hM hB hk
             have hbB33 : w.heap.size ≤ B33 := by have := hk0.size; omega
             have hk0 := hk0.thenNew hk (by simp [Mem.names] <;> omega)
             have hO := hO.step hM hk (by intro i h; simp only [Mem.names, List.map_cons, List.map_nil, List.mem_cons, List.not_mem_nil, or_false, List.map_append, List.cons_append, List.nil_append] at h ⊢; omega)
             clear hk hB
             refine wpList_nil ?_
             have hf := (hf.prune [3, 7, 8, 9, 10, 14, 15, 16, 31, 32, 33, 46, 47, 48, 49, 50, 51]).to (env' := [(3, eP B1 0), (7, eP T1 0), (8, eP B6 0), (9, .val (.func (.func 12) #[] #[pV (B1 + 1) 0, pV (B1 + 2) 0])), (10, eI i), (14, eB false), (15, eP B31 0), (16, eB (!(zz.d == 0))), (31, eS av l.length c), (32, eI (l.length : Int)), (33, eI i), (46, eP T1 0), (47, eI i), (48, .val (.agg #[iV i, iV 1])), (49, .val (.agg #[iV bb.x0, iV bb.y0, iV bb.x1, iV bb.y1])), (50, .val (.nilIface)), (51, eB false)]) (by kernel_rfl)
             replace hO : OwnOk w.heap.size [⟨B1, 22, [.slice av l.length c]⟩, ⟨B1 + 1, 3, [iV (deepV deep)]⟩, ⟨B1 + 2, 4, [bV left]⟩, ⟨B6, 26, [.map (some Bm1)]⟩, ⟨B11, 32, [iV bb.x0, iV bb.y0, iV bb.x1, iV bb.y1]⟩, ⟨B13, 29, [iV ((cellB (⟨bb.x0, bb.y0, bb.x1, bb.y1⟩ : B4)).d), iV ((cellB (⟨bb.x0, bb.y0, bb.x1, bb.y1⟩ : B4)).x), iV ((cellB (⟨bb.x0, bb.y0, bb.x1, bb.y1⟩ : B4)).y)]⟩, ⟨B31, 29, [iV ((upZ (⟨zz.d, zz.x, zz.y⟩ : C3)).d), iV ((upZ (⟨zz.d, zz.x, zz.y⟩ : C3)).x), iV ((upZ (⟨zz.d, zz.x, zz.y⟩ : C3)).y)]⟩] [oTree 72 68 T1 Bl2 (bsx l (i + 1).toNat), oM Bm1 vH vT (wantL (enC (deepV deep) left) (bsx l i.toNat))] w22 := hO.sub (.cons_cons _ (.cons_cons _ (.cons_cons _ (.cons_cons _ (.cons_cons _ (.cons_cons _ (.cons _ (.cons_cons _ .slnil)))))))) (List.Sublist.refl _)
             replace hM : MemOk [⟨B1, 22, [.slice av l.length c]⟩, ⟨B1 + 1, 3, [iV (deepV deep)]⟩, ⟨B1 + 2, 4, [bV left]⟩, ⟨B6, 26, [.map (some Bm1)]⟩, ⟨B11, 32, [iV bb.x0, iV bb.y0, iV bb.x1, iV bb.y1]⟩, ⟨B13, 29, [iV ((cellB (⟨bb.x0, bb.y0, bb.x1, bb.y1⟩ : B4)).d), iV ((cellB (⟨bb.x0, bb.y0, bb.x1, bb.y1⟩ : B4)).x), iV ((cellB (⟨bb.x0, bb.y0, bb.x1, bb.y1⟩ : B4)).y)]⟩, ⟨B31, 29, [iV ((upZ (⟨zz.d, zz.x, zz.y⟩ : C3)).d), iV ((upZ (⟨zz.d, zz.x, zz.y⟩ : C3)).x), iV ((upZ (⟨zz.d, zz.x, zz.y⟩ : C3)).y)]⟩] w22 := hM.sub (.cons_cons _ (.cons_cons _ (.cons_cons _ (.cons_cons _ (.cons_cons _ (.cons_cons _ (.cons _ (.cons_cons _ .slnil))))))))
             replace hM : MemOk [⟨B1, 22, [.slice av l.length c]⟩, ⟨B1 + 1, 3, [iV (deepV deep)]⟩, ⟨B1 + 2, 4, [bV left]⟩, ⟨B6, 26, [.map (some Bm1)]⟩, ⟨B11, 32, [iV bb.x0, iV bb.y0, iV bb.x1, iV bb.y1]⟩, ⟨B13, 29, [iV ((cellB (⟨bb.x0, bb.y0, bb.x1, bb.y1⟩ : B4)).d), iV ((cellB (⟨bb.x0, bb.y0, bb.x1, bb.y1⟩ : B4)).x), iV ((cellB (⟨bb.x0, bb.y0, bb.x1, bb.y1⟩ : B4)).y)]⟩, ⟨B31, 29, [iV (upZ zz).d, iV (upZ zz).x, iV (upZ zz).y]⟩] w22 := by
              have e : ([⟨B1, 22, [.slice av l.length c]⟩, ⟨B1 + 1, 3, [iV (deepV deep)]⟩, ⟨B1 + 2, 4, [bV left]⟩, ⟨B6, 26, [.map (some Bm1)]⟩, ⟨B11, 32, [iV bb.x0, iV bb.y0, iV bb.x1, iV bb.y1]⟩, ⟨B13, 29, [iV ((cellB (⟨bb.x0, bb.y0, bb.x1, bb.y1⟩ : B4)).d), iV ((cellB (⟨bb.x0, bb.y0, bb.x1, bb.y1⟩ : B4)).x), iV ((cellB (⟨bb.x0, bb.y0, bb.x1, bb.y1⟩ : B4)).y)]⟩, ⟨B31, 29, [iV ((upZ (⟨zz.d, zz.x, zz.y⟩ : C3)).d), iV ((upZ (⟨zz.d, zz.x, zz.y⟩ : C3)).x), iV ((upZ (⟨zz.d, zz.x, zz.y⟩ : C3)).y)]⟩] : Mem) = [⟨B1, 22, [.slice av l.length c]⟩, ⟨B1 + 1, 3, [iV (deepV deep)]⟩, ⟨B1 + 2, 4, [bV left]⟩, ⟨B6, 26, [.map (some Bm1)]⟩, ⟨B11, 32, [iV bb.x0, iV bb.y0, iV bb.x1, iV bb.y1]⟩, ⟨B13, 29, [iV ((cellB (⟨bb.x0, bb.y0, bb.x1, bb.y1⟩ : B4)).d), iV ((cellB (⟨bb.x0, bb.y0, bb.x1, bb.y1⟩ : B4)).x), iV ((cellB (⟨bb.x0, bb.y0, bb.x1, bb.y1⟩ : B4)).y)]⟩, ⟨B31, 29, [iV (upZ zz).d, iV (upZ zz).x, iV (upZ zz).y]⟩] := by first | rfl | (congr 3 <;> first | rfl | omega) | (simp; omega)
              rw [← e]; exact hM
             replace hO : OwnOk w.heap.size [⟨B1, 22, [.slice av l.length c]⟩, ⟨B1 + 1, 3, [iV (deepV deep)]⟩, ⟨B1 + 2, 4, [bV left]⟩, ⟨B6, 26, [.map (some Bm1)]⟩, ⟨B11, 32, [iV bb.x0, iV bb.y0, iV bb.x1, iV bb.y1]⟩, ⟨B13, 29, [iV ((cellB (⟨bb.x0, bb.y0, bb.x1, bb.y1⟩ : B4)).d), iV ((cellB (⟨bb.x0, bb.y0, bb.x1, bb.y1⟩ : B4)).x), iV ((cellB (⟨bb.x0, bb.y0, bb.x1, bb.y1⟩ : B4)).y)]⟩, ⟨B31, 29, [iV (upZ zz).d, iV (upZ zz).x, iV (upZ zz).y]⟩] [oTree 72 68 T1 Bl2 (bsx l (i + 1).toNat), oM Bm1 vH vT (wantL (enC (deepV deep) left) (bsx l i.toNat))] w22 := ⟨hO.own, hO.nd⟩
             refine hL2 _ _ _ (by rw [if_pos rfl]; exact mea_up hz) ⟨B31, (upZ zz), (done ++ [zz]), false, (!(zz.d == 0)), rfl, hf.conv (Ac rfl (Ac rfl (Ac rfl (Ac rfl (Ac rfl (Ac rfl (Ac rfl (Ac rfl (Ac rfl (Ac rfl (Ac rfl (Ac rfl (Ac rfl (Ac rfl (Ac rfl (Ac rfl (Ao rfl))))))))))))))))), hM, hk0, hO, (fun h => up_next hz hch h), (fun h => up_last hch h), (all_next hin (by rw [hg1r]; rfl)), (by omega)⟩
         · have hc5 := hc5r
           refine wp_exit ?_
           refine hK21 _ _ ?_
           refine wp_seq_k (fun K30 hK30 => ?_)
           refine wp_region_lit ?_
           refine q0 hf hM [3, 7, 8, 9, 10, 31, 32, 33, 46, 47, 48, 49, 50, 51] [{}] (nw := [(74, eB inn)]) An ?_
           clear hf; intro a hf
           refine wpList_nil ?_
           refine hK30 _ _ ?_
           refine qc hf (b := inn) (fun hc6r => ?_) (fun hc6r => ?_)
           · have hc6 := hc6r
             refine wp_region_lit ?_
             refine q0 hf hM [3, 7, 8, 9, 31, 32, 33, 46, 47, 48, 49, 50, 51] [{ os := [.ld 3 0] }, {}, { sp := true }] (nw := [(77, .val (.agg #[iV i, iV 1])), (75, .val (.map (some Bm1)))]) (ob := [Ad B6 0]) (Ao (ad _ _)) ?_
             clear hf; intro a hf
             replace hO : OwnOk w.heap.size [⟨B1, 22, [.slice av l.length c]⟩, ⟨B1 + 1, 3, [iV (deepV deep)]⟩, ⟨B1 + 2, 4, [bV left]⟩, ⟨B6, 26, [.map (some Bm1)]⟩, ⟨B11, 32, [iV bb.x0, iV bb.y0, iV bb.x1, iV bb.y1]⟩, ⟨B13, 29, [iV ((cellB (⟨bb.x0, bb.y0, bb.x1, bb.y1⟩ : B4)).d), iV ((cellB (⟨bb.x0, bb.y0, bb.x1, bb.y1⟩ : B4)).x), iV ((cellB (⟨bb.x0, bb.y0, bb.x1, bb.y1⟩ : B4)).y)]⟩, ⟨ub, 29, [iV zz.d, iV zz.x, iV zz.y]⟩] [oM Bm1 vH vT (wantL (enC (deepV deep) left) (bsx l i.toNat)), oTree 72 68 T1 Bl2 (bsx l (i + 1).toNat)] w15 := OwnOk.front (l1 := [oTree 72 68 T1 Bl2 (bsx l (i + 1).toNat)]) (l2 := []) hO
             refine sxmapset hf hM hO keyH rfl rfl rfl rfl (⟨i, 1⟩ : H2) rfl (true : Bool) rfl Tryd.underlying26 ?_; clear hf hM; intro a w23 hf hM hO2 hk
             have hk0 := hk0.then hk (by intro i hi h; subst h; have := (hO.ltB (List.Mem.head _) (List.mem_singleton.2 rfl)).1; omega)
             clear hO; have hO := hO2; clear hO2
             clear hk
             replace hO : OwnOk w.heap.size [⟨B1, 22, [.slice av l.length c]⟩, ⟨B1 + 1, 3, [iV (deepV deep)]⟩, ⟨B1 + 2, 4, [bV left]⟩, ⟨B6, 26, [.map (some Bm1)]⟩, ⟨B11, 32, [iV bb.x0, iV bb.y0, iV bb.x1, iV bb.y1]⟩, ⟨B13, 29, [iV ((cellB (⟨bb.x0, bb.y0, bb.x1, bb.y1⟩ : B4)).d), iV ((cellB (⟨bb.x0, bb.y0, bb.x1, bb.y1⟩ : B4)).x), iV ((cellB (⟨bb.x0, bb.y0, bb.x1, bb.y1⟩ : B4)).y)]⟩, ⟨ub, 29, [iV zz.d, iV zz.x, iV zz.y]⟩] [oM Bm1 vH vT (putK (wantL (enC (deepV deep) left) (bsx l i.toNat)) (⟨i, 1⟩ : H2) (true : Bool)), oTree 72 68 T1 Bl2 (bsx l (i + 1).toNat)] w23 := hO
             refine wpList_nil ?_
             refine hK15 _ _ ?_
             refine wp_region_lit ?_
             refine q0 hf hM [3, 7, 8, 9, 31, 32, 46, 47, 48, 49, 50, 51] [{ hint := some (iV (i + 1)) }, {}] (nw := [(33, eI (i + 1))]) (ob := [(iV (IntKind.i64.wrap (i + 1)) : Value) = (iV (i + 1) : Value)]) (Ao (wr (by omega))) ?_
             clear hf; intro a hf
             refine wpList_nil ?_
             have hgd : goodB (enC (deepV deep) left) ((⟨i, 1⟩ : H2), bb) = true := by unfold goodB; rw [← hmf hc5r, ← hin]; exact hc6r
             have ew : (putK (wantL (enC (deepV deep) left) (bsx l i.toNat)) (⟨i, 1⟩ : H2) (true : Bool)) = wantL (enC (deepV deep) left) (bsx l (i + 1).toNat) := by rw [want_yes hgd (bsx_new l hi.1), eb]
             rw [ew] at hO
             have hf := (hf.prune [3, 7, 8, 9, 31, 32, 33]).to (env' := [(3, eP B1 0), (7, eP T1 0), (8, eP B6 0), (9, .val (.func (.func 12) #[] #[pV (B1 + 1) 0, pV (B1 + 2) 0])), (31, eS av l.length c), (32, eI (l.length : Int)), (33, eI (i + 1))]) (by kernel_rfl)
             replace hO : OwnOk w.heap.size [⟨B1, 22, [.slice av l.length c]⟩, ⟨B1 + 1, 3, [iV (deepV deep)]⟩, ⟨B1 + 2, 4, [bV left]⟩, ⟨B6, 26, [.map (some Bm1)]⟩] [oM Bm1 vH vT (wantL (enC (deepV deep) left) (bsx l (i + 1).toNat)), oTree 72 68 T1 Bl2 (bsx l (i + 1).toNat)] w23 := hO.sub (.cons_cons _ (.cons_cons _ (.cons_cons _ (.cons_cons _ (.cons _ (.cons _ (.cons _ .slnil))))))) (List.Sublist.refl _)
             replace hM : MemOk [⟨B1, 22, [.slice av l.length c]⟩, ⟨B1 + 1, 3, [iV (deepV deep)]⟩, ⟨B1 + 2, 4, [bV left]⟩, ⟨B6, 26, [.map (some Bm1)]⟩] w23 := hM.sub (.cons_cons _ (.cons_cons _ (.cons_cons _ (.cons_cons _ (.cons _ (.cons _ (.cons _ .slnil)))))))
             refine hL1 _ _ _ (by omega) ⟨i + 1, Bl2, rfl, hf.conv (Ac rfl (Ac rfl (Ac rfl (Ac rfl (Ac rfl (Ac rfl (Ao rfl))))))), hM, hk0, hO, (by omega)⟩
           · have hc6 := hc6r
             refine wp_skip ?_
             refine hK15 _ _ ?_
             refine wp_region_lit ?_
             refine q0 hf hM [3, 7, 8, 9, 31, 32, 46, 47, 48, 49, 50, 51] [{ hint := some (iV (i + 1)) }, {}] (nw := [(33, eI (i + 1))]) (ob := [(iV (IntKind.i64.wrap (i + 1)) : Value) = (iV (i + 1) : Value)]) (Ao (wr (by omega))) ?_
             clear hf; intro a hf
             refine wpList_nil ?_
             replace hO : OwnOk w.heap.size [⟨B1, 22, [.slice av l.length c]⟩, ⟨B1 + 1, 3, [iV (deepV deep)]⟩, ⟨B1 + 2, 4, [bV left]⟩, ⟨B6, 26, [.map (some Bm1)]⟩, ⟨B11, 32, [iV bb.x0, iV bb.y0, iV bb.x1, iV bb.y1]⟩, ⟨B13, 29, [iV ((cellB (⟨bb.x0, bb.y0, bb.x1, bb.y1⟩ : B4)).d), iV ((cellB (⟨bb.x0, bb.y0, bb.x1, bb.y1⟩ : B4)).x), iV ((cellB (⟨bb.x0, bb.y0, bb.x1, bb.y1⟩ : B4)).y)]⟩, ⟨ub, 29, [iV zz.d, iV zz.x, iV zz.y]⟩] [oM Bm1 vH vT (wantL (enC (deepV deep) left) (bsx l i.toNat)), oTree 72 68 T1 Bl2 (bsx l (i + 1).toNat)] w15 := OwnOk.front (l1 := [oTree 72 68 T1 Bl2 (bsx l (i + 1).toNat)]) (l2 := []) hO
             have hgd : goodB (enC (deepV deep) left) ((⟨i, 1⟩ : H2), bb) = false := by unfold goodB; rw [← hmf hc5r, ← hin]; exact hc6r
             have ew : (wantL (enC (deepV deep) left) (bsx l i.toNat)) = wantL (enC (deepV deep) left) (bsx l (i + 1).toNat) := by rw [want_no hgd, eb]
             rw [ew] at hO
             have hf := (hf.prune [3, 7, 8, 9, 31, 32, 33]).to (env' := [(3, eP B1 0), (7, eP T1 0), (8, eP B6 0), (9, .val (.func (.func 12) #[] #[pV (B1 + 1) 0, pV (B1 + 2) 0])), (31, eS av l.length c), (32, eI (l.length : Int)), (33, eI (i + 1))]) (by kernel_rfl)
             replace hO : OwnOk w.heap.size [⟨B1, 22, [.slice av l.length c]⟩, ⟨B1 + 1, 3, [iV (deepV deep)]⟩, ⟨B1 + 2, 4, [bV left]⟩, ⟨B6, 26, [.map (some Bm1)]⟩] [oM Bm1 vH vT (wantL (enC (deepV deep) left) (bsx l (i + 1).toNat)), oTree 72 68 T1 Bl2 (bsx l (i + 1).toNat)] w15 := hO.sub (.cons_cons _ (.cons_cons _ (.cons_cons _ (.cons_cons _ (.cons _ (.cons _ (.cons _ .slnil))))))) (List.Sublist.refl _)
             replace hM : MemOk [⟨B1, 22, [.slice av l.length c]⟩, ⟨B1 + 1, 3, [iV (deepV deep)]⟩, ⟨B1 + 2, 4, [bV left]⟩, ⟨B6, 26, [.map (some Bm1)]⟩] w15 := hM.sub (.cons_cons _ (.cons_cons _ (.cons_cons _ (.cons_cons _ (.cons _ (.cons _ (.cons _ .slnil)))))))
             refine hL1 _ _ _ (by omega) ⟨i + 1, Bl2, rfl, hf.conv (Ac rfl (Ac rfl (Ac rfl (Ac rfl (Ac rfl (Ac rfl (Ao rfl))))))), hM, hk0, hO, (by omega)⟩
       · have hs2 := hs2r
         refine sxcall hf rfl rfl rfl rfl (g := 13) (vs := [.agg #[iV bb.x0, iV bb.y0, iV bb.x1, iV bb.y1]]) (ob := []) (by as_aux_lemma => kernel_rfl) An enters13 (of_range E bb.x0 bb.y0 bb.x1 bb.y1 w8 hs1r hs2r (hG.keep hk0 (fun _ h => h))) ?_
         clear hf; rintro _ w24 a ⟨rfl, hk⟩ hf
         have hO := hO.keepNn hk
         have hM := hM.keepNn hk
         have hk0 := hk0.trans hk.nn
         clear hk
         refine q1 hf hM [10, 11, 3, 7, 8, 9, 31, 32, 33] [{}, {}, {}, { os := [.nw] }, { os := [.st 5 0, .st 5 1, .st 5 2] }, {}] (nw := fun B38 => [(13, .val (.iface 161 (.pointer (some (E 1))))), (12, eP B38 0)]) (M' := fun B38 => [⟨B1, 22, [.slice av l.length c]⟩, ⟨B1 + 1, 3, [iV (deepV deep)]⟩, ⟨B1 + 2, 4, [bV left]⟩, ⟨B6, 26, [.map (some Bm1)]⟩, ⟨B11, 32, [iV bb.x0, iV bb.y0, iV bb.x1, iV bb.y1]⟩, ⟨B38, 29, [iV 0, iV 0, iV 0]⟩]) (ob := fun B38 => [Ad B38 0, Ad B38 1, Ad B38 2]) (fun B38 => (Ac (ad _ _) (Ac (ad _ _) (Ao (ad _ _))))) ?_
         clear hf hM; intro a w25 B38 hf hM hB hk
         have hbB38 : w.heap.size ≤ B38 := by have := hk0.size; omega
         have hk0 := hk0.thenNew hk (by simp [Mem.names] <;> omega)
         have hO := hO.step hM hk (by intro i h; simp only [Mem.names, List.map_cons, List.map_nil, List.mem_cons, List.not_mem_nil, or_false, List.map_append, List.cons_append, List.nil_append] at h ⊢; omega)
         clear hk hB
         refine wpList_nil ?_
         refine hK17 _ _ ?_
         refine wp_seq_k (fun K31 hK31 => ?_)
         refine wp_seq_k (fun K32 hK32 => ?_)
         refine wp_region_lit ?_
         refine q0 hf hM [12, 10, 3, 7, 8, 9, 31, 32, 33] [{}, {}, {}, { g := .off }, { g := .off }, { g := .off }, { g := .off }] (nw := [(49, .val (undef)), (48, .val (undef)), (47, .val (undef)), (46, .val (undef)), (45, eB true)]) (ob := [true = !false, true = !false, true = !false, true = !false]) (Ac rfl (Ac rfl (Ac rfl (Ao rfl)))) ?_
         clear hf; intro a hf
         refine q0 hf hM [49, 48, 47, 46, 12, 10, 3, 7, 8, 9, 31, 32, 33] [{ g := .off }, { g := .off }, {}] (nw := [(52, eB true), (51, .val (undef)), (50, .val (undef))]) (ob := [true = !false, true = !false]) (Ac rfl (Ao rfl)) ?_
         clear hf; intro a hf
         refine wpList_nil ?_
         refine hK32 _ _ ?_
         refine sxcond hf (b := true) (by kernel_rfl) (fun _ => ?_) (fun h => by cases h)
         refine wp_seq_k (fun K33 hK33 => ?_)
         refine wp_region_lit ?_
         refine q0 hf hM [] [{}] (nw := [(6, eB true)]) An ?_
         clear hf; intro a hf
         refine wpList_nil ?_
         refine hK33 _ _ ?_
         refine wp_ret ?_
         refine qr (fn := Tryd.f3) hf hM [] (l := [bV true]) (ob := []) An ?_
         show (bV true : Value) = .bool true ∧ Keep Nn w w25
         exact ⟨rfl, hk0⟩
     · have hs1 := hs1r
       rcases Bool.eq_false_or_eq_true (inWorld bb.x0 bb.y0 bb.x1 bb.y1) with hs3r | hs3r
       · have hs3 := hs3r
         refine sxcall hf rfl rfl rfl rfl (g := 13) (vs := [.agg #[iV bb.x0, iV bb.y0, iV bb.x1, iV bb.y1]]) (ob := []) (by as_aux_lemma => kernel_rfl) An enters13 (of_form E bb.x0 bb.y0 bb.x1 bb.y1 w8 hs1r (hG.keep hk0 (fun _ h => h))) ?_
         clear hf; rintro _ w26 a ⟨rfl, hk⟩ hf
         have hO := hO.keepNn hk
         have hM := hM.keepNn hk
         have hk0 := hk0.trans hk.nn
         clear hk
         refine q1 hf hM [10, 11, 3, 7, 8, 9, 31, 32, 33] [{}, {}, {}, { os := [.nw] }, { os := [.st 5 0, .st 5 1, .st 5 2] }, {}] (nw := fun B42 => [(13, .val (.iface 161 (.pointer (some (E 0))))), (12, eP B42 0)]) (M' := fun B42 => [⟨B1, 22, [.slice av l.length c]⟩, ⟨B1 + 1, 3, [iV (deepV deep)]⟩, ⟨B1 + 2, 4, [bV left]⟩, ⟨B6, 26, [.map (some Bm1)]⟩, ⟨B11, 32, [iV bb.x0, iV bb.y0, iV bb.x1, iV bb.y1]⟩, ⟨B42, 29, [iV 0, iV 0, iV 0]⟩]) (ob := fun B42 => [Ad B42 0, Ad B42 1, Ad B42 2]) (fun B42 => (Ac (ad _ _) (Ac (ad _ _) (Ao (ad _ _))))) ?_
         clear hf hM; intro a w27 B42 hf hM hB hk
         have hbB42 : w.heap.size ≤ B42 := by have := hk0.size; omega
         have hk0 := hk0.thenNew hk (by simp [Mem.names] <;> omega)
         have hO := hO.step hM hk (by intro i h; simp only [Mem.names, List.map_cons, List.map_nil, List.mem_cons, List.not_mem_nil, or_false, List.map_append, List.cons_append, List.nil_append] at h ⊢; omega)
         clear hk hB
         refine wpList_nil ?_
         refine hK17 _ _ ?_
         refine wp_seq_k (fun K34 hK34 => ?_)
         refine wp_seq_k (fun K35 hK35 => ?_)
         refine wp_region_lit ?_
         refine q0 hf hM [12, 10, 3, 7, 8, 9, 31, 32, 33] [{}, {}, {}, { g := .off }, { g := .off }, { g := .off }, { g := .off }] (nw := [(49, .val (undef)), (48, .val (undef)), (47, .val (undef)), (46, .val (undef)), (45, eB true)]) (ob := [true = !false, true = !false, true = !false, true = !false]) (Ac rfl (Ac rfl (Ac rfl (Ao rfl)))) ?_
         clear hf; intro a hf
         refine q0 hf hM [49, 48, 47, 46, 12, 10, 3, 7, 8, 9, 31, 32, 33] [{ g := .off }, { g := .off }, {}] (nw := [(52, eB true), (51, .val (undef)), (50, .val (undef))]) (ob := [true = !false, true = !false]) (Ac rfl (Ao rfl)) ?_
         clear hf; intro a hf
         refine wpList_nil ?_
         refine hK35 _ _ ?_
         refine sxcond hf (b := true) (by kernel_rfl) (fun _ => ?_) (fun h => by cases h)
         refine wp_seq_k (fun K36 hK36 => ?_)
         refine wp_region_lit ?_
         refine q0 hf hM [] [{}] (nw := [(6, eB true)]) An ?_
         clear hf; intro a hf
         refine wpList_nil ?_
         refine hK36 _ _ ?_
         refine wp_ret ?_
         refine qr (fn := Tryd.f3) hf hM [] (l := [bV true]) (ob := []) An ?_
         show (bV true : Value) = .bool true ∧ Keep Nn w w27
         exact ⟨rfl, hk0⟩
       · have hs3 := hs3r
         refine sxcall hf rfl rfl rfl rfl (g := 13) (vs := [.agg #[iV bb.x0, iV bb.y0, iV bb.x1, iV bb.y1]]) (ob := []) (by as_aux_lemma => kernel_rfl) An enters13 (of_form E bb.x0 bb.y0 bb.x1 bb.y1 w8 hs1r (hG.keep hk0 (fun _ h => h))) ?_
         clear hf; rintro _ w28 a ⟨rfl, hk⟩ hf
         have hO := hO.keepNn hk
         have hM := hM.keepNn hk
         have hk0 := hk0.trans hk.nn
         clear hk
         refine q1 hf hM [10, 11, 3, 7, 8, 9, 31, 32, 33] [{}, {}, {}, { os := [.nw] }, { os := [.st 5 0, .st 5 1, .st 5 2] }, {}] (nw := fun B46 => [(13, .val (.iface 161 (.pointer (some (E 0))))), (12, eP B46 0)]) (M' := fun B46 => [⟨B1, 22, [.slice av l.length c]⟩, ⟨B1 + 1, 3, [iV (deepV deep)]⟩, ⟨B1 + 2, 4, [bV left]⟩, ⟨B6, 26, [.map (some Bm1)]⟩, ⟨B11, 32, [iV bb.x0, iV bb.y0, iV bb.x1, iV bb.y1]⟩, ⟨B46, 29, [iV 0, iV 0, iV 0]⟩]) (ob := fun B46 => [Ad B46 0, Ad B46 1, Ad B46 2]) (fun B46 => (Ac (ad _ _) (Ac (ad _ _) (Ao (ad _ _))))) ?_
         clear hf hM; intro a w29 B46 hf hM hB hk
         have hbB46 : w.heap.size ≤ B46 := by have := hk0.size; omega
         have hk0 := hk0.thenNew hk (by simp [Mem.names] <;> omega)
         have hO := hO.step hM hk (by intro i h; simp only [Mem.names, List.map_cons, List.map_nil, List.mem_cons, List.not_mem_nil, or_false, List.map_append, List.cons_append, List.nil_append] at h ⊢; omega)
         clear hk hB
         refine wpList_nil ?_
         refine hK17 _ _ ?_
         refine wp_seq_k (fun K37 hK37 => ?_)
         refine wp_seq_k (fun K38 hK38 => ?_)
         refine wp_region_lit ?_
         refine q0 hf hM [12, 10, 3, 7, 8, 9, 31, 32, 33] [{}, {}, {}, { g := .off }, { g := .off }, { g := .off }, { g := .off }] (nw := [(49, .val (undef)), (48, .val (undef)), (47, .val (undef)), (46, .val (undef)), (45, eB true)]) (ob := [true = !false, true = !false, true = !false, true = !false]) (Ac rfl (Ac rfl (Ac rfl (Ao rfl)))) ?_
         clear hf; intro a hf
         refine q0 hf hM [49, 48, 47, 46, 12, 10, 3, 7, 8, 9, 31, 32, 33] [{ g := .off }, { g := .off }, {}] (nw := [(52, eB true), (51, .val (undef)), (50, .val (undef))]) (ob := [true = !false, true = !false]) (Ac rfl (Ao rfl)) ?_
         clear hf; intro a hf
         refine wpList_nil ?_
         refine hK38 _ _ ?_
         refine sxcond hf (b := true) (by kernel_rfl) (fun _ => ?_) (fun h => by cases h)
         refine wp_seq_k (fun K39 hK39 => ?_)
         refine wp_region_lit ?_
         refine q0 hf hM [] [{}] (nw := [(6, eB true)]) An ?_
         clear hf; intro a hf
         refine wpList_nil ?_
         refine hK39 _ _ ?_
         refine wp_ret ?_
         refine qr (fn := Tryd.f3) hf hM [] (l := [bV true]) (ob := []) An ?_
         show (bV true : Value) = .bool true ∧ Keep Nn w w29
         exact ⟨rfl, hk0⟩
   · have hc3 := (nU hc3r)
     refine wp_exit ?_
     refine hK11 _ _ ?_
     refine wp_seq_k (fun K40 hK40 => ?_)
     refine wp_region_lit ?_
     refine q1 hf hM [3, 7, 8, 9] [{ os := [.nw] }, { os := [.st 4 0] }] (nw := fun B50 => [(17, eP B50 0)]) (M' := fun B50 => [⟨B1, 22, [.slice av l.length c]⟩, ⟨B1 + 1, 3, [iV (deepV deep)]⟩, ⟨B1 + 2, 4, [bV left]⟩, ⟨B6, 26, [.map (some Bm1)]⟩, ⟨B50, 3, [iV 0]⟩]) (ob := fun B50 => [Ad B50 0]) (fun B50 => (Ao (ad _ _))) ?_
     clear hf hM; intro a w30 B50 hf hM hB hk
     have hbB50 : w.heap.size ≤ B50 := by have := hk0.size; omega
     have hk0 := hk0.thenNew hk (by simp [Mem.names] <;> omega)
     have hO := hO.step hM hk (by intro i h; simp only [Mem.names, List.map_cons, List.map_nil, List.mem_cons, List.not_mem_nil, or_false, List.map_append, List.cons_append, List.nil_append] at h ⊢; omega)
     clear hk hB
     refine wpList_nil ?_
     refine hK40 _ _ ?_
     refine wp_seq_k (fun K41 hK41 => ?_)
     refine wp_region_lit ?_
     refine q1 hf hM [17, 3, 7, 8, 9] [{ os := [.nw] }, { os := [.st 5 0] }] (nw := fun B51 => [(18, eP B51 0)]) (M' := fun B51 => [⟨B1, 22, [.slice av l.length c]⟩, ⟨B1 + 1, 3, [iV (deepV deep)]⟩, ⟨B1 + 2, 4, [bV left]⟩, ⟨B6, 26, [.map (some Bm1)]⟩, ⟨B50, 3, [iV 0]⟩, ⟨B51, 4, [bV true]⟩]) (ob := fun B51 => [Ad B51 0]) (fun B51 => (Ao (ad _ _))) ?_
     clear hf hM; intro a w31 B51 hf hM hB hk
     have hbB51 : w.heap.size ≤ B51 := by have := hk0.size; omega
     have hk0 := hk0.thenNew hk (by simp [Mem.names] <;> omega)
     have hO := hO.step hM hk (by intro i h; simp only [Mem.names, List.map_cons, List.map_nil, List.mem_cons, List.not_mem_nil, or_false, List.map_append, List.cons_append, List.nil_append] at h ⊢; omega)
     clear hk hB
     refine wpList_nil ?_
     refine hK41 _ _ ?_
     refine wp_seq_k (fun K42 hK42 => ?_)
     refine wp_region_lit ?_
     refine q0 hf hM [18, 17, 3, 8] [{}, {}, {}] (nw := [(81, .val (.func (.func 17) #[] #[pV B50 0, pV B51 0, pV B6 0, pV B1 0])), (80, .val (.func (.func 12) #[] #[pV (B1 + 1) 0, pV (B1 + 2) 0])), (79, eP T1 0)]) An ?_
     clear hf; intro a hf
     replace hO : OwnOk w.heap.size [⟨B1, 22, [.slice av l.length c]⟩, ⟨B1 + 1, 3, [iV (deepV deep)]⟩, ⟨B1 + 2, 4, [bV left]⟩, ⟨B6, 26, [.map (some Bm1)]⟩, ⟨B50, 3, [iV 0]⟩, ⟨B51, 4, [bV true]⟩] [oTree 72 68 T1 Bl (bsx l i.toNat), oM Bm1 vH vT (wantL (enC (deepV deep) left) (bsx l i.toNat))] w31 := OwnOk.front (l1 := [oM Bm1 vH vT (wantL (enC (deepV deep) left) (bsx l i.toNat))]) (l2 := []) hO
     have hnd := hM.nd; have hwm := hO.apartB (List.Mem.tail _ (List.Mem.head _)) (List.mem_singleton.2 rfl)
     simp only [Mem.names, List.map_cons, List.map_nil, List.nodup_cons, List.mem_cons, List.not_mem_nil, or_false, not_or] at hnd hwm
     have hap : ∀ i ∈ Bl, ¬ i ∈ [B50, B51, Bm1] := fun i hi hm => by
       have h1 := hO.apartB (List.Mem.head _) hi
       have h2 := (List.nodup_append.1 (List.nodup_append.1 hO.nd).2.1).2.2 i hi i
       simp only [Mem.names, List.map_cons, List.map_nil, List.mem_cons, List.not_mem_nil, or_false, not_or] at h1 hm
       rcases hm with e | e | e
       · exact absurd e (by omega)
       · exact absurd e (by omega)
       · exact h2 (by simp [oM, e]) rfl
     have hRφ : ((oQW 3 4 B50 B51 Bm1 (enC (deepV deep) left) (bsx l i.toNat)) [] []).φ w.heap.size w31 := ⟨by omega, by omega, hM.at_ _ (List.Mem.tail _ (List.Mem.tail _ (List.Mem.tail _ (List.Mem.tail _ (List.Mem.head _))))), hM.at_ _ (List.Mem.tail _ (List.Mem.tail _ (List.Mem.tail _ (List.Mem.tail _ (List.Mem.tail _ (List.Mem.head _)))))), hO.own _ (List.Mem.tail _ (List.Mem.head _)), by simp⟩
     have hRd : [B50, B51, Bm1].Nodup := by simp only [List.nodup_cons, List.mem_cons, List.not_mem_nil, or_false, not_or, List.nodup_nil, not_false_eq_true, and_true]; omega
     have hcD := ((cell?_blk (hM.at_ _ (List.Mem.tail _ (List.Mem.head _))) 0).trans rfl); have hcL := ((cell?_blk (hM.at_ _ (List.Mem.tail _ (List.Mem.tail _ (List.Mem.head _)))) 0).trans rfl); have hcW := ((cell?_blk (hM.at_ _ (List.Mem.tail _ (List.Mem.tail _ (List.Mem.tail _ (List.Mem.head _))))) 0).trans rfl); have hcV := ((cell?_blk (hM.at_ _ (List.Mem.head _)) 0).trans rfl)
     replace hcD : w31.cell? ⟨B1 + 1, 0, none⟩ = some (.int .i64 (deepV deep)) := hcD
     replace hcL : w31.cell? ⟨B1 + 2, 0, none⟩ = some (.bool left) := hcL
     replace hcW : w31.cell? ⟨B6, 0, none⟩ = some (.map (some Bm1)) := hcW
     replace hcV : w31.cell? ⟨B1, 0, none⟩ = some (.slice av l.length c) := hcV
     refine sxcall hf rfl rfl rfl rfl (g := 16) (vs := [pV T1 0, .func (.func 12) #[] #[pV (B1 + 1) 0, pV (B1 + 2) 0], .func (.func 17) #[] #[pV B50 0, pV B51 0, pV B6 0, pV B1 0]]) (ob := []) (by as_aux_lemma => kernel_rfl) An enters16 (twalk w.heap.size T1 Bl (bsx l i.toNat) (fun z => (enC (deepV deep) left) z = true) (oQW 3 4 B50 B51 Bm1 (enC (deepV deep) left) (bsx l i.toNat)) 12 17 [pV (B1 + 1) 0, pV (B1 + 2) 0] [pV B50 0, pV B51 0, pV B6 0, pV B1 0] w31 (hO.own _ (List.Mem.head _)) hap hRφ hRd hk0.size (fun _ _ _ => rfl) enters12 enters17
       (fun vis blk cc W hcc _ hkW hφ _ => calls_mono (enters_any (B1 + 1) (B1 + 2) _ _ cc.d cc.x cc.y W hcc (hkW.cell hcD (by simp [oQW]; omega)) (hkW.cell hcL (by simp [oQW]; omega))) fun v W2 hv => ⟨_, hv.1, hv.2, fun h => h, fun h => ?_⟩)
       (fun vis blk x v W hx hy hr hkW hφ hd => ?_)) ?_
     · exact have h2 := ((oQW 3 4 B50 B51 Bm1 (enC (deepV deep) left) (bsx l i.toNat)) vis blk).stab hφ hv.2 (fun _ _ h => h); ⟨h2.1, h2.2.1, h2.2.2.1, h2.2.2.2.1, h2.2.2.2.2.1, fun x hx => (List.mem_append.1 hx).elim (h2.2.2.2.2.2 x) (bad_of (e := (enC (deepV deep) left)) h x)⟩
     · obtain ⟨hMq, hOq⟩ := openQW hφ hd
       obtain ⟨k, hk1, hk2⟩ := mem_bsx.1 hx
       simp only [Prod.mk.injEq] at hk2
       obtain ⟨rfl, hk2⟩ := hk2
       have hvl : vis.length ≤ 1000 := by obtain ⟨rest, hr⟩ := hr; have := hr.length_eq; rw [bsx_len] at this; simp only [List.length_append] at this; omega
       refine calls_mono (met_any w.heap.size B50 B51 Bm1 B6 B1 (vis.length : Nat) _ av l c k 1 v.x0 v.y0 v.x1 v.y1 W hMq hOq (hkW.cell hcW (by simp [oQW]; omega)) (by simp; omega) (hkW.cell hcV (by simp [oQW]; omega)) (by simp; omega) ((hav.keepNn hk0).keep hkW (fun A hA => ?_)) (fun A hA => ?_) (by have := hk0.size; have := hkW.size; omega) (by omega) (want_has (bsx_nd _ _) hx (good_of hy) hr) (by omega) (by simpa using hk2.symm)) fun u W2 hu => ?_
       · subst hA; have hlt := arr_lt hav (by decide) (by omega); simp [oQW]; omega
       · subst hA; have hlt := arr_lt hav (by decide) (by omega); simp [oQW]; omega
       · exact ⟨hu.1, shutQW hu.2.1 hu.2.2.1 ⟨hφ.1, hφ.2.1⟩ (by simp) (by rw [want_snoc]) hφ.2.2.2.2.2, hu.2.2.2, fun i hi => .inl hi, hRd⟩
     · clear hf; rintro _ w32 a ⟨rfl, vis, blk, hx, hpv, hB1, hd1, hk⟩ hf
       have hM2 : MemOk [⟨B1, 22, [.slice av l.length c]⟩, ⟨B1 + 1, 3, [iV (deepV deep)]⟩, ⟨B1 + 2, 4, [bV left]⟩, ⟨B6, 26, [.map (some Bm1)]⟩, ⟨B50, 3, [iV ((vis.length : Nat) : Int)]⟩, ⟨B51, 4, [bV true]⟩] w32 := hM.turned hk rfl (by
         intro b hb
         simp only [List.mem_cons, List.not_mem_nil, or_false] at hb
         rcases hb with rfl | rfl | rfl | rfl | rfl | rfl
         · exact .inr ⟨by simp, by simp [oQW]; omega⟩
         · exact .inr ⟨by simp, by simp [oQW]; omega⟩
         · exact .inr ⟨by simp, by simp [oQW]; omega⟩
         · exact .inr ⟨by simp, by simp [oQW]; omega⟩
         · exact .inl hx.2.2.1
         · exact .inl hx.2.2.2.1)
       have hO2 : OwnOk w.heap.size [⟨B1, 22, [.slice av l.length c]⟩, ⟨B1 + 1, 3, [iV (deepV deep)]⟩, ⟨B1 + 2, 4, [bV left]⟩, ⟨B6, 26, [.map (some Bm1)]⟩, ⟨B50, 3, [iV ((vis.length : Nat) : Int)]⟩, ⟨B51, 4, [bV true]⟩] [oM Bm1 vH vT (wantV (enC (deepV deep) left) (bsx l i.toNat) vis)] w32 := ⟨fun o ho => by obtain rfl := List.mem_singleton.1 ho; exact hx.2.2.2.2.1, (hO.sub (List.Sublist.refl _) (O' := [oM Bm1 vH vT (wantL (enC (deepV deep) left) (bsx l i.toNat))]) (.cons _ (.cons_cons _ .slnil))).nd⟩
       have hk0 := hk0.then hk (by intro i hi h; simp only [oQW, List.mem_cons, List.not_mem_nil, or_false] at h; have := hRφ.1; have := hRφ.2.1; have := hRφ.2.2.2.2.1.1; omega)
       rw [want_end hpv hx.2.2.2.2.2] at hO2; have hvl : vis.length ≤ i.toNat := by have := hpv.length_eq; rw [bsx_len] at this; simp only [List.length_append] at this; omega
       clear hM hO; have hM := hM2; have hO := hO2; clear hM2 hO2 hk hx hB1 hd1 hRφ hap
       replace hO : OwnOk w.heap.size [⟨B1, 22, [.slice av l.length c]⟩, ⟨B1 + 1, 3, [iV (deepV deep)]⟩, ⟨B1 + 2, 4, [bV left]⟩, ⟨B6, 26, [.map (some Bm1)]⟩, ⟨B50, 3, [iV ((vis.length : Nat) : Int)]⟩, ⟨B51, 4, [bV true]⟩] [oM Bm1 vH vT ([] : List (H2 × Bool))] w32 := hO
       refine wpList_nil ?_
       refine hK42 _ _ ?_
       refine wp_seq_k (fun K43 hK43 => ?_)
       refine wp_region_lit ?_
       refine q0 hf hM [17, 3] [{ os := [.ld 5 0] }, {}, { os := [.ld 3 0] }] (nw := [(85, .val (.map (some Bm1))), (84, eB true)]) (ob := [Ad B51 0, true = true, Ad B6 0]) (Ac (ad _ _) (Ac rfl (Ao (ad _ _)))) ?_
       clear hf; intro a hf
       refine sxmapleng hf (hO.own _ (List.Mem.head _)).2 rfl rfl rfl rfl rfl rfl Tryd.underlying26 ?_; clear hf; intro a hf
       refine q0 hf hM [] [{}, {}, {}, { g := .sym, os := [.ld 4 0] }, { g := .sym, os := [.ld 0 0] }, { g := .sym }, { g := .sym }, { hint := some (bV (((((([] : List (H2 × Bool)).length : Nat) : Int) : Int) == 0) && (decide ((((vis.length : Nat) : Int) : Int) ≤ (l.length : Int))))) }, {}] (nw := [(6, eB (((((([] : List (H2 × Bool)).length : Nat) : Int) : Int) == 0) && (decide ((((vis.length : Nat) : Int) : Int) ≤ (l.length : Int)))))]) (ob := [true = true, (((((([] : List (H2 × Bool)).length : Nat) : Int) : Int) == 0) = true → Ad B50 0), (((((([] : List (H2 × Bool)).length : Nat) : Int) : Int) == 0) = true → Ad B1 0), (((((([] : List (H2 × Bool)).length : Nat) : Int) : Int) == 0) = true → ((((([] : List (H2 × Bool)).length : Nat) : Int) : Int) == 0) = ((((([] : List (H2 × Bool)).length : Nat) : Int) : Int) == 0)), (((((([] : List (H2 × Bool)).length : Nat) : Int) : Int) == 0) = true → ((((([] : List (H2 × Bool)).length : Nat) : Int) : Int) == 0) = ((((([] : List (H2 × Bool)).length : Nat) : Int) : Int) == 0)), (((((([] : List (H2 × Bool)).length : Nat) : Int) : Int) == 0) = true → ((((([] : List (H2 × Bool)).length : Nat) : Int) : Int) == 0) = ((((([] : List (H2 × Bool)).length : Nat) : Int) : Int) == 0)), (((((([] : List (H2 × Bool)).length : Nat) : Int) : Int) == 0) = true → ((((([] : List (H2 × Bool)).length : Nat) : Int) : Int) == 0) = ((((([] : List (H2 × Bool)).length : Nat) : Int) : Int) == 0)), (bif ((((([] : List (H2 × Bool)).length : Nat) : Int) : Int) == 0) then (bV (decide ((((vis.length : Nat) : Int) : Int) ≤ (l.length : Int))) : Value) else bV false) = .bool (((((([] : List (H2 × Bool)).length : Nat) : Int) : Int) == 0) && (decide ((((vis.length : Nat) : Int) : Int) ≤ (l.length : Int))))]) (Ac rfl (Ac (fun hgd => ad _ _) (Ac (fun hgd => ad _ _) (Ac (fun hgd => rfl) (Ac (fun hgd => rfl) (Ac (fun hgd => rfl) (Ac (fun _ => rfl) (Ao (pick_and _ _))))))))) ?_
       clear hf; intro a hf
       refine wpList_nil ?_
       refine hK43 _ _ ?_
       refine wp_ret ?_
       refine qr (fn := Tryd.f3) hf hM [] (l := [bV (((((([] : List (H2 × Bool)).length : Nat) : Int) : Int) == 0) && (decide ((((vis.length : Nat) : Int) : Int) ≤ (l.length : Int))))]) (ob := []) An ?_
       show (bV (((((([] : List (H2 × Bool)).length : Nat) : Int) : Int) == 0) && (decide ((((vis.length : Nat) : Int) : Int) ≤ (l.length : Int)))) : Value) = .bool true ∧ Keep Nn w w32
       refine ⟨congrArg Value.bool ?_, hk0⟩
       simp
       omega
end Go.Proofs.YthofalkkdpjdlaaDoor
