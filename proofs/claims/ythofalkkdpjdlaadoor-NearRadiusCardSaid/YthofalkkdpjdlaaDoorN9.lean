/- layer 13: the trees of its laws -/
import Derived.Test.YthofalkkdpjdlaaDoorN8
import Derived.Test.YthofalkkdpjdlaaDoorXpD
namespace Go.Proofs.YthofalkkdpjdlaaDoor
open Go.Px
set_option linter.unusedVariables false
set_option linter.unusedSimpArgs false

set_option maxRecDepth 10000 in
set_option maxHeartbeats 1600000 in
theorem filled_ok (E : Nat → Addr) (av : Option Addr) (l : List B4) (c : Nat) (w : World) (hn0 : (goodL l) = true) (hG : Errs [1, 3, 0] w 161 E) (hav : Arr w 4 av l.length c (flat fB4 l)) :
    Calls Tryd.prog 19 #[.slice av l.length c] w (Ret fun v w' => ∃ T Bl a' c', v = .tuple #[.pointer (some ⟨T, 0, none⟩), .slice a' (bsy l l.length).length c', .bool true] ∧ Keep Nn w w' ∧ (oAnd (oTree 72 68 T Bl (bsy l l.length)) (oS 85 6 (.slice a' (bsy l l.length).length c') (bsy l l.length).length (flat fBx (bsy l l.length)))).φ w.heap.size w' ∧ (oAnd (oTree 72 68 T Bl (bsy l l.length)) (oS 85 6 (.slice a' (bsy l l.length).length c') (bsy l l.length).length (flat fBx (bsy l l.length)))).B.Nodup) := by
 refine sxenter (n := 44) (args := [.slice av l.length c]) Tryd.func19 rfl rfl rfl fun a hf => ?_
 replace hf : Fr 44 [(0, eS av l.length c)] a := hf
 have hM : MemOk [] w := MemOk.nil w
 have hk0 : Keep Nn w w := Keep.refl _ _
 have hgl := goodL_at hn0
 refine wp_seq_k (fun K1 hK1 => ?_)
 refine wp_region_lit ?_
 refine q0 hf hM [0] [{}, {}, {}] (nw := []) An ?_
 clear hf; intro a hf
 refine wpList_nil ?_
 refine hK1 _ _ ?_
 refine wp_seq_k (fun K2 hK2 => ?_)
 refine wp_region_lit ?_
 refine sxcall hf rfl rfl rfl rfl (g := 11) (vs := []) (ob := []) (by as_aux_lemma => kernel_rfl) An enters11 (tnew  w  ) ?_
 clear hf; rintro _ w1 a ⟨T1, Bl1, rfl, hk, hx1, hdb1⟩ hf
 have hO : OwnOk w.heap.size [] [] w := OwnOk.nil hM
 have hO := hO.moreB hM hk (by have := hk0.size; omega) hx1 hdb1
 replace hO : OwnOk w.heap.size [] [oTree 72 68 T1 Bl1 ([] : List (H2 × B4))] _ := hO
 have hM := hM.keepNn hk
 have hk0 := hk0.trans hk.nn
 clear hk
 refine q0 hf hM [0] [{}] (nw := [(5, eP T1 0)]) An ?_
 clear hf; intro a hf
 refine wpList_nil ?_
 refine hK2 _ _ ?_
 refine wp_seq_k (fun K3 hK3 => ?_)
 refine wp_region_lit ?_
 refine sxbslice hf hM (t := 47) (e := 85) (len := 0) (cs := []) (ob := []) rfl rfl rfl rfl (by as_aux_lemma => kernel_rfl) An (by as_aux_lemma => kernel_rfl) ?_
 clear hf hM; intro a w2 B3 hf hM hB hk
 replace hM : MemOk [⟨B3, 85, []⟩] w2 := hM
 have hbB3 : w.heap.size ≤ B3 := by have := hk0.size; omega
 have hk0 := hk0.trans hk.nn
 have hO := hO.step hM hk.nn (by intro i h; simp only [Mem.names, List.map_cons, List.map_nil, List.mem_cons, List.not_mem_nil, or_false, List.map_append, List.cons_append, List.nil_append] at h ⊢; omega)
 clear hk hB
 refine q0 hf hM [5, 0] [{}] (nw := [(6, eS (some ⟨B3, 0, none⟩) 0 0)]) An ?_
 clear hf; intro a hf
 refine wpList_nil ?_
 refine hK3 _ _ ?_
 refine wp_seq_k (fun K4 hK4 => ?_)
 refine wp_seq_k (fun K5 hK5 => ?_)
 refine wp_region_lit ?_
 refine q0 hf hM [6, 5, 0] [{}, {}, {}] (nw := [(14, eB (decide (((l.length : Int) : Int) > 60)))]) An ?_
 clear hf; intro a hf
 refine wpList_nil ?_
 refine hK5 _ _ ?_
 refine qc hf (b := (decide (((l.length : Int) : Int) > 60))) (fun hc1r => ?_) (fun hc1r => ?_)
 · have hc1 := (nT hc1r)
   exfalso; omega
 · have hc1 := (nU hc1r)
   refine wp_skip ?_
   refine hK4 _ _ ?_
   refine wp_seq_k (fun K6 hK6 => ?_)
   refine wp_seq_k (fun K7 hK7 => ?_)
   refine wp_region_lit ?_
   refine q0 hf hM [6, 5] [{}, {}, {}] (nw := [(19, eI 0), (18, eI (l.length : Int)), (17, eS av l.length c)]) An ?_
   clear hf; intro a hf
   refine wpList_nil ?_
   refine hK7 _ _ ?_
   refine wp_block ?_
   replace hO := OwnOk.took (M1 := []) (M2 := []) (sz := 6) hO hM (n := 0) (c := 0) (by have := hk0.size; omega) (by decide) (by decide) rfl
   replace hM : MemOk [] w2 := hM.sub (.cons _ .slnil)
   replace hO : OwnOk w.heap.size [] [oS 85 6 (.slice (some ⟨B3, 0, none⟩) 0 0) 0 (flat fBx ([] : List (H2 × B4))), oTree 72 68 T1 Bl1 ([] : List (H2 × B4))] w2 := hO
   have hf := (hf.prune [5, 6, 17, 18, 19]).to (env' := [(5, eP T1 0), (6, eS (some ⟨B3, 0, none⟩) 0 0), (17, eS av l.length c), (18, eI (l.length : Int)), (19, eI 0)]) (by kernel_rfl)
   replace hO : OwnOk w.heap.size [] [oS 85 6 (.slice (some ⟨B3, 0, none⟩) ((bsy l (0 : Int).toNat).length) 0) ((bsy l (0 : Int).toNat).length) (flat fBx (bsy l (0 : Int).toNat)), oTree 72 68 T1 Bl1 (bsy l (0 : Int).toNat)] w2 := by
    first | exact hO | (have e : ([oS 85 6 (.slice (some ⟨B3, 0, none⟩) 0 0) 0 (flat fBx ([] : List (H2 × B4))), oTree 72 68 T1 Bl1 ([] : List (H2 × B4))] : List Own) = [oS 85 6 (.slice (some ⟨B3, 0, none⟩) ((bsy l (0 : Int).toNat).length) 0) ((bsy l (0 : Int).toNat).length) (flat fBx (bsy l (0 : Int).toNat)), oTree 72 68 T1 Bl1 (bsy l (0 : Int).toNat)] := by rfl) <;> (rw [← e]; exact hO)
   refine sxloop (fun zm a w1 => ∃ (i : Int) (Bl : List Nat) (a6 : Option Addr) (c6 : Nat), zm = ((l.length : Int) - i).toNat ∧ Fr 44 [(5, eP T1 0), (6, eS a6 (bsy l i.toNat).length c6), (17, eS av l.length c), (18, eI (l.length : Int)), (19, eI i)] a ∧ MemOk [] w1 ∧ Keep Nn w w1 ∧ OwnOk w.heap.size [] [oS 85 6 (.slice a6 (bsy l i.toNat).length c6) (bsy l i.toNat).length (flat fBx (bsy l i.toNat)), oTree 72 68 T1 Bl (bsy l i.toNat)] w1 ∧ (0 ≤ i ∧ i ≤ (l.length : Int))) _ ⟨0, Bl1, some ⟨B3, 0, none⟩, 0, rfl, hf.conv (Ac rfl (Ac rfl (Ac rfl (Ac rfl (Ao rfl))))), hM, hk0, hO, (by omega)⟩ ?_
   clear hf hM hk0 hO
   rintro _ a w3 ⟨i, Bl, a6, c6, rfl, hf, hM, hk0, hO, hi⟩ L1 hL1
   have hbl6 := bsy_len l i.toNat
   refine wp_seq_k (fun K8 hK8 => ?_)
   refine wp_region_lit ?_
   refine q0 hf hM [5, 6, 17, 18, 19] [{}] (nw := [(20, eB (decide ((i : Int) < (l.length : Int))))]) An ?_
   clear hf; intro a hf
   refine wpList_nil ?_
   refine hK8 _ _ ?_
   refine wp_seq_k (fun K9 hK9 => ?_)
   refine qc hf (b := (decide ((i : Int) < (l.length : Int)))) (fun hc2r => ?_) (fun hc2r => ?_)
   · have hc2 := (nT hc2r)
     refine wp_skip ?_
     refine hK9 _ _ ?_
     refine wp_seq_k (fun K10 hK10 => ?_)
     refine wp_block ?_
     refine wp_seq_k (fun K11 hK11 => ?_)
     obtain ⟨bb, hbb⟩ : ∃ b : B4, b = l.getD i.toNat ⟨0, 0, 0, 0⟩ := ⟨_, rfl⟩
     have hbo : okB bb = true := by rw [hbb]; exact hgl.2 _ (by omega)
     have hbo2 := hbo
     unfold okB at hbo2
     rw [Bool.and_eq_true] at hbo2
     obtain ⟨hb1, hb2⟩ := hbo2
     refine wp_region_lit ?_
     refine q1 hf hM [5, 6, 17, 18, 19] [{}, { sp := true }, { os := [.ex (iV (l.getD i.toNat ⟨0, 0, 0, 0⟩).x0), .ex (iV (l.getD i.toNat ⟨0, 0, 0, 0⟩).y0), .ex (iV (l.getD i.toNat ⟨0, 0, 0, 0⟩).x1), .ex (iV (l.getD i.toNat ⟨0, 0, 0, 0⟩).y1)], hint := some (.agg #[iV bb.x0, iV bb.y0, iV bb.x1, iV bb.y1]) }, { os := [.nw] }, {}, { os := [.st 0 0, .st 0 1, .st 0 2, .st 0 3] }] (nw := fun B8 => [(7, eI i), (8, eP B8 0)]) (M' := fun B8 => [⟨B8, 32, [iV bb.x0, iV bb.y0, iV bb.x1, iV bb.y1]⟩]) (ob := fun B8 => [(0 : Int) ≤ i ∧ i < (l.length : Int), (av : Option Addr).isSome = true, w3.cell? (((sa av : Addr).add (i.toNat * 4)).add 0) = some (iV (l.getD i.toNat ⟨0, 0, 0, 0⟩).x0), w3.cell? (((sa av : Addr).add (i.toNat * 4)).add 1) = some (iV (l.getD i.toNat ⟨0, 0, 0, 0⟩).y0), w3.cell? (((sa av : Addr).add (i.toNat * 4)).add 2) = some (iV (l.getD i.toNat ⟨0, 0, 0, 0⟩).x1), w3.cell? (((sa av : Addr).add (i.toNat * 4)).add 3) = some (iV (l.getD i.toNat ⟨0, 0, 0, 0⟩).y1), (.agg #[iV (l.getD i.toNat ⟨0, 0, 0, 0⟩).x0, iV (l.getD i.toNat ⟨0, 0, 0, 0⟩).y0, iV (l.getD i.toNat ⟨0, 0, 0, 0⟩).x1, iV (l.getD i.toNat ⟨0, 0, 0, 0⟩).y1] : Value) = (.agg #[iV bb.x0, iV bb.y0, iV bb.x1, iV bb.y1] : Value), Ad B8 0, Ad B8 1, Ad B8 2, Ad B8 3]) (fun B8 => (Ac (by first | omega | (simp; done)) (Ac ((hav.keepNn hk0).some_ (by first | omega | (simp; done))) (Ac ((hav.keepNn hk0).get (fun _ => rfl) (by first | omega | (simp; done)) rfl) (Ac ((hav.keepNn hk0).get (fun _ => rfl) (by first | omega | (simp; done)) rfl) (Ac ((hav.keepNn hk0).get (fun _ => rfl) (by first | omega | (simp; done)) rfl) (Ac ((hav.keepNn hk0).get (fun _ => rfl) (by first | omega | (simp; done)) rfl) (Ac (by rw [hbb]) (Ac (ad _ _) (Ac (ad _ _) (Ac (ad _ _) (Ao (ad _ _))))))))))))) ?_
     clear hf hM; intro a w4 B8 hf hM hB hk
     have hbB8 : w.heap.size ≤ B8 := by have := hk0.size; omega
     have hk0 := hk0.then hk (by intro i _ h; cases h)
     have hO := hO.step hM (hk.mono (by intro _ _ h; cases h)) (by intro i h; simp only [Mem.names, List.map_cons, List.map_nil, List.mem_cons, List.not_mem_nil, or_false, List.map_append, List.cons_append, List.nil_append] at h ⊢; omega)
     clear hk hB
     refine wpList_nil ?_
     refine hK11 _ _ ?_
     refine wp_seq_k (fun K12 hK12 => ?_)
     refine wp_region_lit ?_
     refine q1 hf hM [8, 5, 6, 17, 18, 19] [{}, { hint := some (iV (i * 7)) }, { sp := true, hint := some (iV (i * 7 % 61)) }, { sp := true }, { os := [.nw] }, { os := [.st 1 0, .st 1 1] }] (nw := fun B9 => [(9, eP B9 0)]) (M' := fun B9 => [⟨B8, 32, [iV bb.x0, iV bb.y0, iV bb.x1, iV bb.y1]⟩, ⟨B9, 39, [iV (i * 7 % 61), iV 1]⟩]) (ob := fun B9 => [(iV (IntKind.i64.wrap (i * 7)) : Value) = (iV (i * 7) : Value), (61 : Int) ≠ 0, (iV (Int.tmod (i * 7) 61) : Value) = (iV (i * 7 % 61) : Value), Ad B9 0, Ad B9 1]) (fun B9 => (Ac (wr (by omega)) (Ac (by omega) (Ac (rem61 (by omega)) (Ac (ad _ _) (Ao (ad _ _))))))) ?_
     clear hf hM; intro a w5 B9 hf hM hB hk
     have hbB9 : w.heap.size ≤ B9 := by have := hk0.size; omega
     have hk0 := hk0.thenNew hk (by simp [Mem.names] <;> omega)
     have hO := hO.step hM hk (by intro i h; simp only [Mem.names, List.map_cons, List.map_nil, List.mem_cons, List.not_mem_nil, or_false, List.map_append, List.cons_append, List.nil_append] at h ⊢; omega)
     clear hk hB
     refine wpList_nil ?_
     refine hK12 _ _ ?_
     refine wp_seq_k (fun K13 hK13 => ?_)
     refine wp_seq_k (fun K14 hK14 => ?_)
     refine wp_region_lit ?_
     refine q0 hf hM [9, 8, 5, 6, 17, 18, 19] [{}, { os := [.ld 1 0, .ld 1 1] }, { os := [.ld 0 0, .ld 0 1, .ld 0 2, .ld 0 3] }] (nw := [(30, .val (.agg #[iV bb.x0, iV bb.y0, iV bb.x1, iV bb.y1])), (29, .val (.agg #[iV (i * 7 % 61), iV 1])), (28, eP T1 0)]) (ob := [Ad B9 0, Ad B9 1, Ad B8 0, Ad B8 1, Ad B8 2, Ad B8 3]) (Ac (ad _ _) (Ac (ad _ _) (Ac (ad _ _) (Ac (ad _ _) (Ac (ad _ _) (Ao (ad _ _))))))) ?_
     clear hf; intro a hf
     replace hO : OwnOk w.heap.size [⟨B8, 32, [iV bb.x0, iV bb.y0, iV bb.x1, iV bb.y1]⟩, ⟨B9, 39, [iV (i * 7 % 61), iV 1]⟩] [oTree 72 68 T1 Bl (bsy l i.toNat), oS 85 6 (.slice a6 (bsy l i.toNat).length c6) (bsy l i.toNat).length (flat fBx (bsy l i.toNat))] w5 := OwnOk.front (l1 := [oS 85 6 (.slice a6 (bsy l i.toNat).length c6) (bsy l i.toNat).length (flat fBx (bsy l i.toNat))]) (l2 := []) hO
     refine sxcall hf rfl rfl rfl rfl (g := 14) (vs := [pV T1 0, .agg #[iV (i * 7 % 61), iV 1], .agg #[iV bb.x0, iV bb.y0, iV bb.x1, iV bb.y1]]) (ob := []) (by as_aux_lemma => kernel_rfl) An enters14 (tput_ok E w.heap.size T1 Bl (bsy l i.toNat) (i * 7 % 61) 1 bb.x0 bb.y0 bb.x1 bb.y1 w5 hb1 hb2 (hO.own _ (List.Mem.head _)) hO.ndH hk0.size (bsy_new l ⟨hi.1, by omega⟩) (by rw [bsy_len]; omega) (fun W hkW => hG.keepOld hk0 hkW (fun i hi => (hO.ltB (List.Mem.head _) hi).1))) ?_
     clear hf; rintro _ w6 a ⟨Bl2, rfl, hx, hB1, hd1, hk⟩ hf
     have hO2 := hO.turnB hM hk hx hB1 hd1; have hM := hO.memTurnB hM hk
     have hk0 := hk0.then hk (by intro i hi h; have := (hO.ltB (List.Mem.head _) h).1; omega); clear hO; have hO := hO2; clear hO2
     clear hk hx hB1 hd1
     replace hO : OwnOk w.heap.size [⟨B8, 32, [iV bb.x0, iV bb.y0, iV bb.x1, iV bb.y1]⟩, ⟨B9, 39, [iV (i * 7 % 61), iV 1]⟩] [oTree 72 68 T1 Bl2 ((bsy l i.toNat) ++ [((⟨i * 7 % 61, 1⟩ : H2), (⟨bb.x0, bb.y0, bb.x1, bb.y1⟩ : B4))]), oS 85 6 (.slice a6 (bsy l i.toNat).length c6) (bsy l i.toNat).length (flat fBx (bsy l i.toNat))] w6 := hO
     have eb : bsy l i.toNat ++ [((⟨i * 7 % 61, 1⟩ : H2), bb)] = bsy l (i + 1).toNat := by rw [bsy_succ l hi.1, ← hbb]
     replace hO : OwnOk w.heap.size [⟨B8, 32, [iV bb.x0, iV bb.y0, iV bb.x1, iV bb.y1]⟩, ⟨B9, 39, [iV (i * 7 % 61), iV 1]⟩] [oTree 72 68 T1 Bl2 (bsy l (i + 1).toNat), oS 85 6 (.slice a6 (bsy l i.toNat).length c6) (bsy l i.toNat).length (flat fBx (bsy l i.toNat))] w6 := by rw [← eb]; exact hO
     refine q0 hf hM [9, 8, 5, 6, 17, 18, 19] [{}] (nw := [(32, eB false)]) An ?_
     clear hf; intro a hf
     refine wpList_nil ?_
     refine hK14 _ _ ?_
     refine sxcond hf (b := false) (by kernel_rfl) (fun h => by cases h) (fun _ => ?_)
     refine wp_skip ?_
     refine hK13 _ _ ?_
     refine wp_region_lit ?_
     refine q0 hf hM [5, 6, 17, 18, 19] [{}, { os := [.ld 1 0, .ld 1 1] }, { os := [.ld 0 0, .ld 0 1, .ld 0 2, .ld 0 3] }, { sp := true }] (nw := [(38, .val (.agg #[iV (i * 7 % 61), iV 1, iV bb.x0, iV bb.y0, iV bb.x1, iV bb.y1])), (35, eS a6 (bsy l i.toNat).length c6)]) (ob := [Ad B9 0, Ad B9 1, Ad B8 0, Ad B8 1, Ad B8 2, Ad B8 3]) (Ac (ad _ _) (Ac (ad _ _) (Ac (ad _ _) (Ac (ad _ _) (Ac (ad _ _) (Ao (ad _ _))))))) ?_
     clear hf; intro a hf
     refine sxbslice hf hM (t := 47) (e := 85) (len := 1) (cs := [iV (i * 7 % 61), iV 1, iV bb.x0, iV bb.y0, iV bb.x1, iV bb.y1]) (ob := []) rfl rfl rfl rfl (by as_aux_lemma => kernel_rfl) An (by as_aux_lemma => kernel_rfl) ?_
     clear hf hM; intro a w7 B13 hf hM hB hk
     replace hM : MemOk [⟨B8, 32, [iV bb.x0, iV bb.y0, iV bb.x1, iV bb.y1]⟩, ⟨B9, 39, [iV (i * 7 % 61), iV 1]⟩, ⟨B13, 85, [iV (i * 7 % 61), iV 1, iV bb.x0, iV bb.y0, iV bb.x1, iV bb.y1]⟩] w7 := hM
     have hbB13 : w.heap.size ≤ B13 := by have := hk0.size; omega
     have hk0 := hk0.trans hk.nn
     have hO := hO.step hM hk.nn (by intro i h; simp only [Mem.names, List.map_cons, List.map_nil, List.mem_cons, List.not_mem_nil, or_false, List.map_append, List.cons_append, List.nil_append] at h ⊢; omega)
     clear hk hB
     replace hO : OwnOk w.heap.size [⟨B8, 32, [iV bb.x0, iV bb.y0, iV bb.x1, iV bb.y1]⟩, ⟨B9, 39, [iV (i * 7 % 61), iV 1]⟩, ⟨B13, 85, [iV (i * 7 % 61), iV 1, iV bb.x0, iV bb.y0, iV bb.x1, iV bb.y1]⟩] [oS 85 6 (.slice a6 (bsy l i.toNat).length c6) (bsy l i.toNat).length (flat fBx (bsy l i.toNat)), oTree 72 68 T1 Bl2 (bsy l (i + 1).toNat)] w7 := OwnOk.front (l1 := [oTree 72 68 T1 Bl2 (bsy l (i + 1).toNat)]) (l2 := []) hO
     refine sxappend hf hM (e := 85) (sz := 6) (by_ := 48) (k := (bsy l i.toNat).length) (v := .slice a6 (bsy l i.toNat).length c6) (xs := flat fBx (bsy l i.toNat)) hO rfl rfl rfl rfl (av := some ⟨B13, 0, none⟩) (m := 1) (c := 1) rfl rfl Tryd.underlying47 (by kernel_rfl) rfl (news := flat fBx ([((⟨i * 7 % 61, 1⟩ : H2), (⟨bb.x0, bb.y0, bb.x1, bb.y1⟩ : B4))] : List (H2 × B4))) (Arr.of_memT (sz := 6) (f := fBx) (L := ([((⟨i * 7 % 61, 1⟩ : H2), (⟨bb.x0, bb.y0, bb.x1, bb.y1⟩ : B4))] : List (H2 × B4))) (l := ([((⟨i * 7 % 61, 1⟩ : H2), (⟨bb.x0, bb.y0, bb.x1, bb.y1⟩ : B4))] : List (H2 × B4))) hM (List.Mem.tail _ (List.Mem.tail _ (List.Mem.head _))) (fun _ => rfl) rfl rfl) (flat_one1 fBx_one) (by simp only [maxLen]; constructor <;> (first | omega | (simp; omega))) (by have := hk0.size; omega) ?_
     clear hf hM hO; intro a w8 av1 cv1 hf hM hO hk
     have en : ((bsy l i.toNat).length + 1 : Nat) = ((bsy l i.toNat) ++ ([((⟨i * 7 % 61, 1⟩ : H2), (⟨bb.x0, bb.y0, bb.x1, bb.y1⟩ : B4))] : List (H2 × B4))).length := (by first | (simp; done) | (simp; omega))
     have ec : flat fBx (bsy l i.toNat) ++ flat fBx ([((⟨i * 7 % 61, 1⟩ : H2), (⟨bb.x0, bb.y0, bb.x1, bb.y1⟩ : B4))] : List (H2 × B4)) = flat fBx ((bsy l i.toNat) ++ ([((⟨i * 7 % 61, 1⟩ : H2), (⟨bb.x0, bb.y0, bb.x1, bb.y1⟩ : B4))] : List (H2 × B4))) := (by first | rfl | exact (flat_app _ _ _).symm | simp [flat_app, flat_nil])
     rw [en] at hf hO; rw [ec] at hO; clear en ec
     replace hO : OwnOk w.heap.size [⟨B8, 32, [iV bb.x0, iV bb.y0, iV bb.x1, iV bb.y1]⟩, ⟨B9, 39, [iV (i * 7 % 61), iV 1]⟩, ⟨B13, 85, [iV (i * 7 % 61), iV 1, iV bb.x0, iV bb.y0, iV bb.x1, iV bb.y1]⟩] [oS 85 6 (.slice av1 (((bsy l i.toNat) ++ ([((⟨i * 7 % 61, 1⟩ : H2), (⟨bb.x0, bb.y0, bb.x1, bb.y1⟩ : B4))] : List (H2 × B4))).length) cv1) (((bsy l i.toNat) ++ ([((⟨i * 7 % 61, 1⟩ : H2), (⟨bb.x0, bb.y0, bb.x1, bb.y1⟩ : B4))] : List (H2 × B4))).length) (flat fBx ((bsy l i.toNat) ++ ([((⟨i * 7 % 61, 1⟩ : H2), (⟨bb.x0, bb.y0, bb.x1, bb.y1⟩ : B4))] : List (H2 × B4)))), oTree 72 68 T1 Bl2 (bsy l (i + 1).toNat)] w8 := hO
     have hk0 := hk0.then hk (by intro i hi h; have := h.1; omega)
     clear hk
     refine q0 hf hM [5, 17, 18, 19] [{}] (nw := [(6, eS av1 (((bsy l i.toNat) ++ ([((⟨i * 7 % 61, 1⟩ : H2), (⟨bb.x0, bb.y0, bb.x1, bb.y1⟩ : B4))] : List (H2 × B4))).length) cv1)]) An ?_
     clear hf; intro a hf
     refine wpList_nil ?_
     refine hK10 _ _ ?_
     refine wp_region_lit ?_
     refine q0 hf hM [6, 5, 17, 18] [{ hint := some (iV (i + 1)) }, {}] (nw := [(19, eI (i + 1))]) (ob := [(iV (IntKind.i64.wrap (i + 1)) : Value) = (iV (i + 1) : Value)]) (Ao (wr (by omega))) ?_
     clear hf; intro a hf
     refine wpList_nil ?_
     have hnx : bsy l (i + 1).toNat = bsy l i.toNat ++ [((⟨i * 7 % 61, 1⟩ : H2), (⟨bb.x0, bb.y0, bb.x1, bb.y1⟩ : B4))] := eb.symm
     have hf := (hf.prune [5, 6, 17, 18, 19]).to (env' := [(5, eP T1 0), (6, eS av1 (((bsy l i.toNat) ++ ([((⟨i * 7 % 61, 1⟩ : H2), (⟨bb.x0, bb.y0, bb.x1, bb.y1⟩ : B4))] : List (H2 × B4))).length) cv1), (17, eS av l.length c), (18, eI (l.length : Int)), (19, eI (i + 1))]) (by kernel_rfl)
     replace hO : OwnOk w.heap.size [] [oS 85 6 (.slice av1 (((bsy l i.toNat) ++ ([((⟨i * 7 % 61, 1⟩ : H2), (⟨bb.x0, bb.y0, bb.x1, bb.y1⟩ : B4))] : List (H2 × B4))).length) cv1) (((bsy l i.toNat) ++ ([((⟨i * 7 % 61, 1⟩ : H2), (⟨bb.x0, bb.y0, bb.x1, bb.y1⟩ : B4))] : List (H2 × B4))).length) (flat fBx ((bsy l i.toNat) ++ ([((⟨i * 7 % 61, 1⟩ : H2), (⟨bb.x0, bb.y0, bb.x1, bb.y1⟩ : B4))] : List (H2 × B4)))), oTree 72 68 T1 Bl2 (bsy l (i + 1).toNat)] w8 := hO.sub (.cons _ (.cons _ (.cons _ .slnil))) (List.Sublist.refl _)
     replace hM : MemOk [] w8 := hM.sub (.cons _ (.cons _ (.cons _ .slnil)))
     replace hO : OwnOk w.heap.size [] [oS 85 6 (.slice av1 ((bsy l (i + 1).toNat).length) cv1) ((bsy l (i + 1).toNat).length) (flat fBx (bsy l (i + 1).toNat)), oTree 72 68 T1 Bl2 (bsy l (i + 1).toNat)] w8 := by
      first | exact hO | (have e : ([oS 85 6 (.slice av1 (((bsy l i.toNat) ++ ([((⟨i * 7 % 61, 1⟩ : H2), (⟨bb.x0, bb.y0, bb.x1, bb.y1⟩ : B4))] : List (H2 × B4))).length) cv1) (((bsy l i.toNat) ++ ([((⟨i * 7 % 61, 1⟩ : H2), (⟨bb.x0, bb.y0, bb.x1, bb.y1⟩ : B4))] : List (H2 × B4))).length) (flat fBx ((bsy l i.toNat) ++ ([((⟨i * 7 % 61, 1⟩ : H2), (⟨bb.x0, bb.y0, bb.x1, bb.y1⟩ : B4))] : List (H2 × B4)))), oTree 72 68 T1 Bl2 (bsy l (i + 1).toNat)] : List Own) = [oS 85 6 (.slice av1 ((bsy l (i + 1).toNat).length) cv1) ((bsy l (i + 1).toNat).length) (flat fBx (bsy l (i + 1).toNat)), oTree 72 68 T1 Bl2 (bsy l (i + 1).toNat)] := by (rw [hnx]; try rfl)) <;> (rw [← e]; exact hO)
     refine hL1 _ _ _ (by omega) ⟨i + 1, Bl2, av1, cv1, rfl, hf.conv (Ac rfl (Ac (by rw [hnx]; rfl) (Ac rfl (Ac rfl (Ao rfl))))), hM, hk0, hO, (by omega)⟩
   · have hc2 := (nU hc2r)
     refine wp_exit ?_
     refine hK6 _ _ ?_
     refine wp_seq_k (fun K15 hK15 => ?_)
     refine wp_region_lit ?_
     refine q0 hf hM [] [{}, {}, {}, {}, {}] (nw := [(4, eB true), (3, eS a6 (bsy l i.toNat).length c6), (2, eP T1 0)]) An ?_
     clear hf; intro a hf
     refine wpList_nil ?_
     refine hK15 _ _ ?_
     refine wp_ret ?_
     refine qr (fn := Tryd.f19) hf hM [] (l := [pV T1 0, .slice a6 (bsy l i.toNat).length c6, bV true]) (ob := []) An ?_
     show ∃ T Bl a' c', (.tuple #[pV T1 0, .slice a6 (bsy l i.toNat).length c6, bV true] : Value) = .tuple #[.pointer (some ⟨T, 0, none⟩), .slice a' (bsy l l.length).length c', .bool true] ∧ Keep Nn w w3 ∧ (oAnd (oTree 72 68 T Bl (bsy l l.length)) (oS 85 6 (.slice a' (bsy l l.length).length c') (bsy l l.length).length (flat fBx (bsy l l.length)))).φ w.heap.size w3 ∧ (oAnd (oTree 72 68 T Bl (bsy l l.length)) (oS 85 6 (.slice a' (bsy l l.length).length c') (bsy l l.length).length (flat fBx (bsy l l.length)))).B.Nodup
     replace hO : OwnOk w.heap.size [] [oTree 72 68 T1 Bl (bsy l i.toNat), oS 85 6 (.slice a6 (bsy l i.toNat).length c6) (bsy l i.toNat).length (flat fBx (bsy l i.toNat))] w3 := OwnOk.front (l1 := [oS 85 6 (.slice a6 (bsy l i.toNat).length c6) (bsy l i.toNat).length (flat fBx (bsy l i.toNat))]) (l2 := []) hO
     have e : i.toNat = l.length := by omega
     rw [e] at hO ⊢
     have hb := hO.both
     exact ⟨_, _, _, _, rfl, hk0, hb.1, hb.2⟩

set_option maxRecDepth 10000 in
set_option maxHeartbeats 1600000 in
theorem filled_no (E : Nat → Addr) (av : Option Addr) (l : List B4) (c : Nat) (w : World) (hn0 : (goodL l) = false) (hG : Errs [1, 3, 0] w 161 E) (hav : Arr w 4 av l.length c (flat fB4 l)) :
    Calls Tryd.prog 19 #[.slice av l.length c] w (Ret fun v w' => ∃ T n' a' c', v = .tuple #[.pointer (some ⟨T, 0, none⟩), .slice a' n' c', .bool false] ∧ Keep Nn w w') := by
 refine sxenter (n := 44) (args := [.slice av l.length c]) Tryd.func19 rfl rfl rfl fun a hf => ?_
 replace hf : Fr 44 [(0, eS av l.length c)] a := hf
 have hM : MemOk [] w := MemOk.nil w
 have hk0 : Keep Nn w w := Keep.refl _ _
 refine wp_seq_k (fun K1 hK1 => ?_)
 refine wp_region_lit ?_
 refine q0 hf hM [0] [{}, {}, {}] (nw := []) An ?_
 clear hf; intro a hf
 refine wpList_nil ?_
 refine hK1 _ _ ?_
 refine wp_seq_k (fun K2 hK2 => ?_)
 refine wp_region_lit ?_
 refine sxcall hf rfl rfl rfl rfl (g := 11) (vs := []) (ob := []) (by as_aux_lemma => kernel_rfl) An enters11 (tnew  w  ) ?_
 clear hf; rintro _ w1 a ⟨T1, Bl1, rfl, hk, hx1, hdb1⟩ hf
 have hO : OwnOk w.heap.size [] [] w := OwnOk.nil hM
 have hO := hO.moreB hM hk (by have := hk0.size; omega) hx1 hdb1
 replace hO : OwnOk w.heap.size [] [oTree 72 68 T1 Bl1 ([] : List (H2 × B4))] _ := hO
 have hM := hM.keepNn hk
 have hk0 := hk0.trans hk.nn
 clear hk
 refine q0 hf hM [0] [{}] (nw := [(5, eP T1 0)]) An ?_
 clear hf; intro a hf
 refine wpList_nil ?_
 refine hK2 _ _ ?_
 refine wp_seq_k (fun K3 hK3 => ?_)
 refine wp_region_lit ?_
 refine sxbslice hf hM (t := 47) (e := 85) (len := 0) (cs := []) (ob := []) rfl rfl rfl rfl (by as_aux_lemma => kernel_rfl) An (by as_aux_lemma => kernel_rfl) ?_
 clear hf hM; intro a w2 B3 hf hM hB hk
 replace hM : MemOk [⟨B3, 85, []⟩] w2 := hM
 have hbB3 : w.heap.size ≤ B3 := by have := hk0.size; omega
 have hk0 := hk0.trans hk.nn
 have hO := hO.step hM hk.nn (by intro i h; simp only [Mem.names, List.map_cons, List.map_nil, List.mem_cons, List.not_mem_nil, or_false, List.map_append, List.cons_append, List.nil_append] at h ⊢; omega)
 clear hk hB
 refine q0 hf hM [5, 0] [{}] (nw := [(6, eS (some ⟨B3, 0, none⟩) 0 0)]) An ?_
 clear hf; intro a hf
 refine wpList_nil ?_
 refine hK3 _ _ ?_
 refine wp_seq_k (fun K4 hK4 => ?_)
 refine wp_seq_k (fun K5 hK5 => ?_)
 refine wp_region_lit ?_
 refine q0 hf hM [6, 5, 0] [{}, {}, {}] (nw := [(14, eB (decide (((l.length : Int) : Int) > 60)))]) An ?_
 clear hf; intro a hf
 refine wpList_nil ?_
 refine hK5 _ _ ?_
 refine qc hf (b := (decide (((l.length : Int) : Int) > 60))) (fun hc1r => ?_) (fun hc1r => ?_)
 · have hc1 := (nT hc1r)
   refine wp_seq_k (fun K6 hK6 => ?_)
   refine wp_region_lit ?_
   refine q0 hf hM [] [{}, {}, {}, {}, {}] (nw := [(4, eB false), (3, eS (some ⟨B3, 0, none⟩) 0 0), (2, eP T1 0)]) An ?_
   clear hf; intro a hf
   refine wpList_nil ?_
   refine hK6 _ _ ?_
   refine wp_ret ?_
   refine qr (fn := Tryd.f19) hf hM [] (l := [pV T1 0, .slice (some ⟨B3, 0, none⟩) 0 0, bV false]) (ob := []) An ?_
   show ∃ T n' a' c', (.tuple #[pV T1 0, .slice (some ⟨B3, 0, none⟩) 0 0, bV false] : Value) = .tuple #[.pointer (some ⟨T, 0, none⟩), .slice a' n' c', .bool false] ∧ Keep Nn w w2
   exact ⟨_, _, _, _, rfl, hk0⟩
 · have hc1 := (nU hc1r)
   refine wp_skip ?_
   refine hK4 _ _ ?_
   refine wp_seq_k (fun K7 hK7 => ?_)
   refine wp_seq_k (fun K8 hK8 => ?_)
   refine wp_region_lit ?_
   refine q0 hf hM [6, 5] [{}, {}, {}] (nw := [(19, eI 0), (18, eI (l.length : Int)), (17, eS av l.length c)]) An ?_
   clear hf; intro a hf
   refine wpList_nil ?_
   refine hK8 _ _ ?_
   refine wp_block ?_
   replace hO := OwnOk.took (M1 := []) (M2 := []) (sz := 6) hO hM (n := 0) (c := 0) (by have := hk0.size; omega) (by decide) (by decide) rfl
   replace hM : MemOk [] w2 := hM.sub (.cons _ .slnil)
   replace hO : OwnOk w.heap.size [] [oS 85 6 (.slice (some ⟨B3, 0, none⟩) 0 0) 0 (flat fBx ([] : List (H2 × B4))), oTree 72 68 T1 Bl1 ([] : List (H2 × B4))] w2 := hO
   have hf := (hf.prune [5, 6, 17, 18, 19]).to (env' := [(5, eP T1 0), (6, eS (some ⟨B3, 0, none⟩) 0 0), (17, eS av l.length c), (18, eI (l.length : Int)), (19, eI 0)]) (by kernel_rfl)
   replace hO : OwnOk w.heap.size [] [oS 85 6 (.slice (some ⟨B3, 0, none⟩) ((bsy l (0 : Int).toNat).length) 0) ((bsy l (0 : Int).toNat).length) (flat fBx (bsy l (0 : Int).toNat)), oTree 72 68 T1 Bl1 (bsy l (0 : Int).toNat)] w2 := by
    first | exact hO | (have e : ([oS 85 6 (.slice (some ⟨B3, 0, none⟩) 0 0) 0 (flat fBx ([] : List (H2 × B4))), oTree 72 68 T1 Bl1 ([] : List (H2 × B4))] : List Own) = [oS 85 6 (.slice (some ⟨B3, 0, none⟩) ((bsy l (0 : Int).toNat).length) 0) ((bsy l (0 : Int).toNat).length) (flat fBx (bsy l (0 : Int).toNat)), oTree 72 68 T1 Bl1 (bsy l (0 : Int).toNat)] := by rfl) <;> (rw [← e]; exact hO)
   refine sxloop (fun zm a w1 => ∃ (i : Int) (Bl : List Nat) (a6 : Option Addr) (c6 : Nat), zm = ((l.length : Int) - i).toNat ∧ Fr 44 [(5, eP T1 0), (6, eS a6 (bsy l i.toNat).length c6), (17, eS av l.length c), (18, eI (l.length : Int)), (19, eI i)] a ∧ MemOk [] w1 ∧ Keep Nn w w1 ∧ OwnOk w.heap.size [] [oS 85 6 (.slice a6 (bsy l i.toNat).length c6) (bsy l i.toNat).length (flat fBx (bsy l i.toNat)), oTree 72 68 T1 Bl (bsy l i.toNat)] w1 ∧ (0 ≤ i ∧ i ≤ (l.length : Int)) ∧ (∀ j, j < i.toNat → okB (l.getD j ⟨0, 0, 0, 0⟩) = true)) _ ⟨0, Bl1, some ⟨B3, 0, none⟩, 0, rfl, hf.conv (Ac rfl (Ac rfl (Ac rfl (Ac rfl (Ao rfl))))), hM, hk0, hO, (by omega), (fun j hj => by simp at hj)⟩ ?_
   clear hf hM hk0 hO
   rintro _ a w3 ⟨i, Bl, a6, c6, rfl, hf, hM, hk0, hO, hi, hgd⟩ L1 hL1
   have hbl6 := bsy_len l i.toNat
   refine wp_seq_k (fun K9 hK9 => ?_)
   refine wp_region_lit ?_
   refine q0 hf hM [5, 6, 17, 18, 19] [{}] (nw := [(20, eB (decide ((i : Int) < (l.length : Int))))]) An ?_
   clear hf; intro a hf
   refine wpList_nil ?_
   refine hK9 _ _ ?_
   refine wp_seq_k (fun K10 hK10 => ?_)
   refine qc hf (b := (decide ((i : Int) < (l.length : Int)))) (fun hc2r => ?_) (fun hc2r => ?_)
   · have hc2 := (nT hc2r)
     refine wp_skip ?_
     refine hK10 _ _ ?_
     refine wp_seq_k (fun K11 hK11 => ?_)
     refine wp_block ?_
     refine wp_seq_k (fun K12 hK12 => ?_)
     obtain ⟨bb, hbb⟩ : ∃ b : B4, b = l.getD i.toNat ⟨0, 0, 0, 0⟩ := ⟨_, rfl⟩
     refine wp_region_lit ?_
     refine q1 hf hM [5, 6, 17, 18, 19] [{}, { sp := true }, { os := [.ex (iV (l.getD i.toNat ⟨0, 0, 0, 0⟩).x0), .ex (iV (l.getD i.toNat ⟨0, 0, 0, 0⟩).y0), .ex (iV (l.getD i.toNat ⟨0, 0, 0, 0⟩).x1), .ex (iV (l.getD i.toNat ⟨0, 0, 0, 0⟩).y1)], hint := some (.agg #[iV bb.x0, iV bb.y0, iV bb.x1, iV bb.y1]) }, { os := [.nw] }, {}, { os := [.st 0 0, .st 0 1, .st 0 2, .st 0 3] }] (nw := fun B9 => [(7, eI i), (8, eP B9 0)]) (M' := fun B9 => [⟨B9, 32, [iV bb.x0, iV bb.y0, iV bb.x1, iV bb.y1]⟩]) (ob := fun B9 => [(0 : Int) ≤ i ∧ i < (l.length : Int), (av : Option Addr).isSome = true, w3.cell? (((sa av : Addr).add (i.toNat * 4)).add 0) = some (iV (l.getD i.toNat ⟨0, 0, 0, 0⟩).x0), w3.cell? (((sa av : Addr).add (i.toNat * 4)).add 1) = some (iV (l.getD i.toNat ⟨0, 0, 0, 0⟩).y0), w3.cell? (((sa av : Addr).add (i.toNat * 4)).add 2) = some (iV (l.getD i.toNat ⟨0, 0, 0, 0⟩).x1), w3.cell? (((sa av : Addr).add (i.toNat * 4)).add 3) = some (iV (l.getD i.toNat ⟨0, 0, 0, 0⟩).y1), (.agg #[iV (l.getD i.toNat ⟨0, 0, 0, 0⟩).x0, iV (l.getD i.toNat ⟨0, 0, 0, 0⟩).y0, iV (l.getD i.toNat ⟨0, 0, 0, 0⟩).x1, iV (l.getD i.toNat ⟨0, 0, 0, 0⟩).y1] : Value) = (.agg #[iV bb.x0, iV bb.y0, iV bb.x1, iV bb.y1] : Value), Ad B9 0, Ad B9 1, Ad B9 2, Ad B9 3]) (fun B9 => (Ac (by first | omega | (simp; done)) (Ac ((hav.keepNn hk0).some_ (by first | omega | (simp; done))) (Ac ((hav.keepNn hk0).get (fun _ => rfl) (by first | omega | (simp; done)) rfl) (Ac ((hav.keepNn hk0).get (fun _ => rfl) (by first | omega | (simp; done)) rfl) (Ac ((hav.keepNn hk0).get (fun _ => rfl) (by first | omega | (simp; done)) rfl) (Ac ((hav.keepNn hk0).get (fun _ => rfl) (by first | omega | (simp; done)) rfl) (Ac (by rw [hbb]) (Ac (ad _ _) (Ac (ad _ _) (Ac (ad _ _) (Ao (ad _ _))))))))))))) ?_
     clear hf hM; intro a w4 B9 hf hM hB hk
     have hbB9 : w.heap.size ≤ B9 := by have := hk0.size; omega
     have hk0 := hk0.then hk (by intro i _ h; cases h)
     have hO := hO.step hM (hk.mono (by intro _ _ h; cases h)) (by intro i h; simp only [Mem.names, List.map_cons, List.map_nil, List.mem_cons, List.not_mem_nil, or_false, List.map_append, List.cons_append, List.nil_append] at h ⊢; omega)
     clear hk hB
     refine wpList_nil ?_
     refine hK12 _ _ ?_
     refine wp_seq_k (fun K13 hK13 => ?_)
     refine wp_region_lit ?_
     refine q1 hf hM [8, 5, 6, 17, 18, 19] [{}, { hint := some (iV (i * 7)) }, { sp := true, hint := some (iV (i * 7 % 61)) }, { sp := true }, { os := [.nw] }, { os := [.st 1 0, .st 1 1] }] (nw := fun B10 => [(9, eP B10 0)]) (M' := fun B10 => [⟨B9, 32, [iV bb.x0, iV bb.y0, iV bb.x1, iV bb.y1]⟩, ⟨B10, 39, [iV (i * 7 % 61), iV 1]⟩]) (ob := fun B10 => [(iV (IntKind.i64.wrap (i * 7)) : Value) = (iV (i * 7) : Value), (61 : Int) ≠ 0, (iV (Int.tmod (i * 7) 61) : Value) = (iV (i * 7 % 61) : Value), Ad B10 0, Ad B10 1]) (fun B10 => (Ac (wr (by omega)) (Ac (by omega) (Ac (rem61 (by omega)) (Ac (ad _ _) (Ao (ad _ _))))))) ?_
     clear hf hM; intro a w5 B10 hf hM hB hk
     have hbB10 : w.heap.size ≤ B10 := by have := hk0.size; omega
     have hk0 := hk0.thenNew hk (by simp [Mem.names] <;> omega)
     have hO := hO.step hM hk (by intro i h; simp only [Mem.names, List.map_cons, List.map_nil, List.mem_cons, List.not_mem_nil, or_false, List.map_append, List.cons_append, List.nil_append] at h ⊢; omega)
     clear hk hB
     refine wpList_nil ?_
     refine hK13 _ _ ?_
     refine wp_seq_k (fun K14 hK14 => ?_)
     refine wp_seq_k (fun K15 hK15 => ?_)
     refine wp_region_lit ?_
     refine q0 hf hM [9, 8, 5, 6, 17, 18, 19] [{}, { os := [.ld 1 0, .ld 1 1] }, { os := [.ld 0 0, .ld 0 1, .ld 0 2, .ld 0 3] }] (nw := [(30, .val (.agg #[iV bb.x0, iV bb.y0, iV bb.x1, iV bb.y1])), (29, .val (.agg #[iV (i * 7 % 61), iV 1])), (28, eP T1 0)]) (ob := [Ad B10 0, Ad B10 1, Ad B9 0, Ad B9 1, Ad B9 2, Ad B9 3]) (Ac (ad _ _) (Ac (ad _ _) (Ac (ad _ _) (Ac (ad _ _) (Ac (ad _ _) (Ao (ad _ _))))))) ?_
     clear hf; intro a hf
     rcases Bool.eq_false_or_eq_true (boxRight bb.x0 bb.y0 bb.x1 bb.y1) with hs1r | hs1r
     ·
       rcases Bool.eq_false_or_eq_true (inWorld bb.x0 bb.y0 bb.x1 bb.y1) with hs2r | hs2r
       ·
         replace hO : OwnOk w.heap.size [⟨B9, 32, [iV bb.x0, iV bb.y0, iV bb.x1, iV bb.y1]⟩, ⟨B10, 39, [iV (i * 7 % 61), iV 1]⟩] [oTree 72 68 T1 Bl (bsy l i.toNat), oS 85 6 (.slice a6 (bsy l i.toNat).length c6) (bsy l i.toNat).length (flat fBx (bsy l i.toNat))] w5 := OwnOk.front (l1 := [oS 85 6 (.slice a6 (bsy l i.toNat).length c6) (bsy l i.toNat).length (flat fBx (bsy l i.toNat))]) (l2 := []) hO
         refine sxcall hf rfl rfl rfl rfl (g := 14) (vs := [pV T1 0, .agg #[iV (i * 7 % 61), iV 1], .agg #[iV bb.x0, iV bb.y0, iV bb.x1, iV bb.y1]]) (ob := []) (by as_aux_lemma => kernel_rfl) An enters14 (tput_ok E w.heap.size T1 Bl (bsy l i.toNat) (i * 7 % 61) 1 bb.x0 bb.y0 bb.x1 bb.y1 w5 hs1r hs2r (hO.own _ (List.Mem.head _)) hO.ndH hk0.size (bsy_new l ⟨hi.1, by omega⟩) (by rw [bsy_len]; omega) (fun W hkW => hG.keepOld hk0 hkW (fun i hi => (hO.ltB (List.Mem.head _) hi).1))) ?_
         clear hf; rintro _ w6 a ⟨Bl2, rfl, hx, hB1, hd1, hk⟩ hf
         have hO2 := hO.turnB hM hk hx hB1 hd1; have hM := hO.memTurnB hM hk
         have hk0 := hk0.then hk (by intro i hi h; have := (hO.ltB (List.Mem.head _) h).1; omega); clear hO; have hO := hO2; clear hO2
         clear hk hx hB1 hd1
         replace hO : OwnOk w.heap.size [⟨B9, 32, [iV bb.x0, iV bb.y0, iV bb.x1, iV bb.y1]⟩, ⟨B10, 39, [iV (i * 7 % 61), iV 1]⟩] [oTree 72 68 T1 Bl2 ((bsy l i.toNat) ++ [((⟨i * 7 % 61, 1⟩ : H2), (⟨bb.x0, bb.y0, bb.x1, bb.y1⟩ : B4))]), oS 85 6 (.slice a6 (bsy l i.toNat).length c6) (bsy l i.toNat).length (flat fBx (bsy l i.toNat))] w6 := hO
         have eb : bsy l i.toNat ++ [((⟨i * 7 % 61, 1⟩ : H2), bb)] = bsy l (i + 1).toNat := by rw [bsy_succ l hi.1, ← hbb]
         replace hO : OwnOk w.heap.size [⟨B9, 32, [iV bb.x0, iV bb.y0, iV bb.x1, iV bb.y1]⟩, ⟨B10, 39, [iV (i * 7 % 61), iV 1]⟩] [oTree 72 68 T1 Bl2 (bsy l (i + 1).toNat), oS 85 6 (.slice a6 (bsy l i.toNat).length c6) (bsy l i.toNat).length (flat fBx (bsy l i.toNat))] w6 := by rw [← eb]; exact hO
         have hbo : okB bb = true := by unfold okB; rw [hs1r, hs2r]; rfl
         refine q0 hf hM [9, 8, 5, 6, 17, 18, 19] [{}] (nw := [(32, eB false)]) An ?_
         clear hf; intro a hf
         refine wpList_nil ?_
         refine hK15 _ _ ?_
         refine sxcond hf (b := false) (by kernel_rfl) (fun h => by cases h) (fun _ => ?_)
         refine wp_skip ?_
         refine hK14 _ _ ?_
         refine wp_region_lit ?_
         refine q0 hf hM [5, 6, 17, 18, 19] [{}, { os := [.ld 1 0, .ld 1 1] }, { os := [.ld 0 0, .ld 0 1, .ld 0 2, .ld 0 3] }, { sp := true }] (nw := [(38, .val (.agg #[iV (i * 7 % 61), iV 1, iV bb.x0, iV bb.y0, iV bb.x1, iV bb.y1])), (35, eS a6 (bsy l i.toNat).length c6)]) (ob := [Ad B10 0, Ad B10 1, Ad B9 0, Ad B9 1, Ad B9 2, Ad B9 3]) (Ac (ad _ _) (Ac (ad _ _) (Ac (ad _ _) (Ac (ad _ _) (Ac (ad _ _) (Ao (ad _ _))))))) ?_
         clear hf; intro a hf
         refine sxbslice hf hM (t := 47) (e := 85) (len := 1) (cs := [iV (i * 7 % 61), iV 1, iV bb.x0, iV bb.y0, iV bb.x1, iV bb.y1]) (ob := []) rfl rfl rfl rfl (by as_aux_lemma => kernel_rfl) An (by as_aux_lemma => kernel_rfl) ?_
         clear hf hM; intro a w7 B14 hf hM hB hk
         replace hM : MemOk [⟨B9, 32, [iV bb.x0, iV bb.y0, iV bb.x1, iV bb.y1]⟩, ⟨B10, 39, [iV (i * 7 % 61), iV 1]⟩, ⟨B14, 85, [iV (i * 7 % 61), iV 1, iV bb.x0, iV bb.y0, iV bb.x1, iV bb.y1]⟩] w7 := hM
         have hbB14 : w.heap.size ≤ B14 := by have := hk0.size; omega
         have hk0 := hk0.trans hk.nn
         have hO := hO.step hM hk.nn (by intro i h; simp only [Mem.names, List.map_cons, List.map_nil, List.mem_cons, List.not_mem_nil, or_false, List.map_append, List.cons_append, List.nil_append] at h ⊢; omega)
         clear hk hB
         replace hO : OwnOk w.heap.size [⟨B9, 32, [iV bb.x0, iV bb.y0, iV bb.x1, iV bb.y1]⟩, ⟨B10, 39, [iV (i * 7 % 61), iV 1]⟩, ⟨B14, 85, [iV (i * 7 % 61), iV 1, iV bb.x0, iV bb.y0, iV bb.x1, iV bb.y1]⟩] [oS 85 6 (.slice a6 (bsy l i.toNat).length c6) (bsy l i.toNat).length (flat fBx (bsy l i.toNat)), oTree 72 68 T1 Bl2 (bsy l (i + 1).toNat)] w7 := OwnOk.front (l1 := [oTree 72 68 T1 Bl2 (bsy l (i + 1).toNat)]) (l2 := []) hO
         refine sxappend hf hM (e := 85) (sz := 6) (by_ := 48) (k := (bsy l i.toNat).length) (v := .slice a6 (bsy l i.toNat).length c6) (xs := flat fBx (bsy l i.toNat)) hO rfl rfl rfl rfl (av := some ⟨B14, 0, none⟩) (m := 1) (c := 1) rfl rfl Tryd.underlying47 (by kernel_rfl) rfl (news := flat fBx ([((⟨i * 7 % 61, 1⟩ : H2), (⟨bb.x0, bb.y0, bb.x1, bb.y1⟩ : B4))] : List (H2 × B4))) (Arr.of_memT (sz := 6) (f := fBx) (L := ([((⟨i * 7 % 61, 1⟩ : H2), (⟨bb.x0, bb.y0, bb.x1, bb.y1⟩ : B4))] : List (H2 × B4))) (l := ([((⟨i * 7 % 61, 1⟩ : H2), (⟨bb.x0, bb.y0, bb.x1, bb.y1⟩ : B4))] : List (H2 × B4))) hM (List.Mem.tail _ (List.Mem.tail _ (List.Mem.head _))) (fun _ => rfl) rfl rfl) (flat_one1 fBx_one) (by simp only [maxLen]; constructor <;> (first | omega | (simp; omega))) (by have := hk0.size; omega) ?_
         clear hf hM hO; intro a w8 av1 cv1 hf hM hO hk
         have en : ((bsy l i.toNat).length + 1 : Nat) = ((bsy l i.toNat) ++ ([((⟨i * 7 % 61, 1⟩ : H2), (⟨bb.x0, bb.y0, bb.x1, bb.y1⟩ : B4))] : List (H2 × B4))).length := (by first | (simp; done) | (simp; omega))
         have ec : flat fBx (bsy l i.toNat) ++ flat fBx ([((⟨i * 7 % 61, 1⟩ : H2), (⟨bb.x0, bb.y0, bb.x1, bb.y1⟩ : B4))] : List (H2 × B4)) = flat fBx ((bsy l i.toNat) ++ ([((⟨i * 7 % 61, 1⟩ : H2), (⟨bb.x0, bb.y0, bb.x1, bb.y1⟩ : B4))] : List (H2 × B4))) := (by first | rfl | exact (flat_app _ _ _).symm | simp [flat_app, flat_nil])
         rw [en] at hf hO; rw [ec] at hO; clear en ec
         replace hO : OwnOk w.heap.size [⟨B9, 32, [iV bb.x0, iV bb.y0, iV bb.x1, iV bb.y1]⟩, ⟨B10, 39, [iV (i * 7 % 61), iV 1]⟩, ⟨B14, 85, [iV (i * 7 % 61), iV 1, iV bb.x0, iV bb.y0, iV bb.x1, iV bb.y1]⟩] [oS 85 6 (.slice av1 (((bsy l i.toNat) ++ ([((⟨i * 7 % 61, 1⟩ : H2), (⟨bb.x0, bb.y0, bb.x1, bb.y1⟩ : B4))] : List (H2 × B4))).length) cv1) (((bsy l i.toNat) ++ ([((⟨i * 7 % 61, 1⟩ : H2), (⟨bb.x0, bb.y0, bb.x1, bb.y1⟩ : B4))] : List (H2 × B4))).length) (flat fBx ((bsy l i.toNat) ++ ([((⟨i * 7 % 61, 1⟩ : H2), (⟨bb.x0, bb.y0, bb.x1, bb.y1⟩ : B4))] : List (H2 × B4)))), oTree 72 68 T1 Bl2 (bsy l (i + 1).toNat)] w8 := hO
         have hk0 := hk0.then hk (by intro i hi h; have := h.1; omega)
         clear hk
         refine q0 hf hM [5, 17, 18, 19] [{}] (nw := [(6, eS av1 (((bsy l i.toNat) ++ ([((⟨i * 7 % 61, 1⟩ : H2), (⟨bb.x0, bb.y0, bb.x1, bb.y1⟩ : B4))] : List (H2 × B4))).length) cv1)]) An ?_
         clear hf; intro a hf
         refine wpList_nil ?_
         refine hK11 _ _ ?_
         refine wp_region_lit ?_
         refine q0 hf hM [6, 5, 17, 18] [{ hint := some (iV (i + 1)) }, {}] (nw := [(19, eI (i + 1))]) (ob := [(iV (IntKind.i64.wrap (i + 1)) : Value) = (iV (i + 1) : Value)]) (Ao (wr (by omega))) ?_
         clear hf; intro a hf
         refine wpList_nil ?_
         have hnx : bsy l (i + 1).toNat = bsy l i.toNat ++ [((⟨i * 7 % 61, 1⟩ : H2), (⟨bb.x0, bb.y0, bb.x1, bb.y1⟩ : B4))] := eb.symm
         have hgd2 : ∀ j, j < (i + 1).toNat → okB (l.getD j ⟨0, 0, 0, 0⟩) = true := fun j hj => by
           rcases Nat.lt_or_ge j i.toNat with h | h
           · exact hgd j h
           · obtain rfl : j = i.toNat := by omega
             rw [← hbb]; exact hbo
         have hf := (hf.prune [5, 6, 17, 18, 19]).to (env' := [(5, eP T1 0), (6, eS av1 (((bsy l i.toNat) ++ ([((⟨i * 7 % 61, 1⟩ : H2), (⟨bb.x0, bb.y0, bb.x1, bb.y1⟩ : B4))] : List (H2 × B4))).length) cv1), (17, eS av l.length c), (18, eI (l.length : Int)), (19, eI (i + 1))]) (by kernel_rfl)
         replace hO : OwnOk w.heap.size [] [oS 85 6 (.slice av1 (((bsy l i.toNat) ++ ([((⟨i * 7 % 61, 1⟩ : H2), (⟨bb.x0, bb.y0, bb.x1, bb.y1⟩ : B4))] : List (H2 × B4))).length) cv1) (((bsy l i.toNat) ++ ([((⟨i * 7 % 61, 1⟩ : H2), (⟨bb.x0, bb.y0, bb.x1, bb.y1⟩ : B4))] : List (H2 × B4))).length) (flat fBx ((bsy l i.toNat) ++ ([((⟨i * 7 % 61, 1⟩ : H2), (⟨bb.x0, bb.y0, bb.x1, bb.y1⟩ : B4))] : List (H2 × B4)))), oTree 72 68 T1 Bl2 (bsy l (i + 1).toNat)] w8 := hO.sub (.cons _ (.cons _ (.cons _ .slnil))) (List.Sublist.refl _)
         replace hM : MemOk [] w8 := hM.sub (.cons _ (.cons _ (.cons _ .slnil)))
         replace hO : OwnOk w.heap.size [] [oS 85 6 (.slice av1 ((bsy l (i + 1).toNat).length) cv1) ((bsy l (i + 1).toNat).length) (flat fBx (bsy l (i + 1).toNat)), oTree 72 68 T1 Bl2 (bsy l (i + 1).toNat)] w8 := by
          first | exact hO | (have e : ([oS 85 6 (.slice av1 (((bsy l i.toNat) ++ ([((⟨i * 7 % 61, 1⟩ : H2), (⟨bb.x0, bb.y0, bb.x1, bb.y1⟩ : B4))] : List (H2 × B4))).length) cv1) (((bsy l i.toNat) ++ ([((⟨i * 7 % 61, 1⟩ : H2), (⟨bb.x0, bb.y0, bb.x1, bb.y1⟩ : B4))] : List (H2 × B4))).length) (flat fBx ((bsy l i.toNat) ++ ([((⟨i * 7 % 61, 1⟩ : H2), (⟨bb.x0, bb.y0, bb.x1, bb.y1⟩ : B4))] : List (H2 × B4)))), oTree 72 68 T1 Bl2 (bsy l (i + 1).toNat)] : List Own) = [oS 85 6 (.slice av1 ((bsy l (i + 1).toNat).length) cv1) ((bsy l (i + 1).toNat).length) (flat fBx (bsy l (i + 1).toNat)), oTree 72 68 T1 Bl2 (bsy l (i + 1).toNat)] := by (rw [hnx]; try rfl)) <;> (rw [← e]; exact hO)
         refine hL1 _ _ _ (by omega) ⟨i + 1, Bl2, av1, cv1, rfl, hf.conv (Ac rfl (Ac (by rw [hnx]; rfl) (Ac rfl (Ac rfl (Ao rfl))))), hM, hk0, hO, (by omega), hgd2⟩
       ·
         refine sxcall hf rfl rfl rfl rfl (g := 14) (vs := [pV T1 0, .agg #[iV (i * 7 % 61), iV 1], .agg #[iV bb.x0, iV bb.y0, iV bb.x1, iV bb.y1]]) (ob := []) (by as_aux_lemma => kernel_rfl) An enters14 (tput_range E T1 (i * 7 % 61) 1 bb.x0 bb.y0 bb.x1 bb.y1 w5 hs1r hs2r (hG.keep hk0 (fun _ h => h))) ?_
         clear hf; rintro _ w9 a ⟨rfl, hk⟩ hf
         have hO := hO.keepNn hk
         have hM := hM.keepNn hk
         have hk0 := hk0.trans hk.nn
         clear hk
         refine q0 hf hM [9, 8, 5, 6, 17, 18, 19] [{}] (nw := [(32, eB true)]) An ?_
         clear hf; intro a hf
         refine wpList_nil ?_
         refine hK15 _ _ ?_
         refine sxcond hf (b := true) (by kernel_rfl) (fun _ => ?_) (fun h => by cases h)
         refine wp_seq_k (fun K16 hK16 => ?_)
         refine wp_region_lit ?_
         refine q0 hf hM [] [{}, {}, {}, {}, {}] (nw := [(4, eB false), (3, eS a6 (bsy l i.toNat).length c6), (2, eP T1 0)]) An ?_
         clear hf; intro a hf
         refine wpList_nil ?_
         refine hK16 _ _ ?_
         refine wp_ret ?_
         refine qr (fn := Tryd.f19) hf hM [] (l := [pV T1 0, .slice a6 (bsy l i.toNat).length c6, bV false]) (ob := []) An ?_
         show ∃ T n' a' c', (.tuple #[pV T1 0, .slice a6 (bsy l i.toNat).length c6, bV false] : Value) = .tuple #[.pointer (some ⟨T, 0, none⟩), .slice a' n' c', .bool false] ∧ Keep Nn w w9
         exact ⟨_, _, _, _, rfl, hk0⟩
     ·
       refine sxcall hf rfl rfl rfl rfl (g := 14) (vs := [pV T1 0, .agg #[iV (i * 7 % 61), iV 1], .agg #[iV bb.x0, iV bb.y0, iV bb.x1, iV bb.y1]]) (ob := []) (by as_aux_lemma => kernel_rfl) An enters14 (tput_form E T1 (i * 7 % 61) 1 bb.x0 bb.y0 bb.x1 bb.y1 w5 hs1r (hG.keep hk0 (fun _ h => h))) ?_
       clear hf; rintro _ w10 a ⟨rfl, hk⟩ hf
       have hO := hO.keepNn hk
       have hM := hM.keepNn hk
       have hk0 := hk0.trans hk.nn
       clear hk
       refine q0 hf hM [9, 8, 5, 6, 17, 18, 19] [{}] (nw := [(32, eB true)]) An ?_
       clear hf; intro a hf
       refine wpList_nil ?_
       refine hK15 _ _ ?_
       refine sxcond hf (b := true) (by kernel_rfl) (fun _ => ?_) (fun h => by cases h)
       refine wp_seq_k (fun K17 hK17 => ?_)
       refine wp_region_lit ?_
       refine q0 hf hM [] [{}, {}, {}, {}, {}] (nw := [(4, eB false), (3, eS a6 (bsy l i.toNat).length c6), (2, eP T1 0)]) An ?_
       clear hf; intro a hf
       refine wpList_nil ?_
       refine hK17 _ _ ?_
       refine wp_ret ?_
       refine qr (fn := Tryd.f19) hf hM [] (l := [pV T1 0, .slice a6 (bsy l i.toNat).length c6, bV false]) (ob := []) An ?_
       show ∃ T n' a' c', (.tuple #[pV T1 0, .slice a6 (bsy l i.toNat).length c6, bV false] : Value) = .tuple #[.pointer (some ⟨T, 0, none⟩), .slice a' n' c', .bool false] ∧ Keep Nn w w10
       exact ⟨_, _, _, _, rfl, hk0⟩
   · have hc2 := (nU hc2r)
     refine wp_exit ?_
     refine hK7 _ _ ?_
     refine wp_seq_k (fun K18 hK18 => ?_)
     refine wp_region_lit ?_
     refine q0 hf hM [] [{}, {}, {}, {}, {}] (nw := [(4, eB true), (3, eS a6 (bsy l i.toNat).length c6), (2, eP T1 0)]) An ?_
     clear hf; intro a hf
     refine wpList_nil ?_
     refine hK18 _ _ ?_
     refine wp_ret ?_
     refine qr (fn := Tryd.f19) hf hM [] (l := [pV T1 0, .slice a6 (bsy l i.toNat).length c6, bV true]) (ob := []) An ?_
     show ∃ T n' a' c', (.tuple #[pV T1 0, .slice a6 (bsy l i.toNat).length c6, bV true] : Value) = .tuple #[.pointer (some ⟨T, 0, none⟩), .slice a' n' c', .bool false] ∧ Keep Nn w w3
     exfalso
     have hgt := goodL_of (l := l) (by omega) (fun j hj => hgd j (by omega))
     rw [hn0] at hgt
     cases hgt
end Go.Proofs.YthofalkkdpjdlaaDoor
