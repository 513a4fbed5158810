/- slices.Insert, of what is found -/
import Derived.Test.YthofalkkdpjdlaaDoorR1
import Derived.Test.YthofalkkdpjdlaaDoorXpD
namespace Go.Proofs.YthofalkkdpjdlaaDoor
open Go.Px
set_option linter.unusedVariables false
set_option linter.unusedSimpArgs false

theorem ov_call (u v : Value) (w : World) (h : (Extern.SlicesOverlaps.overlaps #[91, 91] #[4] #[u, v]).run Tryd.prog w = .ok (.bool false) w) : (callFunc 67 #[u, v]).run Tryd.prog w = .ok (.value (.bool false)) w := by
  rw [@run_callFunc_extern Tryd.prog 67 _ (Extern.SlicesOverlaps.overlaps #[91, 91] #[4]) Tryd.func67 (by kernel_rfl) (by kernel_rfl) (by kernel_rfl) (by kernel_rfl), h]
  rfl

set_option maxRecDepth 10000 in
set_option maxHeartbeats 1600000 in
theorem finsert (base : Nat) (av : Option Addr) (l : List F3) (c i vb : Nat) (x : F3) (w : World) (hown : w.ownsRow base 93 3 (.slice av l.length c) l.length (flat fF l)) (hi : i ≤ l.length) (hbl : l.length ≤ 1000000) (hM0 : MemOk [⟨vb, 93, [.int .i64 x.i, .int .i64 x.g, .int .i64 x.a]⟩] w) (hne : Value.ownBlock (.slice av l.length c) ≠ some vb) (hbw : base ≤ w.heap.size) :
    Calls Tryd.prog 49 #[.slice av l.length c, iV (i : Int), .slice (some ⟨vb, 0, none⟩) 1 1] w (Ret fun v w' => ∃ a' c', v = .slice a' (l.take i ++ x :: l.drop i).length c' ∧ World.ownsRow w' base 93 3 (.slice a' (l.take i ++ x :: l.drop i).length c') (l.take i ++ x :: l.drop i).length (flat fF (l.take i ++ x :: l.drop i)) ∧ Keep (fun j => Value.ownBlock (.slice av l.length c) = some j) w w' ∧ (∀ j, Value.ownBlock (.slice a' (l.take i ++ x :: l.drop i).length c') = some j → Value.ownBlock (.slice av l.length c) = some j ∨ w.heap.size ≤ j)) := by
 refine sxenter (n := 95) (args := [.slice av l.length c, iV (i : Int), .slice (some ⟨vb, 0, none⟩) 1 1]) Tryd.func49 rfl rfl rfl fun a hf => ?_
 replace hf : Fr 95 [(0, eS av l.length c), (1, eI (i : Int)), (2, eS (some ⟨vb, 0, none⟩) 1 1)] a := hf
 have hM : MemOk [⟨vb, 93, [iV x.i, iV x.g, iV x.a]⟩] w := hM0
 have hk0 : Keep (fun j => Value.ownBlock (.slice av l.length c) = some j) w w := Keep.refl _ _
 have hO : OwnOk base [⟨vb, 93, [iV x.i, iV x.g, iV x.a]⟩] [oS 93 3 (.slice av l.length c) l.length (flat fF l)] w := OwnOk.one2 hM0 hown hne
 obtain ⟨q, hq⟩ : ∃ q, q = l.length + 1 - i := ⟨_, rfl⟩
 have hne2 : Value.ownBlock (.slice av (l.length + 1) c) ≠ some vb := by cases av <;> exact hne
 refine wp_seq_k (fun K1 hK1 => ?_)
 refine wp_region_lit ?_
 refine q0 hf hM [0, 1, 2] [{}] (nw := []) An ?_
 clear hf; intro a hf
 refine wpList_nil ?_
 refine hK1 _ _ ?_
 refine wp_seq_k (fun K2 hK2 => ?_)
 refine wp_region_lit ?_
 refine q0 hf hM [0, 1, 2] [{}, {}, { sp := true, hint := some (.slice (cutA av i c 3) (l.length - i) (c - i)) }] (nw := []) (ob := [0 ≤ ((i : Int) : Int) ∧ ((i : Int) : Int) ≤ ((l.length : Nat) : Int), (.slice (cutA av ((i : Int) : Int).toNat c 3) (l.length - ((i : Int) : Int).toNat) (c - ((i : Int) : Int).toNat) : Value) = (.slice (cutA av i c 3) (l.length - i) (c - i) : Value)]) (Ac (by have := ((own_arr (hO.own _ (List.Mem.head _)))).le; omega) (Ao (by first | rfl | (simp; done) | (simp; omega)))) ?_
 clear hf; intro a hf
 refine wpList_nil ?_
 refine hK2 _ _ ?_
 refine wp_seq_k (fun K3 hK3 => ?_)
 refine wp_region_lit ?_
 refine q0 hf hM [0, 1, 2] [{}, {}, {}] (nw := [(7, eI 1)]) An ?_
 clear hf; intro a hf
 refine wpList_nil ?_
 refine hK3 _ _ ?_
 refine wp_seq_k (fun K4 hK4 => ?_)
 refine wp_seq_k (fun K5 hK5 => ?_)
 refine wp_region_lit ?_
 refine q0 hf hM [7, 0, 1, 2] [{}, {}] (nw := [(16, eB false)]) An ?_
 clear hf; intro a hf
 refine wpList_nil ?_
 refine hK5 _ _ ?_
 refine sxcond hf (b := false) (by kernel_rfl) (fun h => by cases h) (fun _ => ?_)
 refine wp_skip ?_
 refine hK4 _ _ ?_
 refine wp_seq_k (fun K6 hK6 => ?_)
 refine wp_region_lit ?_
 refine q0 hf hM [7, 0, 1, 2] [{}, {}, {}] (nw := [(8, eI (l.length : Int))]) An ?_
 clear hf; intro a hf
 refine wpList_nil ?_
 refine hK6 _ _ ?_
 refine wp_seq_k (fun K7 hK7 => ?_)
 refine wp_seq_k (fun K8 hK8 => ?_)
 refine wp_region_lit ?_
 refine q0 hf hM [8, 7, 0, 1, 2] [{}, {}, {}] (nw := [(22, eB (((i : Int) : Int) == (l.length : Int)))]) An ?_
 clear hf; intro a hf
 refine wpList_nil ?_
 refine hK8 _ _ ?_
 refine qc hf (b := (((i : Int) : Int) == (l.length : Int))) (fun hc2r => ?_) (fun hc2r => ?_)
 · have hc2 := (nE hc2r)
   refine wp_seq_k (fun K9 hK9 => ?_)
   refine wp_region_lit ?_
   refine q0 hf hM [] [{}, {}] (nw := [(24, eS (some ⟨vb, 0, none⟩) 1 1), (23, eS av l.length c)]) An ?_
   clear hf; intro a hf
   refine sxappendk hf hM (e := 93) (sz := 3) (by_ := 24) (k := l.length) (v := .slice av l.length c) (xs := flat fF l) hO rfl rfl rfl rfl (av := some ⟨vb, 0, none⟩) (m := 1) (c := 1) rfl rfl Tryd.underlying91 (by kernel_rfl) rfl (news := flat fF [x]) (Arr.of_memT (sz := 3) (f := fF) (L := [x]) (l := [x]) (c := 1) hM (List.Mem.head _) (fun _ => rfl) rfl rfl) (flat_one1 fF_one) (by simp only [maxLen]; omega) (by have := hk0.size; omega) ?_
   clear hf hM hO; intro a w1 av2 cv2 hf hM hO hk hB
   have hk0 := hk0.then hk (by intro i hi h; exact h); clear hk
   rw [← flat_app] at hO
   replace hO : OwnOk base [⟨vb, 93, [iV x.i, iV x.g, iV x.a]⟩] [oS 93 3 (.slice av2 (l.length + 1) cv2) (l.length + 1) (flat fF (l ++ [x]))] w1 := hO
   refine q0 hf hM [] [{}] (nw := [(6, eS av2 (l.length + 1) cv2)]) An ?_
   clear hf; intro a hf
   refine wpList_nil ?_
   refine hK9 _ _ ?_
   refine wp_ret ?_
   refine qr (fn := Tryd.f49) hf hM [] (l := [.slice av2 (l.length + 1) cv2]) (ob := []) An ?_
   show ∃ a' c', (.slice av2 (l.length + 1) cv2 : Value) = .slice a' (l.take i ++ x :: l.drop i).length c' ∧ World.ownsRow w1 base 93 3 (.slice a' (l.take i ++ x :: l.drop i).length c') (l.take i ++ x :: l.drop i).length (flat fF (l.take i ++ x :: l.drop i)) ∧ Keep (fun j => Value.ownBlock (.slice av l.length c) = some j) w w1 ∧ (∀ j, Value.ownBlock (.slice a' (l.take i ++ x :: l.drop i).length c') = some j → Value.ownBlock (.slice av l.length c) = some j ∨ w.heap.size ≤ j)
   have el : l ++ [x] = (l.take i ++ x :: l.drop i) := by rw [List.take_of_length_le (by omega), List.drop_of_length_le (by omega)]
   rw [el] at hO
   have en : l.length + 1 = (l.take i ++ x :: l.drop i).length := by simp; omega
   rw [en] at hO ⊢
   exact ⟨_, _, rfl, hO.own _ (List.Mem.head _), hk0, (fun j hj => hB j (by rw [en]; exact hj))⟩
 · have hc2 := (nF hc2r)
   refine wp_skip ?_
   refine hK7 _ _ ?_
   refine wp_seq_k (fun K10 hK10 => ?_)
   refine wp_seq_k (fun K11 hK11 => ?_)
   refine wp_region_lit ?_
   refine q0 hf hM [8, 7, 0, 1, 2] [{}, {}, { hint := some (iV ((l.length : Int) + 1)) }, {}, {}, {}] (nw := [(31, eB (decide ((((l.length : Int) + 1) : Int) > (c : Int))))]) (ob := [(iV (IntKind.i64.wrap ((l.length : Int) + 1)) : Value) = (iV ((l.length : Int) + 1) : Value)]) (Ao (wr (by omega))) ?_
   clear hf; intro a hf
   refine wpList_nil ?_
   refine hK11 _ _ ?_
   refine qc hf (b := (decide ((((l.length : Int) + 1) : Int) > (c : Int)))) (fun hc3r => ?_) (fun hc3r => ?_)
   · have hc3 := (nT hc3r)
     refine wp_seq_k (fun K12 hK12 => ?_)
     refine wp_region_lit ?_
     refine q0 hf hM [7, 0, 1, 2] [{}, {}, { sp := true, hint := some (.slice av i c) }, {}, {}, { hint := some (iV ((l.length : Int) + 1)) }, {}, { hint := some (iV (((l.length : Int) + 1) - (i : Int))) }] (nw := [(39, eI (((l.length : Int) + 1) - (i : Int))), (34, eS av i c)]) (ob := [0 ≤ ((i : Int) : Int) ∧ ((i : Int) : Int) ≤ ((c : Nat) : Int), (.slice av ((i : Int) : Int).toNat c : Value) = (.slice av i c : Value), (iV (IntKind.i64.wrap ((l.length : Int) + 1)) : Value) = (iV ((l.length : Int) + 1) : Value), (iV (IntKind.i64.wrap (((l.length : Int) + 1) - (i : Int))) : Value) = (iV (((l.length : Int) + 1) - (i : Int)) : Value)]) (Ac (by have := (own_arr (hO.own _ (List.Mem.head _))).le; omega) (Ac (by first | rfl | (simp; done) | (simp; omega)) (Ac (wr (by omega)) (Ao (wr (by omega)))))) ?_
     clear hf; intro a hf
     refine sxgrowz hf hM hO (i := i) (q := q) (by_ := 24) (zs := [.int .i64 0, .int .i64 0, .int .i64 0]) rfl rfl rfl rfl rfl rfl (by omega) Tryd.underlying91 Tryd.underlying3 (by kernel_rfl) rfl rfl (by omega) (by omega) (by omega) (by simp only [maxLen]; omega) (by have := hk0.size; omega) ?_
     clear hf hM hO; intro a w2 B cv2 hf hM hO hB hk
     have hbB : w.heap.size ≤ B := by have := hk0.size; omega
     have hk0 := hk0.trans hk.nn; clear hk hB
     rw [flat_take (f := fF) (sz := 3) (fun _ => rfl), reps_flat (f := fF) (z := (⟨0, 0, 0⟩ : F3)) (zs := [.int .i64 0, .int .i64 0, .int .i64 0]) rfl q, ← flat_app] at hO
     replace hO : OwnOk base [⟨vb, 93, [iV x.i, iV x.g, iV x.a]⟩] [oS 93 3 (.slice (some ⟨B, 0, none⟩) (i + q) cv2) (i + q) (flat fF (l.take i ++ List.replicate q (⟨0, 0, 0⟩ : F3))), oS 93 3 (.slice av l.length c) l.length (flat fF l)] w2 := hO
     refine q0 hf hM [7, 0, 1, 2] [{}] (nw := [(9, eS (some ⟨B, 0, none⟩) (i + q) cv2)]) An ?_
     clear hf; intro a hf
     refine wpList_nil ?_
     refine hK12 _ _ ?_
     refine wp_seq_k (fun K13 hK13 => ?_)
     refine wp_region_lit ?_
     refine q0 hf hM [9, 7, 0, 1] [{}, {}, { sp := true, hint := some (.slice (cutA (some ⟨B, 0, none⟩) i cv2 3) (i + q - i) (cv2 - i)) }, {}] (nw := [(44, eS (some ⟨vb, 0, none⟩) 1 1), (43, eS (cutA (some ⟨B, 0, none⟩) i cv2 3) (i + q - i) (cv2 - i))]) (ob := [0 ≤ ((i : Int) : Int) ∧ ((i : Int) : Int) ≤ (((i + q) : Nat) : Int), (.slice (cutA (some ⟨B, 0, none⟩) ((i : Int) : Int).toNat cv2 3) ((i + q) - ((i : Int) : Int).toNat) (cv2 - ((i : Int) : Int).toNat) : Value) = (.slice (cutA (some ⟨B, 0, none⟩) i cv2 3) (i + q - i) (cv2 - i) : Value)]) (Ac (by omega) (Ao (by first | rfl | (simp; done) | (simp; omega)))) ?_
     clear hf; intro a hf
     refine sxcopy hf hM hO rfl rfl rfl rfl (i := i) rfl rfl rfl rfl rfl Tryd.underlying91 (by kernel_rfl) rfl (by omega) (news := flat fF [x]) (Arr.of_memT (sz := 3) (f := fF) (L := [x]) (l := [x]) (c := 1) hM (List.Mem.head _) (fun _ => rfl) rfl rfl) one_take ?_
     clear hf hM hO; intro a w3 hf hM hO hk
     have hk0 := hk0.then hk (by intro j hj h; simp only [Value.ownBlock, Option.some.injEq] at h; omega); clear hk
     rw [ins_new1 (by omega) (by omega)] at hO
     replace hO : OwnOk base [⟨vb, 93, [iV x.i, iV x.g, iV x.a]⟩] [oS 93 3 (.slice (some ⟨B, 0, none⟩) (i + q) cv2) (i + q) (flat fF (l.take i ++ x :: List.replicate (q - 1) (⟨0, 0, 0⟩ : F3))), oS 93 3 (.slice av l.length c) l.length (flat fF l)] w3 := hO
     refine wpList_nil ?_
     refine hK13 _ _ ?_
     refine wp_seq_k (fun K14 hK14 => ?_)
     replace hM := hM.drew; replace hk0 := hk0.drew; replace hO := hO.drew
     obtain ⟨Cq1, hCq1i, hCq1e⟩ := qcls fun w' => MemOk [⟨vb, 93, [iV x.i, iV x.g, iV x.a]⟩] w' ∧ Keep (fun j => Value.ownBlock (.slice av l.length c) = some j) w w' ∧ OwnOk base [⟨vb, 93, [iV x.i, iV x.g, iV x.a]⟩] [oS 93 3 (.slice av l.length c) l.length (flat fF l)] w'
     refine sxdraw (C := Cq1) (.leaf [(0, true), (1, true), (2, true), (3, true), (4, true), (5, true), (6, true), (7, true), (8, false)]) (by kernel_rfl) (by kernel_rfl) (by as_aux_lemma => kernel_rfl) rfl (by as_aux_lemma => kernel_rfl) (by kernel_rfl) (hCq1i _ ⟨hM.sub (.cons_cons _ .slnil), hk0, hO.sub (.cons_cons _ .slnil) (.cons _ (.cons_cons _ .slnil))⟩) ?_
     refine sxleaf ?_
     have hC := (hCq1i _ ⟨hM.sub (.cons_cons _ .slnil), hk0, hO.sub (.cons_cons _ .slnil) (.cons _ (.cons_cons _ .slnil))⟩)
     refine qd hf hC (fun w' h => (hCq1e w' h).1) [9] [{}, {}, {}, { hint := some (iV ((i : Int) + 1)) }, { sp := true, hint := some (.slice (cutA (some ⟨B, 0, none⟩) (i + 1) cv2 3) (i + q - (i + 1)) (cv2 - (i + 1))) }, {}, {}, { sp := true, hint := some (.slice (cutA av i c 3) (l.drop i).length (c - i)) }] (nw := [(53, eS (cutA av i c 3) (l.drop i).length (c - i)), (50, eS (cutA (some ⟨B, 0, none⟩) (i + 1) cv2 3) (i + q - (i + 1)) (cv2 - (i + 1)))]) (ob := [(iV (IntKind.i64.wrap ((i : Int) + 1)) : Value) = (iV ((i : Int) + 1) : Value), 0 ≤ ((i : Int) + 1 : Int) ∧ ((i : Int) + 1 : Int) ≤ (((i + q) : Nat) : Int), (.slice (cutA (some ⟨B, 0, none⟩) ((i : Int) + 1 : Int).toNat cv2 3) ((i + q) - ((i : Int) + 1 : Int).toNat) (cv2 - ((i : Int) + 1 : Int).toNat) : Value) = (.slice (cutA (some ⟨B, 0, none⟩) (i + 1) cv2 3) (i + q - (i + 1)) (cv2 - (i + 1)) : Value), 0 ≤ ((i : Int) : Int) ∧ ((i : Int) : Int) ≤ ((l.length : Nat) : Int), (.slice (cutA av ((i : Int) : Int).toNat c 3) (l.length - ((i : Int) : Int).toNat) (c - ((i : Int) : Int).toNat) : Value) = (.slice (cutA av i c 3) (l.drop i).length (c - i) : Value)]) (Ac (wr (by omega)) (Ac (by omega) (Ac (by first | rfl | (simp; done) | (simp; omega)) (Ac (by omega) (Ao (by simp)))))) ?_
     clear hf; intro a hf
     refine scstep rfl ?_
     refine sxcopy hf hM hO rfl rfl rfl rfl (i := i + 1) rfl rfl rfl rfl rfl Tryd.underlying91 (by kernel_rfl) rfl (by omega) (news := flat fF (l.drop i)) ((own_arr (hO.own _ (List.Mem.tail _ (List.Mem.head _)))).dropf (m := i) (l := l) (fun _ => rfl) rfl (by omega)) one_take ?_
     clear hf hM hO; intro a w4 hf hM hO hk
     have hk0 := hk0.then hk (by intro j hj h; simp only [Value.ownBlock, Option.some.injEq] at h; omega); clear hk
     rw [ins_new2 (by omega) hq] at hO
     replace hO : OwnOk base [⟨vb, 93, [iV x.i, iV x.g, iV x.a]⟩] [oS 93 3 (.slice (some ⟨B, 0, none⟩) (i + q) cv2) (i + q) (flat fF (l.take i ++ x :: l.drop i)), oS 93 3 (.slice av l.length c) l.length (flat fF l)] w4 := hO
     have hC := (hCq1i _ ⟨hM.sub (.cons_cons _ .slnil), hk0, hO.sub (.cons_cons _ .slnil) (.cons _ (.cons_cons _ .slnil))⟩)
     refine scdone hC ?_
     clear hC
     show K14 _ _
     refine hK14 _ _ ?_
     refine wp_seq_k (fun K15 hK15 => ?_)
     refine wp_region_lit ?_
     refine q0 hf hM [] [{}, {}] (nw := [(6, eS (some ⟨B, 0, none⟩) (i + q) cv2)]) An ?_
     clear hf; intro a hf
     refine wpList_nil ?_
     refine hK15 _ _ ?_
     refine wp_ret ?_
     refine qr (fn := Tryd.f49) hf hM [] (l := [.slice (some ⟨B, 0, none⟩) (i + q) cv2]) (ob := []) An ?_
     show ∃ a' c', (.slice (some ⟨B, 0, none⟩) (i + q) cv2 : Value) = .slice a' (l.take i ++ x :: l.drop i).length c' ∧ World.ownsRow w4 base 93 3 (.slice a' (l.take i ++ x :: l.drop i).length c') (l.take i ++ x :: l.drop i).length (flat fF (l.take i ++ x :: l.drop i)) ∧ Keep (fun j => Value.ownBlock (.slice av l.length c) = some j) w w4 ∧ (∀ j, Value.ownBlock (.slice a' (l.take i ++ x :: l.drop i).length c') = some j → Value.ownBlock (.slice av l.length c) = some j ∨ w.heap.size ≤ j)
     have en : i + q = (l.take i ++ x :: l.drop i).length := by simp; omega
     rw [en] at hO ⊢
     exact ⟨_, _, rfl, hO.own _ (List.Mem.head _), hk0, (fun j hj => .inr (by simp only [Value.ownBlock, Option.some.injEq] at hj; omega))⟩
   · have hc3 := (nU hc3r)
     refine wp_skip ?_
     refine hK10 _ _ ?_
     refine wp_seq_k (fun K16 hK16 => ?_)
     refine wp_region_lit ?_
     refine q0 hf hM [8, 7, 1, 2] [{}, {}, {}, { hint := some (iV ((l.length : Int) + 1)) }, { sp := true, hint := some (.slice av (l.length + 1) c) }, {}] (nw := [(0, eS av (l.length + 1) c)]) (ob := [(iV (IntKind.i64.wrap ((l.length : Int) + 1)) : Value) = (iV ((l.length : Int) + 1) : Value), 0 ≤ ((l.length : Int) + 1 : Int) ∧ ((l.length : Int) + 1 : Int) ≤ ((c : Nat) : Int), (.slice av ((l.length : Int) + 1 : Int).toNat c : Value) = (.slice av (l.length + 1) c : Value)]) (Ac (wr (by omega)) (Ac (by omega) (Ao (by first | rfl | (simp; done) | (simp; omega))))) ?_
     clear hf; intro a hf
     refine wpList_nil ?_
     refine hK16 _ _ ?_
     refine wp_seq_k (fun K17 hK17 => ?_)
     refine wp_seq_k (fun K18 hK18 => ?_)
     obtain ⟨ys, hys, hO⟩ := hO.longer (j := 1) (by omega) (by omega)
     replace hO : OwnOk base [⟨vb, 93, [iV x.i, iV x.g, iV x.a]⟩] [oS 93 3 (.slice av (l.length + 1) c) (l.length + 1) (flat fF l ++ ys)] w := hO
     refine wp_region_lit ?_
     refine q0 hf hM [0, 8, 7, 1, 2] [{}, {}, {}, {}, { hint := some (iV ((i : Int) + 1)) }, { sp := true, hint := some (.slice (cutA av (i + 1) c 3) (l.length + 1 - (i + 1)) (c - (i + 1))) }] (nw := [(66, eS (cutA av (i + 1) c 3) (l.length + 1 - (i + 1)) (c - (i + 1))), (61, eS (some ⟨vb, 0, none⟩) 1 1)]) (ob := [(iV (IntKind.i64.wrap ((i : Int) + 1)) : Value) = (iV ((i : Int) + 1) : Value), 0 ≤ ((i : Int) + 1 : Int) ∧ ((i : Int) + 1 : Int) ≤ (((l.length + 1) : Nat) : Int), (.slice (cutA av ((i : Int) + 1 : Int).toNat c 3) ((l.length + 1) - ((i : Int) + 1 : Int).toNat) (c - ((i : Int) + 1 : Int).toNat) : Value) = (.slice (cutA av (i + 1) c 3) (l.length + 1 - (i + 1)) (c - (i + 1)) : Value)]) (Ac (wr (by omega)) (Ac (by omega) (Ao (by first | rfl | (simp; done) | (simp; omega))))) ?_
     clear hf; intro a hf
     refine sxval hf rfl rfl rfl rfl (v := .bool false) (ob := []) (by kernel_rfl) An (ox_callx rfl rfl rfl rfl (ov_call _ _ _ (run_overlaps_own Tryd.underlying91 (by kernel_rfl) (hO.own _ (List.Mem.head _)) (by omega) (by omega) (hM.at_ _ (List.Mem.head _)) hne2 1 1 _ _ _))) ?_; clear hf; intro a hf
     refine q0 hf hM [0, 8, 7, 1, 2] [{}] (nw := [(68, eB true)]) An ?_
     clear hf; intro a hf
     refine wpList_nil ?_
     refine hK18 _ _ ?_
     refine sxcond hf (b := true) (by kernel_rfl) (fun _ => ?_) (fun h => by cases h)
     refine wp_seq_k (fun K19 hK19 => ?_)
     replace hM := hM.drew; replace hk0 := hk0.drew; replace hO := hO.drew
     obtain ⟨Cq2, hCq2i, hCq2e⟩ := qcls fun w' => MemOk [⟨vb, 93, [iV x.i, iV x.g, iV x.a]⟩] w' ∧ Keep (fun j => Value.ownBlock (.slice av l.length c) = some j) w w' ∧ OwnOk base [⟨vb, 93, [iV x.i, iV x.g, iV x.a]⟩] [] w'
     refine sxdraw (C := Cq2) (.leaf [(0, true), (1, true), (2, true), (3, true), (4, true), (5, true), (6, true), (7, true), (8, false)]) (by kernel_rfl) (by kernel_rfl) (by as_aux_lemma => kernel_rfl) rfl (by as_aux_lemma => kernel_rfl) (by kernel_rfl) (hCq2i _ ⟨hM.sub (.cons_cons _ .slnil), hk0, hO.sub (.cons_cons _ .slnil) (.cons _ .slnil)⟩) ?_
     refine sxleaf ?_
     have hC := (hCq2i _ ⟨hM.sub (.cons_cons _ .slnil), hk0, hO.sub (.cons_cons _ .slnil) (.cons _ .slnil)⟩)
     refine qd hf hC (fun w' h => (hCq2e w' h).1) [0, 1, 2] [{}, {}, {}, { hint := some (iV ((i : Int) + 1)) }, { sp := true, hint := some (.slice (cutA av (i + 1) c 3) (l.length + 1 - (i + 1)) (c - (i + 1))) }, {}, {}, { sp := true, hint := some (.slice (cutA av i c 3) (l.length + 1 - i) (c - i)) }] (nw := [(76, eS (cutA av i c 3) (l.length + 1 - i) (c - i)), (73, eS (cutA av (i + 1) c 3) (l.length + 1 - (i + 1)) (c - (i + 1)))]) (ob := [(iV (IntKind.i64.wrap ((i : Int) + 1)) : Value) = (iV ((i : Int) + 1) : Value), 0 ≤ ((i : Int) + 1 : Int) ∧ ((i : Int) + 1 : Int) ≤ (((l.length + 1) : Nat) : Int), (.slice (cutA av ((i : Int) + 1 : Int).toNat c 3) ((l.length + 1) - ((i : Int) + 1 : Int).toNat) (c - ((i : Int) + 1 : Int).toNat) : Value) = (.slice (cutA av (i + 1) c 3) (l.length + 1 - (i + 1)) (c - (i + 1)) : Value), 0 ≤ ((i : Int) : Int) ∧ ((i : Int) : Int) ≤ (((l.length + 1) : Nat) : Int), (.slice (cutA av ((i : Int) : Int).toNat c 3) ((l.length + 1) - ((i : Int) : Int).toNat) (c - ((i : Int) : Int).toNat) : Value) = (.slice (cutA av i c 3) (l.length + 1 - i) (c - i) : Value)]) (Ac (wr (by omega)) (Ac (by omega) (Ac (by first | rfl | (simp; done) | (simp; omega)) (Ac (by omega) (Ao (by first | rfl | (simp; done) | (simp; omega))))))) ?_
     clear hf; intro a hf
     refine scstep rfl ?_
     refine sxcopy hf hM hO rfl rfl rfl rfl (i := i + 1) rfl rfl rfl rfl rfl Tryd.underlying91 (by kernel_rfl) rfl (by omega) (news := (flat fF l ++ ys).drop (i * 3)) ((own_arr (hO.own _ (List.Mem.head _))).drop (m := i) (by omega)) (room_one (by omega)) ?_
     clear hf hM hO; intro a w5 hf hM hO hk
     have hk0 := hk0.then hk (by intro j hj h; cases av <;> exact h); clear hk
     replace hO : OwnOk base [⟨vb, 93, [iV x.i, iV x.g, iV x.a]⟩] [oS 93 3 (.slice av (l.length + 1) c) (l.length + 1) (putAt (flat fF l ++ ys) ((i + 1) * 3) (((flat fF l ++ ys).drop (i * 3)).take (Nat.min (l.length + 1 - i) (l.length + 1 - (i + 1)) * 3)))] w5 := hO
     have hC := (hCq2i _ ⟨hM.sub (.cons_cons _ .slnil), hk0, hO.sub (.cons_cons _ .slnil) (.cons _ .slnil)⟩)
     refine scdone hC ?_
     clear hC
     show K19 _ _
     refine hK19 _ _ ?_
     refine wp_seq_k (fun K20 hK20 => ?_)
     refine wp_region_lit ?_
     refine q0 hf hM [0] [{}, {}, { sp := true, hint := some (.slice (cutA av i c 3) (l.length + 1 - i) (c - i)) }, {}] (nw := [(81, eS (some ⟨vb, 0, none⟩) 1 1), (80, eS (cutA av i c 3) (l.length + 1 - i) (c - i))]) (ob := [0 ≤ ((i : Int) : Int) ∧ ((i : Int) : Int) ≤ (((l.length + 1) : Nat) : Int), (.slice (cutA av ((i : Int) : Int).toNat c 3) ((l.length + 1) - ((i : Int) : Int).toNat) (c - ((i : Int) : Int).toNat) : Value) = (.slice (cutA av i c 3) (l.length + 1 - i) (c - i) : Value)]) (Ac (by omega) (Ao (by first | rfl | (simp; done) | (simp; omega)))) ?_
     clear hf; intro a hf
     refine sxcopy hf hM hO rfl rfl rfl rfl (i := i) rfl rfl rfl rfl rfl Tryd.underlying91 (by kernel_rfl) rfl (by omega) (news := flat fF [x]) (Arr.of_memT (sz := 3) (f := fF) (L := [x]) (l := [x]) (c := 1) hM (List.Mem.head _) (fun _ => rfl) rfl rfl) one_take ?_
     clear hf hM hO; intro a w6 hf hM hO hk
     have hk0 := hk0.then hk (by intro j hj h; cases av <;> exact h); clear hk
     rw [ins_room (by omega) hys] at hO
     replace hO : OwnOk base [⟨vb, 93, [iV x.i, iV x.g, iV x.a]⟩] [oS 93 3 (.slice av (l.length + 1) c) (l.length + 1) (flat fF (l.take i ++ x :: l.drop i))] w6 := hO
     refine wpList_nil ?_
     refine hK20 _ _ ?_
     refine wp_seq_k (fun K21 hK21 => ?_)
     refine wp_region_lit ?_
     refine q0 hf hM [] [{}, {}] (nw := [(6, eS av (l.length + 1) c)]) An ?_
     clear hf; intro a hf
     refine wpList_nil ?_
     refine hK21 _ _ ?_
     refine wp_ret ?_
     refine qr (fn := Tryd.f49) hf hM [] (l := [.slice av (l.length + 1) c]) (ob := []) An ?_
     show ∃ a' c', (.slice av (l.length + 1) c : Value) = .slice a' (l.take i ++ x :: l.drop i).length c' ∧ World.ownsRow w6 base 93 3 (.slice a' (l.take i ++ x :: l.drop i).length c') (l.take i ++ x :: l.drop i).length (flat fF (l.take i ++ x :: l.drop i)) ∧ Keep (fun j => Value.ownBlock (.slice av l.length c) = some j) w w6 ∧ (∀ j, Value.ownBlock (.slice a' (l.take i ++ x :: l.drop i).length c') = some j → Value.ownBlock (.slice av l.length c) = some j ∨ w.heap.size ≤ j)
     have en : l.length + 1 = (l.take i ++ x :: l.drop i).length := by simp; omega
     rw [en] at hO ⊢
     exact ⟨_, _, rfl, hO.own _ (List.Mem.head _), hk0, (fun j hj => .inl (by cases av <;> exact hj))⟩
end Go.Proofs.YthofalkkdpjdlaaDoor
