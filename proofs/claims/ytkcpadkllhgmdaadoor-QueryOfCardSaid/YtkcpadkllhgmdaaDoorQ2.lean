/- lists of numbers -/
import Derived.Test.YtkcpadkllhgmdaaDoorQ1
import Derived.Test.YtkcpadkllhgmdaaDoorXp2h
namespace Go.Proofs.YtkcpadkllhgmdaaDoor
open Go.Px
set_option linter.unusedVariables false
set_option linter.unusedSimpArgs false

set_option maxRecDepth 10000 in
set_option maxHeartbeats 1600000 in
theorem nsame (av : Option Addr) (l : List Int) (c : Nat) (bv : Option Addr) (m : List Int) (cm : Nat) (w : World) (hav : Arr w 1 av l.length c (flat fI l)) (hbav : l.length ≤ 1000000) (hbv : Arr w 1 bv m.length cm (flat fI m)) (hbbv : m.length ≤ 1000000) :
    Calls Tryd.prog 25 #[.slice av l.length c, .slice bv m.length cm] w (Ret fun v w' => v = .bool (sameL l m) ∧ Keep Nn w w') := by
 refine sxenter (n := 26) (args := [.slice av l.length c, .slice bv m.length cm]) Tryd.func25 rfl rfl rfl fun a hf => ?_
 replace hf : Fr 26 [(0, eS av l.length c), (1, eS bv m.length cm)] a := hf
 have hM : MemOk [] w := MemOk.nil w
 have hk0 : Keep Nn w w := Keep.refl _ _
 refine wp_seq_k (fun K1 hK1 => ?_)
 refine wp_region_lit ?_
 refine q0 hf hM [0, 1] [{}] (nw := []) An ?_
 clear hf; intro a hf
 refine wpList_nil ?_
 refine hK1 _ _ ?_
 refine wp_seq_k (fun K2 hK2 => ?_)
 refine wp_seq_k (fun K3 hK3 => ?_)
 refine wp_region_lit ?_
 refine q0 hf hM [0, 1] [{}, {}, {}, {}, {}] (nw := [(10, eB (((l.length : Int) : Int) != (m.length : Int)))]) An ?_
 clear hf; intro a hf
 refine wpList_nil ?_
 refine hK3 _ _ ?_
 refine qc hf (b := (((l.length : Int) : Int) != (m.length : Int))) (fun hc1r => ?_) (fun hc1r => ?_)
 · have hc1 := (nN hc1r)
   refine wp_seq_k (fun K4 hK4 => ?_)
   refine wp_region_lit ?_
   refine q0 hf hM [] [{}] (nw := [(4, eB false)]) An ?_
   clear hf; intro a hf
   refine wpList_nil ?_
   refine hK4 _ _ ?_
   refine wp_ret ?_
   refine qr (fn := Tryd.f25) hf hM [] (l := [bV false]) (ob := []) An ?_
   show (bV false : Value) = .bool (sameL l m) ∧ Keep Nn w w
   first | exact ⟨congrArg Value.bool (sameL_len (by assumption)).symm, hk0⟩ | exact ⟨congrArg Value.bool (sameL_at (j := i.toNat) 0 (nec_int (by assumption))).symm, hk0⟩
 · have hc1 := (nM hc1r)
   refine wp_skip ?_
   refine hK2 _ _ ?_
   refine wp_seq_k (fun K5 hK5 => ?_)
   refine wp_seq_k (fun K6 hK6 => ?_)
   refine wp_region_lit ?_
   refine q0 hf hM [0, 1] [{}, {}, {}] (nw := [(13, eI 0), (12, eI (l.length : Int))]) An ?_
   clear hf; intro a hf
   refine wpList_nil ?_
   refine hK6 _ _ ?_
   refine wp_block ?_
   have hf := (hf.prune [0, 1, 12, 13]).to (env' := [(0, eS av l.length c), (1, eS bv m.length cm), (12, eI (l.length : Int)), (13, eI 0)]) (by kernel_rfl)
   refine sxloop (fun zm a w1 => ∃ (i : Int), zm = ((l.length : Int) - i).toNat ∧ Fr 26 [(0, eS av l.length c), (1, eS bv m.length cm), (12, eI (l.length : Int)), (13, eI i)] a ∧ MemOk [] w1 ∧ Keep Nn w w1 ∧ (0 ≤ i ∧ i ≤ (l.length : Int)) ∧ (∀ j, j < i.toNat → l.getD j 0 = m.getD j 0)) _ ⟨0, rfl, hf.conv (Ac rfl (Ac rfl (Ac rfl (Ao rfl)))), hM, hk0, (by omega), (fun j hj => by simp at hj)⟩ ?_
   clear hf hM hk0
   rintro _ a w1 ⟨i, rfl, hf, hM, hk0, hi, hsm⟩ L1 hL1
   refine wp_seq_k (fun K7 hK7 => ?_)
   refine wp_region_lit ?_
   refine q0 hf hM [0, 1, 12, 13] [{}] (nw := [(14, eB (decide ((i : Int) < (l.length : Int))))]) An ?_
   clear hf; intro a hf
   refine wpList_nil ?_
   refine hK7 _ _ ?_
   refine wp_seq_k (fun K8 hK8 => ?_)
   refine qc hf (b := (decide ((i : Int) < (l.length : Int)))) (fun hc2r => ?_) (fun hc2r => ?_)
   · have hc2 := (nT hc2r)
     refine wp_skip ?_
     refine hK8 _ _ ?_
     refine wp_seq_k (fun K9 hK9 => ?_)
     refine wp_block ?_
     refine wp_seq_k (fun K10 hK10 => ?_)
     refine wp_region_lit ?_
     refine q0 hf hM [0, 1, 12, 13] [{}, {}] (nw := [(5, eI i)]) An ?_
     clear hf; intro a hf
     refine wpList_nil ?_
     refine hK10 _ _ ?_
     refine wp_seq_k (fun K11 hK11 => ?_)
     replace hM := hM.drew; replace hk0 := hk0.drew
     obtain ⟨C1, hC1i, hC1e⟩ := qcls fun w' => MemOk [] w' ∧ Keep Nn w w' ∧ True
     refine sxdraw (C := C1) (.leaf [(0, true), (1, true), (2, true), (3, true), (4, true), (5, true), (6, true), (7, true), (8, true)]) (by kernel_rfl) (by kernel_rfl) (by as_aux_lemma => kernel_rfl) rfl (by as_aux_lemma => kernel_rfl) (by kernel_rfl) (hC1i _ ⟨hM.sub (.slnil), hk0, trivial⟩) ?_
     refine sxleaf ?_
     have hC := (hC1i _ ⟨hM.sub (.slnil), hk0, trivial⟩)
     refine qd hf hC (fun w' h => (hC1e w' h).1) [0, 1, 12, 13] [{}, {}, { sp := true }, { os := [.ex (iV (l.getD i.toNat 0))] }, {}, {}, { sp := true }, { os := [.ex (iV (m.getD i.toNat 0))] }, {}] (nw := [(24, eB (((l.getD i.toNat 0) : Int) != (m.getD i.toNat 0))), (23, eI (m.getD i.toNat 0)), (22, .val (.pointer (some ((sa bv : Addr).add (i.toNat * 1))))), (21, eI i), (20, eS bv m.length cm), (19, eI (l.getD i.toNat 0)), (18, .val (.pointer (some ((sa av : Addr).add (i.toNat * 1))))), (17, eI i), (16, eS av l.length c)]) (ob := [(0 : Int) ≤ i ∧ i < (l.length : Int), (av : Option Addr).isSome = true, (∀ w', C1 w' → w'.cell? ((sa av : Addr).add (i.toNat * 1)) = some (iV (l.getD i.toNat 0))), (0 : Int) ≤ i ∧ i < (m.length : Int), (bv : Option Addr).isSome = true, (∀ w', C1 w' → w'.cell? ((sa bv : Addr).add (i.toNat * 1)) = some (iV (m.getD i.toNat 0)))]) (Ac (by first | omega | (simp; done)) (Ac ((hav.keepNn hk0).some_ (by first | omega | (simp; done))) (Ac (fun w' hc => by obtain ⟨hM, hk0, hO⟩ := hC1e w' hc; exact ((hav.keepNn hk0).get0 (fun _ => rfl) (by first | omega | (simp; done)) rfl)) (Ac (by first | omega | (simp; done)) (Ac ((hbv.keepNn hk0).some_ (by first | omega | (simp; done))) (Ao (fun w' hc => by obtain ⟨hM, hk0, hO⟩ := hC1e w' hc; exact ((hbv.keepNn hk0).get0 (fun _ => rfl) (by first | omega | (simp; done)) rfl)))))))) ?_
     clear hf; intro a hf
     clear hC
     show K11 _ _
     refine hK11 _ _ ?_
     refine qc hf (b := (((l.getD i.toNat 0) : Int) != (m.getD i.toNat 0))) (fun hc3r => ?_) (fun hc3r => ?_)
     · have hc3 := (nN hc3r)
       refine wp_seq_k (fun K12 hK12 => ?_)
       refine wp_region_lit ?_
       refine q0 hf hM [] [{}] (nw := [(4, eB false)]) An ?_
       clear hf; intro a hf
       refine wpList_nil ?_
       refine hK12 _ _ ?_
       refine wp_ret ?_
       refine qr (fn := Tryd.f25) hf hM [] (l := [bV false]) (ob := []) An ?_
       show (bV false : Value) = .bool (sameL l m) ∧ Keep Nn w w1.drew
       first | exact ⟨congrArg Value.bool (sameL_len (by assumption)).symm, hk0⟩ | exact ⟨congrArg Value.bool (sameL_at (j := i.toNat) 0 (nec_int (by assumption))).symm, hk0⟩
     · have hc3 := (nM hc3r)
       refine wp_skip ?_
       refine hK9 _ _ ?_
       refine wp_region_lit ?_
       refine q0 hf hM [24, 23, 22, 21, 20, 19, 18, 17, 16, 0, 1, 12] [{ hint := some (iV (i + 1)) }, {}] (nw := [(13, eI (i + 1))]) (ob := [(iV (IntKind.i64.wrap (i + 1)) : Value) = (iV (i + 1) : Value)]) (Ao (wr (by omega))) ?_
       clear hf; intro a hf
       refine wpList_nil ?_
       have hsm2 := same_next 0 (l := l) (m := m) (i := i) (by omega) hsm (eqc_int (by assumption))
       have hf := (hf.prune [0, 1, 12, 13]).to (env' := [(0, eS av l.length c), (1, eS bv m.length cm), (12, eI (l.length : Int)), (13, eI (i + 1))]) (by kernel_rfl)
       refine hL1 _ _ _ (by omega) ⟨i + 1, rfl, hf.conv (Ac rfl (Ac rfl (Ac rfl (Ao rfl)))), hM, hk0, (by omega), hsm2⟩
   · have hc2 := (nU hc2r)
     refine wp_exit ?_
     refine hK5 _ _ ?_
     refine wp_seq_k (fun K13 hK13 => ?_)
     refine wp_region_lit ?_
     refine q0 hf hM [] [{}] (nw := [(4, eB true)]) An ?_
     clear hf; intro a hf
     refine wpList_nil ?_
     refine hK13 _ _ ?_
     refine wp_ret ?_
     refine qr (fn := Tryd.f25) hf hM [] (l := [bV true]) (ob := []) An ?_
     show (bV true : Value) = .bool (sameL l m) ∧ Keep Nn w w1
     exact ⟨congrArg Value.bool (sameL_all 0 (by omega) fun j hj => hsm j (by omega)).symm, hk0⟩

set_option maxRecDepth 10000 in
set_option maxHeartbeats 1600000 in
theorem nInts (av : Option Addr) (l : List Int) (c : Nat) (w : World) (hav : Arr w 1 av l.length c (flat fI l)) (hbav : l.length ≤ 1000000) :
    Calls Tryd.prog 7 #[.slice av l.length c] w (Ret fun v w' => ∃ a', v = .slice a' l.length (l.length + 4) ∧ Keep Nn w w' ∧ World.ownsRow w' w.heap.size 3 1 (.slice a' (l.length + 4) (l.length + 4)) (l.length + 4) (flat fI (l ++ ([-91, -92, -93, -94] : List Int)))) := by
 refine sxenter (n := 16) (args := [.slice av l.length c]) Tryd.func7 rfl rfl rfl fun a hf => ?_
 replace hf : Fr 16 [(0, eS av l.length c)] a := hf
 have hM : MemOk [] w := MemOk.nil w
 have hk0 : Keep Nn w w := Keep.refl _ _
 refine wp_seq_k (fun K1 hK1 => ?_)
 refine wp_region_lit ?_
 refine q0 hf hM [0] [{}] (nw := []) An ?_
 clear hf; intro a hf
 refine wpList_nil ?_
 refine hK1 _ _ ?_
 refine wp_seq_k (fun K2 hK2 => ?_)
 refine wp_region_lit ?_
 refine q0 hf hM [0] [{}, {}, { hint := some (iV ((l.length : Int) + 4)) }] (nw := [(6, eI ((l.length : Int) + 4))]) (ob := [(iV (IntKind.i64.wrap ((l.length : Int) + 4)) : Value) = (iV ((l.length : Int) + 4) : Value)]) (Ao (wr (by omega))) ?_
 clear hf; intro a hf
 refine sxmake hf hM (L := _) (C := _) (l := 0) (c := (l.length : Int) + 4) (by_ := 8) (zs := [iV 0]) rfl rfl rfl rfl rfl rfl Tryd.underlying22 (by kernel_rfl) (by omega) ?_
 clear hf hM; intro a w1 B3 hf hM hB hk
 have en : ((0 : Int).toNat) = 0 := (by omega)
 have ec0 : (((l.length : Int) + 4 : Int).toNat) = (l.length + 4) := (by omega)
 have ec : reps (l.length + 4) [iV 0] = flat fI (List.replicate (l.length + 4) 0) := reps_flat (f := fI) (z := 0) rfl _
 rw [en, ec0] at hf; rw [ec0, ec] at hM; clear en ec0 ec
 replace hM : MemOk [⟨B3, 3, flat fI (List.replicate (l.length + 4) 0)⟩] w1 := hM
 have hbB3 : w.heap.size ≤ B3 := by have := hk0.size; omega
 have hk0 := hk0.trans hk.nn
 clear hk hB
 refine q0 hf hM [7, 0] [{}] (nw := [(8, eS av l.length c)]) An ?_
 clear hf; intro a hf
 refine sxappendM hf (M1 := []) (M2 := []) (B := B3) (e := 3) (cs := flat fI (List.replicate (l.length + 4) 0)) hM (sz := 1) (by_ := 8) (k := 0) (cap := (l.length + 4)) rfl rfl rfl rfl (av := av) (m := l.length) (c := c) rfl rfl Tryd.underlying22 (by kernel_rfl) (news := flat fI l) (hav.keepNn hk0) (flat_one1 fI_one) (by rw [flat_len (sz := 1) (fun _ => rfl), List.length_replicate]) (by simp only [maxLen]; omega) ?_
 clear hf hM; intro a w2 hf hM hk
 have en : (0 + l.length : Nat) = l.length := (by omega)
 have ec : (flat fI (List.replicate (l.length + 4) 0)).take (0 * 1) ++ flat fI l ++ (flat fI (List.replicate (l.length + 4) 0)).drop (0 * 1 + (flat fI l).length) = flat fI (l ++ List.replicate 4 (0 : Int)) := (by rw [flat_over (sz := 1) (fun _ => rfl)]; simp)
 rw [en] at hf
 replace hM : MemOk [⟨B3, 3, flat fI (l ++ List.replicate 4 (0 : Int))⟩] w2 := by rw [← ec]; exact hM
 have hk0 := hk0.then hk (by intro i hi h; simp only [Is, List.mem_cons, List.not_mem_nil, or_false] at h; omega)
 clear hk en ec
 refine sxbslice hf hM (t := 22) (e := 3) (len := 4) (cs := [iV (-91), iV (-92), iV (-93), iV (-94)]) (ob := []) rfl rfl rfl rfl (by as_aux_lemma => kernel_rfl) An (by as_aux_lemma => kernel_rfl) ?_
 clear hf hM; intro a w3 B5 hf hM hB hk
 replace hM : MemOk [⟨B3, 3, flat fI (l ++ List.replicate 4 (0 : Int))⟩, ⟨B5, 3, [iV (-91), iV (-92), iV (-93), iV (-94)]⟩] w3 := hM
 have hbB5 : w.heap.size ≤ B5 := by have := hk0.size; omega
 have hk0 := hk0.trans hk.nn
 clear hk hB
 refine sxappendM hf (M1 := []) (M2 := [⟨B5, 3, [iV (-91), iV (-92), iV (-93), iV (-94)]⟩]) (B := B3) (e := 3) (cs := flat fI (l ++ List.replicate 4 (0 : Int))) hM (sz := 1) (by_ := 8) (k := l.length) (cap := (l.length + 4)) rfl rfl rfl rfl (av := some ⟨B5, 0, none⟩) (m := 4) (c := 4) rfl rfl Tryd.underlying22 (by kernel_rfl) (news := flat fI ([-91, -92, -93, -94] : List Int)) (Arr.of_memT (sz := 1) (f := fI) (L := ([-91, -92, -93, -94] : List Int)) (l := ([-91, -92, -93, -94] : List Int)) hM (List.Mem.tail _ (List.Mem.head _)) (fun _ => rfl) rfl rfl) (flat_one1 fI_one) (by rw [flat_len (sz := 1) (fun _ => rfl)]; simp) (by simp only [maxLen]; omega) ?_
 clear hf hM; intro a w4 hf hM hk
 have en : (l.length + 4 : Nat) = (l.length + 4) := rfl
 have ec : (flat fI (l ++ List.replicate 4 (0 : Int))).take (l.length * 1) ++ flat fI ([-91, -92, -93, -94] : List Int) ++ (flat fI (l ++ List.replicate 4 (0 : Int))).drop (l.length * 1 + (flat fI ([-91, -92, -93, -94] : List Int)).length) = flat fI (l ++ ([-91, -92, -93, -94] : List Int)) := (by rw [flat_over (sz := 1) (fun _ => rfl)]; simp)
 rw [en] at hf
 replace hM : MemOk [⟨B3, 3, flat fI (l ++ ([-91, -92, -93, -94] : List Int))⟩, ⟨B5, 3, [iV (-91), iV (-92), iV (-93), iV (-94)]⟩] w4 := by rw [← ec]; exact hM
 have hk0 := hk0.then hk (by intro i hi h; simp only [Is, List.mem_cons, List.not_mem_nil, or_false] at h; omega)
 clear hk en ec
 refine q0 hf hM [0] [{}] (nw := [(3, eS (some ⟨B3, 0, none⟩) (l.length + 4) (l.length + 4))]) An ?_
 clear hf; intro a hf
 refine wpList_nil ?_
 refine hK2 _ _ ?_
 refine wp_seq_k (fun K3 hK3 => ?_)
 refine wp_region_lit ?_
 refine q0 hf hM [] [{}, {}, {}] (nw := [(14, eI (l.length : Int)), (12, eS (some ⟨B3, 0, none⟩) (l.length + 4) (l.length + 4))]) An ?_
 clear hf; intro a hf
 refine sxval hf rfl rfl rfl rfl (v := .slice (some ⟨B3, 0, none⟩) l.length (l.length + 4)) (ob := []) (by kernel_rfl) An (by rw [show (.slice (some ⟨B3, 0, none⟩) l.length (l.length + 4) : Value) = .slice (some ⟨B3, 0, none⟩) ((l.length : Int) : Int).toNat (l.length + 4) from (by simp)]; exact ox_slice_h rfl rfl rfl Tryd.underlying22 (sz := 1) (by kernel_rfl) (by omega)) ?_
 clear hf; intro a hf
 refine q0 hf hM [] [{}] (nw := [(2, eS (some ⟨B3, 0, none⟩) l.length (l.length + 4))]) An ?_
 clear hf; intro a hf
 refine wpList_nil ?_
 refine hK3 _ _ ?_
 refine wp_ret ?_
 refine qr (fn := Tryd.f7) hf hM [] (l := [.slice (some ⟨B3, 0, none⟩) l.length (l.length + 4)]) (ob := []) An ?_
 show ∃ a', (.slice (some ⟨B3, 0, none⟩) l.length (l.length + 4) : Value) = .slice a' l.length (l.length + 4) ∧ Keep Nn w w4 ∧ World.ownsRow w4 w.heap.size 3 1 (.slice a' (l.length + 4) (l.length + 4)) (l.length + 4) (flat fI (l ++ ([-91, -92, -93, -94] : List Int)))
 exact ⟨_, rfl, hk0, own_of_mem hM (List.Mem.head _) (by omega) (by simp only [maxLen]; omega) (by rw [flat_len (sz := 1) (fun _ => rfl)]; simp)⟩

set_option maxRecDepth 10000 in
set_option maxHeartbeats 1600000 in
theorem keptInts (av : Option Addr) (l : List Int) (c : Nat) (bv : Option Addr) (cm : Nat) (w : World) (hav : Arr w 1 av (l.length + 4) (l.length + 4) (flat fI (l ++ ([-91, -92, -93, -94] : List Int)))) (hbv : Arr w 1 bv l.length cm (flat fI l)) (hbbv : l.length ≤ 1000000) :
    Calls Tryd.prog 10 #[.slice av l.length (l.length + 4), .slice bv l.length cm] w (Ret fun v w' => v = .bool true ∧ Keep Nn w w') := by
 refine sxenter (n := 40) (args := [.slice av l.length (l.length + 4), .slice bv l.length cm]) Tryd.func10 rfl rfl rfl fun a hf => ?_
 replace hf : Fr 40 [(0, eS av l.length (l.length + 4)), (1, eS bv l.length cm)] a := hf
 have hM : MemOk [] w := MemOk.nil w
 have hk0 : Keep Nn w w := Keep.refl _ _
 have hsr : sameL ((l ++ ([-91, -92, -93, -94] : List Int)).take l.length) l = true := room_take _ _
 refine wp_seq_k (fun K1 hK1 => ?_)
 refine wp_region_lit ?_
 refine q0 hf hM [0, 1] [{}] (nw := []) An ?_
 clear hf; intro a hf
 refine wpList_nil ?_
 refine hK1 _ _ ?_
 refine wp_seq_k (fun K2 hK2 => ?_)
 refine wp_region_lit ?_
 refine q0 hf hM [1] [{}, {}, {}, { sp := true, hint := some (.slice av (l.length + 4) (l.length + 4)) }, {}] (nw := [(5, eS av (l.length + 4) (l.length + 4))]) (ob := [0 ≤ ((((l.length + 4) : Nat) : Int) : Int) ∧ ((((l.length + 4) : Nat) : Int) : Int) ≤ (((l.length + 4) : Nat) : Int), (.slice av ((((l.length + 4) : Nat) : Int) : Int).toNat (l.length + 4) : Value) = (.slice av (l.length + 4) (l.length + 4) : Value)]) (Ac (by omega) (Ao (by first | rfl | (simp; done)))) ?_
 clear hf; intro a hf
 refine wpList_nil ?_
 refine hK2 _ _ ?_
 refine wp_seq_k (fun K3 hK3 => ?_)
 refine wp_seq_k (fun K4 hK4 => ?_)
 refine wp_region_lit ?_
 refine q0 hf hM [5, 1] [{}, {}, {}, {}, { hint := some (iV ((l.length : Int) + 4)) }, { hint := some (bV false) }, {}, {}, {}, {}, { sp := true, hint := some (.slice av (((l ++ ([-91, -92, -93, -94] : List Int)).take l.length).length) (l.length + 4)) }, {}] (nw := [(22, eS bv l.length cm), (21, eS av (((l ++ ([-91, -92, -93, -94] : List Int)).take l.length).length) (l.length + 4)), (17, eB false)]) (ob := [(iV (IntKind.i64.wrap ((l.length : Int) + 4)) : Value) = (iV ((l.length : Int) + 4) : Value), (bV (decide (((((l.length + 4) : Nat) : Int) : Int) < ((l.length : Int) + 4))) : Value) = (bV false : Value), false = false, false = false, false = false, false = false, 0 ≤ ((l.length : Int) : Int) ∧ ((l.length : Int) : Int) ≤ (((l.length + 4) : Nat) : Int), (.slice av ((l.length : Int) : Int).toNat (l.length + 4) : Value) = (.slice av (((l ++ ([-91, -92, -93, -94] : List Int)).take l.length).length) (l.length + 4) : Value), false = false]) (Ac (wr (by omega)) (Ac (congrArg Value.bool (decide_eq_false (by omega))) (Ac rfl (Ac rfl (Ac rfl (Ac rfl (Ac (by have := ((hav.keepNn hk0)).le; omega) (Ac (by first | rfl | (simp; done) | (simp; omega)) (Ao rfl))))))))) ?_
 clear hf; intro a hf
 refine sxcallg hf rfl rfl rfl rfl rfl (g := 25) (vs := [.slice av (((l ++ ([-91, -92, -93, -94] : List Int)).take l.length).length) (l.length + 4), .slice bv l.length cm]) (ob := []) (by as_aux_lemma => kernel_rfl) An enters25 (nsame av ((l ++ ([-91, -92, -93, -94] : List Int)).take l.length) (l.length + 4) bv l cm w  (Arr.takef (m := l.length) (l := (l ++ ([-91, -92, -93, -94] : List Int))) (hav.keepNn hk0) (fun _ => rfl) (by first | rfl | (simp; done) | omega) (by omega)) (by first | omega | (simp; omega) | (simp; done) | exact Nat.le_trans (byKinds_len _ _) (by omega) | decide) (hbv.keepNn hk0) (by first | omega | (simp; omega) | (simp; done) | exact Nat.le_trans (byKinds_len _ _) (by omega) | decide)) ?_
 clear hf; rintro _ w1 a ⟨rfl, hk⟩ hf
 have hM := hM.keepNn hk
 have hk0 := hk0.trans hk.nn
 clear hk
 refine q0 hf hM [5, 1] [{}, {}] (nw := [(25, eB (!(sameL ((l ++ ([-91, -92, -93, -94] : List Int)).take l.length) l)))]) (ob := [false = false]) (Ao rfl) ?_
 clear hf; intro a hf
 refine wpList_nil ?_
 refine hK4 _ _ ?_
 refine sxcond hf (b := !(sameL ((l ++ ([-91, -92, -93, -94] : List Int)).take l.length) l)) (by kernel_rfl) (fun h => absurd (h.symm.trans ((congrArg Bool.not hsr).trans rfl : (!(sameL ((l ++ ([-91, -92, -93, -94] : List Int)).take l.length) l) : Bool) = false)) (by simp)) (fun _ => ?_)
 refine wp_skip ?_
 refine hK3 _ _ ?_
 refine wp_seq_k (fun K5 hK5 => ?_)
 refine wp_seq_k (fun K6 hK6 => ?_)
 refine wp_region_lit ?_
 refine q0 hf hM [5, 1] [{}] (nw := [(6, eI 0)]) An ?_
 clear hf; intro a hf
 refine wpList_nil ?_
 refine hK6 _ _ ?_
 refine wp_block ?_
 refine wp_loop_rounds 5 ?_
 refine sxround (m := 4) fun L1 hL1 => ?_
 refine wp_seq_k (fun K7 hK7 => ?_)
 refine wp_seq_k (fun K8 hK8 => ?_)
 refine wp_region_lit ?_
 refine q0 hf hM [6, 5, 1] [{}, {}] (nw := [(27, eB true)]) An ?_
 clear hf; intro a hf
 refine wpList_nil ?_
 refine hK8 _ _ ?_
 refine sxcond hf (b := true) (by kernel_rfl) (fun _ => ?_) (fun h => by cases h)
 refine wp_skip ?_
 refine hK7 _ _ ?_
 refine wp_seq_k (fun K9 hK9 => ?_)
 refine wp_block ?_
 refine wp_seq_k (fun K10 hK10 => ?_)
 refine wp_region_lit ?_
 refine q0 hf hM [6, 5, 1] [{}, {}, {}, {}, { hint := some (iV ((l.length : Int) + 0)) }, { sp := true }, { os := [.ex (iV ((l ++ ([-91, -92, -93, -94] : List Int)).getD ((l.length : Int) + 0).toNat 0))], hint := some (iV (-91)) }, {}, {}, {}] (nw := [(39, eB false)]) (ob := [(iV (IntKind.i64.wrap ((l.length : Int) + 0)) : Value) = (iV ((l.length : Int) + 0) : Value), (0 : Int) ≤ ((l.length : Int) + 0) ∧ ((l.length : Int) + 0) < (((l.length + 4) : Nat) : Int), (av : Option Addr).isSome = true, w1.cell? ((sa av : Addr).add (((l.length : Int) + 0).toNat * 1)) = some (iV ((l ++ ([-91, -92, -93, -94] : List Int)).getD ((l.length : Int) + 0).toNat 0)), (iV ((l ++ ([-91, -92, -93, -94] : List Int)).getD ((l.length : Int) + 0).toNat 0) : Value) = (iV (-91) : Value)]) (Ac (wr (by omega)) (Ac (by simp; omega) (Ac ((hav.keepNn hk0).some_ (by first | omega | (simp; done))) (Ac ((hav.keepNn hk0).get0 (fun _ => rfl) (by first | omega | (simp; done)) rfl) (Ao (congrArg (Value.int .i64) (room_at (k := 0) (by omega) (by omega)))))))) ?_
 clear hf; intro a hf
 refine wpList_nil ?_
 refine hK10 _ _ ?_
 refine sxcond hf (b := false) (by kernel_rfl) (fun h => by cases h) (fun _ => ?_)
 refine wp_skip ?_
 refine hK9 _ _ ?_
 refine wp_region_lit ?_
 refine q0 hf hM [5, 1] [{}, {}, {}] (nw := [(6, eI 1)]) An ?_
 clear hf; intro a hf
 refine wpList_nil ?_
 refine hL1 _ _ ?_
 refine sxround (m := 3) fun L2 hL2 => ?_
 refine wp_seq_k (fun K11 hK11 => ?_)
 refine wp_seq_k (fun K12 hK12 => ?_)
 refine wp_region_lit ?_
 refine q0 hf hM [6, 5, 1] [{}, {}] (nw := [(27, eB true)]) An ?_
 clear hf; intro a hf
 refine wpList_nil ?_
 refine hK12 _ _ ?_
 refine sxcond hf (b := true) (by kernel_rfl) (fun _ => ?_) (fun h => by cases h)
 refine wp_skip ?_
 refine hK11 _ _ ?_
 refine wp_seq_k (fun K13 hK13 => ?_)
 refine wp_block ?_
 refine wp_seq_k (fun K14 hK14 => ?_)
 refine wp_region_lit ?_
 refine q0 hf hM [6, 5, 1] [{}, {}, {}, {}, { hint := some (iV ((l.length : Int) + 1)) }, { sp := true }, { os := [.ex (iV ((l ++ ([-91, -92, -93, -94] : List Int)).getD ((l.length : Int) + 1).toNat 0))], hint := some (iV (-92)) }, {}, {}, {}] (nw := [(39, eB false)]) (ob := [(iV (IntKind.i64.wrap ((l.length : Int) + 1)) : Value) = (iV ((l.length : Int) + 1) : Value), (0 : Int) ≤ ((l.length : Int) + 1) ∧ ((l.length : Int) + 1) < (((l.length + 4) : Nat) : Int), (av : Option Addr).isSome = true, w1.cell? ((sa av : Addr).add (((l.length : Int) + 1).toNat * 1)) = some (iV ((l ++ ([-91, -92, -93, -94] : List Int)).getD ((l.length : Int) + 1).toNat 0)), (iV ((l ++ ([-91, -92, -93, -94] : List Int)).getD ((l.length : Int) + 1).toNat 0) : Value) = (iV (-92) : Value)]) (Ac (wr (by omega)) (Ac (by simp; omega) (Ac ((hav.keepNn hk0).some_ (by first | omega | (simp; done))) (Ac ((hav.keepNn hk0).get0 (fun _ => rfl) (by first | omega | (simp; done)) rfl) (Ao (congrArg (Value.int .i64) (room_at (k := 1) (by omega) (by omega)))))))) ?_
 clear hf; intro a hf
 refine wpList_nil ?_
 refine hK14 _ _ ?_
 refine sxcond hf (b := false) (by kernel_rfl) (fun h => by cases h) (fun _ => ?_)
 refine wp_skip ?_
 refine hK13 _ _ ?_
 refine wp_region_lit ?_
 refine q0 hf hM [5, 1] [{}, {}, {}] (nw := [(6, eI 2)]) An ?_
 clear hf; intro a hf
 refine wpList_nil ?_
 refine hL2 _ _ ?_
 refine sxround (m := 2) fun L3 hL3 => ?_
 refine wp_seq_k (fun K15 hK15 => ?_)
 refine wp_seq_k (fun K16 hK16 => ?_)
 refine wp_region_lit ?_
 refine q0 hf hM [6, 5, 1] [{}, {}] (nw := [(27, eB true)]) An ?_
 clear hf; intro a hf
 refine wpList_nil ?_
 refine hK16 _ _ ?_
 refine sxcond hf (b := true) (by kernel_rfl) (fun _ => ?_) (fun h => by cases h)
 refine wp_skip ?_
 refine hK15 _ _ ?_
 refine wp_seq_k (fun K17 hK17 => ?_)
 refine wp_block ?_
 refine wp_seq_k (fun K18 hK18 => ?_)
 refine wp_region_lit ?_
 refine q0 hf hM [6, 5, 1] [{}, {}, {}, {}, { hint := some (iV ((l.length : Int) + 2)) }, { sp := true }, { os := [.ex (iV ((l ++ ([-91, -92, -93, -94] : List Int)).getD ((l.length : Int) + 2).toNat 0))], hint := some (iV (-93)) }, {}, {}, {}] (nw := [(39, eB false)]) (ob := [(iV (IntKind.i64.wrap ((l.length : Int) + 2)) : Value) = (iV ((l.length : Int) + 2) : Value), (0 : Int) ≤ ((l.length : Int) + 2) ∧ ((l.length : Int) + 2) < (((l.length + 4) : Nat) : Int), (av : Option Addr).isSome = true, w1.cell? ((sa av : Addr).add (((l.length : Int) + 2).toNat * 1)) = some (iV ((l ++ ([-91, -92, -93, -94] : List Int)).getD ((l.length : Int) + 2).toNat 0)), (iV ((l ++ ([-91, -92, -93, -94] : List Int)).getD ((l.length : Int) + 2).toNat 0) : Value) = (iV (-93) : Value)]) (Ac (wr (by omega)) (Ac (by simp; omega) (Ac ((hav.keepNn hk0).some_ (by first | omega | (simp; done))) (Ac ((hav.keepNn hk0).get0 (fun _ => rfl) (by first | omega | (simp; done)) rfl) (Ao (congrArg (Value.int .i64) (room_at (k := 2) (by omega) (by omega)))))))) ?_
 clear hf; intro a hf
 refine wpList_nil ?_
 refine hK18 _ _ ?_
 refine sxcond hf (b := false) (by kernel_rfl) (fun h => by cases h) (fun _ => ?_)
 refine wp_skip ?_
 refine hK17 _ _ ?_
 refine wp_region_lit ?_
 refine q0 hf hM [5, 1] [{}, {}, {}] (nw := [(6, eI 3)]) An ?_
 clear hf; intro a hf
 refine wpList_nil ?_
 refine hL3 _ _ ?_
 refine sxround (m := 1) fun L4 hL4 => ?_
 refine wp_seq_k (fun K19 hK19 => ?_)
 refine wp_seq_k (fun K20 hK20 => ?_)
 refine wp_region_lit ?_
 refine q0 hf hM [6, 5, 1] [{}, {}] (nw := [(27, eB true)]) An ?_
 clear hf; intro a hf
 refine wpList_nil ?_
 refine hK20 _ _ ?_
 refine sxcond hf (b := true) (by kernel_rfl) (fun _ => ?_) (fun h => by cases h)
 refine wp_skip ?_
 refine hK19 _ _ ?_
 refine wp_seq_k (fun K21 hK21 => ?_)
 refine wp_block ?_
 refine wp_seq_k (fun K22 hK22 => ?_)
 refine wp_region_lit ?_
 refine q0 hf hM [6, 5, 1] [{}, {}, {}, {}, { hint := some (iV ((l.length : Int) + 3)) }, { sp := true }, { os := [.ex (iV ((l ++ ([-91, -92, -93, -94] : List Int)).getD ((l.length : Int) + 3).toNat 0))], hint := some (iV (-94)) }, {}, {}, {}] (nw := [(39, eB false)]) (ob := [(iV (IntKind.i64.wrap ((l.length : Int) + 3)) : Value) = (iV ((l.length : Int) + 3) : Value), (0 : Int) ≤ ((l.length : Int) + 3) ∧ ((l.length : Int) + 3) < (((l.length + 4) : Nat) : Int), (av : Option Addr).isSome = true, w1.cell? ((sa av : Addr).add (((l.length : Int) + 3).toNat * 1)) = some (iV ((l ++ ([-91, -92, -93, -94] : List Int)).getD ((l.length : Int) + 3).toNat 0)), (iV ((l ++ ([-91, -92, -93, -94] : List Int)).getD ((l.length : Int) + 3).toNat 0) : Value) = (iV (-94) : Value)]) (Ac (wr (by omega)) (Ac (by simp; omega) (Ac ((hav.keepNn hk0).some_ (by first | omega | (simp; done))) (Ac ((hav.keepNn hk0).get0 (fun _ => rfl) (by first | omega | (simp; done)) rfl) (Ao (congrArg (Value.int .i64) (room_at (k := 3) (by omega) (by omega)))))))) ?_
 clear hf; intro a hf
 refine wpList_nil ?_
 refine hK22 _ _ ?_
 refine sxcond hf (b := false) (by kernel_rfl) (fun h => by cases h) (fun _ => ?_)
 refine wp_skip ?_
 refine hK21 _ _ ?_
 refine wp_region_lit ?_
 refine q0 hf hM [5, 1] [{}, {}, {}] (nw := [(6, eI 4)]) An ?_
 clear hf; intro a hf
 refine wpList_nil ?_
 refine hL4 _ _ ?_
 refine sxround (m := 0) fun L5 hL5 => ?_
 refine wp_seq_k (fun K23 hK23 => ?_)
 refine wp_seq_k (fun K24 hK24 => ?_)
 refine wp_region_lit ?_
 refine q0 hf hM [6, 5, 1] [{}, {}] (nw := [(27, eB false)]) An ?_
 clear hf; intro a hf
 refine wpList_nil ?_
 refine hK24 _ _ ?_
 refine sxcond hf (b := false) (by kernel_rfl) (fun h => by cases h) (fun _ => ?_)
 refine wp_exit ?_
 refine hK5 _ _ ?_
 refine wp_seq_k (fun K25 hK25 => ?_)
 refine wp_region_lit ?_
 refine q0 hf hM [] [{}] (nw := [(4, eB true)]) An ?_
 clear hf; intro a hf
 refine wpList_nil ?_
 refine hK25 _ _ ?_
 refine wp_ret ?_
 refine qr (fn := Tryd.f10) hf hM [] (l := [bV true]) (ob := []) An ?_
 show (bV true : Value) = .bool true ∧ Keep Nn w w1
 exact ⟨rfl, hk0⟩
end Go.Proofs.YtkcpadkllhgmdaaDoor
