/- layer 13: Nearest -/
import Derived.Test.YthofalkkdpjdlaaDoorN7
namespace Go.Proofs.YthofalkkdpjdlaaDoor
open Go.Px
set_option linter.unusedVariables false
set_option linter.unusedSimpArgs false

set_option maxRecDepth 10000 in
set_option maxHeartbeats 1600000 in
theorem nearest_no1 (E : Nat → Addr) (T : Nat) (px py k : Int) (w : World) (hn0 : (ofOk px py 0 0) = false) (hG : Errs [1, 3, 0] w 161 E) :
    Calls Tryd.prog 22 #[pV T 0, .agg #[iV px, iV py], iV k] w (Ret fun v w' => v = .tuple #[.slice none 0 0, .iface 161 (.pointer (some (E 1)))] ∧ Keep Nn w w') := by
 refine sxenter (n := 37) (args := [pV T 0, .agg #[iV px, iV py], iV k]) Tryd.func22 rfl rfl rfl fun a hf => ?_
 replace hf : Fr 37 [(0, eP T 0), (1, .val (.agg #[iV px, iV py])), (2, eI k)] a := hf
 have hM : MemOk [] w := MemOk.nil w
 have hk0 : Keep Nn w w := Keep.refl _ _
 refine wp_seq_k (fun K1 hK1 => ?_)
 refine wp_region_lit ?_
 refine q1 hf hM [0] [{ os := [.nw] }, { os := [.nw] }, {}, {}] (nw := fun B1 => [(7, .val (.nilIface)), (6, eS none 0 0), (5, eP (B1 + 1) 0), (4, eP B1 0)]) (M' := fun B1 => [⟨B1, 46, [iV px, iV py]⟩, ⟨B1 + 1, 3, [iV k]⟩]) (ob := fun B1 => []) (fun B1 => An) ?_
 clear hf hM; intro a w1 B1 hf hM hB hk
 have hbB1 : w.heap.size ≤ B1 := by have := hk0.size; omega
 have hk0 := hk0.then hk (by intro i _ h; cases h)
 clear hk hB
 refine wpList_nil ?_
 refine hK1 _ _ ?_
 refine wp_seq_k (fun K2 hK2 => ?_)
 refine wp_seq_k (fun K3 hK3 => ?_)
 refine wp_region_lit ?_
 refine q0 hf hM [7, 6, 5, 4, 0] [{ os := [.ld 0 0, .ld 0 1] }] (nw := [(12, .val (.agg #[iV px, iV py]))]) (ob := [Ad B1 0, Ad B1 1]) (Ac (ad _ _) (Ao (ad _ _))) ?_
 clear hf; intro a hf
 refine sxcall hf rfl rfl rfl rfl (g := 38) (vs := [.agg #[iV px, iV py]]) (ob := []) (by as_aux_lemma => kernel_rfl) An enters38 (place_any E px py w1  (hG.keep hk0 (fun _ h => h))) ?_
 clear hf; rintro _ w2 a ⟨rfl, hk⟩ hf
 have hM := hM.keepNn hk
 have hk0 := hk0.trans hk.nn
 clear hk
 refine q0 hf hM [7, 6, 5, 4, 0] [{}, {}] (nw := [(15, eB (!(ofOk px py 0 0)))]) An ?_
 clear hf; intro a hf
 have hf := hf.setb 15 ((congrArg Bool.not hn0).trans rfl : (!(ofOk px py 0 0) : Bool) = true)
 refine q0 hf hM [7, 6, 5, 4, 0] [{ g := .off }, { g := .off }, {}] (nw := [(18, eB true)]) (ob := [true = !false, true = !false]) (Ac rfl (Ao rfl)) ?_
 clear hf; intro a hf
 refine wpList_nil ?_
 refine hK3 _ _ ?_
 refine sxcond hf (b := true) (by kernel_rfl) (fun _ => ?_) (fun h => by cases h)
 refine wp_seq_k (fun K4 hK4 => ?_)
 replace hM := hM.drew; replace hk0 := hk0.drew
 obtain ⟨Cq1, hCq1i, hCq1e⟩ := qcls fun w' => MemOk [⟨B1, 46, [iV px, iV py]⟩, ⟨B1 + 1, 3, [iV k]⟩] w' ∧ Keep Nn w w' ∧ True
 refine sxdraw (C := Cq1) (.leaf [(0, true), (1, true), (2, true)]) (by kernel_rfl) (by kernel_rfl) (by as_aux_lemma => kernel_rfl) rfl (by as_aux_lemma => kernel_rfl) (by kernel_rfl) (hCq1i _ ⟨hM.sub (.cons_cons _ (.cons_cons _ .slnil)), hk0, trivial⟩) ?_
 refine sxleaf ?_
 have hC := (hCq1i _ ⟨hM.sub (.cons_cons _ (.cons_cons _ .slnil)), hk0, trivial⟩)
 refine qd hf hC (fun w' h => (hCq1e w' h).1) [6] [{ os := [.ex (.iface 161 (.pointer (some (E 1))))] }, {}, {}] (nw := [(7, .val (.iface 161 (.pointer (some (E 1)))))]) (ob := [(∀ w', Cq1 w' → w'.cell? ⟨1, 0, none⟩ = some (.iface 161 (.pointer (some (E 1)))))]) (Ao (fun w' hc => by obtain ⟨hM, hk0, hO⟩ := hCq1e w' hc; exact (hk0.cell (hG.cell 1 (by decide)) (fun h => h)))) ?_
 clear hf; intro a hf
 clear hC
 show K4 _ _
 refine hK4 _ _ ?_
 refine wp_ret ?_
 refine qr (fn := Tryd.f22) hf hM [] (l := [.slice none 0 0, .iface 161 (.pointer (some (E 1)))]) (ob := []) An ?_
 show (.tuple #[.slice none 0 0, .iface 161 (.pointer (some (E 1)))] : Value) = .tuple #[.slice none 0 0, .iface 161 (.pointer (some (E 1)))] ∧ Keep Nn w w2.drew
 exact ⟨rfl, hk0⟩

set_option maxRecDepth 10000 in
set_option maxHeartbeats 1600000 in
theorem nearest_no2 (E : Nat → Addr) (T : Nat) (px py k : Int) (w : World) (hn0 : (ofOk px py 0 0) = true) (hn1 : (decide ((k : Int) < 0)) = true) (hG : Errs [1, 3, 0] w 161 E) :
    Calls Tryd.prog 22 #[pV T 0, .agg #[iV px, iV py], iV k] w (Ret fun v w' => v = .tuple #[.slice none 0 0, .iface 161 (.pointer (some (E 1)))] ∧ Keep Nn w w') := by
 refine sxenter (n := 37) (args := [pV T 0, .agg #[iV px, iV py], iV k]) Tryd.func22 rfl rfl rfl fun a hf => ?_
 replace hf : Fr 37 [(0, eP T 0), (1, .val (.agg #[iV px, iV py])), (2, eI k)] a := hf
 have hM : MemOk [] w := MemOk.nil w
 have hk0 : Keep Nn w w := Keep.refl _ _
 refine wp_seq_k (fun K1 hK1 => ?_)
 refine wp_region_lit ?_
 refine q1 hf hM [0] [{ os := [.nw] }, { os := [.nw] }, {}, {}] (nw := fun B1 => [(7, .val (.nilIface)), (6, eS none 0 0), (5, eP (B1 + 1) 0), (4, eP B1 0)]) (M' := fun B1 => [⟨B1, 46, [iV px, iV py]⟩, ⟨B1 + 1, 3, [iV k]⟩]) (ob := fun B1 => []) (fun B1 => An) ?_
 clear hf hM; intro a w1 B1 hf hM hB hk
 have hbB1 : w.heap.size ≤ B1 := by have := hk0.size; omega
 have hk0 := hk0.then hk (by intro i _ h; cases h)
 clear hk hB
 refine wpList_nil ?_
 refine hK1 _ _ ?_
 refine wp_seq_k (fun K2 hK2 => ?_)
 refine wp_seq_k (fun K3 hK3 => ?_)
 refine wp_region_lit ?_
 refine q0 hf hM [7, 6, 5, 4, 0] [{ os := [.ld 0 0, .ld 0 1] }] (nw := [(12, .val (.agg #[iV px, iV py]))]) (ob := [Ad B1 0, Ad B1 1]) (Ac (ad _ _) (Ao (ad _ _))) ?_
 clear hf; intro a hf
 refine sxcall hf rfl rfl rfl rfl (g := 38) (vs := [.agg #[iV px, iV py]]) (ob := []) (by as_aux_lemma => kernel_rfl) An enters38 (place_any E px py w1  (hG.keep hk0 (fun _ h => h))) ?_
 clear hf; rintro _ w2 a ⟨rfl, hk⟩ hf
 have hM := hM.keepNn hk
 have hk0 := hk0.trans hk.nn
 clear hk
 refine q0 hf hM [7, 6, 5, 4, 0] [{}, {}] (nw := [(15, eB (!(ofOk px py 0 0)))]) An ?_
 clear hf; intro a hf
 have hf := hf.setb 15 ((congrArg Bool.not hn0).trans rfl : (!(ofOk px py 0 0) : Bool) = false)
 refine q0 hf hM [7, 6, 5, 4, 0] [{ os := [.ld 1 0] }, {}, {}] (nw := [(18, eB (decide ((k : Int) < 0)))]) (ob := [false = false, Ad (B1 + 1) 0, false = false]) (Ac rfl (Ac (ad _ _) (Ao rfl))) ?_
 clear hf; intro a hf
 refine wpList_nil ?_
 refine hK3 _ _ ?_
 refine sxcond hf (b := (decide ((k : Int) < 0))) (by kernel_rfl) (fun _ => ?_) (fun h => absurd h (by rw [hn1]; simp))
 refine wp_seq_k (fun K4 hK4 => ?_)
 replace hM := hM.drew; replace hk0 := hk0.drew
 obtain ⟨Cq1, hCq1i, hCq1e⟩ := qcls fun w' => MemOk [⟨B1, 46, [iV px, iV py]⟩, ⟨B1 + 1, 3, [iV k]⟩] w' ∧ Keep Nn w w' ∧ True
 refine sxdraw (C := Cq1) (.leaf [(0, true), (1, true), (2, true)]) (by kernel_rfl) (by kernel_rfl) (by as_aux_lemma => kernel_rfl) rfl (by as_aux_lemma => kernel_rfl) (by kernel_rfl) (hCq1i _ ⟨hM.sub (.cons_cons _ (.cons_cons _ .slnil)), hk0, trivial⟩) ?_
 refine sxleaf ?_
 have hC := (hCq1i _ ⟨hM.sub (.cons_cons _ (.cons_cons _ .slnil)), hk0, trivial⟩)
 refine qd hf hC (fun w' h => (hCq1e w' h).1) [6] [{ os := [.ex (.iface 161 (.pointer (some (E 1))))] }, {}, {}] (nw := [(7, .val (.iface 161 (.pointer (some (E 1)))))]) (ob := [(∀ w', Cq1 w' → w'.cell? ⟨1, 0, none⟩ = some (.iface 161 (.pointer (some (E 1)))))]) (Ao (fun w' hc => by obtain ⟨hM, hk0, hO⟩ := hCq1e w' hc; exact (hk0.cell (hG.cell 1 (by decide)) (fun h => h)))) ?_
 clear hf; intro a hf
 clear hC
 show K4 _ _
 refine hK4 _ _ ?_
 refine wp_ret ?_
 refine qr (fn := Tryd.f22) hf hM [] (l := [.slice none 0 0, .iface 161 (.pointer (some (E 1)))]) (ob := []) An ?_
 show (.tuple #[.slice none 0 0, .iface 161 (.pointer (some (E 1)))] : Value) = .tuple #[.slice none 0 0, .iface 161 (.pointer (some (E 1)))] ∧ Keep Nn w w2.drew
 exact ⟨rfl, hk0⟩

set_option maxRecDepth 10000 in
set_option maxHeartbeats 1600000 in
theorem nearest_ok (E : Nat → Addr) (base T : Nat) (Bl : List Nat) (bs : List (H2 × B4)) (px py k : Int) (w : World) (hn0 : (ofOk px py 0 0) = true) (hn1 : (decide ((k : Int) < 0)) = false) (hown : (oTree 72 68 T Bl bs).φ base w) (hbw : base ≤ w.heap.size) (hbn : bs.length ≤ 1000) (hk63 : k ≤ 9223372036854775807) (hG : Errs [1, 3, 0] w 161 E) :
    Calls Tryd.prog 22 #[pV T 0, .agg #[iV px, iV py], iV k] w (Ret fun v w' => ∃ a' c', v = .tuple #[.slice a' (nearL px py k bs).length c', .nilIface] ∧ Keep Nn w w' ∧ World.ownsRow w' w.heap.size 39 2 (.slice a' (nearL px py k bs).length c') (nearL px py k bs).length (flat fH (nearL px py k bs))) := by
 refine sxenter (n := 37) (args := [pV T 0, .agg #[iV px, iV py], iV k]) Tryd.func22 rfl rfl rfl fun a hf => ?_
 replace hf : Fr 37 [(0, eP T 0), (1, .val (.agg #[iV px, iV py])), (2, eI k)] a := hf
 have hM : MemOk [] w := MemOk.nil w
 have hk0 : Keep Nn w w := Keep.refl _ _
 have hkk : 0 ≤ k ∧ k ≤ 9223372036854775807 := ⟨by have := of_decide_eq_false hn1; omega, hk63⟩
 have hre : reach px py = true := by have := of_decide_eq_true hn0; unfold reach; exact decide_eq_true (by omega)
 refine wp_seq_k (fun K1 hK1 => ?_)
 refine wp_region_lit ?_
 refine q1 hf hM [0] [{ os := [.nw] }, { os := [.nw] }, {}, {}] (nw := fun B1 => [(7, .val (.nilIface)), (6, eS none 0 0), (5, eP (B1 + 1) 0), (4, eP B1 0)]) (M' := fun B1 => [⟨B1, 46, [iV px, iV py]⟩, ⟨B1 + 1, 3, [iV k]⟩]) (ob := fun B1 => []) (fun B1 => An) ?_
 clear hf hM; intro a w1 B1 hf hM hB hk
 have hbB1 : w.heap.size ≤ B1 := by have := hk0.size; omega
 have hk0 := hk0.then hk (by intro i _ h; cases h)
 clear hk hB
 refine wpList_nil ?_
 refine hK1 _ _ ?_
 refine wp_seq_k (fun K2 hK2 => ?_)
 refine wp_seq_k (fun K3 hK3 => ?_)
 refine wp_region_lit ?_
 refine q0 hf hM [7, 6, 5, 4, 0] [{ os := [.ld 0 0, .ld 0 1] }] (nw := [(12, .val (.agg #[iV px, iV py]))]) (ob := [Ad B1 0, Ad B1 1]) (Ac (ad _ _) (Ao (ad _ _))) ?_
 clear hf; intro a hf
 refine sxcall hf rfl rfl rfl rfl (g := 38) (vs := [.agg #[iV px, iV py]]) (ob := []) (by as_aux_lemma => kernel_rfl) An enters38 (place_any E px py w1  (hG.keep hk0 (fun _ h => h))) ?_
 clear hf; rintro _ w2 a ⟨rfl, hk⟩ hf
 have hM := hM.keepNn hk
 have hk0 := hk0.trans hk.nn
 clear hk
 refine q0 hf hM [7, 6, 5, 4, 0] [{}, {}] (nw := [(15, eB (!(ofOk px py 0 0)))]) An ?_
 clear hf; intro a hf
 have hf := hf.setb 15 ((congrArg Bool.not hn0).trans rfl : (!(ofOk px py 0 0) : Bool) = false)
 refine q0 hf hM [7, 6, 5, 4, 0] [{ os := [.ld 1 0] }, {}, {}] (nw := [(18, eB (decide ((k : Int) < 0)))]) (ob := [false = false, Ad (B1 + 1) 0, false = false]) (Ac rfl (Ac (ad _ _) (Ao rfl))) ?_
 clear hf; intro a hf
 refine wpList_nil ?_
 refine hK3 _ _ ?_
 refine sxcond hf (b := (decide ((k : Int) < 0))) (by kernel_rfl) (fun h => absurd h (by rw [hn1]; simp)) (fun _ => ?_)
 refine wp_skip ?_
 refine hK2 _ _ ?_
 refine wp_seq_k (fun K4 hK4 => ?_)
 refine wp_region_lit ?_
 refine q1 hf hM [5, 4, 0] [{ os := [.nw] }] (nw := fun B5 => [(8, eP B5 0)]) (M' := fun B5 => [⟨B1, 46, [iV px, iV py]⟩, ⟨B1 + 1, 3, [iV k]⟩, ⟨B5, 91, [.slice none 0 0]⟩]) (ob := fun B5 => []) (fun B5 => An) ?_
 clear hf hM; intro a w3 B5 hf hM hB hk
 have hbB5 : w.heap.size ≤ B5 := by have := hk0.size; omega
 have hk0 := hk0.thenNew hk (by simp [Mem.names] <;> omega)
 clear hk hB
 refine wpList_nil ?_
 refine hK4 _ _ ?_
 refine wp_seq_k (fun K5 hK5 => ?_)
 refine wp_region_lit ?_
 refine q0 hf hM [8] [{}, {}, {}] (nw := [(22, .val (.func (.func 46) #[] #[pV B1 0, pV B5 0, pV (B1 + 1) 0])), (21, .val (.func (.func 45) #[] #[pV B1 0, pV B5 0, pV (B1 + 1) 0])), (20, eP T 0)]) An ?_
 clear hf; intro a hf
 have hnd := hM.nd
 simp only [Mem.names, List.map_cons, List.map_nil, List.nodup_cons, List.mem_cons, List.not_mem_nil, or_false, not_or, List.nodup_nil, not_false_eq_true, and_true] at hnd
 have hTr := (oTree 72 68 T Bl bs).stab hown hk0 (fun _ _ h => h)
 have hok : ∀ x ∈ bs, okB x.2 = true := by obtain ⟨_, _, _, _, _, hti, _⟩ := hown; exact hti.ok
 have hhd : (bs.map (·.1)).Nodup := by obtain ⟨_, _, _, _, _, hti, _⟩ := hown; exact hti.hd
 have hsz0 := hk0.size
 have hcP0 : w3.cell? ⟨B1, 0, none⟩ = some (.int .i64 px) := ((cell?_blk (hM.at_ _ (List.Mem.head _)) 0).trans rfl)
 have hlP0 : B1 < w3.heap.size := hM.lt (by simp [Mem.names])
 have hcP1 : w3.cell? ⟨B1, 1, none⟩ = some (.int .i64 py) := ((cell?_blk (hM.at_ _ (List.Mem.head _)) 1).trans rfl)
 have hlP1 : B1 < w3.heap.size := hM.lt (by simp [Mem.names])
 have hcR0 : w3.cell? ⟨B1 + 1, 0, none⟩ = some (.int .i64 k) := ((cell?_blk (hM.at_ _ (List.Mem.tail _ (List.Mem.head _))) 0).trans rfl)
 have hlR0 : B1 + 1 < w3.heap.size := hM.lt (by simp [Mem.names])
 have hap : ∀ i ∈ Bl, ¬ i ∈ ((fun (sg : Option Addr × Nat) (vis blk : List (H2 × B4)) => oVS 91 93 3 fF B5 sg (fndL px py k vis) (∀ x ∈ blk, FarF k (fndL px py k vis) (toF px py x))) (none, 0) [] []).B := fun i hi hm => by
   have h1 := ((oTree 72 68 T Bl bs).lt' hown i hi).2
   obtain rfl : i = B5 := by simpa [oVS, Value.ownBlock] using hm
   omega
 have e0 : (fndL px py k []) = [] := by simp [fndL, ordS]
 have hRφ : ((fun (sg : Option Addr × Nat) (vis blk : List (H2 × B4)) => oVS 91 93 3 fF B5 sg (fndL px py k vis) (∀ x ∈ blk, FarF k (fndL px py k vis) (toF px py x))) (none, 0) [] []).φ base w3 := by
   refine ⟨by omega, ?_, ?_, by simp⟩
   · rw [e0]; exact hM.at_ _ (List.Mem.tail _ (List.Mem.tail _ (List.Mem.head _)))
   · rw [e0]; exact World.ownsRow_nil _ _ _ _
 have hRd : ((fun (sg : Option Addr × Nat) (vis blk : List (H2 × B4)) => oVS 91 93 3 fF B5 sg (fndL px py k vis) (∀ x ∈ blk, FarF k (fndL px py k vis) (toF px py x))) (none, 0) [] []).B.Nodup := by simp [oVS, Value.ownBlock]
 have hB0 : ∀ {i : Nat}, i ∈ ((fun (sg : Option Addr × Nat) (vis blk : List (H2 × B4)) => oVS 91 93 3 fF B5 sg (fndL px py k vis) (∀ x ∈ blk, FarF k (fndL px py k vis) (toF px py x))) (none, 0) [] []).B → i = B5 := fun hm => by simpa [oVS, Value.ownBlock] using hm
 refine sxcall hf rfl rfl rfl rfl (g := 16) (vs := [pV T 0, .func (.func 45) #[] #[pV B1 0, pV B5 0, pV (B1 + 1) 0], .func (.func 46) #[] #[pV B1 0, pV B5 0, pV (B1 + 1) 0]]) (ob := []) (by as_aux_lemma => kernel_rfl) An enters16 (twalkS base T Bl bs (fun _ => True) (fun (sg : Option Addr × Nat) (vis blk : List (H2 × B4)) => oVS 91 93 3 fF B5 sg (fndL px py k vis) (∀ x ∈ blk, FarF k (fndL px py k vis) (toF px py x))) (none, 0) 45 46 [pV B1 0, pV B5 0, pV (B1 + 1) 0] [pV B1 0, pV B5 0, pV (B1 + 1) 0] w3 hTr hap hRφ hRd (by omega) (fun _ _ _ _ => rfl) enters45 enters46
   (fun sg vis blk cc W hcc hr hkW hφ hd hBq => ?_) (fun sg vis blk x v W hx hy hr hkW hφ hd hBq => ?_)) ?_
 · have hfl := fndL_len px py k vis
   have hvl : vis.length ≤ bs.length := by obtain ⟨rest, hr⟩ := hr; have := hr.length_eq; simp only [List.length_append] at this; omega
   refine calls_mono (near_enter E B1 B5 (B1 + 1) px py k sg.1 (fndL px py k vis) sg.2 cc.d cc.x cc.y W hcc hre (hkW.cell hcP0 (fun hm => by have h0 : B1 = B5 := hB0 hm; omega)) (hkW.cell hcP1 (fun hm => by have h0 : B1 = B5 := hB0 hm; omega)) (hkW.cell hcR0 (fun hm => by have h0 : (B1 + 1) = B5 := hB0 hm; omega)) hkk ((cell?_blk (b := ⟨B5, 91, [.slice sg.1 (fndL px py k vis).length sg.2]⟩) hφ.2.1 0).trans rfl) (own_arr hφ.2.2.1) (by omega)) fun v W2 hv => ⟨_, hv.1, hv.2, fun _ => trivial, fun hb => ?_⟩
   have h2 := ((fun (sg : Option Addr × Nat) (vis blk : List (H2 × B4)) => oVS 91 93 3 fF B5 sg (fndL px py k vis) (∀ x ∈ blk, FarF k (fndL px py k vis) (toF px py x))) sg vis blk).stab hφ hv.2 (fun _ _ h => h)
   exact ⟨h2.1, h2.2.1, h2.2.2.1, fun x hx => (List.mem_append.1 hx).elim (h2.2.2.2 x) (near_bad hok hkk.1 (fndL_rises _ _ _ _) hfl.2 hb x)⟩
 · obtain ⟨hMq, hOq⟩ := openVS hφ hd
   have hbx := hok _ hx
   unfold okB at hbx
   rw [Bool.and_eq_true] at hbx
   have hns := not_seen hhd hr
   have hvl : vis.length ≤ bs.length := by obtain ⟨rest, hr⟩ := hr; have := hr.length_eq; simp only [List.length_append] at this; omega
   have hrl := fndL_len px py k vis
   have hap2 : ∀ {j : Nat}, j < w3.heap.size → j ≠ B5 → ¬ j ∈ B5 :: (Value.ownBlock (.slice sg.1 (fndL px py k vis).length sg.2)).toList := fun h1 h2 hm => (hBq _ hm).elim (fun h => h2 (hB0 h)) (fun h => by omega)
   refine calls_mono (near_each E base B5 B1 (B1 + 1) px py k sg.1 (fndL px py k vis) sg.2 x.i x.g v.x0 v.y0 v.x1 v.y1 W hbx.1 hre hMq hOq (by omega) (fndL_rises _ _ _ _) (hkW.cell hcP0 (fun hm => by have h0 : B1 = B5 := hB0 hm; omega)) (hkW.cell hcP1 (fun hm => by have h0 : B1 = B5 := hB0 hm; omega)) (hkW.cell hcR0 (fun hm => by have h0 : (B1 + 1) = B5 := hB0 hm; omega)) hkk (hap2 (by omega) (by omega)) (hap2 (by omega) (by omega)) (by have := hkW.size; omega)) fun u W2 hu => ?_
   obtain ⟨hu1, a2, c2, hM2, hO2, hk2, hB2⟩ := hu
   have hfar : ∀ z ∈ blk, FarF k (fndL px py k (vis ++ [(x, v)])) (toF px py z) := fun z hz => by rw [← fndL_snoc hns]; exact (hφ.2.2.2 z hz).next
   rw [show ((⟨x.i, x.g⟩ : H2), (⟨v.x0, v.y0, v.x1, v.y1⟩ : B4)) = (x, v) from rfl, fndL_snoc hns] at hM2 hO2 hB2
   have hs := shutVS hM2 hO2 hφ.1 hfar
   refine ⟨hu1, (a2, c2), hs.1, hk2, fun i hi => ?_, hs.2⟩
   rcases List.mem_cons.1 hi with rfl | hi
   · exact .inl (List.mem_cons_self ..)
   · exact (hB2 i (mem_ob.1 hi)).imp (fun h => List.mem_cons_of_mem _ (mem_ob.2 h)) id
 · clear hf; rintro _ w4 a ⟨rfl, sg, vis, blk, hx, hpv, hB1, hd1, hk⟩ hf
   have hM2 : MemOk [⟨B1, 46, [iV px, iV py]⟩, ⟨B1 + 1, 3, [iV k]⟩, ⟨B5, 91, [.slice sg.1 (fndL px py k vis).length sg.2]⟩] w4 := hM.turned hk rfl (by
     intro b hb
     simp only [List.mem_cons, List.not_mem_nil, or_false] at hb
     rcases hb with rfl | rfl | rfl
     · exact .inr ⟨by simp, fun hm => by have h0 : B1 = B5 := hB0 hm; omega⟩
     · exact .inr ⟨by simp, fun hm => by have h0 : B1 + 1 = B5 := hB0 hm; omega⟩
     · exact .inl hx.2.1)
   have hOx : w4.ownsRow w.heap.size 93 3 (.slice sg.1 (fndL px py k vis).length sg.2) (fndL px py k vis).length (flat fF (fndL px py k vis)) := own_raise hx.2.2.1 (fun k hk2 => by
     rcases hB1 k (List.mem_cons_of_mem _ (mem_ob.2 hk2)) with h | h
     · have := hB0 h; omega
     · omega)
   have hO : OwnOk w.heap.size [⟨B1, 46, [iV px, iV py]⟩, ⟨B1 + 1, 3, [iV k]⟩, ⟨B5, 91, [.slice sg.1 (fndL px py k vis).length sg.2]⟩] [oS 93 3 (.slice sg.1 (fndL px py k vis).length sg.2) (fndL px py k vis).length (flat fF (fndL px py k vis))] w4 := ⟨fun o ho => by obtain rfl := List.mem_singleton.1 ho; exact hOx, by
     have hd1 : (B5 :: (Value.ownBlock (.slice sg.1 (fndL px py k vis).length sg.2)).toList).Nodup := hd1
     have hq : ∀ i ∈ (Value.ownBlock (.slice sg.1 (fndL px py k vis).length sg.2)).toList, i ∈ ((fun (sg : Option Addr × Nat) (vis blk : List (H2 × B4)) => oVS 91 93 3 fF B5 sg (fndL px py k vis) (∀ x ∈ blk, FarF k (fndL px py k vis) (toF px py x))) (none, 0) [] []).B ∨ w3.heap.size ≤ i := fun i hi => hB1 i (List.mem_cons_of_mem _ hi)
     refine List.nodup_append.2 ⟨hM2.nd, by simpa [oS] using (List.nodup_cons.1 hd1).2, fun x hx y hy e => ?_⟩
     subst e
     have hy2 : x ∈ (Value.ownBlock (.slice sg.1 (fndL px py k vis).length sg.2)).toList := by simpa [oS] using hy
     rcases hq x hy2 with h | h
     · have := hB0 h; subst this; exact (List.nodup_cons.1 hd1).1 hy2
     · have := hM.lt hx; omega⟩
   have hk0 := hk0.then hk (by intro i hi h; have := hB0 h; omega)
   have hvl : vis.length ≤ bs.length := by have := hpv.length_eq; simp only [List.length_append] at this; omega
   have hψ := hx.2.2.2; clear hM; have hM := hM2; clear hM2 hk hx hB1 hd1 hRφ hap hOx
   have hfl := fndL_len px py k bs
   rw [fndL_perm hpv hψ] at hM hO
   replace hO : OwnOk w.heap.size [⟨B1, 46, [iV px, iV py]⟩, ⟨B1 + 1, 3, [iV k]⟩, ⟨B5, 91, [.slice sg.1 (fndL px py k bs).length sg.2]⟩] [oS 93 3 (.slice sg.1 (fndL px py k bs).length sg.2) (fndL px py k bs).length (flat fF (fndL px py k bs))] w4 := hO
   refine wpList_nil ?_
   refine hK5 _ _ ?_
   refine wp_seq_k (fun K6 hK6 => ?_)
   refine wp_region_lit ?_
   refine q0 hf hM [8] [{}] (nw := [(9, eS none 0 0)]) An ?_
   clear hf; intro a hf
   refine wpList_nil ?_
   refine hK6 _ _ ?_
   refine wp_seq_k (fun K7 hK7 => ?_)
   refine wp_seq_k (fun K8 hK8 => ?_)
   refine wp_region_lit ?_
   refine q0 hf hM [9] [{ os := [.ld 2 0] }, {}, {}] (nw := [(26, eI 0), (25, eI ((fndL px py k bs).length : Int)), (24, eS sg.1 (fndL px py k bs).length sg.2)]) (ob := [Ad B5 0]) (Ao (ad _ _)) ?_
   clear hf; intro a hf
   refine wpList_nil ?_
   refine hK8 _ _ ?_
   refine wp_block ?_
   replace hO := hO.none 39 2
   replace hO : OwnOk w.heap.size [⟨B1, 46, [iV px, iV py]⟩, ⟨B1 + 1, 3, [iV k]⟩, ⟨B5, 91, [.slice sg.1 (fndL px py k bs).length sg.2]⟩] [oS 39 2 (.slice none 0 0) 0 (flat fH []), oS 93 3 (.slice sg.1 (fndL px py k bs).length sg.2) (fndL px py k bs).length (flat fF (fndL px py k bs))] w4 := hO
   have hf := (hf.prune [9, 24, 25, 26]).to (env' := [(9, eS none 0 0), (24, eS sg.1 (fndL px py k bs).length sg.2), (25, eI ((fndL px py k bs).length : Int)), (26, eI 0)]) (by kernel_rfl)
   replace hO : OwnOk w.heap.size [⟨B1, 46, [iV px, iV py]⟩, ⟨B1 + 1, 3, [iV k]⟩, ⟨B5, 91, [.slice sg.1 (fndL px py k bs).length sg.2]⟩] [oS 39 2 (.slice none ((((fndL px py k bs).take (0 : Int).toNat).map hF).length) 0) ((((fndL px py k bs).take (0 : Int).toNat).map hF).length) (flat fH (((fndL px py k bs).take (0 : Int).toNat).map hF)), oS 93 3 (.slice sg.1 (fndL px py k bs).length sg.2) (fndL px py k bs).length (flat fF (fndL px py k bs))] w4 := by
    first | exact hO | (have e : ([oS 39 2 (.slice none 0 0) 0 (flat fH []), oS 93 3 (.slice sg.1 (fndL px py k bs).length sg.2) (fndL px py k bs).length (flat fF (fndL px py k bs))] : List Own) = [oS 39 2 (.slice none ((((fndL px py k bs).take (0 : Int).toNat).map hF).length) 0) ((((fndL px py k bs).take (0 : Int).toNat).map hF).length) (flat fH (((fndL px py k bs).take (0 : Int).toNat).map hF)), oS 93 3 (.slice sg.1 (fndL px py k bs).length sg.2) (fndL px py k bs).length (flat fF (fndL px py k bs))] := by rfl) <;> (rw [← e]; exact hO)
   refine sxloop (fun zm a w1 => ∃ (i : Int) (a9 : Option Addr) (c9 : Nat), zm = (((fndL px py k bs).length : Int) - i).toNat ∧ Fr 37 [(9, eS a9 ((((fndL px py k bs).take i.toNat).map hF).length) c9), (24, eS sg.1 (fndL px py k bs).length sg.2), (25, eI ((fndL px py k bs).length : Int)), (26, eI i)] a ∧ MemOk [⟨B1, 46, [iV px, iV py]⟩, ⟨B1 + 1, 3, [iV k]⟩, ⟨B5, 91, [.slice sg.1 (fndL px py k bs).length sg.2]⟩] w1 ∧ Keep Nn w w1 ∧ OwnOk w.heap.size [⟨B1, 46, [iV px, iV py]⟩, ⟨B1 + 1, 3, [iV k]⟩, ⟨B5, 91, [.slice sg.1 (fndL px py k bs).length sg.2]⟩] [oS 39 2 (.slice a9 ((((fndL px py k bs).take i.toNat).map hF).length) c9) ((((fndL px py k bs).take i.toNat).map hF).length) (flat fH (((fndL px py k bs).take i.toNat).map hF)), oS 93 3 (.slice sg.1 (fndL px py k bs).length sg.2) (fndL px py k bs).length (flat fF (fndL px py k bs))] w1 ∧ (0 ≤ i ∧ i ≤ ((fndL px py k bs).length : Int))) _ ⟨0, none, 0, rfl, hf.conv (Ac rfl (Ac rfl (Ac rfl (Ao rfl)))), hM, hk0, hO, (by omega)⟩ ?_
   clear hf hM hk0 hO
   rintro _ a w5 ⟨i, a9, c9, rfl, hf, hM, hk0, hO, hi⟩ L1 hL1
   have hml : (((fndL px py k bs).take i.toNat).map hF).length ≤ (fndL px py k bs).length := by rw [List.length_map, List.length_take]; omega
   refine wp_seq_k (fun K9 hK9 => ?_)
   refine wp_region_lit ?_
   refine q0 hf hM [9, 24, 25, 26] [{}] (nw := [(27, eB (decide ((i : Int) < ((fndL px py k bs).length : Int))))]) An ?_
   clear hf; intro a hf
   refine wpList_nil ?_
   refine hK9 _ _ ?_
   refine wp_seq_k (fun K10 hK10 => ?_)
   refine qc hf (b := (decide ((i : Int) < ((fndL px py k bs).length : Int)))) (fun hc2r => ?_) (fun hc2r => ?_)
   · have hc2 := (nT hc2r)
     refine wp_skip ?_
     refine hK10 _ _ ?_
     refine wp_seq_k (fun K11 hK11 => ?_)
     refine wp_block ?_
     refine wp_seq_k (fun K12 hK12 => ?_)
     refine wp_region_lit ?_
     refine q1 hf hM [9, 24, 25, 26] [{ sp := true }, { os := [.ex (iV (((fndL px py k bs).getD i.toNat ⟨0, 0, 0⟩).i)), .ex (iV (((fndL px py k bs).getD i.toNat ⟨0, 0, 0⟩).g)), .ex (iV (((fndL px py k bs).getD i.toNat ⟨0, 0, 0⟩).a))] }, { os := [.nw] }, { os := [.st 3 0, .st 3 1, .st 3 2] }] (nw := fun B10 => [(11, eP B10 0)]) (M' := fun B10 => [⟨B1, 46, [iV px, iV py]⟩, ⟨B1 + 1, 3, [iV k]⟩, ⟨B5, 91, [.slice sg.1 (fndL px py k bs).length sg.2]⟩, ⟨B10, 93, [iV (((fndL px py k bs).getD i.toNat ⟨0, 0, 0⟩).i), iV (((fndL px py k bs).getD i.toNat ⟨0, 0, 0⟩).g), iV (((fndL px py k bs).getD i.toNat ⟨0, 0, 0⟩).a)]⟩]) (ob := fun B10 => [(0 : Int) ≤ i ∧ i < ((fndL px py k bs).length : Int), (sg.1 : Option Addr).isSome = true, w5.cell? (((sa sg.1 : Addr).add (i.toNat * 3)).add 0) = some (iV (((fndL px py k bs).getD i.toNat ⟨0, 0, 0⟩).i)), w5.cell? (((sa sg.1 : Addr).add (i.toNat * 3)).add 1) = some (iV (((fndL px py k bs).getD i.toNat ⟨0, 0, 0⟩).g)), w5.cell? (((sa sg.1 : Addr).add (i.toNat * 3)).add 2) = some (iV (((fndL px py k bs).getD i.toNat ⟨0, 0, 0⟩).a)), Ad B10 0, Ad B10 1, Ad B10 2]) (fun B10 => (Ac (by first | omega | (simp; done)) (Ac ((own_arr (hO.own _ (List.Mem.tail _ (List.Mem.head _)))).some_ (by first | omega | (simp; done))) (Ac ((own_arr (hO.own _ (List.Mem.tail _ (List.Mem.head _)))).get (fun _ => rfl) (by first | omega | (simp; done)) rfl) (Ac ((own_arr (hO.own _ (List.Mem.tail _ (List.Mem.head _)))).get (fun _ => rfl) (by first | omega | (simp; done)) rfl) (Ac ((own_arr (hO.own _ (List.Mem.tail _ (List.Mem.head _)))).get (fun _ => rfl) (by first | omega | (simp; done)) rfl) (Ac (ad _ _) (Ac (ad _ _) (Ao (ad _ _)))))))))) ?_
     clear hf hM; intro a w6 B10 hf hM hB hk
     have hbB10 : w.heap.size ≤ B10 := by have := hk0.size; omega
     have hk0 := hk0.thenNew hk (by simp [Mem.names] <;> omega)
     have hO := hO.step hM hk (by intro i h; simp only [Mem.names, List.map_cons, List.map_nil, List.mem_cons, List.not_mem_nil, or_false, List.map_append, List.cons_append, List.nil_append] at h ⊢; omega)
     clear hk hB
     refine wpList_nil ?_
     refine hK12 _ _ ?_
     refine wp_region_lit ?_
     refine q0 hf hM [9, 24, 25, 26] [{}, {}, { os := [.ld 3 0, .ld 3 1] }] (nw := [(32, .val (.agg #[iV (((fndL px py k bs).getD i.toNat ⟨0, 0, 0⟩).i), iV (((fndL px py k bs).getD i.toNat ⟨0, 0, 0⟩).g)])), (30, eS a9 ((((fndL px py k bs).take i.toNat).map hF).length) c9)]) (ob := [Ad B10 0, Ad B10 1]) (Ac (ad _ _) (Ao (ad _ _))) ?_
     clear hf; intro a hf
     refine sxbslice hf hM (t := 50) (e := 39) (len := 1) (cs := [iV (((fndL px py k bs).getD i.toNat ⟨0, 0, 0⟩).i), iV (((fndL px py k bs).getD i.toNat ⟨0, 0, 0⟩).g)]) (ob := []) rfl rfl rfl rfl (by as_aux_lemma => kernel_rfl) An (by as_aux_lemma => kernel_rfl) ?_
     clear hf hM; intro a w7 B12 hf hM hB hk
     replace hM : MemOk [⟨B1, 46, [iV px, iV py]⟩, ⟨B1 + 1, 3, [iV k]⟩, ⟨B5, 91, [.slice sg.1 (fndL px py k bs).length sg.2]⟩, ⟨B10, 93, [iV (((fndL px py k bs).getD i.toNat ⟨0, 0, 0⟩).i), iV (((fndL px py k bs).getD i.toNat ⟨0, 0, 0⟩).g), iV (((fndL px py k bs).getD i.toNat ⟨0, 0, 0⟩).a)]⟩, ⟨B12, 39, [iV (((fndL px py k bs).getD i.toNat ⟨0, 0, 0⟩).i), iV (((fndL px py k bs).getD i.toNat ⟨0, 0, 0⟩).g)]⟩] w7 := hM
     have hbB12 : w.heap.size ≤ B12 := by have := hk0.size; omega
     have hk0 := hk0.trans hk.nn
     have hO := hO.step hM hk.nn (by intro i h; simp only [Mem.names, List.map_cons, List.map_nil, List.mem_cons, List.not_mem_nil, or_false, List.map_append, List.cons_append, List.nil_append] at h ⊢; omega)
     clear hk hB
     replace hO : OwnOk w.heap.size [⟨B1, 46, [iV px, iV py]⟩, ⟨B1 + 1, 3, [iV k]⟩, ⟨B5, 91, [.slice sg.1 (fndL px py k bs).length sg.2]⟩, ⟨B10, 93, [iV (((fndL px py k bs).getD i.toNat ⟨0, 0, 0⟩).i), iV (((fndL px py k bs).getD i.toNat ⟨0, 0, 0⟩).g), iV (((fndL px py k bs).getD i.toNat ⟨0, 0, 0⟩).a)]⟩, ⟨B12, 39, [iV (((fndL px py k bs).getD i.toNat ⟨0, 0, 0⟩).i), iV (((fndL px py k bs).getD i.toNat ⟨0, 0, 0⟩).g)]⟩] [oS 39 2 (.slice a9 ((((fndL px py k bs).take i.toNat).map hF).length) c9) ((((fndL px py k bs).take i.toNat).map hF).length) (flat fH (((fndL px py k bs).take i.toNat).map hF)), oS 93 3 (.slice sg.1 (fndL px py k bs).length sg.2) (fndL px py k bs).length (flat fF (fndL px py k bs))] w7 := OwnOk.front (l1 := []) (l2 := [oS 93 3 (.slice sg.1 (fndL px py k bs).length sg.2) (fndL px py k bs).length (flat fF (fndL px py k bs))]) hO
     refine sxappend hf hM (e := 39) (sz := 2) (by_ := 16) (k := (((fndL px py k bs).take i.toNat).map hF).length) (v := .slice a9 ((((fndL px py k bs).take i.toNat).map hF).length) c9) (xs := flat fH (((fndL px py k bs).take i.toNat).map hF)) hO rfl rfl rfl rfl (av := some ⟨B12, 0, none⟩) (m := 1) (c := 1) rfl rfl Tryd.underlying50 (by kernel_rfl) rfl (news := flat fH ([⟨((fndL px py k bs).getD i.toNat ⟨0, 0, 0⟩).i, ((fndL px py k bs).getD i.toNat ⟨0, 0, 0⟩).g⟩] : List H2)) (Arr.of_memT (sz := 2) (f := fH) (L := ([⟨((fndL px py k bs).getD i.toNat ⟨0, 0, 0⟩).i, ((fndL px py k bs).getD i.toNat ⟨0, 0, 0⟩).g⟩] : List H2)) (l := ([⟨((fndL px py k bs).getD i.toNat ⟨0, 0, 0⟩).i, ((fndL px py k bs).getD i.toNat ⟨0, 0, 0⟩).g⟩] : List H2)) hM (List.Mem.tail _ (List.Mem.tail _ (List.Mem.tail _ (List.Mem.tail _ (List.Mem.head _))))) (fun _ => rfl) rfl rfl) (flat_one1 fH_one) (by simp only [maxLen]; constructor <;> (first | omega | (simp; omega))) (by have := hk0.size; omega) ?_
     clear hf hM hO; intro a w8 av1 cv1 hf hM hO hk
     have en : ((((fndL px py k bs).take i.toNat).map hF).length + 1 : Nat) = ((((fndL px py k bs).take i.toNat).map hF) ++ ([⟨((fndL px py k bs).getD i.toNat ⟨0, 0, 0⟩).i, ((fndL px py k bs).getD i.toNat ⟨0, 0, 0⟩).g⟩] : List H2)).length := (by first | (simp; done) | (simp; omega))
     have ec : flat fH (((fndL px py k bs).take i.toNat).map hF) ++ flat fH ([⟨((fndL px py k bs).getD i.toNat ⟨0, 0, 0⟩).i, ((fndL px py k bs).getD i.toNat ⟨0, 0, 0⟩).g⟩] : List H2) = flat fH ((((fndL px py k bs).take i.toNat).map hF) ++ ([⟨((fndL px py k bs).getD i.toNat ⟨0, 0, 0⟩).i, ((fndL px py k bs).getD i.toNat ⟨0, 0, 0⟩).g⟩] : List H2)) := (by first | rfl | exact (flat_app _ _ _).symm | simp [flat_app, flat_nil])
     rw [en] at hf hO; rw [ec] at hO; clear en ec
     replace hO : OwnOk w.heap.size [⟨B1, 46, [iV px, iV py]⟩, ⟨B1 + 1, 3, [iV k]⟩, ⟨B5, 91, [.slice sg.1 (fndL px py k bs).length sg.2]⟩, ⟨B10, 93, [iV (((fndL px py k bs).getD i.toNat ⟨0, 0, 0⟩).i), iV (((fndL px py k bs).getD i.toNat ⟨0, 0, 0⟩).g), iV (((fndL px py k bs).getD i.toNat ⟨0, 0, 0⟩).a)]⟩, ⟨B12, 39, [iV (((fndL px py k bs).getD i.toNat ⟨0, 0, 0⟩).i), iV (((fndL px py k bs).getD i.toNat ⟨0, 0, 0⟩).g)]⟩] [oS 39 2 (.slice av1 (((((fndL px py k bs).take i.toNat).map hF) ++ ([⟨((fndL px py k bs).getD i.toNat ⟨0, 0, 0⟩).i, ((fndL px py k bs).getD i.toNat ⟨0, 0, 0⟩).g⟩] : List H2)).length) cv1) (((((fndL px py k bs).take i.toNat).map hF) ++ ([⟨((fndL px py k bs).getD i.toNat ⟨0, 0, 0⟩).i, ((fndL px py k bs).getD i.toNat ⟨0, 0, 0⟩).g⟩] : List H2)).length) (flat fH ((((fndL px py k bs).take i.toNat).map hF) ++ ([⟨((fndL px py k bs).getD i.toNat ⟨0, 0, 0⟩).i, ((fndL px py k bs).getD i.toNat ⟨0, 0, 0⟩).g⟩] : List H2))), oS 93 3 (.slice sg.1 (fndL px py k bs).length sg.2) (fndL px py k bs).length (flat fF (fndL px py k bs))] w8 := hO
     have hk0 := hk0.then hk (by intro i hi h; have := h.1; omega)
     clear hk
     refine q0 hf hM [24, 25, 26] [{}] (nw := [(9, eS av1 (((((fndL px py k bs).take i.toNat).map hF) ++ ([⟨((fndL px py k bs).getD i.toNat ⟨0, 0, 0⟩).i, ((fndL px py k bs).getD i.toNat ⟨0, 0, 0⟩).g⟩] : List H2)).length) cv1)]) An ?_
     clear hf; intro a hf
     refine wpList_nil ?_
     refine hK11 _ _ ?_
     refine wp_region_lit ?_
     refine q0 hf hM [9, 24, 25] [{ hint := some (iV (i + 1)) }, {}] (nw := [(26, eI (i + 1))]) (ob := [(iV (IntKind.i64.wrap (i + 1)) : Value) = (iV (i + 1) : Value)]) (Ao (wr (by omega))) ?_
     clear hf; intro a hf
     refine wpList_nil ?_
     have hnx : (((fndL px py k bs).take (i + 1).toNat).map hF) = ((fndL px py k bs).take i.toNat).map hF ++ [⟨((fndL px py k bs).getD i.toNat ⟨0, 0, 0⟩).i, ((fndL px py k bs).getD i.toNat ⟨0, 0, 0⟩).g⟩] := by rw [take_nextI (d := (⟨0, 0, 0⟩ : F3)) (by omega), List.map_append]; rfl
     have hf := (hf.prune [9, 24, 25, 26]).to (env' := [(9, eS av1 (((((fndL px py k bs).take i.toNat).map hF) ++ ([⟨((fndL px py k bs).getD i.toNat ⟨0, 0, 0⟩).i, ((fndL px py k bs).getD i.toNat ⟨0, 0, 0⟩).g⟩] : List H2)).length) cv1), (24, eS sg.1 (fndL px py k bs).length sg.2), (25, eI ((fndL px py k bs).length : Int)), (26, eI (i + 1))]) (by kernel_rfl)
     replace hO : OwnOk w.heap.size [⟨B1, 46, [iV px, iV py]⟩, ⟨B1 + 1, 3, [iV k]⟩, ⟨B5, 91, [.slice sg.1 (fndL px py k bs).length sg.2]⟩] [oS 39 2 (.slice av1 (((((fndL px py k bs).take i.toNat).map hF) ++ ([⟨((fndL px py k bs).getD i.toNat ⟨0, 0, 0⟩).i, ((fndL px py k bs).getD i.toNat ⟨0, 0, 0⟩).g⟩] : List H2)).length) cv1) (((((fndL px py k bs).take i.toNat).map hF) ++ ([⟨((fndL px py k bs).getD i.toNat ⟨0, 0, 0⟩).i, ((fndL px py k bs).getD i.toNat ⟨0, 0, 0⟩).g⟩] : List H2)).length) (flat fH ((((fndL px py k bs).take i.toNat).map hF) ++ ([⟨((fndL px py k bs).getD i.toNat ⟨0, 0, 0⟩).i, ((fndL px py k bs).getD i.toNat ⟨0, 0, 0⟩).g⟩] : List H2))), oS 93 3 (.slice sg.1 (fndL px py k bs).length sg.2) (fndL px py k bs).length (flat fF (fndL px py k bs))] w8 := hO.sub (.cons_cons _ (.cons_cons _ (.cons_cons _ (.cons _ (.cons _ .slnil))))) (List.Sublist.refl _)
     replace hM : MemOk [⟨B1, 46, [iV px, iV py]⟩, ⟨B1 + 1, 3, [iV k]⟩, ⟨B5, 91, [.slice sg.1 (fndL px py k bs).length sg.2]⟩] w8 := hM.sub (.cons_cons _ (.cons_cons _ (.cons_cons _ (.cons _ (.cons _ .slnil)))))
     replace hO : OwnOk w.heap.size [⟨B1, 46, [iV px, iV py]⟩, ⟨B1 + 1, 3, [iV k]⟩, ⟨B5, 91, [.slice sg.1 (fndL px py k bs).length sg.2]⟩] [oS 39 2 (.slice av1 ((((fndL px py k bs).take (i + 1).toNat).map hF).length) cv1) ((((fndL px py k bs).take (i + 1).toNat).map hF).length) (flat fH (((fndL px py k bs).take (i + 1).toNat).map hF)), oS 93 3 (.slice sg.1 (fndL px py k bs).length sg.2) (fndL px py k bs).length (flat fF (fndL px py k bs))] w8 := by
      first | exact hO | (have e : ([oS 39 2 (.slice av1 (((((fndL px py k bs).take i.toNat).map hF) ++ ([⟨((fndL px py k bs).getD i.toNat ⟨0, 0, 0⟩).i, ((fndL px py k bs).getD i.toNat ⟨0, 0, 0⟩).g⟩] : List H2)).length) cv1) (((((fndL px py k bs).take i.toNat).map hF) ++ ([⟨((fndL px py k bs).getD i.toNat ⟨0, 0, 0⟩).i, ((fndL px py k bs).getD i.toNat ⟨0, 0, 0⟩).g⟩] : List H2)).length) (flat fH ((((fndL px py k bs).take i.toNat).map hF) ++ ([⟨((fndL px py k bs).getD i.toNat ⟨0, 0, 0⟩).i, ((fndL px py k bs).getD i.toNat ⟨0, 0, 0⟩).g⟩] : List H2))), oS 93 3 (.slice sg.1 (fndL px py k bs).length sg.2) (fndL px py k bs).length (flat fF (fndL px py k bs))] : List Own) = [oS 39 2 (.slice av1 ((((fndL px py k bs).take (i + 1).toNat).map hF).length) cv1) ((((fndL px py k bs).take (i + 1).toNat).map hF).length) (flat fH (((fndL px py k bs).take (i + 1).toNat).map hF)), oS 93 3 (.slice sg.1 (fndL px py k bs).length sg.2) (fndL px py k bs).length (flat fF (fndL px py k bs))] := by (rw [hnx]; try rfl)) <;> (rw [← e]; exact hO)
     refine hL1 _ _ _ (by omega) ⟨i + 1, av1, cv1, rfl, hf.conv (Ac (by rw [hnx]; rfl) (Ac rfl (Ac rfl (Ao rfl)))), hM, hk0, hO, (by omega)⟩
   · have hc2 := (nU hc2r)
     refine wp_exit ?_
     refine hK7 _ _ ?_
     refine wp_seq_k (fun K13 hK13 => ?_)
     refine wp_region_lit ?_
     refine q0 hf hM [] [{}, {}, {}] (nw := [(7, .val (.nilIface)), (6, eS a9 ((((fndL px py k bs).take i.toNat).map hF).length) c9)]) An ?_
     clear hf; intro a hf
     refine wpList_nil ?_
     refine hK13 _ _ ?_
     refine wp_ret ?_
     refine qr (fn := Tryd.f22) hf hM [] (l := [.slice a9 ((((fndL px py k bs).take i.toNat).map hF).length) c9, .nilIface]) (ob := []) An ?_
     show ∃ a' c', (.tuple #[.slice a9 ((((fndL px py k bs).take i.toNat).map hF).length) c9, .nilIface] : Value) = .tuple #[.slice a' (nearL px py k bs).length c', .nilIface] ∧ Keep Nn w w5 ∧ World.ownsRow w5 w.heap.size 39 2 (.slice a' (nearL px py k bs).length c') (nearL px py k bs).length (flat fH (nearL px py k bs))
     have e : (fndL px py k bs).take i.toNat = (fndL px py k bs) := List.take_of_length_le (by omega)
     rw [e] at hO
     exact ⟨_, _, by rw [e]; rfl, hk0, hO.own _ (List.Mem.head _)⟩
end Go.Proofs.YthofalkkdpjdlaaDoor
