/- layer 13: Radius -/
import Derived.Test.YthofalkkdpjdlaaDoorN5
namespace Go.Proofs.YthofalkkdpjdlaaDoor
open Go.Px
set_option linter.unusedVariables false
set_option linter.unusedSimpArgs false

set_option maxRecDepth 10000 in
set_option maxHeartbeats 1600000 in
theorem radius_no1 (E : Nat → Addr) (T : Nat) (px py r : Int) (w : World) (hn0 : (ofOk px py 0 0) = false) (hG : Errs [1, 3, 0] w 161 E) :
    Calls Tryd.prog 20 #[pV T 0, .agg #[iV px, iV py], iV r] w (Ret fun v w' => v = .tuple #[.slice none 0 0, .iface 161 (.pointer (some (E 1)))] ∧ Keep Nn w w') := by
 refine sxenter (n := 27) (args := [pV T 0, .agg #[iV px, iV py], iV r]) Tryd.func20 rfl rfl rfl fun a hf => ?_
 replace hf : Fr 27 [(0, eP T 0), (1, .val (.agg #[iV px, iV py])), (2, eI r)] a := hf
 have hM : MemOk [] w := MemOk.nil w
 have hk0 : Keep Nn w w := Keep.refl _ _
 refine wp_seq_k (fun K1 hK1 => ?_)
 refine wp_region_lit ?_
 refine q1 hf hM [0] [{ os := [.nw] }, { os := [.nw] }, {}, {}] (nw := fun B1 => [(7, .val (.nilIface)), (6, eS none 0 0), (5, eP (B1 + 1) 0), (4, eP B1 0)]) (M' := fun B1 => [⟨B1, 46, [iV px, iV py]⟩, ⟨B1 + 1, 3, [iV r]⟩]) (ob := fun B1 => []) (fun B1 => An) ?_
 clear hf hM; intro a w1 B1 hf hM hB hk
 have hbB1 : w.heap.size ≤ B1 := by have := hk0.size; omega
 have hk0 := hk0.then hk (by intro i _ h; cases h)
 clear hk hB
 refine wpList_nil ?_
 refine hK1 _ _ ?_
 refine wp_seq_k (fun K2 hK2 => ?_)
 refine wp_seq_k (fun K3 hK3 => ?_)
 refine wp_region_lit ?_
 refine q0 hf hM [7, 6, 5, 4, 0] [{ os := [.ld 0 0, .ld 0 1] }] (nw := [(9, .val (.agg #[iV px, iV py]))]) (ob := [Ad B1 0, Ad B1 1]) (Ac (ad _ _) (Ao (ad _ _))) ?_
 clear hf; intro a hf
 refine sxcall hf rfl rfl rfl rfl (g := 38) (vs := [.agg #[iV px, iV py]]) (ob := []) (by as_aux_lemma => kernel_rfl) An enters38 (place_any E px py w1  (hG.keep hk0 (fun _ h => h))) ?_
 clear hf; rintro _ w2 a ⟨rfl, hk⟩ hf
 have hM := hM.keepNn hk
 have hk0 := hk0.trans hk.nn
 clear hk
 refine q0 hf hM [7, 6, 5, 4, 0] [{}, {}] (nw := [(12, eB (!(ofOk px py 0 0)))]) An ?_
 clear hf; intro a hf
 have hf := hf.setb 12 ((congrArg Bool.not hn0).trans rfl : (!(ofOk px py 0 0) : Bool) = true)
 refine q0 hf hM [7, 6, 5, 4, 0] [{ g := .off }, { g := .off }, {}, {}, { g := .off }, { g := .off }, {}] (nw := [(19, eB true)]) (ob := [true = !false, true = !false, true = !false, true = !false]) (Ac rfl (Ac rfl (Ac rfl (Ao rfl)))) ?_
 clear hf; intro a hf
 refine wpList_nil ?_
 refine hK3 _ _ ?_
 refine sxcond hf (b := true) (by kernel_rfl) (fun _ => ?_) (fun h => by cases h)
 refine wp_seq_k (fun K4 hK4 => ?_)
 replace hM := hM.drew; replace hk0 := hk0.drew
 obtain ⟨Cq1, hCq1i, hCq1e⟩ := qcls fun w' => MemOk [⟨B1, 46, [iV px, iV py]⟩, ⟨B1 + 1, 3, [iV r]⟩] w' ∧ Keep Nn w w' ∧ True
 refine sxdraw (C := Cq1) (.leaf [(0, true), (1, true), (2, true)]) (by kernel_rfl) (by kernel_rfl) (by as_aux_lemma => kernel_rfl) rfl (by as_aux_lemma => kernel_rfl) (by kernel_rfl) (hCq1i _ ⟨hM.sub (.cons_cons _ (.cons_cons _ .slnil)), hk0, trivial⟩) ?_
 refine sxleaf ?_
 have hC := (hCq1i _ ⟨hM.sub (.cons_cons _ (.cons_cons _ .slnil)), hk0, trivial⟩)
 refine qd hf hC (fun w' h => (hCq1e w' h).1) [6] [{ os := [.ex (.iface 161 (.pointer (some (E 1))))] }, {}, {}] (nw := [(7, .val (.iface 161 (.pointer (some (E 1)))))]) (ob := [(∀ w', Cq1 w' → w'.cell? ⟨1, 0, none⟩ = some (.iface 161 (.pointer (some (E 1)))))]) (Ao (fun w' hc => by obtain ⟨hM, hk0, hO⟩ := hCq1e w' hc; exact (hk0.cell (hG.cell 1 (by decide)) (fun h => h)))) ?_
 clear hf; intro a hf
 clear hC
 show K4 _ _
 refine hK4 _ _ ?_
 refine wp_ret ?_
 refine qr (fn := Tryd.f20) hf hM [] (l := [.slice none 0 0, .iface 161 (.pointer (some (E 1)))]) (ob := []) An ?_
 show (.tuple #[.slice none 0 0, .iface 161 (.pointer (some (E 1)))] : Value) = .tuple #[.slice none 0 0, .iface 161 (.pointer (some (E 1)))] ∧ Keep Nn w w2.drew
 exact ⟨rfl, hk0⟩

set_option maxRecDepth 10000 in
set_option maxHeartbeats 1600000 in
theorem radius_no2 (E : Nat → Addr) (T : Nat) (px py r : Int) (w : World) (hn0 : (ofOk px py 0 0) = true) (hn1 : (decide ((r : Int) < 0)) = true) (hG : Errs [1, 3, 0] w 161 E) :
    Calls Tryd.prog 20 #[pV T 0, .agg #[iV px, iV py], iV r] w (Ret fun v w' => v = .tuple #[.slice none 0 0, .iface 161 (.pointer (some (E 1)))] ∧ Keep Nn w w') := by
 refine sxenter (n := 27) (args := [pV T 0, .agg #[iV px, iV py], iV r]) Tryd.func20 rfl rfl rfl fun a hf => ?_
 replace hf : Fr 27 [(0, eP T 0), (1, .val (.agg #[iV px, iV py])), (2, eI r)] a := hf
 have hM : MemOk [] w := MemOk.nil w
 have hk0 : Keep Nn w w := Keep.refl _ _
 refine wp_seq_k (fun K1 hK1 => ?_)
 refine wp_region_lit ?_
 refine q1 hf hM [0] [{ os := [.nw] }, { os := [.nw] }, {}, {}] (nw := fun B1 => [(7, .val (.nilIface)), (6, eS none 0 0), (5, eP (B1 + 1) 0), (4, eP B1 0)]) (M' := fun B1 => [⟨B1, 46, [iV px, iV py]⟩, ⟨B1 + 1, 3, [iV r]⟩]) (ob := fun B1 => []) (fun B1 => An) ?_
 clear hf hM; intro a w1 B1 hf hM hB hk
 have hbB1 : w.heap.size ≤ B1 := by have := hk0.size; omega
 have hk0 := hk0.then hk (by intro i _ h; cases h)
 clear hk hB
 refine wpList_nil ?_
 refine hK1 _ _ ?_
 refine wp_seq_k (fun K2 hK2 => ?_)
 refine wp_seq_k (fun K3 hK3 => ?_)
 refine wp_region_lit ?_
 refine q0 hf hM [7, 6, 5, 4, 0] [{ os := [.ld 0 0, .ld 0 1] }] (nw := [(9, .val (.agg #[iV px, iV py]))]) (ob := [Ad B1 0, Ad B1 1]) (Ac (ad _ _) (Ao (ad _ _))) ?_
 clear hf; intro a hf
 refine sxcall hf rfl rfl rfl rfl (g := 38) (vs := [.agg #[iV px, iV py]]) (ob := []) (by as_aux_lemma => kernel_rfl) An enters38 (place_any E px py w1  (hG.keep hk0 (fun _ h => h))) ?_
 clear hf; rintro _ w2 a ⟨rfl, hk⟩ hf
 have hM := hM.keepNn hk
 have hk0 := hk0.trans hk.nn
 clear hk
 refine q0 hf hM [7, 6, 5, 4, 0] [{}, {}] (nw := [(12, eB (!(ofOk px py 0 0)))]) An ?_
 clear hf; intro a hf
 have hf := hf.setb 12 ((congrArg Bool.not hn0).trans rfl : (!(ofOk px py 0 0) : Bool) = false)
 refine q0 hf hM [7, 6, 5, 4, 0] [{ os := [.ld 1 0] }, {}, {}, {}] (nw := [(16, eB (decide ((r : Int) < 0)))]) (ob := [false = false, Ad (B1 + 1) 0, false = false]) (Ac rfl (Ac (ad _ _) (Ao rfl))) ?_
 clear hf; intro a hf
 have hf := hf.setb 16 hn1
 refine q0 hf hM [7, 6, 5, 4, 0] [{ g := .off }, { g := .off }, {}] (nw := [(19, eB true)]) (ob := [true = !false, true = !false]) (Ac rfl (Ao rfl)) ?_
 clear hf; intro a hf
 refine wpList_nil ?_
 refine hK3 _ _ ?_
 refine sxcond hf (b := true) (by kernel_rfl) (fun _ => ?_) (fun h => by cases h)
 refine wp_seq_k (fun K4 hK4 => ?_)
 replace hM := hM.drew; replace hk0 := hk0.drew
 obtain ⟨Cq1, hCq1i, hCq1e⟩ := qcls fun w' => MemOk [⟨B1, 46, [iV px, iV py]⟩, ⟨B1 + 1, 3, [iV r]⟩] w' ∧ Keep Nn w w' ∧ True
 refine sxdraw (C := Cq1) (.leaf [(0, true), (1, true), (2, true)]) (by kernel_rfl) (by kernel_rfl) (by as_aux_lemma => kernel_rfl) rfl (by as_aux_lemma => kernel_rfl) (by kernel_rfl) (hCq1i _ ⟨hM.sub (.cons_cons _ (.cons_cons _ .slnil)), hk0, trivial⟩) ?_
 refine sxleaf ?_
 have hC := (hCq1i _ ⟨hM.sub (.cons_cons _ (.cons_cons _ .slnil)), hk0, trivial⟩)
 refine qd hf hC (fun w' h => (hCq1e w' h).1) [6] [{ os := [.ex (.iface 161 (.pointer (some (E 1))))] }, {}, {}] (nw := [(7, .val (.iface 161 (.pointer (some (E 1)))))]) (ob := [(∀ w', Cq1 w' → w'.cell? ⟨1, 0, none⟩ = some (.iface 161 (.pointer (some (E 1)))))]) (Ao (fun w' hc => by obtain ⟨hM, hk0, hO⟩ := hCq1e w' hc; exact (hk0.cell (hG.cell 1 (by decide)) (fun h => h)))) ?_
 clear hf; intro a hf
 clear hC
 show K4 _ _
 refine hK4 _ _ ?_
 refine wp_ret ?_
 refine qr (fn := Tryd.f20) hf hM [] (l := [.slice none 0 0, .iface 161 (.pointer (some (E 1)))]) (ob := []) An ?_
 show (.tuple #[.slice none 0 0, .iface 161 (.pointer (some (E 1)))] : Value) = .tuple #[.slice none 0 0, .iface 161 (.pointer (some (E 1)))] ∧ Keep Nn w w2.drew
 exact ⟨rfl, hk0⟩

set_option maxRecDepth 10000 in
set_option maxHeartbeats 1600000 in
theorem radius_no3 (E : Nat → Addr) (T : Nat) (px py r : Int) (w : World) (hn0 : (ofOk px py 0 0) = true) (hn1 : (decide ((r : Int) < 0)) = false) (hn2 : (decide ((r : Int) > 4194304)) = true) (hG : Errs [1, 3, 0] w 161 E) :
    Calls Tryd.prog 20 #[pV T 0, .agg #[iV px, iV py], iV r] w (Ret fun v w' => v = .tuple #[.slice none 0 0, .iface 161 (.pointer (some (E 1)))] ∧ Keep Nn w w') := by
 refine sxenter (n := 27) (args := [pV T 0, .agg #[iV px, iV py], iV r]) Tryd.func20 rfl rfl rfl fun a hf => ?_
 replace hf : Fr 27 [(0, eP T 0), (1, .val (.agg #[iV px, iV py])), (2, eI r)] a := hf
 have hM : MemOk [] w := MemOk.nil w
 have hk0 : Keep Nn w w := Keep.refl _ _
 refine wp_seq_k (fun K1 hK1 => ?_)
 refine wp_region_lit ?_
 refine q1 hf hM [0] [{ os := [.nw] }, { os := [.nw] }, {}, {}] (nw := fun B1 => [(7, .val (.nilIface)), (6, eS none 0 0), (5, eP (B1 + 1) 0), (4, eP B1 0)]) (M' := fun B1 => [⟨B1, 46, [iV px, iV py]⟩, ⟨B1 + 1, 3, [iV r]⟩]) (ob := fun B1 => []) (fun B1 => An) ?_
 clear hf hM; intro a w1 B1 hf hM hB hk
 have hbB1 : w.heap.size ≤ B1 := by have := hk0.size; omega
 have hk0 := hk0.then hk (by intro i _ h; cases h)
 clear hk hB
 refine wpList_nil ?_
 refine hK1 _ _ ?_
 refine wp_seq_k (fun K2 hK2 => ?_)
 refine wp_seq_k (fun K3 hK3 => ?_)
 refine wp_region_lit ?_
 refine q0 hf hM [7, 6, 5, 4, 0] [{ os := [.ld 0 0, .ld 0 1] }] (nw := [(9, .val (.agg #[iV px, iV py]))]) (ob := [Ad B1 0, Ad B1 1]) (Ac (ad _ _) (Ao (ad _ _))) ?_
 clear hf; intro a hf
 refine sxcall hf rfl rfl rfl rfl (g := 38) (vs := [.agg #[iV px, iV py]]) (ob := []) (by as_aux_lemma => kernel_rfl) An enters38 (place_any E px py w1  (hG.keep hk0 (fun _ h => h))) ?_
 clear hf; rintro _ w2 a ⟨rfl, hk⟩ hf
 have hM := hM.keepNn hk
 have hk0 := hk0.trans hk.nn
 clear hk
 refine q0 hf hM [7, 6, 5, 4, 0] [{}, {}] (nw := [(12, eB (!(ofOk px py 0 0)))]) An ?_
 clear hf; intro a hf
 have hf := hf.setb 12 ((congrArg Bool.not hn0).trans rfl : (!(ofOk px py 0 0) : Bool) = false)
 refine q0 hf hM [7, 6, 5, 4, 0] [{ os := [.ld 1 0] }, {}, {}, {}] (nw := [(16, eB (decide ((r : Int) < 0)))]) (ob := [false = false, Ad (B1 + 1) 0, false = false]) (Ac rfl (Ac (ad _ _) (Ao rfl))) ?_
 clear hf; intro a hf
 have hf := hf.setb 16 hn1
 refine q0 hf hM [7, 6, 5, 4, 0] [{ os := [.ld 1 0] }, {}, {}] (nw := [(19, eB (decide ((r : Int) > 4194304)))]) (ob := [false = false, Ad (B1 + 1) 0, false = false]) (Ac rfl (Ac (ad _ _) (Ao rfl))) ?_
 clear hf; intro a hf
 refine wpList_nil ?_
 refine hK3 _ _ ?_
 refine sxcond hf (b := (decide ((r : Int) > 4194304))) (by kernel_rfl) (fun _ => ?_) (fun h => absurd h (by rw [hn2]; simp))
 refine wp_seq_k (fun K4 hK4 => ?_)
 replace hM := hM.drew; replace hk0 := hk0.drew
 obtain ⟨Cq1, hCq1i, hCq1e⟩ := qcls fun w' => MemOk [⟨B1, 46, [iV px, iV py]⟩, ⟨B1 + 1, 3, [iV r]⟩] w' ∧ Keep Nn w w' ∧ True
 refine sxdraw (C := Cq1) (.leaf [(0, true), (1, true), (2, true)]) (by kernel_rfl) (by kernel_rfl) (by as_aux_lemma => kernel_rfl) rfl (by as_aux_lemma => kernel_rfl) (by kernel_rfl) (hCq1i _ ⟨hM.sub (.cons_cons _ (.cons_cons _ .slnil)), hk0, trivial⟩) ?_
 refine sxleaf ?_
 have hC := (hCq1i _ ⟨hM.sub (.cons_cons _ (.cons_cons _ .slnil)), hk0, trivial⟩)
 refine qd hf hC (fun w' h => (hCq1e w' h).1) [6] [{ os := [.ex (.iface 161 (.pointer (some (E 1))))] }, {}, {}] (nw := [(7, .val (.iface 161 (.pointer (some (E 1)))))]) (ob := [(∀ w', Cq1 w' → w'.cell? ⟨1, 0, none⟩ = some (.iface 161 (.pointer (some (E 1)))))]) (Ao (fun w' hc => by obtain ⟨hM, hk0, hO⟩ := hCq1e w' hc; exact (hk0.cell (hG.cell 1 (by decide)) (fun h => h)))) ?_
 clear hf; intro a hf
 clear hC
 show K4 _ _
 refine hK4 _ _ ?_
 refine wp_ret ?_
 refine qr (fn := Tryd.f20) hf hM [] (l := [.slice none 0 0, .iface 161 (.pointer (some (E 1)))]) (ob := []) An ?_
 show (.tuple #[.slice none 0 0, .iface 161 (.pointer (some (E 1)))] : Value) = .tuple #[.slice none 0 0, .iface 161 (.pointer (some (E 1)))] ∧ Keep Nn w w2.drew
 exact ⟨rfl, hk0⟩

set_option maxRecDepth 10000 in
set_option maxHeartbeats 1600000 in
theorem radius_ok (E : Nat → Addr) (base T : Nat) (Bl : List Nat) (bs : List (H2 × B4)) (px py r : Int) (w : World) (hn0 : (ofOk px py 0 0) = true) (hn1 : (decide ((r : Int) < 0)) = false) (hn2 : (decide ((r : Int) > 4194304)) = false) (hown : (oTree 72 68 T Bl bs).φ base w) (hbw : base ≤ w.heap.size) (hbn : bs.length ≤ 1000) (hG : Errs [1, 3, 0] w 161 E) :
    Calls Tryd.prog 20 #[pV T 0, .agg #[iV px, iV py], iV r] w (Ret fun v w' => ∃ a' c', v = .tuple #[.slice a' (ordS ltH (radL px py r bs)).length c', .nilIface] ∧ Keep Nn w w' ∧ World.ownsRow w' w.heap.size 39 2 (.slice a' (ordS ltH (radL px py r bs)).length c') (ordS ltH (radL px py r bs)).length (flat fH (ordS ltH (radL px py r bs)))) := by
 refine sxenter (n := 27) (args := [pV T 0, .agg #[iV px, iV py], iV r]) Tryd.func20 rfl rfl rfl fun a hf => ?_
 replace hf : Fr 27 [(0, eP T 0), (1, .val (.agg #[iV px, iV py])), (2, eI r)] a := hf
 have hM : MemOk [] w := MemOk.nil w
 have hk0 : Keep Nn w w := Keep.refl _ _
 have hrr : 0 ≤ r ∧ r ≤ 4194304 := ⟨by have := of_decide_eq_false hn1; omega, by have := of_decide_eq_false hn2; omega⟩
 have hre : reach px py = true := by have := of_decide_eq_true hn0; unfold reach; exact decide_eq_true (by omega)
 refine wp_seq_k (fun K1 hK1 => ?_)
 refine wp_region_lit ?_
 refine q1 hf hM [0] [{ os := [.nw] }, { os := [.nw] }, {}, {}] (nw := fun B1 => [(7, .val (.nilIface)), (6, eS none 0 0), (5, eP (B1 + 1) 0), (4, eP B1 0)]) (M' := fun B1 => [⟨B1, 46, [iV px, iV py]⟩, ⟨B1 + 1, 3, [iV r]⟩]) (ob := fun B1 => []) (fun B1 => An) ?_
 clear hf hM; intro a w1 B1 hf hM hB hk
 have hbB1 : w.heap.size ≤ B1 := by have := hk0.size; omega
 have hk0 := hk0.then hk (by intro i _ h; cases h)
 clear hk hB
 refine wpList_nil ?_
 refine hK1 _ _ ?_
 refine wp_seq_k (fun K2 hK2 => ?_)
 refine wp_seq_k (fun K3 hK3 => ?_)
 refine wp_region_lit ?_
 refine q0 hf hM [7, 6, 5, 4, 0] [{ os := [.ld 0 0, .ld 0 1] }] (nw := [(9, .val (.agg #[iV px, iV py]))]) (ob := [Ad B1 0, Ad B1 1]) (Ac (ad _ _) (Ao (ad _ _))) ?_
 clear hf; intro a hf
 refine sxcall hf rfl rfl rfl rfl (g := 38) (vs := [.agg #[iV px, iV py]]) (ob := []) (by as_aux_lemma => kernel_rfl) An enters38 (place_any E px py w1  (hG.keep hk0 (fun _ h => h))) ?_
 clear hf; rintro _ w2 a ⟨rfl, hk⟩ hf
 have hM := hM.keepNn hk
 have hk0 := hk0.trans hk.nn
 clear hk
 refine q0 hf hM [7, 6, 5, 4, 0] [{}, {}] (nw := [(12, eB (!(ofOk px py 0 0)))]) An ?_
 clear hf; intro a hf
 have hf := hf.setb 12 ((congrArg Bool.not hn0).trans rfl : (!(ofOk px py 0 0) : Bool) = false)
 refine q0 hf hM [7, 6, 5, 4, 0] [{ os := [.ld 1 0] }, {}, {}, {}] (nw := [(16, eB (decide ((r : Int) < 0)))]) (ob := [false = false, Ad (B1 + 1) 0, false = false]) (Ac rfl (Ac (ad _ _) (Ao rfl))) ?_
 clear hf; intro a hf
 have hf := hf.setb 16 hn1
 refine q0 hf hM [7, 6, 5, 4, 0] [{ os := [.ld 1 0] }, {}, {}] (nw := [(19, eB (decide ((r : Int) > 4194304)))]) (ob := [false = false, Ad (B1 + 1) 0, false = false]) (Ac rfl (Ac (ad _ _) (Ao rfl))) ?_
 clear hf; intro a hf
 refine wpList_nil ?_
 refine hK3 _ _ ?_
 refine sxcond hf (b := (decide ((r : Int) > 4194304))) (by kernel_rfl) (fun h => absurd h (by rw [hn2]; simp)) (fun _ => ?_)
 refine wp_skip ?_
 refine hK2 _ _ ?_
 refine wp_seq_k (fun K4 hK4 => ?_)
 refine wp_region_lit ?_
 refine q1 hf hM [5, 4, 0] [{ os := [.nw] }] (nw := fun B6 => [(8, eP B6 0)]) (M' := fun B6 => [⟨B1, 46, [iV px, iV py]⟩, ⟨B1 + 1, 3, [iV r]⟩, ⟨B6, 50, [.slice none 0 0]⟩]) (ob := fun B6 => []) (fun B6 => An) ?_
 clear hf hM; intro a w3 B6 hf hM hB hk
 have hbB6 : w.heap.size ≤ B6 := by have := hk0.size; omega
 have hk0 := hk0.thenNew hk (by simp [Mem.names] <;> omega)
 clear hk hB
 refine wpList_nil ?_
 refine hK4 _ _ ?_
 refine wp_seq_k (fun K5 hK5 => ?_)
 refine wp_region_lit ?_
 refine q0 hf hM [8] [{}, {}, {}] (nw := [(23, .val (.func (.func 41) #[] #[pV B1 0, pV (B1 + 1) 0, pV B6 0])), (22, .val (.func (.func 39) #[] #[pV B1 0, pV (B1 + 1) 0])), (21, eP T 0)]) An ?_
 clear hf; intro a hf
 have hnd := hM.nd
 simp only [Mem.names, List.map_cons, List.map_nil, List.nodup_cons, List.mem_cons, List.not_mem_nil, or_false, not_or, List.nodup_nil, not_false_eq_true, and_true] at hnd
 have hTr := (oTree 72 68 T Bl bs).stab hown hk0 (fun _ _ h => h)
 have hok : ∀ x ∈ bs, okB x.2 = true := by obtain ⟨_, _, _, _, _, hti, _⟩ := hown; exact hti.ok
 have hhd : (bs.map (·.1)).Nodup := by obtain ⟨_, _, _, _, _, hti, _⟩ := hown; exact hti.hd
 have hsz0 := hk0.size
 have hcP0 : w3.cell? ⟨B1, 0, none⟩ = some (.int .i64 px) := ((cell?_blk (hM.at_ _ (List.Mem.head _)) 0).trans rfl)
 have hlP0 : B1 < w3.heap.size := hM.lt (by simp [Mem.names])
 have hcP1 : w3.cell? ⟨B1, 1, none⟩ = some (.int .i64 py) := ((cell?_blk (hM.at_ _ (List.Mem.head _)) 1).trans rfl)
 have hlP1 : B1 < w3.heap.size := hM.lt (by simp [Mem.names])
 have hcR0 : w3.cell? ⟨B1 + 1, 0, none⟩ = some (.int .i64 r) := ((cell?_blk (hM.at_ _ (List.Mem.tail _ (List.Mem.head _))) 0).trans rfl)
 have hlR0 : B1 + 1 < w3.heap.size := hM.lt (by simp [Mem.names])
 have hap : ∀ i ∈ Bl, ¬ i ∈ ((fun (sg : Option Addr × Nat) (vis blk : List (H2 × B4)) => oVS 50 39 2 fH B6 sg (radL px py r vis) (∀ x ∈ blk, nearB px py r x = false)) (none, 0) [] []).B := fun i hi hm => by
   have h1 := ((oTree 72 68 T Bl bs).lt' hown i hi).2
   obtain rfl : i = B6 := by simpa [oVS, Value.ownBlock] using hm
   omega
 have e0 : (radL px py r []) = [] := by simp [radL, ordS]
 have hRφ : ((fun (sg : Option Addr × Nat) (vis blk : List (H2 × B4)) => oVS 50 39 2 fH B6 sg (radL px py r vis) (∀ x ∈ blk, nearB px py r x = false)) (none, 0) [] []).φ base w3 := by
   refine ⟨by omega, ?_, ?_, by simp⟩
   · rw [e0]; exact hM.at_ _ (List.Mem.tail _ (List.Mem.tail _ (List.Mem.head _)))
   · rw [e0]; exact World.ownsRow_nil _ _ _ _
 have hRd : ((fun (sg : Option Addr × Nat) (vis blk : List (H2 × B4)) => oVS 50 39 2 fH B6 sg (radL px py r vis) (∀ x ∈ blk, nearB px py r x = false)) (none, 0) [] []).B.Nodup := by simp [oVS, Value.ownBlock]
 have hB0 : ∀ {i : Nat}, i ∈ ((fun (sg : Option Addr × Nat) (vis blk : List (H2 × B4)) => oVS 50 39 2 fH B6 sg (radL px py r vis) (∀ x ∈ blk, nearB px py r x = false)) (none, 0) [] []).B → i = B6 := fun hm => by simpa [oVS, Value.ownBlock] using hm
 refine sxcall hf rfl rfl rfl rfl (g := 16) (vs := [pV T 0, .func (.func 39) #[] #[pV B1 0, pV (B1 + 1) 0], .func (.func 41) #[] #[pV B1 0, pV (B1 + 1) 0, pV B6 0]]) (ob := []) (by as_aux_lemma => kernel_rfl) An enters16 (twalkS base T Bl bs (fun _ => True) (fun (sg : Option Addr × Nat) (vis blk : List (H2 × B4)) => oVS 50 39 2 fH B6 sg (radL px py r vis) (∀ x ∈ blk, nearB px py r x = false)) (none, 0) 39 41 [pV B1 0, pV (B1 + 1) 0] [pV B1 0, pV (B1 + 1) 0, pV B6 0] w3 hTr hap hRφ hRd (by omega) (fun _ _ _ _ => rfl) enters39 enters41
   (fun sg vis blk cc W hcc hr hkW hφ hd hBq => ?_) (fun sg vis blk x v W hx hy hr hkW hφ hd hBq => ?_)) ?_
 · refine calls_mono (rad_enter E B1 (B1 + 1) px py r cc.d cc.x cc.y W hcc hre (hkW.cell hcP0 (fun hm => by have h0 : B1 = B6 := hB0 hm; omega)) (hkW.cell hcP1 (fun hm => by have h0 : B1 = B6 := hB0 hm; omega)) (hkW.cell hcR0 (fun hm => by have h0 : (B1 + 1) = B6 := hB0 hm; omega)) hrr) fun v W2 hv => ⟨_, hv.1, hv.2, fun _ => trivial, fun hb => ?_⟩
   have h2 := ((fun (sg : Option Addr × Nat) (vis blk : List (H2 × B4)) => oVS 50 39 2 fH B6 sg (radL px py r vis) (∀ x ∈ blk, nearB px py r x = false)) sg vis blk).stab hφ hv.2 (fun _ _ h => h)
   exact ⟨h2.1, h2.2.1, h2.2.2.1, fun x hx => (List.mem_append.1 hx).elim (h2.2.2.2 x) (rad_bad hok hb x)⟩
 · obtain ⟨hMq, hOq⟩ := openVS hφ hd
   have hbx := hok _ hx
   unfold okB at hbx
   rw [Bool.and_eq_true] at hbx
   have hvl : vis.length ≤ bs.length := by obtain ⟨rest, hr⟩ := hr; have := hr.length_eq; simp only [List.length_append] at this; omega
   have hrl := radL_len px py r vis
   have hap2 : ∀ {j : Nat}, j < w3.heap.size → j ≠ B6 → ¬ j ∈ B6 :: (Value.ownBlock (.slice sg.1 (radL px py r vis).length sg.2)).toList := fun h1 h2 hm => (hBq _ hm).elim (fun h => h2 (hB0 h)) (fun h => by omega)
   refine calls_mono (rad_each E base B6 B1 (B1 + 1) px py r sg.1 (radL px py r vis) sg.2 x.i x.g v.x0 v.y0 v.x1 v.y1 W hbx.1 hre hMq hOq (by omega) (hkW.cell hcP0 (fun hm => by have h0 : B1 = B6 := hB0 hm; omega)) (hkW.cell hcP1 (fun hm => by have h0 : B1 = B6 := hB0 hm; omega)) (hkW.cell hcR0 (fun hm => by have h0 : (B1 + 1) = B6 := hB0 hm; omega)) hrr (hap2 (by omega) (by omega)) (hap2 (by omega) (by omega)) (by have := hkW.size; omega)) fun u W2 hu => ?_
   obtain ⟨hu1, a2, c2, hM2, hO2, hk2, hB2⟩ := hu
   rw [show (⟨x.i, x.g⟩ : H2) = x from rfl, ← radL_snoc (vis := vis)] at hM2 hO2 hB2
   have hs := shutVS hM2 hO2 hφ.1 hφ.2.2.2
   refine ⟨hu1, (a2, c2), hs.1, hk2, fun i hi => ?_, hs.2⟩
   rcases List.mem_cons.1 hi with rfl | hi
   · exact .inl (List.mem_cons_self ..)
   · exact (hB2 i (mem_ob.1 hi)).imp (fun h => List.mem_cons_of_mem _ (mem_ob.2 h)) id
 · clear hf; rintro _ w4 a ⟨rfl, sg, vis, blk, hx, hpv, hB1, hd1, hk⟩ hf
   have hM2 : MemOk [⟨B1, 46, [iV px, iV py]⟩, ⟨B1 + 1, 3, [iV r]⟩, ⟨B6, 50, [.slice sg.1 (radL px py r vis).length sg.2]⟩] w4 := hM.turned hk rfl (by
     intro b hb
     simp only [List.mem_cons, List.not_mem_nil, or_false] at hb
     rcases hb with rfl | rfl | rfl
     · exact .inr ⟨by simp, fun hm => by have h0 : B1 = B6 := hB0 hm; omega⟩
     · exact .inr ⟨by simp, fun hm => by have h0 : B1 + 1 = B6 := hB0 hm; omega⟩
     · exact .inl hx.2.1)
   have hOx : w4.ownsRow w.heap.size 39 2 (.slice sg.1 (radL px py r vis).length sg.2) (radL px py r vis).length (flat fH (radL px py r vis)) := own_raise hx.2.2.1 (fun k hk2 => by
     rcases hB1 k (List.mem_cons_of_mem _ (mem_ob.2 hk2)) with h | h
     · have := hB0 h; omega
     · omega)
   have hO : OwnOk w.heap.size [⟨B1, 46, [iV px, iV py]⟩, ⟨B1 + 1, 3, [iV r]⟩, ⟨B6, 50, [.slice sg.1 (radL px py r vis).length sg.2]⟩] [oS 39 2 (.slice sg.1 (radL px py r vis).length sg.2) (radL px py r vis).length (flat fH (radL px py r vis))] w4 := ⟨fun o ho => by obtain rfl := List.mem_singleton.1 ho; exact hOx, by
     have hd1 : (B6 :: (Value.ownBlock (.slice sg.1 (radL px py r vis).length sg.2)).toList).Nodup := hd1
     have hq : ∀ i ∈ (Value.ownBlock (.slice sg.1 (radL px py r vis).length sg.2)).toList, i ∈ ((fun (sg : Option Addr × Nat) (vis blk : List (H2 × B4)) => oVS 50 39 2 fH B6 sg (radL px py r vis) (∀ x ∈ blk, nearB px py r x = false)) (none, 0) [] []).B ∨ w3.heap.size ≤ i := fun i hi => hB1 i (List.mem_cons_of_mem _ hi)
     refine List.nodup_append.2 ⟨hM2.nd, by simpa [oS] using (List.nodup_cons.1 hd1).2, fun x hx y hy e => ?_⟩
     subst e
     have hy2 : x ∈ (Value.ownBlock (.slice sg.1 (radL px py r vis).length sg.2)).toList := by simpa [oS] using hy
     rcases hq x hy2 with h | h
     · have := hB0 h; subst this; exact (List.nodup_cons.1 hd1).1 hy2
     · have := hM.lt hx; omega⟩
   have hk0 := hk0.then hk (by intro i hi h; have := hB0 h; omega)
   have hvl : vis.length ≤ bs.length := by have := hpv.length_eq; simp only [List.length_append] at this; omega
   have hψ := hx.2.2.2; clear hM; have hM := hM2; clear hM2 hk hx hB1 hd1 hRφ hap hOx
   have hrl := radL_len px py r vis
   refine wpList_nil ?_
   refine hK5 _ _ ?_
   refine wp_seq_k (fun K6 hK6 => ?_)
   refine wp_region_lit ?_
   refine q0 hf hM [] [{ os := [.ld 2 0] }] (nw := [(25, eS sg.1 (radL px py r vis).length sg.2)]) (ob := [Ad B6 0]) (Ao (ad _ _)) ?_
   clear hf; intro a hf
   refine sxcall hf rfl rfl rfl rfl (g := 43) (vs := [.slice sg.1 (radL px py r vis).length sg.2]) (ob := []) (by as_aux_lemma => kernel_rfl) An enters43 (oHandles sg.1 (radL px py r vis) sg.2 w4  (own_arr (hO.own _ (List.Mem.head _))) (by first | omega | (simp; omega) | (simp; done) | exact Nat.le_trans (byKinds_len _ _) (by omega) | decide)) ?_
   clear hf; rintro _ w5 a ⟨a'1, c'1, rfl, hk, hx1⟩ hf
   have hO := hO.more hM hk (by have := hk0.size; omega) hx1
   replace hO : OwnOk w.heap.size [⟨B1, 46, [iV px, iV py]⟩, ⟨B1 + 1, 3, [iV r]⟩, ⟨B6, 50, [.slice sg.1 (radL px py r vis).length sg.2]⟩] [oS 39 2 (.slice a'1 ((ordS ltH (radL px py r vis)).length) c'1) ((ordS ltH (radL px py r vis)).length) (flat fH (ordS ltH (radL px py r vis))), oS 39 2 (.slice sg.1 (radL px py r vis).length sg.2) (radL px py r vis).length (flat fH (radL px py r vis))] _ := hO
   have hM := hM.keepNn hk
   have hk0 := hk0.trans hk.nn
   clear hk
   refine q0 hf hM [] [{}, {}] (nw := [(7, .val (.nilIface)), (6, eS a'1 ((ordS ltH (radL px py r vis)).length) c'1)]) An ?_
   clear hf; intro a hf
   refine wpList_nil ?_
   refine hK6 _ _ ?_
   refine wp_ret ?_
   refine qr (fn := Tryd.f20) hf hM [] (l := [.slice a'1 ((ordS ltH (radL px py r vis)).length) c'1, .nilIface]) (ob := []) An ?_
   show ∃ a' c', (.tuple #[.slice a'1 ((ordS ltH (radL px py r vis)).length) c'1, .nilIface] : Value) = .tuple #[.slice a' (ordS ltH (radL px py r bs)).length c', .nilIface] ∧ Keep Nn w w5 ∧ World.ownsRow w5 w.heap.size 39 2 (.slice a' (ordS ltH (radL px py r bs)).length c') (ordS ltH (radL px py r bs)).length (flat fH (ordS ltH (radL px py r bs)))
   rw [radL_all hpv hψ] at hO ⊢
   exact ⟨_, _, rfl, hk0, hO.own _ (List.Mem.head _)⟩
end Go.Proofs.YthofalkkdpjdlaaDoor
