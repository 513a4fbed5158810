/- layer 12: the law of walks, its parts -/
import Derived.Test.YthofalkkdpjdlaaDoorR7
import Derived.Test.YthofalkkdpjdlaaDoorXpC
namespace Go.Proofs.YthofalkkdpjdlaaDoor
open Go.Px
set_option linter.unusedVariables false
set_option linter.unusedSimpArgs false

set_option maxRecDepth 10000 in
set_option maxHeartbeats 1600000 in
theorem alive_any (E : Nat → Addr) (w : World) (hG : Errs [1, 3, 0] w 161 E) :
    Calls Tryd.prog 10 #[] w (Ret fun v w' => v = .bool true ∧ Keep Nn w w') := by
 refine sxenter (n := 15) (args := []) Tryd.func10 rfl rfl rfl fun a hf => ?_
 replace hf : Fr 15 [] a := hf
 have hM : MemOk [] w := MemOk.nil w
 have hk0 : Keep Nn w w := Keep.refl _ _
 have h1 : boxRight 0 0 10 10 = true := by decide
 have h2 : inWorld 0 0 10 10 = true := by decide
 refine wp_seq_k (fun K1 hK1 => ?_)
 refine wp_region_lit ?_
 refine q0 hf hM [] [{}] (nw := []) An ?_
 clear hf; intro a hf
 refine wpList_nil ?_
 refine hK1 _ _ ?_
 refine wp_seq_k (fun K2 hK2 => ?_)
 refine wp_region_lit ?_
 refine q0 hf hM [] [{ sp := true }] (nw := [(4, .val (.agg #[iV 0, iV 0, iV 10, iV 10]))]) An ?_
 clear hf; intro a hf
 refine sxcall hf rfl rfl rfl rfl (g := 13) (vs := [.agg #[iV 0, iV 0, iV 10, iV 10]]) (ob := []) (by as_aux_lemma => kernel_rfl) An enters13 (of_ok E 0 0 10 10 w h1 h2 (hG.keep hk0 (fun _ h => h))) ?_
 clear hf; rintro _ w1 a ⟨rfl, hk⟩ hf
 have hM := hM.keepNn hk
 have hk0 := hk0.trans hk.nn
 clear hk
 refine q1 hf hM [] [{}, {}, {}, { os := [.nw] }, { os := [.st 0 0, .st 0 1, .st 0 2] }, {}] (nw := fun B3 => [(2, .val (.nilIface)), (1, eP B3 0)]) (M' := fun B3 => [⟨B3, 29, [iV (depthOf (bsize 0 0 10 10)), iV (colOf ((0 + 10) / 2) (depthOf (bsize 0 0 10 10))), iV (colOf ((0 + 10) / 2) (depthOf (bsize 0 0 10 10)))]⟩]) (ob := fun B3 => [Ad B3 0, Ad B3 1, Ad B3 2]) (fun B3 => (Ac (ad _ _) (Ac (ad _ _) (Ao (ad _ _))))) ?_
 clear hf hM; intro a w2 B3 hf hM hB hk
 have hbB3 : w.heap.size ≤ B3 := by have := hk0.size; omega
 have hk0 := hk0.then hk (by intro i _ h; cases h)
 clear hk hB
 refine wpList_nil ?_
 refine hK2 _ _ ?_
 refine wp_seq_k (fun K3 hK3 => ?_)
 refine wp_region_lit ?_
 refine q0 hf hM [] [{}, {}, {}, { os := [.ld 0 0, .ld 0 1, .ld 0 2] }, { sp := true }, { sp := true, hint := some (bV ((((depthOf (bsize 0 0 10 10)) : Int) == 8) && ((((colOf ((0 + 10) / 2) (depthOf (bsize 0 0 10 10))) : Int) == 128) && (((colOf ((0 + 10) / 2) (depthOf (bsize 0 0 10 10))) : Int) == 128)))) }, {}, {}] (nw := [(0, eB ((((depthOf (bsize 0 0 10 10)) : Int) == 8) && ((((colOf ((0 + 10) / 2) (depthOf (bsize 0 0 10 10))) : Int) == 128) && (((colOf ((0 + 10) / 2) (depthOf (bsize 0 0 10 10))) : Int) == 128))))]) (ob := [true = true, Ad B3 0, Ad B3 1, Ad B3 2, true = true, true = true, (bV ((((depthOf (bsize 0 0 10 10)) : Int) == 8) && ((((colOf ((0 + 10) / 2) (depthOf (bsize 0 0 10 10))) : Int) == 128) && ((((colOf ((0 + 10) / 2) (depthOf (bsize 0 0 10 10))) : Int) == 128) && true))) : Value) = (bV ((((depthOf (bsize 0 0 10 10)) : Int) == 8) && ((((colOf ((0 + 10) / 2) (depthOf (bsize 0 0 10 10))) : Int) == 128) && (((colOf ((0 + 10) / 2) (depthOf (bsize 0 0 10 10))) : Int) == 128))) : Value)]) (Ac rfl (Ac (ad _ _) (Ac (ad _ _) (Ac (ad _ _) (Ac rfl (Ac rfl (Ao (by simp)))))))) ?_
 clear hf; intro a hf
 refine wpList_nil ?_
 refine hK3 _ _ ?_
 refine wp_ret ?_
 refine qr (fn := Tryd.f10) hf hM [] (l := [bV ((((depthOf (bsize 0 0 10 10)) : Int) == 8) && ((((colOf ((0 + 10) / 2) (depthOf (bsize 0 0 10 10))) : Int) == 128) && (((colOf ((0 + 10) / 2) (depthOf (bsize 0 0 10 10))) : Int) == 128)))]) (ob := []) An ?_
 show (bV ((((depthOf (bsize 0 0 10 10)) : Int) == 8) && ((((colOf ((0 + 10) / 2) (depthOf (bsize 0 0 10 10))) : Int) == 128) && (((colOf ((0 + 10) / 2) (depthOf (bsize 0 0 10 10))) : Int) == 128))) : Value) = .bool true ∧ Keep Nn w w2
 exact ⟨congrArg Value.bool (by decide), hk0⟩

theorem up_any (d x y : Int) (w : World) (hn0 : cellRight d x y = true) :
    Calls Tryd.prog 15 #[.agg #[iV d, iV x, iV y]] w (Ret fun v w' => v = .tuple #[.agg #[iV ((upZ (⟨d, x, y⟩ : C3)).d), iV ((upZ (⟨d, x, y⟩ : C3)).x), iV ((upZ (⟨d, x, y⟩ : C3)).y)], .bool (!(d == 0))] ∧ Keep Nn w w') := by
  rcases Bool.eq_false_or_eq_true (d == 0) with h | h
  · refine calls_mono (up_zero d x y w h) fun v w' hv => ⟨hv.1.trans ?_, hv.2⟩
    have h0 : d = 0 := by simpa using h
    simp [upZ, h0]
  · refine calls_mono (up_ok d x y w hn0 h) fun v w' hv => ⟨hv.1.trans ?_, hv.2⟩
    have h0 : d ≠ 0 := by simpa using h
    simp [upZ, h0, upC]

theorem of_cell (E : Nat → Addr) (x0 y0 x1 y1 : Int) (w : World) (hn0 : boxRight x0 y0 x1 y1 = true) (hn1 : inWorld x0 y0 x1 y1 = true) (hG : Errs [1, 3, 0] w 161 E) :
    Calls Tryd.prog 13 #[.agg #[iV x0, iV y0, iV x1, iV y1]] w (Ret fun v w' => v = .tuple #[.agg #[iV ((cellB (⟨x0, y0, x1, y1⟩ : B4)).d), iV ((cellB (⟨x0, y0, x1, y1⟩ : B4)).x), iV ((cellB (⟨x0, y0, x1, y1⟩ : B4)).y)], .nilIface] ∧ Keep Nn w w') := of_ok E x0 y0 x1 y1 w hn0 hn1 hG

set_option maxRecDepth 10000 in
set_option maxHeartbeats 1600000 in
theorem enters_any (D Lb : Nat) (deep : Int) (left : Bool) (d x y : Int) (w : World) (hn0 : (cellRight d x y) = true) (hD : w.cell? ⟨D, 0, none⟩ = some (.int .i64 deep)) (hL : w.cell? ⟨Lb, 0, none⟩ = some (.bool left)) :
    Calls Tryd.prog 12 #[.agg #[iV d, iV x, iV y], pV D 0, pV Lb 0] w (Ret fun v w' => v = .bool (entW deep left d x) ∧ Keep Nn w w') := by
 refine sxenter (n := 22) (args := [.agg #[iV d, iV x, iV y], pV D 0, pV Lb 0]) Tryd.func12 rfl rfl rfl fun a hf => ?_
 replace hf : Fr 22 [(0, .val (.agg #[iV d, iV x, iV y])), (1, eP D 0), (2, eP Lb 0)] a := hf
 have hM : MemOk [] w := MemOk.nil w
 have hk0 : Keep Nn w w := Keep.refl _ _
 have hc := cellRight_iff.1 hn0
 have hp := pow_bd (d := d) (by omega)
 refine wp_seq_k (fun K1 hK1 => ?_)
 refine wp_region_lit ?_
 refine q1 hf hM [1, 2] [{ os := [.nw] }, {}] (nw := fun B1 => [(4, eB false), (3, eP B1 0)]) (M' := fun B1 => [⟨B1, 29, [iV d, iV x, iV y]⟩]) (ob := fun B1 => []) (fun B1 => An) ?_
 clear hf hM; intro a w1 B1 hf hM hB hk
 have hbB1 : w.heap.size ≤ B1 := by have := hk0.size; omega
 have hk0 := hk0.then hk (by intro i _ h; cases h)
 clear hk hB
 refine wpList_nil ?_
 refine hK1 _ _ ?_
 refine wp_seq_k (fun K2 hK2 => ?_)
 replace hM := hM.drew; replace hk0 := hk0.drew
 obtain ⟨Cq1, hCq1i, hCq1e⟩ := qcls fun w' => MemOk [⟨B1, 29, [iV d, iV x, iV y]⟩] w' ∧ Keep Nn w w' ∧ True
 refine sxdraw (C := Cq1) (.leaf [(0, true), (1, true), (2, true), (3, true), (4, true), (5, true), (6, true), (7, true), (8, true), (9, true), (10, true), (11, true), (12, true), (13, true), (14, true), (15, true), (16, true), (17, true)]) (by kernel_rfl) (by kernel_rfl) (by as_aux_lemma => kernel_rfl) rfl (by as_aux_lemma => kernel_rfl) (by kernel_rfl) (hCq1i _ ⟨hM.sub (.cons_cons _ .slnil), hk0, trivial⟩) ?_
 refine sxleaf ?_
 have hC := (hCq1i _ ⟨hM.sub (.cons_cons _ .slnil), hk0, trivial⟩)
 refine qd hf hC (fun w' h => (hCq1e w' h).1) [4, 3, 2] [{}, { os := [.ld 0 0] }, { os := [.ex (iV deep)] }, {}, {}] (nw := [(9, eB (decide ((d : Int) ≤ deep)))]) (ob := [Ad B1 0, (∀ w', Cq1 w' → w'.cell? ⟨D, 0, none⟩ = some (iV deep))]) (Ac (ad _ _) (Ao (fun w' hc => by obtain ⟨hM, hk0, hO⟩ := hCq1e w' hc; exact (hk0.cell hD (fun h => h))))) ?_
 clear hf; intro a hf
 rcases Bool.eq_false_or_eq_true (decide ((d : Int) ≤ deep)) with hg1r | hg1r
 · have hg1 := (nT hg1r)
   have hf := hf.setb 9 hg1r
   refine qd hf hC (fun w' h => (hCq1e w' h).1) [9, 4, 3] [{ os := [.ex (bV left)] }, {}, {}] (nw := [(12, eB (!left))]) (ob := [true = true, (∀ w', Cq1 w' → w'.cell? ⟨Lb, 0, none⟩ = some (bV left)), true = true, true = true]) (Ac rfl (Ac (fun w' hc => by obtain ⟨hM, hk0, hO⟩ := hCq1e w' hc; exact (hk0.cell hL (fun h => h))) (Ac rfl (Ao rfl)))) ?_
   clear hf; intro a hf
   rcases Bool.eq_false_or_eq_true (!left) with hg2r | hg2r
   · have hg2 := hg2r
     try simp only [Bool.or_eq_true, Bool.and_eq_true, Bool.not_eq_true', Bool.not_eq_false', Bool.or_eq_false_iff, Bool.and_eq_false_iff, decide_eq_true_eq, decide_eq_false_iff_not, beq_iff_eq, bne_iff_ne, beq_eq_false_iff_ne, bne_eq_false_iff_eq, Bool.and_true, Bool.true_and, ne_eq] at hg2
     have hf := hf.setb 12 hg2r
     refine qd hf hC (fun w' h => (hCq1e w' h).1) [] [{ g := .off }, { g := .off }, { g := .off }, { g := .off }, { g := .off }, { g := .off }, { g := .off }, {}, {}, {}] (nw := [(4, eB true)]) (ob := [true = !false, true = !false, true = !false, true = !false, true = !false, true = !false, true = !false, true = true]) (Ac rfl (Ac rfl (Ac rfl (Ac rfl (Ac rfl (Ac rfl (Ac rfl (Ao rfl)))))))) ?_
     clear hf; intro a hf
     clear hC
     show K2 _ _
     refine hK2 _ _ ?_
     refine wp_ret ?_
     refine qr (fn := Tryd.f12) hf hM [] (l := [bV true]) (ob := []) An ?_
     show (bV true : Value) = .bool (entW deep left d x) ∧ Keep Nn w w1.drew
     refine ⟨congrArg Value.bool ?_, hk0⟩
     unfold entW
     first | rfl | (cases left <;> simp_all <;> omega)
   · have hg2 := hg2r
     try simp only [Bool.or_eq_true, Bool.and_eq_true, Bool.not_eq_true', Bool.not_eq_false', Bool.or_eq_false_iff, Bool.and_eq_false_iff, decide_eq_true_eq, decide_eq_false_iff_not, beq_iff_eq, bne_iff_ne, beq_eq_false_iff_ne, bne_eq_false_iff_eq, Bool.and_true, Bool.true_and, ne_eq] at hg2
     have hf := hf.setb 12 hg2r
     refine qd hf hC (fun w' h => (hCq1e w' h).1) [] [{}, { os := [.ld 0 1] }, { hint := some (iV (x * 2)) }, {}, { os := [.ld 0 0] }, { sp := true, hint := some (iV (2 ^ d.toNat)) }, {}, {}, {}, {}] (nw := [(4, eB (decide (((x * 2) : Int) ≤ (2 ^ d.toNat))))]) (ob := [false = false, false = false, Ad B1 1, false = false, (iV (IntKind.i64.wrap (x * 2)) : Value) = (iV (x * 2) : Value), false = false, false = false, Ad B1 0, false = false, 0 ≤ (d : Int), (iV (IntKind.i64.wrap (1 * 2 ^ (min (d : Int).toNat IntKind.i64.bits))) : Value) = (iV (2 ^ d.toNat) : Value), false = false, true = true]) (Ac rfl (Ac rfl (Ac (ad _ _) (Ac rfl (Ac (wr (by omega)) (Ac rfl (Ac rfl (Ac (ad _ _) (Ac rfl (Ac (by omega) (Ac (shl_one (by omega)) (Ac rfl (Ao rfl))))))))))))) ?_
     clear hf; intro a hf
     clear hC
     show K2 _ _
     refine hK2 _ _ ?_
     refine wp_ret ?_
     refine qr (fn := Tryd.f12) hf hM [] (l := [bV (decide (((x * 2) : Int) ≤ (2 ^ d.toNat)))]) (ob := []) An ?_
     show (bV (decide (((x * 2) : Int) ≤ (2 ^ d.toNat))) : Value) = .bool (entW deep left d x) ∧ Keep Nn w w1.drew
     refine ⟨congrArg Value.bool ?_, hk0⟩
     unfold entW
     first | rfl | (cases left <;> simp_all <;> omega)
 · have hg1 := (nU hg1r)
   have hf := hf.setb 9 hg1r
   refine qd hf hC (fun w' h => (hCq1e w' h).1) [4] [{ g := .off }, { g := .off }, { g := .off }, { g := .off }, { g := .off }, { g := .off }, { g := .off }, { g := .off }, { g := .off }, { g := .off }, { g := .off }, {}, {}] (nw := []) (ob := [false = !true, false = !true, false = !true, false = !true]) (Ac rfl (Ac rfl (Ac rfl (Ao rfl)))) ?_
   clear hf; intro a hf
   clear hC
   show K2 _ _
   refine hK2 _ _ ?_
   refine wp_ret ?_
   refine qr (fn := Tryd.f12) hf hM [] (l := [bV false]) (ob := []) An ?_
   show (bV false : Value) = .bool (entW deep left d x) ∧ Keep Nn w w1.drew
   refine ⟨congrArg Value.bool ?_, hk0⟩
   unfold entW
   first | rfl | (cases left <;> simp_all <;> omega)

set_option maxRecDepth 10000 in
set_option maxHeartbeats 1600000 in
theorem met_any (base mB kB wm wv vb : Nat) (kk : Int) (Lm : List (H2 × Bool)) (av : Option Addr) (l : List B4) (c : Nat) (hi hg : Int) (x0 y0 x1 y1 : Int) (w : World) (hM0 : MemOk [⟨mB, 3, [.int .i64 kk]⟩, ⟨kB, 4, [.bool true]⟩] w) (hO0 : OwnOk base [⟨mB, 3, [.int .i64 kk]⟩, ⟨kB, 4, [.bool true]⟩] [oM wm vH vT Lm] w) (hwv : w.cell? ⟨wv, 0, none⟩ = some (.map (some wm))) (hnw : ¬ wv ∈ [mB, kB, wm]) (hbv : w.cell? ⟨vb, 0, none⟩ = some (.slice av l.length c)) (hnb : ¬ vb ∈ [mB, kB, wm]) (hav : Arr w 4 av l.length c (flat fB4 l)) (hna : ∀ A, av = some A → ¬ A.block ∈ [mB, kB, wm]) (hbw : base ≤ w.heap.size) (hkk : 0 ≤ kk ∧ kk ≤ 1000) (hw1 : (getK Lm (⟨hi, hg⟩ : H2)).getD false = true) (hil : 0 ≤ hi ∧ hi < (l.length : Int)) (hv1 : l.getD hi.toNat ⟨0, 0, 0, 0⟩ = (⟨x0, y0, x1, y1⟩ : B4)) :
    Calls Tryd.prog 17 #[.agg #[iV hi, iV hg], .agg #[iV x0, iV y0, iV x1, iV y1], pV mB 0, pV kB 0, pV wv 0, pV vb 0] w (Ret fun v w' => v = .tuple #[] ∧ MemOk [⟨mB, 3, [.int .i64 (kk + 1)]⟩, ⟨kB, 4, [.bool true]⟩] w' ∧ OwnOk base [⟨mB, 3, [.int .i64 (kk + 1)]⟩, ⟨kB, 4, [.bool true]⟩] [oM wm vH vT (delK Lm (⟨hi, hg⟩ : H2))] w' ∧ Keep (fun i => i ∈ [mB, kB, wm]) w w') := by
 refine sxenter (n := 34) (args := [.agg #[iV hi, iV hg], .agg #[iV x0, iV y0, iV x1, iV y1], pV mB 0, pV kB 0, pV wv 0, pV vb 0]) Tryd.func17 rfl rfl rfl fun a hf => ?_
 replace hf : Fr 34 [(0, .val (.agg #[iV hi, iV hg])), (1, .val (.agg #[iV x0, iV y0, iV x1, iV y1])), (2, eP mB 0), (3, eP kB 0), (4, eP wv 0), (5, eP vb 0)] a := hf
 have hM : MemOk [⟨mB, 3, [iV kk]⟩, ⟨kB, 4, [bV true]⟩] w := hM0
 have hk0 : Keep (fun i => i ∈ [mB, kB, wm]) w w := Keep.refl _ _
 have hO : OwnOk base [⟨mB, 3, [iV kk]⟩, ⟨kB, 4, [bV true]⟩] [oM wm vH vT Lm] w := hO0
 refine wp_seq_k (fun K1 hK1 => ?_)
 refine wp_region_lit ?_
 refine q1 hf hM [2, 3, 4, 5] [{ os := [.nw] }, { os := [.nw] }] (nw := fun B1 => [(7, eP (B1 + 1) 0), (6, eP B1 0)]) (M' := fun B1 => [⟨mB, 3, [iV kk]⟩, ⟨kB, 4, [bV true]⟩, ⟨B1, 39, [iV hi, iV hg]⟩, ⟨B1 + 1, 32, [iV x0, iV y0, iV x1, iV y1]⟩]) (ob := fun B1 => []) (fun B1 => An) ?_
 clear hf hM; intro a w1 B1 hf hM hB hk
 have hbB1 : w.heap.size ≤ B1 := by have := hk0.size; omega
 have hk0 := hk0.then hk (by intro i hi h; simp only [Is, Mem.names, List.map_cons, List.map_nil, List.mem_cons, List.not_mem_nil, or_false] at h ⊢; omega)
 have hO := hO.step hM hk (by intro i h; simp only [Mem.names, List.map_cons, List.map_nil, List.mem_cons, List.not_mem_nil, or_false, List.map_append, List.cons_append, List.nil_append] at h ⊢; omega)
 clear hk hB
 refine wpList_nil ?_
 refine hK1 _ _ ?_
 refine wp_seq_k (fun K2 hK2 => ?_)
 refine wp_region_lit ?_
 refine q1 hf hM [7, 6, 3, 4, 5] [{ os := [.ld 0 0] }, { hint := some (iV (kk + 1)) }, { os := [.st 0 0] }] (nw := fun B2 => []) (M' := fun B2 => [⟨mB, 3, [iV (kk + 1)]⟩, ⟨kB, 4, [bV true]⟩, ⟨B1, 39, [iV hi, iV hg]⟩, ⟨B1 + 1, 32, [iV x0, iV y0, iV x1, iV y1]⟩]) (ob := fun B2 => [Ad mB 0, (iV (IntKind.i64.wrap (kk + 1)) : Value) = (iV (kk + 1) : Value), Ad mB 0]) (fun B2 => (Ac (ad _ _) (Ac (wr (by omega)) (Ao (ad _ _))))) ?_
 clear hf hM; intro a w2 B2 hf hM hB hk
 have hbB2 : w.heap.size ≤ B2 := by have := hk0.size; omega
 have hk0 := hk0.then hk (by intro i hi h; simp only [Is, Mem.names, List.map_cons, List.map_nil, List.mem_cons, List.not_mem_nil, or_false] at h ⊢; omega)
 have hO := hO.step hM hk (by intro i h; simp only [Mem.names, List.map_cons, List.map_nil, List.mem_cons, List.not_mem_nil, or_false, List.map_append, List.cons_append, List.nil_append] at h ⊢; omega)
 clear hk hB
 refine wpList_nil ?_
 refine hK2 _ _ ?_
 refine wp_seq_k (fun K3 hK3 => ?_)
 replace hM := hM.drew; replace hk0 := hk0.drew; replace hO := hO.drew
 obtain ⟨Cq1, hCq1i, hCq1e⟩ := qcls fun w' => MemOk [⟨mB, 3, [iV (kk + 1)]⟩, ⟨kB, 4, [bV true]⟩, ⟨B1, 39, [iV hi, iV hg]⟩, ⟨B1 + 1, 32, [iV x0, iV y0, iV x1, iV y1]⟩] w' ∧ Keep (fun i => i ∈ [mB, kB, wm]) w w' ∧ OwnOk base [⟨mB, 3, [iV (kk + 1)]⟩, ⟨kB, 4, [bV true]⟩, ⟨B1, 39, [iV hi, iV hg]⟩, ⟨B1 + 1, 32, [iV x0, iV y0, iV x1, iV y1]⟩] [oM wm vH vT Lm] w'
 obtain ⟨Cq2, hCq2i, hCq2e⟩ := qcls fun w' => MemOk [⟨mB, 3, [iV (kk + 1)]⟩, ⟨B1, 39, [iV hi, iV hg]⟩, ⟨B1 + 1, 32, [iV x0, iV y0, iV x1, iV y1]⟩] w' ∧ Keep (fun i => i ∈ [mB, kB, wm]) w w' ∧ OwnOk base [⟨mB, 3, [iV (kk + 1)]⟩, ⟨B1, 39, [iV hi, iV hg]⟩, ⟨B1 + 1, 32, [iV x0, iV y0, iV x1, iV y1]⟩] [oM wm vH vT Lm] w'
 refine sxdraw2 (C := Cq1) (C2 := Cq2) (.leaf [(0, true), (1, true), (2, true), (3, true), (4, false), (5, true), (6, true), (7, true), (8, true), (9, true), (10, true), (11, true), (12, true), (13, true), (14, true), (15, true), (16, true), (17, true), (18, true), (19, true), (20, true), (21, true)]) (.leaf [(22, false)]) [0, 1, 2, 3, 4, 5, 6, 7, 8, 9, 10, 11, 12, 13, 14, 15, 16, 17, 18, 19, 20, 21] (by kernel_rfl) (by kernel_rfl) (by as_aux_lemma => kernel_rfl) rfl (by as_aux_lemma => kernel_rfl) (by kernel_rfl) (by as_aux_lemma => kernel_rfl) (by kernel_rfl) (by kernel_rfl) (hCq1i _ ⟨hM.sub (.cons_cons _ (.cons_cons _ (.cons_cons _ (.cons_cons _ .slnil)))), hk0, hO.sub (.cons_cons _ (.cons_cons _ (.cons_cons _ (.cons_cons _ .slnil)))) (.cons_cons _ .slnil)⟩) ?_
 refine sxleaf ?_
 have hC := (hCq1i _ ⟨hM.sub (.cons_cons _ (.cons_cons _ (.cons_cons _ (.cons_cons _ .slnil)))), hk0, hO.sub (.cons_cons _ (.cons_cons _ (.cons_cons _ (.cons_cons _ .slnil)))) (.cons_cons _ .slnil)⟩)
 refine qd hf hC (fun w' h => (hCq1e w' h).1) [7, 6, 3, 4, 5] [{ os := [.ld 1 0] }, {}, { os := [.ex (.map (some wm))] }, { os := [.ld 2 0, .ld 2 1] }] (nw := [(13, .val (.agg #[iV hi, iV hg])), (12, .val (.map (some wm))), (11, eB true)]) (ob := [Ad kB 0, true = true, (∀ w', Cq1 w' → w'.cell? ⟨wv, 0, none⟩ = some (.map (some wm))), true = true, Ad B1 0, Ad B1 1]) (Ac (ad _ _) (Ac rfl (Ac (fun w' hc => by obtain ⟨hM, hk0, hO⟩ := hCq1e w' hc; exact (hk0.cell hwv hnw)) (Ac rfl (Ac (ad _ _) (Ao (ad _ _))))))) ?_
 clear hf; intro a hf
 refine scstep rfl ?_
 refine sxlookupg hf (hO.own _ (List.Mem.head _)).2 keyH rfl rfl rfl rfl rfl rfl (⟨hi, hg⟩ : H2) rfl Tryd.underlying26 false (by kernel_rfl) (V := bV true) (congrArg Value.bool hw1) ?_; clear hf; intro a hf
 have hC := (hCq1i _ ⟨hM.sub (.cons_cons _ (.cons_cons _ (.cons_cons _ (.cons_cons _ .slnil)))), hk0, hO.sub (.cons_cons _ (.cons_cons _ (.cons_cons _ (.cons_cons _ .slnil)))) (.cons_cons _ .slnil)⟩)
 refine scdone hC ?_
 refine qd hf hC (fun w' h => (hCq1e w' h).1) [6, 3, 4] [{}, {}, {}, { os := [.ld 2 0] }, { os := [.ex (.slice av l.length c)] }, {}, { hint := some (bV true) }, {}, {}, { os := [.ld 3 0, .ld 3 1, .ld 3 2, .ld 3 3] }, { os := [.ex (.slice av l.length c)] }, {}, { os := [.ld 2 0] }, { sp := true }, { os := [.ex (iV (l.getD hi.toNat ⟨0, 0, 0, 0⟩).x0), .ex (iV (l.getD hi.toNat ⟨0, 0, 0, 0⟩).y0), .ex (iV (l.getD hi.toNat ⟨0, 0, 0, 0⟩).x1), .ex (iV (l.getD hi.toNat ⟨0, 0, 0, 0⟩).y1)] }, { sp := true, hint := some (bV true) }, {}] (nw := [(31, eB true)]) (ob := [true = true, true = true, Ad B1 0, true = true, (∀ w', Cq1 w' → w'.cell? ⟨vb, 0, none⟩ = some (.slice av l.length c)), true = true, true = true, (bV (decide ((hi : Int) < (l.length : Int))) : Value) = (bV true : Value), true = true, Ad (B1 + 1) 0, Ad (B1 + 1) 1, Ad (B1 + 1) 2, Ad (B1 + 1) 3, true = true, (∀ w', Cq1 w' → w'.cell? ⟨vb, 0, none⟩ = some (.slice av l.length c)), true = true, true = true, Ad B1 0, true = true, (0 : Int) ≤ hi ∧ hi < (l.length : Int), (av : Option Addr).isSome = true, true = true, (∀ w', Cq1 w' → w'.cell? (((sa av : Addr).add (hi.toNat * 4)).add 0) = some (iV (l.getD hi.toNat ⟨0, 0, 0, 0⟩).x0)), (∀ w', Cq1 w' → w'.cell? (((sa av : Addr).add (hi.toNat * 4)).add 1) = some (iV (l.getD hi.toNat ⟨0, 0, 0, 0⟩).y0)), (∀ w', Cq1 w' → w'.cell? (((sa av : Addr).add (hi.toNat * 4)).add 2) = some (iV (l.getD hi.toNat ⟨0, 0, 0, 0⟩).x1)), (∀ w', Cq1 w' → w'.cell? (((sa av : Addr).add (hi.toNat * 4)).add 3) = some (iV (l.getD hi.toNat ⟨0, 0, 0, 0⟩).y1)), true = true, (bV (((x0 : Int) == (l.getD hi.toNat ⟨0, 0, 0, 0⟩).x0) && (((y0 : Int) == (l.getD hi.toNat ⟨0, 0, 0, 0⟩).y0) && (((x1 : Int) == (l.getD hi.toNat ⟨0, 0, 0, 0⟩).x1) && (((y1 : Int) == (l.getD hi.toNat ⟨0, 0, 0, 0⟩).y1) && true)))) : Value) = (bV true : Value)]) (Ac rfl (Ac rfl (Ac (ad _ _) (Ac rfl (Ac (fun w' hc => by obtain ⟨hM, hk0, hO⟩ := hCq1e w' hc; exact (hk0.cell hbv hnb)) (Ac rfl (Ac rfl (Ac (congrArg Value.bool (decide_eq_true hil.2)) (Ac rfl (Ac (ad _ _) (Ac (ad _ _) (Ac (ad _ _) (Ac (ad _ _) (Ac rfl (Ac (fun w' hc => by obtain ⟨hM, hk0, hO⟩ := hCq1e w' hc; exact (hk0.cell hbv hnb)) (Ac rfl (Ac rfl (Ac (ad _ _) (Ac rfl (Ac (by omega) (Ac ((hav.keep hk0 hna).some_ (by first | omega | (simp; done))) (Ac rfl (Ac (fun w' hc => by obtain ⟨hM, hk0, hO⟩ := hCq1e w' hc; exact ((hav.keep hk0 hna).get (fun _ => rfl) (by first | omega | (simp; done)) rfl)) (Ac (fun w' hc => by obtain ⟨hM, hk0, hO⟩ := hCq1e w' hc; exact ((hav.keep hk0 hna).get (fun _ => rfl) (by first | omega | (simp; done)) rfl)) (Ac (fun w' hc => by obtain ⟨hM, hk0, hO⟩ := hCq1e w' hc; exact ((hav.keep hk0 hna).get (fun _ => rfl) (by first | omega | (simp; done)) rfl)) (Ac (fun w' hc => by obtain ⟨hM, hk0, hO⟩ := hCq1e w' hc; exact ((hav.keep hk0 hna).get (fun _ => rfl) (by first | omega | (simp; done)) rfl)) (Ac rfl (Ao (Eq.trans (show (bV (((x0 : Int) == (l.getD hi.toNat ⟨0, 0, 0, 0⟩).x0) && (((y0 : Int) == (l.getD hi.toNat ⟨0, 0, 0, 0⟩).y0) && (((x1 : Int) == (l.getD hi.toNat ⟨0, 0, 0, 0⟩).x1) && (((y1 : Int) == (l.getD hi.toNat ⟨0, 0, 0, 0⟩).y1) && true)))) : Value) = (bV (((x0 : Int) == (l.getD hi.toNat ⟨0, 0, 0, 0⟩).x0) && (((y0 : Int) == (l.getD hi.toNat ⟨0, 0, 0, 0⟩).y0) && (((x1 : Int) == (l.getD hi.toNat ⟨0, 0, 0, 0⟩).x1) && ((y1 : Int) == (l.getD hi.toNat ⟨0, 0, 0, 0⟩).y1)))) : Value) from (by simp)) (by rw [hv1]; simp)))))))))))))))))))))))))))))) ?_
 clear hf; intro a hf
 refine sxnext (hCq2i _ ⟨hM.sub (.cons_cons _ (.cons _ (.cons_cons _ (.cons_cons _ .slnil)))), hk0, hO.sub (.cons_cons _ (.cons _ (.cons_cons _ (.cons_cons _ .slnil)))) (.cons_cons _ .slnil)⟩) ?_
 refine sxleaf ?_
 have hC := (hCq2i _ ⟨hM.sub (.cons_cons _ (.cons _ (.cons_cons _ (.cons_cons _ .slnil)))), hk0, hO.sub (.cons_cons _ (.cons _ (.cons_cons _ (.cons_cons _ .slnil)))) (.cons_cons _ .slnil)⟩)
 refine scstep rfl ?_
 have hMs : MemOk [⟨kB, 4, [bV true]⟩] w2.drew := hM.sub (.cons _ (.cons_cons _ (.cons _ (.cons _ .slnil))))
 refine q1 hf hMs [6, 4] [{ os := [.st 0 0] }] (nw := fun B3 => []) (M' := fun B3 => [⟨kB, 4, [bV true]⟩]) (ob := fun B3 => [Ad kB 0]) (fun B3 => (Ao (ad _ _))) ?_
 clear hf hMs; intro a w3 B3 hf hMs hB hk; clear hB
 have hMo := hM
 have hM : MemOk [⟨mB, 3, [iV (kk + 1)]⟩, ⟨kB, 4, [bV true]⟩, ⟨B1, 39, [iV hi, iV hg]⟩, ⟨B1 + 1, 32, [iV x0, iV y0, iV x1, iV y1]⟩] w3 := MemOk.upd (M1 := [⟨mB, 3, [iV (kk + 1)]⟩]) (M2 := [⟨B1, 39, [iV hi, iV hg]⟩, ⟨B1 + 1, 32, [iV x0, iV y0, iV x1, iV y1]⟩]) hM hk hMs rfl
 have hO := hO.step hM (hk.mono (by intro i _ h; simp only [Is, Mem.names, List.map_cons, List.map_nil, List.mem_cons, List.not_mem_nil, or_false] at h ⊢; omega)) (by intro i h; simp only [Mem.names, List.map_cons, List.map_nil, List.mem_cons, List.not_mem_nil, or_false, List.map_append, List.cons_append, List.nil_append] at h ⊢; omega); clear hMo
 have hk0 := hk0.then hk (by intro i hi h; simp only [Is, Mem.names, List.map_cons, List.map_nil, List.mem_cons, List.not_mem_nil, or_false] at h ⊢; omega)
 clear hk hMs
 have hC := (hCq2i _ ⟨hM.sub (.cons_cons _ (.cons _ (.cons_cons _ (.cons_cons _ .slnil)))), hk0, hO.sub (.cons_cons _ (.cons _ (.cons_cons _ (.cons_cons _ .slnil)))) (.cons_cons _ .slnil)⟩)
 refine scdone hC ?_
 clear hC
 show K3 _ _
 refine hK3 _ _ ?_
 refine wp_region_lit ?_
 refine q0 hf hM [] [{ os := [.ex (.map (some wm))] }, { os := [.ld 2 0, .ld 2 1] }] (nw := [(33, .val (.agg #[iV hi, iV hg])), (32, .val (.map (some wm)))]) (ob := [w3.cell? ⟨wv, 0, none⟩ = some (.map (some wm)), Ad B1 0, Ad B1 1]) (Ac (hk0.cell hwv hnw) (Ac (ad _ _) (Ao (ad _ _)))) ?_
 clear hf; intro a hf
 refine sxmapdel hf hM hO keyH rfl rfl rfl rfl (⟨hi, hg⟩ : H2) rfl Tryd.underlying26 ?_; clear hf hM; intro a w4 hf hM hO2 hk
 have hk0 := hk0.then hk (by intro i hi h; subst h; simp)
 clear hO; have hO := hO2; clear hO2
 clear hk
 replace hO : OwnOk base [⟨mB, 3, [iV (kk + 1)]⟩, ⟨kB, 4, [bV true]⟩, ⟨B1, 39, [iV hi, iV hg]⟩, ⟨B1 + 1, 32, [iV x0, iV y0, iV x1, iV y1]⟩] [oM wm vH vT (delK Lm (⟨hi, hg⟩ : H2))] w4 := hO
 refine wpList_nil ?_
 refine qe (fn := Tryd.f17) hf hM [] (l := []) (ob := []) An ?_
 show (.tuple #[] : Value) = .tuple #[] ∧ MemOk [⟨mB, 3, [.int .i64 (kk + 1)]⟩, ⟨kB, 4, [.bool true]⟩] w4 ∧ OwnOk base [⟨mB, 3, [.int .i64 (kk + 1)]⟩, ⟨kB, 4, [.bool true]⟩] [oM wm vH vT (delK Lm (⟨hi, hg⟩ : H2))] w4 ∧ Keep (fun i => i ∈ [mB, kB, wm]) w w4
 replace hO : OwnOk base [⟨mB, 3, [iV (kk + 1)]⟩, ⟨kB, 4, [bV true]⟩] [oM wm vH vT (delK Lm (⟨hi, hg⟩ : H2))] w4 := hO.sub (.cons_cons _ (.cons_cons _ (.cons _ (.cons _ .slnil)))) (List.Sublist.refl _)
 replace hM : MemOk [⟨mB, 3, [iV (kk + 1)]⟩, ⟨kB, 4, [bV true]⟩] w4 := hM.sub (.cons_cons _ (.cons_cons _ (.cons _ (.cons _ .slnil))))
 exact ⟨rfl, hM, hO, hk0⟩
end Go.Proofs.YthofalkkdpjdlaaDoor
