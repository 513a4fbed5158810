/- layer 1 -/
import Derived.Test.YthofalkkdpjdlaaDoorRows
import Derived.Test.YthofalkkdpjdlaaDoorXQ
import Derived.Test.YthofalkkdpjdlaaDoorXp12
namespace Go.Proofs.YthofalkkdpjdlaaDoor
open Go.Px
set_option linter.unusedVariables false
set_option linter.unusedSimpArgs false
theorem enters2 : enters Tryd.prog 2 := ⟨_, Tryd.func2, by kernel_rfl, rfl⟩
theorem enters3 : enters Tryd.prog 3 := ⟨_, Tryd.func3, by kernel_rfl, rfl⟩
theorem enters4 : enters Tryd.prog 4 := ⟨_, Tryd.func4, by kernel_rfl, rfl⟩
theorem enters5 : enters Tryd.prog 5 := ⟨_, Tryd.func5, by kernel_rfl, rfl⟩
theorem enters6 : enters Tryd.prog 6 := ⟨_, Tryd.func6, by kernel_rfl, rfl⟩
theorem enters7 : enters Tryd.prog 7 := ⟨_, Tryd.func7, by kernel_rfl, rfl⟩
theorem enters8 : enters Tryd.prog 8 := ⟨_, Tryd.func8, by kernel_rfl, rfl⟩
theorem enters9 : enters Tryd.prog 9 := ⟨_, Tryd.func9, by kernel_rfl, rfl⟩
theorem enters10 : enters Tryd.prog 10 := ⟨_, Tryd.func10, by kernel_rfl, rfl⟩
theorem enters11 : enters Tryd.prog 11 := ⟨_, Tryd.func11, by kernel_rfl, rfl⟩
theorem enters12 : enters Tryd.prog 12 := ⟨_, Tryd.func12, by kernel_rfl, rfl⟩
theorem enters13 : enters Tryd.prog 13 := ⟨_, Tryd.func13, by kernel_rfl, rfl⟩
theorem enters14 : enters Tryd.prog 14 := ⟨_, Tryd.func14, by kernel_rfl, rfl⟩
theorem enters15 : enters Tryd.prog 15 := ⟨_, Tryd.func15, by kernel_rfl, rfl⟩
theorem enters16 : enters Tryd.prog 16 := ⟨_, Tryd.func16, by kernel_rfl, rfl⟩
theorem enters17 : enters Tryd.prog 17 := ⟨_, Tryd.func17, by kernel_rfl, rfl⟩
theorem enters18 : enters Tryd.prog 18 := ⟨_, Tryd.func18, by kernel_rfl, rfl⟩
theorem enters19 : enters Tryd.prog 19 := ⟨_, Tryd.func19, by kernel_rfl, rfl⟩
theorem enters20 : enters Tryd.prog 20 := ⟨_, Tryd.func20, by kernel_rfl, rfl⟩
theorem enters21 : enters Tryd.prog 21 := ⟨_, Tryd.func21, by kernel_rfl, rfl⟩
theorem enters22 : enters Tryd.prog 22 := ⟨_, Tryd.func22, by kernel_rfl, rfl⟩
theorem enters23 : enters Tryd.prog 23 := ⟨_, Tryd.func23, by kernel_rfl, rfl⟩
theorem enters24 : enters Tryd.prog 24 := ⟨_, Tryd.func24, by kernel_rfl, rfl⟩
theorem enters25 : enters Tryd.prog 25 := ⟨_, Tryd.func25, by kernel_rfl, rfl⟩
theorem enters26 : enters Tryd.prog 26 := ⟨_, Tryd.func26, by kernel_rfl, rfl⟩
theorem enters27 : enters Tryd.prog 27 := ⟨_, Tryd.func27, by kernel_rfl, rfl⟩
theorem enters28 : enters Tryd.prog 28 := ⟨_, Tryd.func28, by kernel_rfl, rfl⟩
theorem enters29 : enters Tryd.prog 29 := ⟨_, Tryd.func29, by kernel_rfl, rfl⟩
theorem enters30 : enters Tryd.prog 30 := ⟨_, Tryd.func30, by kernel_rfl, rfl⟩
theorem enters31 : enters Tryd.prog 31 := ⟨_, Tryd.func31, by kernel_rfl, rfl⟩
theorem enters32 : enters Tryd.prog 32 := ⟨_, Tryd.func32, by kernel_rfl, rfl⟩
theorem enters33 : enters Tryd.prog 33 := ⟨_, Tryd.func33, by kernel_rfl, rfl⟩
theorem enters34 : enters Tryd.prog 34 := ⟨_, Tryd.func34, by kernel_rfl, rfl⟩
theorem enters35 : enters Tryd.prog 35 := ⟨_, Tryd.func35, by kernel_rfl, rfl⟩
theorem enters36 : enters Tryd.prog 36 := ⟨_, Tryd.func36, by kernel_rfl, rfl⟩
theorem enters37 : enters Tryd.prog 37 := ⟨_, Tryd.func37, by kernel_rfl, rfl⟩
theorem enters38 : enters Tryd.prog 38 := ⟨_, Tryd.func38, by kernel_rfl, rfl⟩
theorem enters39 : enters Tryd.prog 39 := ⟨_, Tryd.func39, by kernel_rfl, rfl⟩
theorem enters40 : enters Tryd.prog 40 := ⟨_, Tryd.func40, by kernel_rfl, rfl⟩
theorem enters41 : enters Tryd.prog 41 := ⟨_, Tryd.func41, by kernel_rfl, rfl⟩
theorem enters42 : enters Tryd.prog 42 := ⟨_, Tryd.func42, by kernel_rfl, rfl⟩
theorem enters43 : enters Tryd.prog 43 := ⟨_, Tryd.func43, by kernel_rfl, rfl⟩
theorem enters44 : enters Tryd.prog 44 := ⟨_, Tryd.func44, by kernel_rfl, rfl⟩
theorem enters45 : enters Tryd.prog 45 := ⟨_, Tryd.func45, by kernel_rfl, rfl⟩
theorem enters46 : enters Tryd.prog 46 := ⟨_, Tryd.func46, by kernel_rfl, rfl⟩
theorem enters47 : enters Tryd.prog 47 := ⟨_, Tryd.func47, by kernel_rfl, rfl⟩
theorem enters48 : enters Tryd.prog 48 := ⟨_, Tryd.func48, by kernel_rfl, rfl⟩
theorem enters49 : enters Tryd.prog 49 := ⟨_, Tryd.func49, by kernel_rfl, rfl⟩
theorem enters50 : enters Tryd.prog 50 := ⟨_, Tryd.func50, by kernel_rfl, rfl⟩
theorem enters51 : enters Tryd.prog 51 := ⟨_, Tryd.func51, by kernel_rfl, rfl⟩
theorem enters52 : enters Tryd.prog 52 := ⟨_, Tryd.func52, by kernel_rfl, rfl⟩
theorem enters53 : enters Tryd.prog 53 := ⟨_, Tryd.func53, by kernel_rfl, rfl⟩
theorem enters54 : enters Tryd.prog 54 := ⟨_, Tryd.func54, by kernel_rfl, rfl⟩
theorem enters55 : enters Tryd.prog 55 := ⟨_, Tryd.func55, by kernel_rfl, rfl⟩
theorem enters56 : enters Tryd.prog 56 := ⟨_, Tryd.func56, by kernel_rfl, rfl⟩
theorem enters57 : enters Tryd.prog 57 := ⟨_, Tryd.func57, by kernel_rfl, rfl⟩
theorem enters58 : enters Tryd.prog 58 := ⟨_, Tryd.func58, by kernel_rfl, rfl⟩
theorem enters59 : enters Tryd.prog 59 := ⟨_, Tryd.func59, by kernel_rfl, rfl⟩
theorem enters60 : enters Tryd.prog 60 := ⟨_, Tryd.func60, by kernel_rfl, rfl⟩
theorem enters61 : enters Tryd.prog 61 := ⟨_, Tryd.func61, by kernel_rfl, rfl⟩
theorem enters62 : enters Tryd.prog 62 := ⟨_, Tryd.func62, by kernel_rfl, rfl⟩
theorem enters63 : enters Tryd.prog 63 := ⟨_, Tryd.func63, by kernel_rfl, rfl⟩
theorem enters64 : enters Tryd.prog 64 := ⟨_, Tryd.func64, by kernel_rfl, rfl⟩
theorem enters65 : enters Tryd.prog 65 := ⟨_, Tryd.func65, by kernel_rfl, rfl⟩
theorem enters66 : enters Tryd.prog 66 := ⟨_, Tryd.func66, by kernel_rfl, rfl⟩
theorem enters68 : enters Tryd.prog 68 := ⟨_, Tryd.func68, by kernel_rfl, rfl⟩
theorem enters69 : enters Tryd.prog 69 := ⟨_, Tryd.func69, by kernel_rfl, rfl⟩
theorem enters71 : enters Tryd.prog 71 := ⟨_, Tryd.func71, by kernel_rfl, rfl⟩
theorem enters72 : enters Tryd.prog 72 := ⟨_, Tryd.func72, by kernel_rfl, rfl⟩
theorem enters73 : enters Tryd.prog 73 := ⟨_, Tryd.func73, by kernel_rfl, rfl⟩
theorem enters74 : enters Tryd.prog 74 := ⟨_, Tryd.func74, by kernel_rfl, rfl⟩
theorem enters75 : enters Tryd.prog 75 := ⟨_, Tryd.func75, by kernel_rfl, rfl⟩
theorem enters76 : enters Tryd.prog 76 := ⟨_, Tryd.func76, by kernel_rfl, rfl⟩
theorem enters77 : enters Tryd.prog 77 := ⟨_, Tryd.func77, by kernel_rfl, rfl⟩
theorem enters78 : enters Tryd.prog 78 := ⟨_, Tryd.func78, by kernel_rfl, rfl⟩
theorem enters79 : enters Tryd.prog 79 := ⟨_, Tryd.func79, by kernel_rfl, rfl⟩
theorem enters80 : enters Tryd.prog 80 := ⟨_, Tryd.func80, by kernel_rfl, rfl⟩
theorem enters81 : enters Tryd.prog 81 := ⟨_, Tryd.func81, by kernel_rfl, rfl⟩
theorem enters82 : enters Tryd.prog 82 := ⟨_, Tryd.func82, by kernel_rfl, rfl⟩
theorem enters83 : enters Tryd.prog 83 := ⟨_, Tryd.func83, by kernel_rfl, rfl⟩
theorem enters84 : enters Tryd.prog 84 := ⟨_, Tryd.func84, by kernel_rfl, rfl⟩
theorem enters85 : enters Tryd.prog 85 := ⟨_, Tryd.func85, by kernel_rfl, rfl⟩
theorem enters86 : enters Tryd.prog 86 := ⟨_, Tryd.func86, by kernel_rfl, rfl⟩
theorem enters87 : enters Tryd.prog 87 := ⟨_, Tryd.func87, by kernel_rfl, rfl⟩
theorem enters88 : enters Tryd.prog 88 := ⟨_, Tryd.func88, by kernel_rfl, rfl⟩
theorem enters89 : enters Tryd.prog 89 := ⟨_, Tryd.func89, by kernel_rfl, rfl⟩
theorem enters90 : enters Tryd.prog 90 := ⟨_, Tryd.func90, by kernel_rfl, rfl⟩
theorem enters91 : enters Tryd.prog 91 := ⟨_, Tryd.func91, by kernel_rfl, rfl⟩
theorem enters92 : enters Tryd.prog 92 := ⟨_, Tryd.func92, by kernel_rfl, rfl⟩
theorem enters93 : enters Tryd.prog 93 := ⟨_, Tryd.func93, by kernel_rfl, rfl⟩
theorem enters94 : enters Tryd.prog 94 := ⟨_, Tryd.func94, by kernel_rfl, rfl⟩
theorem enters95 : enters Tryd.prog 95 := ⟨_, Tryd.func95, by kernel_rfl, rfl⟩
theorem enters96 : enters Tryd.prog 96 := ⟨_, Tryd.func96, by kernel_rfl, rfl⟩
theorem enters97 : enters Tryd.prog 97 := ⟨_, Tryd.func97, by kernel_rfl, rfl⟩
theorem enters98 : enters Tryd.prog 98 := ⟨_, Tryd.func98, by kernel_rfl, rfl⟩
theorem enters99 : enters Tryd.prog 99 := ⟨_, Tryd.func99, by kernel_rfl, rfl⟩
theorem enters130 : enters Tryd.prog 130 := ⟨_, Tryd.func130, by kernel_rfl, rfl⟩
theorem enters143 : enters Tryd.prog 143 := ⟨_, Tryd.func143, by kernel_rfl, rfl⟩

set_option maxRecDepth 10000 in
set_option maxHeartbeats 1600000 in
theorem within_any (n m : Int) (w : World) (hm : 0 ≤ m ∧ m ≤ 4611686018427387904) :
    Calls Tryd.prog 75 #[iV n, iV m] w (Ret fun v w' => v = .bool (within n m) ∧ Keep Nn w w') := by
 refine sxenter (n := 14) (args := [iV n, iV m]) Tryd.func75 rfl rfl rfl fun a hf => ?_
 replace hf : Fr 14 [(0, eI n), (1, eI m)] a := hf
 have hM : MemOk [] w := MemOk.nil w
 have hk0 : Keep Nn w w := Keep.refl _ _
 refine wp_seq_k (fun K1 hK1 => ?_)
 refine wp_region_lit ?_
 refine q0 hf hM [0, 1] [{}] (nw := []) An ?_
 clear hf; intro a hf
 refine wpList_nil ?_
 refine hK1 _ _ ?_
 refine wp_seq_k (fun K2 hK2 => ?_)
 refine wp_region_lit ?_
 refine q0 hf hM [] [{}, {}, { hint := some (iV (0 - m)) }, {}, {}, { g := .sym }, { g := .sym }, { g := .sym }, { hint := some (bV ((decide ((n : Int) ≥ (0 - m))) && (decide ((n : Int) ≤ m)))) }, {}] (nw := [(4, eB ((decide ((n : Int) ≥ (0 - m))) && (decide ((n : Int) ≤ m))))]) (ob := [(iV (IntKind.i64.wrap (0 - m)) : Value) = (iV (0 - m) : Value), ((decide ((n : Int) ≥ (0 - m))) = true → (decide ((n : Int) ≥ (0 - m))) = (decide ((n : Int) ≥ (0 - m)))), ((decide ((n : Int) ≥ (0 - m))) = true → (decide ((n : Int) ≥ (0 - m))) = (decide ((n : Int) ≥ (0 - m)))), ((decide ((n : Int) ≥ (0 - m))) = true → (decide ((n : Int) ≥ (0 - m))) = (decide ((n : Int) ≥ (0 - m)))), (bif (decide ((n : Int) ≥ (0 - m))) then (bV (decide ((n : Int) ≤ m)) : Value) else bV false) = .bool ((decide ((n : Int) ≥ (0 - m))) && (decide ((n : Int) ≤ m)))]) (Ac (wr (by omega)) (Ac (fun hgd => rfl) (Ac (fun hgd => rfl) (Ac (fun _ => rfl) (Ao (pick_and _ _)))))) ?_
 clear hf; intro a hf
 refine wpList_nil ?_
 refine hK2 _ _ ?_
 refine wp_ret ?_
 refine qr (fn := Tryd.f75) hf hM [] (l := [bV ((decide ((n : Int) ≥ (0 - m))) && (decide ((n : Int) ≤ m)))]) (ob := []) An ?_
 show (bV ((decide ((n : Int) ≥ (0 - m))) && (decide ((n : Int) ≤ m))) : Value) = .bool (within n m) ∧ Keep Nn w w
 refine ⟨congrArg Value.bool ?_, hk0⟩
 rw [Bool.eq_iff_iff]
 simp only [within, Bool.or_eq_true, Bool.and_eq_true, Bool.not_eq_true', Bool.not_eq_false', Bool.or_eq_false_iff, Bool.and_eq_false_iff, decide_eq_true_eq, decide_eq_false_iff_not, beq_iff_eq, Bool.false_eq_true, Bool.true_eq_false, false_iff, true_iff, iff_true, iff_false, not_true, not_false_iff, true_and, and_true, false_and, and_false, ge_iff_le, gt_iff_lt] at *
 try omega

set_option maxRecDepth 10000 in
set_option maxHeartbeats 1600000 in
theorem reach_any (x y : Int) (w : World) :
    Calls Tryd.prog 74 #[.agg #[iV x, iV y]] w (Ret fun v w' => v = .bool (reach x y) ∧ Keep Nn w w') := by
 refine sxenter (n := 11) (args := [.agg #[iV x, iV y]]) Tryd.func74 rfl rfl rfl fun a hf => ?_
 replace hf : Fr 11 [(0, .val (.agg #[iV x, iV y]))] a := hf
 have hM : MemOk [] w := MemOk.nil w
 have hk0 : Keep Nn w w := Keep.refl _ _
 refine wp_seq_k (fun K1 hK1 => ?_)
 refine wp_region_lit ?_
 refine q1 hf hM [] [{ os := [.nw] }, {}] (nw := fun B1 => [(1, eP B1 0)]) (M' := fun B1 => [⟨B1, 46, [iV x, iV y]⟩]) (ob := fun B1 => []) (fun B1 => An) ?_
 clear hf hM; intro a w1 B1 hf hM hB hk
 have hbB1 : w.heap.size ≤ B1 := by have := hk0.size; omega
 have hk0 := hk0.then hk (by intro i _ h; cases h)
 clear hk hB
 refine wpList_nil ?_
 refine hK1 _ _ ?_
 refine wp_seq_k (fun K2 hK2 => ?_)
 refine wp_region_lit ?_
 refine q0 hf hM [1] [{}, { os := [.ld 0 0] }] (nw := [(4, eI x)]) (ob := [Ad B1 0]) (Ao (ad _ _)) ?_
 clear hf; intro a hf
 refine sxcall hf rfl rfl rfl rfl (g := 75) (vs := [iV x, iV 4194304]) (ob := []) (by as_aux_lemma => kernel_rfl) An enters75 (within_any x 4194304 w1  (by omega)) ?_
 clear hf; rintro _ w2 a ⟨rfl, hk⟩ hf
 have hM := hM.keepNn hk
 have hk0 := hk0.trans hk.nn
 clear hk
 refine q0 hf hM [1] [{}] (nw := [(6, eB (within x 4194304))]) An ?_
 clear hf; intro a hf
 rcases Bool.eq_false_or_eq_true (within x 4194304) with hg1r | hg1r
 · have hg1 := hg1r
   have hf := hf.setb 6 hg1r
   refine q0 hf hM [6] [{}, { os := [.ld 0 1] }] (nw := [(8, eI y)]) (ob := [true = true, true = true, Ad B1 1]) (Ac rfl (Ac rfl (Ao (ad _ _)))) ?_
   clear hf; intro a hf
   refine sxcallg hf rfl rfl rfl rfl rfl (g := 75) (vs := [iV y, iV 4194304]) (ob := []) (by as_aux_lemma => kernel_rfl) An enters75 (within_any y 4194304 w2  (by omega)) ?_
   clear hf; rintro _ w3 a ⟨rfl, hk⟩ hf
   have hM := hM.keepNn hk
   have hk0 := hk0.trans hk.nn
   clear hk
   refine q0 hf hM [] [{}, {}] (nw := [(2, eB (within y 4194304))]) An ?_
   clear hf; intro a hf
   refine wpList_nil ?_
   refine hK2 _ _ ?_
   refine wp_ret ?_
   refine qr (fn := Tryd.f74) hf hM [] (l := [bV (within y 4194304)]) (ob := []) An ?_
   show (bV (within y 4194304) : Value) = .bool (reach x y) ∧ Keep Nn w w3
   refine ⟨congrArg Value.bool ?_, hk0⟩
   rw [Bool.eq_iff_iff]
   simp only [within, reach, Bool.or_eq_true, Bool.and_eq_true, Bool.not_eq_true', Bool.not_eq_false', Bool.or_eq_false_iff, Bool.and_eq_false_iff, decide_eq_true_eq, decide_eq_false_iff_not, beq_iff_eq, Bool.false_eq_true, Bool.true_eq_false, false_iff, true_iff, iff_true, iff_false, not_true, not_false_iff, true_and, and_true, false_and, and_false, ge_iff_le, gt_iff_lt] at *
   try omega
 · have hg1 := hg1r
   have hf := hf.setb 6 hg1r
   refine q0 hf hM [6] [{ g := .off }, { g := .off }] (nw := [(8, .val (undef))]) (ob := [false = !true, false = !true]) (Ac rfl (Ao rfl)) ?_
   clear hf; intro a hf
   refine q0 hf hM [] [{ g := .off }, {}, {}] (nw := [(2, eB false)]) (ob := [false = !true]) (Ao rfl) ?_
   clear hf; intro a hf
   refine wpList_nil ?_
   refine hK2 _ _ ?_
   refine wp_ret ?_
   refine qr (fn := Tryd.f74) hf hM [] (l := [bV false]) (ob := []) An ?_
   show (bV false : Value) = .bool (reach x y) ∧ Keep Nn w w2
   refine ⟨congrArg Value.bool ?_, hk0⟩
   rw [Bool.eq_iff_iff]
   simp only [within, reach, Bool.or_eq_true, Bool.and_eq_true, Bool.not_eq_true', Bool.not_eq_false', Bool.or_eq_false_iff, Bool.and_eq_false_iff, decide_eq_true_eq, decide_eq_false_iff_not, beq_iff_eq, Bool.false_eq_true, Bool.true_eq_false, false_iff, true_iff, iff_true, iff_false, not_true, not_false_iff, true_and, and_true, false_and, and_false, ge_iff_le, gt_iff_lt] at *
   try omega

set_option maxRecDepth 10000 in
set_option maxHeartbeats 1600000 in
theorem corners_any (x0 y0 x1 y1 : Int) (w : World) :
    Calls Tryd.prog 57 #[.agg #[iV x0, iV y0, iV x1, iV y1]] w (Ret fun v w' => v = .tuple #[.agg #[.int .i64 x0, .int .i64 y0], .agg #[.int .i64 x1, .int .i64 y1]] ∧ Keep Nn w w') := by
 refine sxenter (n := 14) (args := [.agg #[iV x0, iV y0, iV x1, iV y1]]) Tryd.func57 rfl rfl rfl fun a hf => ?_
 replace hf : Fr 14 [(0, .val (.agg #[iV x0, iV y0, iV x1, iV y1]))] a := hf
 have hM : MemOk [] w := MemOk.nil w
 have hk0 : Keep Nn w w := Keep.refl _ _
 refine wp_seq_k (fun K1 hK1 => ?_)
 refine wp_region_lit ?_
 refine q1 hf hM [] [{ os := [.nw] }, { os := [.nw] }, { os := [.nw] }] (nw := fun B1 => [(3, eP (B1 + 2) 0), (2, eP (B1 + 1) 0), (1, eP B1 0)]) (M' := fun B1 => [⟨B1, 32, [iV x0, iV y0, iV x1, iV y1]⟩, ⟨B1 + 1, 46, [iV 0, iV 0]⟩, ⟨B1 + 2, 46, [iV 0, iV 0]⟩]) (ob := fun B1 => []) (fun B1 => An) ?_
 clear hf hM; intro a w1 B1 hf hM hB hk
 have hbB1 : w.heap.size ≤ B1 := by have := hk0.size; omega
 have hk0 := hk0.then hk (by intro i _ h; cases h)
 clear hk hB
 refine wpList_nil ?_
 refine hK1 _ _ ?_
 refine wp_seq_k (fun K2 hK2 => ?_)
 replace hM := hM.drew; replace hk0 := hk0.drew
 obtain ⟨Cq1, hCq1i, hCq1e⟩ := qcls fun w' => MemOk [⟨B1, 32, [iV x0, iV y0, iV x1, iV y1]⟩] w' ∧ Keep Nn w w' ∧ True
 refine sxdraw (C := Cq1) (.leaf [(0, true), (1, true), (2, true), (3, true), (4, true), (5, true), (6, true), (7, true), (8, true), (9, true), (10, false), (11, false)]) (by kernel_rfl) (by kernel_rfl) (by as_aux_lemma => kernel_rfl) rfl (by as_aux_lemma => kernel_rfl) (by kernel_rfl) (hCq1i _ ⟨hM.sub (.cons_cons _ (.cons _ (.cons _ .slnil))), hk0, trivial⟩) ?_
 refine sxleaf ?_
 have hC := (hCq1i _ ⟨hM.sub (.cons_cons _ (.cons _ (.cons _ .slnil))), hk0, trivial⟩)
 refine qd hf hC (fun w' h => (hCq1e w' h).1) [3, 2] [{}, { os := [.ld 0 0] }, {}, { os := [.ld 0 1] }, { sp := true }, {}, { os := [.ld 0 2] }, {}, { os := [.ld 0 3] }, { sp := true }] (nw := [(13, .val (.agg #[iV x1, iV y1])), (8, .val (.agg #[iV x0, iV y0]))]) (ob := [Ad B1 0, Ad B1 1, Ad B1 2, Ad B1 3]) (Ac (ad _ _) (Ac (ad _ _) (Ac (ad _ _) (Ao (ad _ _))))) ?_
 clear hf; intro a hf
 refine scstep rfl ?_
 have hMs : MemOk [⟨B1 + 1, 46, [iV 0, iV 0]⟩] w1.drew := hM.sub (.cons _ (.cons_cons _ (.cons _ .slnil)))
 refine q1 hf hMs [13, 3, 2] [{ os := [.st 0 0, .st 0 1] }] (nw := fun B2 => []) (M' := fun B2 => [⟨B1 + 1, 46, [iV x0, iV y0]⟩]) (ob := fun B2 => [Ad (B1 + 1) 0, Ad (B1 + 1) 1]) (fun B2 => (Ac (ad _ _) (Ao (ad _ _)))) ?_
 clear hf hMs; intro a w2 B2 hf hMs hB hk; clear hB
 have hM : MemOk [⟨B1, 32, [iV x0, iV y0, iV x1, iV y1]⟩, ⟨B1 + 1, 46, [iV x0, iV y0]⟩, ⟨B1 + 2, 46, [iV 0, iV 0]⟩] w2 := MemOk.upd (M1 := [⟨B1, 32, [iV x0, iV y0, iV x1, iV y1]⟩]) (M2 := [⟨B1 + 2, 46, [iV 0, iV 0]⟩]) hM hk hMs rfl
 have hk0 := hk0.thenNew hk (by simp [Mem.names] <;> omega)
 clear hk hMs
 have hC := (hCq1i _ ⟨hM.sub (.cons_cons _ (.cons _ (.cons _ .slnil))), hk0, trivial⟩)
 refine scdone hC ?_
 refine scstep rfl ?_
 have hMs : MemOk [⟨B1 + 2, 46, [iV 0, iV 0]⟩] w2 := hM.sub (.cons _ (.cons _ (.cons_cons _ .slnil)))
 refine q1 hf hMs [3, 2] [{ os := [.st 0 0, .st 0 1] }] (nw := fun B3 => []) (M' := fun B3 => [⟨B1 + 2, 46, [iV x1, iV y1]⟩]) (ob := fun B3 => [Ad (B1 + 2) 0, Ad (B1 + 2) 1]) (fun B3 => (Ac (ad _ _) (Ao (ad _ _)))) ?_
 clear hf hMs; intro a w3 B3 hf hMs hB hk; clear hB
 have hM : MemOk [⟨B1, 32, [iV x0, iV y0, iV x1, iV y1]⟩, ⟨B1 + 1, 46, [iV x0, iV y0]⟩, ⟨B1 + 2, 46, [iV x1, iV y1]⟩] w3 := MemOk.upd (M1 := [⟨B1, 32, [iV x0, iV y0, iV x1, iV y1]⟩, ⟨B1 + 1, 46, [iV x0, iV y0]⟩]) (M2 := []) hM hk hMs rfl
 have hk0 := hk0.thenNew hk (by simp [Mem.names] <;> omega)
 clear hk hMs
 have hC := (hCq1i _ ⟨hM.sub (.cons_cons _ (.cons _ (.cons _ .slnil))), hk0, trivial⟩)
 refine scdone hC ?_
 clear hC
 show K2 _ _
 refine hK2 _ _ ?_
 refine wp_ret ?_
 refine qr (fn := Tryd.f57) hf hM [.ld 1 0, .ld 1 1, .ld 2 0, .ld 2 1] (l := [.agg #[iV x0, iV y0], .agg #[iV x1, iV y1]]) (ob := [Ad (B1 + 1) 0, Ad (B1 + 1) 1, Ad (B1 + 2) 0, Ad (B1 + 2) 1]) (Ac (ad _ _) (Ac (ad _ _) (Ac (ad _ _) (Ao (ad _ _))))) ?_
 show (.tuple #[.agg #[iV x0, iV y0], .agg #[iV x1, iV y1]] : Value) = .tuple #[.agg #[.int .i64 x0, .int .i64 y0], .agg #[.int .i64 x1, .int .i64 y1]] ∧ Keep Nn w w3
 exact ⟨rfl, hk0⟩

set_option maxRecDepth 10000 in
set_option maxHeartbeats 1600000 in
theorem right_box (x0 y0 x1 y1 : Int) (w : World) :
    Calls Tryd.prog 56 #[.agg #[iV x0, iV y0, iV x1, iV y1]] w (Ret fun v w' => v = .bool (boxRight x0 y0 x1 y1) ∧ Keep Nn w w') := by
 refine sxenter (n := 30) (args := [.agg #[iV x0, iV y0, iV x1, iV y1]]) Tryd.func56 rfl rfl rfl fun a hf => ?_
 replace hf : Fr 30 [(0, .val (.agg #[iV x0, iV y0, iV x1, iV y1]))] a := hf
 have hM : MemOk [] w := MemOk.nil w
 have hk0 : Keep Nn w w := Keep.refl _ _
 refine wp_seq_k (fun K1 hK1 => ?_)
 refine wp_region_lit ?_
 refine q1 hf hM [] [{ os := [.nw] }, {}] (nw := fun B1 => [(1, eP B1 0)]) (M' := fun B1 => [⟨B1, 32, [iV x0, iV y0, iV x1, iV y1]⟩]) (ob := fun B1 => []) (fun B1 => An) ?_
 clear hf hM; intro a w1 B1 hf hM hB hk
 have hbB1 : w.heap.size ≤ B1 := by have := hk0.size; omega
 have hk0 := hk0.then hk (by intro i _ h; cases h)
 clear hk hB
 refine wpList_nil ?_
 refine hK1 _ _ ?_
 refine wp_seq_k (fun K2 hK2 => ?_)
 refine wp_region_lit ?_
 refine q0 hf hM [1] [{ os := [.ld 0 0, .ld 0 1, .ld 0 2, .ld 0 3] }] (nw := [(6, .val (.agg #[iV x0, iV y0, iV x1, iV y1]))]) (ob := [Ad B1 0, Ad B1 1, Ad B1 2, Ad B1 3]) (Ac (ad _ _) (Ac (ad _ _) (Ac (ad _ _) (Ao (ad _ _))))) ?_
 clear hf; intro a hf
 refine sxcall hf rfl rfl rfl rfl (g := 57) (vs := [.agg #[iV x0, iV y0, iV x1, iV y1]]) (ob := []) (by as_aux_lemma => kernel_rfl) An enters57 (corners_any x0 y0 x1 y1 w1  ) ?_
 clear hf; rintro _ w2 a ⟨rfl, hk⟩ hf
 have hM := hM.keepNn hk
 have hk0 := hk0.trans hk.nn
 clear hk
 refine q1 hf hM [1] [{}, {}, {}, { os := [.nw] }, { os := [.nw] }, { os := [.st 1 0, .st 1 1] }, { os := [.st 2 0, .st 2 1] }] (nw := fun B3 => [(4, eP (B3 + 1) 0), (3, eP B3 0)]) (M' := fun B3 => [⟨B1, 32, [iV x0, iV y0, iV x1, iV y1]⟩, ⟨B3, 46, [iV x0, iV y0]⟩, ⟨B3 + 1, 46, [iV x1, iV y1]⟩]) (ob := fun B3 => [Ad B3 0, Ad B3 1, Ad (B3 + 1) 0, Ad (B3 + 1) 1]) (fun B3 => (Ac (ad _ _) (Ac (ad _ _) (Ac (ad _ _) (Ao (ad _ _)))))) ?_
 clear hf hM; intro a w3 B3 hf hM hB hk
 have hbB3 : w.heap.size ≤ B3 := by have := hk0.size; omega
 have hk0 := hk0.thenNew hk (by simp [Mem.names] <;> omega)
 clear hk hB
 refine wpList_nil ?_
 refine hK2 _ _ ?_
 refine wp_seq_k (fun K3 hK3 => ?_)
 refine wp_region_lit ?_
 refine q0 hf hM [4, 3] [{}, { os := [.ld 0 0] }, {}, { os := [.ld 0 2] }, {}, {}, { g := .sym }, { g := .sym, os := [.ld 0 1] }, { g := .sym }, { g := .sym, os := [.ld 0 3] }, { g := .sym }, { hint := some (bV ((decide ((x0 : Int) ≤ x1)) && (decide ((y0 : Int) ≤ y1)))) }, {}] (nw := [(22, eB ((decide ((x0 : Int) ≤ x1)) && (decide ((y0 : Int) ≤ y1))))]) (ob := [Ad B1 0, Ad B1 2, ((decide ((x0 : Int) ≤ x1)) = true → (decide ((x0 : Int) ≤ x1)) = (decide ((x0 : Int) ≤ x1))), ((decide ((x0 : Int) ≤ x1)) = true → Ad B1 1), ((decide ((x0 : Int) ≤ x1)) = true → (decide ((x0 : Int) ≤ x1)) = (decide ((x0 : Int) ≤ x1))), ((decide ((x0 : Int) ≤ x1)) = true → Ad B1 3), ((decide ((x0 : Int) ≤ x1)) = true → (decide ((x0 : Int) ≤ x1)) = (decide ((x0 : Int) ≤ x1))), ((decide ((x0 : Int) ≤ x1)) = true → (decide ((x0 : Int) ≤ x1)) = (decide ((x0 : Int) ≤ x1))), ((decide ((x0 : Int) ≤ x1)) = true → (decide ((x0 : Int) ≤ x1)) = (decide ((x0 : Int) ≤ x1))), (bif (decide ((x0 : Int) ≤ x1)) then (bV (decide ((y0 : Int) ≤ y1)) : Value) else bV false) = .bool ((decide ((x0 : Int) ≤ x1)) && (decide ((y0 : Int) ≤ y1)))]) (Ac (ad _ _) (Ac (ad _ _) (Ac (fun hgd => rfl) (Ac (fun hgd => ad _ _) (Ac (fun hgd => rfl) (Ac (fun hgd => ad _ _) (Ac (fun hgd => rfl) (Ac (fun hgd => rfl) (Ac (fun _ => rfl) (Ao (pick_and _ _))))))))))) ?_
 clear hf; intro a hf
 rcases Bool.eq_false_or_eq_true ((decide ((x0 : Int) ≤ x1)) && (decide ((y0 : Int) ≤ y1))) with hg1r | hg1r
 · have hg1 := hg1r
   try simp only [Bool.or_eq_true, Bool.and_eq_true, Bool.not_eq_true', Bool.not_eq_false', Bool.or_eq_false_iff, Bool.and_eq_false_iff, decide_eq_true_eq, decide_eq_false_iff_not, beq_iff_eq, bne_iff_ne, beq_eq_false_iff_ne, bne_eq_false_iff_eq, Bool.and_true, Bool.true_and, ne_eq] at hg1
   have hf := hf.setb 22 hg1r
   refine q0 hf hM [22, 4] [{ os := [.ld 1 0, .ld 1 1] }] (nw := [(23, .val (.agg #[iV x0, iV y0]))]) (ob := [true = true, Ad B3 0, Ad B3 1]) (Ac rfl (Ac (ad _ _) (Ao (ad _ _)))) ?_
   clear hf; intro a hf
   refine sxcallg hf rfl rfl rfl rfl rfl (g := 74) (vs := [.agg #[iV x0, iV y0]]) (ob := []) (by as_aux_lemma => kernel_rfl) An enters74 (reach_any x0 y0 w3  ) ?_
   clear hf; rintro _ w4 a ⟨rfl, hk⟩ hf
   have hM := hM.keepNn hk
   have hk0 := hk0.trans hk.nn
   clear hk
   refine q0 hf hM [4] [{}, {}] (nw := [(26, eB (reach x0 y0))]) An ?_
   clear hf; intro a hf
   rcases Bool.eq_false_or_eq_true (reach x0 y0) with hg2r | hg2r
   · have hg2 := hg2r
     have hf := hf.setb 26 hg2r
     refine q0 hf hM [26] [{ os := [.ld 2 0, .ld 2 1] }] (nw := [(27, .val (.agg #[iV x1, iV y1]))]) (ob := [true = true, Ad (B3 + 1) 0, Ad (B3 + 1) 1]) (Ac rfl (Ac (ad _ _) (Ao (ad _ _)))) ?_
     clear hf; intro a hf
     refine sxcallg hf rfl rfl rfl rfl rfl (g := 74) (vs := [.agg #[iV x1, iV y1]]) (ob := []) (by as_aux_lemma => kernel_rfl) An enters74 (reach_any x1 y1 w4  ) ?_
     clear hf; rintro _ w5 a ⟨rfl, hk⟩ hf
     have hM := hM.keepNn hk
     have hk0 := hk0.trans hk.nn
     clear hk
     refine q0 hf hM [] [{}, {}] (nw := [(2, eB (reach x1 y1))]) An ?_
     clear hf; intro a hf
     refine wpList_nil ?_
     refine hK3 _ _ ?_
     refine wp_ret ?_
     refine qr (fn := Tryd.f56) hf hM [] (l := [bV (reach x1 y1)]) (ob := []) An ?_
     show (bV (reach x1 y1) : Value) = .bool (boxRight x0 y0 x1 y1) ∧ Keep Nn w w5
     refine ⟨congrArg Value.bool ?_, hk0⟩
     rw [Bool.eq_iff_iff]
     simp only [reach, boxRight, Bool.or_eq_true, Bool.and_eq_true, Bool.not_eq_true', Bool.not_eq_false', Bool.or_eq_false_iff, Bool.and_eq_false_iff, decide_eq_true_eq, decide_eq_false_iff_not, beq_iff_eq, Bool.false_eq_true, Bool.true_eq_false, false_iff, true_iff, iff_true, iff_false, not_true, not_false_iff, true_and, and_true, false_and, and_false, ge_iff_le, gt_iff_lt] at *
     try omega
   · have hg2 := hg2r
     have hf := hf.setb 26 hg2r
     refine q0 hf hM [26] [{ g := .off }] (nw := [(27, .val (undef))]) (ob := [false = !true]) (Ao rfl) ?_
     clear hf; intro a hf
     refine q0 hf hM [] [{ g := .off }, {}, {}] (nw := [(2, eB false)]) (ob := [false = !true]) (Ao rfl) ?_
     clear hf; intro a hf
     refine wpList_nil ?_
     refine hK3 _ _ ?_
     refine wp_ret ?_
     refine qr (fn := Tryd.f56) hf hM [] (l := [bV false]) (ob := []) An ?_
     show (bV false : Value) = .bool (boxRight x0 y0 x1 y1) ∧ Keep Nn w w4
     refine ⟨congrArg Value.bool ?_, hk0⟩
     rw [Bool.eq_iff_iff]
     simp only [reach, boxRight, Bool.or_eq_true, Bool.and_eq_true, Bool.not_eq_true', Bool.not_eq_false', Bool.or_eq_false_iff, Bool.and_eq_false_iff, decide_eq_true_eq, decide_eq_false_iff_not, beq_iff_eq, Bool.false_eq_true, Bool.true_eq_false, false_iff, true_iff, iff_true, iff_false, not_true, not_false_iff, true_and, and_true, false_and, and_false, ge_iff_le, gt_iff_lt] at *
     try omega
 · have hg1 := hg1r
   try simp only [Bool.or_eq_true, Bool.and_eq_true, Bool.not_eq_true', Bool.not_eq_false', Bool.or_eq_false_iff, Bool.and_eq_false_iff, decide_eq_true_eq, decide_eq_false_iff_not, beq_iff_eq, bne_iff_ne, beq_eq_false_iff_ne, bne_eq_false_iff_eq, Bool.and_true, Bool.true_and, ne_eq] at hg1
   have hf := hf.setb 22 hg1r
   refine q0 hf hM [22, 4] [{ g := .off }] (nw := [(23, .val (undef))]) (ob := [false = !true]) (Ao rfl) ?_
   clear hf; intro a hf
   refine q0 hf hM [] [{ g := .off }, {}, {}, { g := .off }] (nw := [(27, .val (undef)), (26, eB false)]) (ob := [false = !true, false = !true]) (Ac rfl (Ao rfl)) ?_
   clear hf; intro a hf
   refine q0 hf hM [] [{ g := .off }, {}, {}] (nw := [(2, eB false)]) (ob := [false = !true]) (Ao rfl) ?_
   clear hf; intro a hf
   refine wpList_nil ?_
   refine hK3 _ _ ?_
   refine wp_ret ?_
   refine qr (fn := Tryd.f56) hf hM [] (l := [bV false]) (ob := []) An ?_
   show (bV false : Value) = .bool (boxRight x0 y0 x1 y1) ∧ Keep Nn w w3
   refine ⟨congrArg Value.bool ?_, hk0⟩
   rw [Bool.eq_iff_iff]
   simp only [reach, boxRight, Bool.or_eq_true, Bool.and_eq_true, Bool.not_eq_true', Bool.not_eq_false', Bool.or_eq_false_iff, Bool.and_eq_false_iff, decide_eq_true_eq, decide_eq_false_iff_not, beq_iff_eq, Bool.false_eq_true, Bool.true_eq_false, false_iff, true_iff, iff_true, iff_false, not_true, not_false_iff, true_and, and_true, false_and, and_false, ge_iff_le, gt_iff_lt] at *
   try omega

set_option maxRecDepth 10000 in
set_option maxHeartbeats 1600000 in
theorem has_any (x0 y0 x1 y1 : Int) (px py : Int) (w : World) :
    Calls Tryd.prog 58 #[.agg #[iV x0, iV y0, iV x1, iV y1], .agg #[iV px, iV py]] w (Ret fun v w' => v = .bool (boxHas x0 y0 x1 y1 px py) ∧ Keep Nn w w') := by
 refine sxenter (n := 35) (args := [.agg #[iV x0, iV y0, iV x1, iV y1], .agg #[iV px, iV py]]) Tryd.func58 rfl rfl rfl fun a hf => ?_
 replace hf : Fr 35 [(0, .val (.agg #[iV x0, iV y0, iV x1, iV y1])), (1, .val (.agg #[iV px, iV py]))] a := hf
 have hM : MemOk [] w := MemOk.nil w
 have hk0 : Keep Nn w w := Keep.refl _ _
 refine wp_seq_k (fun K1 hK1 => ?_)
 refine wp_region_lit ?_
 refine q1 hf hM [] [{ os := [.nw] }, { os := [.nw] }, {}] (nw := fun B1 => [(3, eP (B1 + 1) 0), (2, eP B1 0)]) (M' := fun B1 => [⟨B1, 32, [iV x0, iV y0, iV x1, iV y1]⟩, ⟨B1 + 1, 46, [iV px, iV py]⟩]) (ob := fun B1 => []) (fun B1 => An) ?_
 clear hf hM; intro a w1 B1 hf hM hB hk
 have hbB1 : w.heap.size ≤ B1 := by have := hk0.size; omega
 have hk0 := hk0.then hk (by intro i _ h; cases h)
 clear hk hB
 refine wpList_nil ?_
 refine hK1 _ _ ?_
 refine wp_seq_k (fun K2 hK2 => ?_)
 refine wp_region_lit ?_
 refine q0 hf hM [3, 2] [{ os := [.ld 0 0, .ld 0 1, .ld 0 2, .ld 0 3] }] (nw := [(5, .val (.agg #[iV x0, iV y0, iV x1, iV y1]))]) (ob := [Ad B1 0, Ad B1 1, Ad B1 2, Ad B1 3]) (Ac (ad _ _) (Ac (ad _ _) (Ac (ad _ _) (Ao (ad _ _))))) ?_
 clear hf; intro a hf
 refine sxcall hf rfl rfl rfl rfl (g := 56) (vs := [.agg #[iV x0, iV y0, iV x1, iV y1]]) (ob := []) (by as_aux_lemma => kernel_rfl) An enters56 (right_box x0 y0 x1 y1 w1  ) ?_
 clear hf; rintro _ w2 a ⟨rfl, hk⟩ hf
 have hM := hM.keepNn hk
 have hk0 := hk0.trans hk.nn
 clear hk
 refine q0 hf hM [] [{}, { g := .sym }, { g := .sym, os := [.ld 1 0] }, { g := .sym }, { g := .sym, os := [.ld 0 0] }, { g := .sym }, { hint := some (bV ((boxRight x0 y0 x1 y1) && (decide ((px : Int) ≥ x0)))) }, {}, { g := .sym }, { g := .sym, os := [.ld 1 0] }, { g := .sym }, { g := .sym, os := [.ld 0 2] }, { g := .sym }, { hint := some (bV (((boxRight x0 y0 x1 y1) && (decide ((px : Int) ≥ x0))) && (decide ((px : Int) ≤ x1)))) }, {}, { g := .sym }, { g := .sym, os := [.ld 1 1] }, { g := .sym }, { g := .sym, os := [.ld 0 1] }, { g := .sym }, { hint := some (bV ((((boxRight x0 y0 x1 y1) && (decide ((px : Int) ≥ x0))) && (decide ((px : Int) ≤ x1))) && (decide ((py : Int) ≥ y0)))) }, {}, { g := .sym }, { g := .sym, os := [.ld 1 1] }, { g := .sym }, { g := .sym, os := [.ld 0 3] }, { g := .sym }, { hint := some (bV (((((boxRight x0 y0 x1 y1) && (decide ((px : Int) ≥ x0))) && (decide ((px : Int) ≤ x1))) && (decide ((py : Int) ≥ y0))) && (decide ((py : Int) ≤ y1)))) }, {}] (nw := [(4, eB (((((boxRight x0 y0 x1 y1) && (decide ((px : Int) ≥ x0))) && (decide ((px : Int) ≤ x1))) && (decide ((py : Int) ≥ y0))) && (decide ((py : Int) ≤ y1))))]) (ob := [((boxRight x0 y0 x1 y1) = true → (boxRight x0 y0 x1 y1) = (boxRight x0 y0 x1 y1)), ((boxRight x0 y0 x1 y1) = true → Ad (B1 + 1) 0), ((boxRight x0 y0 x1 y1) = true → (boxRight x0 y0 x1 y1) = (boxRight x0 y0 x1 y1)), ((boxRight x0 y0 x1 y1) = true → Ad B1 0), ((boxRight x0 y0 x1 y1) = true → (boxRight x0 y0 x1 y1) = (boxRight x0 y0 x1 y1)), ((boxRight x0 y0 x1 y1) = true → (boxRight x0 y0 x1 y1) = (boxRight x0 y0 x1 y1)), ((boxRight x0 y0 x1 y1) = true → (boxRight x0 y0 x1 y1) = (boxRight x0 y0 x1 y1)), (bif boxRight x0 y0 x1 y1 then (bV (decide ((px : Int) ≥ x0)) : Value) else bV false) = .bool ((boxRight x0 y0 x1 y1) && (decide ((px : Int) ≥ x0))), (((boxRight x0 y0 x1 y1) && (decide ((px : Int) ≥ x0))) = true → ((boxRight x0 y0 x1 y1) && (decide ((px : Int) ≥ x0))) = ((boxRight x0 y0 x1 y1) && (decide ((px : Int) ≥ x0)))), (((boxRight x0 y0 x1 y1) && (decide ((px : Int) ≥ x0))) = true → Ad (B1 + 1) 0), (((boxRight x0 y0 x1 y1) && (decide ((px : Int) ≥ x0))) = true → ((boxRight x0 y0 x1 y1) && (decide ((px : Int) ≥ x0))) = ((boxRight x0 y0 x1 y1) && (decide ((px : Int) ≥ x0)))), (((boxRight x0 y0 x1 y1) && (decide ((px : Int) ≥ x0))) = true → Ad B1 2), (((boxRight x0 y0 x1 y1) && (decide ((px : Int) ≥ x0))) = true → ((boxRight x0 y0 x1 y1) && (decide ((px : Int) ≥ x0))) = ((boxRight x0 y0 x1 y1) && (decide ((px : Int) ≥ x0)))), (((boxRight x0 y0 x1 y1) && (decide ((px : Int) ≥ x0))) = true → ((boxRight x0 y0 x1 y1) && (decide ((px : Int) ≥ x0))) = ((boxRight x0 y0 x1 y1) && (decide ((px : Int) ≥ x0)))), (((boxRight x0 y0 x1 y1) && (decide ((px : Int) ≥ x0))) = true → ((boxRight x0 y0 x1 y1) && (decide ((px : Int) ≥ x0))) = ((boxRight x0 y0 x1 y1) && (decide ((px : Int) ≥ x0)))), (bif ((boxRight x0 y0 x1 y1) && (decide ((px : Int) ≥ x0))) then (bV (decide ((px : Int) ≤ x1)) : Value) else bV false) = .bool (((boxRight x0 y0 x1 y1) && (decide ((px : Int) ≥ x0))) && (decide ((px : Int) ≤ x1))), ((((boxRight x0 y0 x1 y1) && (decide ((px : Int) ≥ x0))) && (decide ((px : Int) ≤ x1))) = true → (((boxRight x0 y0 x1 y1) && (decide ((px : Int) ≥ x0))) && (decide ((px : Int) ≤ x1))) = (((boxRight x0 y0 x1 y1) && (decide ((px : Int) ≥ x0))) && (decide ((px : Int) ≤ x1)))), ((((boxRight x0 y0 x1 y1) && (decide ((px : Int) ≥ x0))) && (decide ((px : Int) ≤ x1))) = true → Ad (B1 + 1) 1), ((((boxRight x0 y0 x1 y1) && (decide ((px : Int) ≥ x0))) && (decide ((px : Int) ≤ x1))) = true → (((boxRight x0 y0 x1 y1) && (decide ((px : Int) ≥ x0))) && (decide ((px : Int) ≤ x1))) = (((boxRight x0 y0 x1 y1) && (decide ((px : Int) ≥ x0))) && (decide ((px : Int) ≤ x1)))), ((((boxRight x0 y0 x1 y1) && (decide ((px : Int) ≥ x0))) && (decide ((px : Int) ≤ x1))) = true → Ad B1 1), ((((boxRight x0 y0 x1 y1) && (decide ((px : Int) ≥ x0))) && (decide ((px : Int) ≤ x1))) = true → (((boxRight x0 y0 x1 y1) && (decide ((px : Int) ≥ x0))) && (decide ((px : Int) ≤ x1))) = (((boxRight x0 y0 x1 y1) && (decide ((px : Int) ≥ x0))) && (decide ((px : Int) ≤ x1)))), ((((boxRight x0 y0 x1 y1) && (decide ((px : Int) ≥ x0))) && (decide ((px : Int) ≤ x1))) = true → (((boxRight x0 y0 x1 y1) && (decide ((px : Int) ≥ x0))) && (decide ((px : Int) ≤ x1))) = (((boxRight x0 y0 x1 y1) && (decide ((px : Int) ≥ x0))) && (decide ((px : Int) ≤ x1)))), ((((boxRight x0 y0 x1 y1) && (decide ((px : Int) ≥ x0))) && (decide ((px : Int) ≤ x1))) = true → (((boxRight x0 y0 x1 y1) && (decide ((px : Int) ≥ x0))) && (decide ((px : Int) ≤ x1))) = (((boxRight x0 y0 x1 y1) && (decide ((px : Int) ≥ x0))) && (decide ((px : Int) ≤ x1)))), (bif (((boxRight x0 y0 x1 y1) && (decide ((px : Int) ≥ x0))) && (decide ((px : Int) ≤ x1))) then (bV (decide ((py : Int) ≥ y0)) : Value) else bV false) = .bool ((((boxRight x0 y0 x1 y1) && (decide ((px : Int) ≥ x0))) && (decide ((px : Int) ≤ x1))) && (decide ((py : Int) ≥ y0))), (((((boxRight x0 y0 x1 y1) && (decide ((px : Int) ≥ x0))) && (decide ((px : Int) ≤ x1))) && (decide ((py : Int) ≥ y0))) = true → ((((boxRight x0 y0 x1 y1) && (decide ((px : Int) ≥ x0))) && (decide ((px : Int) ≤ x1))) && (decide ((py : Int) ≥ y0))) = ((((boxRight x0 y0 x1 y1) && (decide ((px : Int) ≥ x0))) && (decide ((px : Int) ≤ x1))) && (decide ((py : Int) ≥ y0)))), (((((boxRight x0 y0 x1 y1) && (decide ((px : Int) ≥ x0))) && (decide ((px : Int) ≤ x1))) && (decide ((py : Int) ≥ y0))) = true → Ad (B1 + 1) 1), (((((boxRight x0 y0 x1 y1) && (decide ((px : Int) ≥ x0))) && (decide ((px : Int) ≤ x1))) && (decide ((py : Int) ≥ y0))) = true → ((((boxRight x0 y0 x1 y1) && (decide ((px : Int) ≥ x0))) && (decide ((px : Int) ≤ x1))) && (decide ((py : Int) ≥ y0))) = ((((boxRight x0 y0 x1 y1) && (decide ((px : Int) ≥ x0))) && (decide ((px : Int) ≤ x1))) && (decide ((py : Int) ≥ y0)))), (((((boxRight x0 y0 x1 y1) && (decide ((px : Int) ≥ x0))) && (decide ((px : Int) ≤ x1))) && (decide ((py : Int) ≥ y0))) = true → Ad B1 3), (((((boxRight x0 y0 x1 y1) && (decide ((px : Int) ≥ x0))) && (decide ((px : Int) ≤ x1))) && (decide ((py : Int) ≥ y0))) = true → ((((boxRight x0 y0 x1 y1) && (decide ((px : Int) ≥ x0))) && (decide ((px : Int) ≤ x1))) && (decide ((py : Int) ≥ y0))) = ((((boxRight x0 y0 x1 y1) && (decide ((px : Int) ≥ x0))) && (decide ((px : Int) ≤ x1))) && (decide ((py : Int) ≥ y0)))), (((((boxRight x0 y0 x1 y1) && (decide ((px : Int) ≥ x0))) && (decide ((px : Int) ≤ x1))) && (decide ((py : Int) ≥ y0))) = true → ((((boxRight x0 y0 x1 y1) && (decide ((px : Int) ≥ x0))) && (decide ((px : Int) ≤ x1))) && (decide ((py : Int) ≥ y0))) = ((((boxRight x0 y0 x1 y1) && (decide ((px : Int) ≥ x0))) && (decide ((px : Int) ≤ x1))) && (decide ((py : Int) ≥ y0)))), (((((boxRight x0 y0 x1 y1) && (decide ((px : Int) ≥ x0))) && (decide ((px : Int) ≤ x1))) && (decide ((py : Int) ≥ y0))) = true → ((((boxRight x0 y0 x1 y1) && (decide ((px : Int) ≥ x0))) && (decide ((px : Int) ≤ x1))) && (decide ((py : Int) ≥ y0))) = ((((boxRight x0 y0 x1 y1) && (decide ((px : Int) ≥ x0))) && (decide ((px : Int) ≤ x1))) && (decide ((py : Int) ≥ y0)))), (bif ((((boxRight x0 y0 x1 y1) && (decide ((px : Int) ≥ x0))) && (decide ((px : Int) ≤ x1))) && (decide ((py : Int) ≥ y0))) then (bV (decide ((py : Int) ≤ y1)) : Value) else bV false) = .bool (((((boxRight x0 y0 x1 y1) && (decide ((px : Int) ≥ x0))) && (decide ((px : Int) ≤ x1))) && (decide ((py : Int) ≥ y0))) && (decide ((py : Int) ≤ y1)))]) (Ac (fun hgd => rfl) (Ac (fun hgd => ad _ _) (Ac (fun hgd => rfl) (Ac (fun hgd => ad _ _) (Ac (fun hgd => rfl) (Ac (fun hgd => rfl) (Ac (fun _ => rfl) (Ac (pick_and _ _) (Ac (fun hgd => rfl) (Ac (fun hgd => ad _ _) (Ac (fun hgd => rfl) (Ac (fun hgd => ad _ _) (Ac (fun hgd => rfl) (Ac (fun hgd => rfl) (Ac (fun _ => rfl) (Ac (pick_and _ _) (Ac (fun hgd => rfl) (Ac (fun hgd => ad _ _) (Ac (fun hgd => rfl) (Ac (fun hgd => ad _ _) (Ac (fun hgd => rfl) (Ac (fun hgd => rfl) (Ac (fun _ => rfl) (Ac (pick_and _ _) (Ac (fun hgd => rfl) (Ac (fun hgd => ad _ _) (Ac (fun hgd => rfl) (Ac (fun hgd => ad _ _) (Ac (fun hgd => rfl) (Ac (fun hgd => rfl) (Ac (fun _ => rfl) (Ao (pick_and _ _))))))))))))))))))))))))))))))))) ?_
 clear hf; intro a hf
 refine wpList_nil ?_
 refine hK2 _ _ ?_
 refine wp_ret ?_
 refine qr (fn := Tryd.f58) hf hM [] (l := [bV (((((boxRight x0 y0 x1 y1) && (decide ((px : Int) ≥ x0))) && (decide ((px : Int) ≤ x1))) && (decide ((py : Int) ≥ y0))) && (decide ((py : Int) ≤ y1)))]) (ob := []) An ?_
 show (bV (((((boxRight x0 y0 x1 y1) && (decide ((px : Int) ≥ x0))) && (decide ((px : Int) ≤ x1))) && (decide ((py : Int) ≥ y0))) && (decide ((py : Int) ≤ y1))) : Value) = .bool (boxHas x0 y0 x1 y1 px py) ∧ Keep Nn w w2
 refine ⟨congrArg Value.bool ?_, hk0⟩
 rw [Bool.eq_iff_iff]
 simp only [boxHas, boxRight, Bool.or_eq_true, Bool.and_eq_true, Bool.not_eq_true', Bool.not_eq_false', Bool.or_eq_false_iff, Bool.and_eq_false_iff, decide_eq_true_eq, decide_eq_false_iff_not, beq_iff_eq, Bool.false_eq_true, Bool.true_eq_false, false_iff, true_iff, iff_true, iff_false, not_true, not_false_iff, true_and, and_true, false_and, and_false, ge_iff_le, gt_iff_lt] at *
 try omega

set_option maxRecDepth 10000 in
set_option maxHeartbeats 1600000 in
theorem inside_any (a0 b0 a1 b1 x0 y0 x1 y1 : Int) (w : World) :
    Calls Tryd.prog 31 #[.agg #[iV a0, iV b0, iV a1, iV b1], .agg #[iV x0, iV y0, iV x1, iV y1]] w (Ret fun v w' => v = .bool (boxInside a0 b0 a1 b1 x0 y0 x1 y1) ∧ Keep Nn w w') := by
 refine sxenter (n := 24) (args := [.agg #[iV a0, iV b0, iV a1, iV b1], .agg #[iV x0, iV y0, iV x1, iV y1]]) Tryd.func31 rfl rfl rfl fun a hf => ?_
 replace hf : Fr 24 [(0, .val (.agg #[iV a0, iV b0, iV a1, iV b1])), (1, .val (.agg #[iV x0, iV y0, iV x1, iV y1]))] a := hf
 have hM : MemOk [] w := MemOk.nil w
 have hk0 : Keep Nn w w := Keep.refl _ _
 refine wp_seq_k (fun K1 hK1 => ?_)
 refine wp_region_lit ?_
 refine q1 hf hM [] [{ os := [.nw] }, { os := [.nw] }, {}] (nw := fun B1 => [(3, eP (B1 + 1) 0), (2, eP B1 0)]) (M' := fun B1 => [⟨B1, 32, [iV a0, iV b0, iV a1, iV b1]⟩, ⟨B1 + 1, 32, [iV x0, iV y0, iV x1, iV y1]⟩]) (ob := fun B1 => []) (fun B1 => An) ?_
 clear hf hM; intro a w1 B1 hf hM hB hk
 have hbB1 : w.heap.size ≤ B1 := by have := hk0.size; omega
 have hk0 := hk0.then hk (by intro i _ h; cases h)
 clear hk hB
 refine wpList_nil ?_
 refine hK1 _ _ ?_
 refine wp_seq_k (fun K2 hK2 => ?_)
 refine wp_region_lit ?_
 refine q0 hf hM [3, 2] [{ os := [.ld 0 0, .ld 0 1, .ld 0 2, .ld 0 3] }] (nw := [(8, .val (.agg #[iV a0, iV b0, iV a1, iV b1]))]) (ob := [Ad B1 0, Ad B1 1, Ad B1 2, Ad B1 3]) (Ac (ad _ _) (Ac (ad _ _) (Ac (ad _ _) (Ao (ad _ _))))) ?_
 clear hf; intro a hf
 refine sxcall hf rfl rfl rfl rfl (g := 57) (vs := [.agg #[iV a0, iV b0, iV a1, iV b1]]) (ob := []) (by as_aux_lemma => kernel_rfl) An enters57 (corners_any a0 b0 a1 b1 w1  ) ?_
 clear hf; rintro _ w2 a ⟨rfl, hk⟩ hf
 have hM := hM.keepNn hk
 have hk0 := hk0.trans hk.nn
 clear hk
 refine q1 hf hM [3, 2] [{}, {}, {}, { os := [.nw] }, { os := [.nw] }, { os := [.st 2 0, .st 2 1] }, { os := [.st 3 0, .st 3 1] }] (nw := fun B3 => [(6, eP (B3 + 1) 0), (5, eP B3 0)]) (M' := fun B3 => [⟨B1, 32, [iV a0, iV b0, iV a1, iV b1]⟩, ⟨B1 + 1, 32, [iV x0, iV y0, iV x1, iV y1]⟩, ⟨B3, 46, [iV a0, iV b0]⟩, ⟨B3 + 1, 46, [iV a1, iV b1]⟩]) (ob := fun B3 => [Ad B3 0, Ad B3 1, Ad (B3 + 1) 0, Ad (B3 + 1) 1]) (fun B3 => (Ac (ad _ _) (Ac (ad _ _) (Ac (ad _ _) (Ao (ad _ _)))))) ?_
 clear hf hM; intro a w3 B3 hf hM hB hk
 have hbB3 : w.heap.size ≤ B3 := by have := hk0.size; omega
 have hk0 := hk0.thenNew hk (by simp [Mem.names] <;> omega)
 clear hk hB
 refine wpList_nil ?_
 refine hK2 _ _ ?_
 refine wp_seq_k (fun K3 hK3 => ?_)
 refine wp_region_lit ?_
 refine q0 hf hM [6, 5, 3] [{ os := [.ld 0 0, .ld 0 1, .ld 0 2, .ld 0 3] }] (nw := [(12, .val (.agg #[iV a0, iV b0, iV a1, iV b1]))]) (ob := [Ad B1 0, Ad B1 1, Ad B1 2, Ad B1 3]) (Ac (ad _ _) (Ac (ad _ _) (Ac (ad _ _) (Ao (ad _ _))))) ?_
 clear hf; intro a hf
 refine sxcall hf rfl rfl rfl rfl (g := 56) (vs := [.agg #[iV a0, iV b0, iV a1, iV b1]]) (ob := []) (by as_aux_lemma => kernel_rfl) An enters56 (right_box a0 b0 a1 b1 w3  ) ?_
 clear hf; rintro _ w4 a ⟨rfl, hk⟩ hf
 have hM := hM.keepNn hk
 have hk0 := hk0.trans hk.nn
 clear hk
 refine q0 hf hM [6, 5, 3] [{}] (nw := [(14, eB (boxRight a0 b0 a1 b1))]) An ?_
 clear hf; intro a hf
 rcases Bool.eq_false_or_eq_true (boxRight a0 b0 a1 b1) with hg1r | hg1r
 · have hg1 := hg1r
   have hf := hf.setb 14 hg1r
   refine q0 hf hM [14, 6, 3] [{ os := [.ld 1 0, .ld 1 1, .ld 1 2, .ld 1 3] }, { os := [.ld 2 0, .ld 2 1] }] (nw := [(16, .val (.agg #[iV a0, iV b0])), (15, .val (.agg #[iV x0, iV y0, iV x1, iV y1]))]) (ob := [true = true, Ad (B1 + 1) 0, Ad (B1 + 1) 1, Ad (B1 + 1) 2, Ad (B1 + 1) 3, true = true, Ad B3 0, Ad B3 1]) (Ac rfl (Ac (ad _ _) (Ac (ad _ _) (Ac (ad _ _) (Ac (ad _ _) (Ac rfl (Ac (ad _ _) (Ao (ad _ _))))))))) ?_
   clear hf; intro a hf
   refine sxcallg hf rfl rfl rfl rfl rfl (g := 58) (vs := [.agg #[iV x0, iV y0, iV x1, iV y1], .agg #[iV a0, iV b0]]) (ob := []) (by as_aux_lemma => kernel_rfl) An enters58 (has_any x0 y0 x1 y1 a0 b0 w4  ) ?_
   clear hf; rintro _ w5 a ⟨rfl, hk⟩ hf
   have hM := hM.keepNn hk
   have hk0 := hk0.trans hk.nn
   clear hk
   refine q0 hf hM [6, 3] [{}, {}] (nw := [(19, eB (boxHas x0 y0 x1 y1 a0 b0))]) An ?_
   clear hf; intro a hf
   rcases Bool.eq_false_or_eq_true (boxHas x0 y0 x1 y1 a0 b0) with hg2r | hg2r
   · have hg2 := hg2r
     have hf := hf.setb 19 hg2r
     refine q0 hf hM [19] [{ os := [.ld 1 0, .ld 1 1, .ld 1 2, .ld 1 3] }, { os := [.ld 3 0, .ld 3 1] }] (nw := [(21, .val (.agg #[iV a1, iV b1])), (20, .val (.agg #[iV x0, iV y0, iV x1, iV y1]))]) (ob := [true = true, Ad (B1 + 1) 0, Ad (B1 + 1) 1, Ad (B1 + 1) 2, Ad (B1 + 1) 3, true = true, Ad (B3 + 1) 0, Ad (B3 + 1) 1]) (Ac rfl (Ac (ad _ _) (Ac (ad _ _) (Ac (ad _ _) (Ac (ad _ _) (Ac rfl (Ac (ad _ _) (Ao (ad _ _))))))))) ?_
     clear hf; intro a hf
     refine sxcallg hf rfl rfl rfl rfl rfl (g := 58) (vs := [.agg #[iV x0, iV y0, iV x1, iV y1], .agg #[iV a1, iV b1]]) (ob := []) (by as_aux_lemma => kernel_rfl) An enters58 (has_any x0 y0 x1 y1 a1 b1 w5  ) ?_
     clear hf; rintro _ w6 a ⟨rfl, hk⟩ hf
     have hM := hM.keepNn hk
     have hk0 := hk0.trans hk.nn
     clear hk
     refine q0 hf hM [] [{}, {}] (nw := [(4, eB (boxHas x0 y0 x1 y1 a1 b1))]) An ?_
     clear hf; intro a hf
     refine wpList_nil ?_
     refine hK3 _ _ ?_
     refine wp_ret ?_
     refine qr (fn := Tryd.f31) hf hM [] (l := [bV (boxHas x0 y0 x1 y1 a1 b1)]) (ob := []) An ?_
     show (bV (boxHas x0 y0 x1 y1 a1 b1) : Value) = .bool (boxInside a0 b0 a1 b1 x0 y0 x1 y1) ∧ Keep Nn w w6
     refine ⟨congrArg Value.bool ?_, hk0⟩
     rw [Bool.eq_iff_iff]
     simp only [boxHas, boxInside, boxRight, Bool.or_eq_true, Bool.and_eq_true, Bool.not_eq_true', Bool.not_eq_false', Bool.or_eq_false_iff, Bool.and_eq_false_iff, decide_eq_true_eq, decide_eq_false_iff_not, beq_iff_eq, Bool.false_eq_true, Bool.true_eq_false, false_iff, true_iff, iff_true, iff_false, not_true, not_false_iff, true_and, and_true, false_and, and_false, ge_iff_le, gt_iff_lt] at *
     try omega
   · have hg2 := hg2r
     have hf := hf.setb 19 hg2r
     refine q0 hf hM [19] [{ g := .off }, { g := .off }] (nw := [(21, .val (undef)), (20, .val (undef))]) (ob := [false = !true, false = !true]) (Ac rfl (Ao rfl)) ?_
     clear hf; intro a hf
     refine q0 hf hM [] [{ g := .off }, {}, {}] (nw := [(4, eB false)]) (ob := [false = !true]) (Ao rfl) ?_
     clear hf; intro a hf
     refine wpList_nil ?_
     refine hK3 _ _ ?_
     refine wp_ret ?_
     refine qr (fn := Tryd.f31) hf hM [] (l := [bV false]) (ob := []) An ?_
     show (bV false : Value) = .bool (boxInside a0 b0 a1 b1 x0 y0 x1 y1) ∧ Keep Nn w w5
     refine ⟨congrArg Value.bool ?_, hk0⟩
     rw [Bool.eq_iff_iff]
     simp only [boxHas, boxInside, boxRight, Bool.or_eq_true, Bool.and_eq_true, Bool.not_eq_true', Bool.not_eq_false', Bool.or_eq_false_iff, Bool.and_eq_false_iff, decide_eq_true_eq, decide_eq_false_iff_not, beq_iff_eq, Bool.false_eq_true, Bool.true_eq_false, false_iff, true_iff, iff_true, iff_false, not_true, not_false_iff, true_and, and_true, false_and, and_false, ge_iff_le, gt_iff_lt] at *
     try omega
 · have hg1 := hg1r
   have hf := hf.setb 14 hg1r
   refine q0 hf hM [14, 6, 3] [{ g := .off }, { g := .off }] (nw := [(16, .val (undef)), (15, .val (undef))]) (ob := [false = !true, false = !true]) (Ac rfl (Ao rfl)) ?_
   clear hf; intro a hf
   refine q0 hf hM [] [{ g := .off }, {}, {}, { g := .off }, { g := .off }] (nw := [(21, .val (undef)), (20, .val (undef)), (19, eB false)]) (ob := [false = !true, false = !true, false = !true]) (Ac rfl (Ac rfl (Ao rfl))) ?_
   clear hf; intro a hf
   refine q0 hf hM [] [{ g := .off }, {}, {}] (nw := [(4, eB false)]) (ob := [false = !true]) (Ao rfl) ?_
   clear hf; intro a hf
   refine wpList_nil ?_
   refine hK3 _ _ ?_
   refine wp_ret ?_
   refine qr (fn := Tryd.f31) hf hM [] (l := [bV false]) (ob := []) An ?_
   show (bV false : Value) = .bool (boxInside a0 b0 a1 b1 x0 y0 x1 y1) ∧ Keep Nn w w4
   refine ⟨congrArg Value.bool ?_, hk0⟩
   rw [Bool.eq_iff_iff]
   simp only [boxHas, boxInside, boxRight, Bool.or_eq_true, Bool.and_eq_true, Bool.not_eq_true', Bool.not_eq_false', Bool.or_eq_false_iff, Bool.and_eq_false_iff, decide_eq_true_eq, decide_eq_false_iff_not, beq_iff_eq, Bool.false_eq_true, Bool.true_eq_false, false_iff, true_iff, iff_true, iff_false, not_true, not_false_iff, true_and, and_true, false_and, and_false, ge_iff_le, gt_iff_lt] at *
   try omega

set_option maxRecDepth 10000 in
set_option maxHeartbeats 1600000 in
theorem centre_ok (E : Nat → Addr) (x0 y0 x1 y1 : Int) (w : World) (hn0 : (boxRight x0 y0 x1 y1) = true) :
    Calls Tryd.prog 30 #[.agg #[iV x0, iV y0, iV x1, iV y1]] w (Ret fun v w' => v = .tuple #[.agg #[.int .i64 ((x0 + x1) / 2), .int .i64 ((y0 + y1) / 2)], .nilIface] ∧ Keep Nn w w') := by
 refine sxenter (n := 22) (args := [.agg #[iV x0, iV y0, iV x1, iV y1]]) Tryd.func30 rfl rfl rfl fun a hf => ?_
 replace hf : Fr 22 [(0, .val (.agg #[iV x0, iV y0, iV x1, iV y1]))] a := hf
 have hM : MemOk [] w := MemOk.nil w
 have hk0 : Keep Nn w w := Keep.refl _ _
 have hb := boxRight_iff.1 hn0
 refine wp_seq_k (fun K1 hK1 => ?_)
 refine wp_region_lit ?_
 refine q1 hf hM [] [{ os := [.nw] }, { os := [.nw] }, {}] (nw := fun B1 => [(3, .val (.nilIface)), (2, eP (B1 + 1) 0), (1, eP B1 0)]) (M' := fun B1 => [⟨B1, 32, [iV x0, iV y0, iV x1, iV y1]⟩, ⟨B1 + 1, 46, [iV 0, iV 0]⟩]) (ob := fun B1 => []) (fun B1 => An) ?_
 clear hf hM; intro a w1 B1 hf hM hB hk
 have hbB1 : w.heap.size ≤ B1 := by have := hk0.size; omega
 have hk0 := hk0.then hk (by intro i _ h; cases h)
 clear hk hB
 refine wpList_nil ?_
 refine hK1 _ _ ?_
 refine wp_seq_k (fun K2 hK2 => ?_)
 refine wp_seq_k (fun K3 hK3 => ?_)
 refine wp_region_lit ?_
 refine q0 hf hM [3, 2, 1] [{ os := [.ld 0 0, .ld 0 1, .ld 0 2, .ld 0 3] }] (nw := [(4, .val (.agg #[iV x0, iV y0, iV x1, iV y1]))]) (ob := [Ad B1 0, Ad B1 1, Ad B1 2, Ad B1 3]) (Ac (ad _ _) (Ac (ad _ _) (Ac (ad _ _) (Ao (ad _ _))))) ?_
 clear hf; intro a hf
 refine sxcall hf rfl rfl rfl rfl (g := 56) (vs := [.agg #[iV x0, iV y0, iV x1, iV y1]]) (ob := []) (by as_aux_lemma => kernel_rfl) An enters56 (right_box x0 y0 x1 y1 w1  ) ?_
 clear hf; rintro _ w2 a ⟨rfl, hk⟩ hf
 have hM := hM.keepNn hk
 have hk0 := hk0.trans hk.nn
 clear hk
 refine q0 hf hM [3, 2, 1] [{}] (nw := [(6, eB (!(boxRight x0 y0 x1 y1)))]) An ?_
 clear hf; intro a hf
 refine wpList_nil ?_
 refine hK3 _ _ ?_
 refine sxcond hf (b := !(boxRight x0 y0 x1 y1)) (by kernel_rfl) (fun h => absurd (h.symm.trans ((congrArg Bool.not hn0).trans rfl : (!(boxRight x0 y0 x1 y1) : Bool) = false)) (by simp)) (fun _ => ?_)
 refine wp_skip ?_
 refine hK2 _ _ ?_
 refine wp_seq_k (fun K4 hK4 => ?_)
 refine wp_region_lit ?_
 refine q1 hf hM [3, 2] [{}, { os := [.ld 0 0] }, {}, { os := [.ld 0 2] }, { hint := some (iV (x0 + x1)) }, { sp := true, hint := some (iV ((x0 + x1) / 2)) }, {}, { os := [.ld 0 1] }, {}, { os := [.ld 0 3] }, { hint := some (iV (y0 + y1)) }, { sp := true, hint := some (iV ((y0 + y1) / 2)) }, { sp := true }, { os := [.st 1 0, .st 1 1] }, {}] (nw := fun B4 => []) (M' := fun B4 => [⟨B1, 32, [iV x0, iV y0, iV x1, iV y1]⟩, ⟨B1 + 1, 46, [iV ((x0 + x1) / 2), iV ((y0 + y1) / 2)]⟩]) (ob := fun B4 => [Ad B1 0, Ad B1 2, (iV (IntKind.i64.wrap (x0 + x1)) : Value) = (iV (x0 + x1) : Value), 0 ≤ (1 : Int), (iV (Int.fdiv (x0 + x1) (2 ^ (min (1 : Int).toNat IntKind.i64.bits))) : Value) = (iV ((x0 + x1) / 2) : Value), Ad B1 1, Ad B1 3, (iV (IntKind.i64.wrap (y0 + y1)) : Value) = (iV (y0 + y1) : Value), 0 ≤ (1 : Int), (iV (Int.fdiv (y0 + y1) (2 ^ (min (1 : Int).toNat IntKind.i64.bits))) : Value) = (iV ((y0 + y1) / 2) : Value), Ad (B1 + 1) 0, Ad (B1 + 1) 1]) (fun B4 => (Ac (ad _ _) (Ac (ad _ _) (Ac (wr (by omega)) (Ac (by omega) (Ac (shr1 _) (Ac (ad _ _) (Ac (ad _ _) (Ac (wr (by omega)) (Ac (by omega) (Ac (shr1 _) (Ac (ad _ _) (Ao (ad _ _)))))))))))))) ?_
 clear hf hM; intro a w3 B4 hf hM hB hk
 have hbB4 : w.heap.size ≤ B4 := by have := hk0.size; omega
 have hk0 := hk0.thenNew hk (by simp [Mem.names] <;> omega)
 clear hk hB
 refine wpList_nil ?_
 refine hK4 _ _ ?_
 refine wp_ret ?_
 refine qr (fn := Tryd.f30) hf hM [.ld 1 0, .ld 1 1] (l := [.agg #[iV ((x0 + x1) / 2), iV ((y0 + y1) / 2)], .nilIface]) (ob := [Ad (B1 + 1) 0, Ad (B1 + 1) 1]) (Ac (ad _ _) (Ao (ad _ _))) ?_
 show (.tuple #[.agg #[iV ((x0 + x1) / 2), iV ((y0 + y1) / 2)], .nilIface] : Value) = .tuple #[.agg #[.int .i64 ((x0 + x1) / 2), .int .i64 ((y0 + y1) / 2)], .nilIface] ∧ Keep Nn w w3
 exact ⟨rfl, hk0⟩

set_option maxRecDepth 10000 in
set_option maxHeartbeats 1600000 in
theorem centre_no (E : Nat → Addr) (x0 y0 x1 y1 : Int) (w : World) (hn0 : (boxRight x0 y0 x1 y1) = false) (hG : Errs [1, 3, 0] w 161 E) :
    Calls Tryd.prog 30 #[.agg #[iV x0, iV y0, iV x1, iV y1]] w (Ret fun v w' => v = .tuple #[.agg #[.int .i64 0, .int .i64 0], .iface 161 (.pointer (some (E 0)))] ∧ Keep Nn w w') := by
 refine sxenter (n := 22) (args := [.agg #[iV x0, iV y0, iV x1, iV y1]]) Tryd.func30 rfl rfl rfl fun a hf => ?_
 replace hf : Fr 22 [(0, .val (.agg #[iV x0, iV y0, iV x1, iV y1]))] a := hf
 have hM : MemOk [] w := MemOk.nil w
 have hk0 : Keep Nn w w := Keep.refl _ _
 refine wp_seq_k (fun K1 hK1 => ?_)
 refine wp_region_lit ?_
 refine q1 hf hM [] [{ os := [.nw] }, { os := [.nw] }, {}] (nw := fun B1 => [(3, .val (.nilIface)), (2, eP (B1 + 1) 0), (1, eP B1 0)]) (M' := fun B1 => [⟨B1, 32, [iV x0, iV y0, iV x1, iV y1]⟩, ⟨B1 + 1, 46, [iV 0, iV 0]⟩]) (ob := fun B1 => []) (fun B1 => An) ?_
 clear hf hM; intro a w1 B1 hf hM hB hk
 have hbB1 : w.heap.size ≤ B1 := by have := hk0.size; omega
 have hk0 := hk0.then hk (by intro i _ h; cases h)
 clear hk hB
 refine wpList_nil ?_
 refine hK1 _ _ ?_
 refine wp_seq_k (fun K2 hK2 => ?_)
 refine wp_seq_k (fun K3 hK3 => ?_)
 refine wp_region_lit ?_
 refine q0 hf hM [3, 2, 1] [{ os := [.ld 0 0, .ld 0 1, .ld 0 2, .ld 0 3] }] (nw := [(4, .val (.agg #[iV x0, iV y0, iV x1, iV y1]))]) (ob := [Ad B1 0, Ad B1 1, Ad B1 2, Ad B1 3]) (Ac (ad _ _) (Ac (ad _ _) (Ac (ad _ _) (Ao (ad _ _))))) ?_
 clear hf; intro a hf
 refine sxcall hf rfl rfl rfl rfl (g := 56) (vs := [.agg #[iV x0, iV y0, iV x1, iV y1]]) (ob := []) (by as_aux_lemma => kernel_rfl) An enters56 (right_box x0 y0 x1 y1 w1  ) ?_
 clear hf; rintro _ w2 a ⟨rfl, hk⟩ hf
 have hM := hM.keepNn hk
 have hk0 := hk0.trans hk.nn
 clear hk
 refine q0 hf hM [3, 2, 1] [{}] (nw := [(6, eB (!(boxRight x0 y0 x1 y1)))]) An ?_
 clear hf; intro a hf
 refine wpList_nil ?_
 refine hK3 _ _ ?_
 refine sxcond hf (b := !(boxRight x0 y0 x1 y1)) (by kernel_rfl) (fun _ => ?_) (fun h => absurd (h.symm.trans ((congrArg Bool.not hn0).trans rfl : (!(boxRight x0 y0 x1 y1) : Bool) = true)) (by simp))
 refine wp_seq_k (fun K4 hK4 => ?_)
 replace hM := hM.drew; replace hk0 := hk0.drew
 obtain ⟨Cq1, hCq1i, hCq1e⟩ := qcls fun w' => MemOk [⟨B1, 32, [iV x0, iV y0, iV x1, iV y1]⟩] w' ∧ Keep Nn w w' ∧ True
 refine sxdraw (C := Cq1) (.leaf [(0, true), (1, true), (2, false), (3, true)]) (by kernel_rfl) (by kernel_rfl) (by as_aux_lemma => kernel_rfl) rfl (by as_aux_lemma => kernel_rfl) (by kernel_rfl) (hCq1i _ ⟨hM.sub (.cons_cons _ (.cons _ .slnil)), hk0, trivial⟩) ?_
 refine sxleaf ?_
 have hC := (hCq1i _ ⟨hM.sub (.cons_cons _ (.cons _ .slnil)), hk0, trivial⟩)
 refine qd hf hC (fun w' h => (hCq1e w' h).1) [3, 2] [{ sp := true }, { os := [.ex (.iface 161 (.pointer (some (E 0))))] }] (nw := [(8, .val (.iface 161 (.pointer (some (E 0))))), (7, .val (.agg #[iV 0, iV 0]))]) (ob := [(∀ w', Cq1 w' → w'.cell? ⟨0, 0, none⟩ = some (.iface 161 (.pointer (some (E 0)))))]) (Ao (fun w' hc => by obtain ⟨hM, hk0, hO⟩ := hCq1e w' hc; exact (hk0.cell (hG.cell 0 (by decide)) (fun h => h)))) ?_
 clear hf; intro a hf
 refine scstep rfl ?_
 have hMs : MemOk [⟨B1 + 1, 46, [iV 0, iV 0]⟩] w2.drew := hM.sub (.cons _ (.cons_cons _ .slnil))
 refine q1 hf hMs [8, 3, 2] [{ os := [.st 0 0, .st 0 1] }] (nw := fun B4 => []) (M' := fun B4 => [⟨B1 + 1, 46, [iV 0, iV 0]⟩]) (ob := fun B4 => [Ad (B1 + 1) 0, Ad (B1 + 1) 1]) (fun B4 => (Ac (ad _ _) (Ao (ad _ _)))) ?_
 clear hf hMs; intro a w3 B4 hf hMs hB hk; clear hB
 have hM : MemOk [⟨B1, 32, [iV x0, iV y0, iV x1, iV y1]⟩, ⟨B1 + 1, 46, [iV 0, iV 0]⟩] w3 := MemOk.upd (M1 := [⟨B1, 32, [iV x0, iV y0, iV x1, iV y1]⟩]) (M2 := []) hM hk hMs rfl
 have hk0 := hk0.thenNew hk (by simp [Mem.names] <;> omega)
 clear hk hMs
 have hC := (hCq1i _ ⟨hM.sub (.cons_cons _ (.cons _ .slnil)), hk0, trivial⟩)
 refine scdone hC ?_
 refine qd hf hC (fun w' h => (hCq1e w' h).1) [2] [{}] (nw := [(3, .val (.iface 161 (.pointer (some (E 0)))))]) An ?_
 clear hf; intro a hf
 clear hC
 show K4 _ _
 refine hK4 _ _ ?_
 refine wp_ret ?_
 refine qr (fn := Tryd.f30) hf hM [.ld 1 0, .ld 1 1] (l := [.agg #[iV 0, iV 0], .iface 161 (.pointer (some (E 0)))]) (ob := [Ad (B1 + 1) 0, Ad (B1 + 1) 1]) (Ac (ad _ _) (Ao (ad _ _))) ?_
 show (.tuple #[.agg #[iV 0, iV 0], .iface 161 (.pointer (some (E 0)))] : Value) = .tuple #[.agg #[.int .i64 0, .int .i64 0], .iface 161 (.pointer (some (E 0)))] ∧ Keep Nn w w3
 exact ⟨rfl, hk0⟩
end Go.Proofs.YthofalkkdpjdlaaDoor
