/- layer 1 -/
import Derived.Test.YtifcgjnknikjkaaDoorRows
import Derived.Test.YtifcgjnknikjkaaDoorXQ
import Derived.Test.YtifcgjnknikjkaaDoorXp12
import Derived.Test.YtifcgjnknikjkaaDoorXp6
namespace Go.Proofs.YtifcgjnknikjkaaDoor
open Go.Px
set_option linter.unusedVariables false
set_option linter.unusedSimpArgs false
theorem enters2 : enters Tryd.prog 2 := ⟨_, Tryd.func2, by kernel_rfl, rfl⟩
theorem enters3 : enters Tryd.prog 3 := ⟨_, Tryd.func3, by kernel_rfl, rfl⟩
theorem enters4 : enters Tryd.prog 4 := ⟨_, Tryd.func4, by kernel_rfl, rfl⟩
theorem enters5 : enters Tryd.prog 5 := ⟨_, Tryd.func5, by kernel_rfl, rfl⟩
theorem enters6 : enters Tryd.prog 6 := ⟨_, Tryd.func6, by kernel_rfl, rfl⟩
theorem enters7 : enters Tryd.prog 7 := ⟨_, Tryd.func7, by kernel_rfl, rfl⟩
theorem enters8 : enters Tryd.prog 8 := ⟨_, Tryd.func8, by kernel_rfl, rfl⟩
theorem enters9 : enters Tryd.prog 9 := ⟨_, Tryd.func9, by kernel_rfl, rfl⟩
theorem enters10 : enters Tryd.prog 10 := ⟨_, Tryd.func10, by kernel_rfl, rfl⟩
theorem enters11 : enters Tryd.prog 11 := ⟨_, Tryd.func11, by kernel_rfl, rfl⟩
theorem enters12 : enters Tryd.prog 12 := ⟨_, Tryd.func12, by kernel_rfl, rfl⟩
theorem enters13 : enters Tryd.prog 13 := ⟨_, Tryd.func13, by kernel_rfl, rfl⟩
theorem enters14 : enters Tryd.prog 14 := ⟨_, Tryd.func14, by kernel_rfl, rfl⟩
theorem enters15 : enters Tryd.prog 15 := ⟨_, Tryd.func15, by kernel_rfl, rfl⟩
theorem enters16 : enters Tryd.prog 16 := ⟨_, Tryd.func16, by kernel_rfl, rfl⟩
theorem enters17 : enters Tryd.prog 17 := ⟨_, Tryd.func17, by kernel_rfl, rfl⟩
theorem enters18 : enters Tryd.prog 18 := ⟨_, Tryd.func18, by kernel_rfl, rfl⟩
theorem enters19 : enters Tryd.prog 19 := ⟨_, Tryd.func19, by kernel_rfl, rfl⟩
theorem enters20 : enters Tryd.prog 20 := ⟨_, Tryd.func20, by kernel_rfl, rfl⟩
theorem enters21 : enters Tryd.prog 21 := ⟨_, Tryd.func21, by kernel_rfl, rfl⟩
theorem enters22 : enters Tryd.prog 22 := ⟨_, Tryd.func22, by kernel_rfl, rfl⟩
theorem enters23 : enters Tryd.prog 23 := ⟨_, Tryd.func23, by kernel_rfl, rfl⟩
theorem enters24 : enters Tryd.prog 24 := ⟨_, Tryd.func24, by kernel_rfl, rfl⟩
theorem enters25 : enters Tryd.prog 25 := ⟨_, Tryd.func25, by kernel_rfl, rfl⟩
theorem enters26 : enters Tryd.prog 26 := ⟨_, Tryd.func26, by kernel_rfl, rfl⟩
theorem enters27 : enters Tryd.prog 27 := ⟨_, Tryd.func27, by kernel_rfl, rfl⟩
theorem enters28 : enters Tryd.prog 28 := ⟨_, Tryd.func28, by kernel_rfl, rfl⟩
theorem enters29 : enters Tryd.prog 29 := ⟨_, Tryd.func29, by kernel_rfl, rfl⟩
theorem enters30 : enters Tryd.prog 30 := ⟨_, Tryd.func30, by kernel_rfl, rfl⟩
theorem enters31 : enters Tryd.prog 31 := ⟨_, Tryd.func31, by kernel_rfl, rfl⟩
theorem enters32 : enters Tryd.prog 32 := ⟨_, Tryd.func32, by kernel_rfl, rfl⟩
theorem enters33 : enters Tryd.prog 33 := ⟨_, Tryd.func33, by kernel_rfl, rfl⟩
theorem enters34 : enters Tryd.prog 34 := ⟨_, Tryd.func34, by kernel_rfl, rfl⟩
theorem enters35 : enters Tryd.prog 35 := ⟨_, Tryd.func35, by kernel_rfl, rfl⟩
theorem enters36 : enters Tryd.prog 36 := ⟨_, Tryd.func36, by kernel_rfl, rfl⟩
theorem enters37 : enters Tryd.prog 37 := ⟨_, Tryd.func37, by kernel_rfl, rfl⟩
theorem enters38 : enters Tryd.prog 38 := ⟨_, Tryd.func38, by kernel_rfl, rfl⟩
theorem enters39 : enters Tryd.prog 39 := ⟨_, Tryd.func39, by kernel_rfl, rfl⟩
theorem enters40 : enters Tryd.prog 40 := ⟨_, Tryd.func40, by kernel_rfl, rfl⟩
theorem enters41 : enters Tryd.prog 41 := ⟨_, Tryd.func41, by kernel_rfl, rfl⟩
theorem enters42 : enters Tryd.prog 42 := ⟨_, Tryd.func42, by kernel_rfl, rfl⟩
theorem enters43 : enters Tryd.prog 43 := ⟨_, Tryd.func43, by kernel_rfl, rfl⟩
theorem enters44 : enters Tryd.prog 44 := ⟨_, Tryd.func44, by kernel_rfl, rfl⟩
theorem enters45 : enters Tryd.prog 45 := ⟨_, Tryd.func45, by kernel_rfl, rfl⟩
theorem enters46 : enters Tryd.prog 46 := ⟨_, Tryd.func46, by kernel_rfl, rfl⟩
theorem enters47 : enters Tryd.prog 47 := ⟨_, Tryd.func47, by kernel_rfl, rfl⟩
theorem enters48 : enters Tryd.prog 48 := ⟨_, Tryd.func48, by kernel_rfl, rfl⟩
theorem enters49 : enters Tryd.prog 49 := ⟨_, Tryd.func49, by kernel_rfl, rfl⟩
theorem enters50 : enters Tryd.prog 50 := ⟨_, Tryd.func50, by kernel_rfl, rfl⟩
theorem enters51 : enters Tryd.prog 51 := ⟨_, Tryd.func51, by kernel_rfl, rfl⟩
theorem enters52 : enters Tryd.prog 52 := ⟨_, Tryd.func52, by kernel_rfl, rfl⟩
theorem enters53 : enters Tryd.prog 53 := ⟨_, Tryd.func53, by kernel_rfl, rfl⟩
theorem enters54 : enters Tryd.prog 54 := ⟨_, Tryd.func54, by kernel_rfl, rfl⟩
theorem enters55 : enters Tryd.prog 55 := ⟨_, Tryd.func55, by kernel_rfl, rfl⟩
theorem enters56 : enters Tryd.prog 56 := ⟨_, Tryd.func56, by kernel_rfl, rfl⟩
theorem enters57 : enters Tryd.prog 57 := ⟨_, Tryd.func57, by kernel_rfl, rfl⟩
theorem enters58 : enters Tryd.prog 58 := ⟨_, Tryd.func58, by kernel_rfl, rfl⟩
theorem enters59 : enters Tryd.prog 59 := ⟨_, Tryd.func59, by kernel_rfl, rfl⟩
theorem enters60 : enters Tryd.prog 60 := ⟨_, Tryd.func60, by kernel_rfl, rfl⟩
theorem enters61 : enters Tryd.prog 61 := ⟨_, Tryd.func61, by kernel_rfl, rfl⟩
theorem enters62 : enters Tryd.prog 62 := ⟨_, Tryd.func62, by kernel_rfl, rfl⟩
theorem enters63 : enters Tryd.prog 63 := ⟨_, Tryd.func63, by kernel_rfl, rfl⟩
theorem enters64 : enters Tryd.prog 64 := ⟨_, Tryd.func64, by kernel_rfl, rfl⟩
theorem enters65 : enters Tryd.prog 65 := ⟨_, Tryd.func65, by kernel_rfl, rfl⟩
theorem enters66 : enters Tryd.prog 66 := ⟨_, Tryd.func66, by kernel_rfl, rfl⟩
theorem enters67 : enters Tryd.prog 67 := ⟨_, Tryd.func67, by kernel_rfl, rfl⟩
theorem enters68 : enters Tryd.prog 68 := ⟨_, Tryd.func68, by kernel_rfl, rfl⟩
theorem enters69 : enters Tryd.prog 69 := ⟨_, Tryd.func69, by kernel_rfl, rfl⟩
theorem enters70 : enters Tryd.prog 70 := ⟨_, Tryd.func70, by kernel_rfl, rfl⟩
theorem enters71 : enters Tryd.prog 71 := ⟨_, Tryd.func71, by kernel_rfl, rfl⟩
theorem enters72 : enters Tryd.prog 72 := ⟨_, Tryd.func72, by kernel_rfl, rfl⟩
theorem enters73 : enters Tryd.prog 73 := ⟨_, Tryd.func73, by kernel_rfl, rfl⟩
theorem enters74 : enters Tryd.prog 74 := ⟨_, Tryd.func74, by kernel_rfl, rfl⟩
theorem enters75 : enters Tryd.prog 75 := ⟨_, Tryd.func75, by kernel_rfl, rfl⟩
theorem enters76 : enters Tryd.prog 76 := ⟨_, Tryd.func76, by kernel_rfl, rfl⟩
theorem enters77 : enters Tryd.prog 77 := ⟨_, Tryd.func77, by kernel_rfl, rfl⟩
theorem enters78 : enters Tryd.prog 78 := ⟨_, Tryd.func78, by kernel_rfl, rfl⟩
theorem enters79 : enters Tryd.prog 79 := ⟨_, Tryd.func79, by kernel_rfl, rfl⟩
theorem enters80 : enters Tryd.prog 80 := ⟨_, Tryd.func80, by kernel_rfl, rfl⟩
theorem enters81 : enters Tryd.prog 81 := ⟨_, Tryd.func81, by kernel_rfl, rfl⟩
theorem enters82 : enters Tryd.prog 82 := ⟨_, Tryd.func82, by kernel_rfl, rfl⟩
theorem enters83 : enters Tryd.prog 83 := ⟨_, Tryd.func83, by kernel_rfl, rfl⟩
theorem enters85 : enters Tryd.prog 85 := ⟨_, Tryd.func85, by kernel_rfl, rfl⟩
theorem enters86 : enters Tryd.prog 86 := ⟨_, Tryd.func86, by kernel_rfl, rfl⟩
theorem enters87 : enters Tryd.prog 87 := ⟨_, Tryd.func87, by kernel_rfl, rfl⟩
theorem enters88 : enters Tryd.prog 88 := ⟨_, Tryd.func88, by kernel_rfl, rfl⟩
theorem enters89 : enters Tryd.prog 89 := ⟨_, Tryd.func89, by kernel_rfl, rfl⟩
theorem enters90 : enters Tryd.prog 90 := ⟨_, Tryd.func90, by kernel_rfl, rfl⟩
theorem enters91 : enters Tryd.prog 91 := ⟨_, Tryd.func91, by kernel_rfl, rfl⟩
theorem enters92 : enters Tryd.prog 92 := ⟨_, Tryd.func92, by kernel_rfl, rfl⟩
theorem enters93 : enters Tryd.prog 93 := ⟨_, Tryd.func93, by kernel_rfl, rfl⟩
theorem enters94 : enters Tryd.prog 94 := ⟨_, Tryd.func94, by kernel_rfl, rfl⟩
theorem enters95 : enters Tryd.prog 95 := ⟨_, Tryd.func95, by kernel_rfl, rfl⟩
theorem enters96 : enters Tryd.prog 96 := ⟨_, Tryd.func96, by kernel_rfl, rfl⟩
theorem enters97 : enters Tryd.prog 97 := ⟨_, Tryd.func97, by kernel_rfl, rfl⟩
theorem enters98 : enters Tryd.prog 98 := ⟨_, Tryd.func98, by kernel_rfl, rfl⟩
theorem enters99 : enters Tryd.prog 99 := ⟨_, Tryd.func99, by kernel_rfl, rfl⟩
theorem enters100 : enters Tryd.prog 100 := ⟨_, Tryd.func100, by kernel_rfl, rfl⟩
theorem enters101 : enters Tryd.prog 101 := ⟨_, Tryd.func101, by kernel_rfl, rfl⟩
theorem enters102 : enters Tryd.prog 102 := ⟨_, Tryd.func102, by kernel_rfl, rfl⟩
theorem enters103 : enters Tryd.prog 103 := ⟨_, Tryd.func103, by kernel_rfl, rfl⟩
theorem enters104 : enters Tryd.prog 104 := ⟨_, Tryd.func104, by kernel_rfl, rfl⟩
theorem enters105 : enters Tryd.prog 105 := ⟨_, Tryd.func105, by kernel_rfl, rfl⟩
theorem enters106 : enters Tryd.prog 106 := ⟨_, Tryd.func106, by kernel_rfl, rfl⟩
theorem enters107 : enters Tryd.prog 107 := ⟨_, Tryd.func107, by kernel_rfl, rfl⟩
theorem enters108 : enters Tryd.prog 108 := ⟨_, Tryd.func108, by kernel_rfl, rfl⟩
theorem enters109 : enters Tryd.prog 109 := ⟨_, Tryd.func109, by kernel_rfl, rfl⟩
theorem enters110 : enters Tryd.prog 110 := ⟨_, Tryd.func110, by kernel_rfl, rfl⟩
theorem enters111 : enters Tryd.prog 111 := ⟨_, Tryd.func111, by kernel_rfl, rfl⟩
theorem enters112 : enters Tryd.prog 112 := ⟨_, Tryd.func112, by kernel_rfl, rfl⟩
theorem enters113 : enters Tryd.prog 113 := ⟨_, Tryd.func113, by kernel_rfl, rfl⟩
theorem enters150 : enters Tryd.prog 150 := ⟨_, Tryd.func150, by kernel_rfl, rfl⟩

set_option maxRecDepth 10000 in
set_option maxHeartbeats 1600000 in
theorem within_any (n m : Int) (w : World) (hm : 0 ≤ m ∧ m ≤ 4611686018427387904) :
    Calls Tryd.prog 90 #[iV n, iV m] w (Ret fun v w' => v = .bool (within n m) ∧ Keep Nn w w') := by
 refine sxenter (n := 14) (args := [iV n, iV m]) Tryd.func90 rfl rfl rfl fun a hf => ?_
 replace hf : Fr 14 [(0, eI n), (1, eI m)] a := hf
 have hM : MemOk [] w := MemOk.nil w
 have hk0 : Keep Nn w w := Keep.refl _ _
 refine wp_seq_k (fun K1 hK1 => ?_)
 refine wp_region_lit ?_
 refine q0 hf hM [0, 1] [{}] (env' := [(0, eI n), (1, eI m)]) (ob := []) An ?_
 clear hf; intro a hf
 refine wpList_nil ?_
 refine hK1 _ _ ?_
 refine wp_seq_k (fun K2 hK2 => ?_)
 refine wp_region_lit ?_
 refine q0 hf hM [4] [{}, {}, { hint := some (iV (0 - m)) }, {}, {}, { g := .sym }, { g := .sym }, { g := .sym }, { hint := some (bV ((decide ((n : Int) ≥ (0 - m))) && (decide ((n : Int) ≤ m)))) }, {}] (env' := [(4, eB ((decide ((n : Int) ≥ (0 - m))) && (decide ((n : Int) ≤ m))))]) (ob := [(iV (IntKind.i64.wrap (0 - m)) : Value) = (iV (0 - m) : Value), ((decide ((n : Int) ≥ (0 - m))) = true → (decide ((n : Int) ≥ (0 - m))) = (decide ((n : Int) ≥ (0 - m)))), ((decide ((n : Int) ≥ (0 - m))) = true → (decide ((n : Int) ≥ (0 - m))) = (decide ((n : Int) ≥ (0 - m)))), ((decide ((n : Int) ≥ (0 - m))) = true → (decide ((n : Int) ≥ (0 - m))) = (decide ((n : Int) ≥ (0 - m)))), (bif (decide ((n : Int) ≥ (0 - m))) then (bV (decide ((n : Int) ≤ m)) : Value) else bV false) = .bool ((decide ((n : Int) ≥ (0 - m))) && (decide ((n : Int) ≤ m)))]) (Ac (wr (by omega)) (Ac (fun hgd => rfl) (Ac (fun hgd => rfl) (Ac (fun _ => rfl) (Ao (pick_and _ _)))))) ?_
 clear hf; intro a hf
 refine wpList_nil ?_
 refine hK2 _ _ ?_
 refine wp_ret ?_
 refine qr (fn := Tryd.f90) hf hM [] (l := [bV ((decide ((n : Int) ≥ (0 - m))) && (decide ((n : Int) ≤ m)))]) (ob := []) An ?_
 show (bV ((decide ((n : Int) ≥ (0 - m))) && (decide ((n : Int) ≤ m))) : Value) = .bool (within n m) ∧ Keep Nn w w
 refine ⟨congrArg Value.bool ?_, hk0⟩
 rw [Bool.eq_iff_iff]
 simp only [within, Bool.or_eq_true, Bool.and_eq_true, Bool.not_eq_true', Bool.not_eq_false', Bool.or_eq_false_iff, Bool.and_eq_false_iff, decide_eq_true_eq, decide_eq_false_iff_not, beq_iff_eq, Bool.false_eq_true, Bool.true_eq_false, false_iff, true_iff, iff_true, iff_false, not_true, not_false_iff, true_and, and_true, false_and, and_false, ge_iff_le, gt_iff_lt] at *
 try omega

set_option maxRecDepth 10000 in
set_option maxHeartbeats 1600000 in
theorem reach_any (x y : Int) (w : World) :
    Calls Tryd.prog 96 #[.agg #[iV x, iV y]] w (Ret fun v w' => v = .bool (reach x y) ∧ Keep Nn w w') := by
 refine sxenter (n := 11) (args := [.agg #[iV x, iV y]]) Tryd.func96 rfl rfl rfl fun a hf => ?_
 replace hf : Fr 11 [(0, .val (.agg #[iV x, iV y]))] a := hf
 have hM : MemOk [] w := MemOk.nil w
 have hk0 : Keep Nn w w := Keep.refl _ _
 refine wp_seq_k (fun K1 hK1 => ?_)
 refine wp_region_lit ?_
 refine q1 hf hM [1] [{ os := [.nw] }, {}] (env' := fun B1 => [(1, eP B1 0)]) (M' := fun B1 => [⟨B1, 114, [iV x, iV y]⟩]) (ob := fun B1 => []) (fun B1 => An) ?_
 clear hf hM; intro a w1 B1 hf hM hB hk
 have hbB1 : w.heap.size ≤ B1 := by have := hk0.size; omega
 have hk0 := hk0.then hk (by intro i _ h; cases h)
 clear hk hB
 refine wpList_nil ?_
 refine hK1 _ _ ?_
 refine wp_seq_k (fun K2 hK2 => ?_)
 refine wp_region_lit ?_
 refine q0 hf hM [4, 1] [{}, { os := [.ld 0 0] }] (env' := [(4, eI x), (1, eP B1 0)]) (ob := [Ad B1 0]) (Ao (ad _ _)) ?_
 clear hf; intro a hf
 refine sxcall hf rfl rfl rfl rfl (g := 90) (vs := [iV x, iV 4194304]) (ob := []) (by as_aux_lemma => kernel_rfl) An enters90 (within_any x 4194304 w1  (by omega)) ?_
 clear hf; rintro _ w2 a ⟨rfl, hk⟩ hf
 have hM := hM.keepNn hk
 have hk0 := hk0.trans hk.nn
 clear hk
 refine q0 hf hM [6, 1] [{}] (env' := [(6, eB (within x 4194304)), (1, eP B1 0)]) (ob := []) An ?_
 clear hf; intro a hf
 rcases Bool.eq_false_or_eq_true (within x 4194304) with hg1r | hg1r
 · have hg1 := hg1r
   have hf := hf.prune [6, 1]
   replace hf : Fr 11 [(6, eB (within x 4194304)), (1, eP B1 0)] a := hf
   replace hf := hf.conv (env' := [(6, eB true), (1, eP B1 0)]) (Ac (congrArg Value.bool hg1r) (Ao rfl))
   refine q0 hf hM [8, 6] [{}, { os := [.ld 0 1] }] (env' := [(8, eI y), (6, eB true)]) (ob := [true = true, true = true, Ad B1 1]) (Ac rfl (Ac rfl (Ao (ad _ _)))) ?_
   clear hf; intro a hf
   refine sxcallg hf rfl rfl rfl rfl rfl (g := 90) (vs := [iV y, iV 4194304]) (ob := []) (by as_aux_lemma => kernel_rfl) An enters90 (within_any y 4194304 w2  (by omega)) ?_
   clear hf; rintro _ w3 a ⟨rfl, hk⟩ hf
   have hM := hM.keepNn hk
   have hk0 := hk0.trans hk.nn
   clear hk
   refine q0 hf hM [2] [{}, {}] (env' := [(2, eB (within y 4194304))]) (ob := []) An ?_
   clear hf; intro a hf
   refine wpList_nil ?_
   refine hK2 _ _ ?_
   refine wp_ret ?_
   refine qr (fn := Tryd.f96) hf hM [] (l := [bV (within y 4194304)]) (ob := []) An ?_
   show (bV (within y 4194304) : Value) = .bool (reach x y) ∧ Keep Nn w w3
   refine ⟨congrArg Value.bool ?_, hk0⟩
   rw [Bool.eq_iff_iff]
   simp only [within, reach, Bool.or_eq_true, Bool.and_eq_true, Bool.not_eq_true', Bool.not_eq_false', Bool.or_eq_false_iff, Bool.and_eq_false_iff, decide_eq_true_eq, decide_eq_false_iff_not, beq_iff_eq, Bool.false_eq_true, Bool.true_eq_false, false_iff, true_iff, iff_true, iff_false, not_true, not_false_iff, true_and, and_true, false_and, and_false, ge_iff_le, gt_iff_lt] at *
   try omega
 · have hg1 := hg1r
   have hf := hf.prune [6, 1]
   replace hf : Fr 11 [(6, eB (within x 4194304)), (1, eP B1 0)] a := hf
   replace hf := hf.conv (env' := [(6, eB false), (1, eP B1 0)]) (Ac (congrArg Value.bool hg1r) (Ao rfl))
   refine q0 hf hM [8, 6] [{ g := .off }, { g := .off }] (env' := [(8, .val (undef)), (6, eB false)]) (ob := [false = !true, false = !true]) (Ac rfl (Ao rfl)) ?_
   clear hf; intro a hf
   refine q0 hf hM [2] [{ g := .off }, {}, {}] (env' := [(2, eB false)]) (ob := [false = !true]) (Ao rfl) ?_
   clear hf; intro a hf
   refine wpList_nil ?_
   refine hK2 _ _ ?_
   refine wp_ret ?_
   refine qr (fn := Tryd.f96) hf hM [] (l := [bV false]) (ob := []) An ?_
   show (bV false : Value) = .bool (reach x y) ∧ Keep Nn w w2
   refine ⟨congrArg Value.bool ?_, hk0⟩
   rw [Bool.eq_iff_iff]
   simp only [within, reach, Bool.or_eq_true, Bool.and_eq_true, Bool.not_eq_true', Bool.not_eq_false', Bool.or_eq_false_iff, Bool.and_eq_false_iff, decide_eq_true_eq, decide_eq_false_iff_not, beq_iff_eq, Bool.false_eq_true, Bool.true_eq_false, false_iff, true_iff, iff_true, iff_false, not_true, not_false_iff, true_and, and_true, false_and, and_false, ge_iff_le, gt_iff_lt] at *
   try omega

set_option maxRecDepth 10000 in
set_option maxHeartbeats 1600000 in
theorem corners_any (x0 y0 x1 y1 : Int) (w : World) :
    Calls Tryd.prog 88 #[.agg #[iV x0, iV y0, iV x1, iV y1]] w (Ret fun v w' => v = .tuple #[.agg #[.int .i64 x0, .int .i64 y0], .agg #[.int .i64 x1, .int .i64 y1]] ∧ Keep Nn w w') := by
 refine sxenter (n := 14) (args := [.agg #[iV x0, iV y0, iV x1, iV y1]]) Tryd.func88 rfl rfl rfl fun a hf => ?_
 replace hf : Fr 14 [(0, .val (.agg #[iV x0, iV y0, iV x1, iV y1]))] a := hf
 have hM : MemOk [] w := MemOk.nil w
 have hk0 : Keep Nn w w := Keep.refl _ _
 refine wp_seq_k (fun K1 hK1 => ?_)
 refine wp_region_lit ?_
 refine q1 hf hM [3, 2, 1] [{ os := [.nw] }, { os := [.nw] }, { os := [.nw] }] (env' := fun B1 => [(3, eP (B1 + 2) 0), (2, eP (B1 + 1) 0), (1, eP B1 0)]) (M' := fun B1 => [⟨B1, 50, [iV x0, iV y0, iV x1, iV y1]⟩, ⟨B1 + 1, 114, [iV 0, iV 0]⟩, ⟨B1 + 2, 114, [iV 0, iV 0]⟩]) (ob := fun B1 => []) (fun B1 => An) ?_
 clear hf hM; intro a w1 B1 hf hM hB hk
 have hbB1 : w.heap.size ≤ B1 := by have := hk0.size; omega
 have hk0 := hk0.then hk (by intro i _ h; cases h)
 clear hk hB
 refine wpList_nil ?_
 refine hK1 _ _ ?_
 refine wp_seq_k (fun K2 hK2 => ?_)
 replace hM := hM.drew; replace hk0 := hk0.drew
 obtain ⟨C1, hC1d⟩ : ∃ C : World → Prop, C = fun w' => MemOk [⟨B1, 50, [iV x0, iV y0, iV x1, iV y1]⟩] w' ∧ Keep Nn w w' ∧ True := ⟨_, rfl⟩
 have hC1i : ∀ w', (MemOk [⟨B1, 50, [iV x0, iV y0, iV x1, iV y1]⟩] w' ∧ Keep Nn w w' ∧ True) → C1 w' := fun w' h => by rw [hC1d]; exact h
 have hC1e : ∀ w', C1 w' → (MemOk [⟨B1, 50, [iV x0, iV y0, iV x1, iV y1]⟩] w' ∧ Keep Nn w w' ∧ True) := fun w' h => by rw [hC1d] at h; exact h
 refine sxdraw (C := C1) (.leaf [(0, true), (1, true), (2, true), (3, true), (4, true), (5, true), (6, true), (7, true), (8, true), (9, true), (10, false), (11, false)]) (by kernel_rfl) (by kernel_rfl) (by as_aux_lemma => kernel_rfl) rfl (by as_aux_lemma => kernel_rfl) (by kernel_rfl) (hC1i _ ⟨hM.sub (.cons_cons _ (.cons _ (.cons _ .slnil))), hk0, trivial⟩) ?_
 refine sxleaf ?_
 have hC := (hC1i _ ⟨hM.sub (.cons_cons _ (.cons _ (.cons _ .slnil))), hk0, trivial⟩)
 refine qd hf hC (fun w' h => (hC1e w' h).1) [13, 8, 3, 2] [{}, { os := [.ld 0 0] }, {}, { os := [.ld 0 1] }, { sp := true }, {}, { os := [.ld 0 2] }, {}, { os := [.ld 0 3] }, { sp := true }] (env' := [(13, .val (.agg #[iV x1, iV y1])), (8, .val (.agg #[iV x0, iV y0])), (3, eP (B1 + 2) 0), (2, eP (B1 + 1) 0)]) (ob := [Ad B1 0, Ad B1 1, Ad B1 2, Ad B1 3]) (Ac (ad _ _) (Ac (ad _ _) (Ac (ad _ _) (Ao (ad _ _))))) ?_
 clear hf; intro a hf
 refine scstep rfl ?_
 have hMs : MemOk [⟨B1 + 1, 114, [iV 0, iV 0]⟩] w1.drew := hM.sub (.cons _ (.cons_cons _ (.cons _ .slnil)))
 refine q1 hf hMs [13, 3, 2] [{ os := [.st 0 0, .st 0 1] }] (env' := fun B2 => [(13, .val (.agg #[iV x1, iV y1])), (3, eP (B1 + 2) 0), (2, eP (B1 + 1) 0)]) (M' := fun B2 => [⟨B1 + 1, 114, [iV x0, iV y0]⟩]) (ob := fun B2 => [Ad (B1 + 1) 0, Ad (B1 + 1) 1]) (fun B2 => (Ac (ad _ _) (Ao (ad _ _)))) ?_
 clear hf hMs; intro a w2 B2 hf hMs hB hk; clear hB
 have hM : MemOk [⟨B1, 50, [iV x0, iV y0, iV x1, iV y1]⟩, ⟨B1 + 1, 114, [iV x0, iV y0]⟩, ⟨B1 + 2, 114, [iV 0, iV 0]⟩] w2 := MemOk.upd (M1 := [⟨B1, 50, [iV x0, iV y0, iV x1, iV y1]⟩]) (M2 := [⟨B1 + 2, 114, [iV 0, iV 0]⟩]) hM hk hMs rfl
 have hk0 := hk0.then hk (by intro i hi h; simp only [Is, Mem.names, List.map_cons, List.map_nil, List.mem_cons, List.not_mem_nil, or_false] at h; omega)
 clear hk hMs
 have hC := (hC1i _ ⟨hM.sub (.cons_cons _ (.cons _ (.cons _ .slnil))), hk0, trivial⟩)
 refine scdone hC ?_
 refine scstep rfl ?_
 have hMs : MemOk [⟨B1 + 2, 114, [iV 0, iV 0]⟩] w2 := hM.sub (.cons _ (.cons _ (.cons_cons _ .slnil)))
 refine q1 hf hMs [3, 2] [{ os := [.st 0 0, .st 0 1] }] (env' := fun B3 => [(3, eP (B1 + 2) 0), (2, eP (B1 + 1) 0)]) (M' := fun B3 => [⟨B1 + 2, 114, [iV x1, iV y1]⟩]) (ob := fun B3 => [Ad (B1 + 2) 0, Ad (B1 + 2) 1]) (fun B3 => (Ac (ad _ _) (Ao (ad _ _)))) ?_
 clear hf hMs; intro a w3 B3 hf hMs hB hk; clear hB
 have hM : MemOk [⟨B1, 50, [iV x0, iV y0, iV x1, iV y1]⟩, ⟨B1 + 1, 114, [iV x0, iV y0]⟩, ⟨B1 + 2, 114, [iV x1, iV y1]⟩] w3 := MemOk.upd (M1 := [⟨B1, 50, [iV x0, iV y0, iV x1, iV y1]⟩, ⟨B1 + 1, 114, [iV x0, iV y0]⟩]) (M2 := []) hM hk hMs rfl
 have hk0 := hk0.then hk (by intro i hi h; simp only [Is, Mem.names, List.map_cons, List.map_nil, List.mem_cons, List.not_mem_nil, or_false] at h; omega)
 clear hk hMs
 have hC := (hC1i _ ⟨hM.sub (.cons_cons _ (.cons _ (.cons _ .slnil))), hk0, trivial⟩)
 refine scdone hC ?_
 clear hC
 show K2 _ _
 refine hK2 _ _ ?_
 refine wp_ret ?_
 refine qr (fn := Tryd.f88) hf hM [.ld 1 0, .ld 1 1, .ld 2 0, .ld 2 1] (l := [.agg #[iV x0, iV y0], .agg #[iV x1, iV y1]]) (ob := [Ad (B1 + 1) 0, Ad (B1 + 1) 1, Ad (B1 + 2) 0, Ad (B1 + 2) 1]) (Ac (ad _ _) (Ac (ad _ _) (Ac (ad _ _) (Ao (ad _ _))))) ?_
 show (.tuple #[.agg #[iV x0, iV y0], .agg #[iV x1, iV y1]] : Value) = .tuple #[.agg #[.int .i64 x0, .int .i64 y0], .agg #[.int .i64 x1, .int .i64 y1]] ∧ Keep Nn w w3
 exact ⟨rfl, hk0⟩

set_option maxRecDepth 10000 in
set_option maxHeartbeats 1600000 in
theorem right_box (x0 y0 x1 y1 : Int) (w : World) :
    Calls Tryd.prog 87 #[.agg #[iV x0, iV y0, iV x1, iV y1]] w (Ret fun v w' => v = .bool (boxRight x0 y0 x1 y1) ∧ Keep Nn w w') := by
 refine sxenter (n := 30) (args := [.agg #[iV x0, iV y0, iV x1, iV y1]]) Tryd.func87 rfl rfl rfl fun a hf => ?_
 replace hf : Fr 30 [(0, .val (.agg #[iV x0, iV y0, iV x1, iV y1]))] a := hf
 have hM : MemOk [] w := MemOk.nil w
 have hk0 : Keep Nn w w := Keep.refl _ _
 refine wp_seq_k (fun K1 hK1 => ?_)
 refine wp_region_lit ?_
 refine q1 hf hM [1] [{ os := [.nw] }, {}] (env' := fun B1 => [(1, eP B1 0)]) (M' := fun B1 => [⟨B1, 50, [iV x0, iV y0, iV x1, iV y1]⟩]) (ob := fun B1 => []) (fun B1 => An) ?_
 clear hf hM; intro a w1 B1 hf hM hB hk
 have hbB1 : w.heap.size ≤ B1 := by have := hk0.size; omega
 have hk0 := hk0.then hk (by intro i _ h; cases h)
 clear hk hB
 refine wpList_nil ?_
 refine hK1 _ _ ?_
 refine wp_seq_k (fun K2 hK2 => ?_)
 refine wp_region_lit ?_
 refine q0 hf hM [6, 1] [{ os := [.ld 0 0, .ld 0 1, .ld 0 2, .ld 0 3] }] (env' := [(6, .val (.agg #[iV x0, iV y0, iV x1, iV y1])), (1, eP B1 0)]) (ob := [Ad B1 0, Ad B1 1, Ad B1 2, Ad B1 3]) (Ac (ad _ _) (Ac (ad _ _) (Ac (ad _ _) (Ao (ad _ _))))) ?_
 clear hf; intro a hf
 refine sxcall hf rfl rfl rfl rfl (g := 88) (vs := [.agg #[iV x0, iV y0, iV x1, iV y1]]) (ob := []) (by as_aux_lemma => kernel_rfl) An enters88 (corners_any x0 y0 x1 y1 w1  ) ?_
 clear hf; rintro _ w2 a ⟨rfl, hk⟩ hf
 have hM := hM.keepNn hk
 have hk0 := hk0.trans hk.nn
 clear hk
 refine q1 hf hM [4, 3, 1] [{}, {}, {}, { os := [.nw] }, { os := [.nw] }, { os := [.st 1 0, .st 1 1] }, { os := [.st 2 0, .st 2 1] }] (env' := fun B3 => [(4, eP (B3 + 1) 0), (3, eP B3 0), (1, eP B1 0)]) (M' := fun B3 => [⟨B1, 50, [iV x0, iV y0, iV x1, iV y1]⟩, ⟨B3, 114, [iV x0, iV y0]⟩, ⟨B3 + 1, 114, [iV x1, iV y1]⟩]) (ob := fun B3 => [Ad B3 0, Ad B3 1, Ad (B3 + 1) 0, Ad (B3 + 1) 1]) (fun B3 => (Ac (ad _ _) (Ac (ad _ _) (Ac (ad _ _) (Ao (ad _ _)))))) ?_
 clear hf hM; intro a w3 B3 hf hM hB hk
 have hbB3 : w.heap.size ≤ B3 := by have := hk0.size; omega
 have hk0 := hk0.then hk (by intro i hi h; simp only [Is, Mem.names, List.map_cons, List.map_nil, List.mem_cons, List.not_mem_nil, or_false] at h; omega)
 clear hk hB
 refine wpList_nil ?_
 refine hK2 _ _ ?_
 refine wp_seq_k (fun K3 hK3 => ?_)
 refine wp_region_lit ?_
 refine q0 hf hM [22, 4, 3] [{}, { os := [.ld 0 0] }, {}, { os := [.ld 0 2] }, {}, {}, { g := .sym }, { g := .sym, os := [.ld 0 1] }, { g := .sym }, { g := .sym, os := [.ld 0 3] }, { g := .sym }, { hint := some (bV ((decide ((x0 : Int) ≤ x1)) && (decide ((y0 : Int) ≤ y1)))) }, {}] (env' := [(22, eB ((decide ((x0 : Int) ≤ x1)) && (decide ((y0 : Int) ≤ y1)))), (4, eP (B3 + 1) 0), (3, eP B3 0)]) (ob := [Ad B1 0, Ad B1 2, ((decide ((x0 : Int) ≤ x1)) = true → (decide ((x0 : Int) ≤ x1)) = (decide ((x0 : Int) ≤ x1))), ((decide ((x0 : Int) ≤ x1)) = true → Ad B1 1), ((decide ((x0 : Int) ≤ x1)) = true → (decide ((x0 : Int) ≤ x1)) = (decide ((x0 : Int) ≤ x1))), ((decide ((x0 : Int) ≤ x1)) = true → Ad B1 3), ((decide ((x0 : Int) ≤ x1)) = true → (decide ((x0 : Int) ≤ x1)) = (decide ((x0 : Int) ≤ x1))), ((decide ((x0 : Int) ≤ x1)) = true → (decide ((x0 : Int) ≤ x1)) = (decide ((x0 : Int) ≤ x1))), ((decide ((x0 : Int) ≤ x1)) = true → (decide ((x0 : Int) ≤ x1)) = (decide ((x0 : Int) ≤ x1))), (bif (decide ((x0 : Int) ≤ x1)) then (bV (decide ((y0 : Int) ≤ y1)) : Value) else bV false) = .bool ((decide ((x0 : Int) ≤ x1)) && (decide ((y0 : Int) ≤ y1)))]) (Ac (ad _ _) (Ac (ad _ _) (Ac (fun hgd => rfl) (Ac (fun hgd => ad _ _) (Ac (fun hgd => rfl) (Ac (fun hgd => ad _ _) (Ac (fun hgd => rfl) (Ac (fun hgd => rfl) (Ac (fun _ => rfl) (Ao (pick_and _ _))))))))))) ?_
 clear hf; intro a hf
 rcases Bool.eq_false_or_eq_true ((decide ((x0 : Int) ≤ x1)) && (decide ((y0 : Int) ≤ y1))) with hg1r | hg1r
 · have hg1 := hg1r
   try simp only [Bool.or_eq_true, Bool.and_eq_true, Bool.not_eq_true', Bool.not_eq_false', Bool.or_eq_false_iff, Bool.and_eq_false_iff, decide_eq_true_eq, decide_eq_false_iff_not, beq_iff_eq, bne_iff_ne, beq_eq_false_iff_ne, bne_eq_false_iff_eq, Bool.and_true, Bool.true_and, ne_eq] at hg1
   have hf := hf.prune [22, 4, 3]
   replace hf : Fr 30 [(22, eB ((decide ((x0 : Int) ≤ x1)) && (decide ((y0 : Int) ≤ y1)))), (4, eP (B3 + 1) 0), (3, eP B3 0)] a := hf
   replace hf := hf.conv (env' := [(22, eB true), (4, eP (B3 + 1) 0), (3, eP B3 0)]) (Ac (congrArg Value.bool hg1r) (Ac rfl (Ao rfl)))
   refine q0 hf hM [23, 22, 4] [{ os := [.ld 1 0, .ld 1 1] }] (env' := [(23, .val (.agg #[iV x0, iV y0])), (22, eB true), (4, eP (B3 + 1) 0)]) (ob := [true = true, Ad B3 0, Ad B3 1]) (Ac rfl (Ac (ad _ _) (Ao (ad _ _)))) ?_
   clear hf; intro a hf
   refine sxcallg hf rfl rfl rfl rfl rfl (g := 96) (vs := [.agg #[iV x0, iV y0]]) (ob := []) (by as_aux_lemma => kernel_rfl) An enters96 (reach_any x0 y0 w3  ) ?_
   clear hf; rintro _ w4 a ⟨rfl, hk⟩ hf
   have hM := hM.keepNn hk
   have hk0 := hk0.trans hk.nn
   clear hk
   refine q0 hf hM [26, 4] [{}, {}] (env' := [(26, eB (reach x0 y0)), (4, eP (B3 + 1) 0)]) (ob := []) An ?_
   clear hf; intro a hf
   rcases Bool.eq_false_or_eq_true (reach x0 y0) with hg2r | hg2r
   · have hg2 := hg2r
     have hf := hf.prune [26, 4]
     replace hf : Fr 30 [(26, eB (reach x0 y0)), (4, eP (B3 + 1) 0)] a := hf
     replace hf := hf.conv (env' := [(26, eB true), (4, eP (B3 + 1) 0)]) (Ac (congrArg Value.bool hg2r) (Ao rfl))
     refine q0 hf hM [27, 26] [{ os := [.ld 2 0, .ld 2 1] }] (env' := [(27, .val (.agg #[iV x1, iV y1])), (26, eB true)]) (ob := [true = true, Ad (B3 + 1) 0, Ad (B3 + 1) 1]) (Ac rfl (Ac (ad _ _) (Ao (ad _ _)))) ?_
     clear hf; intro a hf
     refine sxcallg hf rfl rfl rfl rfl rfl (g := 96) (vs := [.agg #[iV x1, iV y1]]) (ob := []) (by as_aux_lemma => kernel_rfl) An enters96 (reach_any x1 y1 w4  ) ?_
     clear hf; rintro _ w5 a ⟨rfl, hk⟩ hf
     have hM := hM.keepNn hk
     have hk0 := hk0.trans hk.nn
     clear hk
     refine q0 hf hM [2] [{}, {}] (env' := [(2, eB (reach x1 y1))]) (ob := []) An ?_
     clear hf; intro a hf
     refine wpList_nil ?_
     refine hK3 _ _ ?_
     refine wp_ret ?_
     refine qr (fn := Tryd.f87) hf hM [] (l := [bV (reach x1 y1)]) (ob := []) An ?_
     show (bV (reach x1 y1) : Value) = .bool (boxRight x0 y0 x1 y1) ∧ Keep Nn w w5
     refine ⟨congrArg Value.bool ?_, hk0⟩
     rw [Bool.eq_iff_iff]
     simp only [reach, boxRight, Bool.or_eq_true, Bool.and_eq_true, Bool.not_eq_true', Bool.not_eq_false', Bool.or_eq_false_iff, Bool.and_eq_false_iff, decide_eq_true_eq, decide_eq_false_iff_not, beq_iff_eq, Bool.false_eq_true, Bool.true_eq_false, false_iff, true_iff, iff_true, iff_false, not_true, not_false_iff, true_and, and_true, false_and, and_false, ge_iff_le, gt_iff_lt] at *
     try omega
   · have hg2 := hg2r
     have hf := hf.prune [26, 4]
     replace hf : Fr 30 [(26, eB (reach x0 y0)), (4, eP (B3 + 1) 0)] a := hf
     replace hf := hf.conv (env' := [(26, eB false), (4, eP (B3 + 1) 0)]) (Ac (congrArg Value.bool hg2r) (Ao rfl))
     refine q0 hf hM [27, 26] [{ g := .off }] (env' := [(27, .val (undef)), (26, eB false)]) (ob := [false = !true]) (Ao rfl) ?_
     clear hf; intro a hf
     refine q0 hf hM [2] [{ g := .off }, {}, {}] (env' := [(2, eB false)]) (ob := [false = !true]) (Ao rfl) ?_
     clear hf; intro a hf
     refine wpList_nil ?_
     refine hK3 _ _ ?_
     refine wp_ret ?_
     refine qr (fn := Tryd.f87) hf hM [] (l := [bV false]) (ob := []) An ?_
     show (bV false : Value) = .bool (boxRight x0 y0 x1 y1) ∧ Keep Nn w w4
     refine ⟨congrArg Value.bool ?_, hk0⟩
     rw [Bool.eq_iff_iff]
     simp only [reach, boxRight, Bool.or_eq_true, Bool.and_eq_true, Bool.not_eq_true', Bool.not_eq_false', Bool.or_eq_false_iff, Bool.and_eq_false_iff, decide_eq_true_eq, decide_eq_false_iff_not, beq_iff_eq, Bool.false_eq_true, Bool.true_eq_false, false_iff, true_iff, iff_true, iff_false, not_true, not_false_iff, true_and, and_true, false_and, and_false, ge_iff_le, gt_iff_lt] at *
     try omega
 · have hg1 := hg1r
   try simp only [Bool.or_eq_true, Bool.and_eq_true, Bool.not_eq_true', Bool.not_eq_false', Bool.or_eq_false_iff, Bool.and_eq_false_iff, decide_eq_true_eq, decide_eq_false_iff_not, beq_iff_eq, bne_iff_ne, beq_eq_false_iff_ne, bne_eq_false_iff_eq, Bool.and_true, Bool.true_and, ne_eq] at hg1
   have hf := hf.prune [22, 4, 3]
   replace hf : Fr 30 [(22, eB ((decide ((x0 : Int) ≤ x1)) && (decide ((y0 : Int) ≤ y1)))), (4, eP (B3 + 1) 0), (3, eP B3 0)] a := hf
   replace hf := hf.conv (env' := [(22, eB false), (4, eP (B3 + 1) 0), (3, eP B3 0)]) (Ac (congrArg Value.bool hg1r) (Ac rfl (Ao rfl)))
   refine q0 hf hM [23, 22, 4] [{ g := .off }] (env' := [(23, .val (undef)), (22, eB false), (4, eP (B3 + 1) 0)]) (ob := [false = !true]) (Ao rfl) ?_
   clear hf; intro a hf
   refine q0 hf hM [27, 26] [{ g := .off }, {}, {}, { g := .off }] (env' := [(27, .val (undef)), (26, eB false)]) (ob := [false = !true, false = !true]) (Ac rfl (Ao rfl)) ?_
   clear hf; intro a hf
   refine q0 hf hM [2] [{ g := .off }, {}, {}] (env' := [(2, eB false)]) (ob := [false = !true]) (Ao rfl) ?_
   clear hf; intro a hf
   refine wpList_nil ?_
   refine hK3 _ _ ?_
   refine wp_ret ?_
   refine qr (fn := Tryd.f87) hf hM [] (l := [bV false]) (ob := []) An ?_
   show (bV false : Value) = .bool (boxRight x0 y0 x1 y1) ∧ Keep Nn w w3
   refine ⟨congrArg Value.bool ?_, hk0⟩
   rw [Bool.eq_iff_iff]
   simp only [reach, boxRight, Bool.or_eq_true, Bool.and_eq_true, Bool.not_eq_true', Bool.not_eq_false', Bool.or_eq_false_iff, Bool.and_eq_false_iff, decide_eq_true_eq, decide_eq_false_iff_not, beq_iff_eq, Bool.false_eq_true, Bool.true_eq_false, false_iff, true_iff, iff_true, iff_false, not_true, not_false_iff, true_and, and_true, false_and, and_false, ge_iff_le, gt_iff_lt] at *
   try omega

set_option maxRecDepth 10000 in
set_option maxHeartbeats 1600000 in
theorem has_any (x0 y0 x1 y1 : Int) (px py : Int) (w : World) :
    Calls Tryd.prog 89 #[.agg #[iV x0, iV y0, iV x1, iV y1], .agg #[iV px, iV py]] w (Ret fun v w' => v = .bool (boxHas x0 y0 x1 y1 px py) ∧ Keep Nn w w') := by
 refine sxenter (n := 35) (args := [.agg #[iV x0, iV y0, iV x1, iV y1], .agg #[iV px, iV py]]) Tryd.func89 rfl rfl rfl fun a hf => ?_
 replace hf : Fr 35 [(0, .val (.agg #[iV x0, iV y0, iV x1, iV y1])), (1, .val (.agg #[iV px, iV py]))] a := hf
 have hM : MemOk [] w := MemOk.nil w
 have hk0 : Keep Nn w w := Keep.refl _ _
 refine wp_seq_k (fun K1 hK1 => ?_)
 refine wp_region_lit ?_
 refine q1 hf hM [3, 2] [{ os := [.nw] }, { os := [.nw] }, {}] (env' := fun B1 => [(3, eP (B1 + 1) 0), (2, eP B1 0)]) (M' := fun B1 => [⟨B1, 50, [iV x0, iV y0, iV x1, iV y1]⟩, ⟨B1 + 1, 114, [iV px, iV py]⟩]) (ob := fun B1 => []) (fun B1 => An) ?_
 clear hf hM; intro a w1 B1 hf hM hB hk
 have hbB1 : w.heap.size ≤ B1 := by have := hk0.size; omega
 have hk0 := hk0.then hk (by intro i _ h; cases h)
 clear hk hB
 refine wpList_nil ?_
 refine hK1 _ _ ?_
 refine wp_seq_k (fun K2 hK2 => ?_)
 refine wp_region_lit ?_
 refine q0 hf hM [5, 3, 2] [{ os := [.ld 0 0, .ld 0 1, .ld 0 2, .ld 0 3] }] (env' := [(5, .val (.agg #[iV x0, iV y0, iV x1, iV y1])), (3, eP (B1 + 1) 0), (2, eP B1 0)]) (ob := [Ad B1 0, Ad B1 1, Ad B1 2, Ad B1 3]) (Ac (ad _ _) (Ac (ad _ _) (Ac (ad _ _) (Ao (ad _ _))))) ?_
 clear hf; intro a hf
 refine sxcall hf rfl rfl rfl rfl (g := 87) (vs := [.agg #[iV x0, iV y0, iV x1, iV y1]]) (ob := []) (by as_aux_lemma => kernel_rfl) An enters87 (right_box x0 y0 x1 y1 w1  ) ?_
 clear hf; rintro _ w2 a ⟨rfl, hk⟩ hf
 have hM := hM.keepNn hk
 have hk0 := hk0.trans hk.nn
 clear hk
 refine q0 hf hM [4] [{}, { g := .sym }, { g := .sym, os := [.ld 1 0] }, { g := .sym }, { g := .sym, os := [.ld 0 0] }, { g := .sym }, { hint := some (bV ((boxRight x0 y0 x1 y1) && (decide ((px : Int) ≥ x0)))) }, {}, { g := .sym }, { g := .sym, os := [.ld 1 0] }, { g := .sym }, { g := .sym, os := [.ld 0 2] }, { g := .sym }, { hint := some (bV (((boxRight x0 y0 x1 y1) && (decide ((px : Int) ≥ x0))) && (decide ((px : Int) ≤ x1)))) }, {}, { g := .sym }, { g := .sym, os := [.ld 1 1] }, { g := .sym }, { g := .sym, os := [.ld 0 1] }, { g := .sym }, { hint := some (bV ((((boxRight x0 y0 x1 y1) && (decide ((px : Int) ≥ x0))) && (decide ((px : Int) ≤ x1))) && (decide ((py : Int) ≥ y0)))) }, {}, { g := .sym }, { g := .sym, os := [.ld 1 1] }, { g := .sym }, { g := .sym, os := [.ld 0 3] }, { g := .sym }, { hint := some (bV (((((boxRight x0 y0 x1 y1) && (decide ((px : Int) ≥ x0))) && (decide ((px : Int) ≤ x1))) && (decide ((py : Int) ≥ y0))) && (decide ((py : Int) ≤ y1)))) }, {}] (env' := [(4, eB (((((boxRight x0 y0 x1 y1) && (decide ((px : Int) ≥ x0))) && (decide ((px : Int) ≤ x1))) && (decide ((py : Int) ≥ y0))) && (decide ((py : Int) ≤ y1))))]) (ob := [((boxRight x0 y0 x1 y1) = true → (boxRight x0 y0 x1 y1) = (boxRight x0 y0 x1 y1)), ((boxRight x0 y0 x1 y1) = true → Ad (B1 + 1) 0), ((boxRight x0 y0 x1 y1) = true → (boxRight x0 y0 x1 y1) = (boxRight x0 y0 x1 y1)), ((boxRight x0 y0 x1 y1) = true → Ad B1 0), ((boxRight x0 y0 x1 y1) = true → (boxRight x0 y0 x1 y1) = (boxRight x0 y0 x1 y1)), ((boxRight x0 y0 x1 y1) = true → (boxRight x0 y0 x1 y1) = (boxRight x0 y0 x1 y1)), ((boxRight x0 y0 x1 y1) = true → (boxRight x0 y0 x1 y1) = (boxRight x0 y0 x1 y1)), (bif boxRight x0 y0 x1 y1 then (bV (decide ((px : Int) ≥ x0)) : Value) else bV false) = .bool ((boxRight x0 y0 x1 y1) && (decide ((px : Int) ≥ x0))), (((boxRight x0 y0 x1 y1) && (decide ((px : Int) ≥ x0))) = true → ((boxRight x0 y0 x1 y1) && (decide ((px : Int) ≥ x0))) = ((boxRight x0 y0 x1 y1) && (decide ((px : Int) ≥ x0)))), (((boxRight x0 y0 x1 y1) && (decide ((px : Int) ≥ x0))) = true → Ad (B1 + 1) 0), (((boxRight x0 y0 x1 y1) && (decide ((px : Int) ≥ x0))) = true → ((boxRight x0 y0 x1 y1) && (decide ((px : Int) ≥ x0))) = ((boxRight x0 y0 x1 y1) && (decide ((px : Int) ≥ x0)))), (((boxRight x0 y0 x1 y1) && (decide ((px : Int) ≥ x0))) = true → Ad B1 2), (((boxRight x0 y0 x1 y1) && (decide ((px : Int) ≥ x0))) = true → ((boxRight x0 y0 x1 y1) && (decide ((px : Int) ≥ x0))) = ((boxRight x0 y0 x1 y1) && (decide ((px : Int) ≥ x0)))), (((boxRight x0 y0 x1 y1) && (decide ((px : Int) ≥ x0))) = true → ((boxRight x0 y0 x1 y1) && (decide ((px : Int) ≥ x0))) = ((boxRight x0 y0 x1 y1) && (decide ((px : Int) ≥ x0)))), (((boxRight x0 y0 x1 y1) && (decide ((px : Int) ≥ x0))) = true → ((boxRight x0 y0 x1 y1) && (decide ((px : Int) ≥ x0))) = ((boxRight x0 y0 x1 y1) && (decide ((px : Int) ≥ x0)))), (bif ((boxRight x0 y0 x1 y1) && (decide ((px : Int) ≥ x0))) then (bV (decide ((px : Int) ≤ x1)) : Value) else bV false) = .bool (((boxRight x0 y0 x1 y1) && (decide ((px : Int) ≥ x0))) && (decide ((px : Int) ≤ x1))), ((((boxRight x0 y0 x1 y1) && (decide ((px : Int) ≥ x0))) && (decide ((px : Int) ≤ x1))) = true → (((boxRight x0 y0 x1 y1) && (decide ((px : Int) ≥ x0))) && (decide ((px : Int) ≤ x1))) = (((boxRight x0 y0 x1 y1) && (decide ((px : Int) ≥ x0))) && (decide ((px : Int) ≤ x1)))), ((((boxRight x0 y0 x1 y1) && (decide ((px : Int) ≥ x0))) && (decide ((px : Int) ≤ x1))) = true → Ad (B1 + 1) 1), ((((boxRight x0 y0 x1 y1) && (decide ((px : Int) ≥ x0))) && (decide ((px : Int) ≤ x1))) = true → (((boxRight x0 y0 x1 y1) && (decide ((px : Int) ≥ x0))) && (decide ((px : Int) ≤ x1))) = (((boxRight x0 y0 x1 y1) && (decide ((px : Int) ≥ x0))) && (decide ((px : Int) ≤ x1)))), ((((boxRight x0 y0 x1 y1) && (decide ((px : Int) ≥ x0))) && (decide ((px : Int) ≤ x1))) = true → Ad B1 1), ((((boxRight x0 y0 x1 y1) && (decide ((px : Int) ≥ x0))) && (decide ((px : Int) ≤ x1))) = true → (((boxRight x0 y0 x1 y1) && (decide ((px : Int) ≥ x0))) && (decide ((px : Int) ≤ x1))) = (((boxRight x0 y0 x1 y1) && (decide ((px : Int) ≥ x0))) && (decide ((px : Int) ≤ x1)))), ((((boxRight x0 y0 x1 y1) && (decide ((px : Int) ≥ x0))) && (decide ((px : Int) ≤ x1))) = true → (((boxRight x0 y0 x1 y1) && (decide ((px : Int) ≥ x0))) && (decide ((px : Int) ≤ x1))) = (((boxRight x0 y0 x1 y1) && (decide ((px : Int) ≥ x0))) && (decide ((px : Int) ≤ x1)))), ((((boxRight x0 y0 x1 y1) && (decide ((px : Int) ≥ x0))) && (decide ((px : Int) ≤ x1))) = true → (((boxRight x0 y0 x1 y1) && (decide ((px : Int) ≥ x0))) && (decide ((px : Int) ≤ x1))) = (((boxRight x0 y0 x1 y1) && (decide ((px : Int) ≥ x0))) && (decide ((px : Int) ≤ x1)))), (bif (((boxRight x0 y0 x1 y1) && (decide ((px : Int) ≥ x0))) && (decide ((px : Int) ≤ x1))) then (bV (decide ((py : Int) ≥ y0)) : Value) else bV false) = .bool ((((boxRight x0 y0 x1 y1) && (decide ((px : Int) ≥ x0))) && (decide ((px : Int) ≤ x1))) && (decide ((py : Int) ≥ y0))), (((((boxRight x0 y0 x1 y1) && (decide ((px : Int) ≥ x0))) && (decide ((px : Int) ≤ x1))) && (decide ((py : Int) ≥ y0))) = true → ((((boxRight x0 y0 x1 y1) && (decide ((px : Int) ≥ x0))) && (decide ((px : Int) ≤ x1))) && (decide ((py : Int) ≥ y0))) = ((((boxRight x0 y0 x1 y1) && (decide ((px : Int) ≥ x0))) && (decide ((px : Int) ≤ x1))) && (decide ((py : Int) ≥ y0)))), (((((boxRight x0 y0 x1 y1) && (decide ((px : Int) ≥ x0))) && (decide ((px : Int) ≤ x1))) && (decide ((py : Int) ≥ y0))) = true → Ad (B1 + 1) 1), (((((boxRight x0 y0 x1 y1) && (decide ((px : Int) ≥ x0))) && (decide ((px : Int) ≤ x1))) && (decide ((py : Int) ≥ y0))) = true → ((((boxRight x0 y0 x1 y1) && (decide ((px : Int) ≥ x0))) && (decide ((px : Int) ≤ x1))) && (decide ((py : Int) ≥ y0))) = ((((boxRight x0 y0 x1 y1) && (decide ((px : Int) ≥ x0))) && (decide ((px : Int) ≤ x1))) && (decide ((py : Int) ≥ y0)))), (((((boxRight x0 y0 x1 y1) && (decide ((px : Int) ≥ x0))) && (decide ((px : Int) ≤ x1))) && (decide ((py : Int) ≥ y0))) = true → Ad B1 3), (((((boxRight x0 y0 x1 y1) && (decide ((px : Int) ≥ x0))) && (decide ((px : Int) ≤ x1))) && (decide ((py : Int) ≥ y0))) = true → ((((boxRight x0 y0 x1 y1) && (decide ((px : Int) ≥ x0))) && (decide ((px : Int) ≤ x1))) && (decide ((py : Int) ≥ y0))) = ((((boxRight x0 y0 x1 y1) && (decide ((px : Int) ≥ x0))) && (decide ((px : Int) ≤ x1))) && (decide ((py : Int) ≥ y0)))), (((((boxRight x0 y0 x1 y1) && (decide ((px : Int) ≥ x0))) && (decide ((px : Int) ≤ x1))) && (decide ((py : Int) ≥ y0))) = true → ((((boxRight x0 y0 x1 y1) && (decide ((px : Int) ≥ x0))) && (decide ((px : Int) ≤ x1))) && (decide ((py : Int) ≥ y0))) = ((((boxRight x0 y0 x1 y1) && (decide ((px : Int) ≥ x0))) && (decide ((px : Int) ≤ x1))) && (decide ((py : Int) ≥ y0)))), (((((boxRight x0 y0 x1 y1) && (decide ((px : Int) ≥ x0))) && (decide ((px : Int) ≤ x1))) && (decide ((py : Int) ≥ y0))) = true → ((((boxRight x0 y0 x1 y1) && (decide ((px : Int) ≥ x0))) && (decide ((px : Int) ≤ x1))) && (decide ((py : Int) ≥ y0))) = ((((boxRight x0 y0 x1 y1) && (decide ((px : Int) ≥ x0))) && (decide ((px : Int) ≤ x1))) && (decide ((py : Int) ≥ y0)))), (bif ((((boxRight x0 y0 x1 y1) && (decide ((px : Int) ≥ x0))) && (decide ((px : Int) ≤ x1))) && (decide ((py : Int) ≥ y0))) then (bV (decide ((py : Int) ≤ y1)) : Value) else bV false) = .bool (((((boxRight x0 y0 x1 y1) && (decide ((px : Int) ≥ x0))) && (decide ((px : Int) ≤ x1))) && (decide ((py : Int) ≥ y0))) && (decide ((py : Int) ≤ y1)))]) (Ac (fun hgd => rfl) (Ac (fun hgd => ad _ _) (Ac (fun hgd => rfl) (Ac (fun hgd => ad _ _) (Ac (fun hgd => rfl) (Ac (fun hgd => rfl) (Ac (fun _ => rfl) (Ac (pick_and _ _) (Ac (fun hgd => rfl) (Ac (fun hgd => ad _ _) (Ac (fun hgd => rfl) (Ac (fun hgd => ad _ _) (Ac (fun hgd => rfl) (Ac (fun hgd => rfl) (Ac (fun _ => rfl) (Ac (pick_and _ _) (Ac (fun hgd => rfl) (Ac (fun hgd => ad _ _) (Ac (fun hgd => rfl) (Ac (fun hgd => ad _ _) (Ac (fun hgd => rfl) (Ac (fun hgd => rfl) (Ac (fun _ => rfl) (Ac (pick_and _ _) (Ac (fun hgd => rfl) (Ac (fun hgd => ad _ _) (Ac (fun hgd => rfl) (Ac (fun hgd => ad _ _) (Ac (fun hgd => rfl) (Ac (fun hgd => rfl) (Ac (fun _ => rfl) (Ao (pick_and _ _))))))))))))))))))))))))))))))))) ?_
 clear hf; intro a hf
 refine wpList_nil ?_
 refine hK2 _ _ ?_
 refine wp_ret ?_
 refine qr (fn := Tryd.f89) hf hM [] (l := [bV (((((boxRight x0 y0 x1 y1) && (decide ((px : Int) ≥ x0))) && (decide ((px : Int) ≤ x1))) && (decide ((py : Int) ≥ y0))) && (decide ((py : Int) ≤ y1)))]) (ob := []) An ?_
 show (bV (((((boxRight x0 y0 x1 y1) && (decide ((px : Int) ≥ x0))) && (decide ((px : Int) ≤ x1))) && (decide ((py : Int) ≥ y0))) && (decide ((py : Int) ≤ y1))) : Value) = .bool (boxHas x0 y0 x1 y1 px py) ∧ Keep Nn w w2
 refine ⟨congrArg Value.bool ?_, hk0⟩
 rw [Bool.eq_iff_iff]
 simp only [boxHas, boxRight, Bool.or_eq_true, Bool.and_eq_true, Bool.not_eq_true', Bool.not_eq_false', Bool.or_eq_false_iff, Bool.and_eq_false_iff, decide_eq_true_eq, decide_eq_false_iff_not, beq_iff_eq, Bool.false_eq_true, Bool.true_eq_false, false_iff, true_iff, iff_true, iff_false, not_true, not_false_iff, true_and, and_true, false_and, and_false, ge_iff_le, gt_iff_lt] at *
 try omega

set_option maxRecDepth 10000 in
set_option maxHeartbeats 1600000 in
theorem inside_any (a0 b0 a1 b1 x0 y0 x1 y1 : Int) (w : World) :
    Calls Tryd.prog 62 #[.agg #[iV a0, iV b0, iV a1, iV b1], .agg #[iV x0, iV y0, iV x1, iV y1]] w (Ret fun v w' => v = .bool (boxInside a0 b0 a1 b1 x0 y0 x1 y1) ∧ Keep Nn w w') := by
 refine sxenter (n := 24) (args := [.agg #[iV a0, iV b0, iV a1, iV b1], .agg #[iV x0, iV y0, iV x1, iV y1]]) Tryd.func62 rfl rfl rfl fun a hf => ?_
 replace hf : Fr 24 [(0, .val (.agg #[iV a0, iV b0, iV a1, iV b1])), (1, .val (.agg #[iV x0, iV y0, iV x1, iV y1]))] a := hf
 have hM : MemOk [] w := MemOk.nil w
 have hk0 : Keep Nn w w := Keep.refl _ _
 refine wp_seq_k (fun K1 hK1 => ?_)
 refine wp_region_lit ?_
 refine q1 hf hM [3, 2] [{ os := [.nw] }, { os := [.nw] }, {}] (env' := fun B1 => [(3, eP (B1 + 1) 0), (2, eP B1 0)]) (M' := fun B1 => [⟨B1, 50, [iV a0, iV b0, iV a1, iV b1]⟩, ⟨B1 + 1, 50, [iV x0, iV y0, iV x1, iV y1]⟩]) (ob := fun B1 => []) (fun B1 => An) ?_
 clear hf hM; intro a w1 B1 hf hM hB hk
 have hbB1 : w.heap.size ≤ B1 := by have := hk0.size; omega
 have hk0 := hk0.then hk (by intro i _ h; cases h)
 clear hk hB
 refine wpList_nil ?_
 refine hK1 _ _ ?_
 refine wp_seq_k (fun K2 hK2 => ?_)
 refine wp_region_lit ?_
 refine q0 hf hM [8, 3, 2] [{ os := [.ld 0 0, .ld 0 1, .ld 0 2, .ld 0 3] }] (env' := [(8, .val (.agg #[iV a0, iV b0, iV a1, iV b1])), (3, eP (B1 + 1) 0), (2, eP B1 0)]) (ob := [Ad B1 0, Ad B1 1, Ad B1 2, Ad B1 3]) (Ac (ad _ _) (Ac (ad _ _) (Ac (ad _ _) (Ao (ad _ _))))) ?_
 clear hf; intro a hf
 refine sxcall hf rfl rfl rfl rfl (g := 88) (vs := [.agg #[iV a0, iV b0, iV a1, iV b1]]) (ob := []) (by as_aux_lemma => kernel_rfl) An enters88 (corners_any a0 b0 a1 b1 w1  ) ?_
 clear hf; rintro _ w2 a ⟨rfl, hk⟩ hf
 have hM := hM.keepNn hk
 have hk0 := hk0.trans hk.nn
 clear hk
 refine q1 hf hM [6, 5, 3, 2] [{}, {}, {}, { os := [.nw] }, { os := [.nw] }, { os := [.st 2 0, .st 2 1] }, { os := [.st 3 0, .st 3 1] }] (env' := fun B3 => [(6, eP (B3 + 1) 0), (5, eP B3 0), (3, eP (B1 + 1) 0), (2, eP B1 0)]) (M' := fun B3 => [⟨B1, 50, [iV a0, iV b0, iV a1, iV b1]⟩, ⟨B1 + 1, 50, [iV x0, iV y0, iV x1, iV y1]⟩, ⟨B3, 114, [iV a0, iV b0]⟩, ⟨B3 + 1, 114, [iV a1, iV b1]⟩]) (ob := fun B3 => [Ad B3 0, Ad B3 1, Ad (B3 + 1) 0, Ad (B3 + 1) 1]) (fun B3 => (Ac (ad _ _) (Ac (ad _ _) (Ac (ad _ _) (Ao (ad _ _)))))) ?_
 clear hf hM; intro a w3 B3 hf hM hB hk
 have hbB3 : w.heap.size ≤ B3 := by have := hk0.size; omega
 have hk0 := hk0.then hk (by intro i hi h; simp only [Is, Mem.names, List.map_cons, List.map_nil, List.mem_cons, List.not_mem_nil, or_false] at h; omega)
 clear hk hB
 refine wpList_nil ?_
 refine hK2 _ _ ?_
 refine wp_seq_k (fun K3 hK3 => ?_)
 refine wp_region_lit ?_
 refine q0 hf hM [12, 6, 5, 3] [{ os := [.ld 0 0, .ld 0 1, .ld 0 2, .ld 0 3] }] (env' := [(12, .val (.agg #[iV a0, iV b0, iV a1, iV b1])), (6, eP (B3 + 1) 0), (5, eP B3 0), (3, eP (B1 + 1) 0)]) (ob := [Ad B1 0, Ad B1 1, Ad B1 2, Ad B1 3]) (Ac (ad _ _) (Ac (ad _ _) (Ac (ad _ _) (Ao (ad _ _))))) ?_
 clear hf; intro a hf
 refine sxcall hf rfl rfl rfl rfl (g := 87) (vs := [.agg #[iV a0, iV b0, iV a1, iV b1]]) (ob := []) (by as_aux_lemma => kernel_rfl) An enters87 (right_box a0 b0 a1 b1 w3  ) ?_
 clear hf; rintro _ w4 a ⟨rfl, hk⟩ hf
 have hM := hM.keepNn hk
 have hk0 := hk0.trans hk.nn
 clear hk
 refine q0 hf hM [14, 6, 5, 3] [{}] (env' := [(14, eB (boxRight a0 b0 a1 b1)), (6, eP (B3 + 1) 0), (5, eP B3 0), (3, eP (B1 + 1) 0)]) (ob := []) An ?_
 clear hf; intro a hf
 rcases Bool.eq_false_or_eq_true (boxRight a0 b0 a1 b1) with hg1r | hg1r
 · have hg1 := hg1r
   have hf := hf.prune [14, 6, 5, 3]
   replace hf : Fr 24 [(14, eB (boxRight a0 b0 a1 b1)), (6, eP (B3 + 1) 0), (5, eP B3 0), (3, eP (B1 + 1) 0)] a := hf
   replace hf := hf.conv (env' := [(14, eB true), (6, eP (B3 + 1) 0), (5, eP B3 0), (3, eP (B1 + 1) 0)]) (Ac (congrArg Value.bool hg1r) (Ac rfl (Ac rfl (Ao rfl))))
   refine q0 hf hM [16, 15, 14, 6, 3] [{ os := [.ld 1 0, .ld 1 1, .ld 1 2, .ld 1 3] }, { os := [.ld 2 0, .ld 2 1] }] (env' := [(16, .val (.agg #[iV a0, iV b0])), (15, .val (.agg #[iV x0, iV y0, iV x1, iV y1])), (14, eB true), (6, eP (B3 + 1) 0), (3, eP (B1 + 1) 0)]) (ob := [true = true, Ad (B1 + 1) 0, Ad (B1 + 1) 1, Ad (B1 + 1) 2, Ad (B1 + 1) 3, true = true, Ad B3 0, Ad B3 1]) (Ac rfl (Ac (ad _ _) (Ac (ad _ _) (Ac (ad _ _) (Ac (ad _ _) (Ac rfl (Ac (ad _ _) (Ao (ad _ _))))))))) ?_
   clear hf; intro a hf
   refine sxcallg hf rfl rfl rfl rfl rfl (g := 89) (vs := [.agg #[iV x0, iV y0, iV x1, iV y1], .agg #[iV a0, iV b0]]) (ob := []) (by as_aux_lemma => kernel_rfl) An enters89 (has_any x0 y0 x1 y1 a0 b0 w4  ) ?_
   clear hf; rintro _ w5 a ⟨rfl, hk⟩ hf
   have hM := hM.keepNn hk
   have hk0 := hk0.trans hk.nn
   clear hk
   refine q0 hf hM [19, 6, 3] [{}, {}] (env' := [(19, eB (boxHas x0 y0 x1 y1 a0 b0)), (6, eP (B3 + 1) 0), (3, eP (B1 + 1) 0)]) (ob := []) An ?_
   clear hf; intro a hf
   rcases Bool.eq_false_or_eq_true (boxHas x0 y0 x1 y1 a0 b0) with hg2r | hg2r
   · have hg2 := hg2r
     have hf := hf.prune [19, 6, 3]
     replace hf : Fr 24 [(19, eB (boxHas x0 y0 x1 y1 a0 b0)), (6, eP (B3 + 1) 0), (3, eP (B1 + 1) 0)] a := hf
     replace hf := hf.conv (env' := [(19, eB true), (6, eP (B3 + 1) 0), (3, eP (B1 + 1) 0)]) (Ac (congrArg Value.bool hg2r) (Ac rfl (Ao rfl)))
     refine q0 hf hM [21, 20, 19] [{ os := [.ld 1 0, .ld 1 1, .ld 1 2, .ld 1 3] }, { os := [.ld 3 0, .ld 3 1] }] (env' := [(21, .val (.agg #[iV a1, iV b1])), (20, .val (.agg #[iV x0, iV y0, iV x1, iV y1])), (19, eB true)]) (ob := [true = true, Ad (B1 + 1) 0, Ad (B1 + 1) 1, Ad (B1 + 1) 2, Ad (B1 + 1) 3, true = true, Ad (B3 + 1) 0, Ad (B3 + 1) 1]) (Ac rfl (Ac (ad _ _) (Ac (ad _ _) (Ac (ad _ _) (Ac (ad _ _) (Ac rfl (Ac (ad _ _) (Ao (ad _ _))))))))) ?_
     clear hf; intro a hf
     refine sxcallg hf rfl rfl rfl rfl rfl (g := 89) (vs := [.agg #[iV x0, iV y0, iV x1, iV y1], .agg #[iV a1, iV b1]]) (ob := []) (by as_aux_lemma => kernel_rfl) An enters89 (has_any x0 y0 x1 y1 a1 b1 w5  ) ?_
     clear hf; rintro _ w6 a ⟨rfl, hk⟩ hf
     have hM := hM.keepNn hk
     have hk0 := hk0.trans hk.nn
     clear hk
     refine q0 hf hM [4] [{}, {}] (env' := [(4, eB (boxHas x0 y0 x1 y1 a1 b1))]) (ob := []) An ?_
     clear hf; intro a hf
     refine wpList_nil ?_
     refine hK3 _ _ ?_
     refine wp_ret ?_
     refine qr (fn := Tryd.f62) hf hM [] (l := [bV (boxHas x0 y0 x1 y1 a1 b1)]) (ob := []) An ?_
     show (bV (boxHas x0 y0 x1 y1 a1 b1) : Value) = .bool (boxInside a0 b0 a1 b1 x0 y0 x1 y1) ∧ Keep Nn w w6
     refine ⟨congrArg Value.bool ?_, hk0⟩
     rw [Bool.eq_iff_iff]
     simp only [boxHas, boxInside, boxRight, Bool.or_eq_true, Bool.and_eq_true, Bool.not_eq_true', Bool.not_eq_false', Bool.or_eq_false_iff, Bool.and_eq_false_iff, decide_eq_true_eq, decide_eq_false_iff_not, beq_iff_eq, Bool.false_eq_true, Bool.true_eq_false, false_iff, true_iff, iff_true, iff_false, not_true, not_false_iff, true_and, and_true, false_and, and_false, ge_iff_le, gt_iff_lt] at *
     try omega
   · have hg2 := hg2r
     have hf := hf.prune [19, 6, 3]
     replace hf : Fr 24 [(19, eB (boxHas x0 y0 x1 y1 a0 b0)), (6, eP (B3 + 1) 0), (3, eP (B1 + 1) 0)] a := hf
     replace hf := hf.conv (env' := [(19, eB false), (6, eP (B3 + 1) 0), (3, eP (B1 + 1) 0)]) (Ac (congrArg Value.bool hg2r) (Ac rfl (Ao rfl)))
     refine q0 hf hM [21, 20, 19] [{ g := .off }, { g := .off }] (env' := [(21, .val (undef)), (20, .val (undef)), (19, eB false)]) (ob := [false = !true, false = !true]) (Ac rfl (Ao rfl)) ?_
     clear hf; intro a hf
     refine q0 hf hM [4] [{ g := .off }, {}, {}] (env' := [(4, eB false)]) (ob := [false = !true]) (Ao rfl) ?_
     clear hf; intro a hf
     refine wpList_nil ?_
     refine hK3 _ _ ?_
     refine wp_ret ?_
     refine qr (fn := Tryd.f62) hf hM [] (l := [bV false]) (ob := []) An ?_
     show (bV false : Value) = .bool (boxInside a0 b0 a1 b1 x0 y0 x1 y1) ∧ Keep Nn w w5
     refine ⟨congrArg Value.bool ?_, hk0⟩
     rw [Bool.eq_iff_iff]
     simp only [boxHas, boxInside, boxRight, Bool.or_eq_true, Bool.and_eq_true, Bool.not_eq_true', Bool.not_eq_false', Bool.or_eq_false_iff, Bool.and_eq_false_iff, decide_eq_true_eq, decide_eq_false_iff_not, beq_iff_eq, Bool.false_eq_true, Bool.true_eq_false, false_iff, true_iff, iff_true, iff_false, not_true, not_false_iff, true_and, and_true, false_and, and_false, ge_iff_le, gt_iff_lt] at *
     try omega
 · have hg1 := hg1r
   have hf := hf.prune [14, 6, 5, 3]
   replace hf : Fr 24 [(14, eB (boxRight a0 b0 a1 b1)), (6, eP (B3 + 1) 0), (5, eP B3 0), (3, eP (B1 + 1) 0)] a := hf
   replace hf := hf.conv (env' := [(14, eB false), (6, eP (B3 + 1) 0), (5, eP B3 0), (3, eP (B1 + 1) 0)]) (Ac (congrArg Value.bool hg1r) (Ac rfl (Ac rfl (Ao rfl))))
   refine q0 hf hM [16, 15, 14, 6, 3] [{ g := .off }, { g := .off }] (env' := [(16, .val (undef)), (15, .val (undef)), (14, eB false), (6, eP (B3 + 1) 0), (3, eP (B1 + 1) 0)]) (ob := [false = !true, false = !true]) (Ac rfl (Ao rfl)) ?_
   clear hf; intro a hf
   refine q0 hf hM [21, 20, 19] [{ g := .off }, {}, {}, { g := .off }, { g := .off }] (env' := [(21, .val (undef)), (20, .val (undef)), (19, eB false)]) (ob := [false = !true, false = !true, false = !true]) (Ac rfl (Ac rfl (Ao rfl))) ?_
   clear hf; intro a hf
   refine q0 hf hM [4] [{ g := .off }, {}, {}] (env' := [(4, eB false)]) (ob := [false = !true]) (Ao rfl) ?_
   clear hf; intro a hf
   refine wpList_nil ?_
   refine hK3 _ _ ?_
   refine wp_ret ?_
   refine qr (fn := Tryd.f62) hf hM [] (l := [bV false]) (ob := []) An ?_
   show (bV false : Value) = .bool (boxInside a0 b0 a1 b1 x0 y0 x1 y1) ∧ Keep Nn w w4
   refine ⟨congrArg Value.bool ?_, hk0⟩
   rw [Bool.eq_iff_iff]
   simp only [boxHas, boxInside, boxRight, Bool.or_eq_true, Bool.and_eq_true, Bool.not_eq_true', Bool.not_eq_false', Bool.or_eq_false_iff, Bool.and_eq_false_iff, decide_eq_true_eq, decide_eq_false_iff_not, beq_iff_eq, Bool.false_eq_true, Bool.true_eq_false, false_iff, true_iff, iff_true, iff_false, not_true, not_false_iff, true_and, and_true, false_and, and_false, ge_iff_le, gt_iff_lt] at *
   try omega

def ofOk (px py hx hy : Int) : Bool := decide (-1048576 ≤ px ∧ px ≤ 1048576 ∧ -1048576 ≤ py ∧ py ≤ 1048576 ∧ 0 ≤ hx ∧ hx ≤ 1048576 ∧ 0 ≤ hy ∧ hy ≤ 1048576)

set_option maxRecDepth 10000 in
set_option maxHeartbeats 1600000 in
theorem plof_ok (E : Nat → Addr) (px py hx hy : Int) (w : World) (hn0 : (ofOk px py hx hy) = true) (hG : Errs [0, 3, 4] w 185 E) :
    Calls Tryd.prog 71 #[.agg #[iV px, iV py], .agg #[iV hx, iV hy]] w (Ret fun v w' => v = .tuple #[.agg #[iV (px - hx), iV (py - hy), iV (px + hx), iV (py + hy)], .nilIface] ∧ Keep Nn w w') := by
 refine sxenter (n := 66) (args := [.agg #[iV px, iV py], .agg #[iV hx, iV hy]]) Tryd.func71 rfl rfl rfl fun a hf => ?_
 replace hf : Fr 66 [(0, .val (.agg #[iV px, iV py])), (1, .val (.agg #[iV hx, iV hy]))] a := hf
 have hM : MemOk [] w := MemOk.nil w
 have hk0 : Keep Nn w w := Keep.refl _ _
 have hb := of_decide_eq_true hn0
 have h1 : within px 1048576 = true := by simp [within]; omega
 have h2 : within py 1048576 = true := by simp [within]; omega
 refine wp_seq_k (fun K1 hK1 => ?_)
 refine wp_region_lit ?_
 refine q1 hf hM [5, 4, 3, 2] [{ os := [.nw] }, { os := [.nw] }, { os := [.nw] }, {}] (env' := fun B1 => [(5, .val (.nilIface)), (4, eP (B1 + 2) 0), (3, eP (B1 + 1) 0), (2, eP B1 0)]) (M' := fun B1 => [⟨B1, 114, [iV px, iV py]⟩, ⟨B1 + 1, 114, [iV hx, iV hy]⟩, ⟨B1 + 2, 50, [iV 0, iV 0, iV 0, iV 0]⟩]) (ob := fun B1 => []) (fun B1 => An) ?_
 clear hf hM; intro a w1 B1 hf hM hB hk
 have hbB1 : w.heap.size ≤ B1 := by have := hk0.size; omega
 have hk0 := hk0.then hk (by intro i _ h; cases h)
 clear hk hB
 refine wpList_nil ?_
 refine hK1 _ _ ?_
 refine wp_seq_k (fun K2 hK2 => ?_)
 refine wp_seq_k (fun K3 hK3 => ?_)
 refine wp_region_lit ?_
 refine q0 hf hM [13, 11, 5, 4, 3, 2] [{}, { os := [.ld 0 0] }, {}, { os := [.ld 0 1] }] (env' := [(13, eI py), (11, eI px), (5, .val (.nilIface)), (4, eP (B1 + 2) 0), (3, eP (B1 + 1) 0), (2, eP B1 0)]) (ob := [Ad B1 0, Ad B1 1]) (Ac (ad _ _) (Ao (ad _ _))) ?_
 clear hf; intro a hf
 refine sxbslice hf hM (t := 22) (e := 3) (len := 2) (cs := [iV px, iV py]) (ob := []) rfl rfl rfl rfl (by as_aux_lemma => kernel_rfl) An (by as_aux_lemma => kernel_rfl) ?_
 clear hf hM; intro a w2 B3 hf hM hB hk
 replace hM : MemOk [⟨B1, 114, [iV px, iV py]⟩, ⟨B1 + 1, 114, [iV hx, iV hy]⟩, ⟨B1 + 2, 50, [iV 0, iV 0, iV 0, iV 0]⟩, ⟨B3, 3, [iV px, iV py]⟩] w2 := hM
 have hbB3 : w.heap.size ≤ B3 := by have := hk0.size; omega
 have hk0 := hk0.trans hk.nn
 clear hk hB
 refine q0 hf hM [16, 15, 14, 5, 4, 3, 2] [{}, {}] (env' := [(16, eI 0), (15, eI 2), (14, eS (some ⟨B3, 0, none⟩) 2 2), (5, .val (.nilIface)), (4, eP (B1 + 2) 0), (3, eP (B1 + 1) 0), (2, eP B1 0)]) (ob := []) An ?_
 clear hf; intro a hf
 refine wpList_nil ?_
 refine hK3 _ _ ?_
 refine wp_block ?_
 refine wp_loop_rounds 3 ?_
 refine sxround (m := 2) fun L1 hL1 => ?_
 refine wp_seq_k (fun K4 hK4 => ?_)
 refine wp_region_lit ?_
 refine q0 hf hM [17, 16, 15, 14, 5, 4, 3, 2] [{}] (env' := [(17, eB true), (16, eI 0), (15, eI 2), (14, eS (some ⟨B3, 0, none⟩) 2 2), (5, .val (.nilIface)), (4, eP (B1 + 2) 0), (3, eP (B1 + 1) 0), (2, eP B1 0)]) (ob := []) An ?_
 clear hf; intro a hf
 refine wpList_nil ?_
 refine hK4 _ _ ?_
 refine wp_seq_k (fun K5 hK5 => ?_)
 refine sxcond hf (b := true) (by kernel_rfl) (fun _ => ?_) (fun h => by cases h)
 refine wp_skip ?_
 refine hK5 _ _ ?_
 refine wp_seq_k (fun K6 hK6 => ?_)
 refine wp_block ?_
 refine wp_seq_k (fun K7 hK7 => ?_)
 refine wp_region_lit ?_
 refine q0 hf hM [7, 16, 15, 14, 5, 4, 3, 2] [{ sp := true }, { os := [.ld 3 0] }, {}] (env' := [(7, eI px), (16, eI 0), (15, eI 2), (14, eS (some ⟨B3, 0, none⟩) 2 2), (5, .val (.nilIface)), (4, eP (B1 + 2) 0), (3, eP (B1 + 1) 0), (2, eP B1 0)]) (ob := [(0 : Int) ≤ 0 ∧ (0 : Int) < (2 : Int), (some ⟨B3, 0, none⟩ : Option Addr).isSome = true, Ad B3 0]) (Ac (by omega) (Ac rfl (Ao (ad _ _)))) ?_
 clear hf; intro a hf
 refine wpList_nil ?_
 refine hK7 _ _ ?_
 refine wp_seq_k (fun K8 hK8 => ?_)
 refine wp_region_lit ?_
 refine q0 hf hM [20, 16, 15, 14, 5, 4, 3, 2] [{}] (env' := [(20, eI px), (16, eI 0), (15, eI 2), (14, eS (some ⟨B3, 0, none⟩) 2 2), (5, .val (.nilIface)), (4, eP (B1 + 2) 0), (3, eP (B1 + 1) 0), (2, eP B1 0)]) (ob := []) An ?_
 clear hf; intro a hf
 refine sxcall hf rfl rfl rfl rfl (g := 90) (vs := [iV px, iV 1048576]) (ob := []) (by as_aux_lemma => kernel_rfl) An enters90 (within_any px 1048576 w2  (by omega)) ?_
 clear hf; rintro _ w3 a ⟨rfl, hk⟩ hf
 have hM := hM.keepNn hk
 have hk0 := hk0.trans hk.nn
 clear hk
 refine q0 hf hM [22, 16, 15, 14, 5, 4, 3, 2] [{}] (env' := [(22, eB (!(within px 1048576))), (16, eI 0), (15, eI 2), (14, eS (some ⟨B3, 0, none⟩) 2 2), (5, .val (.nilIface)), (4, eP (B1 + 2) 0), (3, eP (B1 + 1) 0), (2, eP B1 0)]) (ob := []) An ?_
 clear hf; intro a hf
 refine wpList_nil ?_
 refine hK8 _ _ ?_
 refine sxcond hf (b := !(within px 1048576)) (by kernel_rfl) (fun h => absurd (h.symm.trans (by simp [h1] : (!(within px 1048576) : Bool) = false)) (by simp)) (fun _ => ?_)
 refine wp_skip ?_
 refine hK6 _ _ ?_
 refine wp_region_lit ?_
 refine q0 hf hM [16, 15, 14, 5, 4, 3, 2] [{}, {}] (env' := [(16, eI 1), (15, eI 2), (14, eS (some ⟨B3, 0, none⟩) 2 2), (5, .val (.nilIface)), (4, eP (B1 + 2) 0), (3, eP (B1 + 1) 0), (2, eP B1 0)]) (ob := []) An ?_
 clear hf; intro a hf
 refine wpList_nil ?_
 refine hL1 _ _ ?_
 refine sxround (m := 1) fun L2 hL2 => ?_
 refine wp_seq_k (fun K9 hK9 => ?_)
 refine wp_region_lit ?_
 refine q0 hf hM [17, 16, 15, 14, 5, 4, 3, 2] [{}] (env' := [(17, eB true), (16, eI 1), (15, eI 2), (14, eS (some ⟨B3, 0, none⟩) 2 2), (5, .val (.nilIface)), (4, eP (B1 + 2) 0), (3, eP (B1 + 1) 0), (2, eP B1 0)]) (ob := []) An ?_
 clear hf; intro a hf
 refine wpList_nil ?_
 refine hK9 _ _ ?_
 refine wp_seq_k (fun K10 hK10 => ?_)
 refine sxcond hf (b := true) (by kernel_rfl) (fun _ => ?_) (fun h => by cases h)
 refine wp_skip ?_
 refine hK10 _ _ ?_
 refine wp_seq_k (fun K11 hK11 => ?_)
 refine wp_block ?_
 refine wp_seq_k (fun K12 hK12 => ?_)
 refine wp_region_lit ?_
 refine q0 hf hM [7, 16, 15, 14, 5, 4, 3, 2] [{ sp := true }, { os := [.ld 3 1] }, {}] (env' := [(7, eI py), (16, eI 1), (15, eI 2), (14, eS (some ⟨B3, 0, none⟩) 2 2), (5, .val (.nilIface)), (4, eP (B1 + 2) 0), (3, eP (B1 + 1) 0), (2, eP B1 0)]) (ob := [(0 : Int) ≤ 1 ∧ (1 : Int) < (2 : Int), (some ⟨B3, 0, none⟩ : Option Addr).isSome = true, Ad B3 1]) (Ac (by omega) (Ac rfl (Ao (ad _ _)))) ?_
 clear hf; intro a hf
 refine wpList_nil ?_
 refine hK12 _ _ ?_
 refine wp_seq_k (fun K13 hK13 => ?_)
 refine wp_region_lit ?_
 refine q0 hf hM [20, 16, 15, 14, 5, 4, 3, 2] [{}] (env' := [(20, eI py), (16, eI 1), (15, eI 2), (14, eS (some ⟨B3, 0, none⟩) 2 2), (5, .val (.nilIface)), (4, eP (B1 + 2) 0), (3, eP (B1 + 1) 0), (2, eP B1 0)]) (ob := []) An ?_
 clear hf; intro a hf
 refine sxcall hf rfl rfl rfl rfl (g := 90) (vs := [iV py, iV 1048576]) (ob := []) (by as_aux_lemma => kernel_rfl) An enters90 (within_any py 1048576 w3  (by omega)) ?_
 clear hf; rintro _ w4 a ⟨rfl, hk⟩ hf
 have hM := hM.keepNn hk
 have hk0 := hk0.trans hk.nn
 clear hk
 refine q0 hf hM [22, 16, 15, 14, 5, 4, 3, 2] [{}] (env' := [(22, eB (!(within py 1048576))), (16, eI 1), (15, eI 2), (14, eS (some ⟨B3, 0, none⟩) 2 2), (5, .val (.nilIface)), (4, eP (B1 + 2) 0), (3, eP (B1 + 1) 0), (2, eP B1 0)]) (ob := []) An ?_
 clear hf; intro a hf
 refine wpList_nil ?_
 refine hK13 _ _ ?_
 refine sxcond hf (b := !(within py 1048576)) (by kernel_rfl) (fun h => absurd (h.symm.trans (by simp [h2] : (!(within py 1048576) : Bool) = false)) (by simp)) (fun _ => ?_)
 refine wp_skip ?_
 refine hK11 _ _ ?_
 refine wp_region_lit ?_
 refine q0 hf hM [16, 15, 14, 5, 4, 3, 2] [{}, {}] (env' := [(16, eI 2), (15, eI 2), (14, eS (some ⟨B3, 0, none⟩) 2 2), (5, .val (.nilIface)), (4, eP (B1 + 2) 0), (3, eP (B1 + 1) 0), (2, eP B1 0)]) (ob := []) An ?_
 clear hf; intro a hf
 refine wpList_nil ?_
 refine hL2 _ _ ?_
 refine sxround (m := 0) fun L3 hL3 => ?_
 refine wp_seq_k (fun K14 hK14 => ?_)
 refine wp_region_lit ?_
 refine q0 hf hM [17, 16, 15, 14, 5, 4, 3, 2] [{}] (env' := [(17, eB false), (16, eI 2), (15, eI 2), (14, eS (some ⟨B3, 0, none⟩) 2 2), (5, .val (.nilIface)), (4, eP (B1 + 2) 0), (3, eP (B1 + 1) 0), (2, eP B1 0)]) (ob := []) An ?_
 clear hf; intro a hf
 refine wpList_nil ?_
 refine hK14 _ _ ?_
 refine wp_seq_k (fun K15 hK15 => ?_)
 refine sxcond hf (b := false) (by kernel_rfl) (fun h => by cases h) (fun _ => ?_)
 refine wp_exit ?_
 refine hK2 _ _ ?_
 refine wp_seq_k (fun K16 hK16 => ?_)
 refine wp_seq_k (fun K17 hK17 => ?_)
 refine wp_region_lit ?_
 refine q0 hf hM [29, 27, 5, 4, 3, 2] [{}, { os := [.ld 1 0] }, {}, { os := [.ld 1 1] }] (env' := [(29, eI hy), (27, eI hx), (5, .val (.nilIface)), (4, eP (B1 + 2) 0), (3, eP (B1 + 1) 0), (2, eP B1 0)]) (ob := [Ad (B1 + 1) 0, Ad (B1 + 1) 1]) (Ac (ad _ _) (Ao (ad _ _))) ?_
 clear hf; intro a hf
 refine sxbslice hf hM (t := 22) (e := 3) (len := 2) (cs := [iV hx, iV hy]) (ob := []) rfl rfl rfl rfl (by as_aux_lemma => kernel_rfl) An (by as_aux_lemma => kernel_rfl) ?_
 clear hf hM; intro a w5 B17 hf hM hB hk
 replace hM : MemOk [⟨B1, 114, [iV px, iV py]⟩, ⟨B1 + 1, 114, [iV hx, iV hy]⟩, ⟨B1 + 2, 50, [iV 0, iV 0, iV 0, iV 0]⟩, ⟨B3, 3, [iV px, iV py]⟩, ⟨B17, 3, [iV hx, iV hy]⟩] w5 := hM
 have hbB17 : w.heap.size ≤ B17 := by have := hk0.size; omega
 have hk0 := hk0.trans hk.nn
 clear hk hB
 refine q0 hf hM [32, 31, 30, 5, 4, 3, 2] [{}, {}] (env' := [(32, eI 0), (31, eI 2), (30, eS (some ⟨B17, 0, none⟩) 2 2), (5, .val (.nilIface)), (4, eP (B1 + 2) 0), (3, eP (B1 + 1) 0), (2, eP B1 0)]) (ob := []) An ?_
 clear hf; intro a hf
 refine wpList_nil ?_
 refine hK17 _ _ ?_
 refine wp_block ?_
 refine wp_loop_rounds 3 ?_
 refine sxround (m := 2) fun L4 hL4 => ?_
 refine wp_seq_k (fun K18 hK18 => ?_)
 refine wp_region_lit ?_
 refine q0 hf hM [33, 32, 31, 30, 5, 4, 3, 2] [{}] (env' := [(33, eB true), (32, eI 0), (31, eI 2), (30, eS (some ⟨B17, 0, none⟩) 2 2), (5, .val (.nilIface)), (4, eP (B1 + 2) 0), (3, eP (B1 + 1) 0), (2, eP B1 0)]) (ob := []) An ?_
 clear hf; intro a hf
 refine wpList_nil ?_
 refine hK18 _ _ ?_
 refine wp_seq_k (fun K19 hK19 => ?_)
 refine sxcond hf (b := true) (by kernel_rfl) (fun _ => ?_) (fun h => by cases h)
 refine wp_skip ?_
 refine hK19 _ _ ?_
 refine wp_seq_k (fun K20 hK20 => ?_)
 refine wp_block ?_
 refine wp_seq_k (fun K21 hK21 => ?_)
 refine wp_region_lit ?_
 refine q0 hf hM [9, 32, 31, 30, 5, 4, 3, 2] [{ sp := true }, { os := [.ld 4 0] }, {}] (env' := [(9, eI hx), (32, eI 0), (31, eI 2), (30, eS (some ⟨B17, 0, none⟩) 2 2), (5, .val (.nilIface)), (4, eP (B1 + 2) 0), (3, eP (B1 + 1) 0), (2, eP B1 0)]) (ob := [(0 : Int) ≤ 0 ∧ (0 : Int) < (2 : Int), (some ⟨B17, 0, none⟩ : Option Addr).isSome = true, Ad B17 0]) (Ac (by omega) (Ac rfl (Ao (ad _ _)))) ?_
 clear hf; intro a hf
 refine wpList_nil ?_
 refine hK21 _ _ ?_
 refine wp_seq_k (fun K22 hK22 => ?_)
 refine wp_region_lit ?_
 refine q0 hf hM [41, 40, 39, 32, 31, 30, 5, 4, 3, 2] [{}, {}, {}, { g := .sym }, { g := .sym }, { hint := some (bV ((decide ((hx : Int) < 0)) || (decide ((hx : Int) > 1048576)))) }] (env' := [(41, eB ((decide ((hx : Int) < 0)) || (decide ((hx : Int) > 1048576)))), (40, .gd (decide ((hx : Int) < 0)) false (bV (decide ((hx : Int) > 1048576)))), (39, .gd (decide ((hx : Int) < 0)) false (iV hx)), (32, eI 0), (31, eI 2), (30, eS (some ⟨B17, 0, none⟩) 2 2), (5, .val (.nilIface)), (4, eP (B1 + 2) 0), (3, eP (B1 + 1) 0), (2, eP B1 0)]) (ob := [((decide ((hx : Int) < 0)) = false → (decide ((hx : Int) < 0)) = (decide ((hx : Int) < 0))), ((decide ((hx : Int) < 0)) = false → (decide ((hx : Int) < 0)) = (decide ((hx : Int) < 0))), (bif (decide ((hx : Int) < 0)) then (bV true : Value) else bV (decide ((hx : Int) > 1048576))) = .bool ((decide ((hx : Int) < 0)) || (decide ((hx : Int) > 1048576)))]) (Ac (fun hgd => rfl) (Ac (fun _ => rfl) (Ao (pick_or _ _)))) ?_
 clear hf; intro a hf
 refine wpList_nil ?_
 refine hK22 _ _ ?_
 refine qc hf (b := ((decide ((hx : Int) < 0)) || (decide ((hx : Int) > 1048576)))) (fun hc7r => ?_) (fun hc7r => ?_)
 · have hc7 := hc7r
   try simp only [Bool.or_eq_true, Bool.and_eq_true, Bool.not_eq_true', Bool.not_eq_false', Bool.or_eq_false_iff, Bool.and_eq_false_iff, decide_eq_true_eq, decide_eq_false_iff_not, beq_iff_eq, bne_iff_ne, beq_eq_false_iff_ne, bne_eq_false_iff_eq, Bool.and_true, Bool.true_and, ne_eq] at hc7
   exfalso; omega
 · have hc7 := hc7r
   try simp only [Bool.or_eq_true, Bool.and_eq_true, Bool.not_eq_true', Bool.not_eq_false', Bool.or_eq_false_iff, Bool.and_eq_false_iff, decide_eq_true_eq, decide_eq_false_iff_not, beq_iff_eq, bne_iff_ne, beq_eq_false_iff_ne, bne_eq_false_iff_eq, Bool.and_true, Bool.true_and, ne_eq] at hc7
   refine wp_skip ?_
   refine hK20 _ _ ?_
   refine wp_region_lit ?_
   refine q0 hf hM [32, 40, 39, 31, 30, 5, 4, 3, 2] [{}, {}] (env' := [(32, eI 1), (40, .gd (decide ((hx : Int) < 0)) false (bV (decide ((hx : Int) > 1048576)))), (39, .gd (decide ((hx : Int) < 0)) false (iV hx)), (31, eI 2), (30, eS (some ⟨B17, 0, none⟩) 2 2), (5, .val (.nilIface)), (4, eP (B1 + 2) 0), (3, eP (B1 + 1) 0), (2, eP B1 0)]) (ob := []) An ?_
   clear hf; intro a hf
   refine wpList_nil ?_
   refine hL4 _ _ ?_
   refine sxround (m := 1) fun L5 hL5 => ?_
   refine wp_seq_k (fun K23 hK23 => ?_)
   refine wp_region_lit ?_
   refine q0 hf hM [33, 32, 40, 39, 31, 30, 5, 4, 3, 2] [{}] (env' := [(33, eB true), (32, eI 1), (40, .gd (decide ((hx : Int) < 0)) false (bV (decide ((hx : Int) > 1048576)))), (39, .gd (decide ((hx : Int) < 0)) false (iV hx)), (31, eI 2), (30, eS (some ⟨B17, 0, none⟩) 2 2), (5, .val (.nilIface)), (4, eP (B1 + 2) 0), (3, eP (B1 + 1) 0), (2, eP B1 0)]) (ob := []) An ?_
   clear hf; intro a hf
   refine wpList_nil ?_
   refine hK23 _ _ ?_
   refine wp_seq_k (fun K24 hK24 => ?_)
   refine sxcond hf (b := true) (by kernel_rfl) (fun _ => ?_) (fun h => by cases h)
   refine wp_skip ?_
   refine hK24 _ _ ?_
   refine wp_seq_k (fun K25 hK25 => ?_)
   refine wp_block ?_
   refine wp_seq_k (fun K26 hK26 => ?_)
   refine wp_region_lit ?_
   refine q0 hf hM [9, 32, 40, 39, 31, 30, 5, 4, 3, 2] [{ sp := true }, { os := [.ld 4 1] }, {}] (env' := [(9, eI hy), (32, eI 1), (40, .gd (decide ((hx : Int) < 0)) false (bV (decide ((hx : Int) > 1048576)))), (39, .gd (decide ((hx : Int) < 0)) false (iV hx)), (31, eI 2), (30, eS (some ⟨B17, 0, none⟩) 2 2), (5, .val (.nilIface)), (4, eP (B1 + 2) 0), (3, eP (B1 + 1) 0), (2, eP B1 0)]) (ob := [(0 : Int) ≤ 1 ∧ (1 : Int) < (2 : Int), (some ⟨B17, 0, none⟩ : Option Addr).isSome = true, Ad B17 1]) (Ac (by omega) (Ac rfl (Ao (ad _ _)))) ?_
   clear hf; intro a hf
   refine wpList_nil ?_
   refine hK26 _ _ ?_
   refine wp_seq_k (fun K27 hK27 => ?_)
   refine wp_region_lit ?_
   refine q0 hf hM [41, 40, 39, 32, 31, 30, 5, 4, 3, 2] [{}, {}, {}, { g := .sym }, { g := .sym }, { hint := some (bV ((decide ((hy : Int) < 0)) || (decide ((hy : Int) > 1048576)))) }] (env' := [(41, eB ((decide ((hy : Int) < 0)) || (decide ((hy : Int) > 1048576)))), (40, .gd (decide ((hy : Int) < 0)) false (bV (decide ((hy : Int) > 1048576)))), (39, .gd (decide ((hy : Int) < 0)) false (iV hy)), (32, eI 1), (31, eI 2), (30, eS (some ⟨B17, 0, none⟩) 2 2), (5, .val (.nilIface)), (4, eP (B1 + 2) 0), (3, eP (B1 + 1) 0), (2, eP B1 0)]) (ob := [((decide ((hy : Int) < 0)) = false → (decide ((hy : Int) < 0)) = (decide ((hy : Int) < 0))), ((decide ((hy : Int) < 0)) = false → (decide ((hy : Int) < 0)) = (decide ((hy : Int) < 0))), (bif (decide ((hy : Int) < 0)) then (bV true : Value) else bV (decide ((hy : Int) > 1048576))) = .bool ((decide ((hy : Int) < 0)) || (decide ((hy : Int) > 1048576)))]) (Ac (fun hgd => rfl) (Ac (fun _ => rfl) (Ao (pick_or _ _)))) ?_
   clear hf; intro a hf
   refine wpList_nil ?_
   refine hK27 _ _ ?_
   refine qc hf (b := ((decide ((hy : Int) < 0)) || (decide ((hy : Int) > 1048576)))) (fun hc9r => ?_) (fun hc9r => ?_)
   · have hc9 := hc9r
     try simp only [Bool.or_eq_true, Bool.and_eq_true, Bool.not_eq_true', Bool.not_eq_false', Bool.or_eq_false_iff, Bool.and_eq_false_iff, decide_eq_true_eq, decide_eq_false_iff_not, beq_iff_eq, bne_iff_ne, beq_eq_false_iff_ne, bne_eq_false_iff_eq, Bool.and_true, Bool.true_and, ne_eq] at hc9
     exfalso; omega
   · have hc9 := hc9r
     try simp only [Bool.or_eq_true, Bool.and_eq_true, Bool.not_eq_true', Bool.not_eq_false', Bool.or_eq_false_iff, Bool.and_eq_false_iff, decide_eq_true_eq, decide_eq_false_iff_not, beq_iff_eq, bne_iff_ne, beq_eq_false_iff_ne, bne_eq_false_iff_eq, Bool.and_true, Bool.true_and, ne_eq] at hc9
     refine wp_skip ?_
     refine hK25 _ _ ?_
     refine wp_region_lit ?_
     refine q0 hf hM [32, 40, 39, 31, 30, 5, 4, 3, 2] [{}, {}] (env' := [(32, eI 2), (40, .gd (decide ((hy : Int) < 0)) false (bV (decide ((hy : Int) > 1048576)))), (39, .gd (decide ((hy : Int) < 0)) false (iV hy)), (31, eI 2), (30, eS (some ⟨B17, 0, none⟩) 2 2), (5, .val (.nilIface)), (4, eP (B1 + 2) 0), (3, eP (B1 + 1) 0), (2, eP B1 0)]) (ob := []) An ?_
     clear hf; intro a hf
     refine wpList_nil ?_
     refine hL5 _ _ ?_
     refine sxround (m := 0) fun L6 hL6 => ?_
     refine wp_seq_k (fun K28 hK28 => ?_)
     refine wp_region_lit ?_
     refine q0 hf hM [33, 32, 40, 39, 31, 30, 5, 4, 3, 2] [{}] (env' := [(33, eB false), (32, eI 2), (40, .gd (decide ((hy : Int) < 0)) false (bV (decide ((hy : Int) > 1048576)))), (39, .gd (decide ((hy : Int) < 0)) false (iV hy)), (31, eI 2), (30, eS (some ⟨B17, 0, none⟩) 2 2), (5, .val (.nilIface)), (4, eP (B1 + 2) 0), (3, eP (B1 + 1) 0), (2, eP B1 0)]) (ob := []) An ?_
     clear hf; intro a hf
     refine wpList_nil ?_
     refine hK28 _ _ ?_
     refine wp_seq_k (fun K29 hK29 => ?_)
     refine sxcond hf (b := false) (by kernel_rfl) (fun h => by cases h) (fun _ => ?_)
     refine wp_exit ?_
     refine hK16 _ _ ?_
     refine wp_seq_k (fun K30 hK30 => ?_)
     refine wp_region_lit ?_
     refine q1 hf hM [5, 4] [{}, { os := [.ld 0 0] }, {}, { os := [.ld 1 0] }, { hint := some (iV (px - hx)) }, {}, { os := [.ld 0 1] }, {}, { os := [.ld 1 1] }, { hint := some (iV (py - hy)) }, {}, { os := [.ld 0 0] }, {}, { os := [.ld 1 0] }, { hint := some (iV (px + hx)) }, {}, { os := [.ld 0 1] }, {}, { os := [.ld 1 1] }, { hint := some (iV (py + hy)) }, { sp := true }, { os := [.st 2 0, .st 2 1, .st 2 2, .st 2 3] }, {}] (env' := fun B28 => [(5, .val (.nilIface)), (4, eP (B1 + 2) 0)]) (M' := fun B28 => [⟨B1, 114, [iV px, iV py]⟩, ⟨B1 + 1, 114, [iV hx, iV hy]⟩, ⟨B1 + 2, 50, [iV (px - hx), iV (py - hy), iV (px + hx), iV (py + hy)]⟩, ⟨B3, 3, [iV px, iV py]⟩, ⟨B17, 3, [iV hx, iV hy]⟩]) (ob := fun B28 => [Ad B1 0, Ad (B1 + 1) 0, (iV (IntKind.i64.wrap (px - hx)) : Value) = (iV (px - hx) : Value), Ad B1 1, Ad (B1 + 1) 1, (iV (IntKind.i64.wrap (py - hy)) : Value) = (iV (py - hy) : Value), Ad B1 0, Ad (B1 + 1) 0, (iV (IntKind.i64.wrap (px + hx)) : Value) = (iV (px + hx) : Value), Ad B1 1, Ad (B1 + 1) 1, (iV (IntKind.i64.wrap (py + hy)) : Value) = (iV (py + hy) : Value), Ad (B1 + 2) 0, Ad (B1 + 2) 1, Ad (B1 + 2) 2, Ad (B1 + 2) 3]) (fun B28 => (Ac (ad _ _) (Ac (ad _ _) (Ac (wr (by omega)) (Ac (ad _ _) (Ac (ad _ _) (Ac (wr (by omega)) (Ac (ad _ _) (Ac (ad _ _) (Ac (wr (by omega)) (Ac (ad _ _) (Ac (ad _ _) (Ac (wr (by omega)) (Ac (ad _ _) (Ac (ad _ _) (Ac (ad _ _) (Ao (ad _ _)))))))))))))))))) ?_
     clear hf hM; intro a w6 B28 hf hM hB hk
     have hbB28 : w.heap.size ≤ B28 := by have := hk0.size; omega
     have hk0 := hk0.then hk (by intro i hi h; simp only [Is, Mem.names, List.map_cons, List.map_nil, List.mem_cons, List.not_mem_nil, or_false] at h; omega)
     clear hk hB
     refine wpList_nil ?_
     refine hK30 _ _ ?_
     refine wp_ret ?_
     refine qr (fn := Tryd.f71) hf hM [.ld 2 0, .ld 2 1, .ld 2 2, .ld 2 3] (l := [.agg #[iV (px - hx), iV (py - hy), iV (px + hx), iV (py + hy)], .nilIface]) (ob := [Ad (B1 + 2) 0, Ad (B1 + 2) 1, Ad (B1 + 2) 2, Ad (B1 + 2) 3]) (Ac (ad _ _) (Ac (ad _ _) (Ac (ad _ _) (Ao (ad _ _))))) ?_
     show (.tuple #[.agg #[iV (px - hx), iV (py - hy), iV (px + hx), iV (py + hy)], .nilIface] : Value) = .tuple #[.agg #[iV (px - hx), iV (py - hy), iV (px + hx), iV (py + hy)], .nilIface] ∧ Keep Nn w w6
     exact ⟨rfl, hk0⟩

set_option maxRecDepth 10000 in
set_option maxHeartbeats 1600000 in
theorem plof_no (E : Nat → Addr) (px py hx hy : Int) (w : World) (hn0 : (ofOk px py hx hy) = false) (hG : Errs [0, 3, 4] w 185 E) :
    Calls Tryd.prog 71 #[.agg #[iV px, iV py], .agg #[iV hx, iV hy]] w (Ret fun v w' => v = .tuple #[.agg #[iV 0, iV 0, iV 0, iV 0], .iface 185 (.pointer (some (E 0)))] ∧ Keep Nn w w') := by
 refine sxenter (n := 66) (args := [.agg #[iV px, iV py], .agg #[iV hx, iV hy]]) Tryd.func71 rfl rfl rfl fun a hf => ?_
 replace hf : Fr 66 [(0, .val (.agg #[iV px, iV py])), (1, .val (.agg #[iV hx, iV hy]))] a := hf
 have hM : MemOk [] w := MemOk.nil w
 have hk0 : Keep Nn w w := Keep.refl _ _
 refine wp_seq_k (fun K1 hK1 => ?_)
 refine wp_region_lit ?_
 refine q1 hf hM [5, 4, 3, 2] [{ os := [.nw] }, { os := [.nw] }, { os := [.nw] }, {}] (env' := fun B1 => [(5, .val (.nilIface)), (4, eP (B1 + 2) 0), (3, eP (B1 + 1) 0), (2, eP B1 0)]) (M' := fun B1 => [⟨B1, 114, [iV px, iV py]⟩, ⟨B1 + 1, 114, [iV hx, iV hy]⟩, ⟨B1 + 2, 50, [iV 0, iV 0, iV 0, iV 0]⟩]) (ob := fun B1 => []) (fun B1 => An) ?_
 clear hf hM; intro a w1 B1 hf hM hB hk
 have hbB1 : w.heap.size ≤ B1 := by have := hk0.size; omega
 have hk0 := hk0.then hk (by intro i _ h; cases h)
 clear hk hB
 refine wpList_nil ?_
 refine hK1 _ _ ?_
 refine wp_seq_k (fun K2 hK2 => ?_)
 refine wp_seq_k (fun K3 hK3 => ?_)
 refine wp_region_lit ?_
 refine q0 hf hM [13, 11, 5, 4, 3, 2] [{}, { os := [.ld 0 0] }, {}, { os := [.ld 0 1] }] (env' := [(13, eI py), (11, eI px), (5, .val (.nilIface)), (4, eP (B1 + 2) 0), (3, eP (B1 + 1) 0), (2, eP B1 0)]) (ob := [Ad B1 0, Ad B1 1]) (Ac (ad _ _) (Ao (ad _ _))) ?_
 clear hf; intro a hf
 refine sxbslice hf hM (t := 22) (e := 3) (len := 2) (cs := [iV px, iV py]) (ob := []) rfl rfl rfl rfl (by as_aux_lemma => kernel_rfl) An (by as_aux_lemma => kernel_rfl) ?_
 clear hf hM; intro a w2 B3 hf hM hB hk
 replace hM : MemOk [⟨B1, 114, [iV px, iV py]⟩, ⟨B1 + 1, 114, [iV hx, iV hy]⟩, ⟨B1 + 2, 50, [iV 0, iV 0, iV 0, iV 0]⟩, ⟨B3, 3, [iV px, iV py]⟩] w2 := hM
 have hbB3 : w.heap.size ≤ B3 := by have := hk0.size; omega
 have hk0 := hk0.trans hk.nn
 clear hk hB
 refine q0 hf hM [16, 15, 14, 5, 4, 3, 2] [{}, {}] (env' := [(16, eI 0), (15, eI 2), (14, eS (some ⟨B3, 0, none⟩) 2 2), (5, .val (.nilIface)), (4, eP (B1 + 2) 0), (3, eP (B1 + 1) 0), (2, eP B1 0)]) (ob := []) An ?_
 clear hf; intro a hf
 refine wpList_nil ?_
 refine hK3 _ _ ?_
 refine wp_block ?_
 refine wp_loop_rounds 3 ?_
 refine sxround (m := 2) fun L1 hL1 => ?_
 refine wp_seq_k (fun K4 hK4 => ?_)
 refine wp_region_lit ?_
 refine q0 hf hM [17, 16, 15, 14, 5, 4, 3, 2] [{}] (env' := [(17, eB true), (16, eI 0), (15, eI 2), (14, eS (some ⟨B3, 0, none⟩) 2 2), (5, .val (.nilIface)), (4, eP (B1 + 2) 0), (3, eP (B1 + 1) 0), (2, eP B1 0)]) (ob := []) An ?_
 clear hf; intro a hf
 refine wpList_nil ?_
 refine hK4 _ _ ?_
 refine wp_seq_k (fun K5 hK5 => ?_)
 refine sxcond hf (b := true) (by kernel_rfl) (fun _ => ?_) (fun h => by cases h)
 refine wp_skip ?_
 refine hK5 _ _ ?_
 refine wp_seq_k (fun K6 hK6 => ?_)
 refine wp_block ?_
 refine wp_seq_k (fun K7 hK7 => ?_)
 refine wp_region_lit ?_
 refine q0 hf hM [7, 16, 15, 14, 5, 4, 3, 2] [{ sp := true }, { os := [.ld 3 0] }, {}] (env' := [(7, eI px), (16, eI 0), (15, eI 2), (14, eS (some ⟨B3, 0, none⟩) 2 2), (5, .val (.nilIface)), (4, eP (B1 + 2) 0), (3, eP (B1 + 1) 0), (2, eP B1 0)]) (ob := [(0 : Int) ≤ 0 ∧ (0 : Int) < (2 : Int), (some ⟨B3, 0, none⟩ : Option Addr).isSome = true, Ad B3 0]) (Ac (by omega) (Ac rfl (Ao (ad _ _)))) ?_
 clear hf; intro a hf
 refine wpList_nil ?_
 refine hK7 _ _ ?_
 refine wp_seq_k (fun K8 hK8 => ?_)
 refine wp_region_lit ?_
 refine q0 hf hM [20, 16, 15, 14, 5, 4, 3, 2] [{}] (env' := [(20, eI px), (16, eI 0), (15, eI 2), (14, eS (some ⟨B3, 0, none⟩) 2 2), (5, .val (.nilIface)), (4, eP (B1 + 2) 0), (3, eP (B1 + 1) 0), (2, eP B1 0)]) (ob := []) An ?_
 clear hf; intro a hf
 refine sxcall hf rfl rfl rfl rfl (g := 90) (vs := [iV px, iV 1048576]) (ob := []) (by as_aux_lemma => kernel_rfl) An enters90 (within_any px 1048576 w2  (by omega)) ?_
 clear hf; rintro _ w3 a ⟨rfl, hk⟩ hf
 have hM := hM.keepNn hk
 have hk0 := hk0.trans hk.nn
 clear hk
 refine q0 hf hM [22, 16, 15, 14, 5, 4, 3, 2] [{}] (env' := [(22, eB (!(within px 1048576))), (16, eI 0), (15, eI 2), (14, eS (some ⟨B3, 0, none⟩) 2 2), (5, .val (.nilIface)), (4, eP (B1 + 2) 0), (3, eP (B1 + 1) 0), (2, eP B1 0)]) (ob := []) An ?_
 clear hf; intro a hf
 refine wpList_nil ?_
 refine hK8 _ _ ?_
 refine qc hf (b := !(within px 1048576)) (fun hc2r => ?_) (fun hc2r => ?_)
 · have hc2 := hc2r
   try simp only [Bool.or_eq_true, Bool.and_eq_true, Bool.not_eq_true', Bool.not_eq_false', Bool.or_eq_false_iff, Bool.and_eq_false_iff, decide_eq_true_eq, decide_eq_false_iff_not, beq_iff_eq, bne_iff_ne, beq_eq_false_iff_ne, bne_eq_false_iff_eq, Bool.and_true, Bool.true_and, ne_eq] at hc2
   refine wp_seq_k (fun K9 hK9 => ?_)
   replace hM := hM.drew; replace hk0 := hk0.drew
   obtain ⟨C1, hC1d⟩ : ∃ C : World → Prop, C = fun w' => MemOk [⟨B1, 114, [iV px, iV py]⟩, ⟨B1 + 1, 114, [iV hx, iV hy]⟩, ⟨B3, 3, [iV px, iV py]⟩] w' ∧ Keep Nn w w' ∧ True := ⟨_, rfl⟩
   have hC1i : ∀ w', (MemOk [⟨B1, 114, [iV px, iV py]⟩, ⟨B1 + 1, 114, [iV hx, iV hy]⟩, ⟨B3, 3, [iV px, iV py]⟩] w' ∧ Keep Nn w w' ∧ True) → C1 w' := fun w' h => by rw [hC1d]; exact h
   have hC1e : ∀ w', C1 w' → (MemOk [⟨B1, 114, [iV px, iV py]⟩, ⟨B1 + 1, 114, [iV hx, iV hy]⟩, ⟨B3, 3, [iV px, iV py]⟩] w' ∧ Keep Nn w w' ∧ True) := fun w' h => by rw [hC1d] at h; exact h
   refine sxdraw (C := C1) (.leaf [(0, true), (1, true), (2, false), (3, true)]) (by kernel_rfl) (by kernel_rfl) (by as_aux_lemma => kernel_rfl) rfl (by as_aux_lemma => kernel_rfl) (by kernel_rfl) (hC1i _ ⟨hM.sub (.cons_cons _ (.cons_cons _ (.cons _ (.cons_cons _ .slnil)))), hk0, trivial⟩) ?_
   refine sxleaf ?_
   have hC := (hC1i _ ⟨hM.sub (.cons_cons _ (.cons_cons _ (.cons _ (.cons_cons _ .slnil)))), hk0, trivial⟩)
   refine qd hf hC (fun w' h => (hC1e w' h).1) [24, 23, 5, 4] [{ sp := true }, { os := [.ex (.iface 185 (.pointer (some (E 0))))] }] (env' := [(24, .val (.iface 185 (.pointer (some (E 0))))), (23, .val (.agg #[iV 0, iV 0, iV 0, iV 0])), (5, .val (.nilIface)), (4, eP (B1 + 2) 0)]) (ob := [(∀ w', C1 w' → w'.cell? ⟨0, 0, none⟩ = some (.iface 185 (.pointer (some (E 0)))))]) (Ao (fun w' hc => by obtain ⟨hM, hk0, hO⟩ := hC1e w' hc; exact (hk0.cell (hG.cell 0 (by decide)) (fun h => h)))) ?_
   clear hf; intro a hf
   refine scstep rfl ?_
   have hMs : MemOk [⟨B1 + 2, 50, [iV 0, iV 0, iV 0, iV 0]⟩] w3.drew := hM.sub (.cons _ (.cons _ (.cons_cons _ (.cons _ .slnil))))
   refine q1 hf hMs [24, 5, 4] [{ os := [.st 0 0, .st 0 1, .st 0 2, .st 0 3] }] (env' := fun B9 => [(24, .val (.iface 185 (.pointer (some (E 0))))), (5, .val (.nilIface)), (4, eP (B1 + 2) 0)]) (M' := fun B9 => [⟨B1 + 2, 50, [iV 0, iV 0, iV 0, iV 0]⟩]) (ob := fun B9 => [Ad (B1 + 2) 0, Ad (B1 + 2) 1, Ad (B1 + 2) 2, Ad (B1 + 2) 3]) (fun B9 => (Ac (ad _ _) (Ac (ad _ _) (Ac (ad _ _) (Ao (ad _ _)))))) ?_
   clear hf hMs; intro a w4 B9 hf hMs hB hk; clear hB
   have hM : MemOk [⟨B1, 114, [iV px, iV py]⟩, ⟨B1 + 1, 114, [iV hx, iV hy]⟩, ⟨B1 + 2, 50, [iV 0, iV 0, iV 0, iV 0]⟩, ⟨B3, 3, [iV px, iV py]⟩] w4 := MemOk.upd (M1 := [⟨B1, 114, [iV px, iV py]⟩, ⟨B1 + 1, 114, [iV hx, iV hy]⟩]) (M2 := [⟨B3, 3, [iV px, iV py]⟩]) hM hk hMs rfl
   have hk0 := hk0.then hk (by intro i hi h; simp only [Is, Mem.names, List.map_cons, List.map_nil, List.mem_cons, List.not_mem_nil, or_false] at h; omega)
   clear hk hMs
   have hC := (hC1i _ ⟨hM.sub (.cons_cons _ (.cons_cons _ (.cons _ (.cons_cons _ .slnil)))), hk0, trivial⟩)
   refine scdone hC ?_
   refine qd hf hC (fun w' h => (hC1e w' h).1) [5, 4] [{}] (env' := [(5, .val (.iface 185 (.pointer (some (E 0))))), (4, eP (B1 + 2) 0)]) (ob := []) An ?_
   clear hf; intro a hf
   clear hC
   show K9 _ _
   refine hK9 _ _ ?_
   refine wp_ret ?_
   refine qr (fn := Tryd.f71) hf hM [.ld 2 0, .ld 2 1, .ld 2 2, .ld 2 3] (l := [.agg #[iV 0, iV 0, iV 0, iV 0], .iface 185 (.pointer (some (E 0)))]) (ob := [Ad (B1 + 2) 0, Ad (B1 + 2) 1, Ad (B1 + 2) 2, Ad (B1 + 2) 3]) (Ac (ad _ _) (Ac (ad _ _) (Ac (ad _ _) (Ao (ad _ _))))) ?_
   show (.tuple #[.agg #[iV 0, iV 0, iV 0, iV 0], .iface 185 (.pointer (some (E 0)))] : Value) = .tuple #[.agg #[iV 0, iV 0, iV 0, iV 0], .iface 185 (.pointer (some (E 0)))] ∧ Keep Nn w w4
   exact ⟨rfl, hk0⟩
 · have hc2 := hc2r
   try simp only [Bool.or_eq_true, Bool.and_eq_true, Bool.not_eq_true', Bool.not_eq_false', Bool.or_eq_false_iff, Bool.and_eq_false_iff, decide_eq_true_eq, decide_eq_false_iff_not, beq_iff_eq, bne_iff_ne, beq_eq_false_iff_ne, bne_eq_false_iff_eq, Bool.and_true, Bool.true_and, ne_eq] at hc2
   refine wp_skip ?_
   refine hK6 _ _ ?_
   refine wp_region_lit ?_
   refine q0 hf hM [16, 15, 14, 5, 4, 3, 2] [{}, {}] (env' := [(16, eI 1), (15, eI 2), (14, eS (some ⟨B3, 0, none⟩) 2 2), (5, .val (.nilIface)), (4, eP (B1 + 2) 0), (3, eP (B1 + 1) 0), (2, eP B1 0)]) (ob := []) An ?_
   clear hf; intro a hf
   refine wpList_nil ?_
   refine hL1 _ _ ?_
   refine sxround (m := 1) fun L2 hL2 => ?_
   refine wp_seq_k (fun K10 hK10 => ?_)
   refine wp_region_lit ?_
   refine q0 hf hM [17, 16, 15, 14, 5, 4, 3, 2] [{}] (env' := [(17, eB true), (16, eI 1), (15, eI 2), (14, eS (some ⟨B3, 0, none⟩) 2 2), (5, .val (.nilIface)), (4, eP (B1 + 2) 0), (3, eP (B1 + 1) 0), (2, eP B1 0)]) (ob := []) An ?_
   clear hf; intro a hf
   refine wpList_nil ?_
   refine hK10 _ _ ?_
   refine wp_seq_k (fun K11 hK11 => ?_)
   refine sxcond hf (b := true) (by kernel_rfl) (fun _ => ?_) (fun h => by cases h)
   refine wp_skip ?_
   refine hK11 _ _ ?_
   refine wp_seq_k (fun K12 hK12 => ?_)
   refine wp_block ?_
   refine wp_seq_k (fun K13 hK13 => ?_)
   refine wp_region_lit ?_
   refine q0 hf hM [7, 16, 15, 14, 5, 4, 3, 2] [{ sp := true }, { os := [.ld 3 1] }, {}] (env' := [(7, eI py), (16, eI 1), (15, eI 2), (14, eS (some ⟨B3, 0, none⟩) 2 2), (5, .val (.nilIface)), (4, eP (B1 + 2) 0), (3, eP (B1 + 1) 0), (2, eP B1 0)]) (ob := [(0 : Int) ≤ 1 ∧ (1 : Int) < (2 : Int), (some ⟨B3, 0, none⟩ : Option Addr).isSome = true, Ad B3 1]) (Ac (by omega) (Ac rfl (Ao (ad _ _)))) ?_
   clear hf; intro a hf
   refine wpList_nil ?_
   refine hK13 _ _ ?_
   refine wp_seq_k (fun K14 hK14 => ?_)
   refine wp_region_lit ?_
   refine q0 hf hM [20, 16, 15, 14, 5, 4, 3, 2] [{}] (env' := [(20, eI py), (16, eI 1), (15, eI 2), (14, eS (some ⟨B3, 0, none⟩) 2 2), (5, .val (.nilIface)), (4, eP (B1 + 2) 0), (3, eP (B1 + 1) 0), (2, eP B1 0)]) (ob := []) An ?_
   clear hf; intro a hf
   refine sxcall hf rfl rfl rfl rfl (g := 90) (vs := [iV py, iV 1048576]) (ob := []) (by as_aux_lemma => kernel_rfl) An enters90 (within_any py 1048576 w3  (by omega)) ?_
   clear hf; rintro _ w5 a ⟨rfl, hk⟩ hf
   have hM := hM.keepNn hk
   have hk0 := hk0.trans hk.nn
   clear hk
   refine q0 hf hM [22, 16, 15, 14, 5, 4, 3, 2] [{}] (env' := [(22, eB (!(within py 1048576))), (16, eI 1), (15, eI 2), (14, eS (some ⟨B3, 0, none⟩) 2 2), (5, .val (.nilIface)), (4, eP (B1 + 2) 0), (3, eP (B1 + 1) 0), (2, eP B1 0)]) (ob := []) An ?_
   clear hf; intro a hf
   refine wpList_nil ?_
   refine hK14 _ _ ?_
   refine qc hf (b := !(within py 1048576)) (fun hc4r => ?_) (fun hc4r => ?_)
   · have hc4 := hc4r
     try simp only [Bool.or_eq_true, Bool.and_eq_true, Bool.not_eq_true', Bool.not_eq_false', Bool.or_eq_false_iff, Bool.and_eq_false_iff, decide_eq_true_eq, decide_eq_false_iff_not, beq_iff_eq, bne_iff_ne, beq_eq_false_iff_ne, bne_eq_false_iff_eq, Bool.and_true, Bool.true_and, ne_eq] at hc4
     refine wp_seq_k (fun K15 hK15 => ?_)
     replace hM := hM.drew; replace hk0 := hk0.drew
     obtain ⟨C2, hC2d⟩ : ∃ C : World → Prop, C = fun w' => MemOk [⟨B1, 114, [iV px, iV py]⟩, ⟨B1 + 1, 114, [iV hx, iV hy]⟩, ⟨B3, 3, [iV px, iV py]⟩] w' ∧ Keep Nn w w' ∧ True := ⟨_, rfl⟩
     have hC2i : ∀ w', (MemOk [⟨B1, 114, [iV px, iV py]⟩, ⟨B1 + 1, 114, [iV hx, iV hy]⟩, ⟨B3, 3, [iV px, iV py]⟩] w' ∧ Keep Nn w w' ∧ True) → C2 w' := fun w' h => by rw [hC2d]; exact h
     have hC2e : ∀ w', C2 w' → (MemOk [⟨B1, 114, [iV px, iV py]⟩, ⟨B1 + 1, 114, [iV hx, iV hy]⟩, ⟨B3, 3, [iV px, iV py]⟩] w' ∧ Keep Nn w w' ∧ True) := fun w' h => by rw [hC2d] at h; exact h
     refine sxdraw (C := C2) (.leaf [(0, true), (1, true), (2, false), (3, true)]) (by kernel_rfl) (by kernel_rfl) (by as_aux_lemma => kernel_rfl) rfl (by as_aux_lemma => kernel_rfl) (by kernel_rfl) (hC2i _ ⟨hM.sub (.cons_cons _ (.cons_cons _ (.cons _ (.cons_cons _ .slnil)))), hk0, trivial⟩) ?_
     refine sxleaf ?_
     have hC := (hC2i _ ⟨hM.sub (.cons_cons _ (.cons_cons _ (.cons _ (.cons_cons _ .slnil)))), hk0, trivial⟩)
     refine qd hf hC (fun w' h => (hC2e w' h).1) [24, 23, 5, 4] [{ sp := true }, { os := [.ex (.iface 185 (.pointer (some (E 0))))] }] (env' := [(24, .val (.iface 185 (.pointer (some (E 0))))), (23, .val (.agg #[iV 0, iV 0, iV 0, iV 0])), (5, .val (.nilIface)), (4, eP (B1 + 2) 0)]) (ob := [(∀ w', C2 w' → w'.cell? ⟨0, 0, none⟩ = some (.iface 185 (.pointer (some (E 0)))))]) (Ao (fun w' hc => by obtain ⟨hM, hk0, hO⟩ := hC2e w' hc; exact (hk0.cell (hG.cell 0 (by decide)) (fun h => h)))) ?_
     clear hf; intro a hf
     refine scstep rfl ?_
     have hMs : MemOk [⟨B1 + 2, 50, [iV 0, iV 0, iV 0, iV 0]⟩] w5.drew := hM.sub (.cons _ (.cons _ (.cons_cons _ (.cons _ .slnil))))
     refine q1 hf hMs [24, 5, 4] [{ os := [.st 0 0, .st 0 1, .st 0 2, .st 0 3] }] (env' := fun B15 => [(24, .val (.iface 185 (.pointer (some (E 0))))), (5, .val (.nilIface)), (4, eP (B1 + 2) 0)]) (M' := fun B15 => [⟨B1 + 2, 50, [iV 0, iV 0, iV 0, iV 0]⟩]) (ob := fun B15 => [Ad (B1 + 2) 0, Ad (B1 + 2) 1, Ad (B1 + 2) 2, Ad (B1 + 2) 3]) (fun B15 => (Ac (ad _ _) (Ac (ad _ _) (Ac (ad _ _) (Ao (ad _ _)))))) ?_
     clear hf hMs; intro a w6 B15 hf hMs hB hk; clear hB
     have hM : MemOk [⟨B1, 114, [iV px, iV py]⟩, ⟨B1 + 1, 114, [iV hx, iV hy]⟩, ⟨B1 + 2, 50, [iV 0, iV 0, iV 0, iV 0]⟩, ⟨B3, 3, [iV px, iV py]⟩] w6 := MemOk.upd (M1 := [⟨B1, 114, [iV px, iV py]⟩, ⟨B1 + 1, 114, [iV hx, iV hy]⟩]) (M2 := [⟨B3, 3, [iV px, iV py]⟩]) hM hk hMs rfl
     have hk0 := hk0.then hk (by intro i hi h; simp only [Is, Mem.names, List.map_cons, List.map_nil, List.mem_cons, List.not_mem_nil, or_false] at h; omega)
     clear hk hMs
     have hC := (hC2i _ ⟨hM.sub (.cons_cons _ (.cons_cons _ (.cons _ (.cons_cons _ .slnil)))), hk0, trivial⟩)
     refine scdone hC ?_
     refine qd hf hC (fun w' h => (hC2e w' h).1) [5, 4] [{}] (env' := [(5, .val (.iface 185 (.pointer (some (E 0))))), (4, eP (B1 + 2) 0)]) (ob := []) An ?_
     clear hf; intro a hf
     clear hC
     show K15 _ _
     refine hK15 _ _ ?_
     refine wp_ret ?_
     refine qr (fn := Tryd.f71) hf hM [.ld 2 0, .ld 2 1, .ld 2 2, .ld 2 3] (l := [.agg #[iV 0, iV 0, iV 0, iV 0], .iface 185 (.pointer (some (E 0)))]) (ob := [Ad (B1 + 2) 0, Ad (B1 + 2) 1, Ad (B1 + 2) 2, Ad (B1 + 2) 3]) (Ac (ad _ _) (Ac (ad _ _) (Ac (ad _ _) (Ao (ad _ _))))) ?_
     show (.tuple #[.agg #[iV 0, iV 0, iV 0, iV 0], .iface 185 (.pointer (some (E 0)))] : Value) = .tuple #[.agg #[iV 0, iV 0, iV 0, iV 0], .iface 185 (.pointer (some (E 0)))] ∧ Keep Nn w w6
     exact ⟨rfl, hk0⟩
   · have hc4 := hc4r
     try simp only [Bool.or_eq_true, Bool.and_eq_true, Bool.not_eq_true', Bool.not_eq_false', Bool.or_eq_false_iff, Bool.and_eq_false_iff, decide_eq_true_eq, decide_eq_false_iff_not, beq_iff_eq, bne_iff_ne, beq_eq_false_iff_ne, bne_eq_false_iff_eq, Bool.and_true, Bool.true_and, ne_eq] at hc4
     refine wp_skip ?_
     refine hK12 _ _ ?_
     refine wp_region_lit ?_
     refine q0 hf hM [16, 15, 14, 5, 4, 3, 2] [{}, {}] (env' := [(16, eI 2), (15, eI 2), (14, eS (some ⟨B3, 0, none⟩) 2 2), (5, .val (.nilIface)), (4, eP (B1 + 2) 0), (3, eP (B1 + 1) 0), (2, eP B1 0)]) (ob := []) An ?_
     clear hf; intro a hf
     refine wpList_nil ?_
     refine hL2 _ _ ?_
     refine sxround (m := 0) fun L3 hL3 => ?_
     refine wp_seq_k (fun K16 hK16 => ?_)
     refine wp_region_lit ?_
     refine q0 hf hM [17, 16, 15, 14, 5, 4, 3, 2] [{}] (env' := [(17, eB false), (16, eI 2), (15, eI 2), (14, eS (some ⟨B3, 0, none⟩) 2 2), (5, .val (.nilIface)), (4, eP (B1 + 2) 0), (3, eP (B1 + 1) 0), (2, eP B1 0)]) (ob := []) An ?_
     clear hf; intro a hf
     refine wpList_nil ?_
     refine hK16 _ _ ?_
     refine wp_seq_k (fun K17 hK17 => ?_)
     refine sxcond hf (b := false) (by kernel_rfl) (fun h => by cases h) (fun _ => ?_)
     refine wp_exit ?_
     refine hK2 _ _ ?_
     refine wp_seq_k (fun K18 hK18 => ?_)
     refine wp_seq_k (fun K19 hK19 => ?_)
     refine wp_region_lit ?_
     refine q0 hf hM [29, 27, 5, 4, 3, 2] [{}, { os := [.ld 1 0] }, {}, { os := [.ld 1 1] }] (env' := [(29, eI hy), (27, eI hx), (5, .val (.nilIface)), (4, eP (B1 + 2) 0), (3, eP (B1 + 1) 0), (2, eP B1 0)]) (ob := [Ad (B1 + 1) 0, Ad (B1 + 1) 1]) (Ac (ad _ _) (Ao (ad _ _))) ?_
     clear hf; intro a hf
     refine sxbslice hf hM (t := 22) (e := 3) (len := 2) (cs := [iV hx, iV hy]) (ob := []) rfl rfl rfl rfl (by as_aux_lemma => kernel_rfl) An (by as_aux_lemma => kernel_rfl) ?_
     clear hf hM; intro a w7 B19 hf hM hB hk
     replace hM : MemOk [⟨B1, 114, [iV px, iV py]⟩, ⟨B1 + 1, 114, [iV hx, iV hy]⟩, ⟨B1 + 2, 50, [iV 0, iV 0, iV 0, iV 0]⟩, ⟨B3, 3, [iV px, iV py]⟩, ⟨B19, 3, [iV hx, iV hy]⟩] w7 := hM
     have hbB19 : w.heap.size ≤ B19 := by have := hk0.size; omega
     have hk0 := hk0.trans hk.nn
     clear hk hB
     refine q0 hf hM [32, 31, 30, 5, 4, 3, 2] [{}, {}] (env' := [(32, eI 0), (31, eI 2), (30, eS (some ⟨B19, 0, none⟩) 2 2), (5, .val (.nilIface)), (4, eP (B1 + 2) 0), (3, eP (B1 + 1) 0), (2, eP B1 0)]) (ob := []) An ?_
     clear hf; intro a hf
     refine wpList_nil ?_
     refine hK19 _ _ ?_
     refine wp_block ?_
     refine wp_loop_rounds 3 ?_
     refine sxround (m := 2) fun L4 hL4 => ?_
     refine wp_seq_k (fun K20 hK20 => ?_)
     refine wp_region_lit ?_
     refine q0 hf hM [33, 32, 31, 30, 5, 4, 3, 2] [{}] (env' := [(33, eB true), (32, eI 0), (31, eI 2), (30, eS (some ⟨B19, 0, none⟩) 2 2), (5, .val (.nilIface)), (4, eP (B1 + 2) 0), (3, eP (B1 + 1) 0), (2, eP B1 0)]) (ob := []) An ?_
     clear hf; intro a hf
     refine wpList_nil ?_
     refine hK20 _ _ ?_
     refine wp_seq_k (fun K21 hK21 => ?_)
     refine sxcond hf (b := true) (by kernel_rfl) (fun _ => ?_) (fun h => by cases h)
     refine wp_skip ?_
     refine hK21 _ _ ?_
     refine wp_seq_k (fun K22 hK22 => ?_)
     refine wp_block ?_
     refine wp_seq_k (fun K23 hK23 => ?_)
     refine wp_region_lit ?_
     refine q0 hf hM [9, 32, 31, 30, 5, 4, 3, 2] [{ sp := true }, { os := [.ld 4 0] }, {}] (env' := [(9, eI hx), (32, eI 0), (31, eI 2), (30, eS (some ⟨B19, 0, none⟩) 2 2), (5, .val (.nilIface)), (4, eP (B1 + 2) 0), (3, eP (B1 + 1) 0), (2, eP B1 0)]) (ob := [(0 : Int) ≤ 0 ∧ (0 : Int) < (2 : Int), (some ⟨B19, 0, none⟩ : Option Addr).isSome = true, Ad B19 0]) (Ac (by omega) (Ac rfl (Ao (ad _ _)))) ?_
     clear hf; intro a hf
     refine wpList_nil ?_
     refine hK23 _ _ ?_
     refine wp_seq_k (fun K24 hK24 => ?_)
     refine wp_region_lit ?_
     refine q0 hf hM [41, 40, 39, 32, 31, 30, 5, 4, 3, 2] [{}, {}, {}, { g := .sym }, { g := .sym }, { hint := some (bV ((decide ((hx : Int) < 0)) || (decide ((hx : Int) > 1048576)))) }] (env' := [(41, eB ((decide ((hx : Int) < 0)) || (decide ((hx : Int) > 1048576)))), (40, .gd (decide ((hx : Int) < 0)) false (bV (decide ((hx : Int) > 1048576)))), (39, .gd (decide ((hx : Int) < 0)) false (iV hx)), (32, eI 0), (31, eI 2), (30, eS (some ⟨B19, 0, none⟩) 2 2), (5, .val (.nilIface)), (4, eP (B1 + 2) 0), (3, eP (B1 + 1) 0), (2, eP B1 0)]) (ob := [((decide ((hx : Int) < 0)) = false → (decide ((hx : Int) < 0)) = (decide ((hx : Int) < 0))), ((decide ((hx : Int) < 0)) = false → (decide ((hx : Int) < 0)) = (decide ((hx : Int) < 0))), (bif (decide ((hx : Int) < 0)) then (bV true : Value) else bV (decide ((hx : Int) > 1048576))) = .bool ((decide ((hx : Int) < 0)) || (decide ((hx : Int) > 1048576)))]) (Ac (fun hgd => rfl) (Ac (fun _ => rfl) (Ao (pick_or _ _)))) ?_
     clear hf; intro a hf
     refine wpList_nil ?_
     refine hK24 _ _ ?_
     refine qc hf (b := ((decide ((hx : Int) < 0)) || (decide ((hx : Int) > 1048576)))) (fun hc7r => ?_) (fun hc7r => ?_)
     · have hc7 := hc7r
       try simp only [Bool.or_eq_true, Bool.and_eq_true, Bool.not_eq_true', Bool.not_eq_false', Bool.or_eq_false_iff, Bool.and_eq_false_iff, decide_eq_true_eq, decide_eq_false_iff_not, beq_iff_eq, bne_iff_ne, beq_eq_false_iff_ne, bne_eq_false_iff_eq, Bool.and_true, Bool.true_and, ne_eq] at hc7
       refine wp_seq_k (fun K25 hK25 => ?_)
       replace hM := hM.drew; replace hk0 := hk0.drew
       obtain ⟨C3, hC3d⟩ : ∃ C : World → Prop, C = fun w' => MemOk [⟨B1, 114, [iV px, iV py]⟩, ⟨B1 + 1, 114, [iV hx, iV hy]⟩, ⟨B3, 3, [iV px, iV py]⟩, ⟨B19, 3, [iV hx, iV hy]⟩] w' ∧ Keep Nn w w' ∧ True := ⟨_, rfl⟩
       have hC3i : ∀ w', (MemOk [⟨B1, 114, [iV px, iV py]⟩, ⟨B1 + 1, 114, [iV hx, iV hy]⟩, ⟨B3, 3, [iV px, iV py]⟩, ⟨B19, 3, [iV hx, iV hy]⟩] w' ∧ Keep Nn w w' ∧ True) → C3 w' := fun w' h => by rw [hC3d]; exact h
       have hC3e : ∀ w', C3 w' → (MemOk [⟨B1, 114, [iV px, iV py]⟩, ⟨B1 + 1, 114, [iV hx, iV hy]⟩, ⟨B3, 3, [iV px, iV py]⟩, ⟨B19, 3, [iV hx, iV hy]⟩] w' ∧ Keep Nn w w' ∧ True) := fun w' h => by rw [hC3d] at h; exact h
       refine sxdraw (C := C3) (.leaf [(0, true), (1, true), (2, false), (3, true)]) (by kernel_rfl) (by kernel_rfl) (by as_aux_lemma => kernel_rfl) rfl (by as_aux_lemma => kernel_rfl) (by kernel_rfl) (hC3i _ ⟨hM.sub (.cons_cons _ (.cons_cons _ (.cons _ (.cons_cons _ (.cons_cons _ .slnil))))), hk0, trivial⟩) ?_
       refine sxleaf ?_
       have hC := (hC3i _ ⟨hM.sub (.cons_cons _ (.cons_cons _ (.cons _ (.cons_cons _ (.cons_cons _ .slnil))))), hk0, trivial⟩)
       refine qd hf hC (fun w' h => (hC3e w' h).1) [43, 42, 5, 4] [{ sp := true }, { os := [.ex (.iface 185 (.pointer (some (E 0))))] }] (env' := [(43, .val (.iface 185 (.pointer (some (E 0))))), (42, .val (.agg #[iV 0, iV 0, iV 0, iV 0])), (5, .val (.nilIface)), (4, eP (B1 + 2) 0)]) (ob := [(∀ w', C3 w' → w'.cell? ⟨0, 0, none⟩ = some (.iface 185 (.pointer (some (E 0)))))]) (Ao (fun w' hc => by obtain ⟨hM, hk0, hO⟩ := hC3e w' hc; exact (hk0.cell (hG.cell 0 (by decide)) (fun h => h)))) ?_
       clear hf; intro a hf
       refine scstep rfl ?_
       have hMs : MemOk [⟨B1 + 2, 50, [iV 0, iV 0, iV 0, iV 0]⟩] w7.drew := hM.sub (.cons _ (.cons _ (.cons_cons _ (.cons _ (.cons _ .slnil)))))
       refine q1 hf hMs [43, 5, 4] [{ os := [.st 0 0, .st 0 1, .st 0 2, .st 0 3] }] (env' := fun B24 => [(43, .val (.iface 185 (.pointer (some (E 0))))), (5, .val (.nilIface)), (4, eP (B1 + 2) 0)]) (M' := fun B24 => [⟨B1 + 2, 50, [iV 0, iV 0, iV 0, iV 0]⟩]) (ob := fun B24 => [Ad (B1 + 2) 0, Ad (B1 + 2) 1, Ad (B1 + 2) 2, Ad (B1 + 2) 3]) (fun B24 => (Ac (ad _ _) (Ac (ad _ _) (Ac (ad _ _) (Ao (ad _ _)))))) ?_
       clear hf hMs; intro a w8 B24 hf hMs hB hk; clear hB
       have hM : MemOk [⟨B1, 114, [iV px, iV py]⟩, ⟨B1 + 1, 114, [iV hx, iV hy]⟩, ⟨B1 + 2, 50, [iV 0, iV 0, iV 0, iV 0]⟩, ⟨B3, 3, [iV px, iV py]⟩, ⟨B19, 3, [iV hx, iV hy]⟩] w8 := MemOk.upd (M1 := [⟨B1, 114, [iV px, iV py]⟩, ⟨B1 + 1, 114, [iV hx, iV hy]⟩]) (M2 := [⟨B3, 3, [iV px, iV py]⟩, ⟨B19, 3, [iV hx, iV hy]⟩]) hM hk hMs rfl
       have hk0 := hk0.then hk (by intro i hi h; simp only [Is, Mem.names, List.map_cons, List.map_nil, List.mem_cons, List.not_mem_nil, or_false] at h; omega)
       clear hk hMs
       have hC := (hC3i _ ⟨hM.sub (.cons_cons _ (.cons_cons _ (.cons _ (.cons_cons _ (.cons_cons _ .slnil))))), hk0, trivial⟩)
       refine scdone hC ?_
       refine qd hf hC (fun w' h => (hC3e w' h).1) [5, 4] [{}] (env' := [(5, .val (.iface 185 (.pointer (some (E 0))))), (4, eP (B1 + 2) 0)]) (ob := []) An ?_
       clear hf; intro a hf
       clear hC
       show K25 _ _
       refine hK25 _ _ ?_
       refine wp_ret ?_
       refine qr (fn := Tryd.f71) hf hM [.ld 2 0, .ld 2 1, .ld 2 2, .ld 2 3] (l := [.agg #[iV 0, iV 0, iV 0, iV 0], .iface 185 (.pointer (some (E 0)))]) (ob := [Ad (B1 + 2) 0, Ad (B1 + 2) 1, Ad (B1 + 2) 2, Ad (B1 + 2) 3]) (Ac (ad _ _) (Ac (ad _ _) (Ac (ad _ _) (Ao (ad _ _))))) ?_
       show (.tuple #[.agg #[iV 0, iV 0, iV 0, iV 0], .iface 185 (.pointer (some (E 0)))] : Value) = .tuple #[.agg #[iV 0, iV 0, iV 0, iV 0], .iface 185 (.pointer (some (E 0)))] ∧ Keep Nn w w8
       exact ⟨rfl, hk0⟩
     · have hc7 := hc7r
       try simp only [Bool.or_eq_true, Bool.and_eq_true, Bool.not_eq_true', Bool.not_eq_false', Bool.or_eq_false_iff, Bool.and_eq_false_iff, decide_eq_true_eq, decide_eq_false_iff_not, beq_iff_eq, bne_iff_ne, beq_eq_false_iff_ne, bne_eq_false_iff_eq, Bool.and_true, Bool.true_and, ne_eq] at hc7
       refine wp_skip ?_
       refine hK22 _ _ ?_
       refine wp_region_lit ?_
       refine q0 hf hM [32, 40, 39, 31, 30, 5, 4, 3, 2] [{}, {}] (env' := [(32, eI 1), (40, .gd (decide ((hx : Int) < 0)) false (bV (decide ((hx : Int) > 1048576)))), (39, .gd (decide ((hx : Int) < 0)) false (iV hx)), (31, eI 2), (30, eS (some ⟨B19, 0, none⟩) 2 2), (5, .val (.nilIface)), (4, eP (B1 + 2) 0), (3, eP (B1 + 1) 0), (2, eP B1 0)]) (ob := []) An ?_
       clear hf; intro a hf
       refine wpList_nil ?_
       refine hL4 _ _ ?_
       refine sxround (m := 1) fun L5 hL5 => ?_
       refine wp_seq_k (fun K26 hK26 => ?_)
       refine wp_region_lit ?_
       refine q0 hf hM [33, 32, 40, 39, 31, 30, 5, 4, 3, 2] [{}] (env' := [(33, eB true), (32, eI 1), (40, .gd (decide ((hx : Int) < 0)) false (bV (decide ((hx : Int) > 1048576)))), (39, .gd (decide ((hx : Int) < 0)) false (iV hx)), (31, eI 2), (30, eS (some ⟨B19, 0, none⟩) 2 2), (5, .val (.nilIface)), (4, eP (B1 + 2) 0), (3, eP (B1 + 1) 0), (2, eP B1 0)]) (ob := []) An ?_
       clear hf; intro a hf
       refine wpList_nil ?_
       refine hK26 _ _ ?_
       refine wp_seq_k (fun K27 hK27 => ?_)
       refine sxcond hf (b := true) (by kernel_rfl) (fun _ => ?_) (fun h => by cases h)
       refine wp_skip ?_
       refine hK27 _ _ ?_
       refine wp_seq_k (fun K28 hK28 => ?_)
       refine wp_block ?_
       refine wp_seq_k (fun K29 hK29 => ?_)
       refine wp_region_lit ?_
       refine q0 hf hM [9, 32, 40, 39, 31, 30, 5, 4, 3, 2] [{ sp := true }, { os := [.ld 4 1] }, {}] (env' := [(9, eI hy), (32, eI 1), (40, .gd (decide ((hx : Int) < 0)) false (bV (decide ((hx : Int) > 1048576)))), (39, .gd (decide ((hx : Int) < 0)) false (iV hx)), (31, eI 2), (30, eS (some ⟨B19, 0, none⟩) 2 2), (5, .val (.nilIface)), (4, eP (B1 + 2) 0), (3, eP (B1 + 1) 0), (2, eP B1 0)]) (ob := [(0 : Int) ≤ 1 ∧ (1 : Int) < (2 : Int), (some ⟨B19, 0, none⟩ : Option Addr).isSome = true, Ad B19 1]) (Ac (by omega) (Ac rfl (Ao (ad _ _)))) ?_
       clear hf; intro a hf
       refine wpList_nil ?_
       refine hK29 _ _ ?_
       refine wp_seq_k (fun K30 hK30 => ?_)
       refine wp_region_lit ?_
       refine q0 hf hM [41, 40, 39, 32, 31, 30, 5, 4, 3, 2] [{}, {}, {}, { g := .sym }, { g := .sym }, { hint := some (bV ((decide ((hy : Int) < 0)) || (decide ((hy : Int) > 1048576)))) }] (env' := [(41, eB ((decide ((hy : Int) < 0)) || (decide ((hy : Int) > 1048576)))), (40, .gd (decide ((hy : Int) < 0)) false (bV (decide ((hy : Int) > 1048576)))), (39, .gd (decide ((hy : Int) < 0)) false (iV hy)), (32, eI 1), (31, eI 2), (30, eS (some ⟨B19, 0, none⟩) 2 2), (5, .val (.nilIface)), (4, eP (B1 + 2) 0), (3, eP (B1 + 1) 0), (2, eP B1 0)]) (ob := [((decide ((hy : Int) < 0)) = false → (decide ((hy : Int) < 0)) = (decide ((hy : Int) < 0))), ((decide ((hy : Int) < 0)) = false → (decide ((hy : Int) < 0)) = (decide ((hy : Int) < 0))), (bif (decide ((hy : Int) < 0)) then (bV true : Value) else bV (decide ((hy : Int) > 1048576))) = .bool ((decide ((hy : Int) < 0)) || (decide ((hy : Int) > 1048576)))]) (Ac (fun hgd => rfl) (Ac (fun _ => rfl) (Ao (pick_or _ _)))) ?_
       clear hf; intro a hf
       refine wpList_nil ?_
       refine hK30 _ _ ?_
       refine qc hf (b := ((decide ((hy : Int) < 0)) || (decide ((hy : Int) > 1048576)))) (fun hc9r => ?_) (fun hc9r => ?_)
       · have hc9 := hc9r
         try simp only [Bool.or_eq_true, Bool.and_eq_true, Bool.not_eq_true', Bool.not_eq_false', Bool.or_eq_false_iff, Bool.and_eq_false_iff, decide_eq_true_eq, decide_eq_false_iff_not, beq_iff_eq, bne_iff_ne, beq_eq_false_iff_ne, bne_eq_false_iff_eq, Bool.and_true, Bool.true_and, ne_eq] at hc9
         refine wp_seq_k (fun K31 hK31 => ?_)
         replace hM := hM.drew; replace hk0 := hk0.drew
         obtain ⟨C4, hC4d⟩ : ∃ C : World → Prop, C = fun w' => MemOk [⟨B1, 114, [iV px, iV py]⟩, ⟨B1 + 1, 114, [iV hx, iV hy]⟩, ⟨B3, 3, [iV px, iV py]⟩, ⟨B19, 3, [iV hx, iV hy]⟩] w' ∧ Keep Nn w w' ∧ True := ⟨_, rfl⟩
         have hC4i : ∀ w', (MemOk [⟨B1, 114, [iV px, iV py]⟩, ⟨B1 + 1, 114, [iV hx, iV hy]⟩, ⟨B3, 3, [iV px, iV py]⟩, ⟨B19, 3, [iV hx, iV hy]⟩] w' ∧ Keep Nn w w' ∧ True) → C4 w' := fun w' h => by rw [hC4d]; exact h
         have hC4e : ∀ w', C4 w' → (MemOk [⟨B1, 114, [iV px, iV py]⟩, ⟨B1 + 1, 114, [iV hx, iV hy]⟩, ⟨B3, 3, [iV px, iV py]⟩, ⟨B19, 3, [iV hx, iV hy]⟩] w' ∧ Keep Nn w w' ∧ True) := fun w' h => by rw [hC4d] at h; exact h
         refine sxdraw (C := C4) (.leaf [(0, true), (1, true), (2, false), (3, true)]) (by kernel_rfl) (by kernel_rfl) (by as_aux_lemma => kernel_rfl) rfl (by as_aux_lemma => kernel_rfl) (by kernel_rfl) (hC4i _ ⟨hM.sub (.cons_cons _ (.cons_cons _ (.cons _ (.cons_cons _ (.cons_cons _ .slnil))))), hk0, trivial⟩) ?_
         refine sxleaf ?_
         have hC := (hC4i _ ⟨hM.sub (.cons_cons _ (.cons_cons _ (.cons _ (.cons_cons _ (.cons_cons _ .slnil))))), hk0, trivial⟩)
         refine qd hf hC (fun w' h => (hC4e w' h).1) [43, 42, 5, 4] [{ sp := true }, { os := [.ex (.iface 185 (.pointer (some (E 0))))] }] (env' := [(43, .val (.iface 185 (.pointer (some (E 0))))), (42, .val (.agg #[iV 0, iV 0, iV 0, iV 0])), (5, .val (.nilIface)), (4, eP (B1 + 2) 0)]) (ob := [(∀ w', C4 w' → w'.cell? ⟨0, 0, none⟩ = some (.iface 185 (.pointer (some (E 0)))))]) (Ao (fun w' hc => by obtain ⟨hM, hk0, hO⟩ := hC4e w' hc; exact (hk0.cell (hG.cell 0 (by decide)) (fun h => h)))) ?_
         clear hf; intro a hf
         refine scstep rfl ?_
         have hMs : MemOk [⟨B1 + 2, 50, [iV 0, iV 0, iV 0, iV 0]⟩] w7.drew := hM.sub (.cons _ (.cons _ (.cons_cons _ (.cons _ (.cons _ .slnil)))))
         refine q1 hf hMs [43, 5, 4] [{ os := [.st 0 0, .st 0 1, .st 0 2, .st 0 3] }] (env' := fun B29 => [(43, .val (.iface 185 (.pointer (some (E 0))))), (5, .val (.nilIface)), (4, eP (B1 + 2) 0)]) (M' := fun B29 => [⟨B1 + 2, 50, [iV 0, iV 0, iV 0, iV 0]⟩]) (ob := fun B29 => [Ad (B1 + 2) 0, Ad (B1 + 2) 1, Ad (B1 + 2) 2, Ad (B1 + 2) 3]) (fun B29 => (Ac (ad _ _) (Ac (ad _ _) (Ac (ad _ _) (Ao (ad _ _)))))) ?_
         clear hf hMs; intro a w9 B29 hf hMs hB hk; clear hB
         have hM : MemOk [⟨B1, 114, [iV px, iV py]⟩, ⟨B1 + 1, 114, [iV hx, iV hy]⟩, ⟨B1 + 2, 50, [iV 0, iV 0, iV 0, iV 0]⟩, ⟨B3, 3, [iV px, iV py]⟩, ⟨B19, 3, [iV hx, iV hy]⟩] w9 := MemOk.upd (M1 := [⟨B1, 114, [iV px, iV py]⟩, ⟨B1 + 1, 114, [iV hx, iV hy]⟩]) (M2 := [⟨B3, 3, [iV px, iV py]⟩, ⟨B19, 3, [iV hx, iV hy]⟩]) hM hk hMs rfl
         have hk0 := hk0.then hk (by intro i hi h; simp only [Is, Mem.names, List.map_cons, List.map_nil, List.mem_cons, List.not_mem_nil, or_false] at h; omega)
         clear hk hMs
         have hC := (hC4i _ ⟨hM.sub (.cons_cons _ (.cons_cons _ (.cons _ (.cons_cons _ (.cons_cons _ .slnil))))), hk0, trivial⟩)
         refine scdone hC ?_
         refine qd hf hC (fun w' h => (hC4e w' h).1) [5, 4] [{}] (env' := [(5, .val (.iface 185 (.pointer (some (E 0))))), (4, eP (B1 + 2) 0)]) (ob := []) An ?_
         clear hf; intro a hf
         clear hC
         show K31 _ _
         refine hK31 _ _ ?_
         refine wp_ret ?_
         refine qr (fn := Tryd.f71) hf hM [.ld 2 0, .ld 2 1, .ld 2 2, .ld 2 3] (l := [.agg #[iV 0, iV 0, iV 0, iV 0], .iface 185 (.pointer (some (E 0)))]) (ob := [Ad (B1 + 2) 0, Ad (B1 + 2) 1, Ad (B1 + 2) 2, Ad (B1 + 2) 3]) (Ac (ad _ _) (Ac (ad _ _) (Ac (ad _ _) (Ao (ad _ _))))) ?_
         show (.tuple #[.agg #[iV 0, iV 0, iV 0, iV 0], .iface 185 (.pointer (some (E 0)))] : Value) = .tuple #[.agg #[iV 0, iV 0, iV 0, iV 0], .iface 185 (.pointer (some (E 0)))] ∧ Keep Nn w w9
         exact ⟨rfl, hk0⟩
       · have hc9 := hc9r
         try simp only [Bool.or_eq_true, Bool.and_eq_true, Bool.not_eq_true', Bool.not_eq_false', Bool.or_eq_false_iff, Bool.and_eq_false_iff, decide_eq_true_eq, decide_eq_false_iff_not, beq_iff_eq, bne_iff_ne, beq_eq_false_iff_ne, bne_eq_false_iff_eq, Bool.and_true, Bool.true_and, ne_eq] at hc9
         refine wp_skip ?_
         refine hK28 _ _ ?_
         refine wp_region_lit ?_
         refine q0 hf hM [32, 40, 39, 31, 30, 5, 4, 3, 2] [{}, {}] (env' := [(32, eI 2), (40, .gd (decide ((hy : Int) < 0)) false (bV (decide ((hy : Int) > 1048576)))), (39, .gd (decide ((hy : Int) < 0)) false (iV hy)), (31, eI 2), (30, eS (some ⟨B19, 0, none⟩) 2 2), (5, .val (.nilIface)), (4, eP (B1 + 2) 0), (3, eP (B1 + 1) 0), (2, eP B1 0)]) (ob := []) An ?_
         clear hf; intro a hf
         refine wpList_nil ?_
         refine hL5 _ _ ?_
         refine sxround (m := 0) fun L6 hL6 => ?_
         refine wp_seq_k (fun K32 hK32 => ?_)
         refine wp_region_lit ?_
         refine q0 hf hM [33, 32, 40, 39, 31, 30, 5, 4, 3, 2] [{}] (env' := [(33, eB false), (32, eI 2), (40, .gd (decide ((hy : Int) < 0)) false (bV (decide ((hy : Int) > 1048576)))), (39, .gd (decide ((hy : Int) < 0)) false (iV hy)), (31, eI 2), (30, eS (some ⟨B19, 0, none⟩) 2 2), (5, .val (.nilIface)), (4, eP (B1 + 2) 0), (3, eP (B1 + 1) 0), (2, eP B1 0)]) (ob := []) An ?_
         clear hf; intro a hf
         refine wpList_nil ?_
         refine hK32 _ _ ?_
         refine wp_seq_k (fun K33 hK33 => ?_)
         refine sxcond hf (b := false) (by kernel_rfl) (fun h => by cases h) (fun _ => ?_)
         refine wp_exit ?_
         refine hK18 _ _ ?_
         refine wp_seq_k (fun K34 hK34 => ?_)
         refine wp_region_lit ?_
         refine q1 hf hM [5, 4] [{}, { os := [.ld 0 0] }, {}, { os := [.ld 1 0] }, {}, {}, { os := [.ld 0 1] }, {}, { os := [.ld 1 1] }, {}, {}, { os := [.ld 0 0] }, {}, { os := [.ld 1 0] }, {}, {}, { os := [.ld 0 1] }, {}, { os := [.ld 1 1] }, {}, { sp := true }, { os := [.st 2 0, .st 2 1, .st 2 2, .st 2 3] }, {}] (env' := fun B32 => [(5, .val (.nilIface)), (4, eP (B1 + 2) 0)]) (M' := fun B32 => [⟨B1, 114, [iV px, iV py]⟩, ⟨B1 + 1, 114, [iV hx, iV hy]⟩, ⟨B1 + 2, 50, [iV (IntKind.i64.wrap (px - hx)), iV (IntKind.i64.wrap (py - hy)), iV (IntKind.i64.wrap (px + hx)), iV (IntKind.i64.wrap (py + hy))]⟩, ⟨B3, 3, [iV px, iV py]⟩, ⟨B19, 3, [iV hx, iV hy]⟩]) (ob := fun B32 => [Ad B1 0, Ad (B1 + 1) 0, Ad B1 1, Ad (B1 + 1) 1, Ad B1 0, Ad (B1 + 1) 0, Ad B1 1, Ad (B1 + 1) 1, Ad (B1 + 2) 0, Ad (B1 + 2) 1, Ad (B1 + 2) 2, Ad (B1 + 2) 3]) (fun B32 => (Ac (ad _ _) (Ac (ad _ _) (Ac (ad _ _) (Ac (ad _ _) (Ac (ad _ _) (Ac (ad _ _) (Ac (ad _ _) (Ac (ad _ _) (Ac (ad _ _) (Ac (ad _ _) (Ac (ad _ _) (Ao (ad _ _)))))))))))))) ?_
         clear hf hM; intro a w10 B32 hf hM hB hk
         have hbB32 : w.heap.size ≤ B32 := by have := hk0.size; omega
         have hk0 := hk0.then hk (by intro i hi h; simp only [Is, Mem.names, List.map_cons, List.map_nil, List.mem_cons, List.not_mem_nil, or_false] at h; omega)
         clear hk hB
         refine wpList_nil ?_
         refine hK34 _ _ ?_
         refine wp_ret ?_
         refine qr (fn := Tryd.f71) hf hM [.ld 2 0, .ld 2 1, .ld 2 2, .ld 2 3] (l := [.agg #[iV (IntKind.i64.wrap (px - hx)), iV (IntKind.i64.wrap (py - hy)), iV (IntKind.i64.wrap (px + hx)), iV (IntKind.i64.wrap (py + hy))], .nilIface]) (ob := [Ad (B1 + 2) 0, Ad (B1 + 2) 1, Ad (B1 + 2) 2, Ad (B1 + 2) 3]) (Ac (ad _ _) (Ac (ad _ _) (Ac (ad _ _) (Ao (ad _ _))))) ?_
         show (.tuple #[.agg #[iV (IntKind.i64.wrap (px - hx)), iV (IntKind.i64.wrap (py - hy)), iV (IntKind.i64.wrap (px + hx)), iV (IntKind.i64.wrap (py + hy))], .nilIface] : Value) = .tuple #[.agg #[iV 0, iV 0, iV 0, iV 0], .iface 185 (.pointer (some (E 0)))] ∧ Keep Nn w w10
         exfalso
         have hb := of_decide_eq_false hn0
         try simp only [within, decide_eq_true_eq] at hc2
         try simp only [within, decide_eq_true_eq] at hc4
         try simp only [within, decide_eq_true_eq] at hc7
         try simp only [within, decide_eq_true_eq] at hc9
         omega
end Go.Proofs.YtifcgjnknikjkaaDoor
