/- layer 2: how two things compare -/
import Derived.Test.YtllopoaojchcmaaRows
import Derived.Test.YtllopoaojchcmaaXQ
import Derived.Test.YtllopoaojchcmaaXp2d
namespace Go.Proofs.Ytllopoaojchcmaa
open Go.Px
set_option linter.unusedVariables false
set_option linter.unusedSimpArgs false
theorem enters2 : enters Try.prog 2 := ⟨_, Try.func2, by kernel_rfl, rfl⟩
theorem enters3 : enters Try.prog 3 := ⟨_, Try.func3, by kernel_rfl, rfl⟩
theorem enters4 : enters Try.prog 4 := ⟨_, Try.func4, by kernel_rfl, rfl⟩
theorem enters5 : enters Try.prog 5 := ⟨_, Try.func5, by kernel_rfl, rfl⟩
theorem enters6 : enters Try.prog 6 := ⟨_, Try.func6, by kernel_rfl, rfl⟩
theorem enters7 : enters Try.prog 7 := ⟨_, Try.func7, by kernel_rfl, rfl⟩
theorem enters8 : enters Try.prog 8 := ⟨_, Try.func8, by kernel_rfl, rfl⟩
theorem enters9 : enters Try.prog 9 := ⟨_, Try.func9, by kernel_rfl, rfl⟩
theorem enters10 : enters Try.prog 10 := ⟨_, Try.func10, by kernel_rfl, rfl⟩
theorem enters11 : enters Try.prog 11 := ⟨_, Try.func11, by kernel_rfl, rfl⟩
theorem enters12 : enters Try.prog 12 := ⟨_, Try.func12, by kernel_rfl, rfl⟩
theorem enters13 : enters Try.prog 13 := ⟨_, Try.func13, by kernel_rfl, rfl⟩
theorem enters14 : enters Try.prog 14 := ⟨_, Try.func14, by kernel_rfl, rfl⟩
theorem enters15 : enters Try.prog 15 := ⟨_, Try.func15, by kernel_rfl, rfl⟩
theorem enters16 : enters Try.prog 16 := ⟨_, Try.func16, by kernel_rfl, rfl⟩
theorem enters17 : enters Try.prog 17 := ⟨_, Try.func17, by kernel_rfl, rfl⟩
theorem enters18 : enters Try.prog 18 := ⟨_, Try.func18, by kernel_rfl, rfl⟩
theorem enters19 : enters Try.prog 19 := ⟨_, Try.func19, by kernel_rfl, rfl⟩
theorem enters20 : enters Try.prog 20 := ⟨_, Try.func20, by kernel_rfl, rfl⟩
theorem enters21 : enters Try.prog 21 := ⟨_, Try.func21, by kernel_rfl, rfl⟩
theorem enters22 : enters Try.prog 22 := ⟨_, Try.func22, by kernel_rfl, rfl⟩
theorem enters23 : enters Try.prog 23 := ⟨_, Try.func23, by kernel_rfl, rfl⟩
theorem enters24 : enters Try.prog 24 := ⟨_, Try.func24, by kernel_rfl, rfl⟩
theorem enters25 : enters Try.prog 25 := ⟨_, Try.func25, by kernel_rfl, rfl⟩
theorem enters26 : enters Try.prog 26 := ⟨_, Try.func26, by kernel_rfl, rfl⟩
theorem enters27 : enters Try.prog 27 := ⟨_, Try.func27, by kernel_rfl, rfl⟩
theorem enters28 : enters Try.prog 28 := ⟨_, Try.func28, by kernel_rfl, rfl⟩
theorem enters29 : enters Try.prog 29 := ⟨_, Try.func29, by kernel_rfl, rfl⟩
theorem enters30 : enters Try.prog 30 := ⟨_, Try.func30, by kernel_rfl, rfl⟩
theorem enters31 : enters Try.prog 31 := ⟨_, Try.func31, by kernel_rfl, rfl⟩
theorem enters32 : enters Try.prog 32 := ⟨_, Try.func32, by kernel_rfl, rfl⟩
theorem enters33 : enters Try.prog 33 := ⟨_, Try.func33, by kernel_rfl, rfl⟩
theorem enters34 : enters Try.prog 34 := ⟨_, Try.func34, by kernel_rfl, rfl⟩
theorem enters35 : enters Try.prog 35 := ⟨_, Try.func35, by kernel_rfl, rfl⟩
theorem enters36 : enters Try.prog 36 := ⟨_, Try.func36, by kernel_rfl, rfl⟩
theorem enters37 : enters Try.prog 37 := ⟨_, Try.func37, by kernel_rfl, rfl⟩
theorem enters38 : enters Try.prog 38 := ⟨_, Try.func38, by kernel_rfl, rfl⟩
theorem enters39 : enters Try.prog 39 := ⟨_, Try.func39, by kernel_rfl, rfl⟩
theorem enters40 : enters Try.prog 40 := ⟨_, Try.func40, by kernel_rfl, rfl⟩
theorem enters41 : enters Try.prog 41 := ⟨_, Try.func41, by kernel_rfl, rfl⟩
theorem enters42 : enters Try.prog 42 := ⟨_, Try.func42, by kernel_rfl, rfl⟩
theorem enters43 : enters Try.prog 43 := ⟨_, Try.func43, by kernel_rfl, rfl⟩
theorem enters44 : enters Try.prog 44 := ⟨_, Try.func44, by kernel_rfl, rfl⟩
theorem enters45 : enters Try.prog 45 := ⟨_, Try.func45, by kernel_rfl, rfl⟩
theorem enters46 : enters Try.prog 46 := ⟨_, Try.func46, by kernel_rfl, rfl⟩
theorem enters47 : enters Try.prog 47 := ⟨_, Try.func47, by kernel_rfl, rfl⟩
theorem enters48 : enters Try.prog 48 := ⟨_, Try.func48, by kernel_rfl, rfl⟩
theorem enters49 : enters Try.prog 49 := ⟨_, Try.func49, by kernel_rfl, rfl⟩
theorem enters50 : enters Try.prog 50 := ⟨_, Try.func50, by kernel_rfl, rfl⟩
theorem enters51 : enters Try.prog 51 := ⟨_, Try.func51, by kernel_rfl, rfl⟩
theorem enters52 : enters Try.prog 52 := ⟨_, Try.func52, by kernel_rfl, rfl⟩
theorem enters53 : enters Try.prog 53 := ⟨_, Try.func53, by kernel_rfl, rfl⟩
theorem enters54 : enters Try.prog 54 := ⟨_, Try.func54, by kernel_rfl, rfl⟩
theorem enters55 : enters Try.prog 55 := ⟨_, Try.func55, by kernel_rfl, rfl⟩
theorem enters56 : enters Try.prog 56 := ⟨_, Try.func56, by kernel_rfl, rfl⟩
theorem enters57 : enters Try.prog 57 := ⟨_, Try.func57, by kernel_rfl, rfl⟩
theorem enters58 : enters Try.prog 58 := ⟨_, Try.func58, by kernel_rfl, rfl⟩
theorem enters59 : enters Try.prog 59 := ⟨_, Try.func59, by kernel_rfl, rfl⟩
theorem enters60 : enters Try.prog 60 := ⟨_, Try.func60, by kernel_rfl, rfl⟩
theorem enters61 : enters Try.prog 61 := ⟨_, Try.func61, by kernel_rfl, rfl⟩
theorem enters62 : enters Try.prog 62 := ⟨_, Try.func62, by kernel_rfl, rfl⟩
theorem enters63 : enters Try.prog 63 := ⟨_, Try.func63, by kernel_rfl, rfl⟩
theorem enters65 : enters Try.prog 65 := ⟨_, Try.func65, by kernel_rfl, rfl⟩
theorem enters66 : enters Try.prog 66 := ⟨_, Try.func66, by kernel_rfl, rfl⟩
theorem enters67 : enters Try.prog 67 := ⟨_, Try.func67, by kernel_rfl, rfl⟩
theorem enters68 : enters Try.prog 68 := ⟨_, Try.func68, by kernel_rfl, rfl⟩
theorem enters69 : enters Try.prog 69 := ⟨_, Try.func69, by kernel_rfl, rfl⟩
theorem enters70 : enters Try.prog 70 := ⟨_, Try.func70, by kernel_rfl, rfl⟩
theorem enters71 : enters Try.prog 71 := ⟨_, Try.func71, by kernel_rfl, rfl⟩
theorem enters72 : enters Try.prog 72 := ⟨_, Try.func72, by kernel_rfl, rfl⟩
theorem enters73 : enters Try.prog 73 := ⟨_, Try.func73, by kernel_rfl, rfl⟩
theorem enters74 : enters Try.prog 74 := ⟨_, Try.func74, by kernel_rfl, rfl⟩
theorem enters75 : enters Try.prog 75 := ⟨_, Try.func75, by kernel_rfl, rfl⟩

set_option maxRecDepth 10000 in
set_option maxHeartbeats 1600000 in
theorem isnan (n : Int) (w : World) :
    Calls Try.prog 61 #[iV n] w (Ret fun v w' => v = .bool false ∧ Keep Nn w w') := by
 refine sxenter (n := 6) (args := [iV n]) Try.func61 rfl rfl rfl fun a hf => ?_
 replace hf : Fr 6 [(0, eI n)] a := hf
 have hM : MemOk [] w := MemOk.nil w
 have hk0 : Keep Nn w w := Keep.refl _ _
 refine wp_seq_k (fun K1 hK1 => ?_)
 refine wp_region_lit ?_
 refine q0 hf hM [0] [{}] (nw := []) An ?_
 clear hf; intro a hf
 refine wpList_nil ?_
 refine hK1 _ _ ?_
 refine wp_seq_k (fun K2 hK2 => ?_)
 refine wp_region_lit ?_
 refine q0 hf hM [] [{}, {}, { hint := some (bV false) }, {}] (nw := [(2, eB false)]) (ob := [(bV ((n : Int) != n) : Value) = (bV false : Value)]) (Ao (by simp)) ?_
 clear hf; intro a hf
 refine wpList_nil ?_
 refine hK2 _ _ ?_
 refine wp_ret ?_
 refine qr (fn := Try.f61) hf hM [] (l := [bV false]) (ob := []) An ?_
 show (bV false : Value) = .bool false ∧ Keep Nn w w
 exact ⟨rfl, hk0⟩

set_option maxRecDepth 10000 in
set_option maxHeartbeats 1600000 in
theorem isnan2 (n : Int) (w : World) :
    Calls Try.prog 63 #[iV n] w (Ret fun v w' => v = .bool false ∧ Keep Nn w w') := by
 refine sxenter (n := 6) (args := [iV n]) Try.func63 rfl rfl rfl fun a hf => ?_
 replace hf : Fr 6 [(0, eI n)] a := hf
 have hM : MemOk [] w := MemOk.nil w
 have hk0 : Keep Nn w w := Keep.refl _ _
 refine wp_seq_k (fun K1 hK1 => ?_)
 refine wp_region_lit ?_
 refine q0 hf hM [0] [{}] (nw := []) An ?_
 clear hf; intro a hf
 refine wpList_nil ?_
 refine hK1 _ _ ?_
 refine wp_seq_k (fun K2 hK2 => ?_)
 refine wp_region_lit ?_
 refine q0 hf hM [] [{}, {}, { hint := some (bV false) }, {}] (nw := [(2, eB false)]) (ob := [(bV ((n : Int) != n) : Value) = (bV false : Value)]) (Ao (by simp)) ?_
 clear hf; intro a hf
 refine wpList_nil ?_
 refine hK2 _ _ ?_
 refine wp_ret ?_
 refine qr (fn := Try.f63) hf hM [] (l := [bV false]) (ob := []) An ?_
 show (bV false : Value) = .bool false ∧ Keep Nn w w
 exact ⟨rfl, hk0⟩

set_option maxRecDepth 10000 in
set_option maxHeartbeats 1600000 in
theorem less_int (x y : Int) (w : World) :
    Calls Try.prog 62 #[iV x, iV y] w (Ret fun v w' => v = .bool (ltI x y) ∧ Keep Nn w w') := by
 refine sxenter (n := 17) (args := [iV x, iV y]) Try.func62 rfl rfl rfl fun a hf => ?_
 replace hf : Fr 17 [(0, eI x), (1, eI y)] a := hf
 have hM : MemOk [] w := MemOk.nil w
 have hk0 : Keep Nn w w := Keep.refl _ _
 refine wp_seq_k (fun K1 hK1 => ?_)
 refine wp_region_lit ?_
 refine q0 hf hM [0, 1] [{}] (nw := []) An ?_
 clear hf; intro a hf
 refine wpList_nil ?_
 refine hK1 _ _ ?_
 refine wp_seq_k (fun K2 hK2 => ?_)
 refine wp_region_lit ?_
 refine q0 hf hM [0, 1] [{}] (nw := [(5, eI x)]) An ?_
 clear hf; intro a hf
 refine sxcall hf rfl rfl rfl rfl (g := 61) (vs := [iV x]) (ob := []) (by as_aux_lemma => kernel_rfl) An enters61 (isnan x w  ) ?_
 clear hf; rintro _ w1 a ⟨rfl, hk⟩ hf
 have hM := hM.keepNn hk
 have hk0 := hk0.trans hk.nn
 clear hk
 refine q0 hf hM [0, 1] [{}, { g := .off }] (nw := [(8, .val (undef)), (7, eB false)]) (ob := [false = !true]) (Ao rfl) ?_
 clear hf; intro a hf
 refine q0 hf hM [] [{ g := .off }, { g := .off }, {}, {}, {}, {}, {}, {}, {}] (nw := [(4, eB (decide ((x : Int) < y)))]) (ob := [false = !true, false = !true, false = false, false = false, false = false]) (Ac rfl (Ac rfl (Ac rfl (Ac rfl (Ao rfl))))) ?_
 clear hf; intro a hf
 refine wpList_nil ?_
 refine hK2 _ _ ?_
 refine wp_ret ?_
 refine qr (fn := Try.f62) hf hM [] (l := [bV (decide ((x : Int) < y))]) (ob := []) An ?_
 show (bV (decide ((x : Int) < y)) : Value) = .bool (ltI x y) ∧ Keep Nn w w1
 exact ⟨rfl, hk0⟩

set_option maxRecDepth 10000 in
set_option maxHeartbeats 1600000 in
theorem compare_int (x y : Int) (w : World) :
    Calls Try.prog 45 #[iV x, iV y] w (Ret fun v w' => v = .int .i64 (cmpN x y) ∧ Keep Nn w w') := by
 refine sxenter (n := 20) (args := [iV x, iV y]) Try.func45 rfl rfl rfl fun a hf => ?_
 replace hf : Fr 20 [(0, eI x), (1, eI y)] a := hf
 have hM : MemOk [] w := MemOk.nil w
 have hk0 : Keep Nn w w := Keep.refl _ _
 refine wp_seq_k (fun K1 hK1 => ?_)
 refine wp_region_lit ?_
 refine q0 hf hM [0, 1] [{}] (nw := []) An ?_
 clear hf; intro a hf
 refine wpList_nil ?_
 refine hK1 _ _ ?_
 refine wp_seq_k (fun K2 hK2 => ?_)
 refine wp_region_lit ?_
 refine q0 hf hM [0, 1] [{}] (nw := [(7, eI x)]) An ?_
 clear hf; intro a hf
 refine sxcall hf rfl rfl rfl rfl (g := 61) (vs := [iV x]) (ob := []) (by as_aux_lemma => kernel_rfl) An enters61 (isnan x w  ) ?_
 clear hf; rintro _ w1 a ⟨rfl, hk⟩ hf
 have hM := hM.keepNn hk
 have hk0 := hk0.trans hk.nn
 clear hk
 refine q0 hf hM [0, 1] [{}] (nw := [(5, eB false)]) An ?_
 clear hf; intro a hf
 refine wpList_nil ?_
 refine hK2 _ _ ?_
 refine wp_seq_k (fun K3 hK3 => ?_)
 refine wp_region_lit ?_
 refine q0 hf hM [5, 0, 1] [{}] (nw := [(9, eI y)]) An ?_
 clear hf; intro a hf
 refine sxcall hf rfl rfl rfl rfl (g := 61) (vs := [iV y]) (ob := []) (by as_aux_lemma => kernel_rfl) An enters61 (isnan y w1  ) ?_
 clear hf; rintro _ w2 a ⟨rfl, hk⟩ hf
 have hM := hM.keepNn hk
 have hk0 := hk0.trans hk.nn
 clear hk
 refine q0 hf hM [5, 0, 1] [{}] (nw := [(6, eB false)]) An ?_
 clear hf; intro a hf
 refine wpList_nil ?_
 refine hK3 _ _ ?_
 refine wp_seq_k (fun K4 hK4 => ?_)
 refine wp_seq_k (fun K5 hK5 => ?_)
 refine wp_region_lit ?_
 refine q0 hf hM [6, 0, 1] [{}] (nw := [(11, eB false)]) An ?_
 clear hf; intro a hf
 refine wpList_nil ?_
 refine hK5 _ _ ?_
 refine sxcond hf (b := false) (by kernel_rfl) (fun h => by cases h) (fun _ => ?_)
 refine wp_skip ?_
 refine hK4 _ _ ?_
 refine wp_seq_k (fun K6 hK6 => ?_)
 refine wp_seq_k (fun K7 hK7 => ?_)
 refine wp_region_lit ?_
 refine q0 hf hM [0, 1] [{}] (nw := [(13, eB false)]) An ?_
 clear hf; intro a hf
 refine wpList_nil ?_
 refine hK7 _ _ ?_
 refine sxcond hf (b := false) (by kernel_rfl) (fun h => by cases h) (fun _ => ?_)
 refine wp_skip ?_
 refine hK6 _ _ ?_
 refine wp_seq_k (fun K8 hK8 => ?_)
 refine wp_seq_k (fun K9 hK9 => ?_)
 refine wp_region_lit ?_
 refine q0 hf hM [0, 1] [{}, {}, {}] (nw := [(16, eB (decide ((x : Int) < y)))]) An ?_
 clear hf; intro a hf
 refine wpList_nil ?_
 refine hK9 _ _ ?_
 refine qc hf (b := (decide ((x : Int) < y))) (fun hc3r => ?_) (fun hc3r => ?_)
 · have hc3 := (nT hc3r)
   refine wp_seq_k (fun K10 hK10 => ?_)
   refine wp_region_lit ?_
   refine q0 hf hM [] [{}] (nw := [(4, eI (-1))]) An ?_
   clear hf; intro a hf
   refine wpList_nil ?_
   refine hK10 _ _ ?_
   refine wp_ret ?_
   refine qr (fn := Try.f45) hf hM [] (l := [iV (-1)]) (ob := []) An ?_
   show (iV (-1) : Value) = .int .i64 (cmpN x y) ∧ Keep Nn w w2
   refine ⟨congrArg _ ?_, hk0⟩
   unfold cmpN
   repeat' split
   all_goals first | rfl | omega
 · have hc3 := (nU hc3r)
   refine wp_skip ?_
   refine hK8 _ _ ?_
   refine wp_seq_k (fun K11 hK11 => ?_)
   refine wp_seq_k (fun K12 hK12 => ?_)
   refine wp_region_lit ?_
   refine q0 hf hM [] [{}, {}, {}] (nw := [(19, eB (decide ((x : Int) > y)))]) An ?_
   clear hf; intro a hf
   refine wpList_nil ?_
   refine hK12 _ _ ?_
   refine qc hf (b := (decide ((x : Int) > y))) (fun hc4r => ?_) (fun hc4r => ?_)
   · have hc4 := (nT hc4r)
     refine wp_seq_k (fun K13 hK13 => ?_)
     refine wp_region_lit ?_
     refine q0 hf hM [] [{}] (nw := [(4, eI 1)]) An ?_
     clear hf; intro a hf
     refine wpList_nil ?_
     refine hK13 _ _ ?_
     refine wp_ret ?_
     refine qr (fn := Try.f45) hf hM [] (l := [iV 1]) (ob := []) An ?_
     show (iV 1 : Value) = .int .i64 (cmpN x y) ∧ Keep Nn w w2
     refine ⟨congrArg _ ?_, hk0⟩
     unfold cmpN
     repeat' split
     all_goals first | rfl | omega
   · have hc4 := (nU hc4r)
     refine wp_skip ?_
     refine hK11 _ _ ?_
     refine wp_seq_k (fun K14 hK14 => ?_)
     refine wp_region_lit ?_
     refine q0 hf hM [] [{}] (nw := [(4, eI 0)]) An ?_
     clear hf; intro a hf
     refine wpList_nil ?_
     refine hK14 _ _ ?_
     refine wp_ret ?_
     refine qr (fn := Try.f45) hf hM [] (l := [iV 0]) (ob := []) An ?_
     show (iV 0 : Value) = .int .i64 (cmpN x y) ∧ Keep Nn w w2
     refine ⟨congrArg _ ?_, hk0⟩
     unfold cmpN
     repeat' split
     all_goals first | rfl | omega

set_option maxRecDepth 10000 in
set_option maxHeartbeats 1600000 in
theorem or2 (av : Option Addr) (x y : Int) (c : Nat) (w : World) (hav : Arr w 1 av 2 c (flat fI ([x, y] : List Int))) :
    Calls Try.prog 53 #[.slice av 2 c] w (Ret fun v w' => v = .int .i64 (orI x y) ∧ Keep Nn w w') := by
 refine sxenter (n := 18) (args := [.slice av 2 c]) Try.func53 rfl rfl rfl fun a hf => ?_
 replace hf : Fr 18 [(0, eS av 2 c)] a := hf
 have hM : MemOk [] w := MemOk.nil w
 have hk0 : Keep Nn w w := Keep.refl _ _
 refine wp_seq_k (fun K1 hK1 => ?_)
 refine wp_region_lit ?_
 refine q0 hf hM [0] [{}] (nw := []) An ?_
 clear hf; intro a hf
 refine wpList_nil ?_
 refine hK1 _ _ ?_
 refine wp_seq_k (fun K2 hK2 => ?_)
 refine wp_region_lit ?_
 refine q0 hf hM [0] [{}] (nw := [(3, eI 0)]) An ?_
 clear hf; intro a hf
 refine wpList_nil ?_
 refine hK2 _ _ ?_
 refine wp_seq_k (fun K3 hK3 => ?_)
 refine wp_seq_k (fun K4 hK4 => ?_)
 refine wp_region_lit ?_
 refine q0 hf hM [3] [{}, {}, {}] (nw := [(8, eI 0), (7, eI 2), (6, eS av 2 c)]) An ?_
 clear hf; intro a hf
 refine wpList_nil ?_
 refine hK4 _ _ ?_
 refine wp_block ?_
 refine wp_loop_rounds 3 ?_
 refine sxround (m := 2) fun L1 hL1 => ?_
 refine wp_seq_k (fun K5 hK5 => ?_)
 refine wp_region_lit ?_
 refine q0 hf hM [8, 7, 6, 3] [{}] (nw := [(9, eB true)]) An ?_
 clear hf; intro a hf
 refine wpList_nil ?_
 refine hK5 _ _ ?_
 refine wp_seq_k (fun K6 hK6 => ?_)
 refine sxcond hf (b := true) (by kernel_rfl) (fun _ => ?_) (fun h => by cases h)
 refine wp_skip ?_
 refine hK6 _ _ ?_
 refine wp_seq_k (fun K7 hK7 => ?_)
 refine wp_block ?_
 refine wp_seq_k (fun K8 hK8 => ?_)
 refine wp_region_lit ?_
 refine q0 hf hM [8, 7, 6, 3] [{ sp := true }, { os := [.ex (iV (([x, y] : List Int).getD (0 : Int).toNat 0))], hint := some (iV x) }, {}] (nw := [(5, eI x)]) (ob := [(0 : Int) ≤ 0 ∧ 0 < (2 : Int), (av : Option Addr).isSome = true, w.cell? ((sa av : Addr).add ((0 : Int).toNat * 1)) = some (iV (([x, y] : List Int).getD (0 : Int).toNat 0)), (iV (([x, y] : List Int).getD (0 : Int).toNat 0) : Value) = (iV x : Value)]) (Ac (by first | omega | (simp; done)) (Ac ((hav.keepNn hk0).some_ (by first | omega | (simp; done))) (Ac ((hav.keepNn hk0).get0 (fun _ => rfl) (by first | omega | (simp; done)) rfl) (Ao rfl)))) ?_
 clear hf; intro a hf
 refine wpList_nil ?_
 refine hK8 _ _ ?_
 refine wp_seq_k (fun K9 hK9 => ?_)
 refine wp_region_lit ?_
 refine q0 hf hM [5, 8, 7, 6, 3] [{}, {}, {}] (nw := [(14, eB ((x : Int) != 0))]) An ?_
 clear hf; intro a hf
 refine wpList_nil ?_
 refine hK9 _ _ ?_
 refine qc hf (b := ((x : Int) != 0)) (fun hc2r => ?_) (fun hc2r => ?_)
 · have hc2 := (nN hc2r)
   refine wp_seq_k (fun K10 hK10 => ?_)
   refine wp_region_lit ?_
   refine q0 hf hM [] [{}, {}] (nw := [(2, eI x)]) An ?_
   clear hf; intro a hf
   refine wpList_nil ?_
   refine hK10 _ _ ?_
   refine wp_ret ?_
   refine qr (fn := Try.f53) hf hM [] (l := [iV x]) (ob := []) An ?_
   show (iV x : Value) = .int .i64 (orI x y) ∧ Keep Nn w w
   refine ⟨congrArg _ ?_, hk0⟩
   unfold orI
   split <;> first | rfl | omega
 · have hc2 := (nM hc2r)
   refine wp_skip ?_
   refine hK7 _ _ ?_
   refine wp_region_lit ?_
   refine q0 hf hM [7, 6, 3] [{}, {}] (nw := [(8, eI 1)]) An ?_
   clear hf; intro a hf
   refine wpList_nil ?_
   refine hL1 _ _ ?_
   refine sxround (m := 1) fun L2 hL2 => ?_
   refine wp_seq_k (fun K11 hK11 => ?_)
   refine wp_region_lit ?_
   refine q0 hf hM [8, 7, 6, 3] [{}] (nw := [(9, eB true)]) An ?_
   clear hf; intro a hf
   refine wpList_nil ?_
   refine hK11 _ _ ?_
   refine wp_seq_k (fun K12 hK12 => ?_)
   refine sxcond hf (b := true) (by kernel_rfl) (fun _ => ?_) (fun h => by cases h)
   refine wp_skip ?_
   refine hK12 _ _ ?_
   refine wp_seq_k (fun K13 hK13 => ?_)
   refine wp_block ?_
   refine wp_seq_k (fun K14 hK14 => ?_)
   refine wp_region_lit ?_
   refine q0 hf hM [8, 7, 6, 3] [{ sp := true }, { os := [.ex (iV (([x, y] : List Int).getD (1 : Int).toNat 0))], hint := some (iV y) }, {}] (nw := [(5, eI y)]) (ob := [(0 : Int) ≤ 1 ∧ 1 < (2 : Int), (av : Option Addr).isSome = true, w.cell? ((sa av : Addr).add ((1 : Int).toNat * 1)) = some (iV (([x, y] : List Int).getD (1 : Int).toNat 0)), (iV (([x, y] : List Int).getD (1 : Int).toNat 0) : Value) = (iV y : Value)]) (Ac (by first | omega | (simp; done)) (Ac ((hav.keepNn hk0).some_ (by first | omega | (simp; done))) (Ac ((hav.keepNn hk0).get0 (fun _ => rfl) (by first | omega | (simp; done)) rfl) (Ao rfl)))) ?_
   clear hf; intro a hf
   refine wpList_nil ?_
   refine hK14 _ _ ?_
   refine wp_seq_k (fun K15 hK15 => ?_)
   refine wp_region_lit ?_
   refine q0 hf hM [5, 8, 7, 6, 3] [{}, {}, {}] (nw := [(14, eB ((y : Int) != 0))]) An ?_
   clear hf; intro a hf
   refine wpList_nil ?_
   refine hK15 _ _ ?_
   refine qc hf (b := ((y : Int) != 0)) (fun hc4r => ?_) (fun hc4r => ?_)
   · have hc4 := (nN hc4r)
     refine wp_seq_k (fun K16 hK16 => ?_)
     refine wp_region_lit ?_
     refine q0 hf hM [] [{}, {}] (nw := [(2, eI y)]) An ?_
     clear hf; intro a hf
     refine wpList_nil ?_
     refine hK16 _ _ ?_
     refine wp_ret ?_
     refine qr (fn := Try.f53) hf hM [] (l := [iV y]) (ob := []) An ?_
     show (iV y : Value) = .int .i64 (orI x y) ∧ Keep Nn w w
     refine ⟨congrArg _ ?_, hk0⟩
     unfold orI
     split <;> first | rfl | omega
   · have hc4 := (nM hc4r)
     refine wp_skip ?_
     refine hK13 _ _ ?_
     refine wp_region_lit ?_
     refine q0 hf hM [7, 6, 3] [{}, {}] (nw := [(8, eI 2)]) An ?_
     clear hf; intro a hf
     refine wpList_nil ?_
     refine hL2 _ _ ?_
     refine sxround (m := 0) fun L3 hL3 => ?_
     refine wp_seq_k (fun K17 hK17 => ?_)
     refine wp_region_lit ?_
     refine q0 hf hM [8, 7, 6, 3] [{}] (nw := [(9, eB false)]) An ?_
     clear hf; intro a hf
     refine wpList_nil ?_
     refine hK17 _ _ ?_
     refine wp_seq_k (fun K18 hK18 => ?_)
     refine sxcond hf (b := false) (by kernel_rfl) (fun h => by cases h) (fun _ => ?_)
     refine wp_exit ?_
     refine hK3 _ _ ?_
     refine wp_seq_k (fun K19 hK19 => ?_)
     refine wp_region_lit ?_
     refine q0 hf hM [] [{}, {}] (nw := [(2, eI 0)]) An ?_
     clear hf; intro a hf
     refine wpList_nil ?_
     refine hK19 _ _ ?_
     refine wp_ret ?_
     refine qr (fn := Try.f53) hf hM [] (l := [iV 0]) (ob := []) An ?_
     show (iV 0 : Value) = .int .i64 (orI x y) ∧ Keep Nn w w
     refine ⟨congrArg _ ?_, hk0⟩
     unfold orI
     split <;> first | rfl | omega

set_option maxRecDepth 10000 in
set_option maxHeartbeats 1600000 in
theorem ocompare (xi xg yi yg : Int) (w : World) :
    Calls Try.prog 34 #[.agg #[iV xi, iV xg], .agg #[iV yi, iV yg]] w (Ret fun v w' => v = .int .i64 (cmpH ⟨xi, xg⟩ ⟨yi, yg⟩) ∧ Keep Nn w w') := by
 refine sxenter (n := 17) (args := [.agg #[iV xi, iV xg], .agg #[iV yi, iV yg]]) Try.func34 rfl rfl rfl fun a hf => ?_
 replace hf : Fr 17 [(0, .val (.agg #[iV xi, iV xg])), (1, .val (.agg #[iV yi, iV yg]))] a := hf
 have hM : MemOk [] w := MemOk.nil w
 have hk0 : Keep Nn w w := Keep.refl _ _
 refine wp_seq_k (fun K1 hK1 => ?_)
 refine wp_region_lit ?_
 refine q1 hf hM [] [{ os := [.nw] }, { os := [.nw] }, {}] (nw := fun B1 => [(4, eI 0), (3, eP (B1 + 1) 0), (2, eP B1 0)]) (M' := fun B1 => [⟨B1, 28, [iV xi, iV xg]⟩, ⟨B1 + 1, 28, [iV yi, iV yg]⟩]) (ob := fun B1 => []) (fun B1 => An) ?_
 clear hf hM; intro a w1 B1 hf hM hB hk
 have hbB1 : w.heap.size ≤ B1 := by have := hk0.size; omega
 have hk0 := hk0.then hk (by intro i _ h; cases h)
 clear hk hB
 refine wpList_nil ?_
 refine hK1 _ _ ?_
 refine wp_seq_k (fun K2 hK2 => ?_)
 replace hM := hM.drew; replace hk0 := hk0.drew
 obtain ⟨C1, hC1i, hC1e⟩ := qcls fun w' => MemOk [⟨B1, 28, [iV xi, iV xg]⟩, ⟨B1 + 1, 28, [iV yi, iV yg]⟩] w' ∧ Keep Nn w w' ∧ True
 refine sxdraw (C := C1) (.leaf [(0, true), (1, true), (2, true), (3, true), (5, true), (6, true), (7, true), (8, true), (4, false), (9, false), (10, false), (11, false), (12, true)]) (by kernel_rfl) (by kernel_rfl) (by as_aux_lemma => kernel_rfl) rfl (by as_aux_lemma => kernel_rfl) (by kernel_rfl) (hC1i _ ⟨hM.sub (.cons_cons _ (.cons_cons _ .slnil)), hk0, trivial⟩) ?_
 refine sxleaf ?_
 have hC := (hC1i _ ⟨hM.sub (.cons_cons _ (.cons_cons _ .slnil)), hk0, trivial⟩)
 refine qd hf hC (fun w' h => (hC1e w' h).1) [4] [{}, { os := [.ld 0 0] }, {}, { os := [.ld 1 0] }, {}, { os := [.ld 0 1] }, {}, { os := [.ld 1 1] }] (nw := [(13, eI yg), (11, eI xg), (8, eI yi), (6, eI xi)]) (ob := [Ad B1 0, Ad (B1 + 1) 0, Ad B1 1, Ad (B1 + 1) 1]) (Ac (ad _ _) (Ac (ad _ _) (Ac (ad _ _) (Ao (ad _ _))))) ?_
 clear hf; intro a hf
 refine scstep rfl ?_
 refine sxcall hf rfl rfl rfl rfl (g := 45) (vs := [iV xi, iV yi]) (ob := []) (by as_aux_lemma => kernel_rfl) An enters45 (compare_int xi yi w1.drew  ) ?_
 clear hf; rintro _ w2 a ⟨rfl, hk⟩ hf
 have hM := hM.keepNn hk
 have hk0 := hk0.trans hk.nn
 clear hk
 have hC := (hC1i _ ⟨hM.sub (.cons_cons _ (.cons_cons _ .slnil)), hk0, trivial⟩)
 refine scdone hC ?_
 refine scstep rfl ?_
 refine sxcall hf rfl rfl rfl rfl (g := 45) (vs := [iV xg, iV yg]) (ob := []) (by as_aux_lemma => kernel_rfl) An enters45 (compare_int xg yg w2  ) ?_
 clear hf; rintro _ w3 a ⟨rfl, hk⟩ hf
 have hM := hM.keepNn hk
 have hk0 := hk0.trans hk.nn
 clear hk
 have hC := (hC1i _ ⟨hM.sub (.cons_cons _ (.cons_cons _ .slnil)), hk0, trivial⟩)
 refine scdone hC ?_
 refine scstep rfl ?_
 refine sxbslice hf hM (t := 43) (e := 3) (len := 2) (cs := [iV (cmpN xi yi), iV (cmpN xg yg)]) (ob := []) rfl rfl rfl rfl (by as_aux_lemma => kernel_rfl) An (by as_aux_lemma => kernel_rfl) ?_
 clear hf hM; intro a w4 B2 hf hM hB hk
 replace hM : MemOk [⟨B1, 28, [iV xi, iV xg]⟩, ⟨B1 + 1, 28, [iV yi, iV yg]⟩, ⟨B2, 3, [iV (cmpN xi yi), iV (cmpN xg yg)]⟩] w4 := hM
 have hbB2 : w.heap.size ≤ B2 := by have := hk0.size; omega
 have hk0 := hk0.trans hk.nn
 clear hk hB
 have hC := (hC1i _ ⟨hM.sub (.cons_cons _ (.cons_cons _ (.cons _ .slnil))), hk0, trivial⟩)
 refine scdone hC ?_
 refine scstep rfl ?_
 refine sxcall hf rfl rfl rfl rfl (g := 53) (vs := [.slice (some ⟨B2, 0, none⟩) 2 2]) (ob := []) (by as_aux_lemma => kernel_rfl) An enters53 (or2 (some ⟨B2, 0, none⟩) (cmpN xi yi) (cmpN xg yg) 2 w4  (Arr.of_memT (sz := 1) (f := fI) (L := ([(cmpN xi yi), (cmpN xg yg)] : List Int)) (l := ([(cmpN xi yi), (cmpN xg yg)] : List Int)) hM (List.Mem.tail _ (List.Mem.tail _ (List.Mem.head _))) (fun _ => rfl) rfl rfl)) ?_
 clear hf; rintro _ w5 a ⟨rfl, hk⟩ hf
 have hM := hM.keepNn hk
 have hk0 := hk0.trans hk.nn
 clear hk
 have hC := (hC1i _ ⟨hM.sub (.cons_cons _ (.cons_cons _ (.cons _ .slnil))), hk0, trivial⟩)
 refine scdone hC ?_
 refine qd hf hC (fun w' h => (hC1e w' h).1) [] [{}] (nw := [(4, eI (orI (cmpN xi yi) (cmpN xg yg)))]) An ?_
 clear hf; intro a hf
 clear hC
 show K2 _ _
 refine hK2 _ _ ?_
 refine wp_ret ?_
 refine qr (fn := Try.f34) hf hM [] (l := [iV (orI (cmpN xi yi) (cmpN xg yg))]) (ob := []) An ?_
 show (iV (orI (cmpN xi yi) (cmpN xg yg)) : Value) = .int .i64 (cmpH ⟨xi, xg⟩ ⟨yi, yg⟩) ∧ Keep Nn w w5
 exact ⟨rfl, hk0⟩

set_option maxRecDepth 10000 in
set_option maxHeartbeats 1600000 in
theorem oless (xi xg yi yg : Int) (w : World) :
    Calls Try.prog 17 #[.agg #[iV xi, iV xg], .agg #[iV yi, iV yg]] w (Ret fun v w' => v = .bool (ltH ⟨xi, xg⟩ ⟨yi, yg⟩) ∧ Keep Nn w w') := by
 refine sxenter (n := 9) (args := [.agg #[iV xi, iV xg], .agg #[iV yi, iV yg]]) Try.func17 rfl rfl rfl fun a hf => ?_
 replace hf : Fr 9 [(0, .val (.agg #[iV xi, iV xg])), (1, .val (.agg #[iV yi, iV yg]))] a := hf
 have hM : MemOk [] w := MemOk.nil w
 have hk0 : Keep Nn w w := Keep.refl _ _
 refine wp_seq_k (fun K1 hK1 => ?_)
 refine wp_region_lit ?_
 refine q1 hf hM [] [{ os := [.nw] }, { os := [.nw] }, {}] (nw := fun B1 => [(3, eP (B1 + 1) 0), (2, eP B1 0)]) (M' := fun B1 => [⟨B1, 28, [iV xi, iV xg]⟩, ⟨B1 + 1, 28, [iV yi, iV yg]⟩]) (ob := fun B1 => []) (fun B1 => An) ?_
 clear hf hM; intro a w1 B1 hf hM hB hk
 have hbB1 : w.heap.size ≤ B1 := by have := hk0.size; omega
 have hk0 := hk0.then hk (by intro i _ h; cases h)
 clear hk hB
 refine wpList_nil ?_
 refine hK1 _ _ ?_
 refine wp_seq_k (fun K2 hK2 => ?_)
 refine wp_region_lit ?_
 refine q0 hf hM [] [{ os := [.ld 0 0, .ld 0 1] }, { os := [.ld 1 0, .ld 1 1] }] (nw := [(6, .val (.agg #[iV yi, iV yg])), (5, .val (.agg #[iV xi, iV xg]))]) (ob := [Ad B1 0, Ad B1 1, Ad (B1 + 1) 0, Ad (B1 + 1) 1]) (Ac (ad _ _) (Ac (ad _ _) (Ac (ad _ _) (Ao (ad _ _))))) ?_
 clear hf; intro a hf
 refine sxcall hf rfl rfl rfl rfl (g := 34) (vs := [.agg #[iV xi, iV xg], .agg #[iV yi, iV yg]]) (ob := []) (by as_aux_lemma => kernel_rfl) An enters34 (ocompare xi xg yi yg w1  ) ?_
 clear hf; rintro _ w2 a ⟨rfl, hk⟩ hf
 have hM := hM.keepNn hk
 have hk0 := hk0.trans hk.nn
 clear hk
 refine q0 hf hM [] [{}, {}] (nw := [(4, eB (decide (((cmpH ⟨xi, xg⟩ ⟨yi, yg⟩) : Int) < 0)))]) An ?_
 clear hf; intro a hf
 refine wpList_nil ?_
 refine hK2 _ _ ?_
 refine wp_ret ?_
 refine qr (fn := Try.f17) hf hM [] (l := [bV (decide (((cmpH ⟨xi, xg⟩ ⟨yi, yg⟩) : Int) < 0))]) (ob := []) An ?_
 show (bV (decide (((cmpH ⟨xi, xg⟩ ⟨yi, yg⟩) : Int) < 0)) : Value) = .bool (ltH ⟨xi, xg⟩ ⟨yi, yg⟩) ∧ Keep Nn w w2
 refine ⟨congrArg Value.bool ?_, hk0⟩
 rw [Bool.eq_iff_iff, decide_eq_true_iff]
 exact cmpH_neg _ _

set_option maxRecDepth 10000 in
set_option maxHeartbeats 1600000 in
theorem rless (xi xg yi yg : Int) (w : World) :
    Calls Try.prog 18 #[.agg #[iV xi, iV xg], .agg #[iV yi, iV yg]] w (Ret fun v w' => v = .bool (ltH ⟨xi, xg⟩ ⟨yi, yg⟩) ∧ Keep Nn w w') := by
 refine sxenter (n := 24) (args := [.agg #[iV xi, iV xg], .agg #[iV yi, iV yg]]) Try.func18 rfl rfl rfl fun a hf => ?_
 replace hf : Fr 24 [(0, .val (.agg #[iV xi, iV xg])), (1, .val (.agg #[iV yi, iV yg]))] a := hf
 have hM : MemOk [] w := MemOk.nil w
 have hk0 : Keep Nn w w := Keep.refl _ _
 refine wp_seq_k (fun K1 hK1 => ?_)
 refine wp_region_lit ?_
 refine q1 hf hM [] [{ os := [.nw] }, { os := [.nw] }, {}] (nw := fun B1 => [(3, eP (B1 + 1) 0), (2, eP B1 0)]) (M' := fun B1 => [⟨B1, 28, [iV xi, iV xg]⟩, ⟨B1 + 1, 28, [iV yi, iV yg]⟩]) (ob := fun B1 => []) (fun B1 => An) ?_
 clear hf hM; intro a w1 B1 hf hM hB hk
 have hbB1 : w.heap.size ≤ B1 := by have := hk0.size; omega
 have hk0 := hk0.then hk (by intro i _ h; cases h)
 clear hk hB
 refine wpList_nil ?_
 refine hK1 _ _ ?_
 refine wp_seq_k (fun K2 hK2 => ?_)
 refine wp_region_lit ?_
 refine q0 hf hM [3, 2] [{}, { os := [.ld 0 0] }, {}, { os := [.ld 1 0] }, {}, {}] (nw := [(10, eB (decide ((xi : Int) < yi)))]) (ob := [Ad B1 0, Ad (B1 + 1) 0]) (Ac (ad _ _) (Ao (ad _ _))) ?_
 clear hf; intro a hf
 rcases Bool.eq_false_or_eq_true (decide ((xi : Int) < yi)) with hg1r | hg1r
 · have hg1 := (nT hg1r)
   have hf := hf.setb 10 hg1r
   refine q0 hf hM [] [{ g := .off }, { g := .off }, { g := .off }, { g := .off }, { g := .off }, { g := .off }, { g := .off }, { g := .off }, { g := .off }, { g := .off }, { g := .off }, { g := .off }, {}, {}] (nw := [(4, eB true)]) (ob := [true = !false, true = !false, true = !false, true = !false, true = !false, true = !false, true = !false]) (Ac rfl (Ac rfl (Ac rfl (Ac rfl (Ac rfl (Ac rfl (Ao rfl))))))) ?_
   clear hf; intro a hf
   refine wpList_nil ?_
   refine hK2 _ _ ?_
   refine wp_ret ?_
   refine qr (fn := Try.f18) hf hM [] (l := [bV true]) (ob := []) An ?_
   show (bV true : Value) = .bool (ltH ⟨xi, xg⟩ ⟨yi, yg⟩) ∧ Keep Nn w w1
   refine ⟨congrArg Value.bool ?_, hk0⟩
   rw [Bool.eq_iff_iff]
   simp only [ltH, Bool.or_eq_true, Bool.and_eq_true, Bool.not_eq_true', Bool.not_eq_false', Bool.or_eq_false_iff, Bool.and_eq_false_iff, decide_eq_true_eq, decide_eq_false_iff_not, beq_iff_eq, Bool.false_eq_true, Bool.true_eq_false, false_iff, true_iff, iff_true, iff_false, not_true, not_false_iff, true_and, and_true, false_and, and_false, ge_iff_le, gt_iff_lt] at *
   try omega
 · have hg1 := (nU hg1r)
   have hf := hf.setb 10 hg1r
   refine q0 hf hM [10, 3, 2] [{}, { os := [.ld 0 0] }, {}, { os := [.ld 1 0] }, {}, {}] (nw := [(16, eB ((xi : Int) == yi))]) (ob := [false = false, false = false, Ad B1 0, false = false, false = false, Ad (B1 + 1) 0, false = false, false = false]) (Ac rfl (Ac rfl (Ac (ad _ _) (Ac rfl (Ac rfl (Ac (ad _ _) (Ac rfl (Ao rfl)))))))) ?_
   clear hf; intro a hf
   rcases Bool.eq_false_or_eq_true ((xi : Int) == yi) with hg2r | hg2r
   · have hg2 := (nE hg2r)
     have hf := hf.setb 16 hg2r
     refine q0 hf hM [] [{}, { os := [.ld 0 1] }, {}, { os := [.ld 1 1] }, {}, {}, {}, {}] (nw := [(4, eB (decide ((xg : Int) < yg)))]) (ob := [true = true, true = true, Ad B1 1, true = true, true = true, Ad (B1 + 1) 1, true = true, false = false]) (Ac rfl (Ac rfl (Ac (ad _ _) (Ac rfl (Ac rfl (Ac (ad _ _) (Ac rfl (Ao rfl)))))))) ?_
     clear hf; intro a hf
     refine wpList_nil ?_
     refine hK2 _ _ ?_
     refine wp_ret ?_
     refine qr (fn := Try.f18) hf hM [] (l := [bV (decide ((xg : Int) < yg))]) (ob := []) An ?_
     show (bV (decide ((xg : Int) < yg)) : Value) = .bool (ltH ⟨xi, xg⟩ ⟨yi, yg⟩) ∧ Keep Nn w w1
     refine ⟨congrArg Value.bool ?_, hk0⟩
     rw [Bool.eq_iff_iff]
     simp only [ltH, Bool.or_eq_true, Bool.and_eq_true, Bool.not_eq_true', Bool.not_eq_false', Bool.or_eq_false_iff, Bool.and_eq_false_iff, decide_eq_true_eq, decide_eq_false_iff_not, beq_iff_eq, Bool.false_eq_true, Bool.true_eq_false, false_iff, true_iff, iff_true, iff_false, not_true, not_false_iff, true_and, and_true, false_and, and_false, ge_iff_le, gt_iff_lt] at *
     try omega
   · have hg2 := (nF hg2r)
     have hf := hf.setb 16 hg2r
     refine q0 hf hM [] [{ g := .off }, { g := .off }, { g := .off }, { g := .off }, { g := .off }, {}, {}, {}] (nw := [(4, eB false)]) (ob := [false = !true, false = !true, false = !true, false = !true, false = !true, false = false]) (Ac rfl (Ac rfl (Ac rfl (Ac rfl (Ac rfl (Ao rfl)))))) ?_
     clear hf; intro a hf
     refine wpList_nil ?_
     refine hK2 _ _ ?_
     refine wp_ret ?_
     refine qr (fn := Try.f18) hf hM [] (l := [bV false]) (ob := []) An ?_
     show (bV false : Value) = .bool (ltH ⟨xi, xg⟩ ⟨yi, yg⟩) ∧ Keep Nn w w1
     refine ⟨congrArg Value.bool ?_, hk0⟩
     rw [Bool.eq_iff_iff]
     simp only [ltH, Bool.or_eq_true, Bool.and_eq_true, Bool.not_eq_true', Bool.not_eq_false', Bool.or_eq_false_iff, Bool.and_eq_false_iff, decide_eq_true_eq, decide_eq_false_iff_not, beq_iff_eq, Bool.false_eq_true, Bool.true_eq_false, false_iff, true_iff, iff_true, iff_false, not_true, not_false_iff, true_and, and_true, false_and, and_false, ge_iff_le, gt_iff_lt] at *
     try omega

set_option maxRecDepth 10000 in
set_option maxHeartbeats 1600000 in
theorem ocompareP (xi xg yi yg ui ug vi vg : Int) (w : World) :
    Calls Try.prog 37 #[.agg #[iV xi, iV xg, iV yi, iV yg], .agg #[iV ui, iV ug, iV vi, iV vg]] w (Ret fun v w' => v = .int .i64 (cmpP ⟨⟨xi, xg⟩, ⟨yi, yg⟩⟩ ⟨⟨ui, ug⟩, ⟨vi, vg⟩⟩) ∧ Keep Nn w w') := by
 refine sxenter (n := 17) (args := [.agg #[iV xi, iV xg, iV yi, iV yg], .agg #[iV ui, iV ug, iV vi, iV vg]]) Try.func37 rfl rfl rfl fun a hf => ?_
 replace hf : Fr 17 [(0, .val (.agg #[iV xi, iV xg, iV yi, iV yg])), (1, .val (.agg #[iV ui, iV ug, iV vi, iV vg]))] a := hf
 have hM : MemOk [] w := MemOk.nil w
 have hk0 : Keep Nn w w := Keep.refl _ _
 refine wp_seq_k (fun K1 hK1 => ?_)
 refine wp_region_lit ?_
 refine q1 hf hM [] [{ os := [.nw] }, { os := [.nw] }, {}] (nw := fun B1 => [(4, eI 0), (3, eP (B1 + 1) 0), (2, eP B1 0)]) (M' := fun B1 => [⟨B1, 31, [iV xi, iV xg, iV yi, iV yg]⟩, ⟨B1 + 1, 31, [iV ui, iV ug, iV vi, iV vg]⟩]) (ob := fun B1 => []) (fun B1 => An) ?_
 clear hf hM; intro a w1 B1 hf hM hB hk
 have hbB1 : w.heap.size ≤ B1 := by have := hk0.size; omega
 have hk0 := hk0.then hk (by intro i _ h; cases h)
 clear hk hB
 refine wpList_nil ?_
 refine hK1 _ _ ?_
 refine wp_seq_k (fun K2 hK2 => ?_)
 replace hM := hM.drew; replace hk0 := hk0.drew
 obtain ⟨C1, hC1i, hC1e⟩ := qcls fun w' => MemOk [⟨B1, 31, [iV xi, iV xg, iV yi, iV yg]⟩, ⟨B1 + 1, 31, [iV ui, iV ug, iV vi, iV vg]⟩] w' ∧ Keep Nn w w' ∧ True
 refine sxdraw (C := C1) (.leaf [(0, true), (1, true), (2, true), (3, true), (5, true), (6, true), (7, true), (8, true), (4, false), (9, false), (10, false), (11, false), (12, true)]) (by kernel_rfl) (by kernel_rfl) (by as_aux_lemma => kernel_rfl) rfl (by as_aux_lemma => kernel_rfl) (by kernel_rfl) (hC1i _ ⟨hM.sub (.cons_cons _ (.cons_cons _ .slnil)), hk0, trivial⟩) ?_
 refine sxleaf ?_
 have hC := (hC1i _ ⟨hM.sub (.cons_cons _ (.cons_cons _ .slnil)), hk0, trivial⟩)
 refine qd hf hC (fun w' h => (hC1e w' h).1) [4] [{}, { os := [.ld 0 0, .ld 0 1] }, {}, { os := [.ld 1 0, .ld 1 1] }, {}, { os := [.ld 0 2, .ld 0 3] }, {}, { os := [.ld 1 2, .ld 1 3] }] (nw := [(13, .val (.agg #[iV vi, iV vg])), (11, .val (.agg #[iV yi, iV yg])), (8, .val (.agg #[iV ui, iV ug])), (6, .val (.agg #[iV xi, iV xg]))]) (ob := [Ad B1 0, Ad B1 1, Ad (B1 + 1) 0, Ad (B1 + 1) 1, Ad B1 2, Ad B1 3, Ad (B1 + 1) 2, Ad (B1 + 1) 3]) (Ac (ad _ _) (Ac (ad _ _) (Ac (ad _ _) (Ac (ad _ _) (Ac (ad _ _) (Ac (ad _ _) (Ac (ad _ _) (Ao (ad _ _))))))))) ?_
 clear hf; intro a hf
 refine scstep rfl ?_
 refine sxcall hf rfl rfl rfl rfl (g := 34) (vs := [.agg #[iV xi, iV xg], .agg #[iV ui, iV ug]]) (ob := []) (by as_aux_lemma => kernel_rfl) An enters34 (ocompare xi xg ui ug w1.drew  ) ?_
 clear hf; rintro _ w2 a ⟨rfl, hk⟩ hf
 have hM := hM.keepNn hk
 have hk0 := hk0.trans hk.nn
 clear hk
 have hC := (hC1i _ ⟨hM.sub (.cons_cons _ (.cons_cons _ .slnil)), hk0, trivial⟩)
 refine scdone hC ?_
 refine scstep rfl ?_
 refine sxcall hf rfl rfl rfl rfl (g := 34) (vs := [.agg #[iV yi, iV yg], .agg #[iV vi, iV vg]]) (ob := []) (by as_aux_lemma => kernel_rfl) An enters34 (ocompare yi yg vi vg w2  ) ?_
 clear hf; rintro _ w3 a ⟨rfl, hk⟩ hf
 have hM := hM.keepNn hk
 have hk0 := hk0.trans hk.nn
 clear hk
 have hC := (hC1i _ ⟨hM.sub (.cons_cons _ (.cons_cons _ .slnil)), hk0, trivial⟩)
 refine scdone hC ?_
 refine scstep rfl ?_
 refine sxbslice hf hM (t := 43) (e := 3) (len := 2) (cs := [iV (cmpH ⟨xi, xg⟩ ⟨ui, ug⟩), iV (cmpH ⟨yi, yg⟩ ⟨vi, vg⟩)]) (ob := []) rfl rfl rfl rfl (by as_aux_lemma => kernel_rfl) An (by as_aux_lemma => kernel_rfl) ?_
 clear hf hM; intro a w4 B2 hf hM hB hk
 replace hM : MemOk [⟨B1, 31, [iV xi, iV xg, iV yi, iV yg]⟩, ⟨B1 + 1, 31, [iV ui, iV ug, iV vi, iV vg]⟩, ⟨B2, 3, [iV (cmpH ⟨xi, xg⟩ ⟨ui, ug⟩), iV (cmpH ⟨yi, yg⟩ ⟨vi, vg⟩)]⟩] w4 := hM
 have hbB2 : w.heap.size ≤ B2 := by have := hk0.size; omega
 have hk0 := hk0.trans hk.nn
 clear hk hB
 have hC := (hC1i _ ⟨hM.sub (.cons_cons _ (.cons_cons _ (.cons _ .slnil))), hk0, trivial⟩)
 refine scdone hC ?_
 refine scstep rfl ?_
 refine sxcall hf rfl rfl rfl rfl (g := 53) (vs := [.slice (some ⟨B2, 0, none⟩) 2 2]) (ob := []) (by as_aux_lemma => kernel_rfl) An enters53 (or2 (some ⟨B2, 0, none⟩) (cmpH ⟨xi, xg⟩ ⟨ui, ug⟩) (cmpH ⟨yi, yg⟩ ⟨vi, vg⟩) 2 w4  (Arr.of_memT (sz := 1) (f := fI) (L := ([(cmpH ⟨xi, xg⟩ ⟨ui, ug⟩), (cmpH ⟨yi, yg⟩ ⟨vi, vg⟩)] : List Int)) (l := ([(cmpH ⟨xi, xg⟩ ⟨ui, ug⟩), (cmpH ⟨yi, yg⟩ ⟨vi, vg⟩)] : List Int)) hM (List.Mem.tail _ (List.Mem.tail _ (List.Mem.head _))) (fun _ => rfl) rfl rfl)) ?_
 clear hf; rintro _ w5 a ⟨rfl, hk⟩ hf
 have hM := hM.keepNn hk
 have hk0 := hk0.trans hk.nn
 clear hk
 have hC := (hC1i _ ⟨hM.sub (.cons_cons _ (.cons_cons _ (.cons _ .slnil))), hk0, trivial⟩)
 refine scdone hC ?_
 refine qd hf hC (fun w' h => (hC1e w' h).1) [] [{}] (nw := [(4, eI (orI (cmpH ⟨xi, xg⟩ ⟨ui, ug⟩) (cmpH ⟨yi, yg⟩ ⟨vi, vg⟩)))]) An ?_
 clear hf; intro a hf
 clear hC
 show K2 _ _
 refine hK2 _ _ ?_
 refine wp_ret ?_
 refine qr (fn := Try.f37) hf hM [] (l := [iV (orI (cmpH ⟨xi, xg⟩ ⟨ui, ug⟩) (cmpH ⟨yi, yg⟩ ⟨vi, vg⟩))]) (ob := []) An ?_
 show (iV (orI (cmpH ⟨xi, xg⟩ ⟨ui, ug⟩) (cmpH ⟨yi, yg⟩ ⟨vi, vg⟩)) : Value) = .int .i64 (cmpP ⟨⟨xi, xg⟩, ⟨yi, yg⟩⟩ ⟨⟨ui, ug⟩, ⟨vi, vg⟩⟩) ∧ Keep Nn w w5
 exact ⟨rfl, hk0⟩

set_option maxRecDepth 10000 in
set_option maxHeartbeats 1600000 in
theorem rlessP (xi xg yi yg ui ug vi vg : Int) (w : World) :
    Calls Try.prog 38 #[.agg #[iV xi, iV xg, iV yi, iV yg], .agg #[iV ui, iV ug, iV vi, iV vg]] w (Ret fun v w' => v = .bool (ltP ⟨⟨xi, xg⟩, ⟨yi, yg⟩⟩ ⟨⟨ui, ug⟩, ⟨vi, vg⟩⟩) ∧ Keep Nn w w') := by
 refine sxenter (n := 24) (args := [.agg #[iV xi, iV xg, iV yi, iV yg], .agg #[iV ui, iV ug, iV vi, iV vg]]) Try.func38 rfl rfl rfl fun a hf => ?_
 replace hf : Fr 24 [(0, .val (.agg #[iV xi, iV xg, iV yi, iV yg])), (1, .val (.agg #[iV ui, iV ug, iV vi, iV vg]))] a := hf
 have hM : MemOk [] w := MemOk.nil w
 have hk0 : Keep Nn w w := Keep.refl _ _
 refine wp_seq_k (fun K1 hK1 => ?_)
 refine wp_region_lit ?_
 refine q1 hf hM [] [{ os := [.nw] }, { os := [.nw] }, {}] (nw := fun B1 => [(3, eP (B1 + 1) 0), (2, eP B1 0)]) (M' := fun B1 => [⟨B1, 31, [iV xi, iV xg, iV yi, iV yg]⟩, ⟨B1 + 1, 31, [iV ui, iV ug, iV vi, iV vg]⟩]) (ob := fun B1 => []) (fun B1 => An) ?_
 clear hf hM; intro a w1 B1 hf hM hB hk
 have hbB1 : w.heap.size ≤ B1 := by have := hk0.size; omega
 have hk0 := hk0.then hk (by intro i _ h; cases h)
 clear hk hB
 refine wpList_nil ?_
 refine hK1 _ _ ?_
 refine wp_seq_k (fun K2 hK2 => ?_)
 refine wp_region_lit ?_
 refine q0 hf hM [3, 2] [{}, { os := [.ld 0 0, .ld 0 1] }, {}, { os := [.ld 1 0, .ld 1 1] }] (nw := [(8, .val (.agg #[iV ui, iV ug])), (6, .val (.agg #[iV xi, iV xg]))]) (ob := [Ad B1 0, Ad B1 1, Ad (B1 + 1) 0, Ad (B1 + 1) 1]) (Ac (ad _ _) (Ac (ad _ _) (Ac (ad _ _) (Ao (ad _ _))))) ?_
 clear hf; intro a hf
 refine sxcall hf rfl rfl rfl rfl (g := 18) (vs := [.agg #[iV xi, iV xg], .agg #[iV ui, iV ug]]) (ob := []) (by as_aux_lemma => kernel_rfl) An enters18 (rless xi xg ui ug w1  ) ?_
 clear hf; rintro _ w2 a ⟨rfl, hk⟩ hf
 have hM := hM.keepNn hk
 have hk0 := hk0.trans hk.nn
 clear hk
 refine q0 hf hM [3, 2] [{}] (nw := [(10, eB (ltH ⟨xi, xg⟩ ⟨ui, ug⟩))]) An ?_
 clear hf; intro a hf
 rcases Bool.eq_false_or_eq_true (ltH ⟨xi, xg⟩ ⟨ui, ug⟩) with hg1r | hg1r
 · have hg1 := hg1r
   have hf := hf.setb 10 hg1r
   refine q0 hf hM [10] [{ g := .off }, { g := .off }, { g := .off }, { g := .off }, { g := .off }, { g := .off }, { g := .off }, { g := .off }, { g := .off }, { g := .off }] (nw := [(20, .val (undef)), (18, .val (undef)), (16, .val (undef))]) (ob := [true = !false, true = !false, true = !false, true = !false, true = !false, true = !false]) (Ac rfl (Ac rfl (Ac rfl (Ac rfl (Ac rfl (Ao rfl)))))) ?_
   clear hf; intro a hf
   refine q0 hf hM [] [{ g := .off }, { g := .off }, {}, {}] (nw := [(4, eB true)]) (ob := [true = !false]) (Ao rfl) ?_
   clear hf; intro a hf
   refine wpList_nil ?_
   refine hK2 _ _ ?_
   refine wp_ret ?_
   refine qr (fn := Try.f38) hf hM [] (l := [bV true]) (ob := []) An ?_
   show (bV true : Value) = .bool (ltP ⟨⟨xi, xg⟩, ⟨yi, yg⟩⟩ ⟨⟨ui, ug⟩, ⟨vi, vg⟩⟩) ∧ Keep Nn w w2
   refine ⟨congrArg Value.bool ?_, hk0⟩
   simp_all [ltP]
 · have hg1 := hg1r
   have hf := hf.setb 10 hg1r
   refine q0 hf hM [10, 3, 2] [{}, { os := [.ld 0 0, .ld 0 1] }, {}, { os := [.ld 1 0, .ld 1 1] }, { sp := true, hint := some (bV (((xi : Int) == ui) && ((xg : Int) == ug))) }, {}] (nw := [(16, eB (((xi : Int) == ui) && ((xg : Int) == ug)))]) (ob := [false = false, false = false, Ad B1 0, Ad B1 1, false = false, false = false, Ad (B1 + 1) 0, Ad (B1 + 1) 1, false = false, (bV (((xi : Int) == ui) && (((xg : Int) == ug) && true)) : Value) = (bV (((xi : Int) == ui) && ((xg : Int) == ug)) : Value), false = false]) (Ac rfl (Ac rfl (Ac (ad _ _) (Ac (ad _ _) (Ac rfl (Ac rfl (Ac (ad _ _) (Ac (ad _ _) (Ac rfl (Ac (by simp) (Ao rfl))))))))))) ?_
   clear hf; intro a hf
   rcases Bool.eq_false_or_eq_true (((xi : Int) == ui) && ((xg : Int) == ug)) with hg2r | hg2r
   · have hg2 := hg2r
     try simp only [Bool.or_eq_true, Bool.and_eq_true, Bool.not_eq_true', Bool.not_eq_false', Bool.or_eq_false_iff, Bool.and_eq_false_iff, decide_eq_true_eq, decide_eq_false_iff_not, beq_iff_eq, bne_iff_ne, beq_eq_false_iff_ne, bne_eq_false_iff_eq, Bool.and_true, Bool.true_and, ne_eq] at hg2
     have hf := hf.setb 16 hg2r
     refine q0 hf hM [16, 10] [{}, { os := [.ld 0 2, .ld 0 3] }, {}, { os := [.ld 1 2, .ld 1 3] }] (nw := [(20, .val (.agg #[iV vi, iV vg])), (18, .val (.agg #[iV yi, iV yg]))]) (ob := [true = true, true = true, Ad B1 2, Ad B1 3, true = true, true = true, Ad (B1 + 1) 2, Ad (B1 + 1) 3]) (Ac rfl (Ac rfl (Ac (ad _ _) (Ac (ad _ _) (Ac rfl (Ac rfl (Ac (ad _ _) (Ao (ad _ _))))))))) ?_
     clear hf; intro a hf
     refine sxcallg hf rfl rfl rfl rfl rfl (g := 18) (vs := [.agg #[iV yi, iV yg], .agg #[iV vi, iV vg]]) (ob := []) (by as_aux_lemma => kernel_rfl) An enters18 (rless yi yg vi vg w2  ) ?_
     clear hf; rintro _ w3 a ⟨rfl, hk⟩ hf
     have hM := hM.keepNn hk
     have hk0 := hk0.trans hk.nn
     clear hk
     refine q0 hf hM [] [{}, {}, {}] (nw := [(4, eB (ltH ⟨yi, yg⟩ ⟨vi, vg⟩))]) (ob := [false = false]) (Ao rfl) ?_
     clear hf; intro a hf
     refine wpList_nil ?_
     refine hK2 _ _ ?_
     refine wp_ret ?_
     refine qr (fn := Try.f38) hf hM [] (l := [bV (ltH ⟨yi, yg⟩ ⟨vi, vg⟩)]) (ob := []) An ?_
     show (bV (ltH ⟨yi, yg⟩ ⟨vi, vg⟩) : Value) = .bool (ltP ⟨⟨xi, xg⟩, ⟨yi, yg⟩⟩ ⟨⟨ui, ug⟩, ⟨vi, vg⟩⟩) ∧ Keep Nn w w3
     refine ⟨congrArg Value.bool ?_, hk0⟩
     simp_all [ltP]
   · have hg2 := hg2r
     try simp only [Bool.or_eq_true, Bool.and_eq_true, Bool.not_eq_true', Bool.not_eq_false', Bool.or_eq_false_iff, Bool.and_eq_false_iff, decide_eq_true_eq, decide_eq_false_iff_not, beq_iff_eq, bne_iff_ne, beq_eq_false_iff_ne, bne_eq_false_iff_eq, Bool.and_true, Bool.true_and, ne_eq] at hg2
     have hf := hf.setb 16 hg2r
     refine q0 hf hM [16, 10] [{ g := .off }, { g := .off }, { g := .off }, { g := .off }] (nw := [(20, .val (undef)), (18, .val (undef))]) (ob := [false = !true, false = !true, false = !true, false = !true]) (Ac rfl (Ac rfl (Ac rfl (Ao rfl)))) ?_
     clear hf; intro a hf
     refine q0 hf hM [] [{ g := .off }, {}, {}, {}] (nw := [(4, eB false)]) (ob := [false = !true, false = false]) (Ac rfl (Ao rfl)) ?_
     clear hf; intro a hf
     refine wpList_nil ?_
     refine hK2 _ _ ?_
     refine wp_ret ?_
     refine qr (fn := Try.f38) hf hM [] (l := [bV false]) (ob := []) An ?_
     show (bV false : Value) = .bool (ltP ⟨⟨xi, xg⟩, ⟨yi, yg⟩⟩ ⟨⟨ui, ug⟩, ⟨vi, vg⟩⟩) ∧ Keep Nn w w2
     refine ⟨congrArg Value.bool ?_, hk0⟩
     simp_all [ltP]
end Go.Proofs.Ytllopoaojchcmaa
