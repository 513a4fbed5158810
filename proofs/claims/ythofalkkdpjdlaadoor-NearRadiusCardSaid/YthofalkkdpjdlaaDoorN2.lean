/- layer 2: lists in order -/
import Derived.Test.YthofalkkdpjdlaaDoorR1
import Derived.Test.YthofalkkdpjdlaaDoorSh
import Derived.Test.YthofalkkdpjdlaaDoorXI
import Derived.Test.YthofalkkdpjdlaaDoorXT
import Derived.Test.YthofalkkdpjdlaaDoorXJ
import Derived.Test.YthofalkkdpjdlaaDoorXpB
namespace Go.Proofs.YthofalkkdpjdlaaDoor
open Go.Px
set_option linter.unusedVariables false
set_option linter.unusedSimpArgs false

set_option maxRecDepth 10000 in
set_option maxHeartbeats 1600000 in
theorem isnan (n : Int) (w : World) :
    Calls Tryd.prog 79 #[iV n] w (Ret fun v w' => v = .bool false ∧ Keep Nn w w') := by
 refine sxenter (n := 6) (args := [iV n]) Tryd.func79 rfl rfl rfl fun a hf => ?_
 replace hf : Fr 6 [(0, eI n)] a := hf
 have hM : MemOk [] w := MemOk.nil w
 have hk0 : Keep Nn w w := Keep.refl _ _
 refine wp_seq_k (fun K1 hK1 => ?_)
 refine wp_region_lit ?_
 refine q0 hf hM [0] [{}] (nw := []) An ?_
 clear hf; intro a hf
 refine wpList_nil ?_
 refine hK1 _ _ ?_
 refine wp_seq_k (fun K2 hK2 => ?_)
 refine wp_region_lit ?_
 refine q0 hf hM [] [{}, {}, { hint := some (bV false) }, {}] (nw := [(2, eB false)]) (ob := [(bV ((n : Int) != n) : Value) = (bV false : Value)]) (Ao (by simp)) ?_
 clear hf; intro a hf
 refine wpList_nil ?_
 refine hK2 _ _ ?_
 refine wp_ret ?_
 refine qr (fn := Tryd.f79) hf hM [] (l := [bV false]) (ob := []) An ?_
 show (bV false : Value) = .bool false ∧ Keep Nn w w
 exact ⟨rfl, hk0⟩

set_option maxRecDepth 10000 in
set_option maxHeartbeats 1600000 in
theorem compare_int (x y : Int) (w : World) :
    Calls Tryd.prog 66 #[iV x, iV y] w (Ret fun v w' => v = .int .i64 (cmpN x y) ∧ Keep Nn w w') := by
 refine sxenter (n := 20) (args := [iV x, iV y]) Tryd.func66 rfl rfl rfl fun a hf => ?_
 replace hf : Fr 20 [(0, eI x), (1, eI y)] a := hf
 have hM : MemOk [] w := MemOk.nil w
 have hk0 : Keep Nn w w := Keep.refl _ _
 refine wp_seq_k (fun K1 hK1 => ?_)
 refine wp_region_lit ?_
 refine q0 hf hM [0, 1] [{}] (nw := []) An ?_
 clear hf; intro a hf
 refine wpList_nil ?_
 refine hK1 _ _ ?_
 refine wp_seq_k (fun K2 hK2 => ?_)
 refine wp_region_lit ?_
 refine q0 hf hM [0, 1] [{}] (nw := [(7, eI x)]) An ?_
 clear hf; intro a hf
 refine sxcall hf rfl rfl rfl rfl (g := 79) (vs := [iV x]) (ob := []) (by as_aux_lemma => kernel_rfl) An enters79 (isnan x w  ) ?_
 clear hf; rintro _ w1 a ⟨rfl, hk⟩ hf
 have hM := hM.keepNn hk
 have hk0 := hk0.trans hk.nn
 clear hk
 refine q0 hf hM [0, 1] [{}] (nw := [(5, eB false)]) An ?_
 clear hf; intro a hf
 refine wpList_nil ?_
 refine hK2 _ _ ?_
 refine wp_seq_k (fun K3 hK3 => ?_)
 refine wp_region_lit ?_
 refine q0 hf hM [5, 0, 1] [{}] (nw := [(9, eI y)]) An ?_
 clear hf; intro a hf
 refine sxcall hf rfl rfl rfl rfl (g := 79) (vs := [iV y]) (ob := []) (by as_aux_lemma => kernel_rfl) An enters79 (isnan y w1  ) ?_
 clear hf; rintro _ w2 a ⟨rfl, hk⟩ hf
 have hM := hM.keepNn hk
 have hk0 := hk0.trans hk.nn
 clear hk
 refine q0 hf hM [5, 0, 1] [{}] (nw := [(6, eB false)]) An ?_
 clear hf; intro a hf
 refine wpList_nil ?_
 refine hK3 _ _ ?_
 refine wp_seq_k (fun K4 hK4 => ?_)
 refine wp_seq_k (fun K5 hK5 => ?_)
 refine wp_region_lit ?_
 refine q0 hf hM [6, 0, 1] [{}] (nw := [(11, eB false)]) An ?_
 clear hf; intro a hf
 refine wpList_nil ?_
 refine hK5 _ _ ?_
 refine sxcond hf (b := false) (by kernel_rfl) (fun h => by cases h) (fun _ => ?_)
 refine wp_skip ?_
 refine hK4 _ _ ?_
 refine wp_seq_k (fun K6 hK6 => ?_)
 refine wp_seq_k (fun K7 hK7 => ?_)
 refine wp_region_lit ?_
 refine q0 hf hM [0, 1] [{}] (nw := [(13, eB false)]) An ?_
 clear hf; intro a hf
 refine wpList_nil ?_
 refine hK7 _ _ ?_
 refine sxcond hf (b := false) (by kernel_rfl) (fun h => by cases h) (fun _ => ?_)
 refine wp_skip ?_
 refine hK6 _ _ ?_
 refine wp_seq_k (fun K8 hK8 => ?_)
 refine wp_seq_k (fun K9 hK9 => ?_)
 refine wp_region_lit ?_
 refine q0 hf hM [0, 1] [{}, {}, {}] (nw := [(16, eB (decide ((x : Int) < y)))]) An ?_
 clear hf; intro a hf
 refine wpList_nil ?_
 refine hK9 _ _ ?_
 refine qc hf (b := (decide ((x : Int) < y))) (fun hc3r => ?_) (fun hc3r => ?_)
 · have hc3 := (nT hc3r)
   refine wp_seq_k (fun K10 hK10 => ?_)
   refine wp_region_lit ?_
   refine q0 hf hM [] [{}] (nw := [(4, eI (-1))]) An ?_
   clear hf; intro a hf
   refine wpList_nil ?_
   refine hK10 _ _ ?_
   refine wp_ret ?_
   refine qr (fn := Tryd.f66) hf hM [] (l := [iV (-1)]) (ob := []) An ?_
   show (iV (-1) : Value) = .int .i64 (cmpN x y) ∧ Keep Nn w w2
   refine ⟨congrArg _ ?_, hk0⟩
   unfold cmpN
   repeat' split
   all_goals first | rfl | omega
 · have hc3 := (nU hc3r)
   refine wp_skip ?_
   refine hK8 _ _ ?_
   refine wp_seq_k (fun K11 hK11 => ?_)
   refine wp_seq_k (fun K12 hK12 => ?_)
   refine wp_region_lit ?_
   refine q0 hf hM [] [{}, {}, {}] (nw := [(19, eB (decide ((x : Int) > y)))]) An ?_
   clear hf; intro a hf
   refine wpList_nil ?_
   refine hK12 _ _ ?_
   refine qc hf (b := (decide ((x : Int) > y))) (fun hc4r => ?_) (fun hc4r => ?_)
   · have hc4 := (nT hc4r)
     refine wp_seq_k (fun K13 hK13 => ?_)
     refine wp_region_lit ?_
     refine q0 hf hM [] [{}] (nw := [(4, eI 1)]) An ?_
     clear hf; intro a hf
     refine wpList_nil ?_
     refine hK13 _ _ ?_
     refine wp_ret ?_
     refine qr (fn := Tryd.f66) hf hM [] (l := [iV 1]) (ob := []) An ?_
     show (iV 1 : Value) = .int .i64 (cmpN x y) ∧ Keep Nn w w2
     refine ⟨congrArg _ ?_, hk0⟩
     unfold cmpN
     repeat' split
     all_goals first | rfl | omega
   · have hc4 := (nU hc4r)
     refine wp_skip ?_
     refine hK11 _ _ ?_
     refine wp_seq_k (fun K14 hK14 => ?_)
     refine wp_region_lit ?_
     refine q0 hf hM [] [{}] (nw := [(4, eI 0)]) An ?_
     clear hf; intro a hf
     refine wpList_nil ?_
     refine hK14 _ _ ?_
     refine wp_ret ?_
     refine qr (fn := Tryd.f66) hf hM [] (l := [iV 0]) (ob := []) An ?_
     show (iV 0 : Value) = .int .i64 (cmpN x y) ∧ Keep Nn w w2
     refine ⟨congrArg _ ?_, hk0⟩
     unfold cmpN
     repeat' split
     all_goals first | rfl | omega

set_option maxRecDepth 10000 in
set_option maxHeartbeats 1600000 in
theorem or2 (av : Option Addr) (x y : Int) (c : Nat) (w : World) (hav : Arr w 1 av 2 c (flat fI ([x, y] : List Int))) :
    Calls Tryd.prog 65 #[.slice av 2 c] w (Ret fun v w' => v = .int .i64 (orI x y) ∧ Keep Nn w w') := by
 refine sxenter (n := 18) (args := [.slice av 2 c]) Tryd.func65 rfl rfl rfl fun a hf => ?_
 replace hf : Fr 18 [(0, eS av 2 c)] a := hf
 have hM : MemOk [] w := MemOk.nil w
 have hk0 : Keep Nn w w := Keep.refl _ _
 refine wp_seq_k (fun K1 hK1 => ?_)
 refine wp_region_lit ?_
 refine q0 hf hM [0] [{}] (nw := []) An ?_
 clear hf; intro a hf
 refine wpList_nil ?_
 refine hK1 _ _ ?_
 refine wp_seq_k (fun K2 hK2 => ?_)
 refine wp_region_lit ?_
 refine q0 hf hM [0] [{}] (nw := [(3, eI 0)]) An ?_
 clear hf; intro a hf
 refine wpList_nil ?_
 refine hK2 _ _ ?_
 refine wp_seq_k (fun K3 hK3 => ?_)
 refine wp_seq_k (fun K4 hK4 => ?_)
 refine wp_region_lit ?_
 refine q0 hf hM [3] [{}, {}, {}] (nw := [(8, eI 0), (7, eI 2), (6, eS av 2 c)]) An ?_
 clear hf; intro a hf
 refine wpList_nil ?_
 refine hK4 _ _ ?_
 refine wp_block ?_
 refine wp_loop_rounds 3 ?_
 refine sxround (m := 2) fun L1 hL1 => ?_
 refine wp_seq_k (fun K5 hK5 => ?_)
 refine wp_region_lit ?_
 refine q0 hf hM [8, 7, 6, 3] [{}] (nw := [(9, eB true)]) An ?_
 clear hf; intro a hf
 refine wpList_nil ?_
 refine hK5 _ _ ?_
 refine wp_seq_k (fun K6 hK6 => ?_)
 refine sxcond hf (b := true) (by kernel_rfl) (fun _ => ?_) (fun h => by cases h)
 refine wp_skip ?_
 refine hK6 _ _ ?_
 refine wp_seq_k (fun K7 hK7 => ?_)
 refine wp_block ?_
 refine wp_seq_k (fun K8 hK8 => ?_)
 refine wp_region_lit ?_
 refine q0 hf hM [8, 7, 6, 3] [{ sp := true }, { os := [.ex (iV (([x, y] : List Int).getD (0 : Int).toNat 0))], hint := some (iV x) }, {}] (nw := [(5, eI x)]) (ob := [(0 : Int) ≤ 0 ∧ 0 < (2 : Int), (av : Option Addr).isSome = true, w.cell? ((sa av : Addr).add ((0 : Int).toNat * 1)) = some (iV (([x, y] : List Int).getD (0 : Int).toNat 0)), (iV (([x, y] : List Int).getD (0 : Int).toNat 0) : Value) = (iV x : Value)]) (Ac (by first | omega | (simp; done)) (Ac ((hav.keepNn hk0).some_ (by first | omega | (simp; done))) (Ac ((hav.keepNn hk0).get0 (fun _ => rfl) (by first | omega | (simp; done)) rfl) (Ao rfl)))) ?_
 clear hf; intro a hf
 refine wpList_nil ?_
 refine hK8 _ _ ?_
 refine wp_seq_k (fun K9 hK9 => ?_)
 refine wp_region_lit ?_
 refine q0 hf hM [5, 8, 7, 6, 3] [{}, {}, {}] (nw := [(14, eB ((x : Int) != 0))]) An ?_
 clear hf; intro a hf
 refine wpList_nil ?_
 refine hK9 _ _ ?_
 refine qc hf (b := ((x : Int) != 0)) (fun hc2r => ?_) (fun hc2r => ?_)
 · have hc2 := (nN hc2r)
   refine wp_seq_k (fun K10 hK10 => ?_)
   refine wp_region_lit ?_
   refine q0 hf hM [] [{}, {}] (nw := [(2, eI x)]) An ?_
   clear hf; intro a hf
   refine wpList_nil ?_
   refine hK10 _ _ ?_
   refine wp_ret ?_
   refine qr (fn := Tryd.f65) hf hM [] (l := [iV x]) (ob := []) An ?_
   show (iV x : Value) = .int .i64 (orI x y) ∧ Keep Nn w w
   refine ⟨congrArg _ ?_, hk0⟩
   unfold orI
   split <;> first | rfl | omega
 · have hc2 := (nM hc2r)
   refine wp_skip ?_
   refine hK7 _ _ ?_
   refine wp_region_lit ?_
   refine q0 hf hM [7, 6, 3] [{}, {}] (nw := [(8, eI 1)]) An ?_
   clear hf; intro a hf
   refine wpList_nil ?_
   refine hL1 _ _ ?_
   refine sxround (m := 1) fun L2 hL2 => ?_
   refine wp_seq_k (fun K11 hK11 => ?_)
   refine wp_region_lit ?_
   refine q0 hf hM [8, 7, 6, 3] [{}] (nw := [(9, eB true)]) An ?_
   clear hf; intro a hf
   refine wpList_nil ?_
   refine hK11 _ _ ?_
   refine wp_seq_k (fun K12 hK12 => ?_)
   refine sxcond hf (b := true) (by kernel_rfl) (fun _ => ?_) (fun h => by cases h)
   refine wp_skip ?_
   refine hK12 _ _ ?_
   refine wp_seq_k (fun K13 hK13 => ?_)
   refine wp_block ?_
   refine wp_seq_k (fun K14 hK14 => ?_)
   refine wp_region_lit ?_
   refine q0 hf hM [8, 7, 6, 3] [{ sp := true }, { os := [.ex (iV (([x, y] : List Int).getD (1 : Int).toNat 0))], hint := some (iV y) }, {}] (nw := [(5, eI y)]) (ob := [(0 : Int) ≤ 1 ∧ 1 < (2 : Int), (av : Option Addr).isSome = true, w.cell? ((sa av : Addr).add ((1 : Int).toNat * 1)) = some (iV (([x, y] : List Int).getD (1 : Int).toNat 0)), (iV (([x, y] : List Int).getD (1 : Int).toNat 0) : Value) = (iV y : Value)]) (Ac (by first | omega | (simp; done)) (Ac ((hav.keepNn hk0).some_ (by first | omega | (simp; done))) (Ac ((hav.keepNn hk0).get0 (fun _ => rfl) (by first | omega | (simp; done)) rfl) (Ao rfl)))) ?_
   clear hf; intro a hf
   refine wpList_nil ?_
   refine hK14 _ _ ?_
   refine wp_seq_k (fun K15 hK15 => ?_)
   refine wp_region_lit ?_
   refine q0 hf hM [5, 8, 7, 6, 3] [{}, {}, {}] (nw := [(14, eB ((y : Int) != 0))]) An ?_
   clear hf; intro a hf
   refine wpList_nil ?_
   refine hK15 _ _ ?_
   refine qc hf (b := ((y : Int) != 0)) (fun hc4r => ?_) (fun hc4r => ?_)
   · have hc4 := (nN hc4r)
     refine wp_seq_k (fun K16 hK16 => ?_)
     refine wp_region_lit ?_
     refine q0 hf hM [] [{}, {}] (nw := [(2, eI y)]) An ?_
     clear hf; intro a hf
     refine wpList_nil ?_
     refine hK16 _ _ ?_
     refine wp_ret ?_
     refine qr (fn := Tryd.f65) hf hM [] (l := [iV y]) (ob := []) An ?_
     show (iV y : Value) = .int .i64 (orI x y) ∧ Keep Nn w w
     refine ⟨congrArg _ ?_, hk0⟩
     unfold orI
     split <;> first | rfl | omega
   · have hc4 := (nM hc4r)
     refine wp_skip ?_
     refine hK13 _ _ ?_
     refine wp_region_lit ?_
     refine q0 hf hM [7, 6, 3] [{}, {}] (nw := [(8, eI 2)]) An ?_
     clear hf; intro a hf
     refine wpList_nil ?_
     refine hL2 _ _ ?_
     refine sxround (m := 0) fun L3 hL3 => ?_
     refine wp_seq_k (fun K17 hK17 => ?_)
     refine wp_region_lit ?_
     refine q0 hf hM [8, 7, 6, 3] [{}] (nw := [(9, eB false)]) An ?_
     clear hf; intro a hf
     refine wpList_nil ?_
     refine hK17 _ _ ?_
     refine wp_seq_k (fun K18 hK18 => ?_)
     refine sxcond hf (b := false) (by kernel_rfl) (fun h => by cases h) (fun _ => ?_)
     refine wp_exit ?_
     refine hK3 _ _ ?_
     refine wp_seq_k (fun K19 hK19 => ?_)
     refine wp_region_lit ?_
     refine q0 hf hM [] [{}, {}] (nw := [(2, eI 0)]) An ?_
     clear hf; intro a hf
     refine wpList_nil ?_
     refine hK19 _ _ ?_
     refine wp_ret ?_
     refine qr (fn := Tryd.f65) hf hM [] (l := [iV 0]) (ob := []) An ?_
     show (iV 0 : Value) = .int .i64 (orI x y) ∧ Keep Nn w w
     refine ⟨congrArg _ ?_, hk0⟩
     unfold orI
     split <;> first | rfl | omega

set_option maxRecDepth 10000 in
set_option maxHeartbeats 1600000 in
theorem ocompare (xi xg yi yg : Int) (w : World) :
    Calls Tryd.prog 64 #[.agg #[iV xi, iV xg], .agg #[iV yi, iV yg]] w (Ret fun v w' => v = .int .i64 (cmpH ⟨xi, xg⟩ ⟨yi, yg⟩) ∧ Keep Nn w w') := by
 refine sxenter (n := 17) (args := [.agg #[iV xi, iV xg], .agg #[iV yi, iV yg]]) Tryd.func64 rfl rfl rfl fun a hf => ?_
 replace hf : Fr 17 [(0, .val (.agg #[iV xi, iV xg])), (1, .val (.agg #[iV yi, iV yg]))] a := hf
 have hM : MemOk [] w := MemOk.nil w
 have hk0 : Keep Nn w w := Keep.refl _ _
 refine wp_seq_k (fun K1 hK1 => ?_)
 refine wp_region_lit ?_
 refine q1 hf hM [] [{ os := [.nw] }, { os := [.nw] }, {}] (nw := fun B1 => [(4, eI 0), (3, eP (B1 + 1) 0), (2, eP B1 0)]) (M' := fun B1 => [⟨B1, 39, [iV xi, iV xg]⟩, ⟨B1 + 1, 39, [iV yi, iV yg]⟩]) (ob := fun B1 => []) (fun B1 => An) ?_
 clear hf hM; intro a w1 B1 hf hM hB hk
 have hbB1 : w.heap.size ≤ B1 := by have := hk0.size; omega
 have hk0 := hk0.then hk (by intro i _ h; cases h)
 clear hk hB
 refine wpList_nil ?_
 refine hK1 _ _ ?_
 refine wp_seq_k (fun K2 hK2 => ?_)
 replace hM := hM.drew; replace hk0 := hk0.drew
 obtain ⟨Cq1, hCq1i, hCq1e⟩ := qcls fun w' => MemOk [⟨B1, 39, [iV xi, iV xg]⟩, ⟨B1 + 1, 39, [iV yi, iV yg]⟩] w' ∧ Keep Nn w w' ∧ True
 refine sxdraw (C := Cq1) (.leaf [(0, true), (1, true), (2, true), (3, true), (5, true), (6, true), (7, true), (8, true), (4, false), (9, false), (10, false), (11, false), (12, true)]) (by kernel_rfl) (by kernel_rfl) (by as_aux_lemma => kernel_rfl) rfl (by as_aux_lemma => kernel_rfl) (by kernel_rfl) (hCq1i _ ⟨hM.sub (.cons_cons _ (.cons_cons _ .slnil)), hk0, trivial⟩) ?_
 refine sxleaf ?_
 have hC := (hCq1i _ ⟨hM.sub (.cons_cons _ (.cons_cons _ .slnil)), hk0, trivial⟩)
 refine qd hf hC (fun w' h => (hCq1e w' h).1) [4] [{}, { os := [.ld 0 0] }, {}, { os := [.ld 1 0] }, {}, { os := [.ld 0 1] }, {}, { os := [.ld 1 1] }] (nw := [(13, eI yg), (11, eI xg), (8, eI yi), (6, eI xi)]) (ob := [Ad B1 0, Ad (B1 + 1) 0, Ad B1 1, Ad (B1 + 1) 1]) (Ac (ad _ _) (Ac (ad _ _) (Ac (ad _ _) (Ao (ad _ _))))) ?_
 clear hf; intro a hf
 refine scstep rfl ?_
 refine sxcall hf rfl rfl rfl rfl (g := 66) (vs := [iV xi, iV yi]) (ob := []) (by as_aux_lemma => kernel_rfl) An enters66 (compare_int xi yi w1.drew  ) ?_
 clear hf; rintro _ w2 a ⟨rfl, hk⟩ hf
 have hM := hM.keepNn hk
 have hk0 := hk0.trans hk.nn
 clear hk
 have hC := (hCq1i _ ⟨hM.sub (.cons_cons _ (.cons_cons _ .slnil)), hk0, trivial⟩)
 refine scdone hC ?_
 refine scstep rfl ?_
 refine sxcall hf rfl rfl rfl rfl (g := 66) (vs := [iV xg, iV yg]) (ob := []) (by as_aux_lemma => kernel_rfl) An enters66 (compare_int xg yg w2  ) ?_
 clear hf; rintro _ w3 a ⟨rfl, hk⟩ hf
 have hM := hM.keepNn hk
 have hk0 := hk0.trans hk.nn
 clear hk
 have hC := (hCq1i _ ⟨hM.sub (.cons_cons _ (.cons_cons _ .slnil)), hk0, trivial⟩)
 refine scdone hC ?_
 refine scstep rfl ?_
 refine sxbslice hf hM (t := 102) (e := 3) (len := 2) (cs := [iV (cmpN xi yi), iV (cmpN xg yg)]) (ob := []) rfl rfl rfl rfl (by as_aux_lemma => kernel_rfl) An (by as_aux_lemma => kernel_rfl) ?_
 clear hf hM; intro a w4 B2 hf hM hB hk
 replace hM : MemOk [⟨B1, 39, [iV xi, iV xg]⟩, ⟨B1 + 1, 39, [iV yi, iV yg]⟩, ⟨B2, 3, [iV (cmpN xi yi), iV (cmpN xg yg)]⟩] w4 := hM
 have hbB2 : w.heap.size ≤ B2 := by have := hk0.size; omega
 have hk0 := hk0.trans hk.nn
 clear hk hB
 have hC := (hCq1i _ ⟨hM.sub (.cons_cons _ (.cons_cons _ (.cons _ .slnil))), hk0, trivial⟩)
 refine scdone hC ?_
 refine scstep rfl ?_
 refine sxcall hf rfl rfl rfl rfl (g := 65) (vs := [.slice (some ⟨B2, 0, none⟩) 2 2]) (ob := []) (by as_aux_lemma => kernel_rfl) An enters65 (or2 (some ⟨B2, 0, none⟩) (cmpN xi yi) (cmpN xg yg) 2 w4  (Arr.of_memT (sz := 1) (f := fI) (L := ([(cmpN xi yi), (cmpN xg yg)] : List Int)) (l := ([(cmpN xi yi), (cmpN xg yg)] : List Int)) hM (List.Mem.tail _ (List.Mem.tail _ (List.Mem.head _))) (fun _ => rfl) rfl rfl)) ?_
 clear hf; rintro _ w5 a ⟨rfl, hk⟩ hf
 have hM := hM.keepNn hk
 have hk0 := hk0.trans hk.nn
 clear hk
 have hC := (hCq1i _ ⟨hM.sub (.cons_cons _ (.cons_cons _ (.cons _ .slnil))), hk0, trivial⟩)
 refine scdone hC ?_
 refine qd hf hC (fun w' h => (hCq1e w' h).1) [] [{}] (nw := [(4, eI (orI (cmpN xi yi) (cmpN xg yg)))]) An ?_
 clear hf; intro a hf
 clear hC
 show K2 _ _
 refine hK2 _ _ ?_
 refine wp_ret ?_
 refine qr (fn := Tryd.f64) hf hM [] (l := [iV (orI (cmpN xi yi) (cmpN xg yg))]) (ob := []) An ?_
 show (iV (orI (cmpN xi yi) (cmpN xg yg)) : Value) = .int .i64 (cmpH ⟨xi, xg⟩ ⟨yi, yg⟩) ∧ Keep Nn w w5
 exact ⟨rfl, hk0⟩

set_option maxRecDepth 10000 in
set_option maxHeartbeats 1600000 in
theorem rless (xi xg yi yg : Int) (w : World) :
    Calls Tryd.prog 55 #[.agg #[iV xi, iV xg], .agg #[iV yi, iV yg]] w (Ret fun v w' => v = .bool (ltH ⟨xi, xg⟩ ⟨yi, yg⟩) ∧ Keep Nn w w') := by
 refine sxenter (n := 24) (args := [.agg #[iV xi, iV xg], .agg #[iV yi, iV yg]]) Tryd.func55 rfl rfl rfl fun a hf => ?_
 replace hf : Fr 24 [(0, .val (.agg #[iV xi, iV xg])), (1, .val (.agg #[iV yi, iV yg]))] a := hf
 have hM : MemOk [] w := MemOk.nil w
 have hk0 : Keep Nn w w := Keep.refl _ _
 refine wp_seq_k (fun K1 hK1 => ?_)
 refine wp_region_lit ?_
 refine q1 hf hM [] [{ os := [.nw] }, { os := [.nw] }, {}] (nw := fun B1 => [(3, eP (B1 + 1) 0), (2, eP B1 0)]) (M' := fun B1 => [⟨B1, 39, [iV xi, iV xg]⟩, ⟨B1 + 1, 39, [iV yi, iV yg]⟩]) (ob := fun B1 => []) (fun B1 => An) ?_
 clear hf hM; intro a w1 B1 hf hM hB hk
 have hbB1 : w.heap.size ≤ B1 := by have := hk0.size; omega
 have hk0 := hk0.then hk (by intro i _ h; cases h)
 clear hk hB
 refine wpList_nil ?_
 refine hK1 _ _ ?_
 refine wp_seq_k (fun K2 hK2 => ?_)
 refine wp_region_lit ?_
 refine q0 hf hM [3, 2] [{}, { os := [.ld 0 0] }, {}, { os := [.ld 1 0] }, {}, {}] (nw := [(10, eB (decide ((xi : Int) < yi)))]) (ob := [Ad B1 0, Ad (B1 + 1) 0]) (Ac (ad _ _) (Ao (ad _ _))) ?_
 clear hf; intro a hf
 rcases Bool.eq_false_or_eq_true (decide ((xi : Int) < yi)) with hg1r | hg1r
 · have hg1 := (nT hg1r)
   have hf := hf.setb 10 hg1r
   refine q0 hf hM [] [{ g := .off }, { g := .off }, { g := .off }, { g := .off }, { g := .off }, { g := .off }, { g := .off }, { g := .off }, { g := .off }, { g := .off }, { g := .off }, { g := .off }, {}, {}] (nw := [(4, eB true)]) (ob := [true = !false, true = !false, true = !false, true = !false, true = !false, true = !false, true = !false]) (Ac rfl (Ac rfl (Ac rfl (Ac rfl (Ac rfl (Ac rfl (Ao rfl))))))) ?_
   clear hf; intro a hf
   refine wpList_nil ?_
   refine hK2 _ _ ?_
   refine wp_ret ?_
   refine qr (fn := Tryd.f55) hf hM [] (l := [bV true]) (ob := []) An ?_
   show (bV true : Value) = .bool (ltH ⟨xi, xg⟩ ⟨yi, yg⟩) ∧ Keep Nn w w1
   refine ⟨congrArg Value.bool ?_, hk0⟩
   rw [Bool.eq_iff_iff]
   simp only [ltH, Bool.or_eq_true, Bool.and_eq_true, Bool.not_eq_true', Bool.not_eq_false', Bool.or_eq_false_iff, Bool.and_eq_false_iff, decide_eq_true_eq, decide_eq_false_iff_not, beq_iff_eq, Bool.false_eq_true, Bool.true_eq_false, false_iff, true_iff, iff_true, iff_false, not_true, not_false_iff, true_and, and_true, false_and, and_false, ge_iff_le, gt_iff_lt] at *
   try omega
 · have hg1 := (nU hg1r)
   have hf := hf.setb 10 hg1r
   refine q0 hf hM [10, 3, 2] [{}, { os := [.ld 0 0] }, {}, { os := [.ld 1 0] }, {}, {}] (nw := [(16, eB ((xi : Int) == yi))]) (ob := [false = false, false = false, Ad B1 0, false = false, false = false, Ad (B1 + 1) 0, false = false, false = false]) (Ac rfl (Ac rfl (Ac (ad _ _) (Ac rfl (Ac rfl (Ac (ad _ _) (Ac rfl (Ao rfl)))))))) ?_
   clear hf; intro a hf
   rcases Bool.eq_false_or_eq_true ((xi : Int) == yi) with hg2r | hg2r
   · have hg2 := (nE hg2r)
     have hf := hf.setb 16 hg2r
     refine q0 hf hM [] [{}, { os := [.ld 0 1] }, {}, { os := [.ld 1 1] }, {}, {}, {}, {}] (nw := [(4, eB (decide ((xg : Int) < yg)))]) (ob := [true = true, true = true, Ad B1 1, true = true, true = true, Ad (B1 + 1) 1, true = true, false = false]) (Ac rfl (Ac rfl (Ac (ad _ _) (Ac rfl (Ac rfl (Ac (ad _ _) (Ac rfl (Ao rfl)))))))) ?_
     clear hf; intro a hf
     refine wpList_nil ?_
     refine hK2 _ _ ?_
     refine wp_ret ?_
     refine qr (fn := Tryd.f55) hf hM [] (l := [bV (decide ((xg : Int) < yg))]) (ob := []) An ?_
     show (bV (decide ((xg : Int) < yg)) : Value) = .bool (ltH ⟨xi, xg⟩ ⟨yi, yg⟩) ∧ Keep Nn w w1
     refine ⟨congrArg Value.bool ?_, hk0⟩
     rw [Bool.eq_iff_iff]
     simp only [ltH, Bool.or_eq_true, Bool.and_eq_true, Bool.not_eq_true', Bool.not_eq_false', Bool.or_eq_false_iff, Bool.and_eq_false_iff, decide_eq_true_eq, decide_eq_false_iff_not, beq_iff_eq, Bool.false_eq_true, Bool.true_eq_false, false_iff, true_iff, iff_true, iff_false, not_true, not_false_iff, true_and, and_true, false_and, and_false, ge_iff_le, gt_iff_lt] at *
     try omega
   · have hg2 := (nF hg2r)
     have hf := hf.setb 16 hg2r
     refine q0 hf hM [] [{ g := .off }, { g := .off }, { g := .off }, { g := .off }, { g := .off }, {}, {}, {}] (nw := [(4, eB false)]) (ob := [false = !true, false = !true, false = !true, false = !true, false = !true, false = false]) (Ac rfl (Ac rfl (Ac rfl (Ac rfl (Ac rfl (Ao rfl)))))) ?_
     clear hf; intro a hf
     refine wpList_nil ?_
     refine hK2 _ _ ?_
     refine wp_ret ?_
     refine qr (fn := Tryd.f55) hf hM [] (l := [bV false]) (ob := []) An ?_
     show (bV false : Value) = .bool (ltH ⟨xi, xg⟩ ⟨yi, yg⟩) ∧ Keep Nn w w1
     refine ⟨congrArg Value.bool ?_, hk0⟩
     rw [Bool.eq_iff_iff]
     simp only [ltH, Bool.or_eq_true, Bool.and_eq_true, Bool.not_eq_true', Bool.not_eq_false', Bool.or_eq_false_iff, Bool.and_eq_false_iff, decide_eq_true_eq, decide_eq_false_iff_not, beq_iff_eq, Bool.false_eq_true, Bool.true_eq_false, false_iff, true_iff, iff_true, iff_false, not_true, not_false_iff, true_and, and_true, false_and, and_false, ge_iff_le, gt_iff_lt] at *
     try omega

set_option maxRecDepth 10000 in
set_option maxHeartbeats 1600000 in
theorem clone_hand (av : Option Addr) (l : List H2) (c : Nat) (w : World) (hav : Arr w 2 av l.length c (flat fH l)) (hbav : l.length ≤ 1000000) :
    Calls Tryd.prog 76 #[.slice av l.length c] w (Ret fun v w' => ∃ a' c', v = .slice a' l.length c' ∧ Keep Nn w w' ∧ World.ownsRow w' w.heap.size 39 2 (.slice a' l.length c') l.length (flat fH l)) := by
 refine sxenter (n := 8) (args := [.slice av l.length c]) Tryd.func76 rfl rfl rfl fun a hf => ?_
 replace hf : Fr 8 [(0, eS av l.length c)] a := hf
 have hM : MemOk [] w := MemOk.nil w
 have hk0 : Keep Nn w w := Keep.refl _ _
 refine wp_seq_k (fun K1 hK1 => ?_)
 refine wp_region_lit ?_
 refine q0 hf hM [0] [{}] (nw := []) An ?_
 clear hf; intro a hf
 refine wpList_nil ?_
 refine hK1 _ _ ?_
 refine wp_seq_k (fun K2 hK2 => ?_)
 refine wp_seq_k (fun K3 hK3 => ?_)
 refine wp_region_lit ?_
 refine q0 hf hM [0] [{}, { sp := true }] (nw := [(4, eB (av).isNone)]) An ?_
 clear hf; intro a hf
 refine wpList_nil ?_
 refine hK3 _ _ ?_
 refine qc hf (b := (av).isNone) (fun hc1r => ?_) (fun hc1r => ?_)
 · have hc1 := hc1r
   refine wp_seq_k (fun K4 hK4 => ?_)
   refine wp_region_lit ?_
   refine q0 hf hM [] [{}] (nw := [(2, eS none 0 0)]) An ?_
   clear hf; intro a hf
   refine wpList_nil ?_
   refine hK4 _ _ ?_
   refine wp_ret ?_
   refine qr (fn := Tryd.f76) hf hM [] (l := [.slice none 0 0]) (ob := []) An ?_
   show ∃ a' c', (.slice none 0 0 : Value) = .slice a' l.length c' ∧ Keep Nn w w ∧ World.ownsRow w w.heap.size 39 2 (.slice a' l.length c') l.length (flat fH l)
   have hc0 := hav.none_ (Option.isNone_iff_eq_none.1 hc1)
   have hl0 : l = [] := List.eq_nil_of_length_eq_zero (by have := hav.le; omega)
   subst hl0
   exact ⟨none, 0, rfl, hk0, World.ownsRow_nil _ _ _ _⟩
 · have hc1 := hc1r
   refine wp_skip ?_
   refine hK2 _ _ ?_
   refine wp_seq_k (fun K5 hK5 => ?_)
   refine wp_region_lit ?_
   refine sxbslice hf hM (t := 50) (e := 39) (len := 0) (cs := []) (ob := []) rfl rfl rfl rfl (by as_aux_lemma => kernel_rfl) An (by as_aux_lemma => kernel_rfl) ?_
   clear hf hM; intro a w1 B4 hf hM hB hk
   replace hM : MemOk [⟨B4, 39, []⟩] w1 := hM
   have hbB4 : w.heap.size ≤ B4 := by have := hk0.size; omega
   have hk0 := hk0.trans hk.nn
   clear hk hB
   refine q0 hf hM [5] [{}] (nw := [(6, eS av l.length c)]) An ?_
   clear hf; intro a hf
   have hO : OwnOk w.heap.size [⟨B4, 39, []⟩] [] w1 := OwnOk.nil hM
   replace hO := OwnOk.took (M1 := []) (M2 := []) (sz := 2) hO hM (n := 0) (c := 0) (by have := hk0.size; omega) (by decide) (by decide) rfl
   replace hM : MemOk [] w1 := hM.sub (.cons _ .slnil)
   replace hO : OwnOk w.heap.size [] [oS 39 2 (.slice (some ⟨B4, 0, none⟩) 0 0) 0 (flat fH ([] : List H2))] w1 := hO
   replace hO : OwnOk w.heap.size [] [oS 39 2 (.slice (some ⟨B4, 0, none⟩) 0 0) 0 (flat fH ([] : List H2))] w1 := OwnOk.front (l1 := []) (l2 := []) hO
   refine sxappend hf hM (e := 39) (sz := 2) (by_ := 16) (k := 0) (v := .slice (some ⟨B4, 0, none⟩) 0 0) (xs := flat fH ([] : List H2)) hO rfl rfl rfl rfl (av := av) (m := l.length) (c := c) rfl rfl Tryd.underlying50 (by kernel_rfl) rfl (news := flat fH l) (hav.keepNn hk0) (flat_one1 fH_one) (by simp only [maxLen]; constructor <;> (first | omega | (simp; omega))) (by have := hk0.size; omega) ?_
   clear hf hM hO; intro a w2 av1 cv1 hf hM hO hk
   have en : (0 + l.length : Nat) = l.length := (by first | (simp; done) | (simp; omega))
   have ec : flat fH ([] : List H2) ++ flat fH l = flat fH l := (by first | rfl | exact (flat_app _ _ _).symm | simp [flat_app, flat_nil])
   rw [en] at hf hO; rw [ec] at hO; clear en ec
   replace hO : OwnOk w.heap.size [] [oS 39 2 (.slice av1 l.length cv1) l.length (flat fH l)] w2 := hO
   have hk0 := hk0.then hk (by intro i hi h; have := h.1; omega)
   clear hk
   refine q0 hf hM [] [{}] (nw := [(2, eS av1 l.length cv1)]) An ?_
   clear hf; intro a hf
   refine wpList_nil ?_
   refine hK5 _ _ ?_
   refine wp_ret ?_
   refine qr (fn := Tryd.f76) hf hM [] (l := [.slice av1 l.length cv1]) (ob := []) An ?_
   show ∃ a' c', (.slice av1 l.length cv1 : Value) = .slice a' l.length c' ∧ Keep Nn w w2 ∧ World.ownsRow w2 w.heap.size 39 2 (.slice a' l.length c') l.length (flat fH l)
   exact ⟨_, _, rfl, hk0, hO.own _ (List.Mem.head _)⟩

theorem sort_hand {w : World} {base c : Nat} {av : Option Addr} {l : List H2} (hown : w.ownsRow base 39 2 (.slice av l.length c) l.length (flat fH l)) (hb : l.length ≤ 1000000) :
    Calls Tryd.prog 77 #[.slice av l.length c, .func (.func 64) #[] #[]] w (Ret fun v w' => v = .tuple #[] ∧ ∃ l', l'.Perm l ∧ (l'.Pairwise fun x y => ltH y x = false) ∧
      w'.ownsRow base 39 2 (.slice av l.length c) l.length (flat fH l') ∧ Keep (fun i => Value.ownBlock (.slice av l.length c) = some i) w w') := by
  have h := sortFunc_own (enc := fH) (cf := cmpH) Tryd.sortH (k := 2) (fun w => by kernel_rfl) (fun w => by kernel_rfl) (fun _ => rfl) fH_one (swo_of ordH cmpH_neg) (g := 64) (enters_of Tryd.func64 (by kernel_rfl) rfl) (fun x y w => ocompare x.i x.g y.i y.g w) hown (by omega)
  refine Calls.mono h fun e w' he => ?_
  obtain ⟨v, rfl, rfl, l', hp, hs, hx, hk⟩ := he
  exact ⟨_, rfl, rfl, l', hp, pair_of cmpH_neg hs, hx, hk⟩

set_option maxRecDepth 10000 in
set_option maxHeartbeats 1600000 in
theorem compact_hand (base : Nat) (av : Option Addr) (l : List H2) (c : Nat) (w : World) (hown : w.ownsRow base 39 2 (.slice av l.length c) l.length (flat fH l)) (hbw : base ≤ w.heap.size) (hbav : l.length ≤ 1000000) :
    Calls Tryd.prog 78 #[.slice av l.length c] w (Ret fun v w' => v = .slice av (comp l).length c ∧ World.ownsRow w' base 39 2 (.slice av (comp l).length c) (comp l).length (flat fH (comp l)) ∧ Keep (fun i => Value.ownBlock (.slice av l.length c) = some i) w w') := by
 refine sxenter (n := 61) (args := [.slice av l.length c]) Tryd.func78 rfl rfl rfl fun a hf => ?_
 replace hf : Fr 61 [(0, eS av l.length c)] a := hf
 have hM : MemOk [] w := MemOk.nil w
 have hk0 : Keep (fun i => Value.ownBlock (.slice av l.length c) = some i) w w := Keep.refl _ _
 have hO : OwnOk base [] [oS 39 2 (.slice av l.length c) l.length (flat fH l)] w := OwnOk.one hown
 refine wp_seq_k (fun K1 hK1 => ?_)
 refine wp_region_lit ?_
 refine q0 hf hM [0] [{}] (nw := []) An ?_
 clear hf; intro a hf
 refine wpList_nil ?_
 refine hK1 _ _ ?_
 refine wp_seq_k (fun K2 hK2 => ?_)
 refine wp_seq_k (fun K3 hK3 => ?_)
 refine wp_region_lit ?_
 refine q0 hf hM [0] [{}, {}, {}] (nw := [(8, eB (decide (((l.length : Int) : Int) < 2)))]) An ?_
 clear hf; intro a hf
 refine wpList_nil ?_
 refine hK3 _ _ ?_
 refine qc hf (b := (decide (((l.length : Int) : Int) < 2))) (fun hc1r => ?_) (fun hc1r => ?_)
 · have hc1 := (nT hc1r)
   refine wp_seq_k (fun K4 hK4 => ?_)
   refine wp_region_lit ?_
   refine q0 hf hM [] [{}, {}] (nw := [(2, eS av l.length c)]) An ?_
   clear hf; intro a hf
   refine wpList_nil ?_
   refine hK4 _ _ ?_
   refine wp_ret ?_
   refine qr (fn := Tryd.f78) hf hM [] (l := [.slice av l.length c]) (ob := []) An ?_
   show (.slice av l.length c : Value) = .slice av (comp l).length c ∧ World.ownsRow w base 39 2 (.slice av (comp l).length c) (comp l).length (flat fH (comp l)) ∧ Keep (fun i => Value.ownBlock (.slice av l.length c) = some i) w w
   first
     | (rw [comp_one l (by omega)]; exact ⟨rfl, hO.own _ (List.Mem.head _), hk0⟩)
     | (have e : comp l = l := by have h1 : l.take k.toNat = l := List.take_of_length_le (by omega)
                                  rw [h1] at hcp; exact hcp
        rw [e]; exact ⟨rfl, hO.own _ (List.Mem.head _), hk0⟩)
 · have hc1 := (nU hc1r)
   refine wp_skip ?_
   refine hK2 _ _ ?_
   refine wp_seq_k (fun K5 hK5 => ?_)
   refine wp_seq_k (fun K6 hK6 => ?_)
   refine wp_region_lit ?_
   refine q0 hf hM [0] [{}] (nw := [(3, eI 1)]) An ?_
   clear hf; intro a hf
   refine wpList_nil ?_
   refine hK6 _ _ ?_
   refine wp_block ?_
   have hf := (hf.prune [0, 3]).to (env' := [(0, eS av l.length c), (3, eI 1)]) (by kernel_rfl)
   refine sxloop (fun zm a w1 => ∃ (k : Int), zm = ((l.length : Int) - k).toNat ∧ Fr 61 [(0, eS av l.length c), (3, eI k)] a ∧ MemOk [] w1 ∧ Keep (fun i => Value.ownBlock (.slice av l.length c) = some i) w w1 ∧ OwnOk base [] [oS 39 2 (.slice av l.length c) l.length (flat fH l)] w1 ∧ (1 ≤ k ∧ k ≤ (l.length : Int)) ∧ (comp (l.take k.toNat) = l.take k.toNat)) _ ⟨1, rfl, hf.conv (Ac rfl (Ao rfl)), hM, hk0, hO, (by omega), (comp_one _ (by rw [List.length_take]; omega))⟩ ?_
   clear hf hM hk0 hO
   rintro _ a w1 ⟨k, rfl, hf, hM, hk0, hO, hkk, hcp⟩ L1 hL1
   refine wp_seq_k (fun K7 hK7 => ?_)
   refine wp_seq_k (fun K8 hK8 => ?_)
   refine wp_region_lit ?_
   refine q0 hf hM [0, 3] [{}, {}, {}, {}] (nw := [(13, eB (decide ((k : Int) < (l.length : Int))))]) An ?_
   clear hf; intro a hf
   refine wpList_nil ?_
   refine hK8 _ _ ?_
   refine qc hf (b := (decide ((k : Int) < (l.length : Int)))) (fun hc2r => ?_) (fun hc2r => ?_)
   · have hc2 := (nT hc2r)
     refine wp_skip ?_
     refine hK7 _ _ ?_
     refine wp_seq_k (fun K9 hK9 => ?_)
     refine wp_block ?_
     refine wp_seq_k (fun K10 hK10 => ?_)
     replace hM := hM.drew; replace hk0 := hk0.drew; replace hO := hO.drew
     obtain ⟨Cq1, hCq1i, hCq1e⟩ := qcls fun w' => MemOk [] w' ∧ Keep (fun i => Value.ownBlock (.slice av l.length c) = some i) w w' ∧ OwnOk base [] [oS 39 2 (.slice av l.length c) l.length (flat fH l)] w'
     refine sxdraw (C := Cq1) (.leaf [(0, true), (1, true), (2, true), (3, true), (4, true), (5, true), (6, true), (7, true), (8, true), (9, true)]) (by kernel_rfl) (by kernel_rfl) (by as_aux_lemma => kernel_rfl) rfl (by as_aux_lemma => kernel_rfl) (by kernel_rfl) (hCq1i _ ⟨hM.sub (.slnil), hk0, hO.sub (.slnil) (.cons_cons _ .slnil)⟩) ?_
     refine sxleaf ?_
     have hC := (hCq1i _ ⟨hM.sub (.slnil), hk0, hO.sub (.slnil) (.cons_cons _ .slnil)⟩)
     refine qd hf hC (fun w' h => (hCq1e w' h).1) [0, 3] [{}, {}, { sp := true }, { os := [.ex (iV (l.getD k.toNat ⟨0, 0⟩).i), .ex (iV (l.getD k.toNat ⟨0, 0⟩).g)] }, {}, {}, { hint := some (iV (k - 1)) }, { sp := true }, { os := [.ex (iV ((l.getD (k - 1).toNat ⟨0, 0⟩).i)), .ex (iV ((l.getD (k - 1).toNat ⟨0, 0⟩).g))] }, { sp := true, hint := some (bV ((((l.getD k.toNat ⟨0, 0⟩).i : Int) == ((l.getD (k - 1).toNat ⟨0, 0⟩).i)) && (((l.getD k.toNat ⟨0, 0⟩).g : Int) == ((l.getD (k - 1).toNat ⟨0, 0⟩).g)))) }] (nw := [(25, eB ((((l.getD k.toNat ⟨0, 0⟩).i : Int) == ((l.getD (k - 1).toNat ⟨0, 0⟩).i)) && (((l.getD k.toNat ⟨0, 0⟩).g : Int) == ((l.getD (k - 1).toNat ⟨0, 0⟩).g)))), (24, .val (.agg #[iV ((l.getD (k - 1).toNat ⟨0, 0⟩).i), iV ((l.getD (k - 1).toNat ⟨0, 0⟩).g)])), (23, .val (.pointer (some ((sa av : Addr).add ((k - 1).toNat * 2))))), (22, eI (k - 1)), (21, eI k), (20, eS av l.length c), (19, .val (.agg #[iV (l.getD k.toNat ⟨0, 0⟩).i, iV (l.getD k.toNat ⟨0, 0⟩).g])), (18, .val (.pointer (some ((sa av : Addr).add (k.toNat * 2))))), (17, eI k), (16, eS av l.length c)]) (ob := [(0 : Int) ≤ k ∧ k < (l.length : Int), (av : Option Addr).isSome = true, (∀ w', Cq1 w' → w'.cell? (((sa av : Addr).add (k.toNat * 2)).add 0) = some (iV (l.getD k.toNat ⟨0, 0⟩).i)), (∀ w', Cq1 w' → w'.cell? (((sa av : Addr).add (k.toNat * 2)).add 1) = some (iV (l.getD k.toNat ⟨0, 0⟩).g)), (iV (IntKind.i64.wrap (k - 1)) : Value) = (iV (k - 1) : Value), (0 : Int) ≤ (k - 1) ∧ (k - 1) < (l.length : Int), (av : Option Addr).isSome = true, (∀ w', Cq1 w' → w'.cell? (((sa av : Addr).add ((k - 1).toNat * 2)).add 0) = some (iV ((l.getD (k - 1).toNat ⟨0, 0⟩).i))), (∀ w', Cq1 w' → w'.cell? (((sa av : Addr).add ((k - 1).toNat * 2)).add 1) = some (iV ((l.getD (k - 1).toNat ⟨0, 0⟩).g))), (bV ((((l.getD k.toNat ⟨0, 0⟩).i : Int) == ((l.getD (k - 1).toNat ⟨0, 0⟩).i)) && ((((l.getD k.toNat ⟨0, 0⟩).g : Int) == ((l.getD (k - 1).toNat ⟨0, 0⟩).g)) && true)) : Value) = (bV ((((l.getD k.toNat ⟨0, 0⟩).i : Int) == ((l.getD (k - 1).toNat ⟨0, 0⟩).i)) && (((l.getD k.toNat ⟨0, 0⟩).g : Int) == ((l.getD (k - 1).toNat ⟨0, 0⟩).g))) : Value)]) (Ac (by first | omega | (simp; done)) (Ac ((own_arr (hO.own _ (List.Mem.head _))).some_ (by first | omega | (simp; done))) (Ac (fun w' hc => by obtain ⟨hM, hk0, hO⟩ := hCq1e w' hc; exact ((own_arr (hO.own _ (List.Mem.head _))).get (fun _ => rfl) (by first | omega | (simp; done)) rfl)) (Ac (fun w' hc => by obtain ⟨hM, hk0, hO⟩ := hCq1e w' hc; exact ((own_arr (hO.own _ (List.Mem.head _))).get (fun _ => rfl) (by first | omega | (simp; done)) rfl)) (Ac (wr (by omega)) (Ac (by first | omega | (simp; done)) (Ac ((own_arr (hO.own _ (List.Mem.head _))).some_ (by first | omega | (simp; done))) (Ac (fun w' hc => by obtain ⟨hM, hk0, hO⟩ := hCq1e w' hc; exact ((own_arr (hO.own _ (List.Mem.head _))).get (fun _ => rfl) (by first | omega | (simp; done)) rfl)) (Ac (fun w' hc => by obtain ⟨hM, hk0, hO⟩ := hCq1e w' hc; exact ((own_arr (hO.own _ (List.Mem.head _))).get (fun _ => rfl) (by first | omega | (simp; done)) rfl)) (Ao (by simp))))))))))) ?_
     clear hf; intro a hf
     clear hC
     show K10 _ _
     refine hK10 _ _ ?_
     refine qc hf (b := ((((l.getD k.toNat ⟨0, 0⟩).i : Int) == ((l.getD (k - 1).toNat ⟨0, 0⟩).i)) && (((l.getD k.toNat ⟨0, 0⟩).g : Int) == ((l.getD (k - 1).toNat ⟨0, 0⟩).g)))) (fun hc3r => ?_) (fun hc3r => ?_)
     · have hc3 := hc3r
       try simp only [Bool.or_eq_true, Bool.and_eq_true, Bool.not_eq_true', Bool.not_eq_false', Bool.or_eq_false_iff, Bool.and_eq_false_iff, decide_eq_true_eq, decide_eq_false_iff_not, beq_iff_eq, bne_iff_ne, beq_eq_false_iff_ne, bne_eq_false_iff_eq, Bool.and_true, Bool.true_and, ne_eq] at hc3
       refine wp_seq_k (fun K11 hK11 => ?_)
       refine wp_region_lit ?_
       refine q0 hf hM [0, 3] [{}, {}, { sp := true, hint := some (.slice (cutA av k.toNat c 2) (l.length - k.toNat) (c - k.toNat)) }, {}] (nw := [(4, eS (cutA av k.toNat c 2) (l.length - k.toNat) (c - k.toNat))]) (ob := [0 ≤ (k : Int) ∧ (k : Int) ≤ ((l.length : Nat) : Int), (.slice (cutA av (k : Int).toNat c 2) (l.length - (k : Int).toNat) (c - (k : Int).toNat) : Value) = (.slice (cutA av k.toNat c 2) (l.length - k.toNat) (c - k.toNat) : Value)]) (Ac (by have := ((own_arr (hO.own _ (List.Mem.head _)))).le; omega) (Ao (by first | rfl | (simp; done) | (simp; omega)))) ?_
       clear hf; intro a hf
       refine wpList_nil ?_
       refine hK11 _ _ ?_
       refine wp_seq_k (fun K12 hK12 => ?_)
       refine wp_seq_k (fun K13 hK13 => ?_)
       refine wp_region_lit ?_
       refine q0 hf hM [4, 0, 3] [{}] (nw := [(5, eI 1)]) An ?_
       clear hf; intro a hf
       refine wpList_nil ?_
       refine hK13 _ _ ?_
       refine wp_block ?_
       have hf := (hf.prune [0, 3, 4, 5]).to (env' := [(0, eS av l.length c), (3, eI k), (4, eS (cutA av k.toNat c 2) (l.length - k.toNat) (c - k.toNat)), (5, eI 1)]) (by kernel_rfl)
       refine sxloop (fun zm a w1 => ∃ (m k2 : Int) (ll : List H2), zm = ((l.length : Int) - k2).toNat ∧ Fr 61 [(0, eS av l.length c), (3, eI m), (4, eS (cutA av k.toNat c 2) (l.length - k.toNat) (c - k.toNat)), (5, eI k2)] a ∧ MemOk [] w1 ∧ Keep (fun i => Value.ownBlock (.slice av l.length c) = some i) w w1 ∧ OwnOk base [] [oS 39 2 (.slice av l.length c) l.length (flat fH ll)] w1 ∧ (Cmp l ll m.toNat (k + k2).toNat) ∧ (0 ≤ m ∧ 1 ≤ k2)) _ ⟨k, 1, l, rfl, hf.conv (Ac rfl (Ac rfl (Ac rfl (Ao rfl)))), hM, hk0, hO, (by rw [show (k + 1).toNat = k.toNat + 1 by omega]; exact Cmp.start (d := ⟨0, 0⟩) (by omega) (by omega) hcp (by rw [show k.toNat - 1 = (k - 1).toNat by omega]; exact (eqc_hand (by omega)))), (by omega)⟩ ?_
       clear hf hM hk0 hO
       rintro _ a w2 ⟨m, k2, ll, rfl, hf, hM, hk0, hO, hct, hij⟩ L2 hL2
       have hl1 := hct.le; have hl2 := hct.jl; have hl3 := hct.len; have hl4 := hct.k1; have hl5 : (ll.drop k.toNat).length = ll.length - k.toNat := List.length_drop
       refine wp_seq_k (fun K14 hK14 => ?_)
       refine wp_seq_k (fun K15 hK15 => ?_)
       refine wp_region_lit ?_
       refine q0 hf hM [0, 3, 4, 5] [{}, {}, {}, {}] (nw := [(32, eB (decide ((k2 : Int) < (((l.length - k.toNat) : Nat) : Int))))]) An ?_
       clear hf; intro a hf
       refine wpList_nil ?_
       refine hK15 _ _ ?_
       refine qc hf (b := (decide ((k2 : Int) < (((l.length - k.toNat) : Nat) : Int)))) (fun hc4r => ?_) (fun hc4r => ?_)
       · have hc4 := (nT hc4r)
         refine wp_skip ?_
         refine hK14 _ _ ?_
         refine wp_seq_k (fun K16 hK16 => ?_)
         refine wp_block ?_
         refine wp_seq_k (fun K17 hK17 => ?_)
         replace hM := hM.drew; replace hk0 := hk0.drew; replace hO := hO.drew
         obtain ⟨Cq2, hCq2i, hCq2e⟩ := qcls fun w' => MemOk [] w' ∧ Keep (fun i => Value.ownBlock (.slice av l.length c) = some i) w w' ∧ OwnOk base [] [oS 39 2 (.slice av l.length c) l.length (flat fH ll)] w'
         refine sxdraw (C := Cq2) (.leaf [(0, true), (1, true), (2, true), (3, true), (4, true), (5, true), (6, true), (7, true), (8, true), (9, true)]) (by kernel_rfl) (by kernel_rfl) (by as_aux_lemma => kernel_rfl) rfl (by as_aux_lemma => kernel_rfl) (by kernel_rfl) (hCq2i _ ⟨hM.sub (.slnil), hk0, hO.sub (.slnil) (.cons_cons _ .slnil)⟩) ?_
         refine sxleaf ?_
         have hC := (hCq2i _ ⟨hM.sub (.slnil), hk0, hO.sub (.slnil) (.cons_cons _ .slnil)⟩)
         refine qd hf hC (fun w' h => (hCq2e w' h).1) [0, 3, 4, 5] [{}, {}, { sp := true }, { os := [.ex (iV (((ll.drop k.toNat).getD k2.toNat ⟨0, 0⟩).i)), .ex (iV (((ll.drop k.toNat).getD k2.toNat ⟨0, 0⟩).g))] }, {}, {}, { hint := some (iV (k2 - 1)) }, { sp := true }, { os := [.ex (iV (((ll.drop k.toNat).getD (k2 - 1).toNat ⟨0, 0⟩).i)), .ex (iV (((ll.drop k.toNat).getD (k2 - 1).toNat ⟨0, 0⟩).g))] }, { sp := true, hint := some (bV (!((((((ll.drop k.toNat).getD k2.toNat ⟨0, 0⟩).i) : Int) == (((ll.drop k.toNat).getD (k2 - 1).toNat ⟨0, 0⟩).i)) && (((((ll.drop k.toNat).getD k2.toNat ⟨0, 0⟩).g) : Int) == (((ll.drop k.toNat).getD (k2 - 1).toNat ⟨0, 0⟩).g))))) }] (nw := [(44, eB (!((((((ll.drop k.toNat).getD k2.toNat ⟨0, 0⟩).i) : Int) == (((ll.drop k.toNat).getD (k2 - 1).toNat ⟨0, 0⟩).i)) && (((((ll.drop k.toNat).getD k2.toNat ⟨0, 0⟩).g) : Int) == (((ll.drop k.toNat).getD (k2 - 1).toNat ⟨0, 0⟩).g))))), (43, .val (.agg #[iV (((ll.drop k.toNat).getD (k2 - 1).toNat ⟨0, 0⟩).i), iV (((ll.drop k.toNat).getD (k2 - 1).toNat ⟨0, 0⟩).g)])), (42, .val (.pointer (some ((sa (cutA av k.toNat c 2) : Addr).add ((k2 - 1).toNat * 2))))), (41, eI (k2 - 1)), (40, eI k2), (39, eS (cutA av k.toNat c 2) (l.length - k.toNat) (c - k.toNat)), (38, .val (.agg #[iV (((ll.drop k.toNat).getD k2.toNat ⟨0, 0⟩).i), iV (((ll.drop k.toNat).getD k2.toNat ⟨0, 0⟩).g)])), (37, .val (.pointer (some ((sa (cutA av k.toNat c 2) : Addr).add (k2.toNat * 2))))), (36, eI k2), (35, eS (cutA av k.toNat c 2) (l.length - k.toNat) (c - k.toNat))]) (ob := [(0 : Int) ≤ k2 ∧ k2 < (((l.length - k.toNat) : Nat) : Int), (cutA av k.toNat c 2 : Option Addr).isSome = true, (∀ w', Cq2 w' → w'.cell? (((sa (cutA av k.toNat c 2) : Addr).add (k2.toNat * 2)).add 0) = some (iV (((ll.drop k.toNat).getD k2.toNat ⟨0, 0⟩).i))), (∀ w', Cq2 w' → w'.cell? (((sa (cutA av k.toNat c 2) : Addr).add (k2.toNat * 2)).add 1) = some (iV (((ll.drop k.toNat).getD k2.toNat ⟨0, 0⟩).g))), (iV (IntKind.i64.wrap (k2 - 1)) : Value) = (iV (k2 - 1) : Value), (0 : Int) ≤ (k2 - 1) ∧ (k2 - 1) < (((l.length - k.toNat) : Nat) : Int), (cutA av k.toNat c 2 : Option Addr).isSome = true, (∀ w', Cq2 w' → w'.cell? (((sa (cutA av k.toNat c 2) : Addr).add ((k2 - 1).toNat * 2)).add 0) = some (iV (((ll.drop k.toNat).getD (k2 - 1).toNat ⟨0, 0⟩).i))), (∀ w', Cq2 w' → w'.cell? (((sa (cutA av k.toNat c 2) : Addr).add ((k2 - 1).toNat * 2)).add 1) = some (iV (((ll.drop k.toNat).getD (k2 - 1).toNat ⟨0, 0⟩).g))), (bV (!((((((ll.drop k.toNat).getD k2.toNat ⟨0, 0⟩).i) : Int) == (((ll.drop k.toNat).getD (k2 - 1).toNat ⟨0, 0⟩).i)) && ((((((ll.drop k.toNat).getD k2.toNat ⟨0, 0⟩).g) : Int) == (((ll.drop k.toNat).getD (k2 - 1).toNat ⟨0, 0⟩).g)) && true))) : Value) = (bV (!((((((ll.drop k.toNat).getD k2.toNat ⟨0, 0⟩).i) : Int) == (((ll.drop k.toNat).getD (k2 - 1).toNat ⟨0, 0⟩).i)) && (((((ll.drop k.toNat).getD k2.toNat ⟨0, 0⟩).g) : Int) == (((ll.drop k.toNat).getD (k2 - 1).toNat ⟨0, 0⟩).g)))) : Value)]) (Ac (by first | omega | (simp; done)) (Ac ((Arr.dropf (m := k.toNat) (l := ll) (own_arr (hO.own _ (List.Mem.head _))) (fun _ => rfl) (by omega) (by omega)).some_ (by first | omega | (simp; done))) (Ac (fun w' hc => by obtain ⟨hM, hk0, hO⟩ := hCq2e w' hc; exact ((Arr.dropf (m := k.toNat) (l := ll) (own_arr (hO.own _ (List.Mem.head _))) (fun _ => rfl) (by omega) (by omega)).get (fun _ => rfl) (by first | omega | (simp; done)) rfl)) (Ac (fun w' hc => by obtain ⟨hM, hk0, hO⟩ := hCq2e w' hc; exact ((Arr.dropf (m := k.toNat) (l := ll) (own_arr (hO.own _ (List.Mem.head _))) (fun _ => rfl) (by omega) (by omega)).get (fun _ => rfl) (by first | omega | (simp; done)) rfl)) (Ac (wr (by omega)) (Ac (by first | omega | (simp; done)) (Ac ((Arr.dropf (m := k.toNat) (l := ll) (own_arr (hO.own _ (List.Mem.head _))) (fun _ => rfl) (by omega) (by omega)).some_ (by first | omega | (simp; done))) (Ac (fun w' hc => by obtain ⟨hM, hk0, hO⟩ := hCq2e w' hc; exact ((Arr.dropf (m := k.toNat) (l := ll) (own_arr (hO.own _ (List.Mem.head _))) (fun _ => rfl) (by omega) (by omega)).get (fun _ => rfl) (by first | omega | (simp; done)) rfl)) (Ac (fun w' hc => by obtain ⟨hM, hk0, hO⟩ := hCq2e w' hc; exact ((Arr.dropf (m := k.toNat) (l := ll) (own_arr (hO.own _ (List.Mem.head _))) (fun _ => rfl) (by omega) (by omega)).get (fun _ => rfl) (by first | omega | (simp; done)) rfl)) (Ao (by simp))))))))))) ?_
         clear hf; intro a hf
         clear hC
         show K17 _ _
         refine hK17 _ _ ?_
         refine qc hf (b := (!((((((ll.drop k.toNat).getD k2.toNat ⟨0, 0⟩).i) : Int) == (((ll.drop k.toNat).getD (k2 - 1).toNat ⟨0, 0⟩).i)) && (((((ll.drop k.toNat).getD k2.toNat ⟨0, 0⟩).g) : Int) == (((ll.drop k.toNat).getD (k2 - 1).toNat ⟨0, 0⟩).g))))) (fun hc5r => ?_) (fun hc5r => ?_)
         · have hc5 := hc5r
           try simp only [Bool.or_eq_true, Bool.and_eq_true, Bool.not_eq_true', Bool.not_eq_false', Bool.or_eq_false_iff, Bool.and_eq_false_iff, decide_eq_true_eq, decide_eq_false_iff_not, beq_iff_eq, bne_iff_ne, beq_eq_false_iff_ne, bne_eq_false_iff_eq, Bool.and_true, Bool.true_and, ne_eq] at hc5
           refine wp_seq_k (fun K18 hK18 => ?_)
           refine wp_region_lit ?_
           refine q0 hf hM [44, 43, 42, 41, 40, 39, 38, 37, 36, 35, 0, 3, 4, 5] [{}, {}, {}, {}, { sp := true }, { os := [.ex (iV (((ll.drop k.toNat).getD k2.toNat ⟨0, 0⟩).i)), .ex (iV (((ll.drop k.toNat).getD k2.toNat ⟨0, 0⟩).g))] }, { sp := true }] (nw := [(51, .val (.pointer (some ((sa av : Addr).add (m.toNat * 2))))), (50, .val (.agg #[iV (((ll.drop k.toNat).getD k2.toNat ⟨0, 0⟩).i), iV (((ll.drop k.toNat).getD k2.toNat ⟨0, 0⟩).g)]))]) (ob := [(0 : Int) ≤ k2 ∧ k2 < (((l.length - k.toNat) : Nat) : Int), (cutA av k.toNat c 2 : Option Addr).isSome = true, w2.drew.cell? (((sa (cutA av k.toNat c 2) : Addr).add (k2.toNat * 2)).add 0) = some (iV (((ll.drop k.toNat).getD k2.toNat ⟨0, 0⟩).i)), w2.drew.cell? (((sa (cutA av k.toNat c 2) : Addr).add (k2.toNat * 2)).add 1) = some (iV (((ll.drop k.toNat).getD k2.toNat ⟨0, 0⟩).g)), (0 : Int) ≤ m ∧ m < (l.length : Int), (av : Option Addr).isSome = true]) (Ac (by first | omega | (simp; done)) (Ac ((Arr.dropf (m := k.toNat) (l := ll) (own_arr (hO.own _ (List.Mem.head _))) (fun _ => rfl) (by omega) (by omega)).some_ (by first | omega | (simp; done))) (Ac ((Arr.dropf (m := k.toNat) (l := ll) (own_arr (hO.own _ (List.Mem.head _))) (fun _ => rfl) (by omega) (by omega)).get (fun _ => rfl) (by first | omega | (simp; done)) rfl) (Ac ((Arr.dropf (m := k.toNat) (l := ll) (own_arr (hO.own _ (List.Mem.head _))) (fun _ => rfl) (by omega) (by omega)).get (fun _ => rfl) (by first | omega | (simp; done)) rfl) (Ac (by first | omega | (simp; done)) (Ao ((own_arr (hO.own _ (List.Mem.head _))).some_ (by first | omega | (simp; done))))))))) ?_
           clear hf; intro a hf
           refine sxset hf hM hO rfl rfl rfl (val := .agg #[iV (((ll.drop k.toNat).getD k2.toNat ⟨0, 0⟩).i), iV (((ll.drop k.toNat).getD k2.toNat ⟨0, 0⟩).g)]) rfl rfl (i := m.toNat) (q := 0) (x := ⟨((ll.drop k.toNat).getD k2.toNat ⟨0, 0⟩).i, ((ll.drop k.toNat).getD k2.toNat ⟨0, 0⟩).g⟩) (d := ⟨0, 0⟩) rfl (by kernel_rfl) (fun _ => rfl) (by omega) hl3 rfl rfl rfl (by intro u hu; simp [Value.cells] at hu; first | (subst hu; rfl) | (rcases hu with rfl | rfl <;> rfl) | (rcases hu with rfl | rfl | rfl <;> rfl) | (rcases hu with rfl | rfl | rfl | rfl <;> rfl) | (rcases hu with rfl | rfl | rfl | rfl | rfl <;> rfl)) ?_
           clear hf; intro a w3 hf hM hO hk
           have hk0 := hk0.then hk (by intro i hi h; exact h)
           clear hk
           refine wpList_nil ?_
           refine hK18 _ _ ?_
           refine wp_region_lit ?_
           refine q0 hf hM [44, 43, 42, 41, 40, 39, 38, 37, 36, 35, 0, 4, 5] [{}, { hint := some (iV (m + 1)) }, {}] (nw := [(3, eI (m + 1))]) (ob := [(iV (IntKind.i64.wrap (m + 1)) : Value) = (iV (m + 1) : Value)]) (Ao (wr (by omega))) ?_
           clear hf; intro a hf
           refine wpList_nil ?_
           refine hK16 _ _ ?_
           refine wp_region_lit ?_
           refine q0 hf hM [3, 44, 43, 42, 41, 40, 39, 38, 37, 36, 35, 0, 4] [{}, { hint := some (iV (k2 + 1)) }, {}] (nw := [(5, eI (k2 + 1))]) (ob := [(iV (IntKind.i64.wrap (k2 + 1)) : Value) = (iV (k2 + 1) : Value)]) (Ao (wr (by omega))) ?_
           clear hf; intro a hf
           refine wpList_nil ?_
           have hd0 : (ll.drop k.toNat).getD k2.toNat ⟨0, 0⟩ = ll.getD (k + k2).toNat ⟨0, 0⟩ := by rw [getD_drop]; congr 1; omega
           have hd1 : (ll.drop k.toNat).getD (k2 - 1).toNat ⟨0, 0⟩ = ll.getD ((k + k2).toNat - 1) ⟨0, 0⟩ := by rw [getD_drop]; congr 1; omega
           have hct2 : Cmp l (ll.set m.toNat ⟨((ll.drop k.toNat).getD k2.toNat ⟨0, 0⟩).i, ((ll.drop k.toNat).getD k2.toNat ⟨0, 0⟩).g⟩) (m + 1).toNat (k + (k2 + 1)).toNat := by
             rw [show (k + (k2 + 1)).toNat = (k + k2).toNat + 1 by omega, show (m + 1).toNat = m.toNat + 1 by omega]
             have h1 : ll.getD (k + k2).toNat ⟨0, 0⟩ ≠ ll.getD ((k + k2).toNat - 1) ⟨0, 0⟩ := by rw [← hd0, ← hd1]; exact (nec_hand (by omega))
             have h2 := hct.keep (d := ⟨0, 0⟩) (by omega) h1
             rw [← hd0] at h2
             exact h2
           have hf := (hf.prune [0, 3, 4, 5]).to (env' := [(0, eS av l.length c), (3, eI (m + 1)), (4, eS (cutA av k.toNat c 2) (l.length - k.toNat) (c - k.toNat)), (5, eI (k2 + 1))]) (by kernel_rfl)
           refine hL2 _ _ _ (by omega) ⟨m + 1, k2 + 1, (ll.set m.toNat ⟨((ll.drop k.toNat).getD k2.toNat ⟨0, 0⟩).i, ((ll.drop k.toNat).getD k2.toNat ⟨0, 0⟩).g⟩), rfl, hf.conv (Ac rfl (Ac rfl (Ac rfl (Ao rfl)))), hM, hk0, hO, hct2, (by omega)⟩
         · have hc5 := hc5r
           try simp only [Bool.or_eq_true, Bool.and_eq_true, Bool.not_eq_true', Bool.not_eq_false', Bool.or_eq_false_iff, Bool.and_eq_false_iff, decide_eq_true_eq, decide_eq_false_iff_not, beq_iff_eq, bne_iff_ne, beq_eq_false_iff_ne, bne_eq_false_iff_eq, Bool.and_true, Bool.true_and, ne_eq] at hc5
           refine wp_skip ?_
           refine hK16 _ _ ?_
           refine wp_region_lit ?_
           refine q0 hf hM [44, 43, 42, 41, 40, 39, 38, 37, 36, 35, 0, 3, 4] [{}, { hint := some (iV (k2 + 1)) }, {}] (nw := [(5, eI (k2 + 1))]) (ob := [(iV (IntKind.i64.wrap (k2 + 1)) : Value) = (iV (k2 + 1) : Value)]) (Ao (wr (by omega))) ?_
           clear hf; intro a hf
           refine wpList_nil ?_
           have hd0 : (ll.drop k.toNat).getD k2.toNat ⟨0, 0⟩ = ll.getD (k + k2).toNat ⟨0, 0⟩ := by rw [getD_drop]; congr 1; omega
           have hd1 : (ll.drop k.toNat).getD (k2 - 1).toNat ⟨0, 0⟩ = ll.getD ((k + k2).toNat - 1) ⟨0, 0⟩ := by rw [getD_drop]; congr 1; omega
           have hct2 : Cmp l ll m.toNat (k + (k2 + 1)).toNat := by
             rw [show (k + (k2 + 1)).toNat = (k + k2).toNat + 1 by omega]
             have h1 : ll.getD (k + k2).toNat ⟨0, 0⟩ = ll.getD ((k + k2).toNat - 1) ⟨0, 0⟩ := by rw [← hd0, ← hd1]; exact (eqc_hand (by omega))
             exact hct.skip (d := ⟨0, 0⟩) (by omega) h1
           have hf := (hf.prune [0, 3, 4, 5]).to (env' := [(0, eS av l.length c), (3, eI m), (4, eS (cutA av k.toNat c 2) (l.length - k.toNat) (c - k.toNat)), (5, eI (k2 + 1))]) (by kernel_rfl)
           refine hL2 _ _ _ (by omega) ⟨m, k2 + 1, ll, rfl, hf.conv (Ac rfl (Ac rfl (Ac rfl (Ao rfl)))), hM, hk0, hO, hct2, (by omega)⟩
       · have hc4 := (nU hc4r)
         refine wp_exit ?_
         refine hK12 _ _ ?_
         refine wp_seq_k (fun K19 hK19 => ?_)
         refine wp_region_lit ?_
         refine q0 hf hM [0, 3] [{}, {}, { sp := true, hint := some (.slice (cutA av m.toNat c 2) (l.length - m.toNat) (c - m.toNat)) }] (nw := [(56, eS (cutA av m.toNat c 2) (l.length - m.toNat) (c - m.toNat))]) (ob := [0 ≤ (m : Int) ∧ (m : Int) ≤ ((l.length : Nat) : Int), (.slice (cutA av (m : Int).toNat c 2) (l.length - (m : Int).toNat) (c - (m : Int).toNat) : Value) = (.slice (cutA av m.toNat c 2) (l.length - m.toNat) (c - m.toNat) : Value)]) (Ac (by have := ((own_arr (hO.own _ (List.Mem.head _)))).le; omega) (Ao (by first | rfl | (simp; done) | (simp; omega)))) ?_
         clear hf; intro a hf
         refine sxclear hf hM hO rfl rfl rfl (m := m.toNat) rfl Tryd.underlying50 (z := (⟨0, 0⟩ : H2)) (by kernel_rfl) (fun _ => rfl) fH_one rfl (by omega) ?_
         clear hf; intro a w4 hf hM hO hk
         have hk0 := hk0.then hk (by intro i hi h; exact h)
         clear hk
         refine wpList_nil ?_
         refine hK19 _ _ ?_
         refine wp_seq_k (fun K20 hK20 => ?_)
         refine wp_region_lit ?_
         refine q0 hf hM [] [{}, {}] (nw := [(58, eI m), (57, eS av l.length c)]) An ?_
         clear hf; intro a hf
         refine sxval hf rfl rfl rfl rfl (v := .slice av m.toNat c) (ob := []) (by kernel_rfl) An (by rw [show (.slice av m.toNat c : Value) = .slice av (m : Int).toNat c from (by simp)]; exact ox_slice_h rfl rfl rfl Tryd.underlying50 (sz := 2) (by kernel_rfl) (by have := ((own_arr (hO.own _ (List.Mem.head _)))).le; omega)) ?_
         clear hf; intro a hf
         have hO := hO.cut (fun _ => rfl) (m := m.toNat) (by omega)
         replace hO : OwnOk base [] [oS 39 2 (.slice av m.toNat c) m.toNat (flat fH ((ll.take m.toNat ++ List.replicate (l.length - m.toNat) (⟨0, 0⟩ : H2)).take m.toNat))] w4 := hO
         have el : ((ll.take m.toNat ++ List.replicate (l.length - m.toNat) (⟨0, 0⟩ : H2)).take m.toNat) = (comp l) := (hct.done (by omega) _)
         rw [el] at hO; clear el
         have en : (m.toNat : Nat) = (comp l).length := (hct.lenEq (by omega))
         replace hO := hO.lenTo en
         have hf := (hf.prune [59, 58, 57]).to (env' := [(59, eS av m.toNat c), (58, eI m), (57, eS av l.length c)]) (by kernel_rfl)
         replace hf : Fr 61 [(59, eS av (comp l).length c), (58, eI m), (57, eS av l.length c)] a := hf.conv (Ac (by first | (rw [en]; rfl) | exact congrArg (fun z => Value.slice (av) z (c)) en) (Ac rfl (Ao rfl)))
         clear en
         replace hO : OwnOk base [] [oS 39 2 (.slice av (comp l).length c) (comp l).length (flat fH (comp l))] w4 := hO
         refine q0 hf hM [] [{}] (nw := [(2, eS av (comp l).length c)]) An ?_
         clear hf; intro a hf
         refine wpList_nil ?_
         refine hK20 _ _ ?_
         refine wp_ret ?_
         refine qr (fn := Tryd.f78) hf hM [] (l := [.slice av (comp l).length c]) (ob := []) An ?_
         show (.slice av (comp l).length c : Value) = .slice av (comp l).length c ∧ World.ownsRow w4 base 39 2 (.slice av (comp l).length c) (comp l).length (flat fH (comp l)) ∧ Keep (fun i => Value.ownBlock (.slice av l.length c) = some i) w w4
         exact ⟨rfl, hO.own _ (List.Mem.head _), hk0⟩
     · have hc3 := hc3r
       try simp only [Bool.or_eq_true, Bool.and_eq_true, Bool.not_eq_true', Bool.not_eq_false', Bool.or_eq_false_iff, Bool.and_eq_false_iff, decide_eq_true_eq, decide_eq_false_iff_not, beq_iff_eq, bne_iff_ne, beq_eq_false_iff_ne, bne_eq_false_iff_eq, Bool.and_true, Bool.true_and, ne_eq] at hc3
       refine wp_skip ?_
       refine hK9 _ _ ?_
       refine wp_region_lit ?_
       refine q0 hf hM [25, 24, 23, 22, 21, 20, 19, 18, 17, 16, 0] [{}, { hint := some (iV (k + 1)) }, {}] (nw := [(3, eI (k + 1))]) (ob := [(iV (IntKind.i64.wrap (k + 1)) : Value) = (iV (k + 1) : Value)]) (Ao (wr (by omega))) ?_
       clear hf; intro a hf
       refine wpList_nil ?_
       have hcp2 : comp (l.take (k + 1).toNat) = l.take (k + 1).toNat := by
         have h1 := comp_go (d := ⟨0, 0⟩) (l := l) (k := k.toNat) (by omega) (by omega) hcp (by rw [show k.toNat - 1 = (k - 1).toNat by omega]; exact (nec_hand (by omega)))
         rw [show (k + 1).toNat = k.toNat + 1 by omega]
         exact h1
       have hf := (hf.prune [0, 3]).to (env' := [(0, eS av l.length c), (3, eI (k + 1))]) (by kernel_rfl)
       refine hL1 _ _ _ (by omega) ⟨k + 1, rfl, hf.conv (Ac rfl (Ao rfl)), hM, hk0, hO, (by omega), hcp2⟩
   · have hc2 := (nU hc2r)
     refine wp_exit ?_
     refine hK5 _ _ ?_
     refine wp_seq_k (fun K21 hK21 => ?_)
     refine wp_region_lit ?_
     refine q0 hf hM [] [{}, {}] (nw := [(2, eS av l.length c)]) An ?_
     clear hf; intro a hf
     refine wpList_nil ?_
     refine hK21 _ _ ?_
     refine wp_ret ?_
     refine qr (fn := Tryd.f78) hf hM [] (l := [.slice av l.length c]) (ob := []) An ?_
     show (.slice av l.length c : Value) = .slice av (comp l).length c ∧ World.ownsRow w1 base 39 2 (.slice av (comp l).length c) (comp l).length (flat fH (comp l)) ∧ Keep (fun i => Value.ownBlock (.slice av l.length c) = some i) w w1
     first
       | (rw [comp_one l (by omega)]; exact ⟨rfl, hO.own _ (List.Mem.head _), hk0⟩)
       | (have e : comp l = l := by have h1 : l.take k.toNat = l := List.take_of_length_le (by omega)
                                    rw [h1] at hcp; exact hcp
          rw [e]; exact ⟨rfl, hO.own _ (List.Mem.head _), hk0⟩)

set_option maxRecDepth 10000 in
set_option maxHeartbeats 1600000 in
theorem sorted_hand (av : Option Addr) (l : List H2) (c : Nat) (w : World) (hav : Arr w 2 av l.length c (flat fH l)) (hbav : l.length ≤ 1000000) :
    Calls Tryd.prog 63 #[.slice av l.length c, .func (.func 64) #[] #[]] w (Ret fun v w' => ∃ a' c', v = .slice a' (ordS ltH l).length c' ∧ Keep Nn w w' ∧ World.ownsRow w' w.heap.size 39 2 (.slice a' (ordS ltH l).length c') (ordS ltH l).length (flat fH (ordS ltH l))) := by
 refine sxenter (n := 13) (args := [.slice av l.length c, .func (.func 64) #[] #[]]) Tryd.func63 rfl rfl rfl fun a hf => ?_
 replace hf : Fr 13 [(0, eS av l.length c), (1, .val (.func (.func 64) #[] #[]))] a := hf
 have hM : MemOk [] w := MemOk.nil w
 have hk0 : Keep Nn w w := Keep.refl _ _
 refine wp_seq_k (fun K1 hK1 => ?_)
 refine wp_region_lit ?_
 refine q0 hf hM [0, 1] [{}] (nw := []) An ?_
 clear hf; intro a hf
 refine wpList_nil ?_
 refine hK1 _ _ ?_
 refine wp_seq_k (fun K2 hK2 => ?_)
 refine wp_region_lit ?_
 refine q0 hf hM [1] [{}] (nw := [(6, eS av l.length c)]) An ?_
 clear hf; intro a hf
 refine sxcall hf rfl rfl rfl rfl (g := 76) (vs := [.slice av l.length c]) (ob := []) (by as_aux_lemma => kernel_rfl) An enters76 (clone_hand av l c w  (hav.keepNn hk0) (by first | omega | (simp; omega) | (simp; done) | exact Nat.le_trans (byKinds_len _ _) (by omega) | decide)) ?_
 clear hf; rintro _ w1 a ⟨a'1, c'1, rfl, hk, hx1⟩ hf
 have hO : OwnOk w.heap.size [] [] w := OwnOk.nil hM
 have hO := hO.more hM hk (by have := hk0.size; omega) hx1
 replace hO : OwnOk w.heap.size [] [oS 39 2 (.slice a'1 l.length c'1) l.length (flat fH l)] _ := hO
 have hM := hM.keepNn hk
 have hk0 := hk0.trans hk.nn
 clear hk
 refine q0 hf hM [1] [{}] (nw := [(5, eS a'1 l.length c'1)]) An ?_
 clear hf; intro a hf
 refine wpList_nil ?_
 refine hK2 _ _ ?_
 refine wp_seq_k (fun K3 hK3 => ?_)
 refine wp_region_lit ?_
 refine q0 hf hM [5] [{}, {}] (nw := [(9, .val (.func (.func 64) #[] #[])), (8, eS a'1 l.length c'1)]) An ?_
 clear hf; intro a hf
 replace hO : OwnOk w.heap.size [] [oS 39 2 (.slice a'1 l.length c'1) l.length (flat fH l)] w1 := OwnOk.front (l1 := []) (l2 := []) hO
 refine sxcall hf rfl rfl rfl rfl (g := 77) (vs := [.slice a'1 l.length c'1, .func (.func 64) #[] #[]]) (ob := []) (by as_aux_lemma => kernel_rfl) An enters77 (sort_hand (hO.own _ (List.Mem.head _)) hbav) ?_
 clear hf; rintro _ w2 a ⟨rfl, ls1, hpm1, hsd1, hx, hk⟩ hf
 have hM := hO.memTurn hM hk; have hO := hO.turn hk hx; have hk0 := hk0.then hk (by intro i hi h; have := ((hO.own _ (List.Mem.head _)).lt i h).1; omega); clear hk hx
 have hlls1 : l.length = ls1.length := hpm1.length_eq.symm
 rw [hlls1] at hf hO
 have hf := (hf.prune [10, 9, 8, 5]).to (env' := [(10, .val (.tuple #[])), (9, .val (.func (.func 64) #[] #[])), (8, eS a'1 ls1.length c'1), (5, eS a'1 ls1.length c'1)]) (by kernel_rfl)
 replace hO : OwnOk w.heap.size [] [oS 39 2 (.slice a'1 ls1.length c'1) ls1.length (flat fH ls1)] w2 := hO
 refine wpList_nil ?_
 refine hK3 _ _ ?_
 refine wp_seq_k (fun K4 hK4 => ?_)
 refine wp_region_lit ?_
 refine q0 hf hM [] [{}] (nw := [(11, eS a'1 ls1.length c'1)]) An ?_
 clear hf; intro a hf
 replace hO : OwnOk w.heap.size [] [oS 39 2 (.slice a'1 ls1.length c'1) ls1.length (flat fH ls1)] w2 := OwnOk.front (l1 := []) (l2 := []) hO
 refine sxcall hf rfl rfl rfl rfl (g := 78) (vs := [.slice a'1 ls1.length c'1]) (ob := []) (by as_aux_lemma => kernel_rfl) An enters78 (compact_hand _ a'1 ls1 c'1 w2 (hO.own _ (List.Mem.head _)) (by have := hk0.size; omega) (by omega)) ?_
 clear hf; rintro _ w3 a ⟨rfl, hx, hk⟩ hf
 have hM := hO.memTurn hM hk; have hk0 := hk0.then hk (by intro i hi h; have := ((hO.own _ (List.Mem.head _)).lt i h).1; omega); have hO := hO.turn2 hk hx; clear hk hx
 replace hO : OwnOk w.heap.size [] [oS 39 2 (.slice a'1 (comp ls1).length c'1) (comp ls1).length (flat fH (comp ls1))] w3 := hO
 refine q0 hf hM [] [{}] (nw := [(4, eS a'1 (comp ls1).length c'1)]) An ?_
 clear hf; intro a hf
 refine wpList_nil ?_
 refine hK4 _ _ ?_
 refine wp_ret ?_
 refine qr (fn := Tryd.f63) hf hM [] (l := [.slice a'1 (comp ls1).length c'1]) (ob := []) An ?_
 show ∃ a' c', (.slice a'1 (comp ls1).length c'1 : Value) = .slice a' (ordS ltH l).length c' ∧ Keep Nn w w3 ∧ World.ownsRow w3 w.heap.size 39 2 (.slice a' (ordS ltH l).length c') (ordS ltH l).length (flat fH (ordS ltH l))
 have e := comp_ordS ordH hpm1 hsd1
 rw [e] at hO
 exact ⟨_, _, by rw [e], hk0, hO.own _ (List.Mem.head _)⟩

set_option maxRecDepth 10000 in
set_option maxHeartbeats 1600000 in
theorem oHandles (av : Option Addr) (l : List H2) (c : Nat) (w : World) (hav : Arr w 2 av l.length c (flat fH l)) (hbav : l.length ≤ 1000000) :
    Calls Tryd.prog 43 #[.slice av l.length c] w (Ret fun v w' => ∃ a' c', v = .slice a' (ordS ltH l).length c' ∧ Keep Nn w w' ∧ World.ownsRow w' w.heap.size 39 2 (.slice a' (ordS ltH l).length c') (ordS ltH l).length (flat fH (ordS ltH l))) := by
 refine sxenter (n := 5) (args := [.slice av l.length c]) Tryd.func43 rfl rfl rfl fun a hf => ?_
 replace hf : Fr 5 [(0, eS av l.length c)] a := hf
 have hM : MemOk [] w := MemOk.nil w
 have hk0 : Keep Nn w w := Keep.refl _ _
 refine wp_seq_k (fun K1 hK1 => ?_)
 refine wp_region_lit ?_
 refine q0 hf hM [0] [{}] (nw := []) An ?_
 clear hf; intro a hf
 refine wpList_nil ?_
 refine hK1 _ _ ?_
 refine wp_seq_k (fun K2 hK2 => ?_)
 refine wp_region_lit ?_
 refine q0 hf hM [] [{}] (nw := [(3, eS av l.length c)]) An ?_
 clear hf; intro a hf
 refine sxcall hf rfl rfl rfl rfl (g := 63) (vs := [.slice av l.length c, .func (.func 64) #[] #[]]) (ob := []) (by as_aux_lemma => kernel_rfl) An enters63 (sorted_hand av l c w  (hav.keepNn hk0) (by first | omega | (simp; omega) | (simp; done) | exact Nat.le_trans (byKinds_len _ _) (by omega) | decide)) ?_
 clear hf; rintro _ w1 a ⟨a'1, c'1, rfl, hk, hx1⟩ hf
 have hO : OwnOk w.heap.size [] [] w := OwnOk.nil hM
 have hO := hO.more hM hk (by have := hk0.size; omega) hx1
 replace hO : OwnOk w.heap.size [] [oS 39 2 (.slice a'1 (ordS ltH l).length c'1) (ordS ltH l).length (flat fH (ordS ltH l))] _ := hO
 have hM := hM.keepNn hk
 have hk0 := hk0.trans hk.nn
 clear hk
 refine q0 hf hM [] [{}] (nw := [(2, eS a'1 (ordS ltH l).length c'1)]) An ?_
 clear hf; intro a hf
 refine wpList_nil ?_
 refine hK2 _ _ ?_
 refine wp_ret ?_
 refine qr (fn := Tryd.f43) hf hM [] (l := [.slice a'1 (ordS ltH l).length c'1]) (ob := []) An ?_
 show ∃ a' c', (.slice a'1 (ordS ltH l).length c'1 : Value) = .slice a' (ordS ltH l).length c' ∧ Keep Nn w w1 ∧ World.ownsRow w1 w.heap.size 39 2 (.slice a' (ordS ltH l).length c') (ordS ltH l).length (flat fH (ordS ltH l))
 exact ⟨_, _, rfl, hk0, hO.own _ (List.Mem.head _)⟩

set_option maxRecDepth 10000 in
set_option maxHeartbeats 1600000 in
theorem rsameH (av : Option Addr) (l : List H2) (c : Nat) (bv : Option Addr) (m : List H2) (cm : Nat) (w : World) (hav : Arr w 2 av l.length c (flat fH l)) (hbav : l.length ≤ 1000000) (hbv : Arr w 2 bv m.length cm (flat fH m)) (hbbv : m.length ≤ 1000000) :
    Calls Tryd.prog 24 #[.slice av l.length c, .slice bv m.length cm] w (Ret fun v w' => v = .bool (sameL l m) ∧ Keep Nn w w') := by
 refine sxenter (n := 26) (args := [.slice av l.length c, .slice bv m.length cm]) Tryd.func24 rfl rfl rfl fun a hf => ?_
 replace hf : Fr 26 [(0, eS av l.length c), (1, eS bv m.length cm)] a := hf
 have hM : MemOk [] w := MemOk.nil w
 have hk0 : Keep Nn w w := Keep.refl _ _
 refine wp_seq_k (fun K1 hK1 => ?_)
 refine wp_region_lit ?_
 refine q0 hf hM [0, 1] [{}] (nw := []) An ?_
 clear hf; intro a hf
 refine wpList_nil ?_
 refine hK1 _ _ ?_
 refine wp_seq_k (fun K2 hK2 => ?_)
 refine wp_seq_k (fun K3 hK3 => ?_)
 refine wp_region_lit ?_
 refine q0 hf hM [0, 1] [{}, {}, {}, {}, {}] (nw := [(10, eB (((l.length : Int) : Int) != (m.length : Int)))]) An ?_
 clear hf; intro a hf
 refine wpList_nil ?_
 refine hK3 _ _ ?_
 refine qc hf (b := (((l.length : Int) : Int) != (m.length : Int))) (fun hc1r => ?_) (fun hc1r => ?_)
 · have hc1 := (nN hc1r)
   refine wp_seq_k (fun K4 hK4 => ?_)
   refine wp_region_lit ?_
   refine q0 hf hM [] [{}] (nw := [(4, eB false)]) An ?_
   clear hf; intro a hf
   refine wpList_nil ?_
   refine hK4 _ _ ?_
   refine wp_ret ?_
   refine qr (fn := Tryd.f24) hf hM [] (l := [bV false]) (ob := []) An ?_
   show (bV false : Value) = .bool (sameL l m) ∧ Keep Nn w w
   first | exact ⟨congrArg Value.bool (sameL_len (by assumption)).symm, hk0⟩ | exact ⟨congrArg Value.bool (sameL_at (j := i.toNat) ⟨0, 0⟩ (h2_neB (by assumption))).symm, hk0⟩
 · have hc1 := (nM hc1r)
   refine wp_skip ?_
   refine hK2 _ _ ?_
   refine wp_seq_k (fun K5 hK5 => ?_)
   refine wp_seq_k (fun K6 hK6 => ?_)
   refine wp_region_lit ?_
   refine q0 hf hM [0, 1] [{}, {}, {}] (nw := [(13, eI 0), (12, eI (l.length : Int))]) An ?_
   clear hf; intro a hf
   refine wpList_nil ?_
   refine hK6 _ _ ?_
   refine wp_block ?_
   have hf := (hf.prune [0, 1, 12, 13]).to (env' := [(0, eS av l.length c), (1, eS bv m.length cm), (12, eI (l.length : Int)), (13, eI 0)]) (by kernel_rfl)
   refine sxloop (fun zm a w1 => ∃ (i : Int), zm = ((l.length : Int) - i).toNat ∧ Fr 26 [(0, eS av l.length c), (1, eS bv m.length cm), (12, eI (l.length : Int)), (13, eI i)] a ∧ MemOk [] w1 ∧ Keep Nn w w1 ∧ (0 ≤ i ∧ i ≤ (l.length : Int)) ∧ (∀ j, j < i.toNat → l.getD j ⟨0, 0⟩ = m.getD j ⟨0, 0⟩)) _ ⟨0, rfl, hf.conv (Ac rfl (Ac rfl (Ac rfl (Ao rfl)))), hM, hk0, (by omega), (fun j hj => by simp at hj)⟩ ?_
   clear hf hM hk0
   rintro _ a w1 ⟨i, rfl, hf, hM, hk0, hi, hsm⟩ L1 hL1
   refine wp_seq_k (fun K7 hK7 => ?_)
   refine wp_region_lit ?_
   refine q0 hf hM [0, 1, 12, 13] [{}] (nw := [(14, eB (decide ((i : Int) < (l.length : Int))))]) An ?_
   clear hf; intro a hf
   refine wpList_nil ?_
   refine hK7 _ _ ?_
   refine wp_seq_k (fun K8 hK8 => ?_)
   refine qc hf (b := (decide ((i : Int) < (l.length : Int)))) (fun hc2r => ?_) (fun hc2r => ?_)
   · have hc2 := (nT hc2r)
     refine wp_skip ?_
     refine hK8 _ _ ?_
     refine wp_seq_k (fun K9 hK9 => ?_)
     refine wp_block ?_
     refine wp_seq_k (fun K10 hK10 => ?_)
     refine wp_region_lit ?_
     refine q0 hf hM [0, 1, 12, 13] [{}, {}] (nw := [(5, eI i)]) An ?_
     clear hf; intro a hf
     refine wpList_nil ?_
     refine hK10 _ _ ?_
     refine wp_seq_k (fun K11 hK11 => ?_)
     replace hM := hM.drew; replace hk0 := hk0.drew
     obtain ⟨Cq1, hCq1i, hCq1e⟩ := qcls fun w' => MemOk [] w' ∧ Keep Nn w w' ∧ True
     refine sxdraw (C := Cq1) (.leaf [(0, true), (1, true), (2, true), (3, true), (4, true), (5, true), (6, true), (7, true), (8, true)]) (by kernel_rfl) (by kernel_rfl) (by as_aux_lemma => kernel_rfl) rfl (by as_aux_lemma => kernel_rfl) (by kernel_rfl) (hCq1i _ ⟨hM.sub (.slnil), hk0, trivial⟩) ?_
     refine sxleaf ?_
     have hC := (hCq1i _ ⟨hM.sub (.slnil), hk0, trivial⟩)
     refine qd hf hC (fun w' h => (hCq1e w' h).1) [0, 1, 12, 13] [{}, {}, { sp := true }, { os := [.ex (iV (l.getD i.toNat ⟨0, 0⟩).i), .ex (iV (l.getD i.toNat ⟨0, 0⟩).g)] }, {}, {}, { sp := true }, { os := [.ex (iV (m.getD i.toNat ⟨0, 0⟩).i), .ex (iV (m.getD i.toNat ⟨0, 0⟩).g)] }, { sp := true, hint := some (bV (!((((l.getD i.toNat ⟨0, 0⟩).i : Int) == (m.getD i.toNat ⟨0, 0⟩).i) && (((l.getD i.toNat ⟨0, 0⟩).g : Int) == (m.getD i.toNat ⟨0, 0⟩).g)))) }] (nw := [(24, eB (!((((l.getD i.toNat ⟨0, 0⟩).i : Int) == (m.getD i.toNat ⟨0, 0⟩).i) && (((l.getD i.toNat ⟨0, 0⟩).g : Int) == (m.getD i.toNat ⟨0, 0⟩).g)))), (23, .val (.agg #[iV (m.getD i.toNat ⟨0, 0⟩).i, iV (m.getD i.toNat ⟨0, 0⟩).g])), (22, .val (.pointer (some ((sa bv : Addr).add (i.toNat * 2))))), (21, eI i), (20, eS bv m.length cm), (19, .val (.agg #[iV (l.getD i.toNat ⟨0, 0⟩).i, iV (l.getD i.toNat ⟨0, 0⟩).g])), (18, .val (.pointer (some ((sa av : Addr).add (i.toNat * 2))))), (17, eI i), (16, eS av l.length c)]) (ob := [(0 : Int) ≤ i ∧ i < (l.length : Int), (av : Option Addr).isSome = true, (∀ w', Cq1 w' → w'.cell? (((sa av : Addr).add (i.toNat * 2)).add 0) = some (iV (l.getD i.toNat ⟨0, 0⟩).i)), (∀ w', Cq1 w' → w'.cell? (((sa av : Addr).add (i.toNat * 2)).add 1) = some (iV (l.getD i.toNat ⟨0, 0⟩).g)), (0 : Int) ≤ i ∧ i < (m.length : Int), (bv : Option Addr).isSome = true, (∀ w', Cq1 w' → w'.cell? (((sa bv : Addr).add (i.toNat * 2)).add 0) = some (iV (m.getD i.toNat ⟨0, 0⟩).i)), (∀ w', Cq1 w' → w'.cell? (((sa bv : Addr).add (i.toNat * 2)).add 1) = some (iV (m.getD i.toNat ⟨0, 0⟩).g)), (bV (!((((l.getD i.toNat ⟨0, 0⟩).i : Int) == (m.getD i.toNat ⟨0, 0⟩).i) && ((((l.getD i.toNat ⟨0, 0⟩).g : Int) == (m.getD i.toNat ⟨0, 0⟩).g) && true))) : Value) = (bV (!((((l.getD i.toNat ⟨0, 0⟩).i : Int) == (m.getD i.toNat ⟨0, 0⟩).i) && (((l.getD i.toNat ⟨0, 0⟩).g : Int) == (m.getD i.toNat ⟨0, 0⟩).g))) : Value)]) (Ac (by first | omega | (simp; done)) (Ac ((hav.keepNn hk0).some_ (by first | omega | (simp; done))) (Ac (fun w' hc => by obtain ⟨hM, hk0, hO⟩ := hCq1e w' hc; exact ((hav.keepNn hk0).get (fun _ => rfl) (by first | omega | (simp; done)) rfl)) (Ac (fun w' hc => by obtain ⟨hM, hk0, hO⟩ := hCq1e w' hc; exact ((hav.keepNn hk0).get (fun _ => rfl) (by first | omega | (simp; done)) rfl)) (Ac (by first | omega | (simp; done)) (Ac ((hbv.keepNn hk0).some_ (by first | omega | (simp; done))) (Ac (fun w' hc => by obtain ⟨hM, hk0, hO⟩ := hCq1e w' hc; exact ((hbv.keepNn hk0).get (fun _ => rfl) (by first | omega | (simp; done)) rfl)) (Ac (fun w' hc => by obtain ⟨hM, hk0, hO⟩ := hCq1e w' hc; exact ((hbv.keepNn hk0).get (fun _ => rfl) (by first | omega | (simp; done)) rfl)) (Ao (by simp)))))))))) ?_
     clear hf; intro a hf
     clear hC
     show K11 _ _
     refine hK11 _ _ ?_
     refine qc hf (b := (!((((l.getD i.toNat ⟨0, 0⟩).i : Int) == (m.getD i.toNat ⟨0, 0⟩).i) && (((l.getD i.toNat ⟨0, 0⟩).g : Int) == (m.getD i.toNat ⟨0, 0⟩).g)))) (fun hc3r => ?_) (fun hc3r => ?_)
     · have hc3 := hc3r
       try simp only [Bool.or_eq_true, Bool.and_eq_true, Bool.not_eq_true', Bool.not_eq_false', Bool.or_eq_false_iff, Bool.and_eq_false_iff, decide_eq_true_eq, decide_eq_false_iff_not, beq_iff_eq, bne_iff_ne, beq_eq_false_iff_ne, bne_eq_false_iff_eq, Bool.and_true, Bool.true_and, ne_eq] at hc3
       refine wp_seq_k (fun K12 hK12 => ?_)
       refine wp_region_lit ?_
       refine q0 hf hM [] [{}] (nw := [(4, eB false)]) An ?_
       clear hf; intro a hf
       refine wpList_nil ?_
       refine hK12 _ _ ?_
       refine wp_ret ?_
       refine qr (fn := Tryd.f24) hf hM [] (l := [bV false]) (ob := []) An ?_
       show (bV false : Value) = .bool (sameL l m) ∧ Keep Nn w w1.drew
       first | exact ⟨congrArg Value.bool (sameL_len (by assumption)).symm, hk0⟩ | exact ⟨congrArg Value.bool (sameL_at (j := i.toNat) ⟨0, 0⟩ (h2_neB (by assumption))).symm, hk0⟩
     · have hc3 := hc3r
       try simp only [Bool.or_eq_true, Bool.and_eq_true, Bool.not_eq_true', Bool.not_eq_false', Bool.or_eq_false_iff, Bool.and_eq_false_iff, decide_eq_true_eq, decide_eq_false_iff_not, beq_iff_eq, bne_iff_ne, beq_eq_false_iff_ne, bne_eq_false_iff_eq, Bool.and_true, Bool.true_and, ne_eq] at hc3
       refine wp_skip ?_
       refine hK9 _ _ ?_
       refine wp_region_lit ?_
       refine q0 hf hM [24, 23, 22, 21, 20, 19, 18, 17, 16, 0, 1, 12] [{ hint := some (iV (i + 1)) }, {}] (nw := [(13, eI (i + 1))]) (ob := [(iV (IntKind.i64.wrap (i + 1)) : Value) = (iV (i + 1) : Value)]) (Ao (wr (by omega))) ?_
       clear hf; intro a hf
       refine wpList_nil ?_
       have hsm2 := same_next ⟨0, 0⟩ (l := l) (m := m) (i := i) (by omega) hsm (h2_eqB (by assumption))
       have hf := (hf.prune [0, 1, 12, 13]).to (env' := [(0, eS av l.length c), (1, eS bv m.length cm), (12, eI (l.length : Int)), (13, eI (i + 1))]) (by kernel_rfl)
       refine hL1 _ _ _ (by omega) ⟨i + 1, rfl, hf.conv (Ac rfl (Ac rfl (Ac rfl (Ao rfl)))), hM, hk0, (by omega), hsm2⟩
   · have hc2 := (nU hc2r)
     refine wp_exit ?_
     refine hK5 _ _ ?_
     refine wp_seq_k (fun K13 hK13 => ?_)
     refine wp_region_lit ?_
     refine q0 hf hM [] [{}] (nw := [(4, eB true)]) An ?_
     clear hf; intro a hf
     refine wpList_nil ?_
     refine hK13 _ _ ?_
     refine wp_ret ?_
     refine qr (fn := Tryd.f24) hf hM [] (l := [bV true]) (ob := []) An ?_
     show (bV true : Value) = .bool (sameL l m) ∧ Keep Nn w w1
     exact ⟨congrArg Value.bool (sameL_all ⟨0, 0⟩ (by omega) fun j hj => hsm j (by omega)).symm, hk0⟩

set_option maxRecDepth 10000 in
set_option maxHeartbeats 1600000 in
theorem rhas (av : Option Addr) (l : List H2) (c : Nat) (ti tg : Int) (w : World) (hav : Arr w 2 av l.length c (flat fH l)) (hbav : l.length ≤ 1000000) :
    Calls Tryd.prog 23 #[.slice av l.length c, .agg #[iV ti, iV tg]] w (Ret fun v w' => v = .bool (inS l (⟨ti, tg⟩ : H2)) ∧ Keep Nn w w') := by
 refine sxenter (n := 17) (args := [.slice av l.length c, .agg #[iV ti, iV tg]]) Tryd.func23 rfl rfl rfl fun a hf => ?_
 replace hf : Fr 17 [(0, eS av l.length c), (1, .val (.agg #[iV ti, iV tg]))] a := hf
 have hM : MemOk [] w := MemOk.nil w
 have hk0 : Keep Nn w w := Keep.refl _ _
 refine wp_seq_k (fun K1 hK1 => ?_)
 refine wp_region_lit ?_
 refine q1 hf hM [0] [{ os := [.nw] }, {}] (nw := fun B1 => [(3, eP B1 0)]) (M' := fun B1 => [⟨B1, 39, [iV ti, iV tg]⟩]) (ob := fun B1 => []) (fun B1 => An) ?_
 clear hf hM; intro a w1 B1 hf hM hB hk
 have hbB1 : w.heap.size ≤ B1 := by have := hk0.size; omega
 have hk0 := hk0.then hk (by intro i _ h; cases h)
 clear hk hB
 refine wpList_nil ?_
 refine hK1 _ _ ?_
 refine wp_seq_k (fun K2 hK2 => ?_)
 refine wp_seq_k (fun K3 hK3 => ?_)
 refine wp_region_lit ?_
 refine q0 hf hM [3] [{}, {}, {}] (nw := [(9, eI 0), (8, eI (l.length : Int)), (7, eS av l.length c)]) An ?_
 clear hf; intro a hf
 refine wpList_nil ?_
 refine hK3 _ _ ?_
 refine wp_block ?_
 have hf := (hf.prune [3, 7, 8, 9]).to (env' := [(3, eP B1 0), (7, eS av l.length c), (8, eI (l.length : Int)), (9, eI 0)]) (by kernel_rfl)
 refine sxloop (fun zm a w1 => ∃ (i : Int), zm = ((l.length : Int) - i).toNat ∧ Fr 17 [(3, eP B1 0), (7, eS av l.length c), (8, eI (l.length : Int)), (9, eI i)] a ∧ MemOk [⟨B1, 39, [iV ti, iV tg]⟩] w1 ∧ Keep Nn w w1 ∧ (0 ≤ i ∧ i ≤ (l.length : Int)) ∧ (inS (l.take i.toNat) (⟨ti, tg⟩ : H2) = false)) _ ⟨0, rfl, hf.conv (Ac rfl (Ac rfl (Ac rfl (Ao rfl)))), hM, hk0, (by omega), (by simp [inS])⟩ ?_
 clear hf hM hk0
 rintro _ a w2 ⟨i, rfl, hf, hM, hk0, hi, hno⟩ L1 hL1
 refine wp_seq_k (fun K4 hK4 => ?_)
 refine wp_region_lit ?_
 refine q0 hf hM [3, 7, 8, 9] [{}] (nw := [(10, eB (decide ((i : Int) < (l.length : Int))))]) An ?_
 clear hf; intro a hf
 refine wpList_nil ?_
 refine hK4 _ _ ?_
 refine wp_seq_k (fun K5 hK5 => ?_)
 refine qc hf (b := (decide ((i : Int) < (l.length : Int)))) (fun hc1r => ?_) (fun hc1r => ?_)
 · have hc1 := (nT hc1r)
   refine wp_skip ?_
   refine hK5 _ _ ?_
   refine wp_seq_k (fun K6 hK6 => ?_)
   refine wp_block ?_
   refine wp_seq_k (fun K7 hK7 => ?_)
   refine wp_region_lit ?_
   refine q1 hf hM [3, 7, 8, 9] [{ sp := true }, { os := [.ex (iV (l.getD i.toNat ⟨0, 0⟩).i), .ex (iV (l.getD i.toNat ⟨0, 0⟩).g)] }, { os := [.nw] }, { os := [.st 1 0, .st 1 1] }] (nw := fun B4 => [(6, eP B4 0)]) (M' := fun B4 => [⟨B1, 39, [iV ti, iV tg]⟩, ⟨B4, 39, [iV (l.getD i.toNat ⟨0, 0⟩).i, iV (l.getD i.toNat ⟨0, 0⟩).g]⟩]) (ob := fun B4 => [(0 : Int) ≤ i ∧ i < (l.length : Int), (av : Option Addr).isSome = true, w2.cell? (((sa av : Addr).add (i.toNat * 2)).add 0) = some (iV (l.getD i.toNat ⟨0, 0⟩).i), w2.cell? (((sa av : Addr).add (i.toNat * 2)).add 1) = some (iV (l.getD i.toNat ⟨0, 0⟩).g), Ad B4 0, Ad B4 1]) (fun B4 => (Ac (by first | omega | (simp; done)) (Ac ((hav.keepNn hk0).some_ (by first | omega | (simp; done))) (Ac ((hav.keepNn hk0).get (fun _ => rfl) (by first | omega | (simp; done)) rfl) (Ac ((hav.keepNn hk0).get (fun _ => rfl) (by first | omega | (simp; done)) rfl) (Ac (ad _ _) (Ao (ad _ _)))))))) ?_
   clear hf hM; intro a w3 B4 hf hM hB hk
   have hbB4 : w.heap.size ≤ B4 := by have := hk0.size; omega
   have hk0 := hk0.thenNew hk (by simp [Mem.names] <;> omega)
   clear hk hB
   refine wpList_nil ?_
   refine hK7 _ _ ?_
   refine wp_seq_k (fun K8 hK8 => ?_)
   refine wp_region_lit ?_
   refine q0 hf hM [3, 7, 8, 9] [{ os := [.ld 1 0, .ld 1 1] }, { os := [.ld 0 0, .ld 0 1] }, { sp := true, hint := some (bV ((((l.getD i.toNat ⟨0, 0⟩).i : Int) == ti) && (((l.getD i.toNat ⟨0, 0⟩).g : Int) == tg))) }] (nw := [(15, eB ((((l.getD i.toNat ⟨0, 0⟩).i : Int) == ti) && (((l.getD i.toNat ⟨0, 0⟩).g : Int) == tg)))]) (ob := [Ad B4 0, Ad B4 1, Ad B1 0, Ad B1 1, (bV ((((l.getD i.toNat ⟨0, 0⟩).i : Int) == ti) && ((((l.getD i.toNat ⟨0, 0⟩).g : Int) == tg) && true)) : Value) = (bV ((((l.getD i.toNat ⟨0, 0⟩).i : Int) == ti) && (((l.getD i.toNat ⟨0, 0⟩).g : Int) == tg)) : Value)]) (Ac (ad _ _) (Ac (ad _ _) (Ac (ad _ _) (Ac (ad _ _) (Ao (by simp)))))) ?_
   clear hf; intro a hf
   refine wpList_nil ?_
   refine hK8 _ _ ?_
   refine qc hf (b := ((((l.getD i.toNat ⟨0, 0⟩).i : Int) == ti) && (((l.getD i.toNat ⟨0, 0⟩).g : Int) == tg))) (fun hc2r => ?_) (fun hc2r => ?_)
   · have hc2 := hc2r
     try simp only [Bool.or_eq_true, Bool.and_eq_true, Bool.not_eq_true', Bool.not_eq_false', Bool.or_eq_false_iff, Bool.and_eq_false_iff, decide_eq_true_eq, decide_eq_false_iff_not, beq_iff_eq, bne_iff_ne, beq_eq_false_iff_ne, bne_eq_false_iff_eq, Bool.and_true, Bool.true_and, ne_eq] at hc2
     refine wp_seq_k (fun K9 hK9 => ?_)
     refine wp_region_lit ?_
     refine q0 hf hM [] [{}] (nw := [(4, eB true)]) An ?_
     clear hf; intro a hf
     refine wpList_nil ?_
     refine hK9 _ _ ?_
     refine wp_ret ?_
     refine qr (fn := Tryd.f23) hf hM [] (l := [bV true]) (ob := []) An ?_
     show (bV true : Value) = .bool (inS l (⟨ti, tg⟩ : H2)) ∧ Keep Nn w w3
     exact ⟨congrArg Value.bool (inS_here (i := i) (d := ⟨0, 0⟩) (by omega) (eqc_hT (by omega))).symm, hk0⟩
   · have hc2 := hc2r
     try simp only [Bool.or_eq_true, Bool.and_eq_true, Bool.not_eq_true', Bool.not_eq_false', Bool.or_eq_false_iff, Bool.and_eq_false_iff, decide_eq_true_eq, decide_eq_false_iff_not, beq_iff_eq, bne_iff_ne, beq_eq_false_iff_ne, bne_eq_false_iff_eq, Bool.and_true, Bool.true_and, ne_eq] at hc2
     refine wp_skip ?_
     refine hK6 _ _ ?_
     refine wp_region_lit ?_
     refine q0 hf hM [3, 7, 8] [{ hint := some (iV (i + 1)) }, {}] (nw := [(9, eI (i + 1))]) (ob := [(iV (IntKind.i64.wrap (i + 1)) : Value) = (iV (i + 1) : Value)]) (Ao (wr (by omega))) ?_
     clear hf; intro a hf
     refine wpList_nil ?_
     have hno2 := inS_next (d := ⟨0, 0⟩) (by omega) hno (nec_hT (by omega))
     have hf := (hf.prune [3, 7, 8, 9]).to (env' := [(3, eP B1 0), (7, eS av l.length c), (8, eI (l.length : Int)), (9, eI (i + 1))]) (by kernel_rfl)
     replace hM : MemOk [⟨B1, 39, [iV ti, iV tg]⟩] w3 := hM.sub (.cons_cons _ (.cons _ .slnil))
     refine hL1 _ _ _ (by omega) ⟨i + 1, rfl, hf.conv (Ac rfl (Ac rfl (Ac rfl (Ao rfl)))), hM, hk0, (by omega), hno2⟩
 · have hc1 := (nU hc1r)
   refine wp_exit ?_
   refine hK2 _ _ ?_
   refine wp_seq_k (fun K10 hK10 => ?_)
   refine wp_region_lit ?_
   refine q0 hf hM [] [{}] (nw := [(4, eB false)]) An ?_
   clear hf; intro a hf
   refine wpList_nil ?_
   refine hK10 _ _ ?_
   refine wp_ret ?_
   refine qr (fn := Tryd.f23) hf hM [] (l := [bV false]) (ob := []) An ?_
   show (bV false : Value) = .bool (inS l (⟨ti, tg⟩ : H2)) ∧ Keep Nn w w2
   have e : l.take i.toNat = l := List.take_of_length_le (by omega)
   rw [e] at hno
   exact ⟨congrArg Value.bool hno.symm, hk0⟩
end Go.Proofs.YthofalkkdpjdlaaDoor
