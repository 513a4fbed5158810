/- layer 6: rows changed -/
import Derived.Test.YtifcgjnknikjkaaDoorBE1
namespace Go.Proofs.YtifcgjnknikjkaaDoor
open Go.Px
set_option linter.unusedVariables false
set_option linter.unusedSimpArgs false

set_option maxRecDepth 10000 in
set_option maxHeartbeats 1600000 in
theorem sch_bad (E : Nat → Addr) (av : Option Addr) (l : List V3) (c : Nat) (k x y : Int) (w : World) (hn0 : (firstBad l == 0) = false) (hav : Arr w 3 av l.length c (flat fV l)) (hG : Errs [0, 3, 4] w 185 E) :
    Calls Tryd.prog 6 #[.slice av l.length c, .agg #[iV k, iV x, iV y]] w (Ret fun v w' => v = .bool true ∧ Keep Nn w w') := by
 refine sxenter (n := 78) (args := [.slice av l.length c, .agg #[iV k, iV x, iV y]]) Tryd.func6 rfl rfl rfl fun a hf => ?_
 replace hf : Fr 78 [(0, eS av l.length c), (1, .val (.agg #[iV k, iV x, iV y]))] a := hf
 have hM : MemOk [] w := MemOk.nil w
 have hk0 : Keep Nn w w := Keep.refl _ _
 have hn : ¬ firstBad l = 0 := by simpa using hn0
 refine wp_seq_k (fun K1 hK1 => ?_)
 refine wp_region_lit ?_
 refine q1 hf hM [4, 3, 0] [{ os := [.nw] }, {}] (env' := fun B1 => [(4, eB false), (3, eP B1 0), (0, eS av l.length c)]) (M' := fun B1 => [⟨B1, 62, [iV k, iV x, iV y]⟩]) (ob := fun B1 => []) (fun B1 => An) ?_
 clear hf hM; intro a w1 B1 hf hM hB hk
 have hbB1 : w.heap.size ≤ B1 := by have := hk0.size; omega
 have hk0 := hk0.then hk (by intro i _ h; cases h)
 clear hk hB
 refine wpList_nil ?_
 refine hK1 _ _ ?_
 refine wp_seq_k (fun K2 hK2 => ?_)
 refine wp_seq_k (fun K3 hK3 => ?_)
 refine wp_region_lit ?_
 refine sxcall hf rfl rfl rfl rfl (g := 29) (vs := []) (ob := []) (by as_aux_lemma => kernel_rfl) An enters29 (alive6 E w1  (hG.keep hk0 (fun _ h => h))) ?_
 clear hf; rintro _ w2 a ⟨rfl, hk⟩ hf
 have hM := hM.keepNn hk
 have hk0 := hk0.trans hk.nn
 clear hk
 refine q0 hf hM [11, 4, 3, 0] [{}] (env' := [(11, eB false), (4, eB false), (3, eP B1 0), (0, eS av l.length c)]) (ob := []) An ?_
 clear hf; intro a hf
 refine wpList_nil ?_
 refine hK3 _ _ ?_
 refine sxcond hf (b := false) (by kernel_rfl) (fun h => by cases h) (fun _ => ?_)
 refine wp_skip ?_
 refine hK2 _ _ ?_
 refine wp_seq_k (fun K4 hK4 => ?_)
 refine wp_seq_k (fun K5 hK5 => ?_)
 refine wp_region_lit ?_
 refine q0 hf hM [14, 4, 3, 0] [{}, {}, {}] (env' := [(14, eB (decide (((l.length : Int) : Int) > 20))), (4, eB false), (3, eP B1 0), (0, eS av l.length c)]) (ob := []) An ?_
 clear hf; intro a hf
 refine wpList_nil ?_
 refine hK5 _ _ ?_
 refine qc hf (b := (decide (((l.length : Int) : Int) > 20))) (fun hc2r => ?_) (fun hc2r => ?_)
 · have hc2 := (nT hc2r)
   refine wp_seq_k (fun K6 hK6 => ?_)
   refine wp_region_lit ?_
   refine q0 hf hM [4] [{}] (env' := [(4, eB true)]) (ob := []) An ?_
   clear hf; intro a hf
   refine wpList_nil ?_
   refine hK6 _ _ ?_
   refine wp_ret ?_
   refine qr (fn := Tryd.f6) hf hM [] (l := [bV true]) (ob := []) An ?_
   show (bV true : Value) = .bool true ∧ Keep Nn w w2
   refine ⟨congrArg Value.bool ?_, hk0⟩
   first | rfl | (simp; done) | (simp_all; done)
 · have hc2 := (nU hc2r)
   refine wp_skip ?_
   refine hK4 _ _ ?_
   refine wp_seq_k (fun K7 hK7 => ?_)
   refine wp_region_lit ?_
   refine q0 hf hM [16, 4, 3] [{}] (env' := [(16, eS av l.length c), (4, eB false), (3, eP B1 0)]) (ob := []) An ?_
   clear hf; intro a hf
   refine sxcall hf rfl rfl rfl rfl (g := 33) (vs := [.slice av l.length c]) (ob := []) (by as_aux_lemma => kernel_rfl) An enters33 (rrow_bad av l c w2 hn0 (hav.keepNn hk0) (by first | omega | (simp; omega) | (simp; done) | exact Nat.le_trans (byKinds_len _ _) (by omega) | decide)) ?_
   clear hf; rintro _ w3 a ⟨rfl, hk⟩ hf
   have hM := hM.keepNn hk
   have hk0 := hk0.trans hk.nn
   clear hk
   refine q0 hf hM [6, 5, 4, 3] [{}, {}, {}, {}, {}] (env' := [(6, eI (firstBad l)), (5, eS none 0 0), (4, eB false), (3, eP B1 0)]) (ob := []) An ?_
   clear hf; intro a hf
   refine wpList_nil ?_
   refine hK7 _ _ ?_
   refine wp_seq_k (fun K8 hK8 => ?_)
   refine wp_seq_k (fun K9 hK9 => ?_)
   refine wp_region_lit ?_
   refine q0 hf hM [22, 5, 4, 3] [{}, {}, {}] (env' := [(22, eB (((firstBad l) : Int) != 0)), (5, eS none 0 0), (4, eB false), (3, eP B1 0)]) (ob := []) An ?_
   clear hf; intro a hf
   rcases Bool.eq_false_or_eq_true (((firstBad l) : Int) != 0) with hg1r | hg1r
   · have hg1 := (nN hg1r)
     have hf := hf.prune [22, 5, 4, 3]
     replace hf : Fr 78 [(22, eB (((firstBad l) : Int) != 0)), (5, eS none 0 0), (4, eB false), (3, eP B1 0)] a := hf
     replace hf := hf.conv (env' := [(22, eB true), (5, eS none 0 0), (4, eB false), (3, eP B1 0)]) (Ac (congrArg Value.bool hg1r) (Ac rfl (Ac rfl (Ao rfl))))
     refine q0 hf hM [23, 22, 5, 4, 3] [{ g := .off }] (env' := [(23, .val (undef)), (22, eB true), (5, eS none 0 0), (4, eB false), (3, eP B1 0)]) (ob := [true = !false]) (Ao rfl) ?_
     clear hf; intro a hf
     refine q0 hf hM [26, 5, 4, 3] [{ g := .off }, { g := .off }, {}] (env' := [(26, eB true), (5, eS none 0 0), (4, eB false), (3, eP B1 0)]) (ob := [true = !false, true = !false]) (Ac rfl (Ao rfl)) ?_
     clear hf; intro a hf
     refine wpList_nil ?_
     refine hK9 _ _ ?_
     refine sxcond hf (b := true) (by kernel_rfl) (fun _ => ?_) (fun h => by cases h)
     refine wp_seq_k (fun K10 hK10 => ?_)
     refine wp_region_lit ?_
     refine q0 hf hM [4] [{}] (env' := [(4, eB true)]) (ob := []) An ?_
     clear hf; intro a hf
     refine wpList_nil ?_
     refine hK10 _ _ ?_
     refine wp_ret ?_
     refine qr (fn := Tryd.f6) hf hM [] (l := [bV true]) (ob := []) An ?_
     show (bV true : Value) = .bool true ∧ Keep Nn w w3
     refine ⟨congrArg Value.bool ?_, hk0⟩
     first | rfl | (simp; done) | (simp_all; done)
   · have hg1 := (nM hg1r)
     have hf := hf.prune [22, 5, 4, 3]
     replace hf : Fr 78 [(22, eB (((firstBad l) : Int) != 0)), (5, eS none 0 0), (4, eB false), (3, eP B1 0)] a := hf
     replace hf := hf.conv (env' := [(22, eB false), (5, eS none 0 0), (4, eB false), (3, eP B1 0)]) (Ac (congrArg Value.bool hg1r) (Ac rfl (Ac rfl (Ao rfl))))
     refine q0 hf hM [23, 22, 5, 4, 3] [{ os := [.ld 0 0, .ld 0 1, .ld 0 2] }] (env' := [(23, .val (.agg #[iV k, iV x, iV y])), (22, eB false), (5, eS none 0 0), (4, eB false), (3, eP B1 0)]) (ob := [false = false, Ad B1 0, Ad B1 1, Ad B1 2]) (Ac rfl (Ac (ad _ _) (Ac (ad _ _) (Ao (ad _ _))))) ?_
     clear hf; intro a hf
     refine sxcallg hf rfl rfl rfl rfl rfl (g := 34) (vs := [.agg #[iV k, iV x, iV y]]) (ob := []) (by as_aux_lemma => kernel_rfl) An enters34 (rcheck k x y w3  ) ?_
     clear hf; rintro _ w4 a ⟨rfl, hk⟩ hf
     have hM := hM.keepNn hk
     have hk0 := hk0.trans hk.nn
     clear hk
     refine q0 hf hM [26, 5, 4, 3] [{}, {}] (env' := [(26, eB (((vcheck ⟨k, x, y⟩) : Int) != 0)), (5, eS none 0 0), (4, eB false), (3, eP B1 0)]) (ob := [false = false]) (Ao rfl) ?_
     clear hf; intro a hf
     refine wpList_nil ?_
     refine hK9 _ _ ?_
     refine qc hf (b := (((vcheck ⟨k, x, y⟩) : Int) != 0)) (fun hc4r => ?_) (fun hc4r => ?_)
     · have hc4 := (nN hc4r)
       refine wp_seq_k (fun K11 hK11 => ?_)
       refine wp_region_lit ?_
       refine q0 hf hM [4] [{}] (env' := [(4, eB true)]) (ob := []) An ?_
       clear hf; intro a hf
       refine wpList_nil ?_
       refine hK11 _ _ ?_
       refine wp_ret ?_
       refine qr (fn := Tryd.f6) hf hM [] (l := [bV true]) (ob := []) An ?_
       show (bV true : Value) = .bool true ∧ Keep Nn w w4
       refine ⟨congrArg Value.bool ?_, hk0⟩
       first | rfl | (simp; done) | (simp_all; done)
     · have hc4 := (nM hc4r)
       exfalso; simp_all

set_option maxRecDepth 10000 in
set_option maxHeartbeats 1600000 in
theorem sch_dup (E : Nat → Addr) (av : Option Addr) (l : List V3) (c : Nat) (k x y : Int) (w : World) (hn0 : (firstBad l == 0) = true) (hn1 : (noDup l) = false) (hav : Arr w 3 av l.length c (flat fV l)) (hG : Errs [0, 3, 4] w 185 E) :
    Calls Tryd.prog 6 #[.slice av l.length c, .agg #[iV k, iV x, iV y]] w (Ret fun v w' => v = .bool true ∧ Keep Nn w w') := by
 refine sxenter (n := 78) (args := [.slice av l.length c, .agg #[iV k, iV x, iV y]]) Tryd.func6 rfl rfl rfl fun a hf => ?_
 replace hf : Fr 78 [(0, eS av l.length c), (1, .val (.agg #[iV k, iV x, iV y]))] a := hf
 have hM : MemOk [] w := MemOk.nil w
 have hk0 : Keep Nn w w := Keep.refl _ _
 refine wp_seq_k (fun K1 hK1 => ?_)
 refine wp_region_lit ?_
 refine q1 hf hM [4, 3, 0] [{ os := [.nw] }, {}] (env' := fun B1 => [(4, eB false), (3, eP B1 0), (0, eS av l.length c)]) (M' := fun B1 => [⟨B1, 62, [iV k, iV x, iV y]⟩]) (ob := fun B1 => []) (fun B1 => An) ?_
 clear hf hM; intro a w1 B1 hf hM hB hk
 have hbB1 : w.heap.size ≤ B1 := by have := hk0.size; omega
 have hk0 := hk0.then hk (by intro i _ h; cases h)
 clear hk hB
 refine wpList_nil ?_
 refine hK1 _ _ ?_
 refine wp_seq_k (fun K2 hK2 => ?_)
 refine wp_seq_k (fun K3 hK3 => ?_)
 refine wp_region_lit ?_
 refine sxcall hf rfl rfl rfl rfl (g := 29) (vs := []) (ob := []) (by as_aux_lemma => kernel_rfl) An enters29 (alive6 E w1  (hG.keep hk0 (fun _ h => h))) ?_
 clear hf; rintro _ w2 a ⟨rfl, hk⟩ hf
 have hM := hM.keepNn hk
 have hk0 := hk0.trans hk.nn
 clear hk
 refine q0 hf hM [11, 4, 3, 0] [{}] (env' := [(11, eB false), (4, eB false), (3, eP B1 0), (0, eS av l.length c)]) (ob := []) An ?_
 clear hf; intro a hf
 refine wpList_nil ?_
 refine hK3 _ _ ?_
 refine sxcond hf (b := false) (by kernel_rfl) (fun h => by cases h) (fun _ => ?_)
 refine wp_skip ?_
 refine hK2 _ _ ?_
 refine wp_seq_k (fun K4 hK4 => ?_)
 refine wp_seq_k (fun K5 hK5 => ?_)
 refine wp_region_lit ?_
 refine q0 hf hM [14, 4, 3, 0] [{}, {}, {}] (env' := [(14, eB (decide (((l.length : Int) : Int) > 20))), (4, eB false), (3, eP B1 0), (0, eS av l.length c)]) (ob := []) An ?_
 clear hf; intro a hf
 refine wpList_nil ?_
 refine hK5 _ _ ?_
 refine qc hf (b := (decide (((l.length : Int) : Int) > 20))) (fun hc2r => ?_) (fun hc2r => ?_)
 · have hc2 := (nT hc2r)
   refine wp_seq_k (fun K6 hK6 => ?_)
   refine wp_region_lit ?_
   refine q0 hf hM [4] [{}] (env' := [(4, eB true)]) (ob := []) An ?_
   clear hf; intro a hf
   refine wpList_nil ?_
   refine hK6 _ _ ?_
   refine wp_ret ?_
   refine qr (fn := Tryd.f6) hf hM [] (l := [bV true]) (ob := []) An ?_
   show (bV true : Value) = .bool true ∧ Keep Nn w w2
   refine ⟨congrArg Value.bool ?_, hk0⟩
   first | rfl | (simp; done) | (simp_all; done)
 · have hc2 := (nU hc2r)
   refine wp_skip ?_
   refine hK4 _ _ ?_
   refine wp_seq_k (fun K7 hK7 => ?_)
   refine wp_region_lit ?_
   refine q0 hf hM [16, 4, 3] [{}] (env' := [(16, eS av l.length c), (4, eB false), (3, eP B1 0)]) (ob := []) An ?_
   clear hf; intro a hf
   refine sxcall hf rfl rfl rfl rfl (g := 33) (vs := [.slice av l.length c]) (ob := []) (by as_aux_lemma => kernel_rfl) An enters33 (rrow_dup av l c w2 hn0 hn1 (hav.keepNn hk0) (by first | omega | (simp; omega) | (simp; done) | exact Nat.le_trans (byKinds_len _ _) (by omega) | decide)) ?_
   clear hf; rintro _ w3 a ⟨rfl, hk⟩ hf
   have hM := hM.keepNn hk
   have hk0 := hk0.trans hk.nn
   clear hk
   refine q0 hf hM [6, 5, 4, 3] [{}, {}, {}, {}, {}] (env' := [(6, eI 4), (5, eS none 0 0), (4, eB false), (3, eP B1 0)]) (ob := []) An ?_
   clear hf; intro a hf
   refine wpList_nil ?_
   refine hK7 _ _ ?_
   refine wp_seq_k (fun K8 hK8 => ?_)
   refine wp_seq_k (fun K9 hK9 => ?_)
   refine wp_region_lit ?_
   refine q0 hf hM [23, 22, 5, 4, 3] [{}, {}, {}, { g := .off }] (env' := [(23, .val (undef)), (22, eB true), (5, eS none 0 0), (4, eB false), (3, eP B1 0)]) (ob := [true = !false]) (Ao rfl) ?_
   clear hf; intro a hf
   refine q0 hf hM [26, 5, 4, 3] [{ g := .off }, { g := .off }, {}] (env' := [(26, eB true), (5, eS none 0 0), (4, eB false), (3, eP B1 0)]) (ob := [true = !false, true = !false]) (Ac rfl (Ao rfl)) ?_
   clear hf; intro a hf
   refine wpList_nil ?_
   refine hK9 _ _ ?_
   refine sxcond hf (b := true) (by kernel_rfl) (fun _ => ?_) (fun h => by cases h)
   refine wp_seq_k (fun K10 hK10 => ?_)
   refine wp_region_lit ?_
   refine q0 hf hM [4] [{}] (env' := [(4, eB true)]) (ob := []) An ?_
   clear hf; intro a hf
   refine wpList_nil ?_
   refine hK10 _ _ ?_
   refine wp_ret ?_
   refine qr (fn := Tryd.f6) hf hM [] (l := [bV true]) (ob := []) An ?_
   show (bV true : Value) = .bool true ∧ Keep Nn w w3
   refine ⟨congrArg Value.bool ?_, hk0⟩
   first | rfl | (simp; done) | (simp_all; done)

set_option maxRecDepth 10000 in
set_option maxHeartbeats 1600000 in
theorem sch_v (E : Nat → Addr) (av : Option Addr) (l : List V3) (c : Nat) (k x y : Int) (w : World) (hn0 : (firstBad l == 0) = true) (hn1 : (noDup l) = true) (hn2 : (vcheck ⟨k, x, y⟩ == 0) = false) (hav : Arr w 3 av l.length c (flat fV l)) (hG : Errs [0, 3, 4] w 185 E) :
    Calls Tryd.prog 6 #[.slice av l.length c, .agg #[iV k, iV x, iV y]] w (Ret fun v w' => v = .bool true ∧ Keep Nn w w') := by
 refine sxenter (n := 78) (args := [.slice av l.length c, .agg #[iV k, iV x, iV y]]) Tryd.func6 rfl rfl rfl fun a hf => ?_
 replace hf : Fr 78 [(0, eS av l.length c), (1, .val (.agg #[iV k, iV x, iV y]))] a := hf
 have hM : MemOk [] w := MemOk.nil w
 have hk0 : Keep Nn w w := Keep.refl _ _
 have hn : ¬ vcheck ⟨k, x, y⟩ = 0 := by simpa using hn2
 refine wp_seq_k (fun K1 hK1 => ?_)
 refine wp_region_lit ?_
 refine q1 hf hM [4, 3, 0] [{ os := [.nw] }, {}] (env' := fun B1 => [(4, eB false), (3, eP B1 0), (0, eS av l.length c)]) (M' := fun B1 => [⟨B1, 62, [iV k, iV x, iV y]⟩]) (ob := fun B1 => []) (fun B1 => An) ?_
 clear hf hM; intro a w1 B1 hf hM hB hk
 have hbB1 : w.heap.size ≤ B1 := by have := hk0.size; omega
 have hk0 := hk0.then hk (by intro i _ h; cases h)
 clear hk hB
 refine wpList_nil ?_
 refine hK1 _ _ ?_
 refine wp_seq_k (fun K2 hK2 => ?_)
 refine wp_seq_k (fun K3 hK3 => ?_)
 refine wp_region_lit ?_
 refine sxcall hf rfl rfl rfl rfl (g := 29) (vs := []) (ob := []) (by as_aux_lemma => kernel_rfl) An enters29 (alive6 E w1  (hG.keep hk0 (fun _ h => h))) ?_
 clear hf; rintro _ w2 a ⟨rfl, hk⟩ hf
 have hM := hM.keepNn hk
 have hk0 := hk0.trans hk.nn
 clear hk
 refine q0 hf hM [11, 4, 3, 0] [{}] (env' := [(11, eB false), (4, eB false), (3, eP B1 0), (0, eS av l.length c)]) (ob := []) An ?_
 clear hf; intro a hf
 refine wpList_nil ?_
 refine hK3 _ _ ?_
 refine sxcond hf (b := false) (by kernel_rfl) (fun h => by cases h) (fun _ => ?_)
 refine wp_skip ?_
 refine hK2 _ _ ?_
 refine wp_seq_k (fun K4 hK4 => ?_)
 refine wp_seq_k (fun K5 hK5 => ?_)
 refine wp_region_lit ?_
 refine q0 hf hM [14, 4, 3, 0] [{}, {}, {}] (env' := [(14, eB (decide (((l.length : Int) : Int) > 20))), (4, eB false), (3, eP B1 0), (0, eS av l.length c)]) (ob := []) An ?_
 clear hf; intro a hf
 refine wpList_nil ?_
 refine hK5 _ _ ?_
 refine qc hf (b := (decide (((l.length : Int) : Int) > 20))) (fun hc2r => ?_) (fun hc2r => ?_)
 · have hc2 := (nT hc2r)
   refine wp_seq_k (fun K6 hK6 => ?_)
   refine wp_region_lit ?_
   refine q0 hf hM [4] [{}] (env' := [(4, eB true)]) (ob := []) An ?_
   clear hf; intro a hf
   refine wpList_nil ?_
   refine hK6 _ _ ?_
   refine wp_ret ?_
   refine qr (fn := Tryd.f6) hf hM [] (l := [bV true]) (ob := []) An ?_
   show (bV true : Value) = .bool true ∧ Keep Nn w w2
   refine ⟨congrArg Value.bool ?_, hk0⟩
   first | rfl | (simp; done) | (simp_all; done)
 · have hc2 := (nU hc2r)
   refine wp_skip ?_
   refine hK4 _ _ ?_
   refine wp_seq_k (fun K7 hK7 => ?_)
   refine wp_region_lit ?_
   refine q0 hf hM [16, 4, 3] [{}] (env' := [(16, eS av l.length c), (4, eB false), (3, eP B1 0)]) (ob := []) An ?_
   clear hf; intro a hf
   refine sxcall hf rfl rfl rfl rfl (g := 33) (vs := [.slice av l.length c]) (ob := []) (by as_aux_lemma => kernel_rfl) An enters33 (rrow_ok av l c w2 hn0 hn1 (hav.keepNn hk0) (by first | omega | (simp; omega) | (simp; done) | exact Nat.le_trans (byKinds_len _ _) (by omega) | decide)) ?_
   clear hf; rintro _ w3 a ⟨a'1, c'1, rfl, hk, hx1⟩ hf
   have hO : OwnOk w.heap.size [⟨B1, 62, [iV k, iV x, iV y]⟩] [] w2 := OwnOk.nil hM
   have hO := hO.more hM hk (by have := hk0.size; omega) hx1
   replace hO : OwnOk w.heap.size [⟨B1, 62, [iV k, iV x, iV y]⟩] [⟨62, 3, .slice a'1 (byKinds l 10).length c'1, (byKinds l 10).length, flat fV (byKinds l 10)⟩] _ := hO
   have hM := hM.keepNn hk
   have hk0 := hk0.trans hk.nn
   clear hk
   refine q0 hf hM [6, 5, 4, 3] [{}, {}, {}, {}, {}] (env' := [(6, eI 0), (5, eS a'1 (byKinds l 10).length c'1), (4, eB false), (3, eP B1 0)]) (ob := []) An ?_
   clear hf; intro a hf
   refine wpList_nil ?_
   refine hK7 _ _ ?_
   refine wp_seq_k (fun K8 hK8 => ?_)
   refine wp_seq_k (fun K9 hK9 => ?_)
   refine wp_region_lit ?_
   refine q0 hf hM [23, 22, 5, 4, 3] [{}, {}, {}, { os := [.ld 0 0, .ld 0 1, .ld 0 2] }] (env' := [(23, .val (.agg #[iV k, iV x, iV y])), (22, eB false), (5, eS a'1 (byKinds l 10).length c'1), (4, eB false), (3, eP B1 0)]) (ob := [false = false, Ad B1 0, Ad B1 1, Ad B1 2]) (Ac rfl (Ac (ad _ _) (Ac (ad _ _) (Ao (ad _ _))))) ?_
   clear hf; intro a hf
   refine sxcallg hf rfl rfl rfl rfl rfl (g := 34) (vs := [.agg #[iV k, iV x, iV y]]) (ob := []) (by as_aux_lemma => kernel_rfl) An enters34 (rcheck k x y w3  ) ?_
   clear hf; rintro _ w4 a ⟨rfl, hk⟩ hf
   have hO := hO.keepNn hk
   have hM := hM.keepNn hk
   have hk0 := hk0.trans hk.nn
   clear hk
   refine q0 hf hM [26, 5, 4, 3] [{}, {}] (env' := [(26, eB (((vcheck ⟨k, x, y⟩) : Int) != 0)), (5, eS a'1 (byKinds l 10).length c'1), (4, eB false), (3, eP B1 0)]) (ob := [false = false]) (Ao rfl) ?_
   clear hf; intro a hf
   refine wpList_nil ?_
   refine hK9 _ _ ?_
   refine qc hf (b := (((vcheck ⟨k, x, y⟩) : Int) != 0)) (fun hc3r => ?_) (fun hc3r => ?_)
   · have hc3 := (nN hc3r)
     refine wp_seq_k (fun K10 hK10 => ?_)
     refine wp_region_lit ?_
     refine q0 hf hM [4] [{}] (env' := [(4, eB true)]) (ob := []) An ?_
     clear hf; intro a hf
     refine wpList_nil ?_
     refine hK10 _ _ ?_
     refine wp_ret ?_
     refine qr (fn := Tryd.f6) hf hM [] (l := [bV true]) (ob := []) An ?_
     show (bV true : Value) = .bool true ∧ Keep Nn w w4
     refine ⟨congrArg Value.bool ?_, hk0⟩
     first | rfl | (simp; done) | (simp_all; done)
   · have hc3 := (nM hc3r)
     exfalso; simp_all

set_option maxRecDepth 10000 in
set_option maxHeartbeats 1600000 in
theorem sch_ok (E : Nat → Addr) (av : Option Addr) (l : List V3) (c : Nat) (k x y : Int) (w : World) (hn0 : (firstBad l == 0) = true) (hn1 : (noDup l) = true) (hn2 : (vcheck ⟨k, x, y⟩ == 0) = true) (hav : Arr w 3 av l.length c (flat fV l)) (hG : Errs [0, 3, 4] w 185 E) :
    Calls Tryd.prog 6 #[.slice av l.length c, .agg #[iV k, iV x, iV y]] w (Ret fun v w' => v = .bool true ∧ Keep Nn w w') := by
 refine sxenter (n := 78) (args := [.slice av l.length c, .agg #[iV k, iV x, iV y]]) Tryd.func6 rfl rfl rfl fun a hf => ?_
 replace hf : Fr 78 [(0, eS av l.length c), (1, .val (.agg #[iV k, iV x, iV y]))] a := hf
 have hM : MemOk [] w := MemOk.nil w
 have hk0 : Keep Nn w w := Keep.refl _ _
 have h0l : firstBad l = 0 := by simpa using hn0
 have h0 : firstBad (byKinds l 10) = 0 := firstBad_perm (byKinds_all h0l) h0l
 have hnd : noDup (byKinds l 10) = true := noDup_iff.2 (((byKinds_all h0l).map _).nodup_iff.2 (noDup_iff.1 hn1))
 have hv : vcheck ⟨k, x, y⟩ = 0 := by simpa using hn2
 have hrl := byKinds_len l 10
 have hs1 : sameL (byKinds ((dropV (byKinds l 10) k) ++ ([⟨k, x, y⟩] : List V3)) 10) (byKinds ((dropV (byKinds l 10) k) ++ ([⟨k, x, y⟩] : List V3)) 10) = true := sameL_refl _
 have hs2 : sameL (dropV (byKinds l 10) k) (dropV (byKinds l 10) k) = true := sameL_refl _
 have hs3 : sameL (byKinds l 10) (byKinds l 10) = true := sameL_refl _
 have hdl := dropV_len (byKinds l 10) k
 have hpl : (byKinds ((dropV (byKinds l 10) k) ++ ([⟨k, x, y⟩] : List V3)) 10).length ≤ l.length + 1 := Nat.le_trans (byKinds_len _ _) (by simp; omega)
 refine wp_seq_k (fun K1 hK1 => ?_)
 refine wp_region_lit ?_
 refine q1 hf hM [4, 3, 0] [{ os := [.nw] }, {}] (env' := fun B1 => [(4, eB false), (3, eP B1 0), (0, eS av l.length c)]) (M' := fun B1 => [⟨B1, 62, [iV k, iV x, iV y]⟩]) (ob := fun B1 => []) (fun B1 => An) ?_
 clear hf hM; intro a w1 B1 hf hM hB hk
 have hbB1 : w.heap.size ≤ B1 := by have := hk0.size; omega
 have hk0 := hk0.then hk (by intro i _ h; cases h)
 clear hk hB
 refine wpList_nil ?_
 refine hK1 _ _ ?_
 refine wp_seq_k (fun K2 hK2 => ?_)
 refine wp_seq_k (fun K3 hK3 => ?_)
 refine wp_region_lit ?_
 refine sxcall hf rfl rfl rfl rfl (g := 29) (vs := []) (ob := []) (by as_aux_lemma => kernel_rfl) An enters29 (alive6 E w1  (hG.keep hk0 (fun _ h => h))) ?_
 clear hf; rintro _ w2 a ⟨rfl, hk⟩ hf
 have hM := hM.keepNn hk
 have hk0 := hk0.trans hk.nn
 clear hk
 refine q0 hf hM [11, 4, 3, 0] [{}] (env' := [(11, eB false), (4, eB false), (3, eP B1 0), (0, eS av l.length c)]) (ob := []) An ?_
 clear hf; intro a hf
 refine wpList_nil ?_
 refine hK3 _ _ ?_
 refine sxcond hf (b := false) (by kernel_rfl) (fun h => by cases h) (fun _ => ?_)
 refine wp_skip ?_
 refine hK2 _ _ ?_
 refine wp_seq_k (fun K4 hK4 => ?_)
 refine wp_seq_k (fun K5 hK5 => ?_)
 refine wp_region_lit ?_
 refine q0 hf hM [14, 4, 3, 0] [{}, {}, {}] (env' := [(14, eB (decide (((l.length : Int) : Int) > 20))), (4, eB false), (3, eP B1 0), (0, eS av l.length c)]) (ob := []) An ?_
 clear hf; intro a hf
 refine wpList_nil ?_
 refine hK5 _ _ ?_
 refine qc hf (b := (decide (((l.length : Int) : Int) > 20))) (fun hc2r => ?_) (fun hc2r => ?_)
 · have hc2 := (nT hc2r)
   refine wp_seq_k (fun K6 hK6 => ?_)
   refine wp_region_lit ?_
   refine q0 hf hM [4] [{}] (env' := [(4, eB true)]) (ob := []) An ?_
   clear hf; intro a hf
   refine wpList_nil ?_
   refine hK6 _ _ ?_
   refine wp_ret ?_
   refine qr (fn := Tryd.f6) hf hM [] (l := [bV true]) (ob := []) An ?_
   show (bV true : Value) = .bool true ∧ Keep Nn w w2
   refine ⟨congrArg Value.bool ?_, hk0⟩
   first | rfl | (simp; done) | (simp_all; done)
 · have hc2 := (nU hc2r)
   refine wp_skip ?_
   refine hK4 _ _ ?_
   refine wp_seq_k (fun K7 hK7 => ?_)
   refine wp_region_lit ?_
   refine q0 hf hM [16, 4, 3] [{}] (env' := [(16, eS av l.length c), (4, eB false), (3, eP B1 0)]) (ob := []) An ?_
   clear hf; intro a hf
   refine sxcall hf rfl rfl rfl rfl (g := 33) (vs := [.slice av l.length c]) (ob := []) (by as_aux_lemma => kernel_rfl) An enters33 (rrow_ok av l c w2 hn0 hn1 (hav.keepNn hk0) (by first | omega | (simp; omega) | (simp; done) | exact Nat.le_trans (byKinds_len _ _) (by omega) | decide)) ?_
   clear hf; rintro _ w3 a ⟨a'1, c'1, rfl, hk, hx1⟩ hf
   have hO : OwnOk w.heap.size [⟨B1, 62, [iV k, iV x, iV y]⟩] [] w2 := OwnOk.nil hM
   have hO := hO.more hM hk (by have := hk0.size; omega) hx1
   replace hO : OwnOk w.heap.size [⟨B1, 62, [iV k, iV x, iV y]⟩] [⟨62, 3, .slice a'1 (byKinds l 10).length c'1, (byKinds l 10).length, flat fV (byKinds l 10)⟩] _ := hO
   have hM := hM.keepNn hk
   have hk0 := hk0.trans hk.nn
   clear hk
   refine q0 hf hM [6, 5, 4, 3] [{}, {}, {}, {}, {}] (env' := [(6, eI 0), (5, eS a'1 (byKinds l 10).length c'1), (4, eB false), (3, eP B1 0)]) (ob := []) An ?_
   clear hf; intro a hf
   refine wpList_nil ?_
   refine hK7 _ _ ?_
   refine wp_seq_k (fun K8 hK8 => ?_)
   refine wp_seq_k (fun K9 hK9 => ?_)
   refine wp_region_lit ?_
   refine q0 hf hM [23, 22, 5, 4, 3] [{}, {}, {}, { os := [.ld 0 0, .ld 0 1, .ld 0 2] }] (env' := [(23, .val (.agg #[iV k, iV x, iV y])), (22, eB false), (5, eS a'1 (byKinds l 10).length c'1), (4, eB false), (3, eP B1 0)]) (ob := [false = false, Ad B1 0, Ad B1 1, Ad B1 2]) (Ac rfl (Ac (ad _ _) (Ac (ad _ _) (Ao (ad _ _))))) ?_
   clear hf; intro a hf
   refine sxcallg hf rfl rfl rfl rfl rfl (g := 34) (vs := [.agg #[iV k, iV x, iV y]]) (ob := []) (by as_aux_lemma => kernel_rfl) An enters34 (rcheck k x y w3  ) ?_
   clear hf; rintro _ w4 a ⟨rfl, hk⟩ hf
   have hO := hO.keepNn hk
   have hM := hM.keepNn hk
   have hk0 := hk0.trans hk.nn
   clear hk
   refine q0 hf hM [26, 5, 4, 3] [{}, {}] (env' := [(26, eB (((vcheck ⟨k, x, y⟩) : Int) != 0)), (5, eS a'1 (byKinds l 10).length c'1), (4, eB false), (3, eP B1 0)]) (ob := [false = false]) (Ao rfl) ?_
   clear hf; intro a hf
   refine wpList_nil ?_
   refine hK9 _ _ ?_
   refine qc hf (b := (((vcheck ⟨k, x, y⟩) : Int) != 0)) (fun hc3r => ?_) (fun hc3r => ?_)
   · have hc3 := (nN hc3r)
     exfalso; simp_all
   · have hc3 := (nM hc3r)
     refine wp_skip ?_
     refine hK8 _ _ ?_
     refine wp_seq_k (fun K10 hK10 => ?_)
     replace hM := hM.drew; replace hk0 := hk0.drew; replace hO := hO.drew
     obtain ⟨C1, hC1d⟩ : ∃ C : World → Prop, C = fun w' => MemOk [⟨B1, 62, [iV k, iV x, iV y]⟩] w' ∧ Keep Nn w w' ∧ OwnOk w.heap.size [⟨B1, 62, [iV k, iV x, iV y]⟩] [⟨62, 3, .slice a'1 (byKinds l 10).length c'1, (byKinds l 10).length, flat fV (byKinds l 10)⟩] w' := ⟨_, rfl⟩
     have hC1i : ∀ w', (MemOk [⟨B1, 62, [iV k, iV x, iV y]⟩] w' ∧ Keep Nn w w' ∧ OwnOk w.heap.size [⟨B1, 62, [iV k, iV x, iV y]⟩] [⟨62, 3, .slice a'1 (byKinds l 10).length c'1, (byKinds l 10).length, flat fV (byKinds l 10)⟩] w') → C1 w' := fun w' h => by rw [hC1d]; exact h
     have hC1e : ∀ w', C1 w' → (MemOk [⟨B1, 62, [iV k, iV x, iV y]⟩] w' ∧ Keep Nn w w' ∧ OwnOk w.heap.size [⟨B1, 62, [iV k, iV x, iV y]⟩] [⟨62, 3, .slice a'1 (byKinds l 10).length c'1, (byKinds l 10).length, flat fV (byKinds l 10)⟩] w') := fun w' h => by rw [hC1d] at h; exact h
     refine sxdraw (C := C1) (.alt [(0, true), (1, true), (2, true), (4, true), (6, true), (7, true), (10, true), (11, true)] (.alt [(3, false)] (.leaf [(5, false), (8, false), (9, false), (12, false), (13, true)]) (.leaf [(8, false), (5, false), (9, false), (12, false), (13, true)])) (.leaf [(8, false), (3, false), (5, false), (9, false), (12, false), (13, true)])) (by kernel_rfl) (by kernel_rfl) (by as_aux_lemma => kernel_rfl) rfl (by as_aux_lemma => kernel_rfl) (by kernel_rfl) (hC1i _ ⟨hM.sub (.cons_cons _ .slnil), hk0, hO.sub (.cons_cons _ .slnil) (.cons_cons _ .slnil)⟩) ?_
     refine sxalts ?_
     have hC := (hC1i _ ⟨hM.sub (.cons_cons _ .slnil), hk0, hO.sub (.cons_cons _ .slnil) (.cons_cons _ .slnil)⟩)
     refine qd hf hC (fun w' h => (hC1e w' h).1) [38, 34, 33, 31, 29, 5, 4, 3] [{}, {}, { hint := some (iV (((byKinds l 10).length : Int) + 3)) }, {}, { os := [.ld 0 0, .ld 0 1, .ld 0 2] }, { os := [.ld 0 0, .ld 0 1, .ld 0 2] }, {}, {}] (env' := [(38, eI ((byKinds l 10).length : Int)), (34, .val (.agg #[iV k, iV x, iV y])), (33, .val (.agg #[iV k, iV x, iV y])), (31, eS a'1 (byKinds l 10).length c'1), (29, eI (((byKinds l 10).length : Int) + 3)), (5, eS a'1 (byKinds l 10).length c'1), (4, eB false), (3, eP B1 0)]) (ob := [(iV (IntKind.i64.wrap (((byKinds l 10).length : Int) + 3)) : Value) = (iV (((byKinds l 10).length : Int) + 3) : Value), Ad B1 0, Ad B1 1, Ad B1 2, Ad B1 0, Ad B1 1, Ad B1 2]) (Ac (wr (by omega)) (Ac (ad _ _) (Ac (ad _ _) (Ac (ad _ _) (Ac (ad _ _) (Ac (ad _ _) (Ao (ad _ _)))))))) ?_
     clear hf; intro a hf
     refine sxboth ?_ ?_
     ·
      refine sxalts ?_
      have hC := (hC1i _ ⟨hM.sub (.cons_cons _ .slnil), hk0, hO.sub (.cons_cons _ .slnil) (.cons_cons _ .slnil)⟩)
      refine scstep rfl ?_
      refine sxmake hf hM (L := _) (C := _) (l := 0) (c := ((byKinds l 10).length : Int) + 3) (by_ := 24) (zs := [iV 0, iV 0, iV 0]) rfl rfl rfl rfl rfl rfl Tryd.underlying23 (by kernel_rfl) (by omega) ?_
      clear hf hM; intro a w5 B9 hf hM hB hk
      have en : ((0 : Int).toNat) = 0 := (by omega)
      have ec0 : ((((byKinds l 10).length : Int) + 3 : Int).toNat) = ((byKinds l 10).length + 3) := (by omega)
      have ec : reps ((byKinds l 10).length + 3) [iV 0, iV 0, iV 0] = flat fV (List.replicate ((byKinds l 10).length + 3) (⟨0, 0, 0⟩ : V3)) := reps_flat (f := fV) (z := (⟨0, 0, 0⟩ : V3)) rfl _
      rw [en, ec0] at hf; rw [ec0, ec] at hM; clear en ec0 ec
      replace hM : MemOk [⟨B1, 62, [iV k, iV x, iV y]⟩, ⟨B9, 62, flat fV (List.replicate ((byKinds l 10).length + 3) (⟨0, 0, 0⟩ : V3))⟩] w5 := hM
      have hbB9 : w.heap.size ≤ B9 := by have := hk0.size; omega
      have hk0 := hk0.trans hk.nn
      have hO := hO.step hM hk.nn (by intro i h; simp only [Mem.names, List.map_cons, List.map_nil, List.mem_cons, List.not_mem_nil, or_false, List.map_append, List.cons_append, List.nil_append] at h ⊢; omega)
      clear hk hB
      have hC := (hC1i _ ⟨hM.sub (.cons_cons _ (.cons _ .slnil)), hk0, hO.sub (.cons_cons _ (.cons _ .slnil)) (.cons_cons _ .slnil)⟩)
      refine scdone hC ?_
      refine sxboth ?_ ?_
      ·
       refine sxleaf ?_
       have hC := (hC1i _ ⟨hM.sub (.cons_cons _ (.cons _ .slnil)), hk0, hO.sub (.cons_cons _ (.cons _ .slnil)) (.cons_cons _ .slnil)⟩)
       refine scstep rfl ?_
       refine sxappendM hf (M1 := [⟨B1, 62, [iV k, iV x, iV y]⟩]) (M2 := []) (B := B9) (e := 62) (cs := flat fV (List.replicate ((byKinds l 10).length + 3) (⟨0, 0, 0⟩ : V3))) hM (sz := 3) (by_ := 24) (k := 0) (cap := ((byKinds l 10).length + 3)) rfl rfl rfl rfl (av := a'1) (m := (byKinds l 10).length) (c := c'1) rfl rfl Tryd.underlying23 (by kernel_rfl) (news := flat fV (byKinds l 10)) (own_arr (hO.own _ (List.Mem.head _))) (flat_one1 fV_one) (by rw [flat_len (sz := 3) (fun _ => rfl), List.length_replicate]) (by simp only [maxLen]; omega) ?_
       clear hf hM; intro a w6 hf hM hk
       have en : (0 + (byKinds l 10).length : Nat) = (byKinds l 10).length := (by omega)
       have ec : (flat fV (List.replicate ((byKinds l 10).length + 3) (⟨0, 0, 0⟩ : V3))).take (0 * 3) ++ flat fV (byKinds l 10) ++ (flat fV (List.replicate ((byKinds l 10).length + 3) (⟨0, 0, 0⟩ : V3))).drop (0 * 3 + (flat fV (byKinds l 10)).length) = flat fV ((byKinds l 10) ++ List.replicate 3 (⟨0, 0, 0⟩ : V3)) := (by rw [flat_over (sz := 3) (fun _ => rfl)]; simp)
       rw [en] at hf
       replace hM : MemOk [⟨B1, 62, [iV k, iV x, iV y]⟩, ⟨B9, 62, flat fV ((byKinds l 10) ++ List.replicate 3 (⟨0, 0, 0⟩ : V3))⟩] w6 := by rw [← ec]; exact hM
       have hk0 := hk0.then hk (by intro i hi h; simp only [Is, List.mem_cons, List.not_mem_nil, or_false] at h; omega)
       have hO := hO.step hM (hk.mono (by intro i _ h; simp only [Is, Mem.names, List.map_cons, List.map_nil, List.mem_cons, List.not_mem_nil, or_false, List.map_append, List.cons_append, List.nil_append] at h ⊢; omega)) (by intro i h; simp only [Mem.names, List.map_cons, List.map_nil, List.mem_cons, List.not_mem_nil, or_false, List.map_append, List.cons_append, List.nil_append] at h ⊢; omega)
       clear hk en ec
       have hC := (hC1i _ ⟨hM.sub (.cons_cons _ (.cons _ .slnil)), hk0, hO.sub (.cons_cons _ (.cons _ .slnil)) (.cons_cons _ .slnil)⟩)
       refine scdone hC ?_
       refine scstep rfl ?_
       refine sxbslice hf hM (t := 23) (e := 62) (len := 2) (cs := [iV k, iV x, iV y, iV k, iV x, iV y]) (ob := []) rfl rfl rfl rfl (by as_aux_lemma => kernel_rfl) An (by as_aux_lemma => kernel_rfl) ?_
       clear hf hM; intro a w7 B10 hf hM hB hk
       replace hM : MemOk [⟨B1, 62, [iV k, iV x, iV y]⟩, ⟨B9, 62, flat fV ((byKinds l 10) ++ List.replicate 3 (⟨0, 0, 0⟩ : V3))⟩, ⟨B10, 62, [iV k, iV x, iV y, iV k, iV x, iV y]⟩] w7 := hM
       have hbB10 : w.heap.size ≤ B10 := by have := hk0.size; omega
       have hk0 := hk0.trans hk.nn
       have hO := hO.step hM hk.nn (by intro i h; simp only [Mem.names, List.map_cons, List.map_nil, List.mem_cons, List.not_mem_nil, or_false, List.map_append, List.cons_append, List.nil_append] at h ⊢; omega)
       clear hk hB
       have hC := (hC1i _ ⟨hM.sub (.cons_cons _ (.cons _ (.cons _ .slnil))), hk0, hO.sub (.cons_cons _ (.cons _ (.cons _ .slnil))) (.cons_cons _ .slnil)⟩)
       refine scdone hC ?_
       refine scstep rfl ?_
       refine sxappendM hf (M1 := [⟨B1, 62, [iV k, iV x, iV y]⟩]) (M2 := [⟨B10, 62, [iV k, iV x, iV y, iV k, iV x, iV y]⟩]) (B := B9) (e := 62) (cs := flat fV ((byKinds l 10) ++ List.replicate 3 (⟨0, 0, 0⟩ : V3))) hM (sz := 3) (by_ := 24) (k := (byKinds l 10).length) (cap := ((byKinds l 10).length + 3)) rfl rfl rfl rfl (av := some ⟨B10, 0, none⟩) (m := 2) (c := 2) rfl rfl Tryd.underlying23 (by kernel_rfl) (news := flat fV ([⟨k, x, y⟩, ⟨k, x, y⟩] : List V3)) (Arr.of_memT (sz := 3) (f := fV) (L := ([⟨k, x, y⟩, ⟨k, x, y⟩] : List V3)) (l := ([⟨k, x, y⟩, ⟨k, x, y⟩] : List V3)) hM (List.Mem.tail _ (List.Mem.tail _ (List.Mem.head _))) (fun _ => rfl) rfl rfl) (flat_one1 fV_one) (by rw [flat_len (sz := 3) (fun _ => rfl)]; simp) (by simp only [maxLen]; omega) ?_
       clear hf hM; intro a w8 hf hM hk
       have en : ((byKinds l 10).length + 2 : Nat) = ((byKinds l 10).length + 2) := rfl
       have ec : (flat fV ((byKinds l 10) ++ List.replicate 3 (⟨0, 0, 0⟩ : V3))).take ((byKinds l 10).length * 3) ++ flat fV ([⟨k, x, y⟩, ⟨k, x, y⟩] : List V3) ++ (flat fV ((byKinds l 10) ++ List.replicate 3 (⟨0, 0, 0⟩ : V3))).drop ((byKinds l 10).length * 3 + (flat fV ([⟨k, x, y⟩, ⟨k, x, y⟩] : List V3)).length) = flat fV ((byKinds l 10) ++ [(⟨k, x, y⟩ : V3), (⟨k, x, y⟩ : V3)] ++ [(⟨0, 0, 0⟩ : V3)]) := (by rw [flat_over (sz := 3) (fun _ => rfl)]; simp)
       rw [en] at hf
       replace hM : MemOk [⟨B1, 62, [iV k, iV x, iV y]⟩, ⟨B9, 62, flat fV ((byKinds l 10) ++ [(⟨k, x, y⟩ : V3), (⟨k, x, y⟩ : V3)] ++ [(⟨0, 0, 0⟩ : V3)])⟩, ⟨B10, 62, [iV k, iV x, iV y, iV k, iV x, iV y]⟩] w8 := by rw [← ec]; exact hM
       have hk0 := hk0.then hk (by intro i hi h; simp only [Is, List.mem_cons, List.not_mem_nil, or_false] at h; omega)
       have hO := hO.step hM (hk.mono (by intro i _ h; simp only [Is, Mem.names, List.map_cons, List.map_nil, List.mem_cons, List.not_mem_nil, or_false, List.map_append, List.cons_append, List.nil_append] at h ⊢; omega)) (by intro i h; simp only [Mem.names, List.map_cons, List.map_nil, List.mem_cons, List.not_mem_nil, or_false, List.map_append, List.cons_append, List.nil_append] at h ⊢; omega)
       clear hk en ec
       have hC := (hC1i _ ⟨hM.sub (.cons_cons _ (.cons _ (.cons _ .slnil))), hk0, hO.sub (.cons_cons _ (.cons _ (.cons _ .slnil))) (.cons_cons _ .slnil)⟩)
       refine scdone hC ?_
       refine scstep rfl ?_
       refine sxval hf rfl rfl rfl rfl (v := .slice (some ⟨B9, 0, none⟩) (byKinds l 10).length ((byKinds l 10).length + 3)) (ob := []) (by kernel_rfl) An (by rw [show (.slice (some ⟨B9, 0, none⟩) (byKinds l 10).length ((byKinds l 10).length + 3) : Value) = .slice (some ⟨B9, 0, none⟩) (((byKinds l 10).length : Int) : Int).toNat ((byKinds l 10).length + 3) from (by simp)]; exact ox_slice_h rfl rfl rfl Tryd.underlying23 (sz := 3) (by kernel_rfl) (by omega)) ?_
       clear hf; intro a hf
       have hC := (hC1i _ ⟨hM.sub (.cons_cons _ (.cons _ (.cons _ .slnil))), hk0, hO.sub (.cons_cons _ (.cons _ (.cons _ .slnil))) (.cons_cons _ .slnil)⟩)
       refine scdone hC ?_
       refine qd hf hC (fun w' h => (hC1e w' h).1) [7, 5, 4, 3] [{}] (env' := [(7, eS (some ⟨B9, 0, none⟩) (byKinds l 10).length ((byKinds l 10).length + 3)), (5, eS a'1 (byKinds l 10).length c'1), (4, eB false), (3, eP B1 0)]) (ob := []) An ?_
       clear hf; intro a hf
       clear hC
       show K10 _ _
       refine hK10 _ _ ?_
       refine wp_seq_k (fun K11 hK11 => ?_)
       replace hM := hM.drew; replace hk0 := hk0.drew; replace hO := hO.drew
       obtain ⟨C2, hC2d⟩ : ∃ C : World → Prop, C = fun w' => MemOk [⟨B1, 62, [iV k, iV x, iV y]⟩, ⟨B9, 62, flat fV ((byKinds l 10) ++ [(⟨k, x, y⟩ : V3), (⟨k, x, y⟩ : V3)] ++ [(⟨0, 0, 0⟩ : V3)])⟩, ⟨B10, 62, [iV k, iV x, iV y, iV k, iV x, iV y]⟩] w' ∧ Keep Nn w w' ∧ OwnOk w.heap.size [⟨B1, 62, [iV k, iV x, iV y]⟩, ⟨B9, 62, flat fV ((byKinds l 10) ++ [(⟨k, x, y⟩ : V3), (⟨k, x, y⟩ : V3)] ++ [(⟨0, 0, 0⟩ : V3)])⟩, ⟨B10, 62, [iV k, iV x, iV y, iV k, iV x, iV y]⟩] [⟨62, 3, .slice a'1 (byKinds l 10).length c'1, (byKinds l 10).length, flat fV (byKinds l 10)⟩] w' := ⟨_, rfl⟩
       have hC2i : ∀ w', (MemOk [⟨B1, 62, [iV k, iV x, iV y]⟩, ⟨B9, 62, flat fV ((byKinds l 10) ++ [(⟨k, x, y⟩ : V3), (⟨k, x, y⟩ : V3)] ++ [(⟨0, 0, 0⟩ : V3)])⟩, ⟨B10, 62, [iV k, iV x, iV y, iV k, iV x, iV y]⟩] w' ∧ Keep Nn w w' ∧ OwnOk w.heap.size [⟨B1, 62, [iV k, iV x, iV y]⟩, ⟨B9, 62, flat fV ((byKinds l 10) ++ [(⟨k, x, y⟩ : V3), (⟨k, x, y⟩ : V3)] ++ [(⟨0, 0, 0⟩ : V3)])⟩, ⟨B10, 62, [iV k, iV x, iV y, iV k, iV x, iV y]⟩] [⟨62, 3, .slice a'1 (byKinds l 10).length c'1, (byKinds l 10).length, flat fV (byKinds l 10)⟩] w') → C2 w' := fun w' h => by rw [hC2d]; exact h
       have hC2e : ∀ w', C2 w' → (MemOk [⟨B1, 62, [iV k, iV x, iV y]⟩, ⟨B9, 62, flat fV ((byKinds l 10) ++ [(⟨k, x, y⟩ : V3), (⟨k, x, y⟩ : V3)] ++ [(⟨0, 0, 0⟩ : V3)])⟩, ⟨B10, 62, [iV k, iV x, iV y, iV k, iV x, iV y]⟩] w' ∧ Keep Nn w w' ∧ OwnOk w.heap.size [⟨B1, 62, [iV k, iV x, iV y]⟩, ⟨B9, 62, flat fV ((byKinds l 10) ++ [(⟨k, x, y⟩ : V3), (⟨k, x, y⟩ : V3)] ++ [(⟨0, 0, 0⟩ : V3)])⟩, ⟨B10, 62, [iV k, iV x, iV y, iV k, iV x, iV y]⟩] [⟨62, 3, .slice a'1 (byKinds l 10).length c'1, (byKinds l 10).length, flat fV (byKinds l 10)⟩] w') := fun w' h => by rw [hC2d] at h; exact h
       refine sxdraw (C := C2) (.leaf [(0, true), (1, true), (3, true), (4, true), (5, true), (2, false), (6, false), (7, true), (8, true)]) (by kernel_rfl) (by kernel_rfl) (by as_aux_lemma => kernel_rfl) rfl (by as_aux_lemma => kernel_rfl) (by kernel_rfl) (hC2i _ ⟨hM.sub (.cons_cons _ (.cons_cons _ (.cons_cons _ .slnil))), hk0, hO.sub (.cons_cons _ (.cons_cons _ (.cons_cons _ .slnil))) (.cons_cons _ .slnil)⟩) ?_
       refine sxleaf ?_
       have hC := (hC2i _ ⟨hM.sub (.cons_cons _ (.cons_cons _ (.cons_cons _ .slnil))), hk0, hO.sub (.cons_cons _ (.cons_cons _ (.cons_cons _ .slnil))) (.cons_cons _ .slnil)⟩)
       refine qd hf hC (fun w' h => (hC2e w' h).1) [45, 43, 41, 40, 7, 5, 4, 3] [{}, { os := [.ld 0 0, .ld 0 1, .ld 0 2] }, {}, {}, { os := [.ld 0 0] }] (env' := [(45, eI k), (43, eS (some ⟨B9, 0, none⟩) (byKinds l 10).length ((byKinds l 10).length + 3)), (41, .val (.agg #[iV k, iV x, iV y])), (40, eS (some ⟨B9, 0, none⟩) (byKinds l 10).length ((byKinds l 10).length + 3)), (7, eS (some ⟨B9, 0, none⟩) (byKinds l 10).length ((byKinds l 10).length + 3)), (5, eS a'1 (byKinds l 10).length c'1), (4, eB false), (3, eP B1 0)]) (ob := [Ad B1 0, Ad B1 1, Ad B1 2, Ad B1 0]) (Ac (ad _ _) (Ac (ad _ _) (Ac (ad _ _) (Ao (ad _ _))))) ?_
       clear hf; intro a hf
       refine scstep rfl ?_
       refine sxcall hf rfl rfl rfl rfl (g := 35) (vs := [.slice (some ⟨B9, 0, none⟩) (byKinds l 10).length ((byKinds l 10).length + 3), .agg #[iV k, iV x, iV y]]) (ob := []) (by as_aux_lemma => kernel_rfl) An enters35 (sput (some ⟨B9, 0, none⟩) (byKinds l 10) ((byKinds l 10).length + 3) k x y w8.drew  (Arr.of_memT (sz := 3) (f := fV) (L := ((byKinds l 10) ++ [(⟨k, x, y⟩ : V3), (⟨k, x, y⟩ : V3)] ++ [(⟨0, 0, 0⟩ : V3)])) (l := (byKinds l 10)) (c := ((byKinds l 10).length + 3)) hM (List.Mem.tail _ (List.Mem.head _)) (fun _ => rfl) (by simp) (by simp)) (by first | omega | (simp; omega) | (simp; done) | exact Nat.le_trans (byKinds_len _ _) (by omega) | decide) (by first | omega | exact Nat.le_trans (byKinds_len _ _) (by omega)) (by assumption) (by assumption) (by assumption)) ?_
       clear hf; rintro _ w9 a ⟨a'2, c'2, rfl, hk, hx2⟩ hf
       have hO := hO.more hM hk (by have := hk0.size; omega) hx2
       replace hO : OwnOk w.heap.size [⟨B1, 62, [iV k, iV x, iV y]⟩, ⟨B9, 62, flat fV ((byKinds l 10) ++ [(⟨k, x, y⟩ : V3), (⟨k, x, y⟩ : V3)] ++ [(⟨0, 0, 0⟩ : V3)])⟩, ⟨B10, 62, [iV k, iV x, iV y, iV k, iV x, iV y]⟩] [⟨62, 3, .slice a'2 ((byKinds ((dropV (byKinds l 10) k) ++ ([⟨k, x, y⟩] : List V3)) 10).length) c'2, (byKinds ((dropV (byKinds l 10) k) ++ ([⟨k, x, y⟩] : List V3)) 10).length, flat fV (byKinds ((dropV (byKinds l 10) k) ++ ([⟨k, x, y⟩] : List V3)) 10)⟩, ⟨62, 3, .slice a'1 (byKinds l 10).length c'1, (byKinds l 10).length, flat fV (byKinds l 10)⟩] _ := hO
       have hM := hM.keepNn hk
       have hk0 := hk0.trans hk.nn
       clear hk
       have hC := (hC2i _ ⟨hM.sub (.cons_cons _ (.cons_cons _ (.cons_cons _ .slnil))), hk0, hO.sub (.cons_cons _ (.cons_cons _ (.cons_cons _ .slnil))) (.cons _ (.cons_cons _ .slnil))⟩)
       refine scdone hC ?_
       refine scstep rfl ?_
       refine sxcall hf rfl rfl rfl rfl (g := 36) (vs := [.slice (some ⟨B9, 0, none⟩) (byKinds l 10).length ((byKinds l 10).length + 3), iV k]) (ob := []) (by as_aux_lemma => kernel_rfl) An enters36 (sdrop (some ⟨B9, 0, none⟩) (byKinds l 10) ((byKinds l 10).length + 3) k w9  (Arr.of_memT (sz := 3) (f := fV) (L := ((byKinds l 10) ++ [(⟨k, x, y⟩ : V3), (⟨k, x, y⟩ : V3)] ++ [(⟨0, 0, 0⟩ : V3)])) (l := (byKinds l 10)) (c := ((byKinds l 10).length + 3)) hM (List.Mem.tail _ (List.Mem.head _)) (fun _ => rfl) (by simp) (by simp)) (by first | omega | (simp; omega) | (simp; done) | exact Nat.le_trans (byKinds_len _ _) (by omega) | decide)) ?_
       clear hf; rintro _ w10 a ⟨a'3, c'3, rfl, hk, hx3⟩ hf
       have hO := hO.more hM hk (by have := hk0.size; omega) hx3
       replace hO : OwnOk w.heap.size [⟨B1, 62, [iV k, iV x, iV y]⟩, ⟨B9, 62, flat fV ((byKinds l 10) ++ [(⟨k, x, y⟩ : V3), (⟨k, x, y⟩ : V3)] ++ [(⟨0, 0, 0⟩ : V3)])⟩, ⟨B10, 62, [iV k, iV x, iV y, iV k, iV x, iV y]⟩] [⟨62, 3, .slice a'3 ((dropV (byKinds l 10) k).length) c'3, (dropV (byKinds l 10) k).length, flat fV (dropV (byKinds l 10) k)⟩, ⟨62, 3, .slice a'2 ((byKinds ((dropV (byKinds l 10) k) ++ ([⟨k, x, y⟩] : List V3)) 10).length) c'2, (byKinds ((dropV (byKinds l 10) k) ++ ([⟨k, x, y⟩] : List V3)) 10).length, flat fV (byKinds ((dropV (byKinds l 10) k) ++ ([⟨k, x, y⟩] : List V3)) 10)⟩, ⟨62, 3, .slice a'1 (byKinds l 10).length c'1, (byKinds l 10).length, flat fV (byKinds l 10)⟩] _ := hO
       have hM := hM.keepNn hk
       have hk0 := hk0.trans hk.nn
       clear hk
       have hC := (hC2i _ ⟨hM.sub (.cons_cons _ (.cons_cons _ (.cons_cons _ .slnil))), hk0, hO.sub (.cons_cons _ (.cons_cons _ (.cons_cons _ .slnil))) (.cons _ (.cons _ (.cons_cons _ .slnil)))⟩)
       refine scdone hC ?_
       refine qd hf hC (fun w' h => (hC2e w' h).1) [9, 8, 7, 5, 4, 3] [{}, {}] (env' := [(9, eS a'3 ((dropV (byKinds l 10) k).length) c'3), (8, eS a'2 ((byKinds ((dropV (byKinds l 10) k) ++ ([⟨k, x, y⟩] : List V3)) 10).length) c'2), (7, eS (some ⟨B9, 0, none⟩) (byKinds l 10).length ((byKinds l 10).length + 3)), (5, eS a'1 (byKinds l 10).length c'1), (4, eB false), (3, eP B1 0)]) (ob := []) An ?_
       clear hf; intro a hf
       clear hC
       show K11 _ _
       refine hK11 _ _ ?_
       refine wp_seq_k (fun K12 hK12 => ?_)
       replace hM := hM.drew; replace hk0 := hk0.drew; replace hO := hO.drew
       obtain ⟨C3, hC3d⟩ : ∃ C : World → Prop, C = fun w' => MemOk [⟨B1, 62, [iV k, iV x, iV y]⟩, ⟨B9, 62, flat fV ((byKinds l 10) ++ [(⟨k, x, y⟩ : V3), (⟨k, x, y⟩ : V3)] ++ [(⟨0, 0, 0⟩ : V3)])⟩, ⟨B10, 62, [iV k, iV x, iV y, iV k, iV x, iV y]⟩] w' ∧ Keep Nn w w' ∧ OwnOk w.heap.size [⟨B1, 62, [iV k, iV x, iV y]⟩, ⟨B9, 62, flat fV ((byKinds l 10) ++ [(⟨k, x, y⟩ : V3), (⟨k, x, y⟩ : V3)] ++ [(⟨0, 0, 0⟩ : V3)])⟩, ⟨B10, 62, [iV k, iV x, iV y, iV k, iV x, iV y]⟩] [⟨62, 3, .slice a'3 ((dropV (byKinds l 10) k).length) c'3, (dropV (byKinds l 10) k).length, flat fV (dropV (byKinds l 10) k)⟩, ⟨62, 3, .slice a'2 ((byKinds ((dropV (byKinds l 10) k) ++ ([⟨k, x, y⟩] : List V3)) 10).length) c'2, (byKinds ((dropV (byKinds l 10) k) ++ ([⟨k, x, y⟩] : List V3)) 10).length, flat fV (byKinds ((dropV (byKinds l 10) k) ++ ([⟨k, x, y⟩] : List V3)) 10)⟩, ⟨62, 3, .slice a'1 (byKinds l 10).length c'1, (byKinds l 10).length, flat fV (byKinds l 10)⟩] w' := ⟨_, rfl⟩
       have hC3i : ∀ w', (MemOk [⟨B1, 62, [iV k, iV x, iV y]⟩, ⟨B9, 62, flat fV ((byKinds l 10) ++ [(⟨k, x, y⟩ : V3), (⟨k, x, y⟩ : V3)] ++ [(⟨0, 0, 0⟩ : V3)])⟩, ⟨B10, 62, [iV k, iV x, iV y, iV k, iV x, iV y]⟩] w' ∧ Keep Nn w w' ∧ OwnOk w.heap.size [⟨B1, 62, [iV k, iV x, iV y]⟩, ⟨B9, 62, flat fV ((byKinds l 10) ++ [(⟨k, x, y⟩ : V3), (⟨k, x, y⟩ : V3)] ++ [(⟨0, 0, 0⟩ : V3)])⟩, ⟨B10, 62, [iV k, iV x, iV y, iV k, iV x, iV y]⟩] [⟨62, 3, .slice a'3 ((dropV (byKinds l 10) k).length) c'3, (dropV (byKinds l 10) k).length, flat fV (dropV (byKinds l 10) k)⟩, ⟨62, 3, .slice a'2 ((byKinds ((dropV (byKinds l 10) k) ++ ([⟨k, x, y⟩] : List V3)) 10).length) c'2, (byKinds ((dropV (byKinds l 10) k) ++ ([⟨k, x, y⟩] : List V3)) 10).length, flat fV (byKinds ((dropV (byKinds l 10) k) ++ ([⟨k, x, y⟩] : List V3)) 10)⟩, ⟨62, 3, .slice a'1 (byKinds l 10).length c'1, (byKinds l 10).length, flat fV (byKinds l 10)⟩] w') → C3 w' := fun w' h => by rw [hC3d]; exact h
       have hC3e : ∀ w', C3 w' → (MemOk [⟨B1, 62, [iV k, iV x, iV y]⟩, ⟨B9, 62, flat fV ((byKinds l 10) ++ [(⟨k, x, y⟩ : V3), (⟨k, x, y⟩ : V3)] ++ [(⟨0, 0, 0⟩ : V3)])⟩, ⟨B10, 62, [iV k, iV x, iV y, iV k, iV x, iV y]⟩] w' ∧ Keep Nn w w' ∧ OwnOk w.heap.size [⟨B1, 62, [iV k, iV x, iV y]⟩, ⟨B9, 62, flat fV ((byKinds l 10) ++ [(⟨k, x, y⟩ : V3), (⟨k, x, y⟩ : V3)] ++ [(⟨0, 0, 0⟩ : V3)])⟩, ⟨B10, 62, [iV k, iV x, iV y, iV k, iV x, iV y]⟩] [⟨62, 3, .slice a'3 ((dropV (byKinds l 10) k).length) c'3, (dropV (byKinds l 10) k).length, flat fV (dropV (byKinds l 10) k)⟩, ⟨62, 3, .slice a'2 ((byKinds ((dropV (byKinds l 10) k) ++ ([⟨k, x, y⟩] : List V3)) 10).length) c'2, (byKinds ((dropV (byKinds l 10) k) ++ ([⟨k, x, y⟩] : List V3)) 10).length, flat fV (byKinds ((dropV (byKinds l 10) k) ++ ([⟨k, x, y⟩] : List V3)) 10)⟩, ⟨62, 3, .slice a'1 (byKinds l 10).length c'1, (byKinds l 10).length, flat fV (byKinds l 10)⟩] w') := fun w' h => by rw [hC3d] at h; exact h
       refine sxdraw (C := C3) (.leaf [(0, true), (1, true), (2, true), (3, false), (4, false), (5, true), (6, true), (7, true), (8, true), (9, true), (10, false), (11, false), (12, true), (13, true), (14, true), (15, true), (16, false), (17, true), (18, true), (19, true), (20, true), (21, true), (22, true), (24, true), (25, true), (28, true), (23, false), (26, true), (27, true), (29, true), (30, true), (31, true)]) (by kernel_rfl) (by kernel_rfl) (by as_aux_lemma => kernel_rfl) rfl (by as_aux_lemma => kernel_rfl) (by kernel_rfl) (hC3i _ ⟨hM.sub (.cons_cons _ (.cons_cons _ (.cons_cons _ .slnil))), hk0, hO.sub (.cons_cons _ (.cons_cons _ (.cons_cons _ .slnil))) (.cons_cons _ (.cons_cons _ (.cons_cons _ .slnil)))⟩) ?_
       refine sxleaf ?_
       have hC := (hC3i _ ⟨hM.sub (.cons_cons _ (.cons_cons _ (.cons_cons _ .slnil))), hk0, hO.sub (.cons_cons _ (.cons_cons _ (.cons_cons _ .slnil))) (.cons_cons _ (.cons_cons _ (.cons_cons _ .slnil)))⟩)
       refine qd hf hC (fun w' h => (hC3e w' h).1) [49, 48, 47, 9, 7, 5, 4, 3] [{}, {}, { os := [.ld 0 0, .ld 0 1, .ld 0 2] }] (env' := [(49, .val (.agg #[iV k, iV x, iV y])), (48, eS a'1 (byKinds l 10).length c'1), (47, eS a'2 ((byKinds ((dropV (byKinds l 10) k) ++ ([⟨k, x, y⟩] : List V3)) 10).length) c'2), (9, eS a'3 ((dropV (byKinds l 10) k).length) c'3), (7, eS (some ⟨B9, 0, none⟩) (byKinds l 10).length ((byKinds l 10).length + 3)), (5, eS a'1 (byKinds l 10).length c'1), (4, eB false), (3, eP B1 0)]) (ob := [Ad B1 0, Ad B1 1, Ad B1 2]) (Ac (ad _ _) (Ac (ad _ _) (Ao (ad _ _)))) ?_
       clear hf; intro a hf
       refine scstep rfl ?_
       refine sxcall hf rfl rfl rfl rfl (g := 38) (vs := [.slice a'1 (byKinds l 10).length c'1, .agg #[iV k, iV x, iV y]]) (ob := []) (by as_aux_lemma => kernel_rfl) An enters38 (rput a'1 (byKinds l 10) c'1 k x y w10.drew  (own_arr (hO.own _ (List.Mem.tail _ (List.Mem.tail _ (List.Mem.head _))))) (by first | omega | (simp; omega) | (simp; done) | exact Nat.le_trans (byKinds_len _ _) (by omega) | decide) (by first | omega | exact Nat.le_trans (byKinds_len _ _) (by omega)) (by assumption) (by assumption) (by assumption)) ?_
       clear hf; rintro _ w11 a ⟨a'4, c'4, rfl, hk, hx4⟩ hf
       have hO := hO.more hM hk (by have := hk0.size; omega) hx4
       replace hO : OwnOk w.heap.size [⟨B1, 62, [iV k, iV x, iV y]⟩, ⟨B9, 62, flat fV ((byKinds l 10) ++ [(⟨k, x, y⟩ : V3), (⟨k, x, y⟩ : V3)] ++ [(⟨0, 0, 0⟩ : V3)])⟩, ⟨B10, 62, [iV k, iV x, iV y, iV k, iV x, iV y]⟩] [⟨62, 3, .slice a'4 ((byKinds ((dropV (byKinds l 10) k) ++ ([⟨k, x, y⟩] : List V3)) 10).length) c'4, (byKinds ((dropV (byKinds l 10) k) ++ ([⟨k, x, y⟩] : List V3)) 10).length, flat fV (byKinds ((dropV (byKinds l 10) k) ++ ([⟨k, x, y⟩] : List V3)) 10)⟩, ⟨62, 3, .slice a'3 ((dropV (byKinds l 10) k).length) c'3, (dropV (byKinds l 10) k).length, flat fV (dropV (byKinds l 10) k)⟩, ⟨62, 3, .slice a'2 ((byKinds ((dropV (byKinds l 10) k) ++ ([⟨k, x, y⟩] : List V3)) 10).length) c'2, (byKinds ((dropV (byKinds l 10) k) ++ ([⟨k, x, y⟩] : List V3)) 10).length, flat fV (byKinds ((dropV (byKinds l 10) k) ++ ([⟨k, x, y⟩] : List V3)) 10)⟩, ⟨62, 3, .slice a'1 (byKinds l 10).length c'1, (byKinds l 10).length, flat fV (byKinds l 10)⟩] _ := hO
       have hM := hM.keepNn hk
       have hk0 := hk0.trans hk.nn
       clear hk
       have hC := (hC3i _ ⟨hM.sub (.cons_cons _ (.cons_cons _ (.cons_cons _ .slnil))), hk0, hO.sub (.cons_cons _ (.cons_cons _ (.cons_cons _ .slnil))) (.cons _ (.cons_cons _ (.cons_cons _ (.cons_cons _ .slnil))))⟩)
       refine scdone hC ?_
       refine scstep rfl ?_
       refine sxcall hf rfl rfl rfl rfl (g := 37) (vs := [.slice a'2 ((byKinds ((dropV (byKinds l 10) k) ++ ([⟨k, x, y⟩] : List V3)) 10).length) c'2, .slice a'4 ((byKinds ((dropV (byKinds l 10) k) ++ ([⟨k, x, y⟩] : List V3)) 10).length) c'4]) (ob := []) (by as_aux_lemma => kernel_rfl) An enters37 (rsame a'2 (byKinds ((dropV (byKinds l 10) k) ++ ([⟨k, x, y⟩] : List V3)) 10) c'2 a'4 (byKinds ((dropV (byKinds l 10) k) ++ ([⟨k, x, y⟩] : List V3)) 10) c'4 w11  (own_arr (hO.own _ (List.Mem.tail _ (List.Mem.tail _ (List.Mem.head _))))) (by first | omega | (simp; omega) | (simp; done) | exact Nat.le_trans (byKinds_len _ _) (by omega) | decide) (own_arr (hO.own _ (List.Mem.head _))) (by first | omega | (simp; omega) | (simp; done) | exact Nat.le_trans (byKinds_len _ _) (by omega) | decide)) ?_
       clear hf; rintro _ w12 a ⟨rfl, hk⟩ hf
       have hO := hO.keepNn hk
       have hM := hM.keepNn hk
       have hk0 := hk0.trans hk.nn
       clear hk
       have hC := (hC3i _ ⟨hM.sub (.cons_cons _ (.cons_cons _ (.cons_cons _ .slnil))), hk0, hO.sub (.cons_cons _ (.cons_cons _ (.cons_cons _ .slnil))) (.cons _ (.cons_cons _ (.cons_cons _ (.cons_cons _ .slnil))))⟩)
       refine scdone hC ?_
       refine qd hf hC (fun w' h => (hC3e w' h).1) [52, 9, 7, 5, 4, 3] [{}] (env' := [(52, eB (sameL (byKinds ((dropV (byKinds l 10) k) ++ ([⟨k, x, y⟩] : List V3)) 10) (byKinds ((dropV (byKinds l 10) k) ++ ([⟨k, x, y⟩] : List V3)) 10))), (9, eS a'3 ((dropV (byKinds l 10) k).length) c'3), (7, eS (some ⟨B9, 0, none⟩) (byKinds l 10).length ((byKinds l 10).length + 3)), (5, eS a'1 (byKinds l 10).length c'1), (4, eB false), (3, eP B1 0)]) (ob := []) An ?_
       clear hf; intro a hf
       have hf := hf.prune [52, 9, 7, 5, 4, 3]
       replace hf : Fr 78 [(52, eB (sameL (byKinds ((dropV (byKinds l 10) k) ++ ([⟨k, x, y⟩] : List V3)) 10) (byKinds ((dropV (byKinds l 10) k) ++ ([⟨k, x, y⟩] : List V3)) 10))), (9, eS a'3 ((dropV (byKinds l 10) k).length) c'3), (7, eS (some ⟨B9, 0, none⟩) (byKinds l 10).length ((byKinds l 10).length + 3)), (5, eS a'1 (byKinds l 10).length c'1), (4, eB false), (3, eP B1 0)] a := hf
       replace hf := hf.conv (env' := [(52, eB true), (9, eS a'3 ((dropV (byKinds l 10) k).length) c'3), (7, eS (some ⟨B9, 0, none⟩) (byKinds l 10).length ((byKinds l 10).length + 3)), (5, eS a'1 (byKinds l 10).length c'1), (4, eB false), (3, eP B1 0)]) (Ac (congrArg Value.bool hs1) (Ac rfl (Ac rfl (Ac rfl (Ac rfl (Ao rfl))))))
       refine qd hf hC (fun w' h => (hC3e w' h).1) [56, 54, 53, 52, 7, 5, 4, 3] [{}, {}, {}, { os := [.ld 0 0] }] (env' := [(56, eI k), (54, eS a'1 (byKinds l 10).length c'1), (53, eS a'3 ((dropV (byKinds l 10) k).length) c'3), (52, eB true), (7, eS (some ⟨B9, 0, none⟩) (byKinds l 10).length ((byKinds l 10).length + 3)), (5, eS a'1 (byKinds l 10).length c'1), (4, eB false), (3, eP B1 0)]) (ob := [true = true, true = true, true = true, true = true, Ad B1 0]) (Ac rfl (Ac rfl (Ac rfl (Ac rfl (Ao (ad _ _)))))) ?_
       clear hf; intro a hf
       refine scstep rfl ?_
       refine sxcallg hf rfl rfl rfl rfl rfl (g := 39) (vs := [.slice a'1 (byKinds l 10).length c'1, iV k]) (ob := []) (by as_aux_lemma => kernel_rfl) An enters39 (rdrop a'1 (byKinds l 10) c'1 k w12  (own_arr (hO.own _ (List.Mem.tail _ (List.Mem.tail _ (List.Mem.tail _ (List.Mem.head _)))))) (by first | omega | (simp; omega) | (simp; done) | exact Nat.le_trans (byKinds_len _ _) (by omega) | decide)) ?_
       clear hf; rintro _ w13 a ⟨a'5, c'5, rfl, hk, hx5⟩ hf
       have hO := hO.more hM hk (by have := hk0.size; omega) hx5
       replace hO : OwnOk w.heap.size [⟨B1, 62, [iV k, iV x, iV y]⟩, ⟨B9, 62, flat fV ((byKinds l 10) ++ [(⟨k, x, y⟩ : V3), (⟨k, x, y⟩ : V3)] ++ [(⟨0, 0, 0⟩ : V3)])⟩, ⟨B10, 62, [iV k, iV x, iV y, iV k, iV x, iV y]⟩] [⟨62, 3, .slice a'5 ((dropV (byKinds l 10) k).length) c'5, (dropV (byKinds l 10) k).length, flat fV (dropV (byKinds l 10) k)⟩, ⟨62, 3, .slice a'4 ((byKinds ((dropV (byKinds l 10) k) ++ ([⟨k, x, y⟩] : List V3)) 10).length) c'4, (byKinds ((dropV (byKinds l 10) k) ++ ([⟨k, x, y⟩] : List V3)) 10).length, flat fV (byKinds ((dropV (byKinds l 10) k) ++ ([⟨k, x, y⟩] : List V3)) 10)⟩, ⟨62, 3, .slice a'3 ((dropV (byKinds l 10) k).length) c'3, (dropV (byKinds l 10) k).length, flat fV (dropV (byKinds l 10) k)⟩, ⟨62, 3, .slice a'2 ((byKinds ((dropV (byKinds l 10) k) ++ ([⟨k, x, y⟩] : List V3)) 10).length) c'2, (byKinds ((dropV (byKinds l 10) k) ++ ([⟨k, x, y⟩] : List V3)) 10).length, flat fV (byKinds ((dropV (byKinds l 10) k) ++ ([⟨k, x, y⟩] : List V3)) 10)⟩, ⟨62, 3, .slice a'1 (byKinds l 10).length c'1, (byKinds l 10).length, flat fV (byKinds l 10)⟩] _ := hO
       have hM := hM.keepNn hk
       have hk0 := hk0.trans hk.nn
       clear hk
       have hC := (hC3i _ ⟨hM.sub (.cons_cons _ (.cons_cons _ (.cons_cons _ .slnil))), hk0, hO.sub (.cons_cons _ (.cons_cons _ (.cons_cons _ .slnil))) (.cons _ (.cons _ (.cons_cons _ (.cons_cons _ (.cons_cons _ .slnil)))))⟩)
       refine scdone hC ?_
       refine scstep rfl ?_
       refine sxcallg hf rfl rfl rfl rfl rfl (g := 37) (vs := [.slice a'3 ((dropV (byKinds l 10) k).length) c'3, .slice a'5 ((dropV (byKinds l 10) k).length) c'5]) (ob := []) (by as_aux_lemma => kernel_rfl) An enters37 (rsame a'3 (dropV (byKinds l 10) k) c'3 a'5 (dropV (byKinds l 10) k) c'5 w13  (own_arr (hO.own _ (List.Mem.tail _ (List.Mem.tail _ (List.Mem.head _))))) (by first | omega | (simp; omega) | (simp; done) | exact Nat.le_trans (byKinds_len _ _) (by omega) | decide) (own_arr (hO.own _ (List.Mem.head _))) (by first | omega | (simp; omega) | (simp; done) | exact Nat.le_trans (byKinds_len _ _) (by omega) | decide)) ?_
       clear hf; rintro _ w14 a ⟨rfl, hk⟩ hf
       have hO := hO.keepNn hk
       have hM := hM.keepNn hk
       have hk0 := hk0.trans hk.nn
       clear hk
       have hC := (hC3i _ ⟨hM.sub (.cons_cons _ (.cons_cons _ (.cons_cons _ .slnil))), hk0, hO.sub (.cons_cons _ (.cons_cons _ (.cons_cons _ .slnil))) (.cons _ (.cons _ (.cons_cons _ (.cons_cons _ (.cons_cons _ .slnil)))))⟩)
       refine scdone hC ?_
       refine qd hf hC (fun w' h => (hC3e w' h).1) [60, 7, 5, 4, 3] [{}, {}] (env' := [(60, eB (sameL (dropV (byKinds l 10) k) (dropV (byKinds l 10) k))), (7, eS (some ⟨B9, 0, none⟩) (byKinds l 10).length ((byKinds l 10).length + 3)), (5, eS a'1 (byKinds l 10).length c'1), (4, eB false), (3, eP B1 0)]) (ob := []) An ?_
       clear hf; intro a hf
       have hf := hf.prune [60, 7, 5, 4, 3]
       replace hf : Fr 78 [(60, eB (sameL (dropV (byKinds l 10) k) (dropV (byKinds l 10) k))), (7, eS (some ⟨B9, 0, none⟩) (byKinds l 10).length ((byKinds l 10).length + 3)), (5, eS a'1 (byKinds l 10).length c'1), (4, eB false), (3, eP B1 0)] a := hf
       replace hf := hf.conv (env' := [(60, eB true), (7, eS (some ⟨B9, 0, none⟩) (byKinds l 10).length ((byKinds l 10).length + 3)), (5, eS a'1 (byKinds l 10).length c'1), (4, eB false), (3, eP B1 0)]) (Ac (congrArg Value.bool hs2) (Ac rfl (Ac rfl (Ac rfl (Ao rfl)))))
       refine qd hf hC (fun w' h => (hC3e w' h).1) [62, 61, 60, 7, 5, 4, 3] [{}, {}] (env' := [(62, eS a'1 (byKinds l 10).length c'1), (61, eS (some ⟨B9, 0, none⟩) (byKinds l 10).length ((byKinds l 10).length + 3)), (60, eB true), (7, eS (some ⟨B9, 0, none⟩) (byKinds l 10).length ((byKinds l 10).length + 3)), (5, eS a'1 (byKinds l 10).length c'1), (4, eB false), (3, eP B1 0)]) (ob := [true = true, true = true]) (Ac rfl (Ao rfl)) ?_
       clear hf; intro a hf
       refine scstep rfl ?_
       refine sxcallg hf rfl rfl rfl rfl rfl (g := 37) (vs := [.slice (some ⟨B9, 0, none⟩) (byKinds l 10).length ((byKinds l 10).length + 3), .slice a'1 (byKinds l 10).length c'1]) (ob := []) (by as_aux_lemma => kernel_rfl) An enters37 (rsame (some ⟨B9, 0, none⟩) (byKinds l 10) ((byKinds l 10).length + 3) a'1 (byKinds l 10) c'1 w14  (Arr.of_memT (sz := 3) (f := fV) (L := ((byKinds l 10) ++ [(⟨k, x, y⟩ : V3), (⟨k, x, y⟩ : V3)] ++ [(⟨0, 0, 0⟩ : V3)])) (l := (byKinds l 10)) (c := ((byKinds l 10).length + 3)) hM (List.Mem.tail _ (List.Mem.head _)) (fun _ => rfl) (by simp) (by simp)) (by first | omega | (simp; omega) | (simp; done) | exact Nat.le_trans (byKinds_len _ _) (by omega) | decide) (own_arr (hO.own _ (List.Mem.tail _ (List.Mem.tail _ (List.Mem.tail _ (List.Mem.tail _ (List.Mem.head _))))))) (by first | omega | (simp; omega) | (simp; done) | exact Nat.le_trans (byKinds_len _ _) (by omega) | decide)) ?_
       clear hf; rintro _ w15 a ⟨rfl, hk⟩ hf
       have hO := hO.keepNn hk
       have hM := hM.keepNn hk
       have hk0 := hk0.trans hk.nn
       clear hk
       have hC := (hC3i _ ⟨hM.sub (.cons_cons _ (.cons_cons _ (.cons_cons _ .slnil))), hk0, hO.sub (.cons_cons _ (.cons_cons _ (.cons_cons _ .slnil))) (.cons _ (.cons _ (.cons_cons _ (.cons_cons _ (.cons_cons _ .slnil)))))⟩)
       refine scdone hC ?_
       refine qd hf hC (fun w' h => (hC3e w' h).1) [65, 7, 5, 4, 3] [{}, {}] (env' := [(65, eB (sameL (byKinds l 10) (byKinds l 10))), (7, eS (some ⟨B9, 0, none⟩) (byKinds l 10).length ((byKinds l 10).length + 3)), (5, eS a'1 (byKinds l 10).length c'1), (4, eB false), (3, eP B1 0)]) (ob := []) An ?_
       clear hf; intro a hf
       have hf := hf.prune [65, 7, 5, 4, 3]
       replace hf : Fr 78 [(65, eB (sameL (byKinds l 10) (byKinds l 10))), (7, eS (some ⟨B9, 0, none⟩) (byKinds l 10).length ((byKinds l 10).length + 3)), (5, eS a'1 (byKinds l 10).length c'1), (4, eB false), (3, eP B1 0)] a := hf
       replace hf := hf.conv (env' := [(65, eB true), (7, eS (some ⟨B9, 0, none⟩) (byKinds l 10).length ((byKinds l 10).length + 3)), (5, eS a'1 (byKinds l 10).length c'1), (4, eB false), (3, eP B1 0)]) (Ac (congrArg Value.bool hs3) (Ac rfl (Ac rfl (Ac rfl (Ao rfl)))))
       refine qd hf hC (fun w' h => (hC3e w' h).1) [75, 72, 69, 66, 65, 4] [{}, {}, {}, { hint := some (iV (((byKinds l 10).length : Int) + 1)) }, {}, {}, { os := [.ld 0 0, .ld 0 1, .ld 0 2] }] (env' := [(75, .val (.agg #[iV k, iV x, iV y])), (72, eI ((byKinds l 10).length : Int)), (69, eI (((byKinds l 10).length : Int) + 1)), (66, eS (some ⟨B9, 0, none⟩) (byKinds l 10).length ((byKinds l 10).length + 3)), (65, eB true), (4, eB false)]) (ob := [true = true, true = true, true = true, true = true, (iV (IntKind.i64.wrap (((byKinds l 10).length : Int) + 1)) : Value) = (iV (((byKinds l 10).length : Int) + 1) : Value), true = true, true = true, true = true, Ad B1 0, Ad B1 1, Ad B1 2]) (Ac rfl (Ac rfl (Ac rfl (Ac rfl (Ac (wr (by omega)) (Ac rfl (Ac rfl (Ac rfl (Ac (ad _ _) (Ac (ad _ _) (Ao (ad _ _)))))))))))) ?_
       clear hf; intro a hf
       refine scstep rfl ?_
       refine sxvalg hf rfl rfl rfl rfl rfl (v := .slice (some ⟨B9, 0, none⟩) ((byKinds l 10).length + 1) ((byKinds l 10).length + 3)) (ob := []) (by kernel_rfl) An (by rw [show (.slice (some ⟨B9, 0, none⟩) ((byKinds l 10).length + 1) ((byKinds l 10).length + 3) : Value) = .slice (some ⟨B9, 0, none⟩) (((byKinds l 10).length : Int) + 1 : Int).toNat ((byKinds l 10).length + 3) from (by congr 1 <;> omega)]; exact ox_slice_h rfl rfl rfl Tryd.underlying23 (sz := 3) (by kernel_rfl) (by omega)) ?_
       clear hf; intro a hf
       have hC := (hC3i _ ⟨hM.sub (.cons_cons _ (.cons_cons _ (.cons_cons _ .slnil))), hk0, hO.sub (.cons_cons _ (.cons_cons _ (.cons_cons _ .slnil))) (.cons _ (.cons _ (.cons_cons _ (.cons_cons _ (.cons_cons _ .slnil)))))⟩)
       refine scdone hC ?_
       refine qd hf hC (fun w' h => (hC3e w' h).1) [4] [{ sp := true }, { os := [.ex (iV ((((byKinds l 10) ++ ([(⟨k, x, y⟩ : V3)] : List V3)).getD ((byKinds l 10).length : Int).toNat ⟨0, 0, 0⟩).k)), .ex (iV ((((byKinds l 10) ++ ([(⟨k, x, y⟩ : V3)] : List V3)).getD ((byKinds l 10).length : Int).toNat ⟨0, 0, 0⟩).a)), .ex (iV ((((byKinds l 10) ++ ([(⟨k, x, y⟩ : V3)] : List V3)).getD ((byKinds l 10).length : Int).toNat ⟨0, 0, 0⟩).b))] }, { sp := true, hint := some (bV true) }, {}, {}] (env' := [(4, eB true)]) (ob := [true = true, (0 : Int) ≤ ((byKinds l 10).length : Int) ∧ ((byKinds l 10).length : Int) < (((byKinds l 10).length + 1) : Int), (some ⟨B9, 0, none⟩ : Option Addr).isSome = true, true = true, (∀ w', C3 w' → w'.cell? (((sa (some ⟨B9, 0, none⟩) : Addr).add (((byKinds l 10).length : Int).toNat * 3)).add 0) = some (iV ((((byKinds l 10) ++ ([(⟨k, x, y⟩ : V3)] : List V3)).getD ((byKinds l 10).length : Int).toNat ⟨0, 0, 0⟩).k))), (∀ w', C3 w' → w'.cell? (((sa (some ⟨B9, 0, none⟩) : Addr).add (((byKinds l 10).length : Int).toNat * 3)).add 1) = some (iV ((((byKinds l 10) ++ ([(⟨k, x, y⟩ : V3)] : List V3)).getD ((byKinds l 10).length : Int).toNat ⟨0, 0, 0⟩).a))), (∀ w', C3 w' → w'.cell? (((sa (some ⟨B9, 0, none⟩) : Addr).add (((byKinds l 10).length : Int).toNat * 3)).add 2) = some (iV ((((byKinds l 10) ++ ([(⟨k, x, y⟩ : V3)] : List V3)).getD ((byKinds l 10).length : Int).toNat ⟨0, 0, 0⟩).b))), true = true, (bV (((((((byKinds l 10) ++ ([(⟨k, x, y⟩ : V3)] : List V3)).getD ((byKinds l 10).length : Int).toNat ⟨0, 0, 0⟩).k) : Int) == k) && (((((((byKinds l 10) ++ ([(⟨k, x, y⟩ : V3)] : List V3)).getD ((byKinds l 10).length : Int).toNat ⟨0, 0, 0⟩).a) : Int) == x) && (((((((byKinds l 10) ++ ([(⟨k, x, y⟩ : V3)] : List V3)).getD ((byKinds l 10).length : Int).toNat ⟨0, 0, 0⟩).b) : Int) == y) && true))) : Value) = (bV true : Value)]) (Ac rfl (Ac (by first | omega | (simp; done)) (Ac rfl (Ac rfl (Ac (fun w' hc => by obtain ⟨hM, hk0, hO⟩ := hC3e w' hc; exact ((Arr.of_memT (sz := 3) (f := fV) (L := ((byKinds l 10) ++ [(⟨k, x, y⟩ : V3), (⟨k, x, y⟩ : V3)] ++ [(⟨0, 0, 0⟩ : V3)])) (l := ((byKinds l 10) ++ ([(⟨k, x, y⟩ : V3)] : List V3))) (c := ((byKinds l 10).length + 3)) hM (List.Mem.tail _ (List.Mem.head _)) (fun _ => rfl) (by have h := List.take_left (l₁ := (byKinds l 10) ++ [(⟨k, x, y⟩ : V3)]) (l₂ := [(⟨k, x, y⟩ : V3), (⟨0, 0, 0⟩ : V3)]); simpa only [List.append_assoc, List.cons_append, List.nil_append] using h) (by simp)).get (fun _ => rfl) (by first | omega | (simp; done)) rfl)) (Ac (fun w' hc => by obtain ⟨hM, hk0, hO⟩ := hC3e w' hc; exact ((Arr.of_memT (sz := 3) (f := fV) (L := ((byKinds l 10) ++ [(⟨k, x, y⟩ : V3), (⟨k, x, y⟩ : V3)] ++ [(⟨0, 0, 0⟩ : V3)])) (l := ((byKinds l 10) ++ ([(⟨k, x, y⟩ : V3)] : List V3))) (c := ((byKinds l 10).length + 3)) hM (List.Mem.tail _ (List.Mem.head _)) (fun _ => rfl) (by have h := List.take_left (l₁ := (byKinds l 10) ++ [(⟨k, x, y⟩ : V3)]) (l₂ := [(⟨k, x, y⟩ : V3), (⟨0, 0, 0⟩ : V3)]); simpa only [List.append_assoc, List.cons_append, List.nil_append] using h) (by simp)).get (fun _ => rfl) (by first | omega | (simp; done)) rfl)) (Ac (fun w' hc => by obtain ⟨hM, hk0, hO⟩ := hC3e w' hc; exact ((Arr.of_memT (sz := 3) (f := fV) (L := ((byKinds l 10) ++ [(⟨k, x, y⟩ : V3), (⟨k, x, y⟩ : V3)] ++ [(⟨0, 0, 0⟩ : V3)])) (l := ((byKinds l 10) ++ ([(⟨k, x, y⟩ : V3)] : List V3))) (c := ((byKinds l 10).length + 3)) hM (List.Mem.tail _ (List.Mem.head _)) (fun _ => rfl) (by have h := List.take_left (l₁ := (byKinds l 10) ++ [(⟨k, x, y⟩ : V3)]) (l₂ := [(⟨k, x, y⟩ : V3), (⟨0, 0, 0⟩ : V3)]); simpa only [List.append_assoc, List.cons_append, List.nil_append] using h) (by simp)).get (fun _ => rfl) (by first | omega | (simp; done)) rfl)) (Ac rfl (Ao (Eq.trans (show (bV (((((((byKinds l 10) ++ ([(⟨k, x, y⟩ : V3)] : List V3)).getD ((byKinds l 10).length : Int).toNat ⟨0, 0, 0⟩).k) : Int) == k) && (((((((byKinds l 10) ++ ([(⟨k, x, y⟩ : V3)] : List V3)).getD ((byKinds l 10).length : Int).toNat ⟨0, 0, 0⟩).a) : Int) == x) && (((((((byKinds l 10) ++ ([(⟨k, x, y⟩ : V3)] : List V3)).getD ((byKinds l 10).length : Int).toNat ⟨0, 0, 0⟩).b) : Int) == y) && true))) : Value) = (bV (((((((byKinds l 10) ++ ([(⟨k, x, y⟩ : V3)] : List V3)).getD ((byKinds l 10).length : Int).toNat ⟨0, 0, 0⟩).k) : Int) == k) && (((((((byKinds l 10) ++ ([(⟨k, x, y⟩ : V3)] : List V3)).getD ((byKinds l 10).length : Int).toNat ⟨0, 0, 0⟩).a) : Int) == x) && ((((((byKinds l 10) ++ ([(⟨k, x, y⟩ : V3)] : List V3)).getD ((byKinds l 10).length : Int).toNat ⟨0, 0, 0⟩).b) : Int) == y))) : Value) from (by simp)) (by simp [List.getD_eq_getElem?_getD]))))))))))) ?_
       clear hf; intro a hf
       clear hC
       show K12 _ _
       refine hK12 _ _ ?_
       refine wp_ret ?_
       refine qr (fn := Tryd.f6) hf hM [] (l := [bV true]) (ob := []) An ?_
       show (bV true : Value) = .bool true ∧ Keep Nn w w15
       refine ⟨congrArg Value.bool ?_, hk0⟩
       first | rfl | (simp; done) | (simp_all; done)
      ·
       refine sxleaf ?_
       have hC := (hC1i _ ⟨hM.sub (.cons_cons _ (.cons _ .slnil)), hk0, hO.sub (.cons_cons _ (.cons _ .slnil)) (.cons_cons _ .slnil)⟩)
       refine scstep rfl ?_
       refine sxbslice hf hM (t := 23) (e := 62) (len := 2) (cs := [iV k, iV x, iV y, iV k, iV x, iV y]) (ob := []) rfl rfl rfl rfl (by as_aux_lemma => kernel_rfl) An (by as_aux_lemma => kernel_rfl) ?_
       clear hf hM; intro a w16 B11 hf hM hB hk
       replace hM : MemOk [⟨B1, 62, [iV k, iV x, iV y]⟩, ⟨B9, 62, flat fV (List.replicate ((byKinds l 10).length + 3) (⟨0, 0, 0⟩ : V3))⟩, ⟨B11, 62, [iV k, iV x, iV y, iV k, iV x, iV y]⟩] w16 := hM
       have hbB11 : w.heap.size ≤ B11 := by have := hk0.size; omega
       have hk0 := hk0.trans hk.nn
       have hO := hO.step hM hk.nn (by intro i h; simp only [Mem.names, List.map_cons, List.map_nil, List.mem_cons, List.not_mem_nil, or_false, List.map_append, List.cons_append, List.nil_append] at h ⊢; omega)
       clear hk hB
       have hC := (hC1i _ ⟨hM.sub (.cons_cons _ (.cons _ (.cons _ .slnil))), hk0, hO.sub (.cons_cons _ (.cons _ (.cons _ .slnil))) (.cons_cons _ .slnil)⟩)
       refine scdone hC ?_
       refine scstep rfl ?_
       refine sxappendM hf (M1 := [⟨B1, 62, [iV k, iV x, iV y]⟩]) (M2 := [⟨B11, 62, [iV k, iV x, iV y, iV k, iV x, iV y]⟩]) (B := B9) (e := 62) (cs := flat fV (List.replicate ((byKinds l 10).length + 3) (⟨0, 0, 0⟩ : V3))) hM (sz := 3) (by_ := 24) (k := 0) (cap := ((byKinds l 10).length + 3)) rfl rfl rfl rfl (av := a'1) (m := (byKinds l 10).length) (c := c'1) rfl rfl Tryd.underlying23 (by kernel_rfl) (news := flat fV (byKinds l 10)) (own_arr (hO.own _ (List.Mem.head _))) (flat_one1 fV_one) (by rw [flat_len (sz := 3) (fun _ => rfl), List.length_replicate]) (by simp only [maxLen]; omega) ?_
       clear hf hM; intro a w17 hf hM hk
       have en : (0 + (byKinds l 10).length : Nat) = (byKinds l 10).length := (by omega)
       have ec : (flat fV (List.replicate ((byKinds l 10).length + 3) (⟨0, 0, 0⟩ : V3))).take (0 * 3) ++ flat fV (byKinds l 10) ++ (flat fV (List.replicate ((byKinds l 10).length + 3) (⟨0, 0, 0⟩ : V3))).drop (0 * 3 + (flat fV (byKinds l 10)).length) = flat fV ((byKinds l 10) ++ List.replicate 3 (⟨0, 0, 0⟩ : V3)) := (by rw [flat_over (sz := 3) (fun _ => rfl)]; simp)
       rw [en] at hf
       replace hM : MemOk [⟨B1, 62, [iV k, iV x, iV y]⟩, ⟨B9, 62, flat fV ((byKinds l 10) ++ List.replicate 3 (⟨0, 0, 0⟩ : V3))⟩, ⟨B11, 62, [iV k, iV x, iV y, iV k, iV x, iV y]⟩] w17 := by rw [← ec]; exact hM
       have hk0 := hk0.then hk (by intro i hi h; simp only [Is, List.mem_cons, List.not_mem_nil, or_false] at h; omega)
       have hO := hO.step hM (hk.mono (by intro i _ h; simp only [Is, Mem.names, List.map_cons, List.map_nil, List.mem_cons, List.not_mem_nil, or_false, List.map_append, List.cons_append, List.nil_append] at h ⊢; omega)) (by intro i h; simp only [Mem.names, List.map_cons, List.map_nil, List.mem_cons, List.not_mem_nil, or_false, List.map_append, List.cons_append, List.nil_append] at h ⊢; omega)
       clear hk en ec
       have hC := (hC1i _ ⟨hM.sub (.cons_cons _ (.cons _ (.cons _ .slnil))), hk0, hO.sub (.cons_cons _ (.cons _ (.cons _ .slnil))) (.cons_cons _ .slnil)⟩)
       refine scdone hC ?_
       refine scstep rfl ?_
       refine sxappendM hf (M1 := [⟨B1, 62, [iV k, iV x, iV y]⟩]) (M2 := [⟨B11, 62, [iV k, iV x, iV y, iV k, iV x, iV y]⟩]) (B := B9) (e := 62) (cs := flat fV ((byKinds l 10) ++ List.replicate 3 (⟨0, 0, 0⟩ : V3))) hM (sz := 3) (by_ := 24) (k := (byKinds l 10).length) (cap := ((byKinds l 10).length + 3)) rfl rfl rfl rfl (av := some ⟨B11, 0, none⟩) (m := 2) (c := 2) rfl rfl Tryd.underlying23 (by kernel_rfl) (news := flat fV ([⟨k, x, y⟩, ⟨k, x, y⟩] : List V3)) (Arr.of_memT (sz := 3) (f := fV) (L := ([⟨k, x, y⟩, ⟨k, x, y⟩] : List V3)) (l := ([⟨k, x, y⟩, ⟨k, x, y⟩] : List V3)) hM (List.Mem.tail _ (List.Mem.tail _ (List.Mem.head _))) (fun _ => rfl) rfl rfl) (flat_one1 fV_one) (by rw [flat_len (sz := 3) (fun _ => rfl)]; simp) (by simp only [maxLen]; omega) ?_
       clear hf hM; intro a w18 hf hM hk
       have en : ((byKinds l 10).length + 2 : Nat) = ((byKinds l 10).length + 2) := rfl
       have ec : (flat fV ((byKinds l 10) ++ List.replicate 3 (⟨0, 0, 0⟩ : V3))).take ((byKinds l 10).length * 3) ++ flat fV ([⟨k, x, y⟩, ⟨k, x, y⟩] : List V3) ++ (flat fV ((byKinds l 10) ++ List.replicate 3 (⟨0, 0, 0⟩ : V3))).drop ((byKinds l 10).length * 3 + (flat fV ([⟨k, x, y⟩, ⟨k, x, y⟩] : List V3)).length) = flat fV ((byKinds l 10) ++ [(⟨k, x, y⟩ : V3), (⟨k, x, y⟩ : V3)] ++ [(⟨0, 0, 0⟩ : V3)]) := (by rw [flat_over (sz := 3) (fun _ => rfl)]; simp)
       rw [en] at hf
       replace hM : MemOk [⟨B1, 62, [iV k, iV x, iV y]⟩, ⟨B9, 62, flat fV ((byKinds l 10) ++ [(⟨k, x, y⟩ : V3), (⟨k, x, y⟩ : V3)] ++ [(⟨0, 0, 0⟩ : V3)])⟩, ⟨B11, 62, [iV k, iV x, iV y, iV k, iV x, iV y]⟩] w18 := by rw [← ec]; exact hM
       have hk0 := hk0.then hk (by intro i hi h; simp only [Is, List.mem_cons, List.not_mem_nil, or_false] at h; omega)
       have hO := hO.step hM (hk.mono (by intro i _ h; simp only [Is, Mem.names, List.map_cons, List.map_nil, List.mem_cons, List.not_mem_nil, or_false, List.map_append, List.cons_append, List.nil_append] at h ⊢; omega)) (by intro i h; simp only [Mem.names, List.map_cons, List.map_nil, List.mem_cons, List.not_mem_nil, or_false, List.map_append, List.cons_append, List.nil_append] at h ⊢; omega)
       clear hk en ec
       have hC := (hC1i _ ⟨hM.sub (.cons_cons _ (.cons _ (.cons _ .slnil))), hk0, hO.sub (.cons_cons _ (.cons _ (.cons _ .slnil))) (.cons_cons _ .slnil)⟩)
       refine scdone hC ?_
       refine scstep rfl ?_
       refine sxval hf rfl rfl rfl rfl (v := .slice (some ⟨B9, 0, none⟩) (byKinds l 10).length ((byKinds l 10).length + 3)) (ob := []) (by kernel_rfl) An (by rw [show (.slice (some ⟨B9, 0, none⟩) (byKinds l 10).length ((byKinds l 10).length + 3) : Value) = .slice (some ⟨B9, 0, none⟩) (((byKinds l 10).length : Int) : Int).toNat ((byKinds l 10).length + 3) from (by simp)]; exact ox_slice_h rfl rfl rfl Tryd.underlying23 (sz := 3) (by kernel_rfl) (by omega)) ?_
       clear hf; intro a hf
       have hC := (hC1i _ ⟨hM.sub (.cons_cons _ (.cons _ (.cons _ .slnil))), hk0, hO.sub (.cons_cons _ (.cons _ (.cons _ .slnil))) (.cons_cons _ .slnil)⟩)
       refine scdone hC ?_
       refine qd hf hC (fun w' h => (hC1e w' h).1) [7, 5, 4, 3] [{}] (env' := [(7, eS (some ⟨B9, 0, none⟩) (byKinds l 10).length ((byKinds l 10).length + 3)), (5, eS a'1 (byKinds l 10).length c'1), (4, eB false), (3, eP B1 0)]) (ob := []) An ?_
       clear hf; intro a hf
       clear hC
       show K10 _ _
       refine hK10 _ _ ?_
       refine wp_seq_k (fun K13 hK13 => ?_)
       replace hM := hM.drew; replace hk0 := hk0.drew; replace hO := hO.drew
       obtain ⟨C4, hC4d⟩ : ∃ C : World → Prop, C = fun w' => MemOk [⟨B1, 62, [iV k, iV x, iV y]⟩, ⟨B9, 62, flat fV ((byKinds l 10) ++ [(⟨k, x, y⟩ : V3), (⟨k, x, y⟩ : V3)] ++ [(⟨0, 0, 0⟩ : V3)])⟩, ⟨B11, 62, [iV k, iV x, iV y, iV k, iV x, iV y]⟩] w' ∧ Keep Nn w w' ∧ OwnOk w.heap.size [⟨B1, 62, [iV k, iV x, iV y]⟩, ⟨B9, 62, flat fV ((byKinds l 10) ++ [(⟨k, x, y⟩ : V3), (⟨k, x, y⟩ : V3)] ++ [(⟨0, 0, 0⟩ : V3)])⟩, ⟨B11, 62, [iV k, iV x, iV y, iV k, iV x, iV y]⟩] [⟨62, 3, .slice a'1 (byKinds l 10).length c'1, (byKinds l 10).length, flat fV (byKinds l 10)⟩] w' := ⟨_, rfl⟩
       have hC4i : ∀ w', (MemOk [⟨B1, 62, [iV k, iV x, iV y]⟩, ⟨B9, 62, flat fV ((byKinds l 10) ++ [(⟨k, x, y⟩ : V3), (⟨k, x, y⟩ : V3)] ++ [(⟨0, 0, 0⟩ : V3)])⟩, ⟨B11, 62, [iV k, iV x, iV y, iV k, iV x, iV y]⟩] w' ∧ Keep Nn w w' ∧ OwnOk w.heap.size [⟨B1, 62, [iV k, iV x, iV y]⟩, ⟨B9, 62, flat fV ((byKinds l 10) ++ [(⟨k, x, y⟩ : V3), (⟨k, x, y⟩ : V3)] ++ [(⟨0, 0, 0⟩ : V3)])⟩, ⟨B11, 62, [iV k, iV x, iV y, iV k, iV x, iV y]⟩] [⟨62, 3, .slice a'1 (byKinds l 10).length c'1, (byKinds l 10).length, flat fV (byKinds l 10)⟩] w') → C4 w' := fun w' h => by rw [hC4d]; exact h
       have hC4e : ∀ w', C4 w' → (MemOk [⟨B1, 62, [iV k, iV x, iV y]⟩, ⟨B9, 62, flat fV ((byKinds l 10) ++ [(⟨k, x, y⟩ : V3), (⟨k, x, y⟩ : V3)] ++ [(⟨0, 0, 0⟩ : V3)])⟩, ⟨B11, 62, [iV k, iV x, iV y, iV k, iV x, iV y]⟩] w' ∧ Keep Nn w w' ∧ OwnOk w.heap.size [⟨B1, 62, [iV k, iV x, iV y]⟩, ⟨B9, 62, flat fV ((byKinds l 10) ++ [(⟨k, x, y⟩ : V3), (⟨k, x, y⟩ : V3)] ++ [(⟨0, 0, 0⟩ : V3)])⟩, ⟨B11, 62, [iV k, iV x, iV y, iV k, iV x, iV y]⟩] [⟨62, 3, .slice a'1 (byKinds l 10).length c'1, (byKinds l 10).length, flat fV (byKinds l 10)⟩] w') := fun w' h => by rw [hC4d] at h; exact h
       refine sxdraw (C := C4) (.leaf [(0, true), (1, true), (3, true), (4, true), (5, true), (2, false), (6, false), (7, true), (8, true)]) (by kernel_rfl) (by kernel_rfl) (by as_aux_lemma => kernel_rfl) rfl (by as_aux_lemma => kernel_rfl) (by kernel_rfl) (hC4i _ ⟨hM.sub (.cons_cons _ (.cons_cons _ (.cons_cons _ .slnil))), hk0, hO.sub (.cons_cons _ (.cons_cons _ (.cons_cons _ .slnil))) (.cons_cons _ .slnil)⟩) ?_
       refine sxleaf ?_
       have hC := (hC4i _ ⟨hM.sub (.cons_cons _ (.cons_cons _ (.cons_cons _ .slnil))), hk0, hO.sub (.cons_cons _ (.cons_cons _ (.cons_cons _ .slnil))) (.cons_cons _ .slnil)⟩)
       refine qd hf hC (fun w' h => (hC4e w' h).1) [45, 43, 41, 40, 7, 5, 4, 3] [{}, { os := [.ld 0 0, .ld 0 1, .ld 0 2] }, {}, {}, { os := [.ld 0 0] }] (env' := [(45, eI k), (43, eS (some ⟨B9, 0, none⟩) (byKinds l 10).length ((byKinds l 10).length + 3)), (41, .val (.agg #[iV k, iV x, iV y])), (40, eS (some ⟨B9, 0, none⟩) (byKinds l 10).length ((byKinds l 10).length + 3)), (7, eS (some ⟨B9, 0, none⟩) (byKinds l 10).length ((byKinds l 10).length + 3)), (5, eS a'1 (byKinds l 10).length c'1), (4, eB false), (3, eP B1 0)]) (ob := [Ad B1 0, Ad B1 1, Ad B1 2, Ad B1 0]) (Ac (ad _ _) (Ac (ad _ _) (Ac (ad _ _) (Ao (ad _ _))))) ?_
       clear hf; intro a hf
       refine scstep rfl ?_
       refine sxcall hf rfl rfl rfl rfl (g := 35) (vs := [.slice (some ⟨B9, 0, none⟩) (byKinds l 10).length ((byKinds l 10).length + 3), .agg #[iV k, iV x, iV y]]) (ob := []) (by as_aux_lemma => kernel_rfl) An enters35 (sput (some ⟨B9, 0, none⟩) (byKinds l 10) ((byKinds l 10).length + 3) k x y w18.drew  (Arr.of_memT (sz := 3) (f := fV) (L := ((byKinds l 10) ++ [(⟨k, x, y⟩ : V3), (⟨k, x, y⟩ : V3)] ++ [(⟨0, 0, 0⟩ : V3)])) (l := (byKinds l 10)) (c := ((byKinds l 10).length + 3)) hM (List.Mem.tail _ (List.Mem.head _)) (fun _ => rfl) (by simp) (by simp)) (by first | omega | (simp; omega) | (simp; done) | exact Nat.le_trans (byKinds_len _ _) (by omega) | decide) (by first | omega | exact Nat.le_trans (byKinds_len _ _) (by omega)) (by assumption) (by assumption) (by assumption)) ?_
       clear hf; rintro _ w19 a ⟨a'6, c'6, rfl, hk, hx6⟩ hf
       have hO := hO.more hM hk (by have := hk0.size; omega) hx6
       replace hO : OwnOk w.heap.size [⟨B1, 62, [iV k, iV x, iV y]⟩, ⟨B9, 62, flat fV ((byKinds l 10) ++ [(⟨k, x, y⟩ : V3), (⟨k, x, y⟩ : V3)] ++ [(⟨0, 0, 0⟩ : V3)])⟩, ⟨B11, 62, [iV k, iV x, iV y, iV k, iV x, iV y]⟩] [⟨62, 3, .slice a'6 ((byKinds ((dropV (byKinds l 10) k) ++ ([⟨k, x, y⟩] : List V3)) 10).length) c'6, (byKinds ((dropV (byKinds l 10) k) ++ ([⟨k, x, y⟩] : List V3)) 10).length, flat fV (byKinds ((dropV (byKinds l 10) k) ++ ([⟨k, x, y⟩] : List V3)) 10)⟩, ⟨62, 3, .slice a'1 (byKinds l 10).length c'1, (byKinds l 10).length, flat fV (byKinds l 10)⟩] _ := hO
       have hM := hM.keepNn hk
       have hk0 := hk0.trans hk.nn
       clear hk
       have hC := (hC4i _ ⟨hM.sub (.cons_cons _ (.cons_cons _ (.cons_cons _ .slnil))), hk0, hO.sub (.cons_cons _ (.cons_cons _ (.cons_cons _ .slnil))) (.cons _ (.cons_cons _ .slnil))⟩)
       refine scdone hC ?_
       refine scstep rfl ?_
       refine sxcall hf rfl rfl rfl rfl (g := 36) (vs := [.slice (some ⟨B9, 0, none⟩) (byKinds l 10).length ((byKinds l 10).length + 3), iV k]) (ob := []) (by as_aux_lemma => kernel_rfl) An enters36 (sdrop (some ⟨B9, 0, none⟩) (byKinds l 10) ((byKinds l 10).length + 3) k w19  (Arr.of_memT (sz := 3) (f := fV) (L := ((byKinds l 10) ++ [(⟨k, x, y⟩ : V3), (⟨k, x, y⟩ : V3)] ++ [(⟨0, 0, 0⟩ : V3)])) (l := (byKinds l 10)) (c := ((byKinds l 10).length + 3)) hM (List.Mem.tail _ (List.Mem.head _)) (fun _ => rfl) (by simp) (by simp)) (by first | omega | (simp; omega) | (simp; done) | exact Nat.le_trans (byKinds_len _ _) (by omega) | decide)) ?_
       clear hf; rintro _ w20 a ⟨a'7, c'7, rfl, hk, hx7⟩ hf
       have hO := hO.more hM hk (by have := hk0.size; omega) hx7
       replace hO : OwnOk w.heap.size [⟨B1, 62, [iV k, iV x, iV y]⟩, ⟨B9, 62, flat fV ((byKinds l 10) ++ [(⟨k, x, y⟩ : V3), (⟨k, x, y⟩ : V3)] ++ [(⟨0, 0, 0⟩ : V3)])⟩, ⟨B11, 62, [iV k, iV x, iV y, iV k, iV x, iV y]⟩] [⟨62, 3, .slice a'7 ((dropV (byKinds l 10) k).length) c'7, (dropV (byKinds l 10) k).length, flat fV (dropV (byKinds l 10) k)⟩, ⟨62, 3, .slice a'6 ((byKinds ((dropV (byKinds l 10) k) ++ ([⟨k, x, y⟩] : List V3)) 10).length) c'6, (byKinds ((dropV (byKinds l 10) k) ++ ([⟨k, x, y⟩] : List V3)) 10).length, flat fV (byKinds ((dropV (byKinds l 10) k) ++ ([⟨k, x, y⟩] : List V3)) 10)⟩, ⟨62, 3, .slice a'1 (byKinds l 10).length c'1, (byKinds l 10).length, flat fV (byKinds l 10)⟩] _ := hO
       have hM := hM.keepNn hk
       have hk0 := hk0.trans hk.nn
       clear hk
       have hC := (hC4i _ ⟨hM.sub (.cons_cons _ (.cons_cons _ (.cons_cons _ .slnil))), hk0, hO.sub (.cons_cons _ (.cons_cons _ (.cons_cons _ .slnil))) (.cons _ (.cons _ (.cons_cons _ .slnil)))⟩)
       refine scdone hC ?_
       refine qd hf hC (fun w' h => (hC4e w' h).1) [9, 8, 7, 5, 4, 3] [{}, {}] (env' := [(9, eS a'7 ((dropV (byKinds l 10) k).length) c'7), (8, eS a'6 ((byKinds ((dropV (byKinds l 10) k) ++ ([⟨k, x, y⟩] : List V3)) 10).length) c'6), (7, eS (some ⟨B9, 0, none⟩) (byKinds l 10).length ((byKinds l 10).length + 3)), (5, eS a'1 (byKinds l 10).length c'1), (4, eB false), (3, eP B1 0)]) (ob := []) An ?_
       clear hf; intro a hf
       clear hC
       show K13 _ _
       refine hK13 _ _ ?_
       refine wp_seq_k (fun K14 hK14 => ?_)
       replace hM := hM.drew; replace hk0 := hk0.drew; replace hO := hO.drew
       obtain ⟨C5, hC5d⟩ : ∃ C : World → Prop, C = fun w' => MemOk [⟨B1, 62, [iV k, iV x, iV y]⟩, ⟨B9, 62, flat fV ((byKinds l 10) ++ [(⟨k, x, y⟩ : V3), (⟨k, x, y⟩ : V3)] ++ [(⟨0, 0, 0⟩ : V3)])⟩, ⟨B11, 62, [iV k, iV x, iV y, iV k, iV x, iV y]⟩] w' ∧ Keep Nn w w' ∧ OwnOk w.heap.size [⟨B1, 62, [iV k, iV x, iV y]⟩, ⟨B9, 62, flat fV ((byKinds l 10) ++ [(⟨k, x, y⟩ : V3), (⟨k, x, y⟩ : V3)] ++ [(⟨0, 0, 0⟩ : V3)])⟩, ⟨B11, 62, [iV k, iV x, iV y, iV k, iV x, iV y]⟩] [⟨62, 3, .slice a'7 ((dropV (byKinds l 10) k).length) c'7, (dropV (byKinds l 10) k).length, flat fV (dropV (byKinds l 10) k)⟩, ⟨62, 3, .slice a'6 ((byKinds ((dropV (byKinds l 10) k) ++ ([⟨k, x, y⟩] : List V3)) 10).length) c'6, (byKinds ((dropV (byKinds l 10) k) ++ ([⟨k, x, y⟩] : List V3)) 10).length, flat fV (byKinds ((dropV (byKinds l 10) k) ++ ([⟨k, x, y⟩] : List V3)) 10)⟩, ⟨62, 3, .slice a'1 (byKinds l 10).length c'1, (byKinds l 10).length, flat fV (byKinds l 10)⟩] w' := ⟨_, rfl⟩
       have hC5i : ∀ w', (MemOk [⟨B1, 62, [iV k, iV x, iV y]⟩, ⟨B9, 62, flat fV ((byKinds l 10) ++ [(⟨k, x, y⟩ : V3), (⟨k, x, y⟩ : V3)] ++ [(⟨0, 0, 0⟩ : V3)])⟩, ⟨B11, 62, [iV k, iV x, iV y, iV k, iV x, iV y]⟩] w' ∧ Keep Nn w w' ∧ OwnOk w.heap.size [⟨B1, 62, [iV k, iV x, iV y]⟩, ⟨B9, 62, flat fV ((byKinds l 10) ++ [(⟨k, x, y⟩ : V3), (⟨k, x, y⟩ : V3)] ++ [(⟨0, 0, 0⟩ : V3)])⟩, ⟨B11, 62, [iV k, iV x, iV y, iV k, iV x, iV y]⟩] [⟨62, 3, .slice a'7 ((dropV (byKinds l 10) k).length) c'7, (dropV (byKinds l 10) k).length, flat fV (dropV (byKinds l 10) k)⟩, ⟨62, 3, .slice a'6 ((byKinds ((dropV (byKinds l 10) k) ++ ([⟨k, x, y⟩] : List V3)) 10).length) c'6, (byKinds ((dropV (byKinds l 10) k) ++ ([⟨k, x, y⟩] : List V3)) 10).length, flat fV (byKinds ((dropV (byKinds l 10) k) ++ ([⟨k, x, y⟩] : List V3)) 10)⟩, ⟨62, 3, .slice a'1 (byKinds l 10).length c'1, (byKinds l 10).length, flat fV (byKinds l 10)⟩] w') → C5 w' := fun w' h => by rw [hC5d]; exact h
       have hC5e : ∀ w', C5 w' → (MemOk [⟨B1, 62, [iV k, iV x, iV y]⟩, ⟨B9, 62, flat fV ((byKinds l 10) ++ [(⟨k, x, y⟩ : V3), (⟨k, x, y⟩ : V3)] ++ [(⟨0, 0, 0⟩ : V3)])⟩, ⟨B11, 62, [iV k, iV x, iV y, iV k, iV x, iV y]⟩] w' ∧ Keep Nn w w' ∧ OwnOk w.heap.size [⟨B1, 62, [iV k, iV x, iV y]⟩, ⟨B9, 62, flat fV ((byKinds l 10) ++ [(⟨k, x, y⟩ : V3), (⟨k, x, y⟩ : V3)] ++ [(⟨0, 0, 0⟩ : V3)])⟩, ⟨B11, 62, [iV k, iV x, iV y, iV k, iV x, iV y]⟩] [⟨62, 3, .slice a'7 ((dropV (byKinds l 10) k).length) c'7, (dropV (byKinds l 10) k).length, flat fV (dropV (byKinds l 10) k)⟩, ⟨62, 3, .slice a'6 ((byKinds ((dropV (byKinds l 10) k) ++ ([⟨k, x, y⟩] : List V3)) 10).length) c'6, (byKinds ((dropV (byKinds l 10) k) ++ ([⟨k, x, y⟩] : List V3)) 10).length, flat fV (byKinds ((dropV (byKinds l 10) k) ++ ([⟨k, x, y⟩] : List V3)) 10)⟩, ⟨62, 3, .slice a'1 (byKinds l 10).length c'1, (byKinds l 10).length, flat fV (byKinds l 10)⟩] w') := fun w' h => by rw [hC5d] at h; exact h
       refine sxdraw (C := C5) (.leaf [(0, true), (1, true), (2, true), (3, false), (4, false), (5, true), (6, true), (7, true), (8, true), (9, true), (10, false), (11, false), (12, true), (13, true), (14, true), (15, true), (16, false), (17, true), (18, true), (19, true), (20, true), (21, true), (22, true), (24, true), (25, true), (28, true), (23, false), (26, true), (27, true), (29, true), (30, true), (31, true)]) (by kernel_rfl) (by kernel_rfl) (by as_aux_lemma => kernel_rfl) rfl (by as_aux_lemma => kernel_rfl) (by kernel_rfl) (hC5i _ ⟨hM.sub (.cons_cons _ (.cons_cons _ (.cons_cons _ .slnil))), hk0, hO.sub (.cons_cons _ (.cons_cons _ (.cons_cons _ .slnil))) (.cons_cons _ (.cons_cons _ (.cons_cons _ .slnil)))⟩) ?_
       refine sxleaf ?_
       have hC := (hC5i _ ⟨hM.sub (.cons_cons _ (.cons_cons _ (.cons_cons _ .slnil))), hk0, hO.sub (.cons_cons _ (.cons_cons _ (.cons_cons _ .slnil))) (.cons_cons _ (.cons_cons _ (.cons_cons _ .slnil)))⟩)
       refine qd hf hC (fun w' h => (hC5e w' h).1) [49, 48, 47, 9, 7, 5, 4, 3] [{}, {}, { os := [.ld 0 0, .ld 0 1, .ld 0 2] }] (env' := [(49, .val (.agg #[iV k, iV x, iV y])), (48, eS a'1 (byKinds l 10).length c'1), (47, eS a'6 ((byKinds ((dropV (byKinds l 10) k) ++ ([⟨k, x, y⟩] : List V3)) 10).length) c'6), (9, eS a'7 ((dropV (byKinds l 10) k).length) c'7), (7, eS (some ⟨B9, 0, none⟩) (byKinds l 10).length ((byKinds l 10).length + 3)), (5, eS a'1 (byKinds l 10).length c'1), (4, eB false), (3, eP B1 0)]) (ob := [Ad B1 0, Ad B1 1, Ad B1 2]) (Ac (ad _ _) (Ac (ad _ _) (Ao (ad _ _)))) ?_
       clear hf; intro a hf
       refine scstep rfl ?_
       refine sxcall hf rfl rfl rfl rfl (g := 38) (vs := [.slice a'1 (byKinds l 10).length c'1, .agg #[iV k, iV x, iV y]]) (ob := []) (by as_aux_lemma => kernel_rfl) An enters38 (rput a'1 (byKinds l 10) c'1 k x y w20.drew  (own_arr (hO.own _ (List.Mem.tail _ (List.Mem.tail _ (List.Mem.head _))))) (by first | omega | (simp; omega) | (simp; done) | exact Nat.le_trans (byKinds_len _ _) (by omega) | decide) (by first | omega | exact Nat.le_trans (byKinds_len _ _) (by omega)) (by assumption) (by assumption) (by assumption)) ?_
       clear hf; rintro _ w21 a ⟨a'8, c'8, rfl, hk, hx8⟩ hf
       have hO := hO.more hM hk (by have := hk0.size; omega) hx8
       replace hO : OwnOk w.heap.size [⟨B1, 62, [iV k, iV x, iV y]⟩, ⟨B9, 62, flat fV ((byKinds l 10) ++ [(⟨k, x, y⟩ : V3), (⟨k, x, y⟩ : V3)] ++ [(⟨0, 0, 0⟩ : V3)])⟩, ⟨B11, 62, [iV k, iV x, iV y, iV k, iV x, iV y]⟩] [⟨62, 3, .slice a'8 ((byKinds ((dropV (byKinds l 10) k) ++ ([⟨k, x, y⟩] : List V3)) 10).length) c'8, (byKinds ((dropV (byKinds l 10) k) ++ ([⟨k, x, y⟩] : List V3)) 10).length, flat fV (byKinds ((dropV (byKinds l 10) k) ++ ([⟨k, x, y⟩] : List V3)) 10)⟩, ⟨62, 3, .slice a'7 ((dropV (byKinds l 10) k).length) c'7, (dropV (byKinds l 10) k).length, flat fV (dropV (byKinds l 10) k)⟩, ⟨62, 3, .slice a'6 ((byKinds ((dropV (byKinds l 10) k) ++ ([⟨k, x, y⟩] : List V3)) 10).length) c'6, (byKinds ((dropV (byKinds l 10) k) ++ ([⟨k, x, y⟩] : List V3)) 10).length, flat fV (byKinds ((dropV (byKinds l 10) k) ++ ([⟨k, x, y⟩] : List V3)) 10)⟩, ⟨62, 3, .slice a'1 (byKinds l 10).length c'1, (byKinds l 10).length, flat fV (byKinds l 10)⟩] _ := hO
       have hM := hM.keepNn hk
       have hk0 := hk0.trans hk.nn
       clear hk
       have hC := (hC5i _ ⟨hM.sub (.cons_cons _ (.cons_cons _ (.cons_cons _ .slnil))), hk0, hO.sub (.cons_cons _ (.cons_cons _ (.cons_cons _ .slnil))) (.cons _ (.cons_cons _ (.cons_cons _ (.cons_cons _ .slnil))))⟩)
       refine scdone hC ?_
       refine scstep rfl ?_
       refine sxcall hf rfl rfl rfl rfl (g := 37) (vs := [.slice a'6 ((byKinds ((dropV (byKinds l 10) k) ++ ([⟨k, x, y⟩] : List V3)) 10).length) c'6, .slice a'8 ((byKinds ((dropV (byKinds l 10) k) ++ ([⟨k, x, y⟩] : List V3)) 10).length) c'8]) (ob := []) (by as_aux_lemma => kernel_rfl) An enters37 (rsame a'6 (byKinds ((dropV (byKinds l 10) k) ++ ([⟨k, x, y⟩] : List V3)) 10) c'6 a'8 (byKinds ((dropV (byKinds l 10) k) ++ ([⟨k, x, y⟩] : List V3)) 10) c'8 w21  (own_arr (hO.own _ (List.Mem.tail _ (List.Mem.tail _ (List.Mem.head _))))) (by first | omega | (simp; omega) | (simp; done) | exact Nat.le_trans (byKinds_len _ _) (by omega) | decide) (own_arr (hO.own _ (List.Mem.head _))) (by first | omega | (simp; omega) | (simp; done) | exact Nat.le_trans (byKinds_len _ _) (by omega) | decide)) ?_
       clear hf; rintro _ w22 a ⟨rfl, hk⟩ hf
       have hO := hO.keepNn hk
       have hM := hM.keepNn hk
       have hk0 := hk0.trans hk.nn
       clear hk
       have hC := (hC5i _ ⟨hM.sub (.cons_cons _ (.cons_cons _ (.cons_cons _ .slnil))), hk0, hO.sub (.cons_cons _ (.cons_cons _ (.cons_cons _ .slnil))) (.cons _ (.cons_cons _ (.cons_cons _ (.cons_cons _ .slnil))))⟩)
       refine scdone hC ?_
       refine qd hf hC (fun w' h => (hC5e w' h).1) [52, 9, 7, 5, 4, 3] [{}] (env' := [(52, eB (sameL (byKinds ((dropV (byKinds l 10) k) ++ ([⟨k, x, y⟩] : List V3)) 10) (byKinds ((dropV (byKinds l 10) k) ++ ([⟨k, x, y⟩] : List V3)) 10))), (9, eS a'7 ((dropV (byKinds l 10) k).length) c'7), (7, eS (some ⟨B9, 0, none⟩) (byKinds l 10).length ((byKinds l 10).length + 3)), (5, eS a'1 (byKinds l 10).length c'1), (4, eB false), (3, eP B1 0)]) (ob := []) An ?_
       clear hf; intro a hf
       have hf := hf.prune [52, 9, 7, 5, 4, 3]
       replace hf : Fr 78 [(52, eB (sameL (byKinds ((dropV (byKinds l 10) k) ++ ([⟨k, x, y⟩] : List V3)) 10) (byKinds ((dropV (byKinds l 10) k) ++ ([⟨k, x, y⟩] : List V3)) 10))), (9, eS a'7 ((dropV (byKinds l 10) k).length) c'7), (7, eS (some ⟨B9, 0, none⟩) (byKinds l 10).length ((byKinds l 10).length + 3)), (5, eS a'1 (byKinds l 10).length c'1), (4, eB false), (3, eP B1 0)] a := hf
       replace hf := hf.conv (env' := [(52, eB true), (9, eS a'7 ((dropV (byKinds l 10) k).length) c'7), (7, eS (some ⟨B9, 0, none⟩) (byKinds l 10).length ((byKinds l 10).length + 3)), (5, eS a'1 (byKinds l 10).length c'1), (4, eB false), (3, eP B1 0)]) (Ac (congrArg Value.bool hs1) (Ac rfl (Ac rfl (Ac rfl (Ac rfl (Ao rfl))))))
       refine qd hf hC (fun w' h => (hC5e w' h).1) [56, 54, 53, 52, 7, 5, 4, 3] [{}, {}, {}, { os := [.ld 0 0] }] (env' := [(56, eI k), (54, eS a'1 (byKinds l 10).length c'1), (53, eS a'7 ((dropV (byKinds l 10) k).length) c'7), (52, eB true), (7, eS (some ⟨B9, 0, none⟩) (byKinds l 10).length ((byKinds l 10).length + 3)), (5, eS a'1 (byKinds l 10).length c'1), (4, eB false), (3, eP B1 0)]) (ob := [true = true, true = true, true = true, true = true, Ad B1 0]) (Ac rfl (Ac rfl (Ac rfl (Ac rfl (Ao (ad _ _)))))) ?_
       clear hf; intro a hf
       refine scstep rfl ?_
       refine sxcallg hf rfl rfl rfl rfl rfl (g := 39) (vs := [.slice a'1 (byKinds l 10).length c'1, iV k]) (ob := []) (by as_aux_lemma => kernel_rfl) An enters39 (rdrop a'1 (byKinds l 10) c'1 k w22  (own_arr (hO.own _ (List.Mem.tail _ (List.Mem.tail _ (List.Mem.tail _ (List.Mem.head _)))))) (by first | omega | (simp; omega) | (simp; done) | exact Nat.le_trans (byKinds_len _ _) (by omega) | decide)) ?_
       clear hf; rintro _ w23 a ⟨a'9, c'9, rfl, hk, hx9⟩ hf
       have hO := hO.more hM hk (by have := hk0.size; omega) hx9
       replace hO : OwnOk w.heap.size [⟨B1, 62, [iV k, iV x, iV y]⟩, ⟨B9, 62, flat fV ((byKinds l 10) ++ [(⟨k, x, y⟩ : V3), (⟨k, x, y⟩ : V3)] ++ [(⟨0, 0, 0⟩ : V3)])⟩, ⟨B11, 62, [iV k, iV x, iV y, iV k, iV x, iV y]⟩] [⟨62, 3, .slice a'9 ((dropV (byKinds l 10) k).length) c'9, (dropV (byKinds l 10) k).length, flat fV (dropV (byKinds l 10) k)⟩, ⟨62, 3, .slice a'8 ((byKinds ((dropV (byKinds l 10) k) ++ ([⟨k, x, y⟩] : List V3)) 10).length) c'8, (byKinds ((dropV (byKinds l 10) k) ++ ([⟨k, x, y⟩] : List V3)) 10).length, flat fV (byKinds ((dropV (byKinds l 10) k) ++ ([⟨k, x, y⟩] : List V3)) 10)⟩, ⟨62, 3, .slice a'7 ((dropV (byKinds l 10) k).length) c'7, (dropV (byKinds l 10) k).length, flat fV (dropV (byKinds l 10) k)⟩, ⟨62, 3, .slice a'6 ((byKinds ((dropV (byKinds l 10) k) ++ ([⟨k, x, y⟩] : List V3)) 10).length) c'6, (byKinds ((dropV (byKinds l 10) k) ++ ([⟨k, x, y⟩] : List V3)) 10).length, flat fV (byKinds ((dropV (byKinds l 10) k) ++ ([⟨k, x, y⟩] : List V3)) 10)⟩, ⟨62, 3, .slice a'1 (byKinds l 10).length c'1, (byKinds l 10).length, flat fV (byKinds l 10)⟩] _ := hO
       have hM := hM.keepNn hk
       have hk0 := hk0.trans hk.nn
       clear hk
       have hC := (hC5i _ ⟨hM.sub (.cons_cons _ (.cons_cons _ (.cons_cons _ .slnil))), hk0, hO.sub (.cons_cons _ (.cons_cons _ (.cons_cons _ .slnil))) (.cons _ (.cons _ (.cons_cons _ (.cons_cons _ (.cons_cons _ .slnil)))))⟩)
       refine scdone hC ?_
       refine scstep rfl ?_
       refine sxcallg hf rfl rfl rfl rfl rfl (g := 37) (vs := [.slice a'7 ((dropV (byKinds l 10) k).length) c'7, .slice a'9 ((dropV (byKinds l 10) k).length) c'9]) (ob := []) (by as_aux_lemma => kernel_rfl) An enters37 (rsame a'7 (dropV (byKinds l 10) k) c'7 a'9 (dropV (byKinds l 10) k) c'9 w23  (own_arr (hO.own _ (List.Mem.tail _ (List.Mem.tail _ (List.Mem.head _))))) (by first | omega | (simp; omega) | (simp; done) | exact Nat.le_trans (byKinds_len _ _) (by omega) | decide) (own_arr (hO.own _ (List.Mem.head _))) (by first | omega | (simp; omega) | (simp; done) | exact Nat.le_trans (byKinds_len _ _) (by omega) | decide)) ?_
       clear hf; rintro _ w24 a ⟨rfl, hk⟩ hf
       have hO := hO.keepNn hk
       have hM := hM.keepNn hk
       have hk0 := hk0.trans hk.nn
       clear hk
       have hC := (hC5i _ ⟨hM.sub (.cons_cons _ (.cons_cons _ (.cons_cons _ .slnil))), hk0, hO.sub (.cons_cons _ (.cons_cons _ (.cons_cons _ .slnil))) (.cons _ (.cons _ (.cons_cons _ (.cons_cons _ (.cons_cons _ .slnil)))))⟩)
       refine scdone hC ?_
       refine qd hf hC (fun w' h => (hC5e w' h).1) [60, 7, 5, 4, 3] [{}, {}] (env' := [(60, eB (sameL (dropV (byKinds l 10) k) (dropV (byKinds l 10) k))), (7, eS (some ⟨B9, 0, none⟩) (byKinds l 10).length ((byKinds l 10).length + 3)), (5, eS a'1 (byKinds l 10).length c'1), (4, eB false), (3, eP B1 0)]) (ob := []) An ?_
       clear hf; intro a hf
       have hf := hf.prune [60, 7, 5, 4, 3]
       replace hf : Fr 78 [(60, eB (sameL (dropV (byKinds l 10) k) (dropV (byKinds l 10) k))), (7, eS (some ⟨B9, 0, none⟩) (byKinds l 10).length ((byKinds l 10).length + 3)), (5, eS a'1 (byKinds l 10).length c'1), (4, eB false), (3, eP B1 0)] a := hf
       replace hf := hf.conv (env' := [(60, eB true), (7, eS (some ⟨B9, 0, none⟩) (byKinds l 10).length ((byKinds l 10).length + 3)), (5, eS a'1 (byKinds l 10).length c'1), (4, eB false), (3, eP B1 0)]) (Ac (congrArg Value.bool hs2) (Ac rfl (Ac rfl (Ac rfl (Ao rfl)))))
       refine qd hf hC (fun w' h => (hC5e w' h).1) [62, 61, 60, 7, 5, 4, 3] [{}, {}] (env' := [(62, eS a'1 (byKinds l 10).length c'1), (61, eS (some ⟨B9, 0, none⟩) (byKinds l 10).length ((byKinds l 10).length + 3)), (60, eB true), (7, eS (some ⟨B9, 0, none⟩) (byKinds l 10).length ((byKinds l 10).length + 3)), (5, eS a'1 (byKinds l 10).length c'1), (4, eB false), (3, eP B1 0)]) (ob := [true = true, true = true]) (Ac rfl (Ao rfl)) ?_
       clear hf; intro a hf
       refine scstep rfl ?_
       refine sxcallg hf rfl rfl rfl rfl rfl (g := 37) (vs := [.slice (some ⟨B9, 0, none⟩) (byKinds l 10).length ((byKinds l 10).length + 3), .slice a'1 (byKinds l 10).length c'1]) (ob := []) (by as_aux_lemma => kernel_rfl) An enters37 (rsame (some ⟨B9, 0, none⟩) (byKinds l 10) ((byKinds l 10).length + 3) a'1 (byKinds l 10) c'1 w24  (Arr.of_memT (sz := 3) (f := fV) (L := ((byKinds l 10) ++ [(⟨k, x, y⟩ : V3), (⟨k, x, y⟩ : V3)] ++ [(⟨0, 0, 0⟩ : V3)])) (l := (byKinds l 10)) (c := ((byKinds l 10).length + 3)) hM (List.Mem.tail _ (List.Mem.head _)) (fun _ => rfl) (by simp) (by simp)) (by first | omega | (simp; omega) | (simp; done) | exact Nat.le_trans (byKinds_len _ _) (by omega) | decide) (own_arr (hO.own _ (List.Mem.tail _ (List.Mem.tail _ (List.Mem.tail _ (List.Mem.tail _ (List.Mem.head _))))))) (by first | omega | (simp; omega) | (simp; done) | exact Nat.le_trans (byKinds_len _ _) (by omega) | decide)) ?_
       clear hf; rintro _ w25 a ⟨rfl, hk⟩ hf
       have hO := hO.keepNn hk
       have hM := hM.keepNn hk
       have hk0 := hk0.trans hk.nn
       clear hk
       have hC := (hC5i _ ⟨hM.sub (.cons_cons _ (.cons_cons _ (.cons_cons _ .slnil))), hk0, hO.sub (.cons_cons _ (.cons_cons _ (.cons_cons _ .slnil))) (.cons _ (.cons _ (.cons_cons _ (.cons_cons _ (.cons_cons _ .slnil)))))⟩)
       refine scdone hC ?_
       refine qd hf hC (fun w' h => (hC5e w' h).1) [65, 7, 5, 4, 3] [{}, {}] (env' := [(65, eB (sameL (byKinds l 10) (byKinds l 10))), (7, eS (some ⟨B9, 0, none⟩) (byKinds l 10).length ((byKinds l 10).length + 3)), (5, eS a'1 (byKinds l 10).length c'1), (4, eB false), (3, eP B1 0)]) (ob := []) An ?_
       clear hf; intro a hf
       have hf := hf.prune [65, 7, 5, 4, 3]
       replace hf : Fr 78 [(65, eB (sameL (byKinds l 10) (byKinds l 10))), (7, eS (some ⟨B9, 0, none⟩) (byKinds l 10).length ((byKinds l 10).length + 3)), (5, eS a'1 (byKinds l 10).length c'1), (4, eB false), (3, eP B1 0)] a := hf
       replace hf := hf.conv (env' := [(65, eB true), (7, eS (some ⟨B9, 0, none⟩) (byKinds l 10).length ((byKinds l 10).length + 3)), (5, eS a'1 (byKinds l 10).length c'1), (4, eB false), (3, eP B1 0)]) (Ac (congrArg Value.bool hs3) (Ac rfl (Ac rfl (Ac rfl (Ao rfl)))))
       refine qd hf hC (fun w' h => (hC5e w' h).1) [75, 72, 69, 66, 65, 4] [{}, {}, {}, { hint := some (iV (((byKinds l 10).length : Int) + 1)) }, {}, {}, { os := [.ld 0 0, .ld 0 1, .ld 0 2] }] (env' := [(75, .val (.agg #[iV k, iV x, iV y])), (72, eI ((byKinds l 10).length : Int)), (69, eI (((byKinds l 10).length : Int) + 1)), (66, eS (some ⟨B9, 0, none⟩) (byKinds l 10).length ((byKinds l 10).length + 3)), (65, eB true), (4, eB false)]) (ob := [true = true, true = true, true = true, true = true, (iV (IntKind.i64.wrap (((byKinds l 10).length : Int) + 1)) : Value) = (iV (((byKinds l 10).length : Int) + 1) : Value), true = true, true = true, true = true, Ad B1 0, Ad B1 1, Ad B1 2]) (Ac rfl (Ac rfl (Ac rfl (Ac rfl (Ac (wr (by omega)) (Ac rfl (Ac rfl (Ac rfl (Ac (ad _ _) (Ac (ad _ _) (Ao (ad _ _)))))))))))) ?_
       clear hf; intro a hf
       refine scstep rfl ?_
       refine sxvalg hf rfl rfl rfl rfl rfl (v := .slice (some ⟨B9, 0, none⟩) ((byKinds l 10).length + 1) ((byKinds l 10).length + 3)) (ob := []) (by kernel_rfl) An (by rw [show (.slice (some ⟨B9, 0, none⟩) ((byKinds l 10).length + 1) ((byKinds l 10).length + 3) : Value) = .slice (some ⟨B9, 0, none⟩) (((byKinds l 10).length : Int) + 1 : Int).toNat ((byKinds l 10).length + 3) from (by congr 1 <;> omega)]; exact ox_slice_h rfl rfl rfl Tryd.underlying23 (sz := 3) (by kernel_rfl) (by omega)) ?_
       clear hf; intro a hf
       have hC := (hC5i _ ⟨hM.sub (.cons_cons _ (.cons_cons _ (.cons_cons _ .slnil))), hk0, hO.sub (.cons_cons _ (.cons_cons _ (.cons_cons _ .slnil))) (.cons _ (.cons _ (.cons_cons _ (.cons_cons _ (.cons_cons _ .slnil)))))⟩)
       refine scdone hC ?_
       refine qd hf hC (fun w' h => (hC5e w' h).1) [4] [{ sp := true }, { os := [.ex (iV ((((byKinds l 10) ++ ([(⟨k, x, y⟩ : V3)] : List V3)).getD ((byKinds l 10).length : Int).toNat ⟨0, 0, 0⟩).k)), .ex (iV ((((byKinds l 10) ++ ([(⟨k, x, y⟩ : V3)] : List V3)).getD ((byKinds l 10).length : Int).toNat ⟨0, 0, 0⟩).a)), .ex (iV ((((byKinds l 10) ++ ([(⟨k, x, y⟩ : V3)] : List V3)).getD ((byKinds l 10).length : Int).toNat ⟨0, 0, 0⟩).b))] }, { sp := true, hint := some (bV true) }, {}, {}] (env' := [(4, eB true)]) (ob := [true = true, (0 : Int) ≤ ((byKinds l 10).length : Int) ∧ ((byKinds l 10).length : Int) < (((byKinds l 10).length + 1) : Int), (some ⟨B9, 0, none⟩ : Option Addr).isSome = true, true = true, (∀ w', C5 w' → w'.cell? (((sa (some ⟨B9, 0, none⟩) : Addr).add (((byKinds l 10).length : Int).toNat * 3)).add 0) = some (iV ((((byKinds l 10) ++ ([(⟨k, x, y⟩ : V3)] : List V3)).getD ((byKinds l 10).length : Int).toNat ⟨0, 0, 0⟩).k))), (∀ w', C5 w' → w'.cell? (((sa (some ⟨B9, 0, none⟩) : Addr).add (((byKinds l 10).length : Int).toNat * 3)).add 1) = some (iV ((((byKinds l 10) ++ ([(⟨k, x, y⟩ : V3)] : List V3)).getD ((byKinds l 10).length : Int).toNat ⟨0, 0, 0⟩).a))), (∀ w', C5 w' → w'.cell? (((sa (some ⟨B9, 0, none⟩) : Addr).add (((byKinds l 10).length : Int).toNat * 3)).add 2) = some (iV ((((byKinds l 10) ++ ([(⟨k, x, y⟩ : V3)] : List V3)).getD ((byKinds l 10).length : Int).toNat ⟨0, 0, 0⟩).b))), true = true, (bV (((((((byKinds l 10) ++ ([(⟨k, x, y⟩ : V3)] : List V3)).getD ((byKinds l 10).length : Int).toNat ⟨0, 0, 0⟩).k) : Int) == k) && (((((((byKinds l 10) ++ ([(⟨k, x, y⟩ : V3)] : List V3)).getD ((byKinds l 10).length : Int).toNat ⟨0, 0, 0⟩).a) : Int) == x) && (((((((byKinds l 10) ++ ([(⟨k, x, y⟩ : V3)] : List V3)).getD ((byKinds l 10).length : Int).toNat ⟨0, 0, 0⟩).b) : Int) == y) && true))) : Value) = (bV true : Value)]) (Ac rfl (Ac (by first | omega | (simp; done)) (Ac rfl (Ac rfl (Ac (fun w' hc => by obtain ⟨hM, hk0, hO⟩ := hC5e w' hc; exact ((Arr.of_memT (sz := 3) (f := fV) (L := ((byKinds l 10) ++ [(⟨k, x, y⟩ : V3), (⟨k, x, y⟩ : V3)] ++ [(⟨0, 0, 0⟩ : V3)])) (l := ((byKinds l 10) ++ ([(⟨k, x, y⟩ : V3)] : List V3))) (c := ((byKinds l 10).length + 3)) hM (List.Mem.tail _ (List.Mem.head _)) (fun _ => rfl) (by have h := List.take_left (l₁ := (byKinds l 10) ++ [(⟨k, x, y⟩ : V3)]) (l₂ := [(⟨k, x, y⟩ : V3), (⟨0, 0, 0⟩ : V3)]); simpa only [List.append_assoc, List.cons_append, List.nil_append] using h) (by simp)).get (fun _ => rfl) (by first | omega | (simp; done)) rfl)) (Ac (fun w' hc => by obtain ⟨hM, hk0, hO⟩ := hC5e w' hc; exact ((Arr.of_memT (sz := 3) (f := fV) (L := ((byKinds l 10) ++ [(⟨k, x, y⟩ : V3), (⟨k, x, y⟩ : V3)] ++ [(⟨0, 0, 0⟩ : V3)])) (l := ((byKinds l 10) ++ ([(⟨k, x, y⟩ : V3)] : List V3))) (c := ((byKinds l 10).length + 3)) hM (List.Mem.tail _ (List.Mem.head _)) (fun _ => rfl) (by have h := List.take_left (l₁ := (byKinds l 10) ++ [(⟨k, x, y⟩ : V3)]) (l₂ := [(⟨k, x, y⟩ : V3), (⟨0, 0, 0⟩ : V3)]); simpa only [List.append_assoc, List.cons_append, List.nil_append] using h) (by simp)).get (fun _ => rfl) (by first | omega | (simp; done)) rfl)) (Ac (fun w' hc => by obtain ⟨hM, hk0, hO⟩ := hC5e w' hc; exact ((Arr.of_memT (sz := 3) (f := fV) (L := ((byKinds l 10) ++ [(⟨k, x, y⟩ : V3), (⟨k, x, y⟩ : V3)] ++ [(⟨0, 0, 0⟩ : V3)])) (l := ((byKinds l 10) ++ ([(⟨k, x, y⟩ : V3)] : List V3))) (c := ((byKinds l 10).length + 3)) hM (List.Mem.tail _ (List.Mem.head _)) (fun _ => rfl) (by have h := List.take_left (l₁ := (byKinds l 10) ++ [(⟨k, x, y⟩ : V3)]) (l₂ := [(⟨k, x, y⟩ : V3), (⟨0, 0, 0⟩ : V3)]); simpa only [List.append_assoc, List.cons_append, List.nil_append] using h) (by simp)).get (fun _ => rfl) (by first | omega | (simp; done)) rfl)) (Ac rfl (Ao (Eq.trans (show (bV (((((((byKinds l 10) ++ ([(⟨k, x, y⟩ : V3)] : List V3)).getD ((byKinds l 10).length : Int).toNat ⟨0, 0, 0⟩).k) : Int) == k) && (((((((byKinds l 10) ++ ([(⟨k, x, y⟩ : V3)] : List V3)).getD ((byKinds l 10).length : Int).toNat ⟨0, 0, 0⟩).a) : Int) == x) && (((((((byKinds l 10) ++ ([(⟨k, x, y⟩ : V3)] : List V3)).getD ((byKinds l 10).length : Int).toNat ⟨0, 0, 0⟩).b) : Int) == y) && true))) : Value) = (bV (((((((byKinds l 10) ++ ([(⟨k, x, y⟩ : V3)] : List V3)).getD ((byKinds l 10).length : Int).toNat ⟨0, 0, 0⟩).k) : Int) == k) && (((((((byKinds l 10) ++ ([(⟨k, x, y⟩ : V3)] : List V3)).getD ((byKinds l 10).length : Int).toNat ⟨0, 0, 0⟩).a) : Int) == x) && ((((((byKinds l 10) ++ ([(⟨k, x, y⟩ : V3)] : List V3)).getD ((byKinds l 10).length : Int).toNat ⟨0, 0, 0⟩).b) : Int) == y))) : Value) from (by simp)) (by simp [List.getD_eq_getElem?_getD]))))))))))) ?_
       clear hf; intro a hf
       clear hC
       show K14 _ _
       refine hK14 _ _ ?_
       refine wp_ret ?_
       refine qr (fn := Tryd.f6) hf hM [] (l := [bV true]) (ob := []) An ?_
       show (bV true : Value) = .bool true ∧ Keep Nn w w25
       refine ⟨congrArg Value.bool ?_, hk0⟩
       first | rfl | (simp; done) | (simp_all; done)
     ·
      refine sxleaf ?_
      have hC := (hC1i _ ⟨hM.sub (.cons_cons _ .slnil), hk0, hO.sub (.cons_cons _ .slnil) (.cons_cons _ .slnil)⟩)
      refine scstep rfl ?_
      refine sxbslice hf hM (t := 23) (e := 62) (len := 2) (cs := [iV k, iV x, iV y, iV k, iV x, iV y]) (ob := []) rfl rfl rfl rfl (by as_aux_lemma => kernel_rfl) An (by as_aux_lemma => kernel_rfl) ?_
      clear hf hM; intro a w26 B12 hf hM hB hk
      replace hM : MemOk [⟨B1, 62, [iV k, iV x, iV y]⟩, ⟨B12, 62, [iV k, iV x, iV y, iV k, iV x, iV y]⟩] w26 := hM
      have hbB12 : w.heap.size ≤ B12 := by have := hk0.size; omega
      have hk0 := hk0.trans hk.nn
      have hO := hO.step hM hk.nn (by intro i h; simp only [Mem.names, List.map_cons, List.map_nil, List.mem_cons, List.not_mem_nil, or_false, List.map_append, List.cons_append, List.nil_append] at h ⊢; omega)
      clear hk hB
      have hC := (hC1i _ ⟨hM.sub (.cons_cons _ (.cons _ .slnil)), hk0, hO.sub (.cons_cons _ (.cons _ .slnil)) (.cons_cons _ .slnil)⟩)
      refine scdone hC ?_
      refine scstep rfl ?_
      refine sxmake hf hM (L := _) (C := _) (l := 0) (c := ((byKinds l 10).length : Int) + 3) (by_ := 24) (zs := [iV 0, iV 0, iV 0]) rfl rfl rfl rfl rfl rfl Tryd.underlying23 (by kernel_rfl) (by omega) ?_
      clear hf hM; intro a w27 B13 hf hM hB hk
      have en : ((0 : Int).toNat) = 0 := (by omega)
      have ec0 : ((((byKinds l 10).length : Int) + 3 : Int).toNat) = ((byKinds l 10).length + 3) := (by omega)
      have ec : reps ((byKinds l 10).length + 3) [iV 0, iV 0, iV 0] = flat fV (List.replicate ((byKinds l 10).length + 3) (⟨0, 0, 0⟩ : V3)) := reps_flat (f := fV) (z := (⟨0, 0, 0⟩ : V3)) rfl _
      rw [en, ec0] at hf; rw [ec0, ec] at hM; clear en ec0 ec
      replace hM : MemOk [⟨B1, 62, [iV k, iV x, iV y]⟩, ⟨B12, 62, [iV k, iV x, iV y, iV k, iV x, iV y]⟩, ⟨B13, 62, flat fV (List.replicate ((byKinds l 10).length + 3) (⟨0, 0, 0⟩ : V3))⟩] w27 := hM
      have hbB13 : w.heap.size ≤ B13 := by have := hk0.size; omega
      have hk0 := hk0.trans hk.nn
      have hO := hO.step hM hk.nn (by intro i h; simp only [Mem.names, List.map_cons, List.map_nil, List.mem_cons, List.not_mem_nil, or_false, List.map_append, List.cons_append, List.nil_append] at h ⊢; omega)
      clear hk hB
      have hC := (hC1i _ ⟨hM.sub (.cons_cons _ (.cons _ (.cons _ .slnil))), hk0, hO.sub (.cons_cons _ (.cons _ (.cons _ .slnil))) (.cons_cons _ .slnil)⟩)
      refine scdone hC ?_
      refine scstep rfl ?_
      refine sxappendM hf (M1 := [⟨B1, 62, [iV k, iV x, iV y]⟩, ⟨B12, 62, [iV k, iV x, iV y, iV k, iV x, iV y]⟩]) (M2 := []) (B := B13) (e := 62) (cs := flat fV (List.replicate ((byKinds l 10).length + 3) (⟨0, 0, 0⟩ : V3))) hM (sz := 3) (by_ := 24) (k := 0) (cap := ((byKinds l 10).length + 3)) rfl rfl rfl rfl (av := a'1) (m := (byKinds l 10).length) (c := c'1) rfl rfl Tryd.underlying23 (by kernel_rfl) (news := flat fV (byKinds l 10)) (own_arr (hO.own _ (List.Mem.head _))) (flat_one1 fV_one) (by rw [flat_len (sz := 3) (fun _ => rfl), List.length_replicate]) (by simp only [maxLen]; omega) ?_
      clear hf hM; intro a w28 hf hM hk
      have en : (0 + (byKinds l 10).length : Nat) = (byKinds l 10).length := (by omega)
      have ec : (flat fV (List.replicate ((byKinds l 10).length + 3) (⟨0, 0, 0⟩ : V3))).take (0 * 3) ++ flat fV (byKinds l 10) ++ (flat fV (List.replicate ((byKinds l 10).length + 3) (⟨0, 0, 0⟩ : V3))).drop (0 * 3 + (flat fV (byKinds l 10)).length) = flat fV ((byKinds l 10) ++ List.replicate 3 (⟨0, 0, 0⟩ : V3)) := (by rw [flat_over (sz := 3) (fun _ => rfl)]; simp)
      rw [en] at hf
      replace hM : MemOk [⟨B1, 62, [iV k, iV x, iV y]⟩, ⟨B12, 62, [iV k, iV x, iV y, iV k, iV x, iV y]⟩, ⟨B13, 62, flat fV ((byKinds l 10) ++ List.replicate 3 (⟨0, 0, 0⟩ : V3))⟩] w28 := by rw [← ec]; exact hM
      have hk0 := hk0.then hk (by intro i hi h; simp only [Is, List.mem_cons, List.not_mem_nil, or_false] at h; omega)
      have hO := hO.step hM (hk.mono (by intro i _ h; simp only [Is, Mem.names, List.map_cons, List.map_nil, List.mem_cons, List.not_mem_nil, or_false, List.map_append, List.cons_append, List.nil_append] at h ⊢; omega)) (by intro i h; simp only [Mem.names, List.map_cons, List.map_nil, List.mem_cons, List.not_mem_nil, or_false, List.map_append, List.cons_append, List.nil_append] at h ⊢; omega)
      clear hk en ec
      have hC := (hC1i _ ⟨hM.sub (.cons_cons _ (.cons _ (.cons _ .slnil))), hk0, hO.sub (.cons_cons _ (.cons _ (.cons _ .slnil))) (.cons_cons _ .slnil)⟩)
      refine scdone hC ?_
      refine scstep rfl ?_
      refine sxappendM hf (M1 := [⟨B1, 62, [iV k, iV x, iV y]⟩, ⟨B12, 62, [iV k, iV x, iV y, iV k, iV x, iV y]⟩]) (M2 := []) (B := B13) (e := 62) (cs := flat fV ((byKinds l 10) ++ List.replicate 3 (⟨0, 0, 0⟩ : V3))) hM (sz := 3) (by_ := 24) (k := (byKinds l 10).length) (cap := ((byKinds l 10).length + 3)) rfl rfl rfl rfl (av := some ⟨B12, 0, none⟩) (m := 2) (c := 2) rfl rfl Tryd.underlying23 (by kernel_rfl) (news := flat fV ([⟨k, x, y⟩, ⟨k, x, y⟩] : List V3)) (Arr.of_memT (sz := 3) (f := fV) (L := ([⟨k, x, y⟩, ⟨k, x, y⟩] : List V3)) (l := ([⟨k, x, y⟩, ⟨k, x, y⟩] : List V3)) hM (List.Mem.tail _ (List.Mem.head _)) (fun _ => rfl) rfl rfl) (flat_one1 fV_one) (by rw [flat_len (sz := 3) (fun _ => rfl)]; simp) (by simp only [maxLen]; omega) ?_
      clear hf hM; intro a w29 hf hM hk
      have en : ((byKinds l 10).length + 2 : Nat) = ((byKinds l 10).length + 2) := rfl
      have ec : (flat fV ((byKinds l 10) ++ List.replicate 3 (⟨0, 0, 0⟩ : V3))).take ((byKinds l 10).length * 3) ++ flat fV ([⟨k, x, y⟩, ⟨k, x, y⟩] : List V3) ++ (flat fV ((byKinds l 10) ++ List.replicate 3 (⟨0, 0, 0⟩ : V3))).drop ((byKinds l 10).length * 3 + (flat fV ([⟨k, x, y⟩, ⟨k, x, y⟩] : List V3)).length) = flat fV ((byKinds l 10) ++ [(⟨k, x, y⟩ : V3), (⟨k, x, y⟩ : V3)] ++ [(⟨0, 0, 0⟩ : V3)]) := (by rw [flat_over (sz := 3) (fun _ => rfl)]; simp)
      rw [en] at hf
      replace hM : MemOk [⟨B1, 62, [iV k, iV x, iV y]⟩, ⟨B12, 62, [iV k, iV x, iV y, iV k, iV x, iV y]⟩, ⟨B13, 62, flat fV ((byKinds l 10) ++ [(⟨k, x, y⟩ : V3), (⟨k, x, y⟩ : V3)] ++ [(⟨0, 0, 0⟩ : V3)])⟩] w29 := by rw [← ec]; exact hM
      have hk0 := hk0.then hk (by intro i hi h; simp only [Is, List.mem_cons, List.not_mem_nil, or_false] at h; omega)
      have hO := hO.step hM (hk.mono (by intro i _ h; simp only [Is, Mem.names, List.map_cons, List.map_nil, List.mem_cons, List.not_mem_nil, or_false, List.map_append, List.cons_append, List.nil_append] at h ⊢; omega)) (by intro i h; simp only [Mem.names, List.map_cons, List.map_nil, List.mem_cons, List.not_mem_nil, or_false, List.map_append, List.cons_append, List.nil_append] at h ⊢; omega)
      clear hk en ec
      have hC := (hC1i _ ⟨hM.sub (.cons_cons _ (.cons _ (.cons _ .slnil))), hk0, hO.sub (.cons_cons _ (.cons _ (.cons _ .slnil))) (.cons_cons _ .slnil)⟩)
      refine scdone hC ?_
      refine scstep rfl ?_
      refine sxval hf rfl rfl rfl rfl (v := .slice (some ⟨B13, 0, none⟩) (byKinds l 10).length ((byKinds l 10).length + 3)) (ob := []) (by kernel_rfl) An (by rw [show (.slice (some ⟨B13, 0, none⟩) (byKinds l 10).length ((byKinds l 10).length + 3) : Value) = .slice (some ⟨B13, 0, none⟩) (((byKinds l 10).length : Int) : Int).toNat ((byKinds l 10).length + 3) from (by simp)]; exact ox_slice_h rfl rfl rfl Tryd.underlying23 (sz := 3) (by kernel_rfl) (by omega)) ?_
      clear hf; intro a hf
      have hC := (hC1i _ ⟨hM.sub (.cons_cons _ (.cons _ (.cons _ .slnil))), hk0, hO.sub (.cons_cons _ (.cons _ (.cons _ .slnil))) (.cons_cons _ .slnil)⟩)
      refine scdone hC ?_
      refine qd hf hC (fun w' h => (hC1e w' h).1) [7, 5, 4, 3] [{}] (env' := [(7, eS (some ⟨B13, 0, none⟩) (byKinds l 10).length ((byKinds l 10).length + 3)), (5, eS a'1 (byKinds l 10).length c'1), (4, eB false), (3, eP B1 0)]) (ob := []) An ?_
      clear hf; intro a hf
      clear hC
      show K10 _ _
      refine hK10 _ _ ?_
      refine wp_seq_k (fun K15 hK15 => ?_)
      replace hM := hM.drew; replace hk0 := hk0.drew; replace hO := hO.drew
      obtain ⟨C6, hC6d⟩ : ∃ C : World → Prop, C = fun w' => MemOk [⟨B1, 62, [iV k, iV x, iV y]⟩, ⟨B12, 62, [iV k, iV x, iV y, iV k, iV x, iV y]⟩, ⟨B13, 62, flat fV ((byKinds l 10) ++ [(⟨k, x, y⟩ : V3), (⟨k, x, y⟩ : V3)] ++ [(⟨0, 0, 0⟩ : V3)])⟩] w' ∧ Keep Nn w w' ∧ OwnOk w.heap.size [⟨B1, 62, [iV k, iV x, iV y]⟩, ⟨B12, 62, [iV k, iV x, iV y, iV k, iV x, iV y]⟩, ⟨B13, 62, flat fV ((byKinds l 10) ++ [(⟨k, x, y⟩ : V3), (⟨k, x, y⟩ : V3)] ++ [(⟨0, 0, 0⟩ : V3)])⟩] [⟨62, 3, .slice a'1 (byKinds l 10).length c'1, (byKinds l 10).length, flat fV (byKinds l 10)⟩] w' := ⟨_, rfl⟩
      have hC6i : ∀ w', (MemOk [⟨B1, 62, [iV k, iV x, iV y]⟩, ⟨B12, 62, [iV k, iV x, iV y, iV k, iV x, iV y]⟩, ⟨B13, 62, flat fV ((byKinds l 10) ++ [(⟨k, x, y⟩ : V3), (⟨k, x, y⟩ : V3)] ++ [(⟨0, 0, 0⟩ : V3)])⟩] w' ∧ Keep Nn w w' ∧ OwnOk w.heap.size [⟨B1, 62, [iV k, iV x, iV y]⟩, ⟨B12, 62, [iV k, iV x, iV y, iV k, iV x, iV y]⟩, ⟨B13, 62, flat fV ((byKinds l 10) ++ [(⟨k, x, y⟩ : V3), (⟨k, x, y⟩ : V3)] ++ [(⟨0, 0, 0⟩ : V3)])⟩] [⟨62, 3, .slice a'1 (byKinds l 10).length c'1, (byKinds l 10).length, flat fV (byKinds l 10)⟩] w') → C6 w' := fun w' h => by rw [hC6d]; exact h
      have hC6e : ∀ w', C6 w' → (MemOk [⟨B1, 62, [iV k, iV x, iV y]⟩, ⟨B12, 62, [iV k, iV x, iV y, iV k, iV x, iV y]⟩, ⟨B13, 62, flat fV ((byKinds l 10) ++ [(⟨k, x, y⟩ : V3), (⟨k, x, y⟩ : V3)] ++ [(⟨0, 0, 0⟩ : V3)])⟩] w' ∧ Keep Nn w w' ∧ OwnOk w.heap.size [⟨B1, 62, [iV k, iV x, iV y]⟩, ⟨B12, 62, [iV k, iV x, iV y, iV k, iV x, iV y]⟩, ⟨B13, 62, flat fV ((byKinds l 10) ++ [(⟨k, x, y⟩ : V3), (⟨k, x, y⟩ : V3)] ++ [(⟨0, 0, 0⟩ : V3)])⟩] [⟨62, 3, .slice a'1 (byKinds l 10).length c'1, (byKinds l 10).length, flat fV (byKinds l 10)⟩] w') := fun w' h => by rw [hC6d] at h; exact h
      refine sxdraw (C := C6) (.leaf [(0, true), (1, true), (3, true), (4, true), (5, true), (2, false), (6, false), (7, true), (8, true)]) (by kernel_rfl) (by kernel_rfl) (by as_aux_lemma => kernel_rfl) rfl (by as_aux_lemma => kernel_rfl) (by kernel_rfl) (hC6i _ ⟨hM.sub (.cons_cons _ (.cons_cons _ (.cons_cons _ .slnil))), hk0, hO.sub (.cons_cons _ (.cons_cons _ (.cons_cons _ .slnil))) (.cons_cons _ .slnil)⟩) ?_
      refine sxleaf ?_
      have hC := (hC6i _ ⟨hM.sub (.cons_cons _ (.cons_cons _ (.cons_cons _ .slnil))), hk0, hO.sub (.cons_cons _ (.cons_cons _ (.cons_cons _ .slnil))) (.cons_cons _ .slnil)⟩)
      refine qd hf hC (fun w' h => (hC6e w' h).1) [45, 43, 41, 40, 7, 5, 4, 3] [{}, { os := [.ld 0 0, .ld 0 1, .ld 0 2] }, {}, {}, { os := [.ld 0 0] }] (env' := [(45, eI k), (43, eS (some ⟨B13, 0, none⟩) (byKinds l 10).length ((byKinds l 10).length + 3)), (41, .val (.agg #[iV k, iV x, iV y])), (40, eS (some ⟨B13, 0, none⟩) (byKinds l 10).length ((byKinds l 10).length + 3)), (7, eS (some ⟨B13, 0, none⟩) (byKinds l 10).length ((byKinds l 10).length + 3)), (5, eS a'1 (byKinds l 10).length c'1), (4, eB false), (3, eP B1 0)]) (ob := [Ad B1 0, Ad B1 1, Ad B1 2, Ad B1 0]) (Ac (ad _ _) (Ac (ad _ _) (Ac (ad _ _) (Ao (ad _ _))))) ?_
      clear hf; intro a hf
      refine scstep rfl ?_
      refine sxcall hf rfl rfl rfl rfl (g := 35) (vs := [.slice (some ⟨B13, 0, none⟩) (byKinds l 10).length ((byKinds l 10).length + 3), .agg #[iV k, iV x, iV y]]) (ob := []) (by as_aux_lemma => kernel_rfl) An enters35 (sput (some ⟨B13, 0, none⟩) (byKinds l 10) ((byKinds l 10).length + 3) k x y w29.drew  (Arr.of_memT (sz := 3) (f := fV) (L := ((byKinds l 10) ++ [(⟨k, x, y⟩ : V3), (⟨k, x, y⟩ : V3)] ++ [(⟨0, 0, 0⟩ : V3)])) (l := (byKinds l 10)) (c := ((byKinds l 10).length + 3)) hM (List.Mem.tail _ (List.Mem.tail _ (List.Mem.head _))) (fun _ => rfl) (by simp) (by simp)) (by first | omega | (simp; omega) | (simp; done) | exact Nat.le_trans (byKinds_len _ _) (by omega) | decide) (by first | omega | exact Nat.le_trans (byKinds_len _ _) (by omega)) (by assumption) (by assumption) (by assumption)) ?_
      clear hf; rintro _ w30 a ⟨a'10, c'10, rfl, hk, hx10⟩ hf
      have hO := hO.more hM hk (by have := hk0.size; omega) hx10
      replace hO : OwnOk w.heap.size [⟨B1, 62, [iV k, iV x, iV y]⟩, ⟨B12, 62, [iV k, iV x, iV y, iV k, iV x, iV y]⟩, ⟨B13, 62, flat fV ((byKinds l 10) ++ [(⟨k, x, y⟩ : V3), (⟨k, x, y⟩ : V3)] ++ [(⟨0, 0, 0⟩ : V3)])⟩] [⟨62, 3, .slice a'10 ((byKinds ((dropV (byKinds l 10) k) ++ ([⟨k, x, y⟩] : List V3)) 10).length) c'10, (byKinds ((dropV (byKinds l 10) k) ++ ([⟨k, x, y⟩] : List V3)) 10).length, flat fV (byKinds ((dropV (byKinds l 10) k) ++ ([⟨k, x, y⟩] : List V3)) 10)⟩, ⟨62, 3, .slice a'1 (byKinds l 10).length c'1, (byKinds l 10).length, flat fV (byKinds l 10)⟩] _ := hO
      have hM := hM.keepNn hk
      have hk0 := hk0.trans hk.nn
      clear hk
      have hC := (hC6i _ ⟨hM.sub (.cons_cons _ (.cons_cons _ (.cons_cons _ .slnil))), hk0, hO.sub (.cons_cons _ (.cons_cons _ (.cons_cons _ .slnil))) (.cons _ (.cons_cons _ .slnil))⟩)
      refine scdone hC ?_
      refine scstep rfl ?_
      refine sxcall hf rfl rfl rfl rfl (g := 36) (vs := [.slice (some ⟨B13, 0, none⟩) (byKinds l 10).length ((byKinds l 10).length + 3), iV k]) (ob := []) (by as_aux_lemma => kernel_rfl) An enters36 (sdrop (some ⟨B13, 0, none⟩) (byKinds l 10) ((byKinds l 10).length + 3) k w30  (Arr.of_memT (sz := 3) (f := fV) (L := ((byKinds l 10) ++ [(⟨k, x, y⟩ : V3), (⟨k, x, y⟩ : V3)] ++ [(⟨0, 0, 0⟩ : V3)])) (l := (byKinds l 10)) (c := ((byKinds l 10).length + 3)) hM (List.Mem.tail _ (List.Mem.tail _ (List.Mem.head _))) (fun _ => rfl) (by simp) (by simp)) (by first | omega | (simp; omega) | (simp; done) | exact Nat.le_trans (byKinds_len _ _) (by omega) | decide)) ?_
      clear hf; rintro _ w31 a ⟨a'11, c'11, rfl, hk, hx11⟩ hf
      have hO := hO.more hM hk (by have := hk0.size; omega) hx11
      replace hO : OwnOk w.heap.size [⟨B1, 62, [iV k, iV x, iV y]⟩, ⟨B12, 62, [iV k, iV x, iV y, iV k, iV x, iV y]⟩, ⟨B13, 62, flat fV ((byKinds l 10) ++ [(⟨k, x, y⟩ : V3), (⟨k, x, y⟩ : V3)] ++ [(⟨0, 0, 0⟩ : V3)])⟩] [⟨62, 3, .slice a'11 ((dropV (byKinds l 10) k).length) c'11, (dropV (byKinds l 10) k).length, flat fV (dropV (byKinds l 10) k)⟩, ⟨62, 3, .slice a'10 ((byKinds ((dropV (byKinds l 10) k) ++ ([⟨k, x, y⟩] : List V3)) 10).length) c'10, (byKinds ((dropV (byKinds l 10) k) ++ ([⟨k, x, y⟩] : List V3)) 10).length, flat fV (byKinds ((dropV (byKinds l 10) k) ++ ([⟨k, x, y⟩] : List V3)) 10)⟩, ⟨62, 3, .slice a'1 (byKinds l 10).length c'1, (byKinds l 10).length, flat fV (byKinds l 10)⟩] _ := hO
      have hM := hM.keepNn hk
      have hk0 := hk0.trans hk.nn
      clear hk
      have hC := (hC6i _ ⟨hM.sub (.cons_cons _ (.cons_cons _ (.cons_cons _ .slnil))), hk0, hO.sub (.cons_cons _ (.cons_cons _ (.cons_cons _ .slnil))) (.cons _ (.cons _ (.cons_cons _ .slnil)))⟩)
      refine scdone hC ?_
      refine qd hf hC (fun w' h => (hC6e w' h).1) [9, 8, 7, 5, 4, 3] [{}, {}] (env' := [(9, eS a'11 ((dropV (byKinds l 10) k).length) c'11), (8, eS a'10 ((byKinds ((dropV (byKinds l 10) k) ++ ([⟨k, x, y⟩] : List V3)) 10).length) c'10), (7, eS (some ⟨B13, 0, none⟩) (byKinds l 10).length ((byKinds l 10).length + 3)), (5, eS a'1 (byKinds l 10).length c'1), (4, eB false), (3, eP B1 0)]) (ob := []) An ?_
      clear hf; intro a hf
      clear hC
      show K15 _ _
      refine hK15 _ _ ?_
      refine wp_seq_k (fun K16 hK16 => ?_)
      replace hM := hM.drew; replace hk0 := hk0.drew; replace hO := hO.drew
      obtain ⟨C7, hC7d⟩ : ∃ C : World → Prop, C = fun w' => MemOk [⟨B1, 62, [iV k, iV x, iV y]⟩, ⟨B12, 62, [iV k, iV x, iV y, iV k, iV x, iV y]⟩, ⟨B13, 62, flat fV ((byKinds l 10) ++ [(⟨k, x, y⟩ : V3), (⟨k, x, y⟩ : V3)] ++ [(⟨0, 0, 0⟩ : V3)])⟩] w' ∧ Keep Nn w w' ∧ OwnOk w.heap.size [⟨B1, 62, [iV k, iV x, iV y]⟩, ⟨B12, 62, [iV k, iV x, iV y, iV k, iV x, iV y]⟩, ⟨B13, 62, flat fV ((byKinds l 10) ++ [(⟨k, x, y⟩ : V3), (⟨k, x, y⟩ : V3)] ++ [(⟨0, 0, 0⟩ : V3)])⟩] [⟨62, 3, .slice a'11 ((dropV (byKinds l 10) k).length) c'11, (dropV (byKinds l 10) k).length, flat fV (dropV (byKinds l 10) k)⟩, ⟨62, 3, .slice a'10 ((byKinds ((dropV (byKinds l 10) k) ++ ([⟨k, x, y⟩] : List V3)) 10).length) c'10, (byKinds ((dropV (byKinds l 10) k) ++ ([⟨k, x, y⟩] : List V3)) 10).length, flat fV (byKinds ((dropV (byKinds l 10) k) ++ ([⟨k, x, y⟩] : List V3)) 10)⟩, ⟨62, 3, .slice a'1 (byKinds l 10).length c'1, (byKinds l 10).length, flat fV (byKinds l 10)⟩] w' := ⟨_, rfl⟩
      have hC7i : ∀ w', (MemOk [⟨B1, 62, [iV k, iV x, iV y]⟩, ⟨B12, 62, [iV k, iV x, iV y, iV k, iV x, iV y]⟩, ⟨B13, 62, flat fV ((byKinds l 10) ++ [(⟨k, x, y⟩ : V3), (⟨k, x, y⟩ : V3)] ++ [(⟨0, 0, 0⟩ : V3)])⟩] w' ∧ Keep Nn w w' ∧ OwnOk w.heap.size [⟨B1, 62, [iV k, iV x, iV y]⟩, ⟨B12, 62, [iV k, iV x, iV y, iV k, iV x, iV y]⟩, ⟨B13, 62, flat fV ((byKinds l 10) ++ [(⟨k, x, y⟩ : V3), (⟨k, x, y⟩ : V3)] ++ [(⟨0, 0, 0⟩ : V3)])⟩] [⟨62, 3, .slice a'11 ((dropV (byKinds l 10) k).length) c'11, (dropV (byKinds l 10) k).length, flat fV (dropV (byKinds l 10) k)⟩, ⟨62, 3, .slice a'10 ((byKinds ((dropV (byKinds l 10) k) ++ ([⟨k, x, y⟩] : List V3)) 10).length) c'10, (byKinds ((dropV (byKinds l 10) k) ++ ([⟨k, x, y⟩] : List V3)) 10).length, flat fV (byKinds ((dropV (byKinds l 10) k) ++ ([⟨k, x, y⟩] : List V3)) 10)⟩, ⟨62, 3, .slice a'1 (byKinds l 10).length c'1, (byKinds l 10).length, flat fV (byKinds l 10)⟩] w') → C7 w' := fun w' h => by rw [hC7d]; exact h
      have hC7e : ∀ w', C7 w' → (MemOk [⟨B1, 62, [iV k, iV x, iV y]⟩, ⟨B12, 62, [iV k, iV x, iV y, iV k, iV x, iV y]⟩, ⟨B13, 62, flat fV ((byKinds l 10) ++ [(⟨k, x, y⟩ : V3), (⟨k, x, y⟩ : V3)] ++ [(⟨0, 0, 0⟩ : V3)])⟩] w' ∧ Keep Nn w w' ∧ OwnOk w.heap.size [⟨B1, 62, [iV k, iV x, iV y]⟩, ⟨B12, 62, [iV k, iV x, iV y, iV k, iV x, iV y]⟩, ⟨B13, 62, flat fV ((byKinds l 10) ++ [(⟨k, x, y⟩ : V3), (⟨k, x, y⟩ : V3)] ++ [(⟨0, 0, 0⟩ : V3)])⟩] [⟨62, 3, .slice a'11 ((dropV (byKinds l 10) k).length) c'11, (dropV (byKinds l 10) k).length, flat fV (dropV (byKinds l 10) k)⟩, ⟨62, 3, .slice a'10 ((byKinds ((dropV (byKinds l 10) k) ++ ([⟨k, x, y⟩] : List V3)) 10).length) c'10, (byKinds ((dropV (byKinds l 10) k) ++ ([⟨k, x, y⟩] : List V3)) 10).length, flat fV (byKinds ((dropV (byKinds l 10) k) ++ ([⟨k, x, y⟩] : List V3)) 10)⟩, ⟨62, 3, .slice a'1 (byKinds l 10).length c'1, (byKinds l 10).length, flat fV (byKinds l 10)⟩] w') := fun w' h => by rw [hC7d] at h; exact h
      refine sxdraw (C := C7) (.leaf [(0, true), (1, true), (2, true), (3, false), (4, false), (5, true), (6, true), (7, true), (8, true), (9, true), (10, false), (11, false), (12, true), (13, true), (14, true), (15, true), (16, false), (17, true), (18, true), (19, true), (20, true), (21, true), (22, true), (24, true), (25, true), (28, true), (23, false), (26, true), (27, true), (29, true), (30, true), (31, true)]) (by kernel_rfl) (by kernel_rfl) (by as_aux_lemma => kernel_rfl) rfl (by as_aux_lemma => kernel_rfl) (by kernel_rfl) (hC7i _ ⟨hM.sub (.cons_cons _ (.cons_cons _ (.cons_cons _ .slnil))), hk0, hO.sub (.cons_cons _ (.cons_cons _ (.cons_cons _ .slnil))) (.cons_cons _ (.cons_cons _ (.cons_cons _ .slnil)))⟩) ?_
      refine sxleaf ?_
      have hC := (hC7i _ ⟨hM.sub (.cons_cons _ (.cons_cons _ (.cons_cons _ .slnil))), hk0, hO.sub (.cons_cons _ (.cons_cons _ (.cons_cons _ .slnil))) (.cons_cons _ (.cons_cons _ (.cons_cons _ .slnil)))⟩)
      refine qd hf hC (fun w' h => (hC7e w' h).1) [49, 48, 47, 9, 7, 5, 4, 3] [{}, {}, { os := [.ld 0 0, .ld 0 1, .ld 0 2] }] (env' := [(49, .val (.agg #[iV k, iV x, iV y])), (48, eS a'1 (byKinds l 10).length c'1), (47, eS a'10 ((byKinds ((dropV (byKinds l 10) k) ++ ([⟨k, x, y⟩] : List V3)) 10).length) c'10), (9, eS a'11 ((dropV (byKinds l 10) k).length) c'11), (7, eS (some ⟨B13, 0, none⟩) (byKinds l 10).length ((byKinds l 10).length + 3)), (5, eS a'1 (byKinds l 10).length c'1), (4, eB false), (3, eP B1 0)]) (ob := [Ad B1 0, Ad B1 1, Ad B1 2]) (Ac (ad _ _) (Ac (ad _ _) (Ao (ad _ _)))) ?_
      clear hf; intro a hf
      refine scstep rfl ?_
      refine sxcall hf rfl rfl rfl rfl (g := 38) (vs := [.slice a'1 (byKinds l 10).length c'1, .agg #[iV k, iV x, iV y]]) (ob := []) (by as_aux_lemma => kernel_rfl) An enters38 (rput a'1 (byKinds l 10) c'1 k x y w31.drew  (own_arr (hO.own _ (List.Mem.tail _ (List.Mem.tail _ (List.Mem.head _))))) (by first | omega | (simp; omega) | (simp; done) | exact Nat.le_trans (byKinds_len _ _) (by omega) | decide) (by first | omega | exact Nat.le_trans (byKinds_len _ _) (by omega)) (by assumption) (by assumption) (by assumption)) ?_
      clear hf; rintro _ w32 a ⟨a'12, c'12, rfl, hk, hx12⟩ hf
      have hO := hO.more hM hk (by have := hk0.size; omega) hx12
      replace hO : OwnOk w.heap.size [⟨B1, 62, [iV k, iV x, iV y]⟩, ⟨B12, 62, [iV k, iV x, iV y, iV k, iV x, iV y]⟩, ⟨B13, 62, flat fV ((byKinds l 10) ++ [(⟨k, x, y⟩ : V3), (⟨k, x, y⟩ : V3)] ++ [(⟨0, 0, 0⟩ : V3)])⟩] [⟨62, 3, .slice a'12 ((byKinds ((dropV (byKinds l 10) k) ++ ([⟨k, x, y⟩] : List V3)) 10).length) c'12, (byKinds ((dropV (byKinds l 10) k) ++ ([⟨k, x, y⟩] : List V3)) 10).length, flat fV (byKinds ((dropV (byKinds l 10) k) ++ ([⟨k, x, y⟩] : List V3)) 10)⟩, ⟨62, 3, .slice a'11 ((dropV (byKinds l 10) k).length) c'11, (dropV (byKinds l 10) k).length, flat fV (dropV (byKinds l 10) k)⟩, ⟨62, 3, .slice a'10 ((byKinds ((dropV (byKinds l 10) k) ++ ([⟨k, x, y⟩] : List V3)) 10).length) c'10, (byKinds ((dropV (byKinds l 10) k) ++ ([⟨k, x, y⟩] : List V3)) 10).length, flat fV (byKinds ((dropV (byKinds l 10) k) ++ ([⟨k, x, y⟩] : List V3)) 10)⟩, ⟨62, 3, .slice a'1 (byKinds l 10).length c'1, (byKinds l 10).length, flat fV (byKinds l 10)⟩] _ := hO
      have hM := hM.keepNn hk
      have hk0 := hk0.trans hk.nn
      clear hk
      have hC := (hC7i _ ⟨hM.sub (.cons_cons _ (.cons_cons _ (.cons_cons _ .slnil))), hk0, hO.sub (.cons_cons _ (.cons_cons _ (.cons_cons _ .slnil))) (.cons _ (.cons_cons _ (.cons_cons _ (.cons_cons _ .slnil))))⟩)
      refine scdone hC ?_
      refine scstep rfl ?_
      refine sxcall hf rfl rfl rfl rfl (g := 37) (vs := [.slice a'10 ((byKinds ((dropV (byKinds l 10) k) ++ ([⟨k, x, y⟩] : List V3)) 10).length) c'10, .slice a'12 ((byKinds ((dropV (byKinds l 10) k) ++ ([⟨k, x, y⟩] : List V3)) 10).length) c'12]) (ob := []) (by as_aux_lemma => kernel_rfl) An enters37 (rsame a'10 (byKinds ((dropV (byKinds l 10) k) ++ ([⟨k, x, y⟩] : List V3)) 10) c'10 a'12 (byKinds ((dropV (byKinds l 10) k) ++ ([⟨k, x, y⟩] : List V3)) 10) c'12 w32  (own_arr (hO.own _ (List.Mem.tail _ (List.Mem.tail _ (List.Mem.head _))))) (by first | omega | (simp; omega) | (simp; done) | exact Nat.le_trans (byKinds_len _ _) (by omega) | decide) (own_arr (hO.own _ (List.Mem.head _))) (by first | omega | (simp; omega) | (simp; done) | exact Nat.le_trans (byKinds_len _ _) (by omega) | decide)) ?_
      clear hf; rintro _ w33 a ⟨rfl, hk⟩ hf
      have hO := hO.keepNn hk
      have hM := hM.keepNn hk
      have hk0 := hk0.trans hk.nn
      clear hk
      have hC := (hC7i _ ⟨hM.sub (.cons_cons _ (.cons_cons _ (.cons_cons _ .slnil))), hk0, hO.sub (.cons_cons _ (.cons_cons _ (.cons_cons _ .slnil))) (.cons _ (.cons_cons _ (.cons_cons _ (.cons_cons _ .slnil))))⟩)
      refine scdone hC ?_
      refine qd hf hC (fun w' h => (hC7e w' h).1) [52, 9, 7, 5, 4, 3] [{}] (env' := [(52, eB (sameL (byKinds ((dropV (byKinds l 10) k) ++ ([⟨k, x, y⟩] : List V3)) 10) (byKinds ((dropV (byKinds l 10) k) ++ ([⟨k, x, y⟩] : List V3)) 10))), (9, eS a'11 ((dropV (byKinds l 10) k).length) c'11), (7, eS (some ⟨B13, 0, none⟩) (byKinds l 10).length ((byKinds l 10).length + 3)), (5, eS a'1 (byKinds l 10).length c'1), (4, eB false), (3, eP B1 0)]) (ob := []) An ?_
      clear hf; intro a hf
      have hf := hf.prune [52, 9, 7, 5, 4, 3]
      replace hf : Fr 78 [(52, eB (sameL (byKinds ((dropV (byKinds l 10) k) ++ ([⟨k, x, y⟩] : List V3)) 10) (byKinds ((dropV (byKinds l 10) k) ++ ([⟨k, x, y⟩] : List V3)) 10))), (9, eS a'11 ((dropV (byKinds l 10) k).length) c'11), (7, eS (some ⟨B13, 0, none⟩) (byKinds l 10).length ((byKinds l 10).length + 3)), (5, eS a'1 (byKinds l 10).length c'1), (4, eB false), (3, eP B1 0)] a := hf
      replace hf := hf.conv (env' := [(52, eB true), (9, eS a'11 ((dropV (byKinds l 10) k).length) c'11), (7, eS (some ⟨B13, 0, none⟩) (byKinds l 10).length ((byKinds l 10).length + 3)), (5, eS a'1 (byKinds l 10).length c'1), (4, eB false), (3, eP B1 0)]) (Ac (congrArg Value.bool hs1) (Ac rfl (Ac rfl (Ac rfl (Ac rfl (Ao rfl))))))
      refine qd hf hC (fun w' h => (hC7e w' h).1) [56, 54, 53, 52, 7, 5, 4, 3] [{}, {}, {}, { os := [.ld 0 0] }] (env' := [(56, eI k), (54, eS a'1 (byKinds l 10).length c'1), (53, eS a'11 ((dropV (byKinds l 10) k).length) c'11), (52, eB true), (7, eS (some ⟨B13, 0, none⟩) (byKinds l 10).length ((byKinds l 10).length + 3)), (5, eS a'1 (byKinds l 10).length c'1), (4, eB false), (3, eP B1 0)]) (ob := [true = true, true = true, true = true, true = true, Ad B1 0]) (Ac rfl (Ac rfl (Ac rfl (Ac rfl (Ao (ad _ _)))))) ?_
      clear hf; intro a hf
      refine scstep rfl ?_
      refine sxcallg hf rfl rfl rfl rfl rfl (g := 39) (vs := [.slice a'1 (byKinds l 10).length c'1, iV k]) (ob := []) (by as_aux_lemma => kernel_rfl) An enters39 (rdrop a'1 (byKinds l 10) c'1 k w33  (own_arr (hO.own _ (List.Mem.tail _ (List.Mem.tail _ (List.Mem.tail _ (List.Mem.head _)))))) (by first | omega | (simp; omega) | (simp; done) | exact Nat.le_trans (byKinds_len _ _) (by omega) | decide)) ?_
      clear hf; rintro _ w34 a ⟨a'13, c'13, rfl, hk, hx13⟩ hf
      have hO := hO.more hM hk (by have := hk0.size; omega) hx13
      replace hO : OwnOk w.heap.size [⟨B1, 62, [iV k, iV x, iV y]⟩, ⟨B12, 62, [iV k, iV x, iV y, iV k, iV x, iV y]⟩, ⟨B13, 62, flat fV ((byKinds l 10) ++ [(⟨k, x, y⟩ : V3), (⟨k, x, y⟩ : V3)] ++ [(⟨0, 0, 0⟩ : V3)])⟩] [⟨62, 3, .slice a'13 ((dropV (byKinds l 10) k).length) c'13, (dropV (byKinds l 10) k).length, flat fV (dropV (byKinds l 10) k)⟩, ⟨62, 3, .slice a'12 ((byKinds ((dropV (byKinds l 10) k) ++ ([⟨k, x, y⟩] : List V3)) 10).length) c'12, (byKinds ((dropV (byKinds l 10) k) ++ ([⟨k, x, y⟩] : List V3)) 10).length, flat fV (byKinds ((dropV (byKinds l 10) k) ++ ([⟨k, x, y⟩] : List V3)) 10)⟩, ⟨62, 3, .slice a'11 ((dropV (byKinds l 10) k).length) c'11, (dropV (byKinds l 10) k).length, flat fV (dropV (byKinds l 10) k)⟩, ⟨62, 3, .slice a'10 ((byKinds ((dropV (byKinds l 10) k) ++ ([⟨k, x, y⟩] : List V3)) 10).length) c'10, (byKinds ((dropV (byKinds l 10) k) ++ ([⟨k, x, y⟩] : List V3)) 10).length, flat fV (byKinds ((dropV (byKinds l 10) k) ++ ([⟨k, x, y⟩] : List V3)) 10)⟩, ⟨62, 3, .slice a'1 (byKinds l 10).length c'1, (byKinds l 10).length, flat fV (byKinds l 10)⟩] _ := hO
      have hM := hM.keepNn hk
      have hk0 := hk0.trans hk.nn
      clear hk
      have hC := (hC7i _ ⟨hM.sub (.cons_cons _ (.cons_cons _ (.cons_cons _ .slnil))), hk0, hO.sub (.cons_cons _ (.cons_cons _ (.cons_cons _ .slnil))) (.cons _ (.cons _ (.cons_cons _ (.cons_cons _ (.cons_cons _ .slnil)))))⟩)
      refine scdone hC ?_
      refine scstep rfl ?_
      refine sxcallg hf rfl rfl rfl rfl rfl (g := 37) (vs := [.slice a'11 ((dropV (byKinds l 10) k).length) c'11, .slice a'13 ((dropV (byKinds l 10) k).length) c'13]) (ob := []) (by as_aux_lemma => kernel_rfl) An enters37 (rsame a'11 (dropV (byKinds l 10) k) c'11 a'13 (dropV (byKinds l 10) k) c'13 w34  (own_arr (hO.own _ (List.Mem.tail _ (List.Mem.tail _ (List.Mem.head _))))) (by first | omega | (simp; omega) | (simp; done) | exact Nat.le_trans (byKinds_len _ _) (by omega) | decide) (own_arr (hO.own _ (List.Mem.head _))) (by first | omega | (simp; omega) | (simp; done) | exact Nat.le_trans (byKinds_len _ _) (by omega) | decide)) ?_
      clear hf; rintro _ w35 a ⟨rfl, hk⟩ hf
      have hO := hO.keepNn hk
      have hM := hM.keepNn hk
      have hk0 := hk0.trans hk.nn
      clear hk
      have hC := (hC7i _ ⟨hM.sub (.cons_cons _ (.cons_cons _ (.cons_cons _ .slnil))), hk0, hO.sub (.cons_cons _ (.cons_cons _ (.cons_cons _ .slnil))) (.cons _ (.cons _ (.cons_cons _ (.cons_cons _ (.cons_cons _ .slnil)))))⟩)
      refine scdone hC ?_
      refine qd hf hC (fun w' h => (hC7e w' h).1) [60, 7, 5, 4, 3] [{}, {}] (env' := [(60, eB (sameL (dropV (byKinds l 10) k) (dropV (byKinds l 10) k))), (7, eS (some ⟨B13, 0, none⟩) (byKinds l 10).length ((byKinds l 10).length + 3)), (5, eS a'1 (byKinds l 10).length c'1), (4, eB false), (3, eP B1 0)]) (ob := []) An ?_
      clear hf; intro a hf
      have hf := hf.prune [60, 7, 5, 4, 3]
      replace hf : Fr 78 [(60, eB (sameL (dropV (byKinds l 10) k) (dropV (byKinds l 10) k))), (7, eS (some ⟨B13, 0, none⟩) (byKinds l 10).length ((byKinds l 10).length + 3)), (5, eS a'1 (byKinds l 10).length c'1), (4, eB false), (3, eP B1 0)] a := hf
      replace hf := hf.conv (env' := [(60, eB true), (7, eS (some ⟨B13, 0, none⟩) (byKinds l 10).length ((byKinds l 10).length + 3)), (5, eS a'1 (byKinds l 10).length c'1), (4, eB false), (3, eP B1 0)]) (Ac (congrArg Value.bool hs2) (Ac rfl (Ac rfl (Ac rfl (Ao rfl)))))
      refine qd hf hC (fun w' h => (hC7e w' h).1) [62, 61, 60, 7, 5, 4, 3] [{}, {}] (env' := [(62, eS a'1 (byKinds l 10).length c'1), (61, eS (some ⟨B13, 0, none⟩) (byKinds l 10).length ((byKinds l 10).length + 3)), (60, eB true), (7, eS (some ⟨B13, 0, none⟩) (byKinds l 10).length ((byKinds l 10).length + 3)), (5, eS a'1 (byKinds l 10).length c'1), (4, eB false), (3, eP B1 0)]) (ob := [true = true, true = true]) (Ac rfl (Ao rfl)) ?_
      clear hf; intro a hf
      refine scstep rfl ?_
      refine sxcallg hf rfl rfl rfl rfl rfl (g := 37) (vs := [.slice (some ⟨B13, 0, none⟩) (byKinds l 10).length ((byKinds l 10).length + 3), .slice a'1 (byKinds l 10).length c'1]) (ob := []) (by as_aux_lemma => kernel_rfl) An enters37 (rsame (some ⟨B13, 0, none⟩) (byKinds l 10) ((byKinds l 10).length + 3) a'1 (byKinds l 10) c'1 w35  (Arr.of_memT (sz := 3) (f := fV) (L := ((byKinds l 10) ++ [(⟨k, x, y⟩ : V3), (⟨k, x, y⟩ : V3)] ++ [(⟨0, 0, 0⟩ : V3)])) (l := (byKinds l 10)) (c := ((byKinds l 10).length + 3)) hM (List.Mem.tail _ (List.Mem.tail _ (List.Mem.head _))) (fun _ => rfl) (by simp) (by simp)) (by first | omega | (simp; omega) | (simp; done) | exact Nat.le_trans (byKinds_len _ _) (by omega) | decide) (own_arr (hO.own _ (List.Mem.tail _ (List.Mem.tail _ (List.Mem.tail _ (List.Mem.tail _ (List.Mem.head _))))))) (by first | omega | (simp; omega) | (simp; done) | exact Nat.le_trans (byKinds_len _ _) (by omega) | decide)) ?_
      clear hf; rintro _ w36 a ⟨rfl, hk⟩ hf
      have hO := hO.keepNn hk
      have hM := hM.keepNn hk
      have hk0 := hk0.trans hk.nn
      clear hk
      have hC := (hC7i _ ⟨hM.sub (.cons_cons _ (.cons_cons _ (.cons_cons _ .slnil))), hk0, hO.sub (.cons_cons _ (.cons_cons _ (.cons_cons _ .slnil))) (.cons _ (.cons _ (.cons_cons _ (.cons_cons _ (.cons_cons _ .slnil)))))⟩)
      refine scdone hC ?_
      refine qd hf hC (fun w' h => (hC7e w' h).1) [65, 7, 5, 4, 3] [{}, {}] (env' := [(65, eB (sameL (byKinds l 10) (byKinds l 10))), (7, eS (some ⟨B13, 0, none⟩) (byKinds l 10).length ((byKinds l 10).length + 3)), (5, eS a'1 (byKinds l 10).length c'1), (4, eB false), (3, eP B1 0)]) (ob := []) An ?_
      clear hf; intro a hf
      have hf := hf.prune [65, 7, 5, 4, 3]
      replace hf : Fr 78 [(65, eB (sameL (byKinds l 10) (byKinds l 10))), (7, eS (some ⟨B13, 0, none⟩) (byKinds l 10).length ((byKinds l 10).length + 3)), (5, eS a'1 (byKinds l 10).length c'1), (4, eB false), (3, eP B1 0)] a := hf
      replace hf := hf.conv (env' := [(65, eB true), (7, eS (some ⟨B13, 0, none⟩) (byKinds l 10).length ((byKinds l 10).length + 3)), (5, eS a'1 (byKinds l 10).length c'1), (4, eB false), (3, eP B1 0)]) (Ac (congrArg Value.bool hs3) (Ac rfl (Ac rfl (Ac rfl (Ao rfl)))))
      refine qd hf hC (fun w' h => (hC7e w' h).1) [75, 72, 69, 66, 65, 4] [{}, {}, {}, { hint := some (iV (((byKinds l 10).length : Int) + 1)) }, {}, {}, { os := [.ld 0 0, .ld 0 1, .ld 0 2] }] (env' := [(75, .val (.agg #[iV k, iV x, iV y])), (72, eI ((byKinds l 10).length : Int)), (69, eI (((byKinds l 10).length : Int) + 1)), (66, eS (some ⟨B13, 0, none⟩) (byKinds l 10).length ((byKinds l 10).length + 3)), (65, eB true), (4, eB false)]) (ob := [true = true, true = true, true = true, true = true, (iV (IntKind.i64.wrap (((byKinds l 10).length : Int) + 1)) : Value) = (iV (((byKinds l 10).length : Int) + 1) : Value), true = true, true = true, true = true, Ad B1 0, Ad B1 1, Ad B1 2]) (Ac rfl (Ac rfl (Ac rfl (Ac rfl (Ac (wr (by omega)) (Ac rfl (Ac rfl (Ac rfl (Ac (ad _ _) (Ac (ad _ _) (Ao (ad _ _)))))))))))) ?_
      clear hf; intro a hf
      refine scstep rfl ?_
      refine sxvalg hf rfl rfl rfl rfl rfl (v := .slice (some ⟨B13, 0, none⟩) ((byKinds l 10).length + 1) ((byKinds l 10).length + 3)) (ob := []) (by kernel_rfl) An (by rw [show (.slice (some ⟨B13, 0, none⟩) ((byKinds l 10).length + 1) ((byKinds l 10).length + 3) : Value) = .slice (some ⟨B13, 0, none⟩) (((byKinds l 10).length : Int) + 1 : Int).toNat ((byKinds l 10).length + 3) from (by congr 1 <;> omega)]; exact ox_slice_h rfl rfl rfl Tryd.underlying23 (sz := 3) (by kernel_rfl) (by omega)) ?_
      clear hf; intro a hf
      have hC := (hC7i _ ⟨hM.sub (.cons_cons _ (.cons_cons _ (.cons_cons _ .slnil))), hk0, hO.sub (.cons_cons _ (.cons_cons _ (.cons_cons _ .slnil))) (.cons _ (.cons _ (.cons_cons _ (.cons_cons _ (.cons_cons _ .slnil)))))⟩)
      refine scdone hC ?_
      refine qd hf hC (fun w' h => (hC7e w' h).1) [4] [{ sp := true }, { os := [.ex (iV ((((byKinds l 10) ++ ([(⟨k, x, y⟩ : V3)] : List V3)).getD ((byKinds l 10).length : Int).toNat ⟨0, 0, 0⟩).k)), .ex (iV ((((byKinds l 10) ++ ([(⟨k, x, y⟩ : V3)] : List V3)).getD ((byKinds l 10).length : Int).toNat ⟨0, 0, 0⟩).a)), .ex (iV ((((byKinds l 10) ++ ([(⟨k, x, y⟩ : V3)] : List V3)).getD ((byKinds l 10).length : Int).toNat ⟨0, 0, 0⟩).b))] }, { sp := true, hint := some (bV true) }, {}, {}] (env' := [(4, eB true)]) (ob := [true = true, (0 : Int) ≤ ((byKinds l 10).length : Int) ∧ ((byKinds l 10).length : Int) < (((byKinds l 10).length + 1) : Int), (some ⟨B13, 0, none⟩ : Option Addr).isSome = true, true = true, (∀ w', C7 w' → w'.cell? (((sa (some ⟨B13, 0, none⟩) : Addr).add (((byKinds l 10).length : Int).toNat * 3)).add 0) = some (iV ((((byKinds l 10) ++ ([(⟨k, x, y⟩ : V3)] : List V3)).getD ((byKinds l 10).length : Int).toNat ⟨0, 0, 0⟩).k))), (∀ w', C7 w' → w'.cell? (((sa (some ⟨B13, 0, none⟩) : Addr).add (((byKinds l 10).length : Int).toNat * 3)).add 1) = some (iV ((((byKinds l 10) ++ ([(⟨k, x, y⟩ : V3)] : List V3)).getD ((byKinds l 10).length : Int).toNat ⟨0, 0, 0⟩).a))), (∀ w', C7 w' → w'.cell? (((sa (some ⟨B13, 0, none⟩) : Addr).add (((byKinds l 10).length : Int).toNat * 3)).add 2) = some (iV ((((byKinds l 10) ++ ([(⟨k, x, y⟩ : V3)] : List V3)).getD ((byKinds l 10).length : Int).toNat ⟨0, 0, 0⟩).b))), true = true, (bV (((((((byKinds l 10) ++ ([(⟨k, x, y⟩ : V3)] : List V3)).getD ((byKinds l 10).length : Int).toNat ⟨0, 0, 0⟩).k) : Int) == k) && (((((((byKinds l 10) ++ ([(⟨k, x, y⟩ : V3)] : List V3)).getD ((byKinds l 10).length : Int).toNat ⟨0, 0, 0⟩).a) : Int) == x) && (((((((byKinds l 10) ++ ([(⟨k, x, y⟩ : V3)] : List V3)).getD ((byKinds l 10).length : Int).toNat ⟨0, 0, 0⟩).b) : Int) == y) && true))) : Value) = (bV true : Value)]) (Ac rfl (Ac (by first | omega | (simp; done)) (Ac rfl (Ac rfl (Ac (fun w' hc => by obtain ⟨hM, hk0, hO⟩ := hC7e w' hc; exact ((Arr.of_memT (sz := 3) (f := fV) (L := ((byKinds l 10) ++ [(⟨k, x, y⟩ : V3), (⟨k, x, y⟩ : V3)] ++ [(⟨0, 0, 0⟩ : V3)])) (l := ((byKinds l 10) ++ ([(⟨k, x, y⟩ : V3)] : List V3))) (c := ((byKinds l 10).length + 3)) hM (List.Mem.tail _ (List.Mem.tail _ (List.Mem.head _))) (fun _ => rfl) (by have h := List.take_left (l₁ := (byKinds l 10) ++ [(⟨k, x, y⟩ : V3)]) (l₂ := [(⟨k, x, y⟩ : V3), (⟨0, 0, 0⟩ : V3)]); simpa only [List.append_assoc, List.cons_append, List.nil_append] using h) (by simp)).get (fun _ => rfl) (by first | omega | (simp; done)) rfl)) (Ac (fun w' hc => by obtain ⟨hM, hk0, hO⟩ := hC7e w' hc; exact ((Arr.of_memT (sz := 3) (f := fV) (L := ((byKinds l 10) ++ [(⟨k, x, y⟩ : V3), (⟨k, x, y⟩ : V3)] ++ [(⟨0, 0, 0⟩ : V3)])) (l := ((byKinds l 10) ++ ([(⟨k, x, y⟩ : V3)] : List V3))) (c := ((byKinds l 10).length + 3)) hM (List.Mem.tail _ (List.Mem.tail _ (List.Mem.head _))) (fun _ => rfl) (by have h := List.take_left (l₁ := (byKinds l 10) ++ [(⟨k, x, y⟩ : V3)]) (l₂ := [(⟨k, x, y⟩ : V3), (⟨0, 0, 0⟩ : V3)]); simpa only [List.append_assoc, List.cons_append, List.nil_append] using h) (by simp)).get (fun _ => rfl) (by first | omega | (simp; done)) rfl)) (Ac (fun w' hc => by obtain ⟨hM, hk0, hO⟩ := hC7e w' hc; exact ((Arr.of_memT (sz := 3) (f := fV) (L := ((byKinds l 10) ++ [(⟨k, x, y⟩ : V3), (⟨k, x, y⟩ : V3)] ++ [(⟨0, 0, 0⟩ : V3)])) (l := ((byKinds l 10) ++ ([(⟨k, x, y⟩ : V3)] : List V3))) (c := ((byKinds l 10).length + 3)) hM (List.Mem.tail _ (List.Mem.tail _ (List.Mem.head _))) (fun _ => rfl) (by have h := List.take_left (l₁ := (byKinds l 10) ++ [(⟨k, x, y⟩ : V3)]) (l₂ := [(⟨k, x, y⟩ : V3), (⟨0, 0, 0⟩ : V3)]); simpa only [List.append_assoc, List.cons_append, List.nil_append] using h) (by simp)).get (fun _ => rfl) (by first | omega | (simp; done)) rfl)) (Ac rfl (Ao (Eq.trans (show (bV (((((((byKinds l 10) ++ ([(⟨k, x, y⟩ : V3)] : List V3)).getD ((byKinds l 10).length : Int).toNat ⟨0, 0, 0⟩).k) : Int) == k) && (((((((byKinds l 10) ++ ([(⟨k, x, y⟩ : V3)] : List V3)).getD ((byKinds l 10).length : Int).toNat ⟨0, 0, 0⟩).a) : Int) == x) && (((((((byKinds l 10) ++ ([(⟨k, x, y⟩ : V3)] : List V3)).getD ((byKinds l 10).length : Int).toNat ⟨0, 0, 0⟩).b) : Int) == y) && true))) : Value) = (bV (((((((byKinds l 10) ++ ([(⟨k, x, y⟩ : V3)] : List V3)).getD ((byKinds l 10).length : Int).toNat ⟨0, 0, 0⟩).k) : Int) == k) && (((((((byKinds l 10) ++ ([(⟨k, x, y⟩ : V3)] : List V3)).getD ((byKinds l 10).length : Int).toNat ⟨0, 0, 0⟩).a) : Int) == x) && ((((((byKinds l 10) ++ ([(⟨k, x, y⟩ : V3)] : List V3)).getD ((byKinds l 10).length : Int).toNat ⟨0, 0, 0⟩).b) : Int) == y))) : Value) from (by simp)) (by simp [List.getD_eq_getElem?_getD]))))))))))) ?_
      clear hf; intro a hf
      clear hC
      show K16 _ _
      refine hK16 _ _ ?_
      refine wp_ret ?_
      refine qr (fn := Tryd.f6) hf hM [] (l := [bV true]) (ob := []) An ?_
      show (bV true : Value) = .bool true ∧ Keep Nn w w36
      refine ⟨congrArg Value.bool ?_, hk0⟩
      first | rfl | (simp; done) | (simp_all; done)

theorem schemaChanges_any (E : Nat → Addr) (av : Option Addr) (l : List V3) (c : Nat) (k x y : Int) (w : World) (hav : Arr w 3 av l.length c (flat fV l)) (hG : Errs [0, 3, 4] w 185 E) :
    Calls Tryd.prog 6 #[.slice av l.length c, .agg #[iV k, iV x, iV y]] w (Ret fun v w' => v = .bool true ∧ Keep Nn w w') := by
  rcases Bool.eq_false_or_eq_true (firstBad l == 0) with h | h
  · rcases Bool.eq_false_or_eq_true (noDup l) with h0 | h0
    · rcases Bool.eq_false_or_eq_true (vcheck ⟨k, x, y⟩ == 0) with h1 | h1
      · exact sch_ok E av l c k x y w h h0 h1 hav hG
      · exact sch_v E av l c k x y w h h0 h1 hav hG
    · exact sch_dup E av l c k x y w h h0 hav hG
  · exact sch_bad E av l c k x y w h hav hG
end Go.Proofs.YtifcgjnknikjkaaDoor
