/- layer 6: a component that is put and dropped -/
import Derived.Test.YtifcgjnknikjkaaDoorBE1
import Derived.Test.YtifcgjnknikjkaaDoorXp6g
namespace Go.Proofs.YtifcgjnknikjkaaDoor
open Go.Px
set_option linter.unusedVariables false
set_option linter.unusedSimpArgs false

set_option maxRecDepth 10000 in
set_option maxHeartbeats 1600000 in
theorem mholds0 (na : Nat) (w : World) :
    Calls Tryd.prog 52 #[uV ((na : Nat) : Int), uV 0] w (Ret fun v w' => v = .bool true ∧ Keep Nn w w') := by
 refine sxenter (n := 9) (args := [uV ((na : Nat) : Int), uV 0]) Tryd.func52 rfl rfl rfl fun a hf => ?_
 replace hf : Fr 9 [(0, eU ((na : Nat) : Int)), (1, eU 0)] a := hf
 have hM : MemOk [] w := MemOk.nil w
 have hk0 : Keep Nn w w := Keep.refl _ _
 refine wp_seq_k (fun K1 hK1 => ?_)
 refine wp_region_lit ?_
 refine q0 hf hM [0, 1] [{}] (env' := [(0, eU ((na : Nat) : Int)), (1, eU 0)]) (ob := []) An ?_
 clear hf; intro a hf
 refine wpList_nil ?_
 refine hK1 _ _ ?_
 refine wp_seq_k (fun K2 hK2 => ?_)
 refine wp_region_lit ?_
 refine q0 hf hM [4] [{}, {}, { hint := some (uV 0) }, {}, {}] (env' := [(4, eB true)]) (ob := [(uV (IntKind.u64.wrap ((BitVec.ofInt IntKind.u64.bits 0 &&& ~~~(BitVec.ofInt IntKind.u64.bits ((na : Nat) : Int)) : BitVec IntKind.u64.bits).toNat : Int)) : Value) = (uV 0 : Value)]) (Ao (andNot_zero _)) ?_
 clear hf; intro a hf
 refine wpList_nil ?_
 refine hK2 _ _ ?_
 refine wp_ret ?_
 refine qr (fn := Tryd.f52) hf hM [] (l := [bV true]) (ob := []) An ?_
 show (bV true : Value) = .bool true ∧ Keep Nn w w
 exact ⟨rfl, hk0⟩

set_option maxRecDepth 10000 in
set_option maxHeartbeats 1600000 in
theorem stu_r (E : Nat → Addr) (av : Option Addr) (l : List V3) (c : Nat) (k x y : Int) (w : World) (hn0 : (rightV l) = false) (hav : Arr w 3 av l.length c (flat fV l)) (hG : Errs [0, 3, 4] w 185 E) :
    Calls Tryd.prog 11 #[.slice av l.length c, .agg #[iV k, iV x, iV y]] w (Ret fun v w' => v = .bool true ∧ Keep Nn w w') := by
 refine sxenter (n := 106) (args := [.slice av l.length c, .agg #[iV k, iV x, iV y]]) Tryd.func11 rfl rfl rfl fun a hf => ?_
 replace hf : Fr 106 [(0, eS av l.length c), (1, .val (.agg #[iV k, iV x, iV y]))] a := hf
 have hM : MemOk [] w := MemOk.nil w
 have hk0 : Keep Nn w w := Keep.refl _ _
 refine wp_seq_k (fun K1 hK1 => ?_)
 refine wp_region_lit ?_
 refine q1 hf hM [3, 0] [{ os := [.nw] }, {}] (env' := fun B1 => [(3, eP B1 0), (0, eS av l.length c)]) (M' := fun B1 => [⟨B1, 62, [iV k, iV x, iV y]⟩]) (ob := fun B1 => []) (fun B1 => An) ?_
 clear hf hM; intro a w1 B1 hf hM hB hk
 have hbB1 : w.heap.size ≤ B1 := by have := hk0.size; omega
 have hk0 := hk0.then hk (by intro i _ h; cases h)
 clear hk hB
 refine wpList_nil ?_
 refine hK1 _ _ ?_
 refine wp_seq_k (fun K2 hK2 => ?_)
 refine wp_seq_k (fun K3 hK3 => ?_)
 refine wp_region_lit ?_
 refine sxcall hf rfl rfl rfl rfl (g := 29) (vs := []) (ob := []) (by as_aux_lemma => kernel_rfl) An enters29 (alive6 E w1  (hG.keep hk0 (fun _ h => h))) ?_
 clear hf; rintro _ w2 a ⟨rfl, hk⟩ hf
 have hM := hM.keepNn hk
 have hk0 := hk0.trans hk.nn
 clear hk
 refine q0 hf hM [14, 3, 0] [{}] (env' := [(14, eB false), (3, eP B1 0), (0, eS av l.length c)]) (ob := []) An ?_
 clear hf; intro a hf
 refine wpList_nil ?_
 refine hK3 _ _ ?_
 refine sxcond hf (b := false) (by kernel_rfl) (fun h => by cases h) (fun _ => ?_)
 refine wp_skip ?_
 refine hK2 _ _ ?_
 refine wp_seq_k (fun K4 hK4 => ?_)
 refine wp_seq_k (fun K5 hK5 => ?_)
 refine wp_region_lit ?_
 refine q0 hf hM [18, 3, 0] [{}, {}, {}, {}] (env' := [(18, eB (decide (((l.length : Int) : Int) > 20))), (3, eP B1 0), (0, eS av l.length c)]) (ob := []) An ?_
 clear hf; intro a hf
 rcases Bool.eq_false_or_eq_true (decide (((l.length : Int) : Int) > 20)) with hg1r | hg1r
 · have hg1 := (nT hg1r)
   have hf := hf.prune [18, 3, 0]
   replace hf : Fr 106 [(18, eB (decide (((l.length : Int) : Int) > 20))), (3, eP B1 0), (0, eS av l.length c)] a := hf
   replace hf := hf.conv (env' := [(18, eB true), (3, eP B1 0), (0, eS av l.length c)]) (Ac (congrArg Value.bool hg1r) (Ac rfl (Ao rfl)))
   refine q0 hf hM [19, 18, 3, 0] [{ g := .off }] (env' := [(19, .val (undef)), (18, eB true), (3, eP B1 0), (0, eS av l.length c)]) (ob := [true = !false]) (Ao rfl) ?_
   clear hf; intro a hf
   refine q0 hf hM [24, 23, 3, 0] [{ g := .off }, { g := .off }, {}, {}, { g := .off }] (env' := [(24, .val (undef)), (23, eB true), (3, eP B1 0), (0, eS av l.length c)]) (ob := [true = !false, true = !false, true = !false]) (Ac rfl (Ac rfl (Ao rfl))) ?_
   clear hf; intro a hf
   refine q0 hf hM [27, 3, 0] [{ g := .off }, { g := .off }, {}] (env' := [(27, eB true), (3, eP B1 0), (0, eS av l.length c)]) (ob := [true = !false, true = !false]) (Ac rfl (Ao rfl)) ?_
   clear hf; intro a hf
   refine wpList_nil ?_
   refine hK5 _ _ ?_
   refine sxcond hf (b := true) (by kernel_rfl) (fun _ => ?_) (fun h => by cases h)
   refine wp_seq_k (fun K6 hK6 => ?_)
   refine wp_region_lit ?_
   refine q0 hf hM [4] [{}] (env' := [(4, eB true)]) (ob := []) An ?_
   clear hf; intro a hf
   refine wpList_nil ?_
   refine hK6 _ _ ?_
   refine wp_ret ?_
   refine qr (fn := Tryd.f11) hf hM [] (l := [bV true]) (ob := []) An ?_
   show (bV true : Value) = .bool true ∧ Keep Nn w w2
   refine ⟨congrArg Value.bool ?_, hk0⟩
   first | rfl | (simp; done) | (simp_all; done)
 · have hg1 := (nU hg1r)
   have hf := hf.prune [18, 3, 0]
   replace hf : Fr 106 [(18, eB (decide (((l.length : Int) : Int) > 20))), (3, eP B1 0), (0, eS av l.length c)] a := hf
   replace hf := hf.conv (env' := [(18, eB false), (3, eP B1 0), (0, eS av l.length c)]) (Ac (congrArg Value.bool hg1r) (Ac rfl (Ao rfl)))
   refine q0 hf hM [19, 18, 3, 0] [{}] (env' := [(19, eS av l.length c), (18, eB false), (3, eP B1 0), (0, eS av l.length c)]) (ob := [false = false]) (Ao rfl) ?_
   clear hf; intro a hf
   refine sxcallg hf rfl rfl rfl rfl rfl (g := 41) (vs := [.slice av l.length c]) (ob := []) (by as_aux_lemma => kernel_rfl) An enters41 (sright E av l c w2  (hav.keepNn hk0) (by first | omega | (simp; omega) | (simp; done) | exact Nat.le_trans (byKinds_len _ _) (by omega) | decide) (hG.keep hk0 (fun _ h => h))) ?_
   clear hf; rintro _ w3 a ⟨rfl, hk⟩ hf
   have hM := hM.keepNn hk
   have hk0 := hk0.trans hk.nn
   clear hk
   refine q0 hf hM [23, 3, 0] [{}, {}, {}] (env' := [(23, eB (!(rightV l))), (3, eP B1 0), (0, eS av l.length c)]) (ob := [false = false]) (Ao rfl) ?_
   clear hf; intro a hf
   have hf := hf.prune [23, 3, 0]
   replace hf : Fr 106 [(23, eB (!(rightV l))), (3, eP B1 0), (0, eS av l.length c)] a := hf
   replace hf := hf.conv (env' := [(23, eB true), (3, eP B1 0), (0, eS av l.length c)]) (Ac (congrArg Value.bool (by simp [hn0] : (!(rightV l) : Bool) = true)) (Ac rfl (Ao rfl)))
   refine q0 hf hM [24, 23, 3, 0] [{ g := .off }] (env' := [(24, .val (undef)), (23, eB true), (3, eP B1 0), (0, eS av l.length c)]) (ob := [true = !false]) (Ao rfl) ?_
   clear hf; intro a hf
   refine q0 hf hM [27, 3, 0] [{ g := .off }, { g := .off }, {}] (env' := [(27, eB true), (3, eP B1 0), (0, eS av l.length c)]) (ob := [true = !false, true = !false]) (Ac rfl (Ao rfl)) ?_
   clear hf; intro a hf
   refine wpList_nil ?_
   refine hK5 _ _ ?_
   refine sxcond hf (b := true) (by kernel_rfl) (fun _ => ?_) (fun h => by cases h)
   refine wp_seq_k (fun K7 hK7 => ?_)
   refine wp_region_lit ?_
   refine q0 hf hM [4] [{}] (env' := [(4, eB true)]) (ob := []) An ?_
   clear hf; intro a hf
   refine wpList_nil ?_
   refine hK7 _ _ ?_
   refine wp_ret ?_
   refine qr (fn := Tryd.f11) hf hM [] (l := [bV true]) (ob := []) An ?_
   show (bV true : Value) = .bool true ∧ Keep Nn w w3
   refine ⟨congrArg Value.bool ?_, hk0⟩
   first | rfl | (simp; done) | (simp_all; done)

set_option maxRecDepth 10000 in
set_option maxHeartbeats 1600000 in
theorem stu_k (E : Nat → Addr) (av : Option Addr) (l : List V3) (c : Nat) (k x y : Int) (w : World) (hn0 : (rightV l) = true) (hn1 : (vkind ⟨k, x, y⟩) = false) (hav : Arr w 3 av l.length c (flat fV l)) (hG : Errs [0, 3, 4] w 185 E) :
    Calls Tryd.prog 11 #[.slice av l.length c, .agg #[iV k, iV x, iV y]] w (Ret fun v w' => v = .bool true ∧ Keep Nn w w') := by
 refine sxenter (n := 106) (args := [.slice av l.length c, .agg #[iV k, iV x, iV y]]) Tryd.func11 rfl rfl rfl fun a hf => ?_
 replace hf : Fr 106 [(0, eS av l.length c), (1, .val (.agg #[iV k, iV x, iV y]))] a := hf
 have hM : MemOk [] w := MemOk.nil w
 have hk0 : Keep Nn w w := Keep.refl _ _
 refine wp_seq_k (fun K1 hK1 => ?_)
 refine wp_region_lit ?_
 refine q1 hf hM [3, 0] [{ os := [.nw] }, {}] (env' := fun B1 => [(3, eP B1 0), (0, eS av l.length c)]) (M' := fun B1 => [⟨B1, 62, [iV k, iV x, iV y]⟩]) (ob := fun B1 => []) (fun B1 => An) ?_
 clear hf hM; intro a w1 B1 hf hM hB hk
 have hbB1 : w.heap.size ≤ B1 := by have := hk0.size; omega
 have hk0 := hk0.then hk (by intro i _ h; cases h)
 clear hk hB
 refine wpList_nil ?_
 refine hK1 _ _ ?_
 refine wp_seq_k (fun K2 hK2 => ?_)
 refine wp_seq_k (fun K3 hK3 => ?_)
 refine wp_region_lit ?_
 refine sxcall hf rfl rfl rfl rfl (g := 29) (vs := []) (ob := []) (by as_aux_lemma => kernel_rfl) An enters29 (alive6 E w1  (hG.keep hk0 (fun _ h => h))) ?_
 clear hf; rintro _ w2 a ⟨rfl, hk⟩ hf
 have hM := hM.keepNn hk
 have hk0 := hk0.trans hk.nn
 clear hk
 refine q0 hf hM [14, 3, 0] [{}] (env' := [(14, eB false), (3, eP B1 0), (0, eS av l.length c)]) (ob := []) An ?_
 clear hf; intro a hf
 refine wpList_nil ?_
 refine hK3 _ _ ?_
 refine sxcond hf (b := false) (by kernel_rfl) (fun h => by cases h) (fun _ => ?_)
 refine wp_skip ?_
 refine hK2 _ _ ?_
 refine wp_seq_k (fun K4 hK4 => ?_)
 refine wp_seq_k (fun K5 hK5 => ?_)
 refine wp_region_lit ?_
 refine q0 hf hM [18, 3, 0] [{}, {}, {}, {}] (env' := [(18, eB (decide (((l.length : Int) : Int) > 20))), (3, eP B1 0), (0, eS av l.length c)]) (ob := []) An ?_
 clear hf; intro a hf
 rcases Bool.eq_false_or_eq_true (decide (((l.length : Int) : Int) > 20)) with hg1r | hg1r
 · have hg1 := (nT hg1r)
   have hf := hf.prune [18, 3, 0]
   replace hf : Fr 106 [(18, eB (decide (((l.length : Int) : Int) > 20))), (3, eP B1 0), (0, eS av l.length c)] a := hf
   replace hf := hf.conv (env' := [(18, eB true), (3, eP B1 0), (0, eS av l.length c)]) (Ac (congrArg Value.bool hg1r) (Ac rfl (Ao rfl)))
   refine q0 hf hM [19, 18, 3, 0] [{ g := .off }] (env' := [(19, .val (undef)), (18, eB true), (3, eP B1 0), (0, eS av l.length c)]) (ob := [true = !false]) (Ao rfl) ?_
   clear hf; intro a hf
   refine q0 hf hM [24, 23, 3, 0] [{ g := .off }, { g := .off }, {}, {}, { g := .off }] (env' := [(24, .val (undef)), (23, eB true), (3, eP B1 0), (0, eS av l.length c)]) (ob := [true = !false, true = !false, true = !false]) (Ac rfl (Ac rfl (Ao rfl))) ?_
   clear hf; intro a hf
   refine q0 hf hM [27, 3, 0] [{ g := .off }, { g := .off }, {}] (env' := [(27, eB true), (3, eP B1 0), (0, eS av l.length c)]) (ob := [true = !false, true = !false]) (Ac rfl (Ao rfl)) ?_
   clear hf; intro a hf
   refine wpList_nil ?_
   refine hK5 _ _ ?_
   refine sxcond hf (b := true) (by kernel_rfl) (fun _ => ?_) (fun h => by cases h)
   refine wp_seq_k (fun K6 hK6 => ?_)
   refine wp_region_lit ?_
   refine q0 hf hM [4] [{}] (env' := [(4, eB true)]) (ob := []) An ?_
   clear hf; intro a hf
   refine wpList_nil ?_
   refine hK6 _ _ ?_
   refine wp_ret ?_
   refine qr (fn := Tryd.f11) hf hM [] (l := [bV true]) (ob := []) An ?_
   show (bV true : Value) = .bool true ∧ Keep Nn w w2
   refine ⟨congrArg Value.bool ?_, hk0⟩
   first | rfl | (simp; done) | (simp_all; done)
 · have hg1 := (nU hg1r)
   have hf := hf.prune [18, 3, 0]
   replace hf : Fr 106 [(18, eB (decide (((l.length : Int) : Int) > 20))), (3, eP B1 0), (0, eS av l.length c)] a := hf
   replace hf := hf.conv (env' := [(18, eB false), (3, eP B1 0), (0, eS av l.length c)]) (Ac (congrArg Value.bool hg1r) (Ac rfl (Ao rfl)))
   refine q0 hf hM [19, 18, 3, 0] [{}] (env' := [(19, eS av l.length c), (18, eB false), (3, eP B1 0), (0, eS av l.length c)]) (ob := [false = false]) (Ao rfl) ?_
   clear hf; intro a hf
   refine sxcallg hf rfl rfl rfl rfl rfl (g := 41) (vs := [.slice av l.length c]) (ob := []) (by as_aux_lemma => kernel_rfl) An enters41 (sright E av l c w2  (hav.keepNn hk0) (by first | omega | (simp; omega) | (simp; done) | exact Nat.le_trans (byKinds_len _ _) (by omega) | decide) (hG.keep hk0 (fun _ h => h))) ?_
   clear hf; rintro _ w3 a ⟨rfl, hk⟩ hf
   have hM := hM.keepNn hk
   have hk0 := hk0.trans hk.nn
   clear hk
   refine q0 hf hM [23, 3, 0] [{}, {}, {}] (env' := [(23, eB (!(rightV l))), (3, eP B1 0), (0, eS av l.length c)]) (ob := [false = false]) (Ao rfl) ?_
   clear hf; intro a hf
   have hf := hf.prune [23, 3, 0]
   replace hf : Fr 106 [(23, eB (!(rightV l))), (3, eP B1 0), (0, eS av l.length c)] a := hf
   replace hf := hf.conv (env' := [(23, eB false), (3, eP B1 0), (0, eS av l.length c)]) (Ac (congrArg Value.bool (by simp [hn0] : (!(rightV l) : Bool) = false)) (Ac rfl (Ao rfl)))
   refine q0 hf hM [24, 23, 3, 0] [{ os := [.ld 0 0, .ld 0 1, .ld 0 2] }] (env' := [(24, .val (.agg #[iV k, iV x, iV y])), (23, eB false), (3, eP B1 0), (0, eS av l.length c)]) (ob := [false = false, Ad B1 0, Ad B1 1, Ad B1 2]) (Ac rfl (Ac (ad _ _) (Ac (ad _ _) (Ao (ad _ _))))) ?_
   clear hf; intro a hf
   refine sxcallg hf rfl rfl rfl rfl rfl (g := 31) (vs := [.agg #[iV k, iV x, iV y]]) (ob := []) (by as_aux_lemma => kernel_rfl) An enters31 (scheck_kind E k x y w3 hn1 (hG.keep hk0 (fun _ h => h))) ?_
   clear hf; rintro _ w4 a ⟨rfl, hk⟩ hf
   have hM := hM.keepNn hk
   have hk0 := hk0.trans hk.nn
   clear hk
   refine q0 hf hM [27, 3, 0] [{}, {}] (env' := [(27, eB true), (3, eP B1 0), (0, eS av l.length c)]) (ob := [false = false]) (Ao rfl) ?_
   clear hf; intro a hf
   refine wpList_nil ?_
   refine hK5 _ _ ?_
   refine sxcond hf (b := true) (by kernel_rfl) (fun _ => ?_) (fun h => by cases h)
   refine wp_seq_k (fun K7 hK7 => ?_)
   refine wp_region_lit ?_
   refine q0 hf hM [4] [{}] (env' := [(4, eB true)]) (ob := []) An ?_
   clear hf; intro a hf
   refine wpList_nil ?_
   refine hK7 _ _ ?_
   refine wp_ret ?_
   refine qr (fn := Tryd.f11) hf hM [] (l := [bV true]) (ob := []) An ?_
   show (bV true : Value) = .bool true ∧ Keep Nn w w4
   refine ⟨congrArg Value.bool ?_, hk0⟩
   first | rfl | (simp; done) | (simp_all; done)

set_option maxRecDepth 10000 in
set_option maxHeartbeats 1600000 in
theorem stu_v (E : Nat → Addr) (av : Option Addr) (l : List V3) (c : Nat) (k x y : Int) (w : World) (hn0 : (rightV l) = true) (hn1 : (vkind ⟨k, x, y⟩) = true) (hn2 : (vrange ⟨k, x, y⟩) = false) (hav : Arr w 3 av l.length c (flat fV l)) (hG : Errs [0, 3, 4] w 185 E) :
    Calls Tryd.prog 11 #[.slice av l.length c, .agg #[iV k, iV x, iV y]] w (Ret fun v w' => v = .bool true ∧ Keep Nn w w') := by
 refine sxenter (n := 106) (args := [.slice av l.length c, .agg #[iV k, iV x, iV y]]) Tryd.func11 rfl rfl rfl fun a hf => ?_
 replace hf : Fr 106 [(0, eS av l.length c), (1, .val (.agg #[iV k, iV x, iV y]))] a := hf
 have hM : MemOk [] w := MemOk.nil w
 have hk0 : Keep Nn w w := Keep.refl _ _
 refine wp_seq_k (fun K1 hK1 => ?_)
 refine wp_region_lit ?_
 refine q1 hf hM [3, 0] [{ os := [.nw] }, {}] (env' := fun B1 => [(3, eP B1 0), (0, eS av l.length c)]) (M' := fun B1 => [⟨B1, 62, [iV k, iV x, iV y]⟩]) (ob := fun B1 => []) (fun B1 => An) ?_
 clear hf hM; intro a w1 B1 hf hM hB hk
 have hbB1 : w.heap.size ≤ B1 := by have := hk0.size; omega
 have hk0 := hk0.then hk (by intro i _ h; cases h)
 clear hk hB
 refine wpList_nil ?_
 refine hK1 _ _ ?_
 refine wp_seq_k (fun K2 hK2 => ?_)
 refine wp_seq_k (fun K3 hK3 => ?_)
 refine wp_region_lit ?_
 refine sxcall hf rfl rfl rfl rfl (g := 29) (vs := []) (ob := []) (by as_aux_lemma => kernel_rfl) An enters29 (alive6 E w1  (hG.keep hk0 (fun _ h => h))) ?_
 clear hf; rintro _ w2 a ⟨rfl, hk⟩ hf
 have hM := hM.keepNn hk
 have hk0 := hk0.trans hk.nn
 clear hk
 refine q0 hf hM [14, 3, 0] [{}] (env' := [(14, eB false), (3, eP B1 0), (0, eS av l.length c)]) (ob := []) An ?_
 clear hf; intro a hf
 refine wpList_nil ?_
 refine hK3 _ _ ?_
 refine sxcond hf (b := false) (by kernel_rfl) (fun h => by cases h) (fun _ => ?_)
 refine wp_skip ?_
 refine hK2 _ _ ?_
 refine wp_seq_k (fun K4 hK4 => ?_)
 refine wp_seq_k (fun K5 hK5 => ?_)
 refine wp_region_lit ?_
 refine q0 hf hM [18, 3, 0] [{}, {}, {}, {}] (env' := [(18, eB (decide (((l.length : Int) : Int) > 20))), (3, eP B1 0), (0, eS av l.length c)]) (ob := []) An ?_
 clear hf; intro a hf
 rcases Bool.eq_false_or_eq_true (decide (((l.length : Int) : Int) > 20)) with hg1r | hg1r
 · have hg1 := (nT hg1r)
   have hf := hf.prune [18, 3, 0]
   replace hf : Fr 106 [(18, eB (decide (((l.length : Int) : Int) > 20))), (3, eP B1 0), (0, eS av l.length c)] a := hf
   replace hf := hf.conv (env' := [(18, eB true), (3, eP B1 0), (0, eS av l.length c)]) (Ac (congrArg Value.bool hg1r) (Ac rfl (Ao rfl)))
   refine q0 hf hM [19, 18, 3, 0] [{ g := .off }] (env' := [(19, .val (undef)), (18, eB true), (3, eP B1 0), (0, eS av l.length c)]) (ob := [true = !false]) (Ao rfl) ?_
   clear hf; intro a hf
   refine q0 hf hM [24, 23, 3, 0] [{ g := .off }, { g := .off }, {}, {}, { g := .off }] (env' := [(24, .val (undef)), (23, eB true), (3, eP B1 0), (0, eS av l.length c)]) (ob := [true = !false, true = !false, true = !false]) (Ac rfl (Ac rfl (Ao rfl))) ?_
   clear hf; intro a hf
   refine q0 hf hM [27, 3, 0] [{ g := .off }, { g := .off }, {}] (env' := [(27, eB true), (3, eP B1 0), (0, eS av l.length c)]) (ob := [true = !false, true = !false]) (Ac rfl (Ao rfl)) ?_
   clear hf; intro a hf
   refine wpList_nil ?_
   refine hK5 _ _ ?_
   refine sxcond hf (b := true) (by kernel_rfl) (fun _ => ?_) (fun h => by cases h)
   refine wp_seq_k (fun K6 hK6 => ?_)
   refine wp_region_lit ?_
   refine q0 hf hM [4] [{}] (env' := [(4, eB true)]) (ob := []) An ?_
   clear hf; intro a hf
   refine wpList_nil ?_
   refine hK6 _ _ ?_
   refine wp_ret ?_
   refine qr (fn := Tryd.f11) hf hM [] (l := [bV true]) (ob := []) An ?_
   show (bV true : Value) = .bool true ∧ Keep Nn w w2
   refine ⟨congrArg Value.bool ?_, hk0⟩
   first | rfl | (simp; done) | (simp_all; done)
 · have hg1 := (nU hg1r)
   have hf := hf.prune [18, 3, 0]
   replace hf : Fr 106 [(18, eB (decide (((l.length : Int) : Int) > 20))), (3, eP B1 0), (0, eS av l.length c)] a := hf
   replace hf := hf.conv (env' := [(18, eB false), (3, eP B1 0), (0, eS av l.length c)]) (Ac (congrArg Value.bool hg1r) (Ac rfl (Ao rfl)))
   refine q0 hf hM [19, 18, 3, 0] [{}] (env' := [(19, eS av l.length c), (18, eB false), (3, eP B1 0), (0, eS av l.length c)]) (ob := [false = false]) (Ao rfl) ?_
   clear hf; intro a hf
   refine sxcallg hf rfl rfl rfl rfl rfl (g := 41) (vs := [.slice av l.length c]) (ob := []) (by as_aux_lemma => kernel_rfl) An enters41 (sright E av l c w2  (hav.keepNn hk0) (by first | omega | (simp; omega) | (simp; done) | exact Nat.le_trans (byKinds_len _ _) (by omega) | decide) (hG.keep hk0 (fun _ h => h))) ?_
   clear hf; rintro _ w3 a ⟨rfl, hk⟩ hf
   have hM := hM.keepNn hk
   have hk0 := hk0.trans hk.nn
   clear hk
   refine q0 hf hM [23, 3, 0] [{}, {}, {}] (env' := [(23, eB (!(rightV l))), (3, eP B1 0), (0, eS av l.length c)]) (ob := [false = false]) (Ao rfl) ?_
   clear hf; intro a hf
   have hf := hf.prune [23, 3, 0]
   replace hf : Fr 106 [(23, eB (!(rightV l))), (3, eP B1 0), (0, eS av l.length c)] a := hf
   replace hf := hf.conv (env' := [(23, eB false), (3, eP B1 0), (0, eS av l.length c)]) (Ac (congrArg Value.bool (by simp [hn0] : (!(rightV l) : Bool) = false)) (Ac rfl (Ao rfl)))
   refine q0 hf hM [24, 23, 3, 0] [{ os := [.ld 0 0, .ld 0 1, .ld 0 2] }] (env' := [(24, .val (.agg #[iV k, iV x, iV y])), (23, eB false), (3, eP B1 0), (0, eS av l.length c)]) (ob := [false = false, Ad B1 0, Ad B1 1, Ad B1 2]) (Ac rfl (Ac (ad _ _) (Ac (ad _ _) (Ao (ad _ _))))) ?_
   clear hf; intro a hf
   refine sxcallg hf rfl rfl rfl rfl rfl (g := 31) (vs := [.agg #[iV k, iV x, iV y]]) (ob := []) (by as_aux_lemma => kernel_rfl) An enters31 (scheck_range E k x y w3 hn1 hn2 (hG.keep hk0 (fun _ h => h))) ?_
   clear hf; rintro _ w4 a ⟨rfl, hk⟩ hf
   have hM := hM.keepNn hk
   have hk0 := hk0.trans hk.nn
   clear hk
   refine q0 hf hM [27, 3, 0] [{}, {}] (env' := [(27, eB true), (3, eP B1 0), (0, eS av l.length c)]) (ob := [false = false]) (Ao rfl) ?_
   clear hf; intro a hf
   refine wpList_nil ?_
   refine hK5 _ _ ?_
   refine sxcond hf (b := true) (by kernel_rfl) (fun _ => ?_) (fun h => by cases h)
   refine wp_seq_k (fun K7 hK7 => ?_)
   refine wp_region_lit ?_
   refine q0 hf hM [4] [{}] (env' := [(4, eB true)]) (ob := []) An ?_
   clear hf; intro a hf
   refine wpList_nil ?_
   refine hK7 _ _ ?_
   refine wp_ret ?_
   refine qr (fn := Tryd.f11) hf hM [] (l := [bV true]) (ob := []) An ?_
   show (bV true : Value) = .bool true ∧ Keep Nn w w4
   refine ⟨congrArg Value.bool ?_, hk0⟩
   first | rfl | (simp; done) | (simp_all; done)

set_option maxRecDepth 10000 in
set_option maxHeartbeats 1600000 in
theorem stu_ok (E : Nat → Addr) (av : Option Addr) (l : List V3) (c : Nat) (k x y : Int) (w : World) (hn0 : (rightV l) = true) (hn1 : (vkind ⟨k, x, y⟩) = true) (hn2 : (vrange ⟨k, x, y⟩) = true) (hav : Arr w 3 av l.length c (flat fV l)) (hG : Errs [0, 3, 4] w 185 E) :
    Calls Tryd.prog 11 #[.slice av l.length c, .agg #[iV k, iV x, iV y]] w (Ret fun v w' => v = .bool true ∧ Keep Nn w w') := by
 refine sxenter (n := 106) (args := [.slice av l.length c, .agg #[iV k, iV x, iV y]]) Tryd.func11 rfl rfl rfl fun a hf => ?_
 replace hf : Fr 106 [(0, eS av l.length c), (1, .val (.agg #[iV k, iV x, iV y]))] a := hf
 have hM : MemOk [] w := MemOk.nil w
 have hk0 : Keep Nn w w := Keep.refl _ _
 have hv : vcheck ⟨k, x, y⟩ = 0 := vcheck_ok hn1 hn2
 obtain ⟨h0, hnd⟩ := rightV_parts hn0
 have hkk := vkinds hn0 hv
 have hkd : decide (0 ≤ k ∧ k ≤ 9) = true := decide_eq_true hkk
 have hkl := kinds_l hn0 hv
 have hkp : ∀ u ∈ (byKinds ((dropV l k) ++ ([⟨k, x, y⟩] : List V3)) 10), 0 ≤ u.k ∧ u.k ≤ 9 := kinds_put hn0 hv
 have hge : (dropV (byKinds ((dropV l k) ++ ([⟨k, x, y⟩] : List V3)) 10) k) = dropV l k := gone_eq hn0 hv
 have hkg : ∀ u ∈ (dropV (byKinds ((dropV l k) ++ ([⟨k, x, y⟩] : List V3)) 10) k), 0 ≤ u.k ∧ u.k ≤ 9 := by rw [hge]; exact kinds_gone hn0 hv
 have hrp : rightV (byKinds ((dropV l k) ++ ([⟨k, x, y⟩] : List V3)) 10) = true := put_right hn0 hv
 have hrg : rightV (dropV (byKinds ((dropV l k) ++ ([⟨k, x, y⟩] : List V3)) 10) k) = true := by rw [hge]; exact gone_right hn0 hv
 have hhv : hasV (byKinds ((dropV l k) ++ ([⟨k, x, y⟩] : List V3)) 10) k = true := put_hasV hn0 hv
 have hfv : findV (byKinds ((dropV l k) ++ ([⟨k, x, y⟩] : List V3)) 10) k = ⟨k, x, y⟩ := put_findV hn0 hv
 have hmp : maskN (byKinds ((dropV l k) ++ ([⟨k, x, y⟩] : List V3)) 10) = maskN l ||| bitN k := put_mask hn0 hv
 have hmg : maskN (dropV (byKinds ((dropV l k) ++ ([⟨k, x, y⟩] : List V3)) 10) k) = lessN (maskN l) (bitN k) := by rw [hge]; exact gone_mask hn0 hv
 have hsg : sameL (dropV (byKinds ((dropV l k) ++ ([⟨k, x, y⟩] : List V3)) 10) k) (dropV l k) = true := by rw [hge]; exact sameL_refl _
 have hml := maskN_lt64 hkl
 have hdl := dropV_len l k
 have hpl : (byKinds ((dropV l k) ++ ([⟨k, x, y⟩] : List V3)) 10).length ≤ l.length + 1 := Nat.le_trans (byKinds_len _ _) (by simp; omega)
 have hgl := dropV_len (byKinds ((dropV l k) ++ ([⟨k, x, y⟩] : List V3)) 10) k
 refine wp_seq_k (fun K1 hK1 => ?_)
 refine wp_region_lit ?_
 refine q1 hf hM [3, 0] [{ os := [.nw] }, {}] (env' := fun B1 => [(3, eP B1 0), (0, eS av l.length c)]) (M' := fun B1 => [⟨B1, 62, [iV k, iV x, iV y]⟩]) (ob := fun B1 => []) (fun B1 => An) ?_
 clear hf hM; intro a w1 B1 hf hM hB hk
 have hbB1 : w.heap.size ≤ B1 := by have := hk0.size; omega
 have hk0 := hk0.then hk (by intro i _ h; cases h)
 clear hk hB
 refine wpList_nil ?_
 refine hK1 _ _ ?_
 refine wp_seq_k (fun K2 hK2 => ?_)
 refine wp_seq_k (fun K3 hK3 => ?_)
 refine wp_region_lit ?_
 refine sxcall hf rfl rfl rfl rfl (g := 29) (vs := []) (ob := []) (by as_aux_lemma => kernel_rfl) An enters29 (alive6 E w1  (hG.keep hk0 (fun _ h => h))) ?_
 clear hf; rintro _ w2 a ⟨rfl, hk⟩ hf
 have hM := hM.keepNn hk
 have hk0 := hk0.trans hk.nn
 clear hk
 refine q0 hf hM [14, 3, 0] [{}] (env' := [(14, eB false), (3, eP B1 0), (0, eS av l.length c)]) (ob := []) An ?_
 clear hf; intro a hf
 refine wpList_nil ?_
 refine hK3 _ _ ?_
 refine sxcond hf (b := false) (by kernel_rfl) (fun h => by cases h) (fun _ => ?_)
 refine wp_skip ?_
 refine hK2 _ _ ?_
 refine wp_seq_k (fun K4 hK4 => ?_)
 refine wp_seq_k (fun K5 hK5 => ?_)
 refine wp_region_lit ?_
 refine q0 hf hM [18, 3, 0] [{}, {}, {}, {}] (env' := [(18, eB (decide (((l.length : Int) : Int) > 20))), (3, eP B1 0), (0, eS av l.length c)]) (ob := []) An ?_
 clear hf; intro a hf
 rcases Bool.eq_false_or_eq_true (decide (((l.length : Int) : Int) > 20)) with hg1r | hg1r
 · have hg1 := (nT hg1r)
   have hf := hf.prune [18, 3, 0]
   replace hf : Fr 106 [(18, eB (decide (((l.length : Int) : Int) > 20))), (3, eP B1 0), (0, eS av l.length c)] a := hf
   replace hf := hf.conv (env' := [(18, eB true), (3, eP B1 0), (0, eS av l.length c)]) (Ac (congrArg Value.bool hg1r) (Ac rfl (Ao rfl)))
   refine q0 hf hM [19, 18, 3, 0] [{ g := .off }] (env' := [(19, .val (undef)), (18, eB true), (3, eP B1 0), (0, eS av l.length c)]) (ob := [true = !false]) (Ao rfl) ?_
   clear hf; intro a hf
   refine q0 hf hM [24, 23, 3, 0] [{ g := .off }, { g := .off }, {}, {}, { g := .off }] (env' := [(24, .val (undef)), (23, eB true), (3, eP B1 0), (0, eS av l.length c)]) (ob := [true = !false, true = !false, true = !false]) (Ac rfl (Ac rfl (Ao rfl))) ?_
   clear hf; intro a hf
   refine q0 hf hM [27, 3, 0] [{ g := .off }, { g := .off }, {}] (env' := [(27, eB true), (3, eP B1 0), (0, eS av l.length c)]) (ob := [true = !false, true = !false]) (Ac rfl (Ao rfl)) ?_
   clear hf; intro a hf
   refine wpList_nil ?_
   refine hK5 _ _ ?_
   refine sxcond hf (b := true) (by kernel_rfl) (fun _ => ?_) (fun h => by cases h)
   refine wp_seq_k (fun K6 hK6 => ?_)
   refine wp_region_lit ?_
   refine q0 hf hM [4] [{}] (env' := [(4, eB true)]) (ob := []) An ?_
   clear hf; intro a hf
   refine wpList_nil ?_
   refine hK6 _ _ ?_
   refine wp_ret ?_
   refine qr (fn := Tryd.f11) hf hM [] (l := [bV true]) (ob := []) An ?_
   show (bV true : Value) = .bool true ∧ Keep Nn w w2
   refine ⟨congrArg Value.bool ?_, hk0⟩
   first | rfl | (simp; done) | (simp_all; done)
 · have hg1 := (nU hg1r)
   have hf := hf.prune [18, 3, 0]
   replace hf : Fr 106 [(18, eB (decide (((l.length : Int) : Int) > 20))), (3, eP B1 0), (0, eS av l.length c)] a := hf
   replace hf := hf.conv (env' := [(18, eB false), (3, eP B1 0), (0, eS av l.length c)]) (Ac (congrArg Value.bool hg1r) (Ac rfl (Ao rfl)))
   refine q0 hf hM [19, 18, 3, 0] [{}] (env' := [(19, eS av l.length c), (18, eB false), (3, eP B1 0), (0, eS av l.length c)]) (ob := [false = false]) (Ao rfl) ?_
   clear hf; intro a hf
   refine sxcallg hf rfl rfl rfl rfl rfl (g := 41) (vs := [.slice av l.length c]) (ob := []) (by as_aux_lemma => kernel_rfl) An enters41 (sright E av l c w2  (hav.keepNn hk0) (by first | omega | (simp; omega) | (simp; done) | exact Nat.le_trans (byKinds_len _ _) (by omega) | decide) (hG.keep hk0 (fun _ h => h))) ?_
   clear hf; rintro _ w3 a ⟨rfl, hk⟩ hf
   have hM := hM.keepNn hk
   have hk0 := hk0.trans hk.nn
   clear hk
   refine q0 hf hM [23, 3, 0] [{}, {}, {}] (env' := [(23, eB (!(rightV l))), (3, eP B1 0), (0, eS av l.length c)]) (ob := [false = false]) (Ao rfl) ?_
   clear hf; intro a hf
   have hf := hf.prune [23, 3, 0]
   replace hf : Fr 106 [(23, eB (!(rightV l))), (3, eP B1 0), (0, eS av l.length c)] a := hf
   replace hf := hf.conv (env' := [(23, eB false), (3, eP B1 0), (0, eS av l.length c)]) (Ac (congrArg Value.bool (by simp [hn0] : (!(rightV l) : Bool) = false)) (Ac rfl (Ao rfl)))
   refine q0 hf hM [24, 23, 3, 0] [{ os := [.ld 0 0, .ld 0 1, .ld 0 2] }] (env' := [(24, .val (.agg #[iV k, iV x, iV y])), (23, eB false), (3, eP B1 0), (0, eS av l.length c)]) (ob := [false = false, Ad B1 0, Ad B1 1, Ad B1 2]) (Ac rfl (Ac (ad _ _) (Ac (ad _ _) (Ao (ad _ _))))) ?_
   clear hf; intro a hf
   refine sxcallg hf rfl rfl rfl rfl rfl (g := 31) (vs := [.agg #[iV k, iV x, iV y]]) (ob := []) (by as_aux_lemma => kernel_rfl) An enters31 (scheck_ok E k x y w3 hn1 hn2 (hG.keep hk0 (fun _ h => h))) ?_
   clear hf; rintro _ w4 a ⟨rfl, hk⟩ hf
   have hM := hM.keepNn hk
   have hk0 := hk0.trans hk.nn
   clear hk
   refine q0 hf hM [27, 3, 0] [{}, {}] (env' := [(27, eB false), (3, eP B1 0), (0, eS av l.length c)]) (ob := [false = false]) (Ao rfl) ?_
   clear hf; intro a hf
   refine wpList_nil ?_
   refine hK5 _ _ ?_
   refine sxcond hf (b := false) (by kernel_rfl) (fun h => by cases h) (fun _ => ?_)
   refine wp_skip ?_
   refine hK4 _ _ ?_
   refine wp_seq_k (fun K7 hK7 => ?_)
   refine wp_region_lit ?_
   refine q0 hf hM [29, 28, 3, 0] [{}, { os := [.ld 0 0, .ld 0 1, .ld 0 2] }] (env' := [(29, .val (.agg #[iV k, iV x, iV y])), (28, eS av l.length c), (3, eP B1 0), (0, eS av l.length c)]) (ob := [Ad B1 0, Ad B1 1, Ad B1 2]) (Ac (ad _ _) (Ac (ad _ _) (Ao (ad _ _)))) ?_
   clear hf; intro a hf
   refine sxcall hf rfl rfl rfl rfl (g := 35) (vs := [.slice av l.length c, .agg #[iV k, iV x, iV y]]) (ob := []) (by as_aux_lemma => kernel_rfl) An enters35 (sput av l c k x y w4  (hav.keepNn hk0) (by first | omega | (simp; omega) | (simp; done) | exact Nat.le_trans (byKinds_len _ _) (by omega) | decide) (by first | omega | exact Nat.le_trans (byKinds_len _ _) (by omega)) (by assumption) (by assumption) (by assumption)) ?_
   clear hf; rintro _ w5 a ⟨a'1, c'1, rfl, hk, hx1⟩ hf
   have hO : OwnOk w.heap.size [⟨B1, 62, [iV k, iV x, iV y]⟩] [] w4 := OwnOk.nil hM
   have hO := hO.more hM hk (by have := hk0.size; omega) hx1
   replace hO : OwnOk w.heap.size [⟨B1, 62, [iV k, iV x, iV y]⟩] [⟨62, 3, .slice a'1 ((byKinds ((dropV l k) ++ ([⟨k, x, y⟩] : List V3)) 10).length) c'1, (byKinds ((dropV l k) ++ ([⟨k, x, y⟩] : List V3)) 10).length, flat fV (byKinds ((dropV l k) ++ ([⟨k, x, y⟩] : List V3)) 10)⟩] _ := hO
   have hM := hM.keepNn hk
   have hk0 := hk0.trans hk.nn
   clear hk
   refine q0 hf hM [5, 3, 0] [{}] (env' := [(5, eS a'1 ((byKinds ((dropV l k) ++ ([⟨k, x, y⟩] : List V3)) 10).length) c'1), (3, eP B1 0), (0, eS av l.length c)]) (ob := []) An ?_
   clear hf; intro a hf
   refine wpList_nil ?_
   refine hK7 _ _ ?_
   refine wp_seq_k (fun K8 hK8 => ?_)
   refine wp_region_lit ?_
   refine q0 hf hM [34, 32, 5, 3, 0] [{}, {}, { os := [.ld 0 0] }] (env' := [(34, eI k), (32, eS a'1 ((byKinds ((dropV l k) ++ ([⟨k, x, y⟩] : List V3)) 10).length) c'1), (5, eS a'1 ((byKinds ((dropV l k) ++ ([⟨k, x, y⟩] : List V3)) 10).length) c'1), (3, eP B1 0), (0, eS av l.length c)]) (ob := [Ad B1 0]) (Ao (ad _ _)) ?_
   clear hf; intro a hf
   refine sxcall hf rfl rfl rfl rfl (g := 42) (vs := [.slice a'1 ((byKinds ((dropV l k) ++ ([⟨k, x, y⟩] : List V3)) 10).length) c'1, iV k]) (ob := []) (by as_aux_lemma => kernel_rfl) An enters42 (sfind a'1 (byKinds ((dropV l k) ++ ([⟨k, x, y⟩] : List V3)) 10) c'1 k w5  (own_arr (hO.own _ (List.Mem.head _))) (by first | omega | (simp; omega) | (simp; done) | exact Nat.le_trans (byKinds_len _ _) (by omega) | decide)) ?_
   clear hf; rintro _ w6 a ⟨rfl, hk⟩ hf
   have hO := hO.keepNn hk
   have hM := hM.keepNn hk
   have hk0 := hk0.trans hk.nn
   clear hk
   refine q1 hf hM [7, 6, 5, 3, 0] [{}, {}, {}, { os := [.nw] }, { os := [.st 1 0, .st 1 1, .st 1 2] }, {}] (env' := fun B15 => [(7, eB (hasV (byKinds ((dropV l k) ++ ([⟨k, x, y⟩] : List V3)) 10) k)), (6, eP B15 0), (5, eS a'1 ((byKinds ((dropV l k) ++ ([⟨k, x, y⟩] : List V3)) 10).length) c'1), (3, eP B1 0), (0, eS av l.length c)]) (M' := fun B15 => [⟨B1, 62, [iV k, iV x, iV y]⟩, ⟨B15, 62, [iV ((findV (byKinds ((dropV l k) ++ ([⟨k, x, y⟩] : List V3)) 10) k).k), iV ((findV (byKinds ((dropV l k) ++ ([⟨k, x, y⟩] : List V3)) 10) k).a), iV ((findV (byKinds ((dropV l k) ++ ([⟨k, x, y⟩] : List V3)) 10) k).b)]⟩]) (ob := fun B15 => [Ad B15 0, Ad B15 1, Ad B15 2]) (fun B15 => (Ac (ad _ _) (Ac (ad _ _) (Ao (ad _ _))))) ?_
   clear hf hM; intro a w7 B15 hf hM hB hk
   have hbB15 : w.heap.size ≤ B15 := by have := hk0.size; omega
   have hk0 := hk0.then hk (by intro i hi h; simp only [Is, Mem.names, List.map_cons, List.map_nil, List.mem_cons, List.not_mem_nil, or_false] at h; omega)
   have hO := hO.step hM hk (by intro i h; simp only [Mem.names, List.map_cons, List.map_nil, List.mem_cons, List.not_mem_nil, or_false, List.map_append, List.cons_append, List.nil_append] at h ⊢; omega)
   clear hk hB
   refine wpList_nil ?_
   refine hK8 _ _ ?_
   refine wp_seq_k (fun K9 hK9 => ?_)
   refine wp_region_lit ?_
   refine q0 hf hM [40, 38, 7, 6, 5, 3, 0] [{}, {}, { os := [.ld 0 0] }] (env' := [(40, eI k), (38, eS a'1 ((byKinds ((dropV l k) ++ ([⟨k, x, y⟩] : List V3)) 10).length) c'1), (7, eB (hasV (byKinds ((dropV l k) ++ ([⟨k, x, y⟩] : List V3)) 10) k)), (6, eP B15 0), (5, eS a'1 ((byKinds ((dropV l k) ++ ([⟨k, x, y⟩] : List V3)) 10).length) c'1), (3, eP B1 0), (0, eS av l.length c)]) (ob := [Ad B1 0]) (Ao (ad _ _)) ?_
   clear hf; intro a hf
   refine sxcall hf rfl rfl rfl rfl (g := 36) (vs := [.slice a'1 ((byKinds ((dropV l k) ++ ([⟨k, x, y⟩] : List V3)) 10).length) c'1, iV k]) (ob := []) (by as_aux_lemma => kernel_rfl) An enters36 (sdrop a'1 (byKinds ((dropV l k) ++ ([⟨k, x, y⟩] : List V3)) 10) c'1 k w7  (own_arr (hO.own _ (List.Mem.head _))) (by first | omega | (simp; omega) | (simp; done) | exact Nat.le_trans (byKinds_len _ _) (by omega) | decide)) ?_
   clear hf; rintro _ w8 a ⟨a'2, c'2, rfl, hk, hx2⟩ hf
   have hO := hO.more hM hk (by have := hk0.size; omega) hx2
   replace hO : OwnOk w.heap.size [⟨B1, 62, [iV k, iV x, iV y]⟩, ⟨B15, 62, [iV ((findV (byKinds ((dropV l k) ++ ([⟨k, x, y⟩] : List V3)) 10) k).k), iV ((findV (byKinds ((dropV l k) ++ ([⟨k, x, y⟩] : List V3)) 10) k).a), iV ((findV (byKinds ((dropV l k) ++ ([⟨k, x, y⟩] : List V3)) 10) k).b)]⟩] [⟨62, 3, .slice a'2 ((dropV (byKinds ((dropV l k) ++ ([⟨k, x, y⟩] : List V3)) 10) k).length) c'2, (dropV (byKinds ((dropV l k) ++ ([⟨k, x, y⟩] : List V3)) 10) k).length, flat fV (dropV (byKinds ((dropV l k) ++ ([⟨k, x, y⟩] : List V3)) 10) k)⟩, ⟨62, 3, .slice a'1 ((byKinds ((dropV l k) ++ ([⟨k, x, y⟩] : List V3)) 10).length) c'1, (byKinds ((dropV l k) ++ ([⟨k, x, y⟩] : List V3)) 10).length, flat fV (byKinds ((dropV l k) ++ ([⟨k, x, y⟩] : List V3)) 10)⟩] _ := hO
   have hM := hM.keepNn hk
   have hk0 := hk0.trans hk.nn
   clear hk
   refine q0 hf hM [8, 7, 6, 5, 3, 0] [{}] (env' := [(8, eS a'2 ((dropV (byKinds ((dropV l k) ++ ([⟨k, x, y⟩] : List V3)) 10) k).length) c'2), (7, eB (hasV (byKinds ((dropV l k) ++ ([⟨k, x, y⟩] : List V3)) 10) k)), (6, eP B15 0), (5, eS a'1 ((byKinds ((dropV l k) ++ ([⟨k, x, y⟩] : List V3)) 10).length) c'1), (3, eP B1 0), (0, eS av l.length c)]) (ob := []) An ?_
   clear hf; intro a hf
   refine wpList_nil ?_
   refine hK9 _ _ ?_
   refine wp_seq_k (fun K10 hK10 => ?_)
   replace hM := hM.drew; replace hk0 := hk0.drew; replace hO := hO.drew
   obtain ⟨C1, hC1d⟩ : ∃ C : World → Prop, C = fun w' => MemOk [⟨B1, 62, [iV k, iV x, iV y]⟩, ⟨B15, 62, [iV ((findV (byKinds ((dropV l k) ++ ([⟨k, x, y⟩] : List V3)) 10) k).k), iV ((findV (byKinds ((dropV l k) ++ ([⟨k, x, y⟩] : List V3)) 10) k).a), iV ((findV (byKinds ((dropV l k) ++ ([⟨k, x, y⟩] : List V3)) 10) k).b)]⟩] w' ∧ Keep Nn w w' ∧ OwnOk w.heap.size [⟨B1, 62, [iV k, iV x, iV y]⟩, ⟨B15, 62, [iV ((findV (byKinds ((dropV l k) ++ ([⟨k, x, y⟩] : List V3)) 10) k).k), iV ((findV (byKinds ((dropV l k) ++ ([⟨k, x, y⟩] : List V3)) 10) k).a), iV ((findV (byKinds ((dropV l k) ++ ([⟨k, x, y⟩] : List V3)) 10) k).b)]⟩] [⟨62, 3, .slice a'2 ((dropV (byKinds ((dropV l k) ++ ([⟨k, x, y⟩] : List V3)) 10) k).length) c'2, (dropV (byKinds ((dropV l k) ++ ([⟨k, x, y⟩] : List V3)) 10) k).length, flat fV (dropV (byKinds ((dropV l k) ++ ([⟨k, x, y⟩] : List V3)) 10) k)⟩, ⟨62, 3, .slice a'1 ((byKinds ((dropV l k) ++ ([⟨k, x, y⟩] : List V3)) 10).length) c'1, (byKinds ((dropV l k) ++ ([⟨k, x, y⟩] : List V3)) 10).length, flat fV (byKinds ((dropV l k) ++ ([⟨k, x, y⟩] : List V3)) 10)⟩] w' := ⟨_, rfl⟩
   have hC1i : ∀ w', (MemOk [⟨B1, 62, [iV k, iV x, iV y]⟩, ⟨B15, 62, [iV ((findV (byKinds ((dropV l k) ++ ([⟨k, x, y⟩] : List V3)) 10) k).k), iV ((findV (byKinds ((dropV l k) ++ ([⟨k, x, y⟩] : List V3)) 10) k).a), iV ((findV (byKinds ((dropV l k) ++ ([⟨k, x, y⟩] : List V3)) 10) k).b)]⟩] w' ∧ Keep Nn w w' ∧ OwnOk w.heap.size [⟨B1, 62, [iV k, iV x, iV y]⟩, ⟨B15, 62, [iV ((findV (byKinds ((dropV l k) ++ ([⟨k, x, y⟩] : List V3)) 10) k).k), iV ((findV (byKinds ((dropV l k) ++ ([⟨k, x, y⟩] : List V3)) 10) k).a), iV ((findV (byKinds ((dropV l k) ++ ([⟨k, x, y⟩] : List V3)) 10) k).b)]⟩] [⟨62, 3, .slice a'2 ((dropV (byKinds ((dropV l k) ++ ([⟨k, x, y⟩] : List V3)) 10) k).length) c'2, (dropV (byKinds ((dropV l k) ++ ([⟨k, x, y⟩] : List V3)) 10) k).length, flat fV (dropV (byKinds ((dropV l k) ++ ([⟨k, x, y⟩] : List V3)) 10) k)⟩, ⟨62, 3, .slice a'1 ((byKinds ((dropV l k) ++ ([⟨k, x, y⟩] : List V3)) 10).length) c'1, (byKinds ((dropV l k) ++ ([⟨k, x, y⟩] : List V3)) 10).length, flat fV (byKinds ((dropV l k) ++ ([⟨k, x, y⟩] : List V3)) 10)⟩] w') → C1 w' := fun w' h => by rw [hC1d]; exact h
   have hC1e : ∀ w', C1 w' → (MemOk [⟨B1, 62, [iV k, iV x, iV y]⟩, ⟨B15, 62, [iV ((findV (byKinds ((dropV l k) ++ ([⟨k, x, y⟩] : List V3)) 10) k).k), iV ((findV (byKinds ((dropV l k) ++ ([⟨k, x, y⟩] : List V3)) 10) k).a), iV ((findV (byKinds ((dropV l k) ++ ([⟨k, x, y⟩] : List V3)) 10) k).b)]⟩] w' ∧ Keep Nn w w' ∧ OwnOk w.heap.size [⟨B1, 62, [iV k, iV x, iV y]⟩, ⟨B15, 62, [iV ((findV (byKinds ((dropV l k) ++ ([⟨k, x, y⟩] : List V3)) 10) k).k), iV ((findV (byKinds ((dropV l k) ++ ([⟨k, x, y⟩] : List V3)) 10) k).a), iV ((findV (byKinds ((dropV l k) ++ ([⟨k, x, y⟩] : List V3)) 10) k).b)]⟩] [⟨62, 3, .slice a'2 ((dropV (byKinds ((dropV l k) ++ ([⟨k, x, y⟩] : List V3)) 10) k).length) c'2, (dropV (byKinds ((dropV l k) ++ ([⟨k, x, y⟩] : List V3)) 10) k).length, flat fV (dropV (byKinds ((dropV l k) ++ ([⟨k, x, y⟩] : List V3)) 10) k)⟩, ⟨62, 3, .slice a'1 ((byKinds ((dropV l k) ++ ([⟨k, x, y⟩] : List V3)) 10).length) c'1, (byKinds ((dropV l k) ++ ([⟨k, x, y⟩] : List V3)) 10).length, flat fV (byKinds ((dropV l k) ++ ([⟨k, x, y⟩] : List V3)) 10)⟩] w') := fun w' h => by rw [hC1d] at h; exact h
   refine sxdraw (C := C1) (.alt [(0, true), (2, true), (3, true)] (.leaf [(1, false), (4, false), (5, false), (6, true), (7, true), (8, true), (9, true), (10, true)]) (.leaf [(4, false), (1, false), (5, false), (6, true), (7, true), (8, true), (9, true), (10, true)])) (by kernel_rfl) (by kernel_rfl) (by as_aux_lemma => kernel_rfl) rfl (by as_aux_lemma => kernel_rfl) (by kernel_rfl) (hC1i _ ⟨hM.sub (.cons_cons _ (.cons_cons _ .slnil)), hk0, hO.sub (.cons_cons _ (.cons_cons _ .slnil)) (.cons_cons _ (.cons_cons _ .slnil))⟩) ?_
   refine sxalts ?_
   have hC := (hC1i _ ⟨hM.sub (.cons_cons _ (.cons_cons _ .slnil)), hk0, hO.sub (.cons_cons _ (.cons_cons _ .slnil)) (.cons_cons _ (.cons_cons _ .slnil))⟩)
   refine qd hf hC (fun w' h => (hC1e w' h).1) [46, 43, 8, 7, 6, 5, 3, 0] [{}, {}, { os := [.ld 0 0] }] (env' := [(46, eI k), (43, eS av l.length c), (8, eS a'2 ((dropV (byKinds ((dropV l k) ++ ([⟨k, x, y⟩] : List V3)) 10) k).length) c'2), (7, eB (hasV (byKinds ((dropV l k) ++ ([⟨k, x, y⟩] : List V3)) 10) k)), (6, eP B15 0), (5, eS a'1 ((byKinds ((dropV l k) ++ ([⟨k, x, y⟩] : List V3)) 10).length) c'1), (3, eP B1 0), (0, eS av l.length c)]) (ob := [Ad B1 0]) (Ao (ad _ _)) ?_
   clear hf; intro a hf
   refine sxboth ?_ ?_
   ·
    refine sxleaf ?_
    have hC := (hC1i _ ⟨hM.sub (.cons_cons _ (.cons_cons _ .slnil)), hk0, hO.sub (.cons_cons _ (.cons_cons _ .slnil)) (.cons_cons _ (.cons_cons _ .slnil))⟩)
    refine scstep rfl ?_
    refine sxcall hf rfl rfl rfl rfl (g := 45) (vs := [.slice av l.length c]) (ob := []) (by as_aux_lemma => kernel_rfl) An enters45 (smask E av l c w8.drew  (hav.keepNn hk0) (by first | omega | (simp; omega) | (simp; done) | exact Nat.le_trans (byKinds_len _ _) (by omega) | decide) (by assumption) (hG.keep hk0 (fun _ h => h))) ?_
    clear hf; rintro _ w9 a ⟨rfl, hk⟩ hf
    have hO := hO.keepNn hk
    have hM := hM.keepNn hk
    have hk0 := hk0.trans hk.nn
    clear hk
    have hC := (hC1i _ ⟨hM.sub (.cons_cons _ (.cons_cons _ .slnil)), hk0, hO.sub (.cons_cons _ (.cons_cons _ .slnil)) (.cons_cons _ (.cons_cons _ .slnil))⟩)
    refine scdone hC ?_
    refine scstep rfl ?_
    refine sxbslice hf hM (t := 22) (e := 3) (len := 1) (cs := [iV k]) (ob := []) rfl rfl rfl rfl (by as_aux_lemma => kernel_rfl) An (by as_aux_lemma => kernel_rfl) ?_
    clear hf hM; intro a w10 B18 hf hM hB hk
    replace hM : MemOk [⟨B1, 62, [iV k, iV x, iV y]⟩, ⟨B15, 62, [iV ((findV (byKinds ((dropV l k) ++ ([⟨k, x, y⟩] : List V3)) 10) k).k), iV ((findV (byKinds ((dropV l k) ++ ([⟨k, x, y⟩] : List V3)) 10) k).a), iV ((findV (byKinds ((dropV l k) ++ ([⟨k, x, y⟩] : List V3)) 10) k).b)]⟩, ⟨B18, 3, [iV k]⟩] w10 := hM
    have hbB18 : w.heap.size ≤ B18 := by have := hk0.size; omega
    have hk0 := hk0.trans hk.nn
    have hO := hO.step hM hk.nn (by intro i h; simp only [Mem.names, List.map_cons, List.map_nil, List.mem_cons, List.not_mem_nil, or_false, List.map_append, List.cons_append, List.nil_append] at h ⊢; omega)
    clear hk hB
    have hC := (hC1i _ ⟨hM.sub (.cons_cons _ (.cons_cons _ (.cons _ .slnil))), hk0, hO.sub (.cons_cons _ (.cons_cons _ (.cons _ .slnil))) (.cons_cons _ (.cons_cons _ .slnil))⟩)
    refine scdone hC ?_
    refine scstep rfl ?_
    refine sxcall hf rfl rfl rfl rfl (g := 50) (vs := [uV (((maskN l) : Nat) : Int), .slice (some ⟨B18, 0, none⟩) 1 1]) (ob := []) (by as_aux_lemma => kernel_rfl) An enters50 (mwith_ok E (maskN l) (some ⟨B18, 0, none⟩) k 1 w10 hkd (by first | assumption | exact bitN_lt' (by assumption) | omega) (Arr.of_memT (sz := 1) (f := fI) (L := ([k] : List Int)) (l := ([k] : List Int)) hM (List.Mem.tail _ (List.Mem.tail _ (List.Mem.head _))) (fun _ => rfl) rfl rfl) (hG.keep hk0 (fun _ h => h))) ?_
    clear hf; rintro _ w11 a ⟨rfl, hk⟩ hf
    have hO := hO.keepNn hk
    have hM := hM.keepNn hk
    have hk0 := hk0.trans hk.nn
    clear hk
    have hC := (hC1i _ ⟨hM.sub (.cons_cons _ (.cons_cons _ (.cons _ .slnil))), hk0, hO.sub (.cons_cons _ (.cons_cons _ (.cons _ .slnil))) (.cons_cons _ (.cons_cons _ .slnil))⟩)
    refine scdone hC ?_
    refine qd hf hC (fun w' h => (hC1e w' h).1) [10, 9, 8, 7, 6, 5, 3, 0] [{}, {}, {}, {}, {}] (env' := [(10, .val (.nilIface)), (9, eU ((((maskN l) ||| bitN k) : Nat) : Int)), (8, eS a'2 ((dropV (byKinds ((dropV l k) ++ ([⟨k, x, y⟩] : List V3)) 10) k).length) c'2), (7, eB (hasV (byKinds ((dropV l k) ++ ([⟨k, x, y⟩] : List V3)) 10) k)), (6, eP B15 0), (5, eS a'1 ((byKinds ((dropV l k) ++ ([⟨k, x, y⟩] : List V3)) 10).length) c'1), (3, eP B1 0), (0, eS av l.length c)]) (ob := []) An ?_
    clear hf; intro a hf
    clear hC
    show K10 _ _
    refine hK10 _ _ ?_
    refine wp_seq_k (fun K11 hK11 => ?_)
    replace hM := hM.drew; replace hk0 := hk0.drew; replace hO := hO.drew
    obtain ⟨C2, hC2d⟩ : ∃ C : World → Prop, C = fun w' => MemOk [⟨B1, 62, [iV k, iV x, iV y]⟩, ⟨B15, 62, [iV ((findV (byKinds ((dropV l k) ++ ([⟨k, x, y⟩] : List V3)) 10) k).k), iV ((findV (byKinds ((dropV l k) ++ ([⟨k, x, y⟩] : List V3)) 10) k).a), iV ((findV (byKinds ((dropV l k) ++ ([⟨k, x, y⟩] : List V3)) 10) k).b)]⟩, ⟨B18, 3, [iV k]⟩] w' ∧ Keep Nn w w' ∧ OwnOk w.heap.size [⟨B1, 62, [iV k, iV x, iV y]⟩, ⟨B15, 62, [iV ((findV (byKinds ((dropV l k) ++ ([⟨k, x, y⟩] : List V3)) 10) k).k), iV ((findV (byKinds ((dropV l k) ++ ([⟨k, x, y⟩] : List V3)) 10) k).a), iV ((findV (byKinds ((dropV l k) ++ ([⟨k, x, y⟩] : List V3)) 10) k).b)]⟩, ⟨B18, 3, [iV k]⟩] [⟨62, 3, .slice a'2 ((dropV (byKinds ((dropV l k) ++ ([⟨k, x, y⟩] : List V3)) 10) k).length) c'2, (dropV (byKinds ((dropV l k) ++ ([⟨k, x, y⟩] : List V3)) 10) k).length, flat fV (dropV (byKinds ((dropV l k) ++ ([⟨k, x, y⟩] : List V3)) 10) k)⟩, ⟨62, 3, .slice a'1 ((byKinds ((dropV l k) ++ ([⟨k, x, y⟩] : List V3)) 10).length) c'1, (byKinds ((dropV l k) ++ ([⟨k, x, y⟩] : List V3)) 10).length, flat fV (byKinds ((dropV l k) ++ ([⟨k, x, y⟩] : List V3)) 10)⟩] w' := ⟨_, rfl⟩
    have hC2i : ∀ w', (MemOk [⟨B1, 62, [iV k, iV x, iV y]⟩, ⟨B15, 62, [iV ((findV (byKinds ((dropV l k) ++ ([⟨k, x, y⟩] : List V3)) 10) k).k), iV ((findV (byKinds ((dropV l k) ++ ([⟨k, x, y⟩] : List V3)) 10) k).a), iV ((findV (byKinds ((dropV l k) ++ ([⟨k, x, y⟩] : List V3)) 10) k).b)]⟩, ⟨B18, 3, [iV k]⟩] w' ∧ Keep Nn w w' ∧ OwnOk w.heap.size [⟨B1, 62, [iV k, iV x, iV y]⟩, ⟨B15, 62, [iV ((findV (byKinds ((dropV l k) ++ ([⟨k, x, y⟩] : List V3)) 10) k).k), iV ((findV (byKinds ((dropV l k) ++ ([⟨k, x, y⟩] : List V3)) 10) k).a), iV ((findV (byKinds ((dropV l k) ++ ([⟨k, x, y⟩] : List V3)) 10) k).b)]⟩, ⟨B18, 3, [iV k]⟩] [⟨62, 3, .slice a'2 ((dropV (byKinds ((dropV l k) ++ ([⟨k, x, y⟩] : List V3)) 10) k).length) c'2, (dropV (byKinds ((dropV l k) ++ ([⟨k, x, y⟩] : List V3)) 10) k).length, flat fV (dropV (byKinds ((dropV l k) ++ ([⟨k, x, y⟩] : List V3)) 10) k)⟩, ⟨62, 3, .slice a'1 ((byKinds ((dropV l k) ++ ([⟨k, x, y⟩] : List V3)) 10).length) c'1, (byKinds ((dropV l k) ++ ([⟨k, x, y⟩] : List V3)) 10).length, flat fV (byKinds ((dropV l k) ++ ([⟨k, x, y⟩] : List V3)) 10)⟩] w') → C2 w' := fun w' h => by rw [hC2d]; exact h
    have hC2e : ∀ w', C2 w' → (MemOk [⟨B1, 62, [iV k, iV x, iV y]⟩, ⟨B15, 62, [iV ((findV (byKinds ((dropV l k) ++ ([⟨k, x, y⟩] : List V3)) 10) k).k), iV ((findV (byKinds ((dropV l k) ++ ([⟨k, x, y⟩] : List V3)) 10) k).a), iV ((findV (byKinds ((dropV l k) ++ ([⟨k, x, y⟩] : List V3)) 10) k).b)]⟩, ⟨B18, 3, [iV k]⟩] w' ∧ Keep Nn w w' ∧ OwnOk w.heap.size [⟨B1, 62, [iV k, iV x, iV y]⟩, ⟨B15, 62, [iV ((findV (byKinds ((dropV l k) ++ ([⟨k, x, y⟩] : List V3)) 10) k).k), iV ((findV (byKinds ((dropV l k) ++ ([⟨k, x, y⟩] : List V3)) 10) k).a), iV ((findV (byKinds ((dropV l k) ++ ([⟨k, x, y⟩] : List V3)) 10) k).b)]⟩, ⟨B18, 3, [iV k]⟩] [⟨62, 3, .slice a'2 ((dropV (byKinds ((dropV l k) ++ ([⟨k, x, y⟩] : List V3)) 10) k).length) c'2, (dropV (byKinds ((dropV l k) ++ ([⟨k, x, y⟩] : List V3)) 10) k).length, flat fV (dropV (byKinds ((dropV l k) ++ ([⟨k, x, y⟩] : List V3)) 10) k)⟩, ⟨62, 3, .slice a'1 ((byKinds ((dropV l k) ++ ([⟨k, x, y⟩] : List V3)) 10).length) c'1, (byKinds ((dropV l k) ++ ([⟨k, x, y⟩] : List V3)) 10).length, flat fV (byKinds ((dropV l k) ++ ([⟨k, x, y⟩] : List V3)) 10)⟩] w') := fun w' h => by rw [hC2d] at h; exact h
    refine sxdraw (C := C2) (.alt [(0, true), (2, true), (3, true)] (.leaf [(1, false), (4, false), (5, false), (6, true), (7, true), (8, true), (9, true), (10, true)]) (.leaf [(4, false), (1, false), (5, false), (6, true), (7, true), (8, true), (9, true), (10, true)])) (by kernel_rfl) (by kernel_rfl) (by as_aux_lemma => kernel_rfl) rfl (by as_aux_lemma => kernel_rfl) (by kernel_rfl) (hC2i _ ⟨hM.sub (.cons_cons _ (.cons_cons _ (.cons_cons _ .slnil))), hk0, hO.sub (.cons_cons _ (.cons_cons _ (.cons_cons _ .slnil))) (.cons_cons _ (.cons_cons _ .slnil))⟩) ?_
    refine sxalts ?_
    have hC := (hC2i _ ⟨hM.sub (.cons_cons _ (.cons_cons _ (.cons_cons _ .slnil))), hk0, hO.sub (.cons_cons _ (.cons_cons _ (.cons_cons _ .slnil))) (.cons_cons _ (.cons_cons _ .slnil))⟩)
    refine qd hf hC (fun w' h => (hC2e w' h).1) [55, 52, 10, 9, 8, 7, 6, 5, 3, 0] [{}, {}, { os := [.ld 0 0] }] (env' := [(55, eI k), (52, eS av l.length c), (10, .val (.nilIface)), (9, eU ((((maskN l) ||| bitN k) : Nat) : Int)), (8, eS a'2 ((dropV (byKinds ((dropV l k) ++ ([⟨k, x, y⟩] : List V3)) 10) k).length) c'2), (7, eB (hasV (byKinds ((dropV l k) ++ ([⟨k, x, y⟩] : List V3)) 10) k)), (6, eP B15 0), (5, eS a'1 ((byKinds ((dropV l k) ++ ([⟨k, x, y⟩] : List V3)) 10).length) c'1), (3, eP B1 0), (0, eS av l.length c)]) (ob := [Ad B1 0]) (Ao (ad _ _)) ?_
    clear hf; intro a hf
    refine sxboth ?_ ?_
    ·
     refine sxleaf ?_
     have hC := (hC2i _ ⟨hM.sub (.cons_cons _ (.cons_cons _ (.cons_cons _ .slnil))), hk0, hO.sub (.cons_cons _ (.cons_cons _ (.cons_cons _ .slnil))) (.cons_cons _ (.cons_cons _ .slnil))⟩)
     refine scstep rfl ?_
     refine sxcall hf rfl rfl rfl rfl (g := 45) (vs := [.slice av l.length c]) (ob := []) (by as_aux_lemma => kernel_rfl) An enters45 (smask E av l c w11.drew  (hav.keepNn hk0) (by first | omega | (simp; omega) | (simp; done) | exact Nat.le_trans (byKinds_len _ _) (by omega) | decide) (by assumption) (hG.keep hk0 (fun _ h => h))) ?_
     clear hf; rintro _ w12 a ⟨rfl, hk⟩ hf
     have hO := hO.keepNn hk
     have hM := hM.keepNn hk
     have hk0 := hk0.trans hk.nn
     clear hk
     have hC := (hC2i _ ⟨hM.sub (.cons_cons _ (.cons_cons _ (.cons_cons _ .slnil))), hk0, hO.sub (.cons_cons _ (.cons_cons _ (.cons_cons _ .slnil))) (.cons_cons _ (.cons_cons _ .slnil))⟩)
     refine scdone hC ?_
     refine scstep rfl ?_
     refine sxbslice hf hM (t := 22) (e := 3) (len := 1) (cs := [iV k]) (ob := []) rfl rfl rfl rfl (by as_aux_lemma => kernel_rfl) An (by as_aux_lemma => kernel_rfl) ?_
     clear hf hM; intro a w13 B19 hf hM hB hk
     replace hM : MemOk [⟨B1, 62, [iV k, iV x, iV y]⟩, ⟨B15, 62, [iV ((findV (byKinds ((dropV l k) ++ ([⟨k, x, y⟩] : List V3)) 10) k).k), iV ((findV (byKinds ((dropV l k) ++ ([⟨k, x, y⟩] : List V3)) 10) k).a), iV ((findV (byKinds ((dropV l k) ++ ([⟨k, x, y⟩] : List V3)) 10) k).b)]⟩, ⟨B18, 3, [iV k]⟩, ⟨B19, 3, [iV k]⟩] w13 := hM
     have hbB19 : w.heap.size ≤ B19 := by have := hk0.size; omega
     have hk0 := hk0.trans hk.nn
     have hO := hO.step hM hk.nn (by intro i h; simp only [Mem.names, List.map_cons, List.map_nil, List.mem_cons, List.not_mem_nil, or_false, List.map_append, List.cons_append, List.nil_append] at h ⊢; omega)
     clear hk hB
     have hC := (hC2i _ ⟨hM.sub (.cons_cons _ (.cons_cons _ (.cons_cons _ (.cons _ .slnil)))), hk0, hO.sub (.cons_cons _ (.cons_cons _ (.cons_cons _ (.cons _ .slnil)))) (.cons_cons _ (.cons_cons _ .slnil))⟩)
     refine scdone hC ?_
     refine scstep rfl ?_
     refine sxcall hf rfl rfl rfl rfl (g := 51) (vs := [uV (((maskN l) : Nat) : Int), .slice (some ⟨B19, 0, none⟩) 1 1]) (ob := []) (by as_aux_lemma => kernel_rfl) An enters51 (mless_ok E (maskN l) (some ⟨B19, 0, none⟩) k 1 w13 hkd (by first | assumption | exact bitN_lt' (by assumption) | omega) (Arr.of_memT (sz := 1) (f := fI) (L := ([k] : List Int)) (l := ([k] : List Int)) hM (List.Mem.tail _ (List.Mem.tail _ (List.Mem.tail _ (List.Mem.head _)))) (fun _ => rfl) rfl rfl) (hG.keep hk0 (fun _ h => h))) ?_
     clear hf; rintro _ w14 a ⟨rfl, hk⟩ hf
     have hO := hO.keepNn hk
     have hM := hM.keepNn hk
     have hk0 := hk0.trans hk.nn
     clear hk
     have hC := (hC2i _ ⟨hM.sub (.cons_cons _ (.cons_cons _ (.cons_cons _ (.cons _ .slnil)))), hk0, hO.sub (.cons_cons _ (.cons_cons _ (.cons_cons _ (.cons _ .slnil)))) (.cons_cons _ (.cons_cons _ .slnil))⟩)
     refine scdone hC ?_
     refine qd hf hC (fun w' h => (hC2e w' h).1) [12, 11, 10, 9, 8, 7, 6, 5, 3, 0] [{}, {}, {}, {}, {}] (env' := [(12, .val (.nilIface)), (11, eU (((lessN (maskN l) (bitN k)) : Nat) : Int)), (10, .val (.nilIface)), (9, eU ((((maskN l) ||| bitN k) : Nat) : Int)), (8, eS a'2 ((dropV (byKinds ((dropV l k) ++ ([⟨k, x, y⟩] : List V3)) 10) k).length) c'2), (7, eB (hasV (byKinds ((dropV l k) ++ ([⟨k, x, y⟩] : List V3)) 10) k)), (6, eP B15 0), (5, eS a'1 ((byKinds ((dropV l k) ++ ([⟨k, x, y⟩] : List V3)) 10).length) c'1), (3, eP B1 0), (0, eS av l.length c)]) (ob := []) An ?_
     clear hf; intro a hf
     clear hC
     show K11 _ _
     refine hK11 _ _ ?_
     refine wp_seq_k (fun K12 hK12 => ?_)
     refine wp_region_lit ?_
     refine q0 hf hM [61, 12, 11, 10, 9, 8, 6, 5, 3, 0] [{}, {}] (env' := [(61, eB (hasV (byKinds ((dropV l k) ++ ([⟨k, x, y⟩] : List V3)) 10) k)), (12, .val (.nilIface)), (11, eU (((lessN (maskN l) (bitN k)) : Nat) : Int)), (10, .val (.nilIface)), (9, eU ((((maskN l) ||| bitN k) : Nat) : Int)), (8, eS a'2 ((dropV (byKinds ((dropV l k) ++ ([⟨k, x, y⟩] : List V3)) 10) k).length) c'2), (6, eP B15 0), (5, eS a'1 ((byKinds ((dropV l k) ++ ([⟨k, x, y⟩] : List V3)) 10).length) c'1), (3, eP B1 0), (0, eS av l.length c)]) (ob := []) An ?_
     clear hf; intro a hf
     have hf := hf.prune [61, 12, 11, 10, 9, 8, 6, 5, 3, 0]
     replace hf : Fr 106 [(61, eB (hasV (byKinds ((dropV l k) ++ ([⟨k, x, y⟩] : List V3)) 10) k)), (12, .val (.nilIface)), (11, eU (((lessN (maskN l) (bitN k)) : Nat) : Int)), (10, .val (.nilIface)), (9, eU ((((maskN l) ||| bitN k) : Nat) : Int)), (8, eS a'2 ((dropV (byKinds ((dropV l k) ++ ([⟨k, x, y⟩] : List V3)) 10) k).length) c'2), (6, eP B15 0), (5, eS a'1 ((byKinds ((dropV l k) ++ ([⟨k, x, y⟩] : List V3)) 10).length) c'1), (3, eP B1 0), (0, eS av l.length c)] a := hf
     replace hf := hf.conv (env' := [(61, eB true), (12, .val (.nilIface)), (11, eU (((lessN (maskN l) (bitN k)) : Nat) : Int)), (10, .val (.nilIface)), (9, eU ((((maskN l) ||| bitN k) : Nat) : Int)), (8, eS a'2 ((dropV (byKinds ((dropV l k) ++ ([⟨k, x, y⟩] : List V3)) 10) k).length) c'2), (6, eP B15 0), (5, eS a'1 ((byKinds ((dropV l k) ++ ([⟨k, x, y⟩] : List V3)) 10).length) c'1), (3, eP B1 0), (0, eS av l.length c)]) (Ac (congrArg Value.bool hhv) (Ac rfl (Ac rfl (Ac rfl (Ac rfl (Ac rfl (Ac rfl (Ac rfl (Ac rfl (Ao rfl))))))))))
     refine q0 hf hM [75, 74, 11, 9, 8, 5, 3, 0] [{ os := [.ld 1 0, .ld 1 1, .ld 1 2] }, { os := [.ld 0 0, .ld 0 1, .ld 0 2] }, { sp := true, hint := some (bV true) }, {}, {}, {}, {}, {}, {}, {}, {}, {}, {}, {}] (env' := [(75, eS a'1 ((byKinds ((dropV l k) ++ ([⟨k, x, y⟩] : List V3)) 10).length) c'1), (74, eB true), (11, eU (((lessN (maskN l) (bitN k)) : Nat) : Int)), (9, eU ((((maskN l) ||| bitN k) : Nat) : Int)), (8, eS a'2 ((dropV (byKinds ((dropV l k) ++ ([⟨k, x, y⟩] : List V3)) 10) k).length) c'2), (5, eS a'1 ((byKinds ((dropV l k) ++ ([⟨k, x, y⟩] : List V3)) 10).length) c'1), (3, eP B1 0), (0, eS av l.length c)]) (ob := [true = true, Ad B15 0, Ad B15 1, Ad B15 2, true = true, Ad B1 0, Ad B1 1, Ad B1 2, true = true, (bV (((((findV (byKinds ((dropV l k) ++ ([⟨k, x, y⟩] : List V3)) 10) k).k) : Int) == k) && (((((findV (byKinds ((dropV l k) ++ ([⟨k, x, y⟩] : List V3)) 10) k).a) : Int) == x) && (((((findV (byKinds ((dropV l k) ++ ([⟨k, x, y⟩] : List V3)) 10) k).b) : Int) == y) && true))) : Value) = (bV true : Value), true = true, true = true, true = true, true = true, true = true]) (Ac rfl (Ac (ad _ _) (Ac (ad _ _) (Ac (ad _ _) (Ac rfl (Ac (ad _ _) (Ac (ad _ _) (Ac (ad _ _) (Ac rfl (Ac (Eq.trans (show (bV (((((findV (byKinds ((dropV l k) ++ ([⟨k, x, y⟩] : List V3)) 10) k).k) : Int) == k) && (((((findV (byKinds ((dropV l k) ++ ([⟨k, x, y⟩] : List V3)) 10) k).a) : Int) == x) && (((((findV (byKinds ((dropV l k) ++ ([⟨k, x, y⟩] : List V3)) 10) k).b) : Int) == y) && true))) : Value) = (bV (((((findV (byKinds ((dropV l k) ++ ([⟨k, x, y⟩] : List V3)) 10) k).k) : Int) == k) && (((((findV (byKinds ((dropV l k) ++ ([⟨k, x, y⟩] : List V3)) 10) k).a) : Int) == x) && ((((findV (byKinds ((dropV l k) ++ ([⟨k, x, y⟩] : List V3)) 10) k).b) : Int) == y))) : Value) from (by simp)) (by rw [hfv]; simp)) (Ac rfl (Ac rfl (Ac rfl (Ac rfl (Ao rfl))))))))))))))) ?_
     clear hf; intro a hf
     refine sxcallg hf rfl rfl rfl rfl rfl (g := 41) (vs := [.slice a'1 ((byKinds ((dropV l k) ++ ([⟨k, x, y⟩] : List V3)) 10).length) c'1]) (ob := []) (by as_aux_lemma => kernel_rfl) An enters41 (sright E a'1 (byKinds ((dropV l k) ++ ([⟨k, x, y⟩] : List V3)) 10) c'1 w14  (own_arr (hO.own _ (List.Mem.tail _ (List.Mem.head _)))) (by first | omega | (simp; omega) | (simp; done) | exact Nat.le_trans (byKinds_len _ _) (by omega) | decide) (hG.keep hk0 (fun _ h => h))) ?_
     clear hf; rintro _ w15 a ⟨rfl, hk⟩ hf
     have hO := hO.keepNn hk
     have hM := hM.keepNn hk
     have hk0 := hk0.trans hk.nn
     clear hk
     refine q0 hf hM [78, 11, 9, 8, 5, 3, 0] [{}, {}] (env' := [(78, eB (rightV (byKinds ((dropV l k) ++ ([⟨k, x, y⟩] : List V3)) 10))), (11, eU (((lessN (maskN l) (bitN k)) : Nat) : Int)), (9, eU ((((maskN l) ||| bitN k) : Nat) : Int)), (8, eS a'2 ((dropV (byKinds ((dropV l k) ++ ([⟨k, x, y⟩] : List V3)) 10) k).length) c'2), (5, eS a'1 ((byKinds ((dropV l k) ++ ([⟨k, x, y⟩] : List V3)) 10).length) c'1), (3, eP B1 0), (0, eS av l.length c)]) (ob := []) An ?_
     clear hf; intro a hf
     have hf := hf.prune [78, 11, 9, 8, 5, 3, 0]
     replace hf : Fr 106 [(78, eB (rightV (byKinds ((dropV l k) ++ ([⟨k, x, y⟩] : List V3)) 10))), (11, eU (((lessN (maskN l) (bitN k)) : Nat) : Int)), (9, eU ((((maskN l) ||| bitN k) : Nat) : Int)), (8, eS a'2 ((dropV (byKinds ((dropV l k) ++ ([⟨k, x, y⟩] : List V3)) 10) k).length) c'2), (5, eS a'1 ((byKinds ((dropV l k) ++ ([⟨k, x, y⟩] : List V3)) 10).length) c'1), (3, eP B1 0), (0, eS av l.length c)] a := hf
     replace hf := hf.conv (env' := [(78, eB true), (11, eU (((lessN (maskN l) (bitN k)) : Nat) : Int)), (9, eU ((((maskN l) ||| bitN k) : Nat) : Int)), (8, eS a'2 ((dropV (byKinds ((dropV l k) ++ ([⟨k, x, y⟩] : List V3)) 10) k).length) c'2), (5, eS a'1 ((byKinds ((dropV l k) ++ ([⟨k, x, y⟩] : List V3)) 10).length) c'1), (3, eP B1 0), (0, eS av l.length c)]) (Ac (congrArg Value.bool hrp) (Ac rfl (Ac rfl (Ac rfl (Ac rfl (Ac rfl (Ao rfl)))))))
     refine q0 hf hM [79, 78, 11, 9, 8, 5, 3, 0] [{}] (env' := [(79, eS a'2 ((dropV (byKinds ((dropV l k) ++ ([⟨k, x, y⟩] : List V3)) 10) k).length) c'2), (78, eB true), (11, eU (((lessN (maskN l) (bitN k)) : Nat) : Int)), (9, eU ((((maskN l) ||| bitN k) : Nat) : Int)), (8, eS a'2 ((dropV (byKinds ((dropV l k) ++ ([⟨k, x, y⟩] : List V3)) 10) k).length) c'2), (5, eS a'1 ((byKinds ((dropV l k) ++ ([⟨k, x, y⟩] : List V3)) 10).length) c'1), (3, eP B1 0), (0, eS av l.length c)]) (ob := [true = true]) (Ao rfl) ?_
     clear hf; intro a hf
     refine sxcallg hf rfl rfl rfl rfl rfl (g := 41) (vs := [.slice a'2 ((dropV (byKinds ((dropV l k) ++ ([⟨k, x, y⟩] : List V3)) 10) k).length) c'2]) (ob := []) (by as_aux_lemma => kernel_rfl) An enters41 (sright E a'2 (dropV (byKinds ((dropV l k) ++ ([⟨k, x, y⟩] : List V3)) 10) k) c'2 w15  (own_arr (hO.own _ (List.Mem.head _))) (by first | omega | (simp; omega) | (simp; done) | exact Nat.le_trans (byKinds_len _ _) (by omega) | decide) (hG.keep hk0 (fun _ h => h))) ?_
     clear hf; rintro _ w16 a ⟨rfl, hk⟩ hf
     have hO := hO.keepNn hk
     have hM := hM.keepNn hk
     have hk0 := hk0.trans hk.nn
     clear hk
     refine q0 hf hM [82, 11, 9, 8, 5, 3, 0] [{}, {}] (env' := [(82, eB (rightV (dropV (byKinds ((dropV l k) ++ ([⟨k, x, y⟩] : List V3)) 10) k))), (11, eU (((lessN (maskN l) (bitN k)) : Nat) : Int)), (9, eU ((((maskN l) ||| bitN k) : Nat) : Int)), (8, eS a'2 ((dropV (byKinds ((dropV l k) ++ ([⟨k, x, y⟩] : List V3)) 10) k).length) c'2), (5, eS a'1 ((byKinds ((dropV l k) ++ ([⟨k, x, y⟩] : List V3)) 10).length) c'1), (3, eP B1 0), (0, eS av l.length c)]) (ob := []) An ?_
     clear hf; intro a hf
     have hf := hf.prune [82, 11, 9, 8, 5, 3, 0]
     replace hf : Fr 106 [(82, eB (rightV (dropV (byKinds ((dropV l k) ++ ([⟨k, x, y⟩] : List V3)) 10) k))), (11, eU (((lessN (maskN l) (bitN k)) : Nat) : Int)), (9, eU ((((maskN l) ||| bitN k) : Nat) : Int)), (8, eS a'2 ((dropV (byKinds ((dropV l k) ++ ([⟨k, x, y⟩] : List V3)) 10) k).length) c'2), (5, eS a'1 ((byKinds ((dropV l k) ++ ([⟨k, x, y⟩] : List V3)) 10).length) c'1), (3, eP B1 0), (0, eS av l.length c)] a := hf
     replace hf := hf.conv (env' := [(82, eB true), (11, eU (((lessN (maskN l) (bitN k)) : Nat) : Int)), (9, eU ((((maskN l) ||| bitN k) : Nat) : Int)), (8, eS a'2 ((dropV (byKinds ((dropV l k) ++ ([⟨k, x, y⟩] : List V3)) 10) k).length) c'2), (5, eS a'1 ((byKinds ((dropV l k) ++ ([⟨k, x, y⟩] : List V3)) 10).length) c'1), (3, eP B1 0), (0, eS av l.length c)]) (Ac (congrArg Value.bool hrg) (Ac rfl (Ac rfl (Ac rfl (Ac rfl (Ac rfl (Ao rfl)))))))
     refine q0 hf hM [83, 82, 11, 9, 8, 3, 0] [{}] (env' := [(83, eS a'1 ((byKinds ((dropV l k) ++ ([⟨k, x, y⟩] : List V3)) 10).length) c'1), (82, eB true), (11, eU (((lessN (maskN l) (bitN k)) : Nat) : Int)), (9, eU ((((maskN l) ||| bitN k) : Nat) : Int)), (8, eS a'2 ((dropV (byKinds ((dropV l k) ++ ([⟨k, x, y⟩] : List V3)) 10) k).length) c'2), (3, eP B1 0), (0, eS av l.length c)]) (ob := [true = true]) (Ao rfl) ?_
     clear hf; intro a hf
     refine sxcallg hf rfl rfl rfl rfl rfl (g := 45) (vs := [.slice a'1 ((byKinds ((dropV l k) ++ ([⟨k, x, y⟩] : List V3)) 10).length) c'1]) (ob := []) (by as_aux_lemma => kernel_rfl) An enters45 (smask E a'1 (byKinds ((dropV l k) ++ ([⟨k, x, y⟩] : List V3)) 10) c'1 w16  (own_arr (hO.own _ (List.Mem.tail _ (List.Mem.head _)))) (by first | omega | (simp; omega) | (simp; done) | exact Nat.le_trans (byKinds_len _ _) (by omega) | decide) (by assumption) (hG.keep hk0 (fun _ h => h))) ?_
     clear hf; rintro _ w17 a ⟨rfl, hk⟩ hf
     have hO := hO.keepNn hk
     have hM := hM.keepNn hk
     have hk0 := hk0.trans hk.nn
     clear hk
     refine q0 hf hM [89, 88, 11, 9, 8, 3, 0] [{}, { hint := some (bV true) }, {}, {}, {}] (env' := [(89, eS a'2 ((dropV (byKinds ((dropV l k) ++ ([⟨k, x, y⟩] : List V3)) 10) k).length) c'2), (88, eB true), (11, eU (((lessN (maskN l) (bitN k)) : Nat) : Int)), (9, eU ((((maskN l) ||| bitN k) : Nat) : Int)), (8, eS a'2 ((dropV (byKinds ((dropV l k) ++ ([⟨k, x, y⟩] : List V3)) 10) k).length) c'2), (3, eP B1 0), (0, eS av l.length c)]) (ob := [true = true, true = true, (bV (((((maskN (byKinds ((dropV l k) ++ ([⟨k, x, y⟩] : List V3)) 10)) : Nat) : Int) : Int) == ((((maskN l) ||| bitN k) : Nat) : Int)) : Value) = (bV true : Value), true = true]) (Ac rfl (Ac rfl (Ac (by rw [hmp]; simp) (Ao rfl)))) ?_
     clear hf; intro a hf
     refine sxcallg hf rfl rfl rfl rfl rfl (g := 45) (vs := [.slice a'2 ((dropV (byKinds ((dropV l k) ++ ([⟨k, x, y⟩] : List V3)) 10) k).length) c'2]) (ob := []) (by as_aux_lemma => kernel_rfl) An enters45 (smask E a'2 (dropV (byKinds ((dropV l k) ++ ([⟨k, x, y⟩] : List V3)) 10) k) c'2 w17  (own_arr (hO.own _ (List.Mem.head _))) (by first | omega | (simp; omega) | (simp; done) | exact Nat.le_trans (byKinds_len _ _) (by omega) | decide) (by assumption) (hG.keep hk0 (fun _ h => h))) ?_
     clear hf; rintro _ w18 a ⟨rfl, hk⟩ hf
     have hO := hO.keepNn hk
     have hM := hM.keepNn hk
     have hk0 := hk0.trans hk.nn
     clear hk
     refine q0 hf hM [98, 96, 95, 94, 9] [{}, { hint := some (bV true) }, {}, {}, {}, {}, {}, { os := [.ld 0 0] }] (env' := [(98, eI k), (96, eS av l.length c), (95, eS a'2 ((dropV (byKinds ((dropV l k) ++ ([⟨k, x, y⟩] : List V3)) 10) k).length) c'2), (94, eB true), (9, eU ((((maskN l) ||| bitN k) : Nat) : Int))]) (ob := [true = true, true = true, (bV (((((maskN (dropV (byKinds ((dropV l k) ++ ([⟨k, x, y⟩] : List V3)) 10) k)) : Nat) : Int) : Int) == (((lessN (maskN l) (bitN k)) : Nat) : Int)) : Value) = (bV true : Value), true = true, true = true, true = true, true = true, Ad B1 0]) (Ac rfl (Ac rfl (Ac (by rw [hmg]; simp) (Ac rfl (Ac rfl (Ac rfl (Ac rfl (Ao (ad _ _))))))))) ?_
     clear hf; intro a hf
     refine sxcallg hf rfl rfl rfl rfl rfl (g := 36) (vs := [.slice av l.length c, iV k]) (ob := []) (by as_aux_lemma => kernel_rfl) An enters36 (sdrop av l c k w18  (hav.keepNn hk0) (by first | omega | (simp; omega) | (simp; done) | exact Nat.le_trans (byKinds_len _ _) (by omega) | decide)) ?_
     clear hf; rintro _ w19 a ⟨a'3, c'3, rfl, hk, hx3⟩ hf
     have hO := hO.more hM hk (by have := hk0.size; omega) hx3
     replace hO : OwnOk w.heap.size [⟨B1, 62, [iV k, iV x, iV y]⟩, ⟨B15, 62, [iV ((findV (byKinds ((dropV l k) ++ ([⟨k, x, y⟩] : List V3)) 10) k).k), iV ((findV (byKinds ((dropV l k) ++ ([⟨k, x, y⟩] : List V3)) 10) k).a), iV ((findV (byKinds ((dropV l k) ++ ([⟨k, x, y⟩] : List V3)) 10) k).b)]⟩, ⟨B18, 3, [iV k]⟩, ⟨B19, 3, [iV k]⟩] [⟨62, 3, .slice a'3 (dropV l k).length c'3, (dropV l k).length, flat fV (dropV l k)⟩, ⟨62, 3, .slice a'2 ((dropV (byKinds ((dropV l k) ++ ([⟨k, x, y⟩] : List V3)) 10) k).length) c'2, (dropV (byKinds ((dropV l k) ++ ([⟨k, x, y⟩] : List V3)) 10) k).length, flat fV (dropV (byKinds ((dropV l k) ++ ([⟨k, x, y⟩] : List V3)) 10) k)⟩, ⟨62, 3, .slice a'1 ((byKinds ((dropV l k) ++ ([⟨k, x, y⟩] : List V3)) 10).length) c'1, (byKinds ((dropV l k) ++ ([⟨k, x, y⟩] : List V3)) 10).length, flat fV (byKinds ((dropV l k) ++ ([⟨k, x, y⟩] : List V3)) 10)⟩] _ := hO
     have hM := hM.keepNn hk
     have hk0 := hk0.trans hk.nn
     clear hk
     refine sxcallg hf rfl rfl rfl rfl rfl (g := 37) (vs := [.slice a'2 ((dropV (byKinds ((dropV l k) ++ ([⟨k, x, y⟩] : List V3)) 10) k).length) c'2, .slice a'3 (dropV l k).length c'3]) (ob := []) (by as_aux_lemma => kernel_rfl) An enters37 (rsame a'2 (dropV (byKinds ((dropV l k) ++ ([⟨k, x, y⟩] : List V3)) 10) k) c'2 a'3 (dropV l k) c'3 w19  (own_arr (hO.own _ (List.Mem.tail _ (List.Mem.head _)))) (by first | omega | (simp; omega) | (simp; done) | exact Nat.le_trans (byKinds_len _ _) (by omega) | decide) (own_arr (hO.own _ (List.Mem.head _))) (by first | omega | (simp; omega) | (simp; done) | exact Nat.le_trans (byKinds_len _ _) (by omega) | decide)) ?_
     clear hf; rintro _ w20 a ⟨rfl, hk⟩ hf
     have hO := hO.keepNn hk
     have hM := hM.keepNn hk
     have hk0 := hk0.trans hk.nn
     clear hk
     refine q0 hf hM [102, 9] [{}, {}] (env' := [(102, eB (sameL (dropV (byKinds ((dropV l k) ++ ([⟨k, x, y⟩] : List V3)) 10) k) (dropV l k))), (9, eU ((((maskN l) ||| bitN k) : Nat) : Int))]) (ob := []) An ?_
     clear hf; intro a hf
     have hf := hf.prune [102, 9]
     replace hf : Fr 106 [(102, eB (sameL (dropV (byKinds ((dropV l k) ++ ([⟨k, x, y⟩] : List V3)) 10) k) (dropV l k))), (9, eU ((((maskN l) ||| bitN k) : Nat) : Int))] a := hf
     replace hf := hf.conv (env' := [(102, eB true), (9, eU ((((maskN l) ||| bitN k) : Nat) : Int))]) (Ac (congrArg Value.bool hsg) (Ao rfl))
     refine q0 hf hM [103, 102] [{}] (env' := [(103, eU ((((maskN l) ||| bitN k) : Nat) : Int)), (102, eB true)]) (ob := [true = true]) (Ao rfl) ?_
     clear hf; intro a hf
     refine sxcallg hf rfl rfl rfl rfl rfl (g := 52) (vs := [uV ((((maskN l) ||| bitN k) : Nat) : Int), uV 0]) (ob := []) (by as_aux_lemma => kernel_rfl) An enters52 (mholds0 ((maskN l) ||| bitN k) w20  ) ?_
     clear hf; rintro _ w21 a ⟨rfl, hk⟩ hf
     have hO := hO.keepNn hk
     have hM := hM.keepNn hk
     have hk0 := hk0.trans hk.nn
     clear hk
     refine q0 hf hM [4] [{}, {}] (env' := [(4, eB true)]) (ob := []) An ?_
     clear hf; intro a hf
     refine wpList_nil ?_
     refine hK12 _ _ ?_
     refine wp_ret ?_
     refine qr (fn := Tryd.f11) hf hM [] (l := [bV true]) (ob := []) An ?_
     show (bV true : Value) = .bool true ∧ Keep Nn w w21
     refine ⟨congrArg Value.bool ?_, hk0⟩
     first | rfl | (simp; done) | (simp_all; done)
    ·
     refine sxleaf ?_
     have hC := (hC2i _ ⟨hM.sub (.cons_cons _ (.cons_cons _ (.cons_cons _ .slnil))), hk0, hO.sub (.cons_cons _ (.cons_cons _ (.cons_cons _ .slnil))) (.cons_cons _ (.cons_cons _ .slnil))⟩)
     refine scstep rfl ?_
     refine sxbslice hf hM (t := 22) (e := 3) (len := 1) (cs := [iV k]) (ob := []) rfl rfl rfl rfl (by as_aux_lemma => kernel_rfl) An (by as_aux_lemma => kernel_rfl) ?_
     clear hf hM; intro a w22 B31 hf hM hB hk
     replace hM : MemOk [⟨B1, 62, [iV k, iV x, iV y]⟩, ⟨B15, 62, [iV ((findV (byKinds ((dropV l k) ++ ([⟨k, x, y⟩] : List V3)) 10) k).k), iV ((findV (byKinds ((dropV l k) ++ ([⟨k, x, y⟩] : List V3)) 10) k).a), iV ((findV (byKinds ((dropV l k) ++ ([⟨k, x, y⟩] : List V3)) 10) k).b)]⟩, ⟨B18, 3, [iV k]⟩, ⟨B31, 3, [iV k]⟩] w22 := hM
     have hbB31 : w.heap.size ≤ B31 := by have := hk0.size; omega
     have hk0 := hk0.trans hk.nn
     have hO := hO.step hM hk.nn (by intro i h; simp only [Mem.names, List.map_cons, List.map_nil, List.mem_cons, List.not_mem_nil, or_false, List.map_append, List.cons_append, List.nil_append] at h ⊢; omega)
     clear hk hB
     have hC := (hC2i _ ⟨hM.sub (.cons_cons _ (.cons_cons _ (.cons_cons _ (.cons _ .slnil)))), hk0, hO.sub (.cons_cons _ (.cons_cons _ (.cons_cons _ (.cons _ .slnil)))) (.cons_cons _ (.cons_cons _ .slnil))⟩)
     refine scdone hC ?_
     refine scstep rfl ?_
     refine sxcall hf rfl rfl rfl rfl (g := 45) (vs := [.slice av l.length c]) (ob := []) (by as_aux_lemma => kernel_rfl) An enters45 (smask E av l c w22  (hav.keepNn hk0) (by first | omega | (simp; omega) | (simp; done) | exact Nat.le_trans (byKinds_len _ _) (by omega) | decide) (by assumption) (hG.keep hk0 (fun _ h => h))) ?_
     clear hf; rintro _ w23 a ⟨rfl, hk⟩ hf
     have hO := hO.keepNn hk
     have hM := hM.keepNn hk
     have hk0 := hk0.trans hk.nn
     clear hk
     have hC := (hC2i _ ⟨hM.sub (.cons_cons _ (.cons_cons _ (.cons_cons _ (.cons _ .slnil)))), hk0, hO.sub (.cons_cons _ (.cons_cons _ (.cons_cons _ (.cons _ .slnil)))) (.cons_cons _ (.cons_cons _ .slnil))⟩)
     refine scdone hC ?_
     refine scstep rfl ?_
     refine sxcall hf rfl rfl rfl rfl (g := 51) (vs := [uV (((maskN l) : Nat) : Int), .slice (some ⟨B31, 0, none⟩) 1 1]) (ob := []) (by as_aux_lemma => kernel_rfl) An enters51 (mless_ok E (maskN l) (some ⟨B31, 0, none⟩) k 1 w23 hkd (by first | assumption | exact bitN_lt' (by assumption) | omega) (Arr.of_memT (sz := 1) (f := fI) (L := ([k] : List Int)) (l := ([k] : List Int)) hM (List.Mem.tail _ (List.Mem.tail _ (List.Mem.tail _ (List.Mem.head _)))) (fun _ => rfl) rfl rfl) (hG.keep hk0 (fun _ h => h))) ?_
     clear hf; rintro _ w24 a ⟨rfl, hk⟩ hf
     have hO := hO.keepNn hk
     have hM := hM.keepNn hk
     have hk0 := hk0.trans hk.nn
     clear hk
     have hC := (hC2i _ ⟨hM.sub (.cons_cons _ (.cons_cons _ (.cons_cons _ (.cons _ .slnil)))), hk0, hO.sub (.cons_cons _ (.cons_cons _ (.cons_cons _ (.cons _ .slnil)))) (.cons_cons _ (.cons_cons _ .slnil))⟩)
     refine scdone hC ?_
     refine qd hf hC (fun w' h => (hC2e w' h).1) [12, 11, 10, 9, 8, 7, 6, 5, 3, 0] [{}, {}, {}, {}, {}] (env' := [(12, .val (.nilIface)), (11, eU (((lessN (maskN l) (bitN k)) : Nat) : Int)), (10, .val (.nilIface)), (9, eU ((((maskN l) ||| bitN k) : Nat) : Int)), (8, eS a'2 ((dropV (byKinds ((dropV l k) ++ ([⟨k, x, y⟩] : List V3)) 10) k).length) c'2), (7, eB (hasV (byKinds ((dropV l k) ++ ([⟨k, x, y⟩] : List V3)) 10) k)), (6, eP B15 0), (5, eS a'1 ((byKinds ((dropV l k) ++ ([⟨k, x, y⟩] : List V3)) 10).length) c'1), (3, eP B1 0), (0, eS av l.length c)]) (ob := []) An ?_
     clear hf; intro a hf
     clear hC
     show K11 _ _
     refine hK11 _ _ ?_
     refine wp_seq_k (fun K13 hK13 => ?_)
     refine wp_region_lit ?_
     refine q0 hf hM [61, 12, 11, 10, 9, 8, 6, 5, 3, 0] [{}, {}] (env' := [(61, eB (hasV (byKinds ((dropV l k) ++ ([⟨k, x, y⟩] : List V3)) 10) k)), (12, .val (.nilIface)), (11, eU (((lessN (maskN l) (bitN k)) : Nat) : Int)), (10, .val (.nilIface)), (9, eU ((((maskN l) ||| bitN k) : Nat) : Int)), (8, eS a'2 ((dropV (byKinds ((dropV l k) ++ ([⟨k, x, y⟩] : List V3)) 10) k).length) c'2), (6, eP B15 0), (5, eS a'1 ((byKinds ((dropV l k) ++ ([⟨k, x, y⟩] : List V3)) 10).length) c'1), (3, eP B1 0), (0, eS av l.length c)]) (ob := []) An ?_
     clear hf; intro a hf
     have hf := hf.prune [61, 12, 11, 10, 9, 8, 6, 5, 3, 0]
     replace hf : Fr 106 [(61, eB (hasV (byKinds ((dropV l k) ++ ([⟨k, x, y⟩] : List V3)) 10) k)), (12, .val (.nilIface)), (11, eU (((lessN (maskN l) (bitN k)) : Nat) : Int)), (10, .val (.nilIface)), (9, eU ((((maskN l) ||| bitN k) : Nat) : Int)), (8, eS a'2 ((dropV (byKinds ((dropV l k) ++ ([⟨k, x, y⟩] : List V3)) 10) k).length) c'2), (6, eP B15 0), (5, eS a'1 ((byKinds ((dropV l k) ++ ([⟨k, x, y⟩] : List V3)) 10).length) c'1), (3, eP B1 0), (0, eS av l.length c)] a := hf
     replace hf := hf.conv (env' := [(61, eB true), (12, .val (.nilIface)), (11, eU (((lessN (maskN l) (bitN k)) : Nat) : Int)), (10, .val (.nilIface)), (9, eU ((((maskN l) ||| bitN k) : Nat) : Int)), (8, eS a'2 ((dropV (byKinds ((dropV l k) ++ ([⟨k, x, y⟩] : List V3)) 10) k).length) c'2), (6, eP B15 0), (5, eS a'1 ((byKinds ((dropV l k) ++ ([⟨k, x, y⟩] : List V3)) 10).length) c'1), (3, eP B1 0), (0, eS av l.length c)]) (Ac (congrArg Value.bool hhv) (Ac rfl (Ac rfl (Ac rfl (Ac rfl (Ac rfl (Ac rfl (Ac rfl (Ac rfl (Ao rfl))))))))))
     refine q0 hf hM [75, 74, 11, 9, 8, 5, 3, 0] [{ os := [.ld 1 0, .ld 1 1, .ld 1 2] }, { os := [.ld 0 0, .ld 0 1, .ld 0 2] }, { sp := true, hint := some (bV true) }, {}, {}, {}, {}, {}, {}, {}, {}, {}, {}, {}] (env' := [(75, eS a'1 ((byKinds ((dropV l k) ++ ([⟨k, x, y⟩] : List V3)) 10).length) c'1), (74, eB true), (11, eU (((lessN (maskN l) (bitN k)) : Nat) : Int)), (9, eU ((((maskN l) ||| bitN k) : Nat) : Int)), (8, eS a'2 ((dropV (byKinds ((dropV l k) ++ ([⟨k, x, y⟩] : List V3)) 10) k).length) c'2), (5, eS a'1 ((byKinds ((dropV l k) ++ ([⟨k, x, y⟩] : List V3)) 10).length) c'1), (3, eP B1 0), (0, eS av l.length c)]) (ob := [true = true, Ad B15 0, Ad B15 1, Ad B15 2, true = true, Ad B1 0, Ad B1 1, Ad B1 2, true = true, (bV (((((findV (byKinds ((dropV l k) ++ ([⟨k, x, y⟩] : List V3)) 10) k).k) : Int) == k) && (((((findV (byKinds ((dropV l k) ++ ([⟨k, x, y⟩] : List V3)) 10) k).a) : Int) == x) && (((((findV (byKinds ((dropV l k) ++ ([⟨k, x, y⟩] : List V3)) 10) k).b) : Int) == y) && true))) : Value) = (bV true : Value), true = true, true = true, true = true, true = true, true = true]) (Ac rfl (Ac (ad _ _) (Ac (ad _ _) (Ac (ad _ _) (Ac rfl (Ac (ad _ _) (Ac (ad _ _) (Ac (ad _ _) (Ac rfl (Ac (Eq.trans (show (bV (((((findV (byKinds ((dropV l k) ++ ([⟨k, x, y⟩] : List V3)) 10) k).k) : Int) == k) && (((((findV (byKinds ((dropV l k) ++ ([⟨k, x, y⟩] : List V3)) 10) k).a) : Int) == x) && (((((findV (byKinds ((dropV l k) ++ ([⟨k, x, y⟩] : List V3)) 10) k).b) : Int) == y) && true))) : Value) = (bV (((((findV (byKinds ((dropV l k) ++ ([⟨k, x, y⟩] : List V3)) 10) k).k) : Int) == k) && (((((findV (byKinds ((dropV l k) ++ ([⟨k, x, y⟩] : List V3)) 10) k).a) : Int) == x) && ((((findV (byKinds ((dropV l k) ++ ([⟨k, x, y⟩] : List V3)) 10) k).b) : Int) == y))) : Value) from (by simp)) (by rw [hfv]; simp)) (Ac rfl (Ac rfl (Ac rfl (Ac rfl (Ao rfl))))))))))))))) ?_
     clear hf; intro a hf
     refine sxcallg hf rfl rfl rfl rfl rfl (g := 41) (vs := [.slice a'1 ((byKinds ((dropV l k) ++ ([⟨k, x, y⟩] : List V3)) 10).length) c'1]) (ob := []) (by as_aux_lemma => kernel_rfl) An enters41 (sright E a'1 (byKinds ((dropV l k) ++ ([⟨k, x, y⟩] : List V3)) 10) c'1 w24  (own_arr (hO.own _ (List.Mem.tail _ (List.Mem.head _)))) (by first | omega | (simp; omega) | (simp; done) | exact Nat.le_trans (byKinds_len _ _) (by omega) | decide) (hG.keep hk0 (fun _ h => h))) ?_
     clear hf; rintro _ w25 a ⟨rfl, hk⟩ hf
     have hO := hO.keepNn hk
     have hM := hM.keepNn hk
     have hk0 := hk0.trans hk.nn
     clear hk
     refine q0 hf hM [78, 11, 9, 8, 5, 3, 0] [{}, {}] (env' := [(78, eB (rightV (byKinds ((dropV l k) ++ ([⟨k, x, y⟩] : List V3)) 10))), (11, eU (((lessN (maskN l) (bitN k)) : Nat) : Int)), (9, eU ((((maskN l) ||| bitN k) : Nat) : Int)), (8, eS a'2 ((dropV (byKinds ((dropV l k) ++ ([⟨k, x, y⟩] : List V3)) 10) k).length) c'2), (5, eS a'1 ((byKinds ((dropV l k) ++ ([⟨k, x, y⟩] : List V3)) 10).length) c'1), (3, eP B1 0), (0, eS av l.length c)]) (ob := []) An ?_
     clear hf; intro a hf
     have hf := hf.prune [78, 11, 9, 8, 5, 3, 0]
     replace hf : Fr 106 [(78, eB (rightV (byKinds ((dropV l k) ++ ([⟨k, x, y⟩] : List V3)) 10))), (11, eU (((lessN (maskN l) (bitN k)) : Nat) : Int)), (9, eU ((((maskN l) ||| bitN k) : Nat) : Int)), (8, eS a'2 ((dropV (byKinds ((dropV l k) ++ ([⟨k, x, y⟩] : List V3)) 10) k).length) c'2), (5, eS a'1 ((byKinds ((dropV l k) ++ ([⟨k, x, y⟩] : List V3)) 10).length) c'1), (3, eP B1 0), (0, eS av l.length c)] a := hf
     replace hf := hf.conv (env' := [(78, eB true), (11, eU (((lessN (maskN l) (bitN k)) : Nat) : Int)), (9, eU ((((maskN l) ||| bitN k) : Nat) : Int)), (8, eS a'2 ((dropV (byKinds ((dropV l k) ++ ([⟨k, x, y⟩] : List V3)) 10) k).length) c'2), (5, eS a'1 ((byKinds ((dropV l k) ++ ([⟨k, x, y⟩] : List V3)) 10).length) c'1), (3, eP B1 0), (0, eS av l.length c)]) (Ac (congrArg Value.bool hrp) (Ac rfl (Ac rfl (Ac rfl (Ac rfl (Ac rfl (Ao rfl)))))))
     refine q0 hf hM [79, 78, 11, 9, 8, 5, 3, 0] [{}] (env' := [(79, eS a'2 ((dropV (byKinds ((dropV l k) ++ ([⟨k, x, y⟩] : List V3)) 10) k).length) c'2), (78, eB true), (11, eU (((lessN (maskN l) (bitN k)) : Nat) : Int)), (9, eU ((((maskN l) ||| bitN k) : Nat) : Int)), (8, eS a'2 ((dropV (byKinds ((dropV l k) ++ ([⟨k, x, y⟩] : List V3)) 10) k).length) c'2), (5, eS a'1 ((byKinds ((dropV l k) ++ ([⟨k, x, y⟩] : List V3)) 10).length) c'1), (3, eP B1 0), (0, eS av l.length c)]) (ob := [true = true]) (Ao rfl) ?_
     clear hf; intro a hf
     refine sxcallg hf rfl rfl rfl rfl rfl (g := 41) (vs := [.slice a'2 ((dropV (byKinds ((dropV l k) ++ ([⟨k, x, y⟩] : List V3)) 10) k).length) c'2]) (ob := []) (by as_aux_lemma => kernel_rfl) An enters41 (sright E a'2 (dropV (byKinds ((dropV l k) ++ ([⟨k, x, y⟩] : List V3)) 10) k) c'2 w25  (own_arr (hO.own _ (List.Mem.head _))) (by first | omega | (simp; omega) | (simp; done) | exact Nat.le_trans (byKinds_len _ _) (by omega) | decide) (hG.keep hk0 (fun _ h => h))) ?_
     clear hf; rintro _ w26 a ⟨rfl, hk⟩ hf
     have hO := hO.keepNn hk
     have hM := hM.keepNn hk
     have hk0 := hk0.trans hk.nn
     clear hk
     refine q0 hf hM [82, 11, 9, 8, 5, 3, 0] [{}, {}] (env' := [(82, eB (rightV (dropV (byKinds ((dropV l k) ++ ([⟨k, x, y⟩] : List V3)) 10) k))), (11, eU (((lessN (maskN l) (bitN k)) : Nat) : Int)), (9, eU ((((maskN l) ||| bitN k) : Nat) : Int)), (8, eS a'2 ((dropV (byKinds ((dropV l k) ++ ([⟨k, x, y⟩] : List V3)) 10) k).length) c'2), (5, eS a'1 ((byKinds ((dropV l k) ++ ([⟨k, x, y⟩] : List V3)) 10).length) c'1), (3, eP B1 0), (0, eS av l.length c)]) (ob := []) An ?_
     clear hf; intro a hf
     have hf := hf.prune [82, 11, 9, 8, 5, 3, 0]
     replace hf : Fr 106 [(82, eB (rightV (dropV (byKinds ((dropV l k) ++ ([⟨k, x, y⟩] : List V3)) 10) k))), (11, eU (((lessN (maskN l) (bitN k)) : Nat) : Int)), (9, eU ((((maskN l) ||| bitN k) : Nat) : Int)), (8, eS a'2 ((dropV (byKinds ((dropV l k) ++ ([⟨k, x, y⟩] : List V3)) 10) k).length) c'2), (5, eS a'1 ((byKinds ((dropV l k) ++ ([⟨k, x, y⟩] : List V3)) 10).length) c'1), (3, eP B1 0), (0, eS av l.length c)] a := hf
     replace hf := hf.conv (env' := [(82, eB true), (11, eU (((lessN (maskN l) (bitN k)) : Nat) : Int)), (9, eU ((((maskN l) ||| bitN k) : Nat) : Int)), (8, eS a'2 ((dropV (byKinds ((dropV l k) ++ ([⟨k, x, y⟩] : List V3)) 10) k).length) c'2), (5, eS a'1 ((byKinds ((dropV l k) ++ ([⟨k, x, y⟩] : List V3)) 10).length) c'1), (3, eP B1 0), (0, eS av l.length c)]) (Ac (congrArg Value.bool hrg) (Ac rfl (Ac rfl (Ac rfl (Ac rfl (Ac rfl (Ao rfl)))))))
     refine q0 hf hM [83, 82, 11, 9, 8, 3, 0] [{}] (env' := [(83, eS a'1 ((byKinds ((dropV l k) ++ ([⟨k, x, y⟩] : List V3)) 10).length) c'1), (82, eB true), (11, eU (((lessN (maskN l) (bitN k)) : Nat) : Int)), (9, eU ((((maskN l) ||| bitN k) : Nat) : Int)), (8, eS a'2 ((dropV (byKinds ((dropV l k) ++ ([⟨k, x, y⟩] : List V3)) 10) k).length) c'2), (3, eP B1 0), (0, eS av l.length c)]) (ob := [true = true]) (Ao rfl) ?_
     clear hf; intro a hf
     refine sxcallg hf rfl rfl rfl rfl rfl (g := 45) (vs := [.slice a'1 ((byKinds ((dropV l k) ++ ([⟨k, x, y⟩] : List V3)) 10).length) c'1]) (ob := []) (by as_aux_lemma => kernel_rfl) An enters45 (smask E a'1 (byKinds ((dropV l k) ++ ([⟨k, x, y⟩] : List V3)) 10) c'1 w26  (own_arr (hO.own _ (List.Mem.tail _ (List.Mem.head _)))) (by first | omega | (simp; omega) | (simp; done) | exact Nat.le_trans (byKinds_len _ _) (by omega) | decide) (by assumption) (hG.keep hk0 (fun _ h => h))) ?_
     clear hf; rintro _ w27 a ⟨rfl, hk⟩ hf
     have hO := hO.keepNn hk
     have hM := hM.keepNn hk
     have hk0 := hk0.trans hk.nn
     clear hk
     refine q0 hf hM [89, 88, 11, 9, 8, 3, 0] [{}, { hint := some (bV true) }, {}, {}, {}] (env' := [(89, eS a'2 ((dropV (byKinds ((dropV l k) ++ ([⟨k, x, y⟩] : List V3)) 10) k).length) c'2), (88, eB true), (11, eU (((lessN (maskN l) (bitN k)) : Nat) : Int)), (9, eU ((((maskN l) ||| bitN k) : Nat) : Int)), (8, eS a'2 ((dropV (byKinds ((dropV l k) ++ ([⟨k, x, y⟩] : List V3)) 10) k).length) c'2), (3, eP B1 0), (0, eS av l.length c)]) (ob := [true = true, true = true, (bV (((((maskN (byKinds ((dropV l k) ++ ([⟨k, x, y⟩] : List V3)) 10)) : Nat) : Int) : Int) == ((((maskN l) ||| bitN k) : Nat) : Int)) : Value) = (bV true : Value), true = true]) (Ac rfl (Ac rfl (Ac (by rw [hmp]; simp) (Ao rfl)))) ?_
     clear hf; intro a hf
     refine sxcallg hf rfl rfl rfl rfl rfl (g := 45) (vs := [.slice a'2 ((dropV (byKinds ((dropV l k) ++ ([⟨k, x, y⟩] : List V3)) 10) k).length) c'2]) (ob := []) (by as_aux_lemma => kernel_rfl) An enters45 (smask E a'2 (dropV (byKinds ((dropV l k) ++ ([⟨k, x, y⟩] : List V3)) 10) k) c'2 w27  (own_arr (hO.own _ (List.Mem.head _))) (by first | omega | (simp; omega) | (simp; done) | exact Nat.le_trans (byKinds_len _ _) (by omega) | decide) (by assumption) (hG.keep hk0 (fun _ h => h))) ?_
     clear hf; rintro _ w28 a ⟨rfl, hk⟩ hf
     have hO := hO.keepNn hk
     have hM := hM.keepNn hk
     have hk0 := hk0.trans hk.nn
     clear hk
     refine q0 hf hM [98, 96, 95, 94, 9] [{}, { hint := some (bV true) }, {}, {}, {}, {}, {}, { os := [.ld 0 0] }] (env' := [(98, eI k), (96, eS av l.length c), (95, eS a'2 ((dropV (byKinds ((dropV l k) ++ ([⟨k, x, y⟩] : List V3)) 10) k).length) c'2), (94, eB true), (9, eU ((((maskN l) ||| bitN k) : Nat) : Int))]) (ob := [true = true, true = true, (bV (((((maskN (dropV (byKinds ((dropV l k) ++ ([⟨k, x, y⟩] : List V3)) 10) k)) : Nat) : Int) : Int) == (((lessN (maskN l) (bitN k)) : Nat) : Int)) : Value) = (bV true : Value), true = true, true = true, true = true, true = true, Ad B1 0]) (Ac rfl (Ac rfl (Ac (by rw [hmg]; simp) (Ac rfl (Ac rfl (Ac rfl (Ac rfl (Ao (ad _ _))))))))) ?_
     clear hf; intro a hf
     refine sxcallg hf rfl rfl rfl rfl rfl (g := 36) (vs := [.slice av l.length c, iV k]) (ob := []) (by as_aux_lemma => kernel_rfl) An enters36 (sdrop av l c k w28  (hav.keepNn hk0) (by first | omega | (simp; omega) | (simp; done) | exact Nat.le_trans (byKinds_len _ _) (by omega) | decide)) ?_
     clear hf; rintro _ w29 a ⟨a'4, c'4, rfl, hk, hx4⟩ hf
     have hO := hO.more hM hk (by have := hk0.size; omega) hx4
     replace hO : OwnOk w.heap.size [⟨B1, 62, [iV k, iV x, iV y]⟩, ⟨B15, 62, [iV ((findV (byKinds ((dropV l k) ++ ([⟨k, x, y⟩] : List V3)) 10) k).k), iV ((findV (byKinds ((dropV l k) ++ ([⟨k, x, y⟩] : List V3)) 10) k).a), iV ((findV (byKinds ((dropV l k) ++ ([⟨k, x, y⟩] : List V3)) 10) k).b)]⟩, ⟨B18, 3, [iV k]⟩, ⟨B31, 3, [iV k]⟩] [⟨62, 3, .slice a'4 (dropV l k).length c'4, (dropV l k).length, flat fV (dropV l k)⟩, ⟨62, 3, .slice a'2 ((dropV (byKinds ((dropV l k) ++ ([⟨k, x, y⟩] : List V3)) 10) k).length) c'2, (dropV (byKinds ((dropV l k) ++ ([⟨k, x, y⟩] : List V3)) 10) k).length, flat fV (dropV (byKinds ((dropV l k) ++ ([⟨k, x, y⟩] : List V3)) 10) k)⟩, ⟨62, 3, .slice a'1 ((byKinds ((dropV l k) ++ ([⟨k, x, y⟩] : List V3)) 10).length) c'1, (byKinds ((dropV l k) ++ ([⟨k, x, y⟩] : List V3)) 10).length, flat fV (byKinds ((dropV l k) ++ ([⟨k, x, y⟩] : List V3)) 10)⟩] _ := hO
     have hM := hM.keepNn hk
     have hk0 := hk0.trans hk.nn
     clear hk
     refine sxcallg hf rfl rfl rfl rfl rfl (g := 37) (vs := [.slice a'2 ((dropV (byKinds ((dropV l k) ++ ([⟨k, x, y⟩] : List V3)) 10) k).length) c'2, .slice a'4 (dropV l k).length c'4]) (ob := []) (by as_aux_lemma => kernel_rfl) An enters37 (rsame a'2 (dropV (byKinds ((dropV l k) ++ ([⟨k, x, y⟩] : List V3)) 10) k) c'2 a'4 (dropV l k) c'4 w29  (own_arr (hO.own _ (List.Mem.tail _ (List.Mem.head _)))) (by first | omega | (simp; omega) | (simp; done) | exact Nat.le_trans (byKinds_len _ _) (by omega) | decide) (own_arr (hO.own _ (List.Mem.head _))) (by first | omega | (simp; omega) | (simp; done) | exact Nat.le_trans (byKinds_len _ _) (by omega) | decide)) ?_
     clear hf; rintro _ w30 a ⟨rfl, hk⟩ hf
     have hO := hO.keepNn hk
     have hM := hM.keepNn hk
     have hk0 := hk0.trans hk.nn
     clear hk
     refine q0 hf hM [102, 9] [{}, {}] (env' := [(102, eB (sameL (dropV (byKinds ((dropV l k) ++ ([⟨k, x, y⟩] : List V3)) 10) k) (dropV l k))), (9, eU ((((maskN l) ||| bitN k) : Nat) : Int))]) (ob := []) An ?_
     clear hf; intro a hf
     have hf := hf.prune [102, 9]
     replace hf : Fr 106 [(102, eB (sameL (dropV (byKinds ((dropV l k) ++ ([⟨k, x, y⟩] : List V3)) 10) k) (dropV l k))), (9, eU ((((maskN l) ||| bitN k) : Nat) : Int))] a := hf
     replace hf := hf.conv (env' := [(102, eB true), (9, eU ((((maskN l) ||| bitN k) : Nat) : Int))]) (Ac (congrArg Value.bool hsg) (Ao rfl))
     refine q0 hf hM [103, 102] [{}] (env' := [(103, eU ((((maskN l) ||| bitN k) : Nat) : Int)), (102, eB true)]) (ob := [true = true]) (Ao rfl) ?_
     clear hf; intro a hf
     refine sxcallg hf rfl rfl rfl rfl rfl (g := 52) (vs := [uV ((((maskN l) ||| bitN k) : Nat) : Int), uV 0]) (ob := []) (by as_aux_lemma => kernel_rfl) An enters52 (mholds0 ((maskN l) ||| bitN k) w30  ) ?_
     clear hf; rintro _ w31 a ⟨rfl, hk⟩ hf
     have hO := hO.keepNn hk
     have hM := hM.keepNn hk
     have hk0 := hk0.trans hk.nn
     clear hk
     refine q0 hf hM [4] [{}, {}] (env' := [(4, eB true)]) (ob := []) An ?_
     clear hf; intro a hf
     refine wpList_nil ?_
     refine hK13 _ _ ?_
     refine wp_ret ?_
     refine qr (fn := Tryd.f11) hf hM [] (l := [bV true]) (ob := []) An ?_
     show (bV true : Value) = .bool true ∧ Keep Nn w w31
     refine ⟨congrArg Value.bool ?_, hk0⟩
     first | rfl | (simp; done) | (simp_all; done)
   ·
    refine sxleaf ?_
    have hC := (hC1i _ ⟨hM.sub (.cons_cons _ (.cons_cons _ .slnil)), hk0, hO.sub (.cons_cons _ (.cons_cons _ .slnil)) (.cons_cons _ (.cons_cons _ .slnil))⟩)
    refine scstep rfl ?_
    refine sxbslice hf hM (t := 22) (e := 3) (len := 1) (cs := [iV k]) (ob := []) rfl rfl rfl rfl (by as_aux_lemma => kernel_rfl) An (by as_aux_lemma => kernel_rfl) ?_
    clear hf hM; intro a w32 B43 hf hM hB hk
    replace hM : MemOk [⟨B1, 62, [iV k, iV x, iV y]⟩, ⟨B15, 62, [iV ((findV (byKinds ((dropV l k) ++ ([⟨k, x, y⟩] : List V3)) 10) k).k), iV ((findV (byKinds ((dropV l k) ++ ([⟨k, x, y⟩] : List V3)) 10) k).a), iV ((findV (byKinds ((dropV l k) ++ ([⟨k, x, y⟩] : List V3)) 10) k).b)]⟩, ⟨B43, 3, [iV k]⟩] w32 := hM
    have hbB43 : w.heap.size ≤ B43 := by have := hk0.size; omega
    have hk0 := hk0.trans hk.nn
    have hO := hO.step hM hk.nn (by intro i h; simp only [Mem.names, List.map_cons, List.map_nil, List.mem_cons, List.not_mem_nil, or_false, List.map_append, List.cons_append, List.nil_append] at h ⊢; omega)
    clear hk hB
    have hC := (hC1i _ ⟨hM.sub (.cons_cons _ (.cons_cons _ (.cons _ .slnil))), hk0, hO.sub (.cons_cons _ (.cons_cons _ (.cons _ .slnil))) (.cons_cons _ (.cons_cons _ .slnil))⟩)
    refine scdone hC ?_
    refine scstep rfl ?_
    refine sxcall hf rfl rfl rfl rfl (g := 45) (vs := [.slice av l.length c]) (ob := []) (by as_aux_lemma => kernel_rfl) An enters45 (smask E av l c w32  (hav.keepNn hk0) (by first | omega | (simp; omega) | (simp; done) | exact Nat.le_trans (byKinds_len _ _) (by omega) | decide) (by assumption) (hG.keep hk0 (fun _ h => h))) ?_
    clear hf; rintro _ w33 a ⟨rfl, hk⟩ hf
    have hO := hO.keepNn hk
    have hM := hM.keepNn hk
    have hk0 := hk0.trans hk.nn
    clear hk
    have hC := (hC1i _ ⟨hM.sub (.cons_cons _ (.cons_cons _ (.cons _ .slnil))), hk0, hO.sub (.cons_cons _ (.cons_cons _ (.cons _ .slnil))) (.cons_cons _ (.cons_cons _ .slnil))⟩)
    refine scdone hC ?_
    refine scstep rfl ?_
    refine sxcall hf rfl rfl rfl rfl (g := 50) (vs := [uV (((maskN l) : Nat) : Int), .slice (some ⟨B43, 0, none⟩) 1 1]) (ob := []) (by as_aux_lemma => kernel_rfl) An enters50 (mwith_ok E (maskN l) (some ⟨B43, 0, none⟩) k 1 w33 hkd (by first | assumption | exact bitN_lt' (by assumption) | omega) (Arr.of_memT (sz := 1) (f := fI) (L := ([k] : List Int)) (l := ([k] : List Int)) hM (List.Mem.tail _ (List.Mem.tail _ (List.Mem.head _))) (fun _ => rfl) rfl rfl) (hG.keep hk0 (fun _ h => h))) ?_
    clear hf; rintro _ w34 a ⟨rfl, hk⟩ hf
    have hO := hO.keepNn hk
    have hM := hM.keepNn hk
    have hk0 := hk0.trans hk.nn
    clear hk
    have hC := (hC1i _ ⟨hM.sub (.cons_cons _ (.cons_cons _ (.cons _ .slnil))), hk0, hO.sub (.cons_cons _ (.cons_cons _ (.cons _ .slnil))) (.cons_cons _ (.cons_cons _ .slnil))⟩)
    refine scdone hC ?_
    refine qd hf hC (fun w' h => (hC1e w' h).1) [10, 9, 8, 7, 6, 5, 3, 0] [{}, {}, {}, {}, {}] (env' := [(10, .val (.nilIface)), (9, eU ((((maskN l) ||| bitN k) : Nat) : Int)), (8, eS a'2 ((dropV (byKinds ((dropV l k) ++ ([⟨k, x, y⟩] : List V3)) 10) k).length) c'2), (7, eB (hasV (byKinds ((dropV l k) ++ ([⟨k, x, y⟩] : List V3)) 10) k)), (6, eP B15 0), (5, eS a'1 ((byKinds ((dropV l k) ++ ([⟨k, x, y⟩] : List V3)) 10).length) c'1), (3, eP B1 0), (0, eS av l.length c)]) (ob := []) An ?_
    clear hf; intro a hf
    clear hC
    show K10 _ _
    refine hK10 _ _ ?_
    refine wp_seq_k (fun K14 hK14 => ?_)
    replace hM := hM.drew; replace hk0 := hk0.drew; replace hO := hO.drew
    obtain ⟨C3, hC3d⟩ : ∃ C : World → Prop, C = fun w' => MemOk [⟨B1, 62, [iV k, iV x, iV y]⟩, ⟨B15, 62, [iV ((findV (byKinds ((dropV l k) ++ ([⟨k, x, y⟩] : List V3)) 10) k).k), iV ((findV (byKinds ((dropV l k) ++ ([⟨k, x, y⟩] : List V3)) 10) k).a), iV ((findV (byKinds ((dropV l k) ++ ([⟨k, x, y⟩] : List V3)) 10) k).b)]⟩, ⟨B43, 3, [iV k]⟩] w' ∧ Keep Nn w w' ∧ OwnOk w.heap.size [⟨B1, 62, [iV k, iV x, iV y]⟩, ⟨B15, 62, [iV ((findV (byKinds ((dropV l k) ++ ([⟨k, x, y⟩] : List V3)) 10) k).k), iV ((findV (byKinds ((dropV l k) ++ ([⟨k, x, y⟩] : List V3)) 10) k).a), iV ((findV (byKinds ((dropV l k) ++ ([⟨k, x, y⟩] : List V3)) 10) k).b)]⟩, ⟨B43, 3, [iV k]⟩] [⟨62, 3, .slice a'2 ((dropV (byKinds ((dropV l k) ++ ([⟨k, x, y⟩] : List V3)) 10) k).length) c'2, (dropV (byKinds ((dropV l k) ++ ([⟨k, x, y⟩] : List V3)) 10) k).length, flat fV (dropV (byKinds ((dropV l k) ++ ([⟨k, x, y⟩] : List V3)) 10) k)⟩, ⟨62, 3, .slice a'1 ((byKinds ((dropV l k) ++ ([⟨k, x, y⟩] : List V3)) 10).length) c'1, (byKinds ((dropV l k) ++ ([⟨k, x, y⟩] : List V3)) 10).length, flat fV (byKinds ((dropV l k) ++ ([⟨k, x, y⟩] : List V3)) 10)⟩] w' := ⟨_, rfl⟩
    have hC3i : ∀ w', (MemOk [⟨B1, 62, [iV k, iV x, iV y]⟩, ⟨B15, 62, [iV ((findV (byKinds ((dropV l k) ++ ([⟨k, x, y⟩] : List V3)) 10) k).k), iV ((findV (byKinds ((dropV l k) ++ ([⟨k, x, y⟩] : List V3)) 10) k).a), iV ((findV (byKinds ((dropV l k) ++ ([⟨k, x, y⟩] : List V3)) 10) k).b)]⟩, ⟨B43, 3, [iV k]⟩] w' ∧ Keep Nn w w' ∧ OwnOk w.heap.size [⟨B1, 62, [iV k, iV x, iV y]⟩, ⟨B15, 62, [iV ((findV (byKinds ((dropV l k) ++ ([⟨k, x, y⟩] : List V3)) 10) k).k), iV ((findV (byKinds ((dropV l k) ++ ([⟨k, x, y⟩] : List V3)) 10) k).a), iV ((findV (byKinds ((dropV l k) ++ ([⟨k, x, y⟩] : List V3)) 10) k).b)]⟩, ⟨B43, 3, [iV k]⟩] [⟨62, 3, .slice a'2 ((dropV (byKinds ((dropV l k) ++ ([⟨k, x, y⟩] : List V3)) 10) k).length) c'2, (dropV (byKinds ((dropV l k) ++ ([⟨k, x, y⟩] : List V3)) 10) k).length, flat fV (dropV (byKinds ((dropV l k) ++ ([⟨k, x, y⟩] : List V3)) 10) k)⟩, ⟨62, 3, .slice a'1 ((byKinds ((dropV l k) ++ ([⟨k, x, y⟩] : List V3)) 10).length) c'1, (byKinds ((dropV l k) ++ ([⟨k, x, y⟩] : List V3)) 10).length, flat fV (byKinds ((dropV l k) ++ ([⟨k, x, y⟩] : List V3)) 10)⟩] w') → C3 w' := fun w' h => by rw [hC3d]; exact h
    have hC3e : ∀ w', C3 w' → (MemOk [⟨B1, 62, [iV k, iV x, iV y]⟩, ⟨B15, 62, [iV ((findV (byKinds ((dropV l k) ++ ([⟨k, x, y⟩] : List V3)) 10) k).k), iV ((findV (byKinds ((dropV l k) ++ ([⟨k, x, y⟩] : List V3)) 10) k).a), iV ((findV (byKinds ((dropV l k) ++ ([⟨k, x, y⟩] : List V3)) 10) k).b)]⟩, ⟨B43, 3, [iV k]⟩] w' ∧ Keep Nn w w' ∧ OwnOk w.heap.size [⟨B1, 62, [iV k, iV x, iV y]⟩, ⟨B15, 62, [iV ((findV (byKinds ((dropV l k) ++ ([⟨k, x, y⟩] : List V3)) 10) k).k), iV ((findV (byKinds ((dropV l k) ++ ([⟨k, x, y⟩] : List V3)) 10) k).a), iV ((findV (byKinds ((dropV l k) ++ ([⟨k, x, y⟩] : List V3)) 10) k).b)]⟩, ⟨B43, 3, [iV k]⟩] [⟨62, 3, .slice a'2 ((dropV (byKinds ((dropV l k) ++ ([⟨k, x, y⟩] : List V3)) 10) k).length) c'2, (dropV (byKinds ((dropV l k) ++ ([⟨k, x, y⟩] : List V3)) 10) k).length, flat fV (dropV (byKinds ((dropV l k) ++ ([⟨k, x, y⟩] : List V3)) 10) k)⟩, ⟨62, 3, .slice a'1 ((byKinds ((dropV l k) ++ ([⟨k, x, y⟩] : List V3)) 10).length) c'1, (byKinds ((dropV l k) ++ ([⟨k, x, y⟩] : List V3)) 10).length, flat fV (byKinds ((dropV l k) ++ ([⟨k, x, y⟩] : List V3)) 10)⟩] w') := fun w' h => by rw [hC3d] at h; exact h
    refine sxdraw (C := C3) (.alt [(0, true), (2, true), (3, true)] (.leaf [(1, false), (4, false), (5, false), (6, true), (7, true), (8, true), (9, true), (10, true)]) (.leaf [(4, false), (1, false), (5, false), (6, true), (7, true), (8, true), (9, true), (10, true)])) (by kernel_rfl) (by kernel_rfl) (by as_aux_lemma => kernel_rfl) rfl (by as_aux_lemma => kernel_rfl) (by kernel_rfl) (hC3i _ ⟨hM.sub (.cons_cons _ (.cons_cons _ (.cons_cons _ .slnil))), hk0, hO.sub (.cons_cons _ (.cons_cons _ (.cons_cons _ .slnil))) (.cons_cons _ (.cons_cons _ .slnil))⟩) ?_
    refine sxalts ?_
    have hC := (hC3i _ ⟨hM.sub (.cons_cons _ (.cons_cons _ (.cons_cons _ .slnil))), hk0, hO.sub (.cons_cons _ (.cons_cons _ (.cons_cons _ .slnil))) (.cons_cons _ (.cons_cons _ .slnil))⟩)
    refine qd hf hC (fun w' h => (hC3e w' h).1) [55, 52, 10, 9, 8, 7, 6, 5, 3, 0] [{}, {}, { os := [.ld 0 0] }] (env' := [(55, eI k), (52, eS av l.length c), (10, .val (.nilIface)), (9, eU ((((maskN l) ||| bitN k) : Nat) : Int)), (8, eS a'2 ((dropV (byKinds ((dropV l k) ++ ([⟨k, x, y⟩] : List V3)) 10) k).length) c'2), (7, eB (hasV (byKinds ((dropV l k) ++ ([⟨k, x, y⟩] : List V3)) 10) k)), (6, eP B15 0), (5, eS a'1 ((byKinds ((dropV l k) ++ ([⟨k, x, y⟩] : List V3)) 10).length) c'1), (3, eP B1 0), (0, eS av l.length c)]) (ob := [Ad B1 0]) (Ao (ad _ _)) ?_
    clear hf; intro a hf
    refine sxboth ?_ ?_
    ·
     refine sxleaf ?_
     have hC := (hC3i _ ⟨hM.sub (.cons_cons _ (.cons_cons _ (.cons_cons _ .slnil))), hk0, hO.sub (.cons_cons _ (.cons_cons _ (.cons_cons _ .slnil))) (.cons_cons _ (.cons_cons _ .slnil))⟩)
     refine scstep rfl ?_
     refine sxcall hf rfl rfl rfl rfl (g := 45) (vs := [.slice av l.length c]) (ob := []) (by as_aux_lemma => kernel_rfl) An enters45 (smask E av l c w34.drew  (hav.keepNn hk0) (by first | omega | (simp; omega) | (simp; done) | exact Nat.le_trans (byKinds_len _ _) (by omega) | decide) (by assumption) (hG.keep hk0 (fun _ h => h))) ?_
     clear hf; rintro _ w35 a ⟨rfl, hk⟩ hf
     have hO := hO.keepNn hk
     have hM := hM.keepNn hk
     have hk0 := hk0.trans hk.nn
     clear hk
     have hC := (hC3i _ ⟨hM.sub (.cons_cons _ (.cons_cons _ (.cons_cons _ .slnil))), hk0, hO.sub (.cons_cons _ (.cons_cons _ (.cons_cons _ .slnil))) (.cons_cons _ (.cons_cons _ .slnil))⟩)
     refine scdone hC ?_
     refine scstep rfl ?_
     refine sxbslice hf hM (t := 22) (e := 3) (len := 1) (cs := [iV k]) (ob := []) rfl rfl rfl rfl (by as_aux_lemma => kernel_rfl) An (by as_aux_lemma => kernel_rfl) ?_
     clear hf hM; intro a w36 B44 hf hM hB hk
     replace hM : MemOk [⟨B1, 62, [iV k, iV x, iV y]⟩, ⟨B15, 62, [iV ((findV (byKinds ((dropV l k) ++ ([⟨k, x, y⟩] : List V3)) 10) k).k), iV ((findV (byKinds ((dropV l k) ++ ([⟨k, x, y⟩] : List V3)) 10) k).a), iV ((findV (byKinds ((dropV l k) ++ ([⟨k, x, y⟩] : List V3)) 10) k).b)]⟩, ⟨B43, 3, [iV k]⟩, ⟨B44, 3, [iV k]⟩] w36 := hM
     have hbB44 : w.heap.size ≤ B44 := by have := hk0.size; omega
     have hk0 := hk0.trans hk.nn
     have hO := hO.step hM hk.nn (by intro i h; simp only [Mem.names, List.map_cons, List.map_nil, List.mem_cons, List.not_mem_nil, or_false, List.map_append, List.cons_append, List.nil_append] at h ⊢; omega)
     clear hk hB
     have hC := (hC3i _ ⟨hM.sub (.cons_cons _ (.cons_cons _ (.cons_cons _ (.cons _ .slnil)))), hk0, hO.sub (.cons_cons _ (.cons_cons _ (.cons_cons _ (.cons _ .slnil)))) (.cons_cons _ (.cons_cons _ .slnil))⟩)
     refine scdone hC ?_
     refine scstep rfl ?_
     refine sxcall hf rfl rfl rfl rfl (g := 51) (vs := [uV (((maskN l) : Nat) : Int), .slice (some ⟨B44, 0, none⟩) 1 1]) (ob := []) (by as_aux_lemma => kernel_rfl) An enters51 (mless_ok E (maskN l) (some ⟨B44, 0, none⟩) k 1 w36 hkd (by first | assumption | exact bitN_lt' (by assumption) | omega) (Arr.of_memT (sz := 1) (f := fI) (L := ([k] : List Int)) (l := ([k] : List Int)) hM (List.Mem.tail _ (List.Mem.tail _ (List.Mem.tail _ (List.Mem.head _)))) (fun _ => rfl) rfl rfl) (hG.keep hk0 (fun _ h => h))) ?_
     clear hf; rintro _ w37 a ⟨rfl, hk⟩ hf
     have hO := hO.keepNn hk
     have hM := hM.keepNn hk
     have hk0 := hk0.trans hk.nn
     clear hk
     have hC := (hC3i _ ⟨hM.sub (.cons_cons _ (.cons_cons _ (.cons_cons _ (.cons _ .slnil)))), hk0, hO.sub (.cons_cons _ (.cons_cons _ (.cons_cons _ (.cons _ .slnil)))) (.cons_cons _ (.cons_cons _ .slnil))⟩)
     refine scdone hC ?_
     refine qd hf hC (fun w' h => (hC3e w' h).1) [12, 11, 10, 9, 8, 7, 6, 5, 3, 0] [{}, {}, {}, {}, {}] (env' := [(12, .val (.nilIface)), (11, eU (((lessN (maskN l) (bitN k)) : Nat) : Int)), (10, .val (.nilIface)), (9, eU ((((maskN l) ||| bitN k) : Nat) : Int)), (8, eS a'2 ((dropV (byKinds ((dropV l k) ++ ([⟨k, x, y⟩] : List V3)) 10) k).length) c'2), (7, eB (hasV (byKinds ((dropV l k) ++ ([⟨k, x, y⟩] : List V3)) 10) k)), (6, eP B15 0), (5, eS a'1 ((byKinds ((dropV l k) ++ ([⟨k, x, y⟩] : List V3)) 10).length) c'1), (3, eP B1 0), (0, eS av l.length c)]) (ob := []) An ?_
     clear hf; intro a hf
     clear hC
     show K14 _ _
     refine hK14 _ _ ?_
     refine wp_seq_k (fun K15 hK15 => ?_)
     refine wp_region_lit ?_
     refine q0 hf hM [61, 12, 11, 10, 9, 8, 6, 5, 3, 0] [{}, {}] (env' := [(61, eB (hasV (byKinds ((dropV l k) ++ ([⟨k, x, y⟩] : List V3)) 10) k)), (12, .val (.nilIface)), (11, eU (((lessN (maskN l) (bitN k)) : Nat) : Int)), (10, .val (.nilIface)), (9, eU ((((maskN l) ||| bitN k) : Nat) : Int)), (8, eS a'2 ((dropV (byKinds ((dropV l k) ++ ([⟨k, x, y⟩] : List V3)) 10) k).length) c'2), (6, eP B15 0), (5, eS a'1 ((byKinds ((dropV l k) ++ ([⟨k, x, y⟩] : List V3)) 10).length) c'1), (3, eP B1 0), (0, eS av l.length c)]) (ob := []) An ?_
     clear hf; intro a hf
     have hf := hf.prune [61, 12, 11, 10, 9, 8, 6, 5, 3, 0]
     replace hf : Fr 106 [(61, eB (hasV (byKinds ((dropV l k) ++ ([⟨k, x, y⟩] : List V3)) 10) k)), (12, .val (.nilIface)), (11, eU (((lessN (maskN l) (bitN k)) : Nat) : Int)), (10, .val (.nilIface)), (9, eU ((((maskN l) ||| bitN k) : Nat) : Int)), (8, eS a'2 ((dropV (byKinds ((dropV l k) ++ ([⟨k, x, y⟩] : List V3)) 10) k).length) c'2), (6, eP B15 0), (5, eS a'1 ((byKinds ((dropV l k) ++ ([⟨k, x, y⟩] : List V3)) 10).length) c'1), (3, eP B1 0), (0, eS av l.length c)] a := hf
     replace hf := hf.conv (env' := [(61, eB true), (12, .val (.nilIface)), (11, eU (((lessN (maskN l) (bitN k)) : Nat) : Int)), (10, .val (.nilIface)), (9, eU ((((maskN l) ||| bitN k) : Nat) : Int)), (8, eS a'2 ((dropV (byKinds ((dropV l k) ++ ([⟨k, x, y⟩] : List V3)) 10) k).length) c'2), (6, eP B15 0), (5, eS a'1 ((byKinds ((dropV l k) ++ ([⟨k, x, y⟩] : List V3)) 10).length) c'1), (3, eP B1 0), (0, eS av l.length c)]) (Ac (congrArg Value.bool hhv) (Ac rfl (Ac rfl (Ac rfl (Ac rfl (Ac rfl (Ac rfl (Ac rfl (Ac rfl (Ao rfl))))))))))
     refine q0 hf hM [75, 74, 11, 9, 8, 5, 3, 0] [{ os := [.ld 1 0, .ld 1 1, .ld 1 2] }, { os := [.ld 0 0, .ld 0 1, .ld 0 2] }, { sp := true, hint := some (bV true) }, {}, {}, {}, {}, {}, {}, {}, {}, {}, {}, {}] (env' := [(75, eS a'1 ((byKinds ((dropV l k) ++ ([⟨k, x, y⟩] : List V3)) 10).length) c'1), (74, eB true), (11, eU (((lessN (maskN l) (bitN k)) : Nat) : Int)), (9, eU ((((maskN l) ||| bitN k) : Nat) : Int)), (8, eS a'2 ((dropV (byKinds ((dropV l k) ++ ([⟨k, x, y⟩] : List V3)) 10) k).length) c'2), (5, eS a'1 ((byKinds ((dropV l k) ++ ([⟨k, x, y⟩] : List V3)) 10).length) c'1), (3, eP B1 0), (0, eS av l.length c)]) (ob := [true = true, Ad B15 0, Ad B15 1, Ad B15 2, true = true, Ad B1 0, Ad B1 1, Ad B1 2, true = true, (bV (((((findV (byKinds ((dropV l k) ++ ([⟨k, x, y⟩] : List V3)) 10) k).k) : Int) == k) && (((((findV (byKinds ((dropV l k) ++ ([⟨k, x, y⟩] : List V3)) 10) k).a) : Int) == x) && (((((findV (byKinds ((dropV l k) ++ ([⟨k, x, y⟩] : List V3)) 10) k).b) : Int) == y) && true))) : Value) = (bV true : Value), true = true, true = true, true = true, true = true, true = true]) (Ac rfl (Ac (ad _ _) (Ac (ad _ _) (Ac (ad _ _) (Ac rfl (Ac (ad _ _) (Ac (ad _ _) (Ac (ad _ _) (Ac rfl (Ac (Eq.trans (show (bV (((((findV (byKinds ((dropV l k) ++ ([⟨k, x, y⟩] : List V3)) 10) k).k) : Int) == k) && (((((findV (byKinds ((dropV l k) ++ ([⟨k, x, y⟩] : List V3)) 10) k).a) : Int) == x) && (((((findV (byKinds ((dropV l k) ++ ([⟨k, x, y⟩] : List V3)) 10) k).b) : Int) == y) && true))) : Value) = (bV (((((findV (byKinds ((dropV l k) ++ ([⟨k, x, y⟩] : List V3)) 10) k).k) : Int) == k) && (((((findV (byKinds ((dropV l k) ++ ([⟨k, x, y⟩] : List V3)) 10) k).a) : Int) == x) && ((((findV (byKinds ((dropV l k) ++ ([⟨k, x, y⟩] : List V3)) 10) k).b) : Int) == y))) : Value) from (by simp)) (by rw [hfv]; simp)) (Ac rfl (Ac rfl (Ac rfl (Ac rfl (Ao rfl))))))))))))))) ?_
     clear hf; intro a hf
     refine sxcallg hf rfl rfl rfl rfl rfl (g := 41) (vs := [.slice a'1 ((byKinds ((dropV l k) ++ ([⟨k, x, y⟩] : List V3)) 10).length) c'1]) (ob := []) (by as_aux_lemma => kernel_rfl) An enters41 (sright E a'1 (byKinds ((dropV l k) ++ ([⟨k, x, y⟩] : List V3)) 10) c'1 w37  (own_arr (hO.own _ (List.Mem.tail _ (List.Mem.head _)))) (by first | omega | (simp; omega) | (simp; done) | exact Nat.le_trans (byKinds_len _ _) (by omega) | decide) (hG.keep hk0 (fun _ h => h))) ?_
     clear hf; rintro _ w38 a ⟨rfl, hk⟩ hf
     have hO := hO.keepNn hk
     have hM := hM.keepNn hk
     have hk0 := hk0.trans hk.nn
     clear hk
     refine q0 hf hM [78, 11, 9, 8, 5, 3, 0] [{}, {}] (env' := [(78, eB (rightV (byKinds ((dropV l k) ++ ([⟨k, x, y⟩] : List V3)) 10))), (11, eU (((lessN (maskN l) (bitN k)) : Nat) : Int)), (9, eU ((((maskN l) ||| bitN k) : Nat) : Int)), (8, eS a'2 ((dropV (byKinds ((dropV l k) ++ ([⟨k, x, y⟩] : List V3)) 10) k).length) c'2), (5, eS a'1 ((byKinds ((dropV l k) ++ ([⟨k, x, y⟩] : List V3)) 10).length) c'1), (3, eP B1 0), (0, eS av l.length c)]) (ob := []) An ?_
     clear hf; intro a hf
     have hf := hf.prune [78, 11, 9, 8, 5, 3, 0]
     replace hf : Fr 106 [(78, eB (rightV (byKinds ((dropV l k) ++ ([⟨k, x, y⟩] : List V3)) 10))), (11, eU (((lessN (maskN l) (bitN k)) : Nat) : Int)), (9, eU ((((maskN l) ||| bitN k) : Nat) : Int)), (8, eS a'2 ((dropV (byKinds ((dropV l k) ++ ([⟨k, x, y⟩] : List V3)) 10) k).length) c'2), (5, eS a'1 ((byKinds ((dropV l k) ++ ([⟨k, x, y⟩] : List V3)) 10).length) c'1), (3, eP B1 0), (0, eS av l.length c)] a := hf
     replace hf := hf.conv (env' := [(78, eB true), (11, eU (((lessN (maskN l) (bitN k)) : Nat) : Int)), (9, eU ((((maskN l) ||| bitN k) : Nat) : Int)), (8, eS a'2 ((dropV (byKinds ((dropV l k) ++ ([⟨k, x, y⟩] : List V3)) 10) k).length) c'2), (5, eS a'1 ((byKinds ((dropV l k) ++ ([⟨k, x, y⟩] : List V3)) 10).length) c'1), (3, eP B1 0), (0, eS av l.length c)]) (Ac (congrArg Value.bool hrp) (Ac rfl (Ac rfl (Ac rfl (Ac rfl (Ac rfl (Ao rfl)))))))
     refine q0 hf hM [79, 78, 11, 9, 8, 5, 3, 0] [{}] (env' := [(79, eS a'2 ((dropV (byKinds ((dropV l k) ++ ([⟨k, x, y⟩] : List V3)) 10) k).length) c'2), (78, eB true), (11, eU (((lessN (maskN l) (bitN k)) : Nat) : Int)), (9, eU ((((maskN l) ||| bitN k) : Nat) : Int)), (8, eS a'2 ((dropV (byKinds ((dropV l k) ++ ([⟨k, x, y⟩] : List V3)) 10) k).length) c'2), (5, eS a'1 ((byKinds ((dropV l k) ++ ([⟨k, x, y⟩] : List V3)) 10).length) c'1), (3, eP B1 0), (0, eS av l.length c)]) (ob := [true = true]) (Ao rfl) ?_
     clear hf; intro a hf
     refine sxcallg hf rfl rfl rfl rfl rfl (g := 41) (vs := [.slice a'2 ((dropV (byKinds ((dropV l k) ++ ([⟨k, x, y⟩] : List V3)) 10) k).length) c'2]) (ob := []) (by as_aux_lemma => kernel_rfl) An enters41 (sright E a'2 (dropV (byKinds ((dropV l k) ++ ([⟨k, x, y⟩] : List V3)) 10) k) c'2 w38  (own_arr (hO.own _ (List.Mem.head _))) (by first | omega | (simp; omega) | (simp; done) | exact Nat.le_trans (byKinds_len _ _) (by omega) | decide) (hG.keep hk0 (fun _ h => h))) ?_
     clear hf; rintro _ w39 a ⟨rfl, hk⟩ hf
     have hO := hO.keepNn hk
     have hM := hM.keepNn hk
     have hk0 := hk0.trans hk.nn
     clear hk
     refine q0 hf hM [82, 11, 9, 8, 5, 3, 0] [{}, {}] (env' := [(82, eB (rightV (dropV (byKinds ((dropV l k) ++ ([⟨k, x, y⟩] : List V3)) 10) k))), (11, eU (((lessN (maskN l) (bitN k)) : Nat) : Int)), (9, eU ((((maskN l) ||| bitN k) : Nat) : Int)), (8, eS a'2 ((dropV (byKinds ((dropV l k) ++ ([⟨k, x, y⟩] : List V3)) 10) k).length) c'2), (5, eS a'1 ((byKinds ((dropV l k) ++ ([⟨k, x, y⟩] : List V3)) 10).length) c'1), (3, eP B1 0), (0, eS av l.length c)]) (ob := []) An ?_
     clear hf; intro a hf
     have hf := hf.prune [82, 11, 9, 8, 5, 3, 0]
     replace hf : Fr 106 [(82, eB (rightV (dropV (byKinds ((dropV l k) ++ ([⟨k, x, y⟩] : List V3)) 10) k))), (11, eU (((lessN (maskN l) (bitN k)) : Nat) : Int)), (9, eU ((((maskN l) ||| bitN k) : Nat) : Int)), (8, eS a'2 ((dropV (byKinds ((dropV l k) ++ ([⟨k, x, y⟩] : List V3)) 10) k).length) c'2), (5, eS a'1 ((byKinds ((dropV l k) ++ ([⟨k, x, y⟩] : List V3)) 10).length) c'1), (3, eP B1 0), (0, eS av l.length c)] a := hf
     replace hf := hf.conv (env' := [(82, eB true), (11, eU (((lessN (maskN l) (bitN k)) : Nat) : Int)), (9, eU ((((maskN l) ||| bitN k) : Nat) : Int)), (8, eS a'2 ((dropV (byKinds ((dropV l k) ++ ([⟨k, x, y⟩] : List V3)) 10) k).length) c'2), (5, eS a'1 ((byKinds ((dropV l k) ++ ([⟨k, x, y⟩] : List V3)) 10).length) c'1), (3, eP B1 0), (0, eS av l.length c)]) (Ac (congrArg Value.bool hrg) (Ac rfl (Ac rfl (Ac rfl (Ac rfl (Ac rfl (Ao rfl)))))))
     refine q0 hf hM [83, 82, 11, 9, 8, 3, 0] [{}] (env' := [(83, eS a'1 ((byKinds ((dropV l k) ++ ([⟨k, x, y⟩] : List V3)) 10).length) c'1), (82, eB true), (11, eU (((lessN (maskN l) (bitN k)) : Nat) : Int)), (9, eU ((((maskN l) ||| bitN k) : Nat) : Int)), (8, eS a'2 ((dropV (byKinds ((dropV l k) ++ ([⟨k, x, y⟩] : List V3)) 10) k).length) c'2), (3, eP B1 0), (0, eS av l.length c)]) (ob := [true = true]) (Ao rfl) ?_
     clear hf; intro a hf
     refine sxcallg hf rfl rfl rfl rfl rfl (g := 45) (vs := [.slice a'1 ((byKinds ((dropV l k) ++ ([⟨k, x, y⟩] : List V3)) 10).length) c'1]) (ob := []) (by as_aux_lemma => kernel_rfl) An enters45 (smask E a'1 (byKinds ((dropV l k) ++ ([⟨k, x, y⟩] : List V3)) 10) c'1 w39  (own_arr (hO.own _ (List.Mem.tail _ (List.Mem.head _)))) (by first | omega | (simp; omega) | (simp; done) | exact Nat.le_trans (byKinds_len _ _) (by omega) | decide) (by assumption) (hG.keep hk0 (fun _ h => h))) ?_
     clear hf; rintro _ w40 a ⟨rfl, hk⟩ hf
     have hO := hO.keepNn hk
     have hM := hM.keepNn hk
     have hk0 := hk0.trans hk.nn
     clear hk
     refine q0 hf hM [89, 88, 11, 9, 8, 3, 0] [{}, { hint := some (bV true) }, {}, {}, {}] (env' := [(89, eS a'2 ((dropV (byKinds ((dropV l k) ++ ([⟨k, x, y⟩] : List V3)) 10) k).length) c'2), (88, eB true), (11, eU (((lessN (maskN l) (bitN k)) : Nat) : Int)), (9, eU ((((maskN l) ||| bitN k) : Nat) : Int)), (8, eS a'2 ((dropV (byKinds ((dropV l k) ++ ([⟨k, x, y⟩] : List V3)) 10) k).length) c'2), (3, eP B1 0), (0, eS av l.length c)]) (ob := [true = true, true = true, (bV (((((maskN (byKinds ((dropV l k) ++ ([⟨k, x, y⟩] : List V3)) 10)) : Nat) : Int) : Int) == ((((maskN l) ||| bitN k) : Nat) : Int)) : Value) = (bV true : Value), true = true]) (Ac rfl (Ac rfl (Ac (by rw [hmp]; simp) (Ao rfl)))) ?_
     clear hf; intro a hf
     refine sxcallg hf rfl rfl rfl rfl rfl (g := 45) (vs := [.slice a'2 ((dropV (byKinds ((dropV l k) ++ ([⟨k, x, y⟩] : List V3)) 10) k).length) c'2]) (ob := []) (by as_aux_lemma => kernel_rfl) An enters45 (smask E a'2 (dropV (byKinds ((dropV l k) ++ ([⟨k, x, y⟩] : List V3)) 10) k) c'2 w40  (own_arr (hO.own _ (List.Mem.head _))) (by first | omega | (simp; omega) | (simp; done) | exact Nat.le_trans (byKinds_len _ _) (by omega) | decide) (by assumption) (hG.keep hk0 (fun _ h => h))) ?_
     clear hf; rintro _ w41 a ⟨rfl, hk⟩ hf
     have hO := hO.keepNn hk
     have hM := hM.keepNn hk
     have hk0 := hk0.trans hk.nn
     clear hk
     refine q0 hf hM [98, 96, 95, 94, 9] [{}, { hint := some (bV true) }, {}, {}, {}, {}, {}, { os := [.ld 0 0] }] (env' := [(98, eI k), (96, eS av l.length c), (95, eS a'2 ((dropV (byKinds ((dropV l k) ++ ([⟨k, x, y⟩] : List V3)) 10) k).length) c'2), (94, eB true), (9, eU ((((maskN l) ||| bitN k) : Nat) : Int))]) (ob := [true = true, true = true, (bV (((((maskN (dropV (byKinds ((dropV l k) ++ ([⟨k, x, y⟩] : List V3)) 10) k)) : Nat) : Int) : Int) == (((lessN (maskN l) (bitN k)) : Nat) : Int)) : Value) = (bV true : Value), true = true, true = true, true = true, true = true, Ad B1 0]) (Ac rfl (Ac rfl (Ac (by rw [hmg]; simp) (Ac rfl (Ac rfl (Ac rfl (Ac rfl (Ao (ad _ _))))))))) ?_
     clear hf; intro a hf
     refine sxcallg hf rfl rfl rfl rfl rfl (g := 36) (vs := [.slice av l.length c, iV k]) (ob := []) (by as_aux_lemma => kernel_rfl) An enters36 (sdrop av l c k w41  (hav.keepNn hk0) (by first | omega | (simp; omega) | (simp; done) | exact Nat.le_trans (byKinds_len _ _) (by omega) | decide)) ?_
     clear hf; rintro _ w42 a ⟨a'5, c'5, rfl, hk, hx5⟩ hf
     have hO := hO.more hM hk (by have := hk0.size; omega) hx5
     replace hO : OwnOk w.heap.size [⟨B1, 62, [iV k, iV x, iV y]⟩, ⟨B15, 62, [iV ((findV (byKinds ((dropV l k) ++ ([⟨k, x, y⟩] : List V3)) 10) k).k), iV ((findV (byKinds ((dropV l k) ++ ([⟨k, x, y⟩] : List V3)) 10) k).a), iV ((findV (byKinds ((dropV l k) ++ ([⟨k, x, y⟩] : List V3)) 10) k).b)]⟩, ⟨B43, 3, [iV k]⟩, ⟨B44, 3, [iV k]⟩] [⟨62, 3, .slice a'5 (dropV l k).length c'5, (dropV l k).length, flat fV (dropV l k)⟩, ⟨62, 3, .slice a'2 ((dropV (byKinds ((dropV l k) ++ ([⟨k, x, y⟩] : List V3)) 10) k).length) c'2, (dropV (byKinds ((dropV l k) ++ ([⟨k, x, y⟩] : List V3)) 10) k).length, flat fV (dropV (byKinds ((dropV l k) ++ ([⟨k, x, y⟩] : List V3)) 10) k)⟩, ⟨62, 3, .slice a'1 ((byKinds ((dropV l k) ++ ([⟨k, x, y⟩] : List V3)) 10).length) c'1, (byKinds ((dropV l k) ++ ([⟨k, x, y⟩] : List V3)) 10).length, flat fV (byKinds ((dropV l k) ++ ([⟨k, x, y⟩] : List V3)) 10)⟩] _ := hO
     have hM := hM.keepNn hk
     have hk0 := hk0.trans hk.nn
     clear hk
     refine sxcallg hf rfl rfl rfl rfl rfl (g := 37) (vs := [.slice a'2 ((dropV (byKinds ((dropV l k) ++ ([⟨k, x, y⟩] : List V3)) 10) k).length) c'2, .slice a'5 (dropV l k).length c'5]) (ob := []) (by as_aux_lemma => kernel_rfl) An enters37 (rsame a'2 (dropV (byKinds ((dropV l k) ++ ([⟨k, x, y⟩] : List V3)) 10) k) c'2 a'5 (dropV l k) c'5 w42  (own_arr (hO.own _ (List.Mem.tail _ (List.Mem.head _)))) (by first | omega | (simp; omega) | (simp; done) | exact Nat.le_trans (byKinds_len _ _) (by omega) | decide) (own_arr (hO.own _ (List.Mem.head _))) (by first | omega | (simp; omega) | (simp; done) | exact Nat.le_trans (byKinds_len _ _) (by omega) | decide)) ?_
     clear hf; rintro _ w43 a ⟨rfl, hk⟩ hf
     have hO := hO.keepNn hk
     have hM := hM.keepNn hk
     have hk0 := hk0.trans hk.nn
     clear hk
     refine q0 hf hM [102, 9] [{}, {}] (env' := [(102, eB (sameL (dropV (byKinds ((dropV l k) ++ ([⟨k, x, y⟩] : List V3)) 10) k) (dropV l k))), (9, eU ((((maskN l) ||| bitN k) : Nat) : Int))]) (ob := []) An ?_
     clear hf; intro a hf
     have hf := hf.prune [102, 9]
     replace hf : Fr 106 [(102, eB (sameL (dropV (byKinds ((dropV l k) ++ ([⟨k, x, y⟩] : List V3)) 10) k) (dropV l k))), (9, eU ((((maskN l) ||| bitN k) : Nat) : Int))] a := hf
     replace hf := hf.conv (env' := [(102, eB true), (9, eU ((((maskN l) ||| bitN k) : Nat) : Int))]) (Ac (congrArg Value.bool hsg) (Ao rfl))
     refine q0 hf hM [103, 102] [{}] (env' := [(103, eU ((((maskN l) ||| bitN k) : Nat) : Int)), (102, eB true)]) (ob := [true = true]) (Ao rfl) ?_
     clear hf; intro a hf
     refine sxcallg hf rfl rfl rfl rfl rfl (g := 52) (vs := [uV ((((maskN l) ||| bitN k) : Nat) : Int), uV 0]) (ob := []) (by as_aux_lemma => kernel_rfl) An enters52 (mholds0 ((maskN l) ||| bitN k) w43  ) ?_
     clear hf; rintro _ w44 a ⟨rfl, hk⟩ hf
     have hO := hO.keepNn hk
     have hM := hM.keepNn hk
     have hk0 := hk0.trans hk.nn
     clear hk
     refine q0 hf hM [4] [{}, {}] (env' := [(4, eB true)]) (ob := []) An ?_
     clear hf; intro a hf
     refine wpList_nil ?_
     refine hK15 _ _ ?_
     refine wp_ret ?_
     refine qr (fn := Tryd.f11) hf hM [] (l := [bV true]) (ob := []) An ?_
     show (bV true : Value) = .bool true ∧ Keep Nn w w44
     refine ⟨congrArg Value.bool ?_, hk0⟩
     first | rfl | (simp; done) | (simp_all; done)
    ·
     refine sxleaf ?_
     have hC := (hC3i _ ⟨hM.sub (.cons_cons _ (.cons_cons _ (.cons_cons _ .slnil))), hk0, hO.sub (.cons_cons _ (.cons_cons _ (.cons_cons _ .slnil))) (.cons_cons _ (.cons_cons _ .slnil))⟩)
     refine scstep rfl ?_
     refine sxbslice hf hM (t := 22) (e := 3) (len := 1) (cs := [iV k]) (ob := []) rfl rfl rfl rfl (by as_aux_lemma => kernel_rfl) An (by as_aux_lemma => kernel_rfl) ?_
     clear hf hM; intro a w45 B56 hf hM hB hk
     replace hM : MemOk [⟨B1, 62, [iV k, iV x, iV y]⟩, ⟨B15, 62, [iV ((findV (byKinds ((dropV l k) ++ ([⟨k, x, y⟩] : List V3)) 10) k).k), iV ((findV (byKinds ((dropV l k) ++ ([⟨k, x, y⟩] : List V3)) 10) k).a), iV ((findV (byKinds ((dropV l k) ++ ([⟨k, x, y⟩] : List V3)) 10) k).b)]⟩, ⟨B43, 3, [iV k]⟩, ⟨B56, 3, [iV k]⟩] w45 := hM
     have hbB56 : w.heap.size ≤ B56 := by have := hk0.size; omega
     have hk0 := hk0.trans hk.nn
     have hO := hO.step hM hk.nn (by intro i h; simp only [Mem.names, List.map_cons, List.map_nil, List.mem_cons, List.not_mem_nil, or_false, List.map_append, List.cons_append, List.nil_append] at h ⊢; omega)
     clear hk hB
     have hC := (hC3i _ ⟨hM.sub (.cons_cons _ (.cons_cons _ (.cons_cons _ (.cons _ .slnil)))), hk0, hO.sub (.cons_cons _ (.cons_cons _ (.cons_cons _ (.cons _ .slnil)))) (.cons_cons _ (.cons_cons _ .slnil))⟩)
     refine scdone hC ?_
     refine scstep rfl ?_
     refine sxcall hf rfl rfl rfl rfl (g := 45) (vs := [.slice av l.length c]) (ob := []) (by as_aux_lemma => kernel_rfl) An enters45 (smask E av l c w45  (hav.keepNn hk0) (by first | omega | (simp; omega) | (simp; done) | exact Nat.le_trans (byKinds_len _ _) (by omega) | decide) (by assumption) (hG.keep hk0 (fun _ h => h))) ?_
     clear hf; rintro _ w46 a ⟨rfl, hk⟩ hf
     have hO := hO.keepNn hk
     have hM := hM.keepNn hk
     have hk0 := hk0.trans hk.nn
     clear hk
     have hC := (hC3i _ ⟨hM.sub (.cons_cons _ (.cons_cons _ (.cons_cons _ (.cons _ .slnil)))), hk0, hO.sub (.cons_cons _ (.cons_cons _ (.cons_cons _ (.cons _ .slnil)))) (.cons_cons _ (.cons_cons _ .slnil))⟩)
     refine scdone hC ?_
     refine scstep rfl ?_
     refine sxcall hf rfl rfl rfl rfl (g := 51) (vs := [uV (((maskN l) : Nat) : Int), .slice (some ⟨B56, 0, none⟩) 1 1]) (ob := []) (by as_aux_lemma => kernel_rfl) An enters51 (mless_ok E (maskN l) (some ⟨B56, 0, none⟩) k 1 w46 hkd (by first | assumption | exact bitN_lt' (by assumption) | omega) (Arr.of_memT (sz := 1) (f := fI) (L := ([k] : List Int)) (l := ([k] : List Int)) hM (List.Mem.tail _ (List.Mem.tail _ (List.Mem.tail _ (List.Mem.head _)))) (fun _ => rfl) rfl rfl) (hG.keep hk0 (fun _ h => h))) ?_
     clear hf; rintro _ w47 a ⟨rfl, hk⟩ hf
     have hO := hO.keepNn hk
     have hM := hM.keepNn hk
     have hk0 := hk0.trans hk.nn
     clear hk
     have hC := (hC3i _ ⟨hM.sub (.cons_cons _ (.cons_cons _ (.cons_cons _ (.cons _ .slnil)))), hk0, hO.sub (.cons_cons _ (.cons_cons _ (.cons_cons _ (.cons _ .slnil)))) (.cons_cons _ (.cons_cons _ .slnil))⟩)
     refine scdone hC ?_
     refine qd hf hC (fun w' h => (hC3e w' h).1) [12, 11, 10, 9, 8, 7, 6, 5, 3, 0] [{}, {}, {}, {}, {}] (env' := [(12, .val (.nilIface)), (11, eU (((lessN (maskN l) (bitN k)) : Nat) : Int)), (10, .val (.nilIface)), (9, eU ((((maskN l) ||| bitN k) : Nat) : Int)), (8, eS a'2 ((dropV (byKinds ((dropV l k) ++ ([⟨k, x, y⟩] : List V3)) 10) k).length) c'2), (7, eB (hasV (byKinds ((dropV l k) ++ ([⟨k, x, y⟩] : List V3)) 10) k)), (6, eP B15 0), (5, eS a'1 ((byKinds ((dropV l k) ++ ([⟨k, x, y⟩] : List V3)) 10).length) c'1), (3, eP B1 0), (0, eS av l.length c)]) (ob := []) An ?_
     clear hf; intro a hf
     clear hC
     show K14 _ _
     refine hK14 _ _ ?_
     refine wp_seq_k (fun K16 hK16 => ?_)
     refine wp_region_lit ?_
     refine q0 hf hM [61, 12, 11, 10, 9, 8, 6, 5, 3, 0] [{}, {}] (env' := [(61, eB (hasV (byKinds ((dropV l k) ++ ([⟨k, x, y⟩] : List V3)) 10) k)), (12, .val (.nilIface)), (11, eU (((lessN (maskN l) (bitN k)) : Nat) : Int)), (10, .val (.nilIface)), (9, eU ((((maskN l) ||| bitN k) : Nat) : Int)), (8, eS a'2 ((dropV (byKinds ((dropV l k) ++ ([⟨k, x, y⟩] : List V3)) 10) k).length) c'2), (6, eP B15 0), (5, eS a'1 ((byKinds ((dropV l k) ++ ([⟨k, x, y⟩] : List V3)) 10).length) c'1), (3, eP B1 0), (0, eS av l.length c)]) (ob := []) An ?_
     clear hf; intro a hf
     have hf := hf.prune [61, 12, 11, 10, 9, 8, 6, 5, 3, 0]
     replace hf : Fr 106 [(61, eB (hasV (byKinds ((dropV l k) ++ ([⟨k, x, y⟩] : List V3)) 10) k)), (12, .val (.nilIface)), (11, eU (((lessN (maskN l) (bitN k)) : Nat) : Int)), (10, .val (.nilIface)), (9, eU ((((maskN l) ||| bitN k) : Nat) : Int)), (8, eS a'2 ((dropV (byKinds ((dropV l k) ++ ([⟨k, x, y⟩] : List V3)) 10) k).length) c'2), (6, eP B15 0), (5, eS a'1 ((byKinds ((dropV l k) ++ ([⟨k, x, y⟩] : List V3)) 10).length) c'1), (3, eP B1 0), (0, eS av l.length c)] a := hf
     replace hf := hf.conv (env' := [(61, eB true), (12, .val (.nilIface)), (11, eU (((lessN (maskN l) (bitN k)) : Nat) : Int)), (10, .val (.nilIface)), (9, eU ((((maskN l) ||| bitN k) : Nat) : Int)), (8, eS a'2 ((dropV (byKinds ((dropV l k) ++ ([⟨k, x, y⟩] : List V3)) 10) k).length) c'2), (6, eP B15 0), (5, eS a'1 ((byKinds ((dropV l k) ++ ([⟨k, x, y⟩] : List V3)) 10).length) c'1), (3, eP B1 0), (0, eS av l.length c)]) (Ac (congrArg Value.bool hhv) (Ac rfl (Ac rfl (Ac rfl (Ac rfl (Ac rfl (Ac rfl (Ac rfl (Ac rfl (Ao rfl))))))))))
     refine q0 hf hM [75, 74, 11, 9, 8, 5, 3, 0] [{ os := [.ld 1 0, .ld 1 1, .ld 1 2] }, { os := [.ld 0 0, .ld 0 1, .ld 0 2] }, { sp := true, hint := some (bV true) }, {}, {}, {}, {}, {}, {}, {}, {}, {}, {}, {}] (env' := [(75, eS a'1 ((byKinds ((dropV l k) ++ ([⟨k, x, y⟩] : List V3)) 10).length) c'1), (74, eB true), (11, eU (((lessN (maskN l) (bitN k)) : Nat) : Int)), (9, eU ((((maskN l) ||| bitN k) : Nat) : Int)), (8, eS a'2 ((dropV (byKinds ((dropV l k) ++ ([⟨k, x, y⟩] : List V3)) 10) k).length) c'2), (5, eS a'1 ((byKinds ((dropV l k) ++ ([⟨k, x, y⟩] : List V3)) 10).length) c'1), (3, eP B1 0), (0, eS av l.length c)]) (ob := [true = true, Ad B15 0, Ad B15 1, Ad B15 2, true = true, Ad B1 0, Ad B1 1, Ad B1 2, true = true, (bV (((((findV (byKinds ((dropV l k) ++ ([⟨k, x, y⟩] : List V3)) 10) k).k) : Int) == k) && (((((findV (byKinds ((dropV l k) ++ ([⟨k, x, y⟩] : List V3)) 10) k).a) : Int) == x) && (((((findV (byKinds ((dropV l k) ++ ([⟨k, x, y⟩] : List V3)) 10) k).b) : Int) == y) && true))) : Value) = (bV true : Value), true = true, true = true, true = true, true = true, true = true]) (Ac rfl (Ac (ad _ _) (Ac (ad _ _) (Ac (ad _ _) (Ac rfl (Ac (ad _ _) (Ac (ad _ _) (Ac (ad _ _) (Ac rfl (Ac (Eq.trans (show (bV (((((findV (byKinds ((dropV l k) ++ ([⟨k, x, y⟩] : List V3)) 10) k).k) : Int) == k) && (((((findV (byKinds ((dropV l k) ++ ([⟨k, x, y⟩] : List V3)) 10) k).a) : Int) == x) && (((((findV (byKinds ((dropV l k) ++ ([⟨k, x, y⟩] : List V3)) 10) k).b) : Int) == y) && true))) : Value) = (bV (((((findV (byKinds ((dropV l k) ++ ([⟨k, x, y⟩] : List V3)) 10) k).k) : Int) == k) && (((((findV (byKinds ((dropV l k) ++ ([⟨k, x, y⟩] : List V3)) 10) k).a) : Int) == x) && ((((findV (byKinds ((dropV l k) ++ ([⟨k, x, y⟩] : List V3)) 10) k).b) : Int) == y))) : Value) from (by simp)) (by rw [hfv]; simp)) (Ac rfl (Ac rfl (Ac rfl (Ac rfl (Ao rfl))))))))))))))) ?_
     clear hf; intro a hf
     refine sxcallg hf rfl rfl rfl rfl rfl (g := 41) (vs := [.slice a'1 ((byKinds ((dropV l k) ++ ([⟨k, x, y⟩] : List V3)) 10).length) c'1]) (ob := []) (by as_aux_lemma => kernel_rfl) An enters41 (sright E a'1 (byKinds ((dropV l k) ++ ([⟨k, x, y⟩] : List V3)) 10) c'1 w47  (own_arr (hO.own _ (List.Mem.tail _ (List.Mem.head _)))) (by first | omega | (simp; omega) | (simp; done) | exact Nat.le_trans (byKinds_len _ _) (by omega) | decide) (hG.keep hk0 (fun _ h => h))) ?_
     clear hf; rintro _ w48 a ⟨rfl, hk⟩ hf
     have hO := hO.keepNn hk
     have hM := hM.keepNn hk
     have hk0 := hk0.trans hk.nn
     clear hk
     refine q0 hf hM [78, 11, 9, 8, 5, 3, 0] [{}, {}] (env' := [(78, eB (rightV (byKinds ((dropV l k) ++ ([⟨k, x, y⟩] : List V3)) 10))), (11, eU (((lessN (maskN l) (bitN k)) : Nat) : Int)), (9, eU ((((maskN l) ||| bitN k) : Nat) : Int)), (8, eS a'2 ((dropV (byKinds ((dropV l k) ++ ([⟨k, x, y⟩] : List V3)) 10) k).length) c'2), (5, eS a'1 ((byKinds ((dropV l k) ++ ([⟨k, x, y⟩] : List V3)) 10).length) c'1), (3, eP B1 0), (0, eS av l.length c)]) (ob := []) An ?_
     clear hf; intro a hf
     have hf := hf.prune [78, 11, 9, 8, 5, 3, 0]
     replace hf : Fr 106 [(78, eB (rightV (byKinds ((dropV l k) ++ ([⟨k, x, y⟩] : List V3)) 10))), (11, eU (((lessN (maskN l) (bitN k)) : Nat) : Int)), (9, eU ((((maskN l) ||| bitN k) : Nat) : Int)), (8, eS a'2 ((dropV (byKinds ((dropV l k) ++ ([⟨k, x, y⟩] : List V3)) 10) k).length) c'2), (5, eS a'1 ((byKinds ((dropV l k) ++ ([⟨k, x, y⟩] : List V3)) 10).length) c'1), (3, eP B1 0), (0, eS av l.length c)] a := hf
     replace hf := hf.conv (env' := [(78, eB true), (11, eU (((lessN (maskN l) (bitN k)) : Nat) : Int)), (9, eU ((((maskN l) ||| bitN k) : Nat) : Int)), (8, eS a'2 ((dropV (byKinds ((dropV l k) ++ ([⟨k, x, y⟩] : List V3)) 10) k).length) c'2), (5, eS a'1 ((byKinds ((dropV l k) ++ ([⟨k, x, y⟩] : List V3)) 10).length) c'1), (3, eP B1 0), (0, eS av l.length c)]) (Ac (congrArg Value.bool hrp) (Ac rfl (Ac rfl (Ac rfl (Ac rfl (Ac rfl (Ao rfl)))))))
     refine q0 hf hM [79, 78, 11, 9, 8, 5, 3, 0] [{}] (env' := [(79, eS a'2 ((dropV (byKinds ((dropV l k) ++ ([⟨k, x, y⟩] : List V3)) 10) k).length) c'2), (78, eB true), (11, eU (((lessN (maskN l) (bitN k)) : Nat) : Int)), (9, eU ((((maskN l) ||| bitN k) : Nat) : Int)), (8, eS a'2 ((dropV (byKinds ((dropV l k) ++ ([⟨k, x, y⟩] : List V3)) 10) k).length) c'2), (5, eS a'1 ((byKinds ((dropV l k) ++ ([⟨k, x, y⟩] : List V3)) 10).length) c'1), (3, eP B1 0), (0, eS av l.length c)]) (ob := [true = true]) (Ao rfl) ?_
     clear hf; intro a hf
     refine sxcallg hf rfl rfl rfl rfl rfl (g := 41) (vs := [.slice a'2 ((dropV (byKinds ((dropV l k) ++ ([⟨k, x, y⟩] : List V3)) 10) k).length) c'2]) (ob := []) (by as_aux_lemma => kernel_rfl) An enters41 (sright E a'2 (dropV (byKinds ((dropV l k) ++ ([⟨k, x, y⟩] : List V3)) 10) k) c'2 w48  (own_arr (hO.own _ (List.Mem.head _))) (by first | omega | (simp; omega) | (simp; done) | exact Nat.le_trans (byKinds_len _ _) (by omega) | decide) (hG.keep hk0 (fun _ h => h))) ?_
     clear hf; rintro _ w49 a ⟨rfl, hk⟩ hf
     have hO := hO.keepNn hk
     have hM := hM.keepNn hk
     have hk0 := hk0.trans hk.nn
     clear hk
     refine q0 hf hM [82, 11, 9, 8, 5, 3, 0] [{}, {}] (env' := [(82, eB (rightV (dropV (byKinds ((dropV l k) ++ ([⟨k, x, y⟩] : List V3)) 10) k))), (11, eU (((lessN (maskN l) (bitN k)) : Nat) : Int)), (9, eU ((((maskN l) ||| bitN k) : Nat) : Int)), (8, eS a'2 ((dropV (byKinds ((dropV l k) ++ ([⟨k, x, y⟩] : List V3)) 10) k).length) c'2), (5, eS a'1 ((byKinds ((dropV l k) ++ ([⟨k, x, y⟩] : List V3)) 10).length) c'1), (3, eP B1 0), (0, eS av l.length c)]) (ob := []) An ?_
     clear hf; intro a hf
     have hf := hf.prune [82, 11, 9, 8, 5, 3, 0]
     replace hf : Fr 106 [(82, eB (rightV (dropV (byKinds ((dropV l k) ++ ([⟨k, x, y⟩] : List V3)) 10) k))), (11, eU (((lessN (maskN l) (bitN k)) : Nat) : Int)), (9, eU ((((maskN l) ||| bitN k) : Nat) : Int)), (8, eS a'2 ((dropV (byKinds ((dropV l k) ++ ([⟨k, x, y⟩] : List V3)) 10) k).length) c'2), (5, eS a'1 ((byKinds ((dropV l k) ++ ([⟨k, x, y⟩] : List V3)) 10).length) c'1), (3, eP B1 0), (0, eS av l.length c)] a := hf
     replace hf := hf.conv (env' := [(82, eB true), (11, eU (((lessN (maskN l) (bitN k)) : Nat) : Int)), (9, eU ((((maskN l) ||| bitN k) : Nat) : Int)), (8, eS a'2 ((dropV (byKinds ((dropV l k) ++ ([⟨k, x, y⟩] : List V3)) 10) k).length) c'2), (5, eS a'1 ((byKinds ((dropV l k) ++ ([⟨k, x, y⟩] : List V3)) 10).length) c'1), (3, eP B1 0), (0, eS av l.length c)]) (Ac (congrArg Value.bool hrg) (Ac rfl (Ac rfl (Ac rfl (Ac rfl (Ac rfl (Ao rfl)))))))
     refine q0 hf hM [83, 82, 11, 9, 8, 3, 0] [{}] (env' := [(83, eS a'1 ((byKinds ((dropV l k) ++ ([⟨k, x, y⟩] : List V3)) 10).length) c'1), (82, eB true), (11, eU (((lessN (maskN l) (bitN k)) : Nat) : Int)), (9, eU ((((maskN l) ||| bitN k) : Nat) : Int)), (8, eS a'2 ((dropV (byKinds ((dropV l k) ++ ([⟨k, x, y⟩] : List V3)) 10) k).length) c'2), (3, eP B1 0), (0, eS av l.length c)]) (ob := [true = true]) (Ao rfl) ?_
     clear hf; intro a hf
     refine sxcallg hf rfl rfl rfl rfl rfl (g := 45) (vs := [.slice a'1 ((byKinds ((dropV l k) ++ ([⟨k, x, y⟩] : List V3)) 10).length) c'1]) (ob := []) (by as_aux_lemma => kernel_rfl) An enters45 (smask E a'1 (byKinds ((dropV l k) ++ ([⟨k, x, y⟩] : List V3)) 10) c'1 w49  (own_arr (hO.own _ (List.Mem.tail _ (List.Mem.head _)))) (by first | omega | (simp; omega) | (simp; done) | exact Nat.le_trans (byKinds_len _ _) (by omega) | decide) (by assumption) (hG.keep hk0 (fun _ h => h))) ?_
     clear hf; rintro _ w50 a ⟨rfl, hk⟩ hf
     have hO := hO.keepNn hk
     have hM := hM.keepNn hk
     have hk0 := hk0.trans hk.nn
     clear hk
     refine q0 hf hM [89, 88, 11, 9, 8, 3, 0] [{}, { hint := some (bV true) }, {}, {}, {}] (env' := [(89, eS a'2 ((dropV (byKinds ((dropV l k) ++ ([⟨k, x, y⟩] : List V3)) 10) k).length) c'2), (88, eB true), (11, eU (((lessN (maskN l) (bitN k)) : Nat) : Int)), (9, eU ((((maskN l) ||| bitN k) : Nat) : Int)), (8, eS a'2 ((dropV (byKinds ((dropV l k) ++ ([⟨k, x, y⟩] : List V3)) 10) k).length) c'2), (3, eP B1 0), (0, eS av l.length c)]) (ob := [true = true, true = true, (bV (((((maskN (byKinds ((dropV l k) ++ ([⟨k, x, y⟩] : List V3)) 10)) : Nat) : Int) : Int) == ((((maskN l) ||| bitN k) : Nat) : Int)) : Value) = (bV true : Value), true = true]) (Ac rfl (Ac rfl (Ac (by rw [hmp]; simp) (Ao rfl)))) ?_
     clear hf; intro a hf
     refine sxcallg hf rfl rfl rfl rfl rfl (g := 45) (vs := [.slice a'2 ((dropV (byKinds ((dropV l k) ++ ([⟨k, x, y⟩] : List V3)) 10) k).length) c'2]) (ob := []) (by as_aux_lemma => kernel_rfl) An enters45 (smask E a'2 (dropV (byKinds ((dropV l k) ++ ([⟨k, x, y⟩] : List V3)) 10) k) c'2 w50  (own_arr (hO.own _ (List.Mem.head _))) (by first | omega | (simp; omega) | (simp; done) | exact Nat.le_trans (byKinds_len _ _) (by omega) | decide) (by assumption) (hG.keep hk0 (fun _ h => h))) ?_
     clear hf; rintro _ w51 a ⟨rfl, hk⟩ hf
     have hO := hO.keepNn hk
     have hM := hM.keepNn hk
     have hk0 := hk0.trans hk.nn
     clear hk
     refine q0 hf hM [98, 96, 95, 94, 9] [{}, { hint := some (bV true) }, {}, {}, {}, {}, {}, { os := [.ld 0 0] }] (env' := [(98, eI k), (96, eS av l.length c), (95, eS a'2 ((dropV (byKinds ((dropV l k) ++ ([⟨k, x, y⟩] : List V3)) 10) k).length) c'2), (94, eB true), (9, eU ((((maskN l) ||| bitN k) : Nat) : Int))]) (ob := [true = true, true = true, (bV (((((maskN (dropV (byKinds ((dropV l k) ++ ([⟨k, x, y⟩] : List V3)) 10) k)) : Nat) : Int) : Int) == (((lessN (maskN l) (bitN k)) : Nat) : Int)) : Value) = (bV true : Value), true = true, true = true, true = true, true = true, Ad B1 0]) (Ac rfl (Ac rfl (Ac (by rw [hmg]; simp) (Ac rfl (Ac rfl (Ac rfl (Ac rfl (Ao (ad _ _))))))))) ?_
     clear hf; intro a hf
     refine sxcallg hf rfl rfl rfl rfl rfl (g := 36) (vs := [.slice av l.length c, iV k]) (ob := []) (by as_aux_lemma => kernel_rfl) An enters36 (sdrop av l c k w51  (hav.keepNn hk0) (by first | omega | (simp; omega) | (simp; done) | exact Nat.le_trans (byKinds_len _ _) (by omega) | decide)) ?_
     clear hf; rintro _ w52 a ⟨a'6, c'6, rfl, hk, hx6⟩ hf
     have hO := hO.more hM hk (by have := hk0.size; omega) hx6
     replace hO : OwnOk w.heap.size [⟨B1, 62, [iV k, iV x, iV y]⟩, ⟨B15, 62, [iV ((findV (byKinds ((dropV l k) ++ ([⟨k, x, y⟩] : List V3)) 10) k).k), iV ((findV (byKinds ((dropV l k) ++ ([⟨k, x, y⟩] : List V3)) 10) k).a), iV ((findV (byKinds ((dropV l k) ++ ([⟨k, x, y⟩] : List V3)) 10) k).b)]⟩, ⟨B43, 3, [iV k]⟩, ⟨B56, 3, [iV k]⟩] [⟨62, 3, .slice a'6 (dropV l k).length c'6, (dropV l k).length, flat fV (dropV l k)⟩, ⟨62, 3, .slice a'2 ((dropV (byKinds ((dropV l k) ++ ([⟨k, x, y⟩] : List V3)) 10) k).length) c'2, (dropV (byKinds ((dropV l k) ++ ([⟨k, x, y⟩] : List V3)) 10) k).length, flat fV (dropV (byKinds ((dropV l k) ++ ([⟨k, x, y⟩] : List V3)) 10) k)⟩, ⟨62, 3, .slice a'1 ((byKinds ((dropV l k) ++ ([⟨k, x, y⟩] : List V3)) 10).length) c'1, (byKinds ((dropV l k) ++ ([⟨k, x, y⟩] : List V3)) 10).length, flat fV (byKinds ((dropV l k) ++ ([⟨k, x, y⟩] : List V3)) 10)⟩] _ := hO
     have hM := hM.keepNn hk
     have hk0 := hk0.trans hk.nn
     clear hk
     refine sxcallg hf rfl rfl rfl rfl rfl (g := 37) (vs := [.slice a'2 ((dropV (byKinds ((dropV l k) ++ ([⟨k, x, y⟩] : List V3)) 10) k).length) c'2, .slice a'6 (dropV l k).length c'6]) (ob := []) (by as_aux_lemma => kernel_rfl) An enters37 (rsame a'2 (dropV (byKinds ((dropV l k) ++ ([⟨k, x, y⟩] : List V3)) 10) k) c'2 a'6 (dropV l k) c'6 w52  (own_arr (hO.own _ (List.Mem.tail _ (List.Mem.head _)))) (by first | omega | (simp; omega) | (simp; done) | exact Nat.le_trans (byKinds_len _ _) (by omega) | decide) (own_arr (hO.own _ (List.Mem.head _))) (by first | omega | (simp; omega) | (simp; done) | exact Nat.le_trans (byKinds_len _ _) (by omega) | decide)) ?_
     clear hf; rintro _ w53 a ⟨rfl, hk⟩ hf
     have hO := hO.keepNn hk
     have hM := hM.keepNn hk
     have hk0 := hk0.trans hk.nn
     clear hk
     refine q0 hf hM [102, 9] [{}, {}] (env' := [(102, eB (sameL (dropV (byKinds ((dropV l k) ++ ([⟨k, x, y⟩] : List V3)) 10) k) (dropV l k))), (9, eU ((((maskN l) ||| bitN k) : Nat) : Int))]) (ob := []) An ?_
     clear hf; intro a hf
     have hf := hf.prune [102, 9]
     replace hf : Fr 106 [(102, eB (sameL (dropV (byKinds ((dropV l k) ++ ([⟨k, x, y⟩] : List V3)) 10) k) (dropV l k))), (9, eU ((((maskN l) ||| bitN k) : Nat) : Int))] a := hf
     replace hf := hf.conv (env' := [(102, eB true), (9, eU ((((maskN l) ||| bitN k) : Nat) : Int))]) (Ac (congrArg Value.bool hsg) (Ao rfl))
     refine q0 hf hM [103, 102] [{}] (env' := [(103, eU ((((maskN l) ||| bitN k) : Nat) : Int)), (102, eB true)]) (ob := [true = true]) (Ao rfl) ?_
     clear hf; intro a hf
     refine sxcallg hf rfl rfl rfl rfl rfl (g := 52) (vs := [uV ((((maskN l) ||| bitN k) : Nat) : Int), uV 0]) (ob := []) (by as_aux_lemma => kernel_rfl) An enters52 (mholds0 ((maskN l) ||| bitN k) w53  ) ?_
     clear hf; rintro _ w54 a ⟨rfl, hk⟩ hf
     have hO := hO.keepNn hk
     have hM := hM.keepNn hk
     have hk0 := hk0.trans hk.nn
     clear hk
     refine q0 hf hM [4] [{}, {}] (env' := [(4, eB true)]) (ob := []) An ?_
     clear hf; intro a hf
     refine wpList_nil ?_
     refine hK16 _ _ ?_
     refine wp_ret ?_
     refine qr (fn := Tryd.f11) hf hM [] (l := [bV true]) (ob := []) An ?_
     show (bV true : Value) = .bool true ∧ Keep Nn w w54
     refine ⟨congrArg Value.bool ?_, hk0⟩
     first | rfl | (simp; done) | (simp_all; done)

theorem schemaTurns_any (E : Nat → Addr) (av : Option Addr) (l : List V3) (c : Nat) (k x y : Int) (w : World) (hav : Arr w 3 av l.length c (flat fV l)) (hG : Errs [0, 3, 4] w 185 E) :
    Calls Tryd.prog 11 #[.slice av l.length c, .agg #[iV k, iV x, iV y]] w (Ret fun v w' => v = .bool true ∧ Keep Nn w w') := by
  rcases Bool.eq_false_or_eq_true (rightV l) with h | h
  · rcases Bool.eq_false_or_eq_true (vkind ⟨k, x, y⟩) with h0 | h0
    · rcases Bool.eq_false_or_eq_true (vrange ⟨k, x, y⟩) with h1 | h1
      · exact stu_ok E av l c k x y w h h0 h1 hav hG
      · exact stu_v E av l c k x y w h h0 h1 hav hG
    · exact stu_k E av l c k x y w h h0 hav hG
  · exact stu_r E av l c k x y w h hav hG
end Go.Proofs.YtifcgjnknikjkaaDoor
