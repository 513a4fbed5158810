/- laws of layer 2: OrderCounts -/
import Derived.Test.YtllopoaojchcmaaB5
namespace Go.Proofs.Ytllopoaojchcmaa
open Go.Px
set_option linter.unusedVariables false
set_option linter.unusedSimpArgs false

set_option maxRecDepth 10000 in
set_option maxHeartbeats 1600000 in
theorem orderCounts_any (av : Option Addr) (l : List H2) (c : Nat) (bv : Option Addr) (m : List H2) (cm : Nat) (w : World) (hav : Arr w 2 av l.length c (flat fH l)) (hbv : Arr w 2 bv m.length cm (flat fH m)) :
    Calls Try.prog 10 #[.slice av l.length c, .slice bv m.length cm] w (Ret fun v w' => v = .bool true ∧ Keep Nn w w') := by
 refine sxenter (n := 70) (args := [.slice av l.length c, .slice bv m.length cm]) Try.func10 rfl rfl rfl fun a hf => ?_
 replace hf : Fr 70 [(0, eS av l.length c), (1, eS bv m.length cm)] a := hf
 have hM : MemOk [] w := MemOk.nil w
 have hk0 : Keep Nn w w := Keep.refl _ _
 have hol := ordS_len (lt := ltH) l
 have hom := ordS_len (lt := ltH) m
 have hob := ordS_len (lt := ltH) ((ordS ltH l) ++ (ordS ltH m))
 rw [List.length_append] at hob
 have hob2 := ordS_len (lt := ltH) ((ordS ltH m) ++ (ordS ltH l))
 rw [List.length_append] at hob2
 have hrx := ordS_rises ordH l
 have hry := ordS_rises ordH m
 have hdl := dropP_len (inS (ordS ltH l)) (ordS ltH m)
 have hbl := both_len ordH hrx hry
 have hs0 : sameL (ordS ltH ((ordS ltH l) ++ (ordS ltH m))) (ordS ltH ((ordS ltH m) ++ (ordS ltH l))) = true := by rw [both_sym ordH (ordS ltH m) (ordS ltH l)]; exact sameL_refl _
 refine wp_seq_k (fun K1 hK1 => ?_)
 refine wp_region_lit ?_
 refine q0 hf hM [0, 1] [{}] (nw := []) An ?_
 clear hf; intro a hf
 refine wpList_nil ?_
 refine hK1 _ _ ?_
 refine wp_seq_k (fun K2 hK2 => ?_)
 refine wp_seq_k (fun K3 hK3 => ?_)
 refine wp_region_lit ?_
 refine sxcall hf rfl rfl rfl rfl (g := 12) (vs := []) (ob := []) (by as_aux_lemma => kernel_rfl) An enters12 (alive2  w  ) ?_
 clear hf; rintro _ w1 a ⟨rfl, hk⟩ hf
 have hM := hM.keepNn hk
 have hk0 := hk0.trans hk.nn
 clear hk
 refine q0 hf hM [0, 1] [{}] (nw := [(11, eB false)]) An ?_
 clear hf; intro a hf
 refine wpList_nil ?_
 refine hK3 _ _ ?_
 refine sxcond hf (b := false) (by kernel_rfl) (fun h => by cases h) (fun _ => ?_)
 refine wp_skip ?_
 refine hK2 _ _ ?_
 refine wp_seq_k (fun K4 hK4 => ?_)
 refine wp_seq_k (fun K5 hK5 => ?_)
 refine wp_region_lit ?_
 refine q0 hf hM [0, 1] [{}, {}, {}, {}, { g := .sym }, { g := .sym }, { g := .sym }, { hint := some (bV ((decide (((l.length : Int) : Int) > 100)) || (decide (((m.length : Int) : Int) > 100)))) }] (nw := [(19, eB ((decide (((l.length : Int) : Int) > 100)) || (decide (((m.length : Int) : Int) > 100))))]) (ob := [((decide (((l.length : Int) : Int) > 100)) = false → (decide (((l.length : Int) : Int) > 100)) = (decide (((l.length : Int) : Int) > 100))), ((decide (((l.length : Int) : Int) > 100)) = false → (decide (((l.length : Int) : Int) > 100)) = (decide (((l.length : Int) : Int) > 100))), ((decide (((l.length : Int) : Int) > 100)) = false → (decide (((l.length : Int) : Int) > 100)) = (decide (((l.length : Int) : Int) > 100))), (bif (decide (((l.length : Int) : Int) > 100)) then (bV true : Value) else bV (decide (((m.length : Int) : Int) > 100))) = .bool ((decide (((l.length : Int) : Int) > 100)) || (decide (((m.length : Int) : Int) > 100)))]) (Ac (fun hgd => rfl) (Ac (fun hgd => rfl) (Ac (fun _ => rfl) (Ao (pick_or _ _))))) ?_
 clear hf; intro a hf
 refine wpList_nil ?_
 refine hK5 _ _ ?_
 refine qc hf (b := ((decide (((l.length : Int) : Int) > 100)) || (decide (((m.length : Int) : Int) > 100)))) (fun hc2r => ?_) (fun hc2r => ?_)
 · have hc2 := hc2r
   try simp only [Bool.or_eq_true, Bool.and_eq_true, Bool.not_eq_true', Bool.not_eq_false', Bool.or_eq_false_iff, Bool.and_eq_false_iff, decide_eq_true_eq, decide_eq_false_iff_not, beq_iff_eq, bne_iff_ne, beq_eq_false_iff_ne, bne_eq_false_iff_eq, Bool.and_true, Bool.true_and, ne_eq] at hc2
   refine wp_seq_k (fun K6 hK6 => ?_)
   refine wp_region_lit ?_
   refine q0 hf hM [] [{}] (nw := [(4, eB true)]) An ?_
   clear hf; intro a hf
   refine wpList_nil ?_
   refine hK6 _ _ ?_
   refine wp_ret ?_
   refine qr (fn := Try.f10) hf hM [] (l := [bV true]) (ob := []) An ?_
   show (bV true : Value) = .bool true ∧ Keep Nn w w1
   exact ⟨rfl, hk0⟩
 · have hc2 := hc2r
   try simp only [Bool.or_eq_true, Bool.and_eq_true, Bool.not_eq_true', Bool.not_eq_false', Bool.or_eq_false_iff, Bool.and_eq_false_iff, decide_eq_true_eq, decide_eq_false_iff_not, beq_iff_eq, bne_iff_ne, beq_eq_false_iff_ne, bne_eq_false_iff_eq, Bool.and_true, Bool.true_and, ne_eq] at hc2
   refine wp_skip ?_
   refine hK4 _ _ ?_
   refine wp_seq_k (fun K7 hK7 => ?_)
   refine wp_region_lit ?_
   refine q0 hf hM [1] [{}] (nw := [(20, eS av l.length c)]) An ?_
   clear hf; intro a hf
   refine sxcall hf rfl rfl rfl rfl (g := 13) (vs := [.slice av l.length c]) (ob := []) (by as_aux_lemma => kernel_rfl) An enters13 (oHandles av l c w1  (hav.keepNn hk0) (by first | omega | (simp; omega) | (simp; done) | exact Nat.le_trans (byKinds_len _ _) (by omega) | decide)) ?_
   clear hf; rintro _ w2 a ⟨a'1, c'1, rfl, hk, hx1⟩ hf
   have hO : OwnOk w.heap.size [] [] w1 := OwnOk.nil hM
   have hO := hO.more hM hk (by have := hk0.size; omega) hx1
   replace hO : OwnOk w.heap.size [] [⟨28, 2, .slice a'1 (ordS ltH l).length c'1, (ordS ltH l).length, flat fH (ordS ltH l)⟩] _ := hO
   have hM := hM.keepNn hk
   have hk0 := hk0.trans hk.nn
   clear hk
   refine q0 hf hM [21] [{}] (nw := [(22, eS bv m.length cm)]) An ?_
   clear hf; intro a hf
   refine sxcall hf rfl rfl rfl rfl (g := 13) (vs := [.slice bv m.length cm]) (ob := []) (by as_aux_lemma => kernel_rfl) An enters13 (oHandles bv m cm w2  (hbv.keepNn hk0) (by first | omega | (simp; omega) | (simp; done) | exact Nat.le_trans (byKinds_len _ _) (by omega) | decide)) ?_
   clear hf; rintro _ w3 a ⟨a'2, c'2, rfl, hk, hx2⟩ hf
   have hO := hO.more hM hk (by have := hk0.size; omega) hx2
   replace hO : OwnOk w.heap.size [] [⟨28, 2, .slice a'2 (ordS ltH m).length c'2, (ordS ltH m).length, flat fH (ordS ltH m)⟩, ⟨28, 2, .slice a'1 (ordS ltH l).length c'1, (ordS ltH l).length, flat fH (ordS ltH l)⟩] _ := hO
   have hM := hM.keepNn hk
   have hk0 := hk0.trans hk.nn
   clear hk
   refine q0 hf hM [] [{}, {}] (nw := [(6, eS a'2 (ordS ltH m).length c'2), (5, eS a'1 (ordS ltH l).length c'1)]) An ?_
   clear hf; intro a hf
   refine wpList_nil ?_
   refine hK7 _ _ ?_
   refine wp_seq_k (fun K8 hK8 => ?_)
   refine wp_region_lit ?_
   refine q0 hf hM [6, 5] [{}, {}] (nw := [(25, eS a'2 (ordS ltH m).length c'2), (24, eS a'1 (ordS ltH l).length c'1)]) An ?_
   clear hf; intro a hf
   refine sxcall hf rfl rfl rfl rfl (g := 24) (vs := [.slice a'1 (ordS ltH l).length c'1, .slice a'2 (ordS ltH m).length c'2]) (ob := []) (by as_aux_lemma => kernel_rfl) An enters24 (omerge a'1 (ordS ltH l) c'1 a'2 (ordS ltH m) c'2 w3  (own_arr (hO.own _ (List.Mem.tail _ (List.Mem.head _)))) (own_arr (hO.own _ (List.Mem.head _))) (by omega)) ?_
   clear hf; rintro _ w4 a ⟨a'3, c'3, rfl, hk, hx3⟩ hf
   have hO := hO.more hM hk (by have := hk0.size; omega) hx3
   replace hO : OwnOk w.heap.size [] [⟨28, 2, .slice a'3 ((ordS ltH ((ordS ltH l) ++ (ordS ltH m))).length) c'3, (ordS ltH ((ordS ltH l) ++ (ordS ltH m))).length, flat fH (ordS ltH ((ordS ltH l) ++ (ordS ltH m)))⟩, ⟨28, 2, .slice a'2 (ordS ltH m).length c'2, (ordS ltH m).length, flat fH (ordS ltH m)⟩, ⟨28, 2, .slice a'1 (ordS ltH l).length c'1, (ordS ltH l).length, flat fH (ordS ltH l)⟩] _ := hO
   have hM := hM.keepNn hk
   have hk0 := hk0.trans hk.nn
   clear hk
   refine q0 hf hM [6, 5] [{}] (nw := [(7, eS a'3 ((ordS ltH ((ordS ltH l) ++ (ordS ltH m))).length) c'3)]) An ?_
   clear hf; intro a hf
   refine wpList_nil ?_
   refine hK8 _ _ ?_
   refine wp_seq_k (fun K9 hK9 => ?_)
   refine wp_seq_k (fun K10 hK10 => ?_)
   refine wp_region_lit ?_
   refine q0 hf hM [7, 6, 5] [{}, {}, {}, {}, {}, {}] (nw := [(32, eS a'1 (ordS ltH l).length c'1), (31, eS a'2 (ordS ltH m).length c'2), (30, eI ((ordS ltH l).length : Int)), (28, eI ((ordS ltH ((ordS ltH l) ++ (ordS ltH m))).length : Int))]) An ?_
   clear hf; intro a hf
   refine sxcall hf rfl rfl rfl rfl (g := 25) (vs := [.slice a'2 (ordS ltH m).length c'2, .slice a'1 (ordS ltH l).length c'1]) (ob := []) (by as_aux_lemma => kernel_rfl) An enters25 (ominus a'2 (ordS ltH m) c'2 a'1 (ordS ltH l) c'1 w4  (own_arr (hO.own _ (List.Mem.tail _ (List.Mem.head _)))) (by first | omega | (simp; omega) | (simp; done) | exact Nat.le_trans (byKinds_len _ _) (by omega) | decide) (own_arr (hO.own _ (List.Mem.tail _ (List.Mem.tail _ (List.Mem.head _))))) (by first | omega | (simp; omega) | (simp; done) | exact Nat.le_trans (byKinds_len _ _) (by omega) | decide) (by first | assumption | exact ordS_rises ordH _ | exact ordS_rises ordI _ | (unfold Rises; decide))) ?_
   clear hf; rintro _ w5 a ⟨a'4, c'4, rfl, hk, hx4⟩ hf
   have hO := hO.more hM hk (by have := hk0.size; omega) hx4
   replace hO : OwnOk w.heap.size [] [⟨28, 2, .slice a'4 ((dropP (inS (ordS ltH l)) (ordS ltH m)).length) c'4, (dropP (inS (ordS ltH l)) (ordS ltH m)).length, flat fH (dropP (inS (ordS ltH l)) (ordS ltH m))⟩, ⟨28, 2, .slice a'3 ((ordS ltH ((ordS ltH l) ++ (ordS ltH m))).length) c'3, (ordS ltH ((ordS ltH l) ++ (ordS ltH m))).length, flat fH (ordS ltH ((ordS ltH l) ++ (ordS ltH m)))⟩, ⟨28, 2, .slice a'2 (ordS ltH m).length c'2, (ordS ltH m).length, flat fH (ordS ltH m)⟩, ⟨28, 2, .slice a'1 (ordS ltH l).length c'1, (ordS ltH l).length, flat fH (ordS ltH l)⟩] _ := hO
   have hM := hM.keepNn hk
   have hk0 := hk0.trans hk.nn
   clear hk
   refine q0 hf hM [7, 6, 5] [{}, { hint := some (iV (((ordS ltH l).length : Int) + ((dropP (inS (ordS ltH l)) (ordS ltH m)).length : Int))) }, { hint := some (bV false) }, {}, {}, {}, {}] (nw := [(40, eS a'1 (ordS ltH l).length c'1), (39, eS a'2 (ordS ltH m).length c'2), (38, eS a'3 ((ordS ltH ((ordS ltH l) ++ (ordS ltH m))).length) c'3), (37, eB false)]) (ob := [(iV (IntKind.i64.wrap (((ordS ltH l).length : Int) + ((dropP (inS (ordS ltH l)) (ordS ltH m)).length : Int))) : Value) = (iV (((ordS ltH l).length : Int) + ((dropP (inS (ordS ltH l)) (ordS ltH m)).length : Int)) : Value), (bV ((((ordS ltH ((ordS ltH l) ++ (ordS ltH m))).length : Int) : Int) != (((ordS ltH l).length : Int) + ((dropP (inS (ordS ltH l)) (ordS ltH m)).length : Int))) : Value) = (bV false : Value), false = false, false = false, false = false]) (Ac (wr (by omega)) (Ac (congrArg Value.bool (neq_of (by omega))) (Ac rfl (Ac rfl (Ao rfl))))) ?_
   clear hf; intro a hf
   refine sxcallg hf rfl rfl rfl rfl rfl (g := 24) (vs := [.slice a'2 (ordS ltH m).length c'2, .slice a'1 (ordS ltH l).length c'1]) (ob := []) (by as_aux_lemma => kernel_rfl) An enters24 (omerge a'2 (ordS ltH m) c'2 a'1 (ordS ltH l) c'1 w5  (own_arr (hO.own _ (List.Mem.tail _ (List.Mem.tail _ (List.Mem.head _))))) (own_arr (hO.own _ (List.Mem.tail _ (List.Mem.tail _ (List.Mem.tail _ (List.Mem.head _)))))) (by omega)) ?_
   clear hf; rintro _ w6 a ⟨a'5, c'5, rfl, hk, hx5⟩ hf
   have hO := hO.more hM hk (by have := hk0.size; omega) hx5
   replace hO : OwnOk w.heap.size [] [⟨28, 2, .slice a'5 ((ordS ltH ((ordS ltH m) ++ (ordS ltH l))).length) c'5, (ordS ltH ((ordS ltH m) ++ (ordS ltH l))).length, flat fH (ordS ltH ((ordS ltH m) ++ (ordS ltH l)))⟩, ⟨28, 2, .slice a'4 ((dropP (inS (ordS ltH l)) (ordS ltH m)).length) c'4, (dropP (inS (ordS ltH l)) (ordS ltH m)).length, flat fH (dropP (inS (ordS ltH l)) (ordS ltH m))⟩, ⟨28, 2, .slice a'3 ((ordS ltH ((ordS ltH l) ++ (ordS ltH m))).length) c'3, (ordS ltH ((ordS ltH l) ++ (ordS ltH m))).length, flat fH (ordS ltH ((ordS ltH l) ++ (ordS ltH m)))⟩, ⟨28, 2, .slice a'2 (ordS ltH m).length c'2, (ordS ltH m).length, flat fH (ordS ltH m)⟩, ⟨28, 2, .slice a'1 (ordS ltH l).length c'1, (ordS ltH l).length, flat fH (ordS ltH l)⟩] _ := hO
   have hM := hM.keepNn hk
   have hk0 := hk0.trans hk.nn
   clear hk
   refine sxcallg hf rfl rfl rfl rfl rfl (g := 14) (vs := [.slice a'3 ((ordS ltH ((ordS ltH l) ++ (ordS ltH m))).length) c'3, .slice a'5 ((ordS ltH ((ordS ltH m) ++ (ordS ltH l))).length) c'5]) (ob := []) (by as_aux_lemma => kernel_rfl) An enters14 (rsameH a'3 (ordS ltH ((ordS ltH l) ++ (ordS ltH m))) c'3 a'5 (ordS ltH ((ordS ltH m) ++ (ordS ltH l))) c'5 w6  (own_arr (hO.own _ (List.Mem.tail _ (List.Mem.tail _ (List.Mem.head _))))) (by first | omega | (simp; omega) | (simp; done) | exact Nat.le_trans (byKinds_len _ _) (by omega) | decide) (own_arr (hO.own _ (List.Mem.head _))) (by first | omega | (simp; omega) | (simp; done) | exact Nat.le_trans (byKinds_len _ _) (by omega) | decide)) ?_
   clear hf; rintro _ w7 a ⟨rfl, hk⟩ hf
   have hO := hO.keepNn hk
   have hM := hM.keepNn hk
   have hk0 := hk0.trans hk.nn
   clear hk
   refine q0 hf hM [7, 6, 5] [{}, {}] (nw := [(44, eB (!(sameL (ordS ltH ((ordS ltH l) ++ (ordS ltH m))) (ordS ltH ((ordS ltH m) ++ (ordS ltH l))))))]) (ob := [false = false]) (Ao rfl) ?_
   clear hf; intro a hf
   refine wpList_nil ?_
   refine hK10 _ _ ?_
   refine sxcond hf (b := !(sameL (ordS ltH ((ordS ltH l) ++ (ordS ltH m))) (ordS ltH ((ordS ltH m) ++ (ordS ltH l))))) (by kernel_rfl) (fun h => absurd (h.symm.trans ((congrArg Bool.not hs0).trans rfl : (!(sameL (ordS ltH ((ordS ltH l) ++ (ordS ltH m))) (ordS ltH ((ordS ltH m) ++ (ordS ltH l)))) : Bool) = false)) (by simp)) (fun _ => ?_)
   refine wp_skip ?_
   refine hK9 _ _ ?_
   refine wp_seq_k (fun K11 hK11 => ?_)
   refine wp_seq_k (fun K12 hK12 => ?_)
   refine wp_region_lit ?_
   refine q0 hf hM [7, 6, 5] [{}, {}, {}] (nw := [(47, eI 0), (46, eI ((ordS ltH ((ordS ltH l) ++ (ordS ltH m))).length : Int)), (45, eS a'3 ((ordS ltH ((ordS ltH l) ++ (ordS ltH m))).length) c'3)]) An ?_
   clear hf; intro a hf
   refine wpList_nil ?_
   refine hK12 _ _ ?_
   refine wp_block ?_
   have hf := (hf.prune [5, 6, 7, 45, 46, 47]).to (env' := [(5, eS a'1 (ordS ltH l).length c'1), (6, eS a'2 (ordS ltH m).length c'2), (7, eS a'3 ((ordS ltH ((ordS ltH l) ++ (ordS ltH m))).length) c'3), (45, eS a'3 ((ordS ltH ((ordS ltH l) ++ (ordS ltH m))).length) c'3), (46, eI ((ordS ltH ((ordS ltH l) ++ (ordS ltH m))).length : Int)), (47, eI 0)]) (by kernel_rfl)
   refine sxloop (fun zm a w1 => ∃ (i : Int), zm = (((ordS ltH ((ordS ltH l) ++ (ordS ltH m))).length : Int) - i).toNat ∧ Fr 70 [(5, eS a'1 (ordS ltH l).length c'1), (6, eS a'2 (ordS ltH m).length c'2), (7, eS a'3 ((ordS ltH ((ordS ltH l) ++ (ordS ltH m))).length) c'3), (45, eS a'3 ((ordS ltH ((ordS ltH l) ++ (ordS ltH m))).length) c'3), (46, eI ((ordS ltH ((ordS ltH l) ++ (ordS ltH m))).length : Int)), (47, eI i)] a ∧ MemOk [] w1 ∧ Keep Nn w w1 ∧ OwnOk w.heap.size [] [⟨28, 2, .slice a'5 ((ordS ltH ((ordS ltH m) ++ (ordS ltH l))).length) c'5, (ordS ltH ((ordS ltH m) ++ (ordS ltH l))).length, flat fH (ordS ltH ((ordS ltH m) ++ (ordS ltH l)))⟩, ⟨28, 2, .slice a'4 ((dropP (inS (ordS ltH l)) (ordS ltH m)).length) c'4, (dropP (inS (ordS ltH l)) (ordS ltH m)).length, flat fH (dropP (inS (ordS ltH l)) (ordS ltH m))⟩, ⟨28, 2, .slice a'3 ((ordS ltH ((ordS ltH l) ++ (ordS ltH m))).length) c'3, (ordS ltH ((ordS ltH l) ++ (ordS ltH m))).length, flat fH (ordS ltH ((ordS ltH l) ++ (ordS ltH m)))⟩, ⟨28, 2, .slice a'2 (ordS ltH m).length c'2, (ordS ltH m).length, flat fH (ordS ltH m)⟩, ⟨28, 2, .slice a'1 (ordS ltH l).length c'1, (ordS ltH l).length, flat fH (ordS ltH l)⟩] w1 ∧ (0 ≤ i ∧ i ≤ ((ordS ltH ((ordS ltH l) ++ (ordS ltH m))).length : Int))) _ ⟨0, rfl, hf.conv (Ac rfl (Ac rfl (Ac rfl (Ac rfl (Ac rfl (Ao rfl)))))), hM, hk0, hO, (by omega)⟩ ?_
   clear hf hM hk0 hO
   rintro _ a w8 ⟨i, rfl, hf, hM, hk0, hO, hi⟩ L1 hL1
   refine wp_seq_k (fun K13 hK13 => ?_)
   refine wp_region_lit ?_
   refine q0 hf hM [5, 6, 7, 45, 46, 47] [{}] (nw := [(48, eB (decide ((i : Int) < ((ordS ltH ((ordS ltH l) ++ (ordS ltH m))).length : Int))))]) An ?_
   clear hf; intro a hf
   refine wpList_nil ?_
   refine hK13 _ _ ?_
   refine wp_seq_k (fun K14 hK14 => ?_)
   refine qc hf (b := (decide ((i : Int) < ((ordS ltH ((ordS ltH l) ++ (ordS ltH m))).length : Int)))) (fun hc4r => ?_) (fun hc4r => ?_)
   · have hc4 := (nT hc4r)
     refine wp_skip ?_
     refine hK14 _ _ ?_
     refine wp_seq_k (fun K15 hK15 => ?_)
     refine wp_block ?_
     refine wp_seq_k (fun K16 hK16 => ?_)
     refine wp_region_lit ?_
     refine q1 hf hM [5, 6, 7, 45, 46, 47] [{}, { sp := true }, { os := [.ex (iV (((ordS ltH ((ordS ltH l) ++ (ordS ltH m))).getD i.toNat ⟨0, 0⟩).i)), .ex (iV (((ordS ltH ((ordS ltH l) ++ (ordS ltH m))).getD i.toNat ⟨0, 0⟩).g))] }, { os := [.nw] }, {}, { os := [.st 0 0, .st 0 1] }] (nw := fun B15 => [(8, eI i), (9, eP B15 0)]) (M' := fun B15 => [⟨B15, 28, [iV (((ordS ltH ((ordS ltH l) ++ (ordS ltH m))).getD i.toNat ⟨0, 0⟩).i), iV (((ordS ltH ((ordS ltH l) ++ (ordS ltH m))).getD i.toNat ⟨0, 0⟩).g)]⟩]) (ob := fun B15 => [(0 : Int) ≤ i ∧ i < ((ordS ltH ((ordS ltH l) ++ (ordS ltH m))).length : Int), (a'3 : Option Addr).isSome = true, w8.cell? (((sa a'3 : Addr).add (i.toNat * 2)).add 0) = some (iV (((ordS ltH ((ordS ltH l) ++ (ordS ltH m))).getD i.toNat ⟨0, 0⟩).i)), w8.cell? (((sa a'3 : Addr).add (i.toNat * 2)).add 1) = some (iV (((ordS ltH ((ordS ltH l) ++ (ordS ltH m))).getD i.toNat ⟨0, 0⟩).g)), Ad B15 0, Ad B15 1]) (fun B15 => (Ac (by first | omega | (simp; done)) (Ac ((own_arr (hO.own _ (List.Mem.tail _ (List.Mem.tail _ (List.Mem.head _))))).some_ (by first | omega | (simp; done))) (Ac ((own_arr (hO.own _ (List.Mem.tail _ (List.Mem.tail _ (List.Mem.head _))))).get (fun _ => rfl) (by first | omega | (simp; done)) rfl) (Ac ((own_arr (hO.own _ (List.Mem.tail _ (List.Mem.tail _ (List.Mem.head _))))).get (fun _ => rfl) (by first | omega | (simp; done)) rfl) (Ac (ad _ _) (Ao (ad _ _)))))))) ?_
     clear hf hM; intro a w9 B15 hf hM hB hk
     have hbB15 : w.heap.size ≤ B15 := by have := hk0.size; omega
     have hk0 := hk0.then hk (by intro i _ h; cases h)
     have hO := hO.step hM (hk.mono (by intro _ _ h; cases h)) (by intro i h; simp only [Mem.names, List.map_cons, List.map_nil, List.mem_cons, List.not_mem_nil, or_false, List.map_append, List.cons_append, List.nil_append] at h ⊢; omega)
     clear hk hB
     refine wpList_nil ?_
     refine hK16 _ _ ?_
     refine wp_seq_k (fun K17 hK17 => ?_)
     refine wp_region_lit ?_
     refine q0 hf hM [8, 9, 5, 6, 7, 45, 46, 47] [{}, { os := [.ld 0 0, .ld 0 1] }] (nw := [(53, .val (.agg #[iV (((ordS ltH ((ordS ltH l) ++ (ordS ltH m))).getD i.toNat ⟨0, 0⟩).i), iV (((ordS ltH ((ordS ltH l) ++ (ordS ltH m))).getD i.toNat ⟨0, 0⟩).g)])), (52, eS a'3 ((ordS ltH ((ordS ltH l) ++ (ordS ltH m))).length) c'3)]) (ob := [Ad B15 0, Ad B15 1]) (Ac (ad _ _) (Ao (ad _ _))) ?_
     clear hf; intro a hf
     refine sxcall hf rfl rfl rfl rfl (g := 22) (vs := [.slice a'3 ((ordS ltH ((ordS ltH l) ++ (ordS ltH m))).length) c'3, .agg #[iV (((ordS ltH ((ordS ltH l) ++ (ordS ltH m))).getD i.toNat ⟨0, 0⟩).i), iV (((ordS ltH ((ordS ltH l) ++ (ordS ltH m))).getD i.toNat ⟨0, 0⟩).g)]]) (ob := []) (by as_aux_lemma => kernel_rfl) An enters22 (ofind a'3 (ordS ltH ((ordS ltH l) ++ (ordS ltH m))) c'3 (((ordS ltH ((ordS ltH l) ++ (ordS ltH m))).getD i.toNat ⟨0, 0⟩).i) (((ordS ltH ((ordS ltH l) ++ (ordS ltH m))).getD i.toNat ⟨0, 0⟩).g) w9  (own_arr (hO.own _ (List.Mem.tail _ (List.Mem.tail _ (List.Mem.head _))))) (by first | omega | (simp; omega) | (simp; done) | exact Nat.le_trans (byKinds_len _ _) (by omega) | decide) (by first | assumption | exact ordS_rises ordH _ | exact ordS_rises ordI _ | (unfold Rises; decide))) ?_
     clear hf; rintro _ w10 a ⟨rfl, hk⟩ hf
     have hO := hO.keepNn hk
     have hM := hM.keepNn hk
     have hk0 := hk0.trans hk.nn
     clear hk
     refine q0 hf hM [9, 5, 6, 7, 45, 46, 47] [{}, { hint := some (bV false) }, {}, {}, { os := [.ld 0 0, .ld 0 1] }] (nw := [(59, .val (.agg #[iV (((ordS ltH ((ordS ltH l) ++ (ordS ltH m))).getD i.toNat ⟨0, 0⟩).i), iV (((ordS ltH ((ordS ltH l) ++ (ordS ltH m))).getD i.toNat ⟨0, 0⟩).g)])), (58, eS a'1 (ordS ltH l).length c'1), (57, eB false)]) (ob := [(bV (((findS ltH (ordS ltH ((ordS ltH l) ++ (ordS ltH m))) (⟨(((ordS ltH ((ordS ltH l) ++ (ordS ltH m))).getD i.toNat ⟨0, 0⟩).i), (((ordS ltH ((ordS ltH l) ++ (ordS ltH m))).getD i.toNat ⟨0, 0⟩).g)⟩ : H2)) : Int) != i) : Value) = (bV false : Value), false = false, false = false, Ad B15 0, Ad B15 1]) (Ac (congrArg Value.bool (neq_of (findS_at ordH (ordS_rises ordH _) ⟨0, 0⟩ (by omega)))) (Ac rfl (Ac rfl (Ac (ad _ _) (Ao (ad _ _)))))) ?_
     clear hf; intro a hf
     refine sxcallg hf rfl rfl rfl rfl rfl (g := 22) (vs := [.slice a'1 (ordS ltH l).length c'1, .agg #[iV (((ordS ltH ((ordS ltH l) ++ (ordS ltH m))).getD i.toNat ⟨0, 0⟩).i), iV (((ordS ltH ((ordS ltH l) ++ (ordS ltH m))).getD i.toNat ⟨0, 0⟩).g)]]) (ob := []) (by as_aux_lemma => kernel_rfl) An enters22 (ofind a'1 (ordS ltH l) c'1 (((ordS ltH ((ordS ltH l) ++ (ordS ltH m))).getD i.toNat ⟨0, 0⟩).i) (((ordS ltH ((ordS ltH l) ++ (ordS ltH m))).getD i.toNat ⟨0, 0⟩).g) w10  (own_arr (hO.own _ (List.Mem.tail _ (List.Mem.tail _ (List.Mem.tail _ (List.Mem.tail _ (List.Mem.head _))))))) (by first | omega | (simp; omega) | (simp; done) | exact Nat.le_trans (byKinds_len _ _) (by omega) | decide) (by first | assumption | exact ordS_rises ordH _ | exact ordS_rises ordI _ | (unfold Rises; decide))) ?_
     clear hf; rintro _ w11 a ⟨rfl, hk⟩ hf
     have hO := hO.keepNn hk
     have hM := hM.keepNn hk
     have hk0 := hk0.trans hk.nn
     clear hk
     refine q0 hf hM [60, 59, 58, 57, 9, 5, 6, 7, 45, 46, 47] [{}, {}] (nw := [(62, eB (decide (((findS ltH (ordS ltH l) (⟨(((ordS ltH ((ordS ltH l) ++ (ordS ltH m))).getD i.toNat ⟨0, 0⟩).i), (((ordS ltH ((ordS ltH l) ++ (ordS ltH m))).getD i.toNat ⟨0, 0⟩).g)⟩ : H2)) : Int) < 0))), (61, eB (decide (((findS ltH (ordS ltH l) (⟨(((ordS ltH ((ordS ltH l) ++ (ordS ltH m))).getD i.toNat ⟨0, 0⟩).i), (((ordS ltH ((ordS ltH l) ++ (ordS ltH m))).getD i.toNat ⟨0, 0⟩).g)⟩ : H2)) : Int) < 0)))]) (ob := [false = false, false = false]) (Ac rfl (Ao rfl)) ?_
     clear hf; intro a hf
     rcases Bool.eq_false_or_eq_true (decide (((findS ltH (ordS ltH l) (⟨(((ordS ltH ((ordS ltH l) ++ (ordS ltH m))).getD i.toNat ⟨0, 0⟩).i), (((ordS ltH ((ordS ltH l) ++ (ordS ltH m))).getD i.toNat ⟨0, 0⟩).g)⟩ : H2)) : Int) < 0)) with hg1r | hg1r
     · have hg1 := (nT hg1r)
       have hf := (hf.setb 62 hg1r).setb 61 hg1r
       refine q0 hf hM [62, 61, 60, 59, 58, 57, 5, 6, 7, 45, 46, 47] [{}, { os := [.ld 0 0, .ld 0 1] }] (nw := [(64, .val (.agg #[iV (((ordS ltH ((ordS ltH l) ++ (ordS ltH m))).getD i.toNat ⟨0, 0⟩).i), iV (((ordS ltH ((ordS ltH l) ++ (ordS ltH m))).getD i.toNat ⟨0, 0⟩).g)])), (63, eS a'2 (ordS ltH m).length c'2)]) (ob := [true = true, true = true, Ad B15 0, Ad B15 1]) (Ac rfl (Ac rfl (Ac (ad _ _) (Ao (ad _ _))))) ?_
       clear hf; intro a hf
       refine sxcallg hf rfl rfl rfl rfl rfl (g := 22) (vs := [.slice a'2 (ordS ltH m).length c'2, .agg #[iV (((ordS ltH ((ordS ltH l) ++ (ordS ltH m))).getD i.toNat ⟨0, 0⟩).i), iV (((ordS ltH ((ordS ltH l) ++ (ordS ltH m))).getD i.toNat ⟨0, 0⟩).g)]]) (ob := []) (by as_aux_lemma => kernel_rfl) An enters22 (ofind a'2 (ordS ltH m) c'2 (((ordS ltH ((ordS ltH l) ++ (ordS ltH m))).getD i.toNat ⟨0, 0⟩).i) (((ordS ltH ((ordS ltH l) ++ (ordS ltH m))).getD i.toNat ⟨0, 0⟩).g) w11  (own_arr (hO.own _ (List.Mem.tail _ (List.Mem.tail _ (List.Mem.tail _ (List.Mem.head _)))))) (by first | omega | (simp; omega) | (simp; done) | exact Nat.le_trans (byKinds_len _ _) (by omega) | decide) (by first | assumption | exact ordS_rises ordH _ | exact ordS_rises ordI _ | (unfold Rises; decide))) ?_
       clear hf; rintro _ w12 a ⟨rfl, hk⟩ hf
       have hO := hO.keepNn hk
       have hM := hM.keepNn hk
       have hk0 := hk0.trans hk.nn
       clear hk
       refine q0 hf hM [65, 64, 63, 62, 61, 60, 59, 58, 5, 6, 7, 45, 46, 47] [{}, {}, {}] (nw := [(68, eB (decide (((findS ltH (ordS ltH m) (⟨(((ordS ltH ((ordS ltH l) ++ (ordS ltH m))).getD i.toNat ⟨0, 0⟩).i), (((ordS ltH ((ordS ltH l) ++ (ordS ltH m))).getD i.toNat ⟨0, 0⟩).g)⟩ : H2)) : Int) < 0))), (67, eB (decide (((findS ltH (ordS ltH m) (⟨(((ordS ltH ((ordS ltH l) ++ (ordS ltH m))).getD i.toNat ⟨0, 0⟩).i), (((ordS ltH ((ordS ltH l) ++ (ordS ltH m))).getD i.toNat ⟨0, 0⟩).g)⟩ : H2)) : Int) < 0))), (66, eB (decide (((findS ltH (ordS ltH m) (⟨(((ordS ltH ((ordS ltH l) ++ (ordS ltH m))).getD i.toNat ⟨0, 0⟩).i), (((ordS ltH ((ordS ltH l) ++ (ordS ltH m))).getD i.toNat ⟨0, 0⟩).g)⟩ : H2)) : Int) < 0)))]) (ob := [true = true, false = false]) (Ac rfl (Ao rfl)) ?_
       clear hf; intro a hf
       refine wpList_nil ?_
       refine hK17 _ _ ?_
       refine qc hf (b := (decide (((findS ltH (ordS ltH m) (⟨(((ordS ltH ((ordS ltH l) ++ (ordS ltH m))).getD i.toNat ⟨0, 0⟩).i), (((ordS ltH ((ordS ltH l) ++ (ordS ltH m))).getD i.toNat ⟨0, 0⟩).g)⟩ : H2)) : Int) < 0))) (fun hc5r => ?_) (fun hc5r => ?_)
       · have hc5 := (nT hc5r)
         refine wp_seq_k (fun K18 hK18 => ?_)
         refine wp_region_lit ?_
         refine q0 hf hM [] [{}] (nw := [(4, eB false)]) An ?_
         clear hf; intro a hf
         refine wpList_nil ?_
         refine hK18 _ _ ?_
         refine wp_ret ?_
         refine qr (fn := Try.f10) hf hM [] (l := [bV false]) (ob := []) An ?_
         show (bV false : Value) = .bool true ∧ Keep Nn w w12
         exfalso
         exact both_no (by assumption) (by assumption) (both_at ordH (i := i) ⟨0, 0⟩ (by omega))
       · have hc5 := (nU hc5r)
         refine wp_skip ?_
         refine hK15 _ _ ?_
         refine wp_region_lit ?_
         refine q0 hf hM [67, 66, 65, 64, 63, 62, 61, 60, 59, 58, 5, 6, 7, 45, 46] [{ hint := some (iV (i + 1)) }, {}] (nw := [(47, eI (i + 1))]) (ob := [(iV (IntKind.i64.wrap (i + 1)) : Value) = (iV (i + 1) : Value)]) (Ao (wr (by omega))) ?_
         clear hf; intro a hf
         refine wpList_nil ?_
         have hf := (hf.prune [5, 6, 7, 45, 46, 47]).to (env' := [(5, eS a'1 (ordS ltH l).length c'1), (6, eS a'2 (ordS ltH m).length c'2), (7, eS a'3 ((ordS ltH ((ordS ltH l) ++ (ordS ltH m))).length) c'3), (45, eS a'3 ((ordS ltH ((ordS ltH l) ++ (ordS ltH m))).length) c'3), (46, eI ((ordS ltH ((ordS ltH l) ++ (ordS ltH m))).length : Int)), (47, eI (i + 1))]) (by kernel_rfl)
         replace hO : OwnOk w.heap.size [] [⟨28, 2, .slice a'5 ((ordS ltH ((ordS ltH m) ++ (ordS ltH l))).length) c'5, (ordS ltH ((ordS ltH m) ++ (ordS ltH l))).length, flat fH (ordS ltH ((ordS ltH m) ++ (ordS ltH l)))⟩, ⟨28, 2, .slice a'4 ((dropP (inS (ordS ltH l)) (ordS ltH m)).length) c'4, (dropP (inS (ordS ltH l)) (ordS ltH m)).length, flat fH (dropP (inS (ordS ltH l)) (ordS ltH m))⟩, ⟨28, 2, .slice a'3 ((ordS ltH ((ordS ltH l) ++ (ordS ltH m))).length) c'3, (ordS ltH ((ordS ltH l) ++ (ordS ltH m))).length, flat fH (ordS ltH ((ordS ltH l) ++ (ordS ltH m)))⟩, ⟨28, 2, .slice a'2 (ordS ltH m).length c'2, (ordS ltH m).length, flat fH (ordS ltH m)⟩, ⟨28, 2, .slice a'1 (ordS ltH l).length c'1, (ordS ltH l).length, flat fH (ordS ltH l)⟩] w12 := hO.sub (.cons _ .slnil) (List.Sublist.refl _)
         replace hM : MemOk [] w12 := hM.sub (.cons _ .slnil)
         refine hL1 _ _ _ (by omega) ⟨i + 1, rfl, hf.conv (Ac rfl (Ac rfl (Ac rfl (Ac rfl (Ac rfl (Ao rfl)))))), hM, hk0, hO, (by omega)⟩
     · have hg1 := (nU hg1r)
       have hf := (hf.setb 62 hg1r).setb 61 hg1r
       refine q0 hf hM [62, 61, 60, 59, 58, 57, 5, 6, 7, 45, 46, 47] [{ g := .off }, { g := .off }] (nw := [(64, .val (undef)), (63, .val (undef))]) (ob := [false = !true, false = !true]) (Ac rfl (Ao rfl)) ?_
       clear hf; intro a hf
       refine q0 hf hM [64, 63, 62, 61, 60, 59, 58, 5, 6, 7, 45, 46, 47] [{ g := .off }, { g := .off }, {}, {}] (nw := [(68, eB false), (67, eB false), (66, .val (undef)), (65, .val (undef))]) (ob := [false = !true, false = !true, false = false]) (Ac rfl (Ac rfl (Ao rfl))) ?_
       clear hf; intro a hf
       refine wpList_nil ?_
       refine hK17 _ _ ?_
       refine sxcond hf (b := false) (by kernel_rfl) (fun h => by cases h) (fun _ => ?_)
       refine wp_skip ?_
       refine hK15 _ _ ?_
       refine wp_region_lit ?_
       refine q0 hf hM [67, 66, 65, 64, 63, 62, 61, 60, 59, 58, 5, 6, 7, 45, 46] [{ hint := some (iV (i + 1)) }, {}] (nw := [(47, eI (i + 1))]) (ob := [(iV (IntKind.i64.wrap (i + 1)) : Value) = (iV (i + 1) : Value)]) (Ao (wr (by omega))) ?_
       clear hf; intro a hf
       refine wpList_nil ?_
       have hf := (hf.prune [5, 6, 7, 45, 46, 47]).to (env' := [(5, eS a'1 (ordS ltH l).length c'1), (6, eS a'2 (ordS ltH m).length c'2), (7, eS a'3 ((ordS ltH ((ordS ltH l) ++ (ordS ltH m))).length) c'3), (45, eS a'3 ((ordS ltH ((ordS ltH l) ++ (ordS ltH m))).length) c'3), (46, eI ((ordS ltH ((ordS ltH l) ++ (ordS ltH m))).length : Int)), (47, eI (i + 1))]) (by kernel_rfl)
       replace hO : OwnOk w.heap.size [] [⟨28, 2, .slice a'5 ((ordS ltH ((ordS ltH m) ++ (ordS ltH l))).length) c'5, (ordS ltH ((ordS ltH m) ++ (ordS ltH l))).length, flat fH (ordS ltH ((ordS ltH m) ++ (ordS ltH l)))⟩, ⟨28, 2, .slice a'4 ((dropP (inS (ordS ltH l)) (ordS ltH m)).length) c'4, (dropP (inS (ordS ltH l)) (ordS ltH m)).length, flat fH (dropP (inS (ordS ltH l)) (ordS ltH m))⟩, ⟨28, 2, .slice a'3 ((ordS ltH ((ordS ltH l) ++ (ordS ltH m))).length) c'3, (ordS ltH ((ordS ltH l) ++ (ordS ltH m))).length, flat fH (ordS ltH ((ordS ltH l) ++ (ordS ltH m)))⟩, ⟨28, 2, .slice a'2 (ordS ltH m).length c'2, (ordS ltH m).length, flat fH (ordS ltH m)⟩, ⟨28, 2, .slice a'1 (ordS ltH l).length c'1, (ordS ltH l).length, flat fH (ordS ltH l)⟩] w11 := hO.sub (.cons _ .slnil) (List.Sublist.refl _)
       replace hM : MemOk [] w11 := hM.sub (.cons _ .slnil)
       refine hL1 _ _ _ (by omega) ⟨i + 1, rfl, hf.conv (Ac rfl (Ac rfl (Ac rfl (Ac rfl (Ac rfl (Ao rfl)))))), hM, hk0, hO, (by omega)⟩
   · have hc4 := (nU hc4r)
     refine wp_exit ?_
     refine hK11 _ _ ?_
     refine wp_seq_k (fun K19 hK19 => ?_)
     refine wp_region_lit ?_
     refine q0 hf hM [] [{}] (nw := [(4, eB true)]) An ?_
     clear hf; intro a hf
     refine wpList_nil ?_
     refine hK19 _ _ ?_
     refine wp_ret ?_
     refine qr (fn := Try.f10) hf hM [] (l := [bV true]) (ob := []) An ?_
     show (bV true : Value) = .bool true ∧ Keep Nn w w8
     exact ⟨rfl, hk0⟩
end Go.Proofs.Ytllopoaojchcmaa
