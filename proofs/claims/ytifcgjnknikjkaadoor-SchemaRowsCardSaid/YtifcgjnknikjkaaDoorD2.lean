/- laws of layer 6: rows -/
import Derived.Test.YtifcgjnknikjkaaDoorD4
namespace Go.Proofs.YtifcgjnknikjkaaDoor
open Go.Px
set_option linter.unusedVariables false
set_option linter.unusedSimpArgs false
theorem enters18 : enters Tryd.prog 18 := ⟨_, Tryd.func18, by kernel_rfl, rfl⟩

set_option maxRecDepth 10000 in
set_option maxHeartbeats 4000000 in
theorem sro_kind (E : Nat → Addr) (av : Option Addr) (l : List V3) (c : Nat) (w : World) (hn0 : (firstBad l == 5) = true) (hav : Arr w 3 av l.length c (flat fV l)) (hG : Errs [0, 1, 2, 3, 4, 5, 6, 7, 8, 9] w 185 E) :
    Calls Tryd.prog 8 #[.slice av l.length c] w (Ret fun v w' => v = .bool true ∧ Keep Nn w w') := by
  refine sxenter (n := 47) (args := [.slice av l.length c]) Tryd.func8 rfl rfl rfl fun a hf => ?_
  replace hf : Fr 47 [(0, .val (.slice av l.length c))] a := hf
  have hM : MemOk [] w := MemOk.nil w
  have hk0 : Keep Nn w w := Keep.refl _ _
  have hn : firstBad l = 5 := by simpa using hn0
  have hb1 : (firstBad l == 1) = false := by rw [hn]; decide
  have hb0 : (firstBad l == 0) = false := by rw [hn]; decide
  have hse : sameL ([] : List V3) [] = true := rfl
  have hsl := sameL_refl l
  have hsb := sameL_refl (byKinds l 10)
  refine wp_seq_k (fun K1 hK1 => ?_)
  refine wp_region_lit ?_
  refine sr0 hf hM [0] [{}] (env' := [(0, .val (.slice av l.length c))]) (ob := []) (fun B => by as_aux_lemma => kernel_rfl) rfl An ?_
  clear hf; intro a hf
  refine wpList_nil ?_
  refine hK1 _ _ ?_
  refine wp_seq_k (fun K2 hK2 => ?_)
  refine wp_seq_k (fun K3 hK3 => ?_)
  refine wp_region_lit ?_
  refine sxcall hf rfl rfl rfl rfl (g := 29) (vs := []) (ob := []) (by as_aux_lemma => kernel_rfl) An enters29 (alive6 E w  (hG.keep hk0 (fun _ h => h))) ?_
  clear hf; rintro _ w1 a ⟨rfl, hk⟩ hf
  have hM := hM.keepNn hk
  have hk0 := hk0.trans hk.nn
  clear hk
  refine sr0 hf hM [9, 0] [{}] (env' := [(9, .val (.bool false)), (0, .val (.slice av l.length c))]) (ob := []) (fun B => by as_aux_lemma => kernel_rfl) rfl An ?_
  clear hf; intro a hf
  refine wpList_nil ?_
  refine hK3 _ _ ?_
  refine sxcond hf (b := false) (by kernel_rfl) (fun h => by cases h) (fun _ => ?_)
  refine wp_skip ?_
  refine hK2 _ _ ?_
  refine wp_seq_k (fun K4 hK4 => ?_)
  refine wp_seq_k (fun K5 hK5 => ?_)
  refine wp_region_lit ?_
  refine sr0 hf hM [12, 0] [{}, {}, {}] (env' := [(12, .val (.bool (decide (((l.length : Int) : Int) > 100)))), (0, .val (.slice av l.length c))]) (ob := []) (fun B => by as_aux_lemma => kernel_rfl) rfl An ?_
  clear hf; intro a hf
  refine wpList_nil ?_
  refine hK5 _ _ ?_
  refine sxcond hf (b := (decide (((l.length : Int) : Int) > 100))) (by kernel_rfl) (fun hc2 => ?_) (fun hc2 => ?_)
  · have hc2r := hc2
    try simp only [Bool.or_eq_true, Bool.and_eq_true, Bool.not_eq_true', Bool.not_eq_false', Bool.or_eq_false_iff, Bool.and_eq_false_iff, decide_eq_true_eq, decide_eq_false_iff_not, beq_iff_eq, bne_iff_ne, beq_eq_false_iff_ne, bne_eq_false_iff_eq, Bool.and_true, Bool.true_and, ne_eq] at hc2
    refine wp_seq_k (fun K6 hK6 => ?_)
    refine wp_region_lit ?_
    refine sr0 hf hM [2] [{}] (env' := [(2, .val (.bool true))]) (ob := []) (fun B => by as_aux_lemma => kernel_rfl) rfl An ?_
    clear hf; intro a hf
    refine wpList_nil ?_
    refine hK6 _ _ ?_
    refine wp_ret ?_
    refine sxret (fn := Tryd.f8) hf hM [] (l := [.bool true]) (M' := []) (d' := false) (ob := []) (by kernel_rfl) (fun B => ⟨B, by as_aux_lemma => kernel_rfl⟩) rfl An ?_
    show (.bool true : Value) = .bool true ∧ Keep Nn w w1
    refine ⟨congrArg Value.bool ?_, hk0⟩
    first | rfl | (simp [hn]; done) | (simp_all; done)
  · have hc2r := hc2
    try simp only [Bool.or_eq_true, Bool.and_eq_true, Bool.not_eq_true', Bool.not_eq_false', Bool.or_eq_false_iff, Bool.and_eq_false_iff, decide_eq_true_eq, decide_eq_false_iff_not, beq_iff_eq, bne_iff_ne, beq_eq_false_iff_ne, bne_eq_false_iff_eq, Bool.and_true, Bool.true_and, ne_eq] at hc2
    refine wp_skip ?_
    refine hK4 _ _ ?_
    refine wp_seq_k (fun K7 hK7 => ?_)
    refine wp_region_lit ?_
    refine sxbslice hf hM (t := 23) (e := 62) (len := 0) (cs := []) (ob := []) rfl rfl rfl rfl (by as_aux_lemma => kernel_rfl) An (by as_aux_lemma => kernel_rfl) ?_
    clear hf hM; intro a w2 B5 hf hM hB hk
    replace hM : MemOk [⟨B5, 62, []⟩] w2 := hM
    have hbB5 : w.heap.size ≤ B5 := by have := hk0.size; omega
    have hk0 := hk0.trans hk.nn
    clear hk hB
    refine sr0 hf hM [14, 13, 0] [{}] (env' := [(14, .val (.slice av l.length c)), (13, .val (.slice (some ⟨B5, 0, none⟩) 0 0)), (0, .val (.slice av l.length c))]) (ob := []) (fun B => by as_aux_lemma => kernel_rfl) rfl An ?_
    clear hf; intro a hf
    have hO : OwnOk w.heap.size [⟨B5, 62, []⟩] [] w2 := OwnOk.nil hM
    replace hO := OwnOk.took (M1 := []) (M2 := []) (sz := 3) hO hM (n := 0) (c := 0) (by have := hk0.size; omega) (by decide) (by decide) rfl
    replace hM : MemOk [] w2 := hM.sub (.cons _ .slnil)
    replace hO : OwnOk w.heap.size [] [⟨62, 3, .slice (some ⟨B5, 0, none⟩) 0 0, 0, flat fV ([] : List V3)⟩] w2 := hO
    replace hO : OwnOk w.heap.size [] [⟨62, 3, .slice (some ⟨B5, 0, none⟩) 0 0, 0, flat fV ([] : List V3)⟩] w2 := OwnOk.front (l1 := []) (l2 := []) hO
    refine sxappend hf hM (e := 62) (sz := 3) (by_ := 24) (k := 0) (v := .slice (some ⟨B5, 0, none⟩) 0 0) (xs := flat fV ([] : List V3)) hO rfl rfl rfl rfl (av := av) (m := l.length) (c := c) rfl rfl Tryd.underlying23 (by kernel_rfl) rfl (news := flat fV l) (hav.keepNn hk0) (flat_one1 fV_one) (by simp only [maxLen]; constructor <;> (first | omega | (simp; omega))) (by have := hk0.size; omega) ?_
    clear hf hM hO; intro a w3 av1 cv1 hf hM hO hk
    have en : (0 + l.length : Nat) = l.length := (by simp)
    have ec : flat fV ([] : List V3) ++ flat fV l = flat fV l := (by simp [flat_app, flat_nil])
    rw [en] at hf hO; rw [ec] at hO; clear en ec
    replace hO : OwnOk w.heap.size [] [⟨62, 3, .slice av1 l.length cv1, l.length, flat fV l⟩] w3 := hO
    have hk0 := hk0.then hk (by intro i hi h; have := h.1; omega)
    clear hk
    refine sr0 hf hM [3, 0] [{}] (env' := [(3, .val (.slice av1 l.length cv1)), (0, .val (.slice av l.length c))]) (ob := []) (fun B => by as_aux_lemma => kernel_rfl) rfl An ?_
    clear hf; intro a hf
    refine wpList_nil ?_
    refine hK7 _ _ ?_
    refine wp_seq_k (fun K8 hK8 => ?_)
    refine wp_region_lit ?_
    refine sr0 hf hM [17, 3, 0] [{}] (env' := [(17, .val (.slice av1 l.length cv1)), (3, .val (.slice av1 l.length cv1)), (0, .val (.slice av l.length c))]) (ob := []) (fun B => by as_aux_lemma => kernel_rfl) rfl An ?_
    clear hf; intro a hf
    refine sxcall hf rfl rfl rfl rfl (g := 40) (vs := [.slice av1 l.length cv1]) (ob := []) (by as_aux_lemma => kernel_rfl) An enters40 (srow_kind E av1 l cv1 w3 hn0 (own_arr (hO.own _ (List.Mem.head _))) (by first | omega | (simp; omega) | (simp; done) | exact Nat.le_trans (byKinds_len _ _) (by omega) | decide) (hG.keep hk0 (fun _ h => h))) ?_
    clear hf; rintro _ w4 a ⟨rfl, hk⟩ hf
    have hO := hO.keepNn hk
    have hM := hM.keepNn hk
    have hk0 := hk0.trans hk.nn
    clear hk
    refine sr0 hf hM [5, 4, 3, 0] [{}, {}, {}, {}, {}] (env' := [(5, .val (.iface 185 (.pointer (some (E 4))))), (4, .val (.slice none 0 0)), (3, .val (.slice av1 l.length cv1)), (0, .val (.slice av l.length c))]) (ob := []) (fun B => by as_aux_lemma => kernel_rfl) rfl An ?_
    clear hf; intro a hf
    refine wpList_nil ?_
    refine hK8 _ _ ?_
    refine wp_seq_k (fun K9 hK9 => ?_)
    refine wp_region_lit ?_
    refine sr0 hf hM [22, 5, 4, 3, 0] [{}] (env' := [(22, .val (.slice av l.length c)), (5, .val (.iface 185 (.pointer (some (E 4))))), (4, .val (.slice none 0 0)), (3, .val (.slice av1 l.length cv1)), (0, .val (.slice av l.length c))]) (ob := []) (fun B => by as_aux_lemma => kernel_rfl) rfl An ?_
    clear hf; intro a hf
    refine sxcall hf rfl rfl rfl rfl (g := 33) (vs := [.slice av l.length c]) (ob := []) (by as_aux_lemma => kernel_rfl) An enters33 (rrow_bad av l c w4 hb0 (hav.keepNn hk0) (by first | omega | (simp; omega) | (simp; done) | exact Nat.le_trans (byKinds_len _ _) (by omega) | decide)) ?_
    clear hf; rintro _ w5 a ⟨rfl, hk⟩ hf
    have hO := hO.keepNn hk
    have hM := hM.keepNn hk
    have hk0 := hk0.trans hk.nn
    clear hk
    refine sr0 hf hM [7, 6, 5, 4, 3, 0] [{}, {}, {}, {}, {}] (env' := [(7, .val (.int .i64 (firstBad l))), (6, .val (.slice none 0 0)), (5, .val (.iface 185 (.pointer (some (E 4))))), (4, .val (.slice none 0 0)), (3, .val (.slice av1 l.length cv1)), (0, .val (.slice av l.length c))]) (ob := []) (fun B => by as_aux_lemma => kernel_rfl) rfl An ?_
    clear hf; intro a hf
    refine wpList_nil ?_
    refine hK9 _ _ ?_
    refine wp_seq_k (fun K10 hK10 => ?_)
    refine wp_region_lit ?_
    refine sr0 hf hM [27, 26, 7, 5, 3, 0] [{}, {}] (env' := [(27, .val (.slice none 0 0)), (26, .val (.slice none 0 0)), (7, .val (.int .i64 (firstBad l))), (5, .val (.iface 185 (.pointer (some (E 4))))), (3, .val (.slice av1 l.length cv1)), (0, .val (.slice av l.length c))]) (ob := []) (fun B => by as_aux_lemma => kernel_rfl) rfl An ?_
    clear hf; intro a hf
    refine sxcall hf rfl rfl rfl rfl (g := 37) (vs := [.slice none ([] : List V3).length 0, .slice none ([] : List V3).length 0]) (ob := []) (by as_aux_lemma => kernel_rfl) An enters37 (rsame none ([] : List V3) 0 none ([] : List V3) 0 w5  (Arr.none_nil _ _) (by first | omega | (simp; omega) | (simp; done) | exact Nat.le_trans (byKinds_len _ _) (by omega) | decide) (Arr.none_nil _ _) (by first | omega | (simp; omega) | (simp; done) | exact Nat.le_trans (byKinds_len _ _) (by omega) | decide)) ?_
    clear hf; rintro _ w6 a ⟨rfl, hk⟩ hf
    have hO := hO.keepNn hk
    have hM := hM.keepNn hk
    have hk0 := hk0.trans hk.nn
    clear hk
    refine sr0 hf hM [29, 7, 5, 3, 0] [{}] (env' := [(29, .val (.bool (sameL ([] : List V3) ([] : List V3)))), (7, .val (.int .i64 (firstBad l))), (5, .val (.iface 185 (.pointer (some (E 4))))), (3, .val (.slice av1 l.length cv1)), (0, .val (.slice av l.length c))]) (ob := []) (fun B => by as_aux_lemma => kernel_rfl) rfl An ?_
    clear hf; intro a hf
    have hf := hf.prune [29, 7, 5, 3, 0]
    replace hf : Fr 47 [(29, .val (.bool (sameL ([] : List V3) ([] : List V3)))), (7, .val (.int .i64 (firstBad l))), (5, .val (.iface 185 (.pointer (some (E 4))))), (3, .val (.slice av1 l.length cv1)), (0, .val (.slice av l.length c))] a := hf
    replace hf := hf.conv (env' := [(29, .val (.bool true)), (7, .val (.int .i64 (firstBad l))), (5, .val (.iface 185 (.pointer (some (E 4))))), (3, .val (.slice av1 l.length cv1)), (0, .val (.slice av l.length c))]) (Ac (congrArg Value.bool hse) (Ac rfl (Ac rfl (Ac rfl (Ao rfl)))))
    refine sr0 hf hM [30, 29, 7, 3, 0] [{}] (env' := [(30, .val (.iface 185 (.pointer (some (E 4))))), (29, .val (.bool true)), (7, .val (.int .i64 (firstBad l))), (3, .val (.slice av1 l.length cv1)), (0, .val (.slice av l.length c))]) (ob := [true = true]) (fun B => by as_aux_lemma => kernel_rfl) rfl (Ao rfl) ?_
    clear hf; intro a hf
    refine sxcallg hf rfl rfl rfl rfl rfl (g := 17) (vs := [.iface 185 (.pointer (some (E 4)))]) (ob := []) (by as_aux_lemma => kernel_rfl) An enters17 (num_err E 4 w6  (by decide) (hG.keep hk0 (fun _ h => h))) ?_
    clear hf; rintro _ w7 a ⟨rfl, hk⟩ hf
    have hO := hO.keepNn hk
    have hM := hM.keepNn hk
    have hk0 := hk0.trans hk.nn
    clear hk
    refine sr0 hf hM [35, 3, 0] [{}, {}, {}, {}] (env' := [(35, .val (.bool ((5 : Int) == (firstBad l)))), (3, .val (.slice av1 l.length cv1)), (0, .val (.slice av l.length c))]) (ob := [true = true, true = true]) (fun B => by as_aux_lemma => kernel_rfl) rfl (Ac rfl (Ao rfl)) ?_
    clear hf; intro a hf
    rcases Bool.eq_false_or_eq_true ((5 : Int) == (firstBad l)) with hg1 | hg1
    · have hg1r := hg1
      have hf := hf.prune [35, 3, 0]
      replace hf : Fr 47 [(35, .val (.bool ((5 : Int) == (firstBad l)))), (3, .val (.slice av1 l.length cv1)), (0, .val (.slice av l.length c))] a := hf
      replace hf := hf.conv (env' := [(35, .val (.bool true)), (3, .val (.slice av1 l.length cv1)), (0, .val (.slice av l.length c))]) (Ac (congrArg Value.bool hg1r) (Ac rfl (Ao rfl)))
      try simp only [Bool.or_eq_true, Bool.and_eq_true, Bool.not_eq_true', Bool.not_eq_false', Bool.or_eq_false_iff, Bool.and_eq_false_iff, decide_eq_true_eq, decide_eq_false_iff_not, beq_iff_eq, bne_iff_ne, beq_eq_false_iff_ne, bne_eq_false_iff_eq, Bool.and_true, Bool.true_and, ne_eq] at hg1
      refine sr0 hf hM [37, 36, 35, 0] [{}, {}] (env' := [(37, .val (.slice av l.length c)), (36, .val (.slice av1 l.length cv1)), (35, .val (.bool true)), (0, .val (.slice av l.length c))]) (ob := [true = true, true = true]) (fun B => by as_aux_lemma => kernel_rfl) rfl (Ac rfl (Ao rfl)) ?_
      clear hf; intro a hf
      refine sxcallg hf rfl rfl rfl rfl rfl (g := 37) (vs := [.slice av1 l.length cv1, .slice av l.length c]) (ob := []) (by as_aux_lemma => kernel_rfl) An enters37 (rsame av1 l cv1 av l c w7  (own_arr (hO.own _ (List.Mem.head _))) (by first | omega | (simp; omega) | (simp; done) | exact Nat.le_trans (byKinds_len _ _) (by omega) | decide) (hav.keepNn hk0) (by first | omega | (simp; omega) | (simp; done) | exact Nat.le_trans (byKinds_len _ _) (by omega) | decide)) ?_
      clear hf; rintro _ w8 a ⟨rfl, hk⟩ hf
      have hO := hO.keepNn hk
      have hM := hM.keepNn hk
      have hk0 := hk0.trans hk.nn
      clear hk
      refine sr0 hf hM [40, 0] [{}, {}] (env' := [(40, .val (.bool (sameL l l))), (0, .val (.slice av l.length c))]) (ob := []) (fun B => by as_aux_lemma => kernel_rfl) rfl An ?_
      clear hf; intro a hf
      have hf := hf.prune [40, 0]
      replace hf : Fr 47 [(40, .val (.bool (sameL l l))), (0, .val (.slice av l.length c))] a := hf
      replace hf := hf.conv (env' := [(40, .val (.bool true)), (0, .val (.slice av l.length c))]) (Ac (congrArg Value.bool hsl) (Ao rfl))
      refine sr0 hf hM [41, 40, 0] [{}] (env' := [(41, .val (.slice av l.length c)), (40, .val (.bool true)), (0, .val (.slice av l.length c))]) (ob := [true = true]) (fun B => by as_aux_lemma => kernel_rfl) rfl (Ao rfl) ?_
      clear hf; intro a hf
      refine sxcallg hf rfl rfl rfl rfl rfl (g := 41) (vs := [.slice av l.length c]) (ob := []) (by as_aux_lemma => kernel_rfl) An enters41 (sright E av l c w8  (hav.keepNn hk0) (by first | omega | (simp; omega) | (simp; done) | exact Nat.le_trans (byKinds_len _ _) (by omega) | decide) (hG.keep hk0 (fun _ h => h))) ?_
      clear hf; rintro _ w9 a ⟨rfl, hk⟩ hf
      have hO := hO.keepNn hk
      have hM := hM.keepNn hk
      have hk0 := hk0.trans hk.nn
      clear hk
      refine sr0 hf hM [43, 42, 40] [{}] (env' := [(43, .val (.slice av l.length c)), (42, .val (.bool (rightV l))), (40, .val (.bool true))]) (ob := [true = true]) (fun B => by as_aux_lemma => kernel_rfl) rfl (Ao rfl) ?_
      clear hf; intro a hf
      refine sxcallg hf rfl rfl rfl rfl rfl (g := 18) (vs := [.slice av l.length c]) (ob := []) (by as_aux_lemma => kernel_rfl) An enters18 (rright_bad av l c w9 hb0 (hav.keepNn hk0) (by first | omega | (simp; omega) | (simp; done) | exact Nat.le_trans (byKinds_len _ _) (by omega) | decide)) ?_
      clear hf; rintro _ w10 a ⟨rfl, hk⟩ hf
      have hO := hO.keepNn hk
      have hM := hM.keepNn hk
      have hk0 := hk0.trans hk.nn
      clear hk
      refine sr0 hf hM [2] [{}, {}, {}] (env' := [(2, .val (.bool ((rightV l) == (rightV l))))]) (ob := [true = true]) (fun B => by as_aux_lemma => kernel_rfl) rfl (Ao rfl) ?_
      clear hf; intro a hf
      refine wpList_nil ?_
      refine hK10 _ _ ?_
      refine wp_ret ?_
      refine sxret (fn := Tryd.f8) hf hM [] (l := [.bool ((rightV l) == (rightV l))]) (M' := []) (d' := false) (ob := []) (by kernel_rfl) (fun B => ⟨B, by as_aux_lemma => kernel_rfl⟩) rfl An ?_
      show (.bool ((rightV l) == (rightV l)) : Value) = .bool true ∧ Keep Nn w w10
      refine ⟨congrArg Value.bool ?_, hk0⟩
      first | rfl | (simp [hn]; done) | (simp_all; done)
    · have hg1r := hg1
      have hf := hf.prune [35, 3, 0]
      replace hf : Fr 47 [(35, .val (.bool ((5 : Int) == (firstBad l)))), (3, .val (.slice av1 l.length cv1)), (0, .val (.slice av l.length c))] a := hf
      replace hf := hf.conv (env' := [(35, .val (.bool false)), (3, .val (.slice av1 l.length cv1)), (0, .val (.slice av l.length c))]) (Ac (congrArg Value.bool hg1r) (Ac rfl (Ao rfl)))
      try simp only [Bool.or_eq_true, Bool.and_eq_true, Bool.not_eq_true', Bool.not_eq_false', Bool.or_eq_false_iff, Bool.and_eq_false_iff, decide_eq_true_eq, decide_eq_false_iff_not, beq_iff_eq, bne_iff_ne, beq_eq_false_iff_ne, bne_eq_false_iff_eq, Bool.and_true, Bool.true_and, ne_eq] at hg1
      refine sr0 hf hM [37, 36, 35, 0] [{ g := .off }, { g := .off }] (env' := [(37, .val (undef)), (36, .val (undef)), (35, .val (.bool false)), (0, .val (.slice av l.length c))]) (ob := [false = !true, false = !true]) (fun B => by as_aux_lemma => kernel_rfl) rfl (Ac rfl (Ao rfl)) ?_
      clear hf; intro a hf
      refine sr0 hf hM [41, 40, 0] [{ g := .off }, {}, {}, { g := .off }] (env' := [(41, .val (undef)), (40, .val (.bool false)), (0, .val (.slice av l.length c))]) (ob := [false = !true, false = !true]) (fun B => by as_aux_lemma => kernel_rfl) rfl (Ac rfl (Ao rfl)) ?_
      clear hf; intro a hf
      refine sr0 hf hM [43, 42, 40] [{ g := .off }, { g := .off }] (env' := [(43, .val (undef)), (42, .val (undef)), (40, .val (.bool false))]) (ob := [false = !true, false = !true]) (fun B => by as_aux_lemma => kernel_rfl) rfl (Ac rfl (Ao rfl)) ?_
      clear hf; intro a hf
      refine sr0 hf hM [2] [{ g := .off }, { g := .off }, {}, {}] (env' := [(2, .val (.bool false))]) (ob := [false = !true, false = !true]) (fun B => by as_aux_lemma => kernel_rfl) rfl (Ac rfl (Ao rfl)) ?_
      clear hf; intro a hf
      refine wpList_nil ?_
      refine hK10 _ _ ?_
      refine wp_ret ?_
      refine sxret (fn := Tryd.f8) hf hM [] (l := [.bool false]) (M' := []) (d' := false) (ob := []) (by kernel_rfl) (fun B => ⟨B, by as_aux_lemma => kernel_rfl⟩) rfl An ?_
      show (.bool false : Value) = .bool true ∧ Keep Nn w w7
      refine ⟨congrArg Value.bool ?_, hk0⟩
      first | rfl | (simp [hn]; done) | (simp_all; done)

set_option maxRecDepth 10000 in
set_option maxHeartbeats 4000000 in
theorem sro_range (E : Nat → Addr) (av : Option Addr) (l : List V3) (c : Nat) (w : World) (hn0 : (firstBad l == 1) = true) (hav : Arr w 3 av l.length c (flat fV l)) (hG : Errs [0, 1, 2, 3, 4, 5, 6, 7, 8, 9] w 185 E) :
    Calls Tryd.prog 8 #[.slice av l.length c] w (Ret fun v w' => v = .bool true ∧ Keep Nn w w') := by
  refine sxenter (n := 47) (args := [.slice av l.length c]) Tryd.func8 rfl rfl rfl fun a hf => ?_
  replace hf : Fr 47 [(0, .val (.slice av l.length c))] a := hf
  have hM : MemOk [] w := MemOk.nil w
  have hk0 : Keep Nn w w := Keep.refl _ _
  have hn : firstBad l = 1 := by simpa using hn0
  have hb5 : (firstBad l == 5) = false := by rw [hn]; decide
  have hb0 : (firstBad l == 0) = false := by rw [hn]; decide
  have hse : sameL ([] : List V3) [] = true := rfl
  have hsl := sameL_refl l
  have hsb := sameL_refl (byKinds l 10)
  refine wp_seq_k (fun K1 hK1 => ?_)
  refine wp_region_lit ?_
  refine sr0 hf hM [0] [{}] (env' := [(0, .val (.slice av l.length c))]) (ob := []) (fun B => by as_aux_lemma => kernel_rfl) rfl An ?_
  clear hf; intro a hf
  refine wpList_nil ?_
  refine hK1 _ _ ?_
  refine wp_seq_k (fun K2 hK2 => ?_)
  refine wp_seq_k (fun K3 hK3 => ?_)
  refine wp_region_lit ?_
  refine sxcall hf rfl rfl rfl rfl (g := 29) (vs := []) (ob := []) (by as_aux_lemma => kernel_rfl) An enters29 (alive6 E w  (hG.keep hk0 (fun _ h => h))) ?_
  clear hf; rintro _ w1 a ⟨rfl, hk⟩ hf
  have hM := hM.keepNn hk
  have hk0 := hk0.trans hk.nn
  clear hk
  refine sr0 hf hM [9, 0] [{}] (env' := [(9, .val (.bool false)), (0, .val (.slice av l.length c))]) (ob := []) (fun B => by as_aux_lemma => kernel_rfl) rfl An ?_
  clear hf; intro a hf
  refine wpList_nil ?_
  refine hK3 _ _ ?_
  refine sxcond hf (b := false) (by kernel_rfl) (fun h => by cases h) (fun _ => ?_)
  refine wp_skip ?_
  refine hK2 _ _ ?_
  refine wp_seq_k (fun K4 hK4 => ?_)
  refine wp_seq_k (fun K5 hK5 => ?_)
  refine wp_region_lit ?_
  refine sr0 hf hM [12, 0] [{}, {}, {}] (env' := [(12, .val (.bool (decide (((l.length : Int) : Int) > 100)))), (0, .val (.slice av l.length c))]) (ob := []) (fun B => by as_aux_lemma => kernel_rfl) rfl An ?_
  clear hf; intro a hf
  refine wpList_nil ?_
  refine hK5 _ _ ?_
  refine sxcond hf (b := (decide (((l.length : Int) : Int) > 100))) (by kernel_rfl) (fun hc2 => ?_) (fun hc2 => ?_)
  · have hc2r := hc2
    try simp only [Bool.or_eq_true, Bool.and_eq_true, Bool.not_eq_true', Bool.not_eq_false', Bool.or_eq_false_iff, Bool.and_eq_false_iff, decide_eq_true_eq, decide_eq_false_iff_not, beq_iff_eq, bne_iff_ne, beq_eq_false_iff_ne, bne_eq_false_iff_eq, Bool.and_true, Bool.true_and, ne_eq] at hc2
    refine wp_seq_k (fun K6 hK6 => ?_)
    refine wp_region_lit ?_
    refine sr0 hf hM [2] [{}] (env' := [(2, .val (.bool true))]) (ob := []) (fun B => by as_aux_lemma => kernel_rfl) rfl An ?_
    clear hf; intro a hf
    refine wpList_nil ?_
    refine hK6 _ _ ?_
    refine wp_ret ?_
    refine sxret (fn := Tryd.f8) hf hM [] (l := [.bool true]) (M' := []) (d' := false) (ob := []) (by kernel_rfl) (fun B => ⟨B, by as_aux_lemma => kernel_rfl⟩) rfl An ?_
    show (.bool true : Value) = .bool true ∧ Keep Nn w w1
    refine ⟨congrArg Value.bool ?_, hk0⟩
    first | rfl | (simp [hn]; done) | (simp_all; done)
  · have hc2r := hc2
    try simp only [Bool.or_eq_true, Bool.and_eq_true, Bool.not_eq_true', Bool.not_eq_false', Bool.or_eq_false_iff, Bool.and_eq_false_iff, decide_eq_true_eq, decide_eq_false_iff_not, beq_iff_eq, bne_iff_ne, beq_eq_false_iff_ne, bne_eq_false_iff_eq, Bool.and_true, Bool.true_and, ne_eq] at hc2
    refine wp_skip ?_
    refine hK4 _ _ ?_
    refine wp_seq_k (fun K7 hK7 => ?_)
    refine wp_region_lit ?_
    refine sxbslice hf hM (t := 23) (e := 62) (len := 0) (cs := []) (ob := []) rfl rfl rfl rfl (by as_aux_lemma => kernel_rfl) An (by as_aux_lemma => kernel_rfl) ?_
    clear hf hM; intro a w2 B5 hf hM hB hk
    replace hM : MemOk [⟨B5, 62, []⟩] w2 := hM
    have hbB5 : w.heap.size ≤ B5 := by have := hk0.size; omega
    have hk0 := hk0.trans hk.nn
    clear hk hB
    refine sr0 hf hM [14, 13, 0] [{}] (env' := [(14, .val (.slice av l.length c)), (13, .val (.slice (some ⟨B5, 0, none⟩) 0 0)), (0, .val (.slice av l.length c))]) (ob := []) (fun B => by as_aux_lemma => kernel_rfl) rfl An ?_
    clear hf; intro a hf
    have hO : OwnOk w.heap.size [⟨B5, 62, []⟩] [] w2 := OwnOk.nil hM
    replace hO := OwnOk.took (M1 := []) (M2 := []) (sz := 3) hO hM (n := 0) (c := 0) (by have := hk0.size; omega) (by decide) (by decide) rfl
    replace hM : MemOk [] w2 := hM.sub (.cons _ .slnil)
    replace hO : OwnOk w.heap.size [] [⟨62, 3, .slice (some ⟨B5, 0, none⟩) 0 0, 0, flat fV ([] : List V3)⟩] w2 := hO
    replace hO : OwnOk w.heap.size [] [⟨62, 3, .slice (some ⟨B5, 0, none⟩) 0 0, 0, flat fV ([] : List V3)⟩] w2 := OwnOk.front (l1 := []) (l2 := []) hO
    refine sxappend hf hM (e := 62) (sz := 3) (by_ := 24) (k := 0) (v := .slice (some ⟨B5, 0, none⟩) 0 0) (xs := flat fV ([] : List V3)) hO rfl rfl rfl rfl (av := av) (m := l.length) (c := c) rfl rfl Tryd.underlying23 (by kernel_rfl) rfl (news := flat fV l) (hav.keepNn hk0) (flat_one1 fV_one) (by simp only [maxLen]; constructor <;> (first | omega | (simp; omega))) (by have := hk0.size; omega) ?_
    clear hf hM hO; intro a w3 av1 cv1 hf hM hO hk
    have en : (0 + l.length : Nat) = l.length := (by simp)
    have ec : flat fV ([] : List V3) ++ flat fV l = flat fV l := (by simp [flat_app, flat_nil])
    rw [en] at hf hO; rw [ec] at hO; clear en ec
    replace hO : OwnOk w.heap.size [] [⟨62, 3, .slice av1 l.length cv1, l.length, flat fV l⟩] w3 := hO
    have hk0 := hk0.then hk (by intro i hi h; have := h.1; omega)
    clear hk
    refine sr0 hf hM [3, 0] [{}] (env' := [(3, .val (.slice av1 l.length cv1)), (0, .val (.slice av l.length c))]) (ob := []) (fun B => by as_aux_lemma => kernel_rfl) rfl An ?_
    clear hf; intro a hf
    refine wpList_nil ?_
    refine hK7 _ _ ?_
    refine wp_seq_k (fun K8 hK8 => ?_)
    refine wp_region_lit ?_
    refine sr0 hf hM [17, 3, 0] [{}] (env' := [(17, .val (.slice av1 l.length cv1)), (3, .val (.slice av1 l.length cv1)), (0, .val (.slice av l.length c))]) (ob := []) (fun B => by as_aux_lemma => kernel_rfl) rfl An ?_
    clear hf; intro a hf
    refine sxcall hf rfl rfl rfl rfl (g := 40) (vs := [.slice av1 l.length cv1]) (ob := []) (by as_aux_lemma => kernel_rfl) An enters40 (srow_range E av1 l cv1 w3 hn0 (own_arr (hO.own _ (List.Mem.head _))) (by first | omega | (simp; omega) | (simp; done) | exact Nat.le_trans (byKinds_len _ _) (by omega) | decide) (hG.keep hk0 (fun _ h => h))) ?_
    clear hf; rintro _ w4 a ⟨rfl, hk⟩ hf
    have hO := hO.keepNn hk
    have hM := hM.keepNn hk
    have hk0 := hk0.trans hk.nn
    clear hk
    refine sr0 hf hM [5, 4, 3, 0] [{}, {}, {}, {}, {}] (env' := [(5, .val (.iface 185 (.pointer (some (E 0))))), (4, .val (.slice none 0 0)), (3, .val (.slice av1 l.length cv1)), (0, .val (.slice av l.length c))]) (ob := []) (fun B => by as_aux_lemma => kernel_rfl) rfl An ?_
    clear hf; intro a hf
    refine wpList_nil ?_
    refine hK8 _ _ ?_
    refine wp_seq_k (fun K9 hK9 => ?_)
    refine wp_region_lit ?_
    refine sr0 hf hM [22, 5, 4, 3, 0] [{}] (env' := [(22, .val (.slice av l.length c)), (5, .val (.iface 185 (.pointer (some (E 0))))), (4, .val (.slice none 0 0)), (3, .val (.slice av1 l.length cv1)), (0, .val (.slice av l.length c))]) (ob := []) (fun B => by as_aux_lemma => kernel_rfl) rfl An ?_
    clear hf; intro a hf
    refine sxcall hf rfl rfl rfl rfl (g := 33) (vs := [.slice av l.length c]) (ob := []) (by as_aux_lemma => kernel_rfl) An enters33 (rrow_bad av l c w4 hb0 (hav.keepNn hk0) (by first | omega | (simp; omega) | (simp; done) | exact Nat.le_trans (byKinds_len _ _) (by omega) | decide)) ?_
    clear hf; rintro _ w5 a ⟨rfl, hk⟩ hf
    have hO := hO.keepNn hk
    have hM := hM.keepNn hk
    have hk0 := hk0.trans hk.nn
    clear hk
    refine sr0 hf hM [7, 6, 5, 4, 3, 0] [{}, {}, {}, {}, {}] (env' := [(7, .val (.int .i64 (firstBad l))), (6, .val (.slice none 0 0)), (5, .val (.iface 185 (.pointer (some (E 0))))), (4, .val (.slice none 0 0)), (3, .val (.slice av1 l.length cv1)), (0, .val (.slice av l.length c))]) (ob := []) (fun B => by as_aux_lemma => kernel_rfl) rfl An ?_
    clear hf; intro a hf
    refine wpList_nil ?_
    refine hK9 _ _ ?_
    refine wp_seq_k (fun K10 hK10 => ?_)
    refine wp_region_lit ?_
    refine sr0 hf hM [27, 26, 7, 5, 3, 0] [{}, {}] (env' := [(27, .val (.slice none 0 0)), (26, .val (.slice none 0 0)), (7, .val (.int .i64 (firstBad l))), (5, .val (.iface 185 (.pointer (some (E 0))))), (3, .val (.slice av1 l.length cv1)), (0, .val (.slice av l.length c))]) (ob := []) (fun B => by as_aux_lemma => kernel_rfl) rfl An ?_
    clear hf; intro a hf
    refine sxcall hf rfl rfl rfl rfl (g := 37) (vs := [.slice none ([] : List V3).length 0, .slice none ([] : List V3).length 0]) (ob := []) (by as_aux_lemma => kernel_rfl) An enters37 (rsame none ([] : List V3) 0 none ([] : List V3) 0 w5  (Arr.none_nil _ _) (by first | omega | (simp; omega) | (simp; done) | exact Nat.le_trans (byKinds_len _ _) (by omega) | decide) (Arr.none_nil _ _) (by first | omega | (simp; omega) | (simp; done) | exact Nat.le_trans (byKinds_len _ _) (by omega) | decide)) ?_
    clear hf; rintro _ w6 a ⟨rfl, hk⟩ hf
    have hO := hO.keepNn hk
    have hM := hM.keepNn hk
    have hk0 := hk0.trans hk.nn
    clear hk
    refine sr0 hf hM [29, 7, 5, 3, 0] [{}] (env' := [(29, .val (.bool (sameL ([] : List V3) ([] : List V3)))), (7, .val (.int .i64 (firstBad l))), (5, .val (.iface 185 (.pointer (some (E 0))))), (3, .val (.slice av1 l.length cv1)), (0, .val (.slice av l.length c))]) (ob := []) (fun B => by as_aux_lemma => kernel_rfl) rfl An ?_
    clear hf; intro a hf
    have hf := hf.prune [29, 7, 5, 3, 0]
    replace hf : Fr 47 [(29, .val (.bool (sameL ([] : List V3) ([] : List V3)))), (7, .val (.int .i64 (firstBad l))), (5, .val (.iface 185 (.pointer (some (E 0))))), (3, .val (.slice av1 l.length cv1)), (0, .val (.slice av l.length c))] a := hf
    replace hf := hf.conv (env' := [(29, .val (.bool true)), (7, .val (.int .i64 (firstBad l))), (5, .val (.iface 185 (.pointer (some (E 0))))), (3, .val (.slice av1 l.length cv1)), (0, .val (.slice av l.length c))]) (Ac (congrArg Value.bool hse) (Ac rfl (Ac rfl (Ac rfl (Ao rfl)))))
    refine sr0 hf hM [30, 29, 7, 3, 0] [{}] (env' := [(30, .val (.iface 185 (.pointer (some (E 0))))), (29, .val (.bool true)), (7, .val (.int .i64 (firstBad l))), (3, .val (.slice av1 l.length cv1)), (0, .val (.slice av l.length c))]) (ob := [true = true]) (fun B => by as_aux_lemma => kernel_rfl) rfl (Ao rfl) ?_
    clear hf; intro a hf
    refine sxcallg hf rfl rfl rfl rfl rfl (g := 17) (vs := [.iface 185 (.pointer (some (E 0)))]) (ob := []) (by as_aux_lemma => kernel_rfl) An enters17 (num_err E 0 w6  (by decide) (hG.keep hk0 (fun _ h => h))) ?_
    clear hf; rintro _ w7 a ⟨rfl, hk⟩ hf
    have hO := hO.keepNn hk
    have hM := hM.keepNn hk
    have hk0 := hk0.trans hk.nn
    clear hk
    refine sr0 hf hM [35, 3, 0] [{}, {}, {}, {}] (env' := [(35, .val (.bool ((1 : Int) == (firstBad l)))), (3, .val (.slice av1 l.length cv1)), (0, .val (.slice av l.length c))]) (ob := [true = true, true = true]) (fun B => by as_aux_lemma => kernel_rfl) rfl (Ac rfl (Ao rfl)) ?_
    clear hf; intro a hf
    rcases Bool.eq_false_or_eq_true ((1 : Int) == (firstBad l)) with hg1 | hg1
    · have hg1r := hg1
      have hf := hf.prune [35, 3, 0]
      replace hf : Fr 47 [(35, .val (.bool ((1 : Int) == (firstBad l)))), (3, .val (.slice av1 l.length cv1)), (0, .val (.slice av l.length c))] a := hf
      replace hf := hf.conv (env' := [(35, .val (.bool true)), (3, .val (.slice av1 l.length cv1)), (0, .val (.slice av l.length c))]) (Ac (congrArg Value.bool hg1r) (Ac rfl (Ao rfl)))
      try simp only [Bool.or_eq_true, Bool.and_eq_true, Bool.not_eq_true', Bool.not_eq_false', Bool.or_eq_false_iff, Bool.and_eq_false_iff, decide_eq_true_eq, decide_eq_false_iff_not, beq_iff_eq, bne_iff_ne, beq_eq_false_iff_ne, bne_eq_false_iff_eq, Bool.and_true, Bool.true_and, ne_eq] at hg1
      refine sr0 hf hM [37, 36, 35, 0] [{}, {}] (env' := [(37, .val (.slice av l.length c)), (36, .val (.slice av1 l.length cv1)), (35, .val (.bool true)), (0, .val (.slice av l.length c))]) (ob := [true = true, true = true]) (fun B => by as_aux_lemma => kernel_rfl) rfl (Ac rfl (Ao rfl)) ?_
      clear hf; intro a hf
      refine sxcallg hf rfl rfl rfl rfl rfl (g := 37) (vs := [.slice av1 l.length cv1, .slice av l.length c]) (ob := []) (by as_aux_lemma => kernel_rfl) An enters37 (rsame av1 l cv1 av l c w7  (own_arr (hO.own _ (List.Mem.head _))) (by first | omega | (simp; omega) | (simp; done) | exact Nat.le_trans (byKinds_len _ _) (by omega) | decide) (hav.keepNn hk0) (by first | omega | (simp; omega) | (simp; done) | exact Nat.le_trans (byKinds_len _ _) (by omega) | decide)) ?_
      clear hf; rintro _ w8 a ⟨rfl, hk⟩ hf
      have hO := hO.keepNn hk
      have hM := hM.keepNn hk
      have hk0 := hk0.trans hk.nn
      clear hk
      refine sr0 hf hM [40, 0] [{}, {}] (env' := [(40, .val (.bool (sameL l l))), (0, .val (.slice av l.length c))]) (ob := []) (fun B => by as_aux_lemma => kernel_rfl) rfl An ?_
      clear hf; intro a hf
      have hf := hf.prune [40, 0]
      replace hf : Fr 47 [(40, .val (.bool (sameL l l))), (0, .val (.slice av l.length c))] a := hf
      replace hf := hf.conv (env' := [(40, .val (.bool true)), (0, .val (.slice av l.length c))]) (Ac (congrArg Value.bool hsl) (Ao rfl))
      refine sr0 hf hM [41, 40, 0] [{}] (env' := [(41, .val (.slice av l.length c)), (40, .val (.bool true)), (0, .val (.slice av l.length c))]) (ob := [true = true]) (fun B => by as_aux_lemma => kernel_rfl) rfl (Ao rfl) ?_
      clear hf; intro a hf
      refine sxcallg hf rfl rfl rfl rfl rfl (g := 41) (vs := [.slice av l.length c]) (ob := []) (by as_aux_lemma => kernel_rfl) An enters41 (sright E av l c w8  (hav.keepNn hk0) (by first | omega | (simp; omega) | (simp; done) | exact Nat.le_trans (byKinds_len _ _) (by omega) | decide) (hG.keep hk0 (fun _ h => h))) ?_
      clear hf; rintro _ w9 a ⟨rfl, hk⟩ hf
      have hO := hO.keepNn hk
      have hM := hM.keepNn hk
      have hk0 := hk0.trans hk.nn
      clear hk
      refine sr0 hf hM [43, 42, 40] [{}] (env' := [(43, .val (.slice av l.length c)), (42, .val (.bool (rightV l))), (40, .val (.bool true))]) (ob := [true = true]) (fun B => by as_aux_lemma => kernel_rfl) rfl (Ao rfl) ?_
      clear hf; intro a hf
      refine sxcallg hf rfl rfl rfl rfl rfl (g := 18) (vs := [.slice av l.length c]) (ob := []) (by as_aux_lemma => kernel_rfl) An enters18 (rright_bad av l c w9 hb0 (hav.keepNn hk0) (by first | omega | (simp; omega) | (simp; done) | exact Nat.le_trans (byKinds_len _ _) (by omega) | decide)) ?_
      clear hf; rintro _ w10 a ⟨rfl, hk⟩ hf
      have hO := hO.keepNn hk
      have hM := hM.keepNn hk
      have hk0 := hk0.trans hk.nn
      clear hk
      refine sr0 hf hM [2] [{}, {}, {}] (env' := [(2, .val (.bool ((rightV l) == (rightV l))))]) (ob := [true = true]) (fun B => by as_aux_lemma => kernel_rfl) rfl (Ao rfl) ?_
      clear hf; intro a hf
      refine wpList_nil ?_
      refine hK10 _ _ ?_
      refine wp_ret ?_
      refine sxret (fn := Tryd.f8) hf hM [] (l := [.bool ((rightV l) == (rightV l))]) (M' := []) (d' := false) (ob := []) (by kernel_rfl) (fun B => ⟨B, by as_aux_lemma => kernel_rfl⟩) rfl An ?_
      show (.bool ((rightV l) == (rightV l)) : Value) = .bool true ∧ Keep Nn w w10
      refine ⟨congrArg Value.bool ?_, hk0⟩
      first | rfl | (simp [hn]; done) | (simp_all; done)
    · have hg1r := hg1
      have hf := hf.prune [35, 3, 0]
      replace hf : Fr 47 [(35, .val (.bool ((1 : Int) == (firstBad l)))), (3, .val (.slice av1 l.length cv1)), (0, .val (.slice av l.length c))] a := hf
      replace hf := hf.conv (env' := [(35, .val (.bool false)), (3, .val (.slice av1 l.length cv1)), (0, .val (.slice av l.length c))]) (Ac (congrArg Value.bool hg1r) (Ac rfl (Ao rfl)))
      try simp only [Bool.or_eq_true, Bool.and_eq_true, Bool.not_eq_true', Bool.not_eq_false', Bool.or_eq_false_iff, Bool.and_eq_false_iff, decide_eq_true_eq, decide_eq_false_iff_not, beq_iff_eq, bne_iff_ne, beq_eq_false_iff_ne, bne_eq_false_iff_eq, Bool.and_true, Bool.true_and, ne_eq] at hg1
      refine sr0 hf hM [37, 36, 35, 0] [{ g := .off }, { g := .off }] (env' := [(37, .val (undef)), (36, .val (undef)), (35, .val (.bool false)), (0, .val (.slice av l.length c))]) (ob := [false = !true, false = !true]) (fun B => by as_aux_lemma => kernel_rfl) rfl (Ac rfl (Ao rfl)) ?_
      clear hf; intro a hf
      refine sr0 hf hM [41, 40, 0] [{ g := .off }, {}, {}, { g := .off }] (env' := [(41, .val (undef)), (40, .val (.bool false)), (0, .val (.slice av l.length c))]) (ob := [false = !true, false = !true]) (fun B => by as_aux_lemma => kernel_rfl) rfl (Ac rfl (Ao rfl)) ?_
      clear hf; intro a hf
      refine sr0 hf hM [43, 42, 40] [{ g := .off }, { g := .off }] (env' := [(43, .val (undef)), (42, .val (undef)), (40, .val (.bool false))]) (ob := [false = !true, false = !true]) (fun B => by as_aux_lemma => kernel_rfl) rfl (Ac rfl (Ao rfl)) ?_
      clear hf; intro a hf
      refine sr0 hf hM [2] [{ g := .off }, { g := .off }, {}, {}] (env' := [(2, .val (.bool false))]) (ob := [false = !true, false = !true]) (fun B => by as_aux_lemma => kernel_rfl) rfl (Ac rfl (Ao rfl)) ?_
      clear hf; intro a hf
      refine wpList_nil ?_
      refine hK10 _ _ ?_
      refine wp_ret ?_
      refine sxret (fn := Tryd.f8) hf hM [] (l := [.bool false]) (M' := []) (d' := false) (ob := []) (by kernel_rfl) (fun B => ⟨B, by as_aux_lemma => kernel_rfl⟩) rfl An ?_
      show (.bool false : Value) = .bool true ∧ Keep Nn w w7
      refine ⟨congrArg Value.bool ?_, hk0⟩
      first | rfl | (simp [hn]; done) | (simp_all; done)

set_option maxRecDepth 10000 in
set_option maxHeartbeats 4000000 in
theorem sro_ok (E : Nat → Addr) (av : Option Addr) (l : List V3) (c : Nat) (w : World) (hn0 : (firstBad l == 0) = true) (hn1 : (noDup l) = true) (hav : Arr w 3 av l.length c (flat fV l)) (hG : Errs [0, 1, 2, 3, 4, 5, 6, 7, 8, 9] w 185 E) :
    Calls Tryd.prog 8 #[.slice av l.length c] w (Ret fun v w' => v = .bool true ∧ Keep Nn w w') := by
  refine sxenter (n := 47) (args := [.slice av l.length c]) Tryd.func8 rfl rfl rfl fun a hf => ?_
  replace hf : Fr 47 [(0, .val (.slice av l.length c))] a := hf
  have hM : MemOk [] w := MemOk.nil w
  have hk0 : Keep Nn w w := Keep.refl _ _
  have hn : firstBad l = 0 := by simpa using hn0
  have hb1 : (firstBad l == 1) = false := by rw [hn]; decide
  have hb5 : (firstBad l == 5) = false := by rw [hn]; decide
  have hse : sameL ([] : List V3) [] = true := rfl
  have hsl := sameL_refl l
  have hsb := sameL_refl (byKinds l 10)
  refine wp_seq_k (fun K1 hK1 => ?_)
  refine wp_region_lit ?_
  refine sr0 hf hM [0] [{}] (env' := [(0, .val (.slice av l.length c))]) (ob := []) (fun B => by as_aux_lemma => kernel_rfl) rfl An ?_
  clear hf; intro a hf
  refine wpList_nil ?_
  refine hK1 _ _ ?_
  refine wp_seq_k (fun K2 hK2 => ?_)
  refine wp_seq_k (fun K3 hK3 => ?_)
  refine wp_region_lit ?_
  refine sxcall hf rfl rfl rfl rfl (g := 29) (vs := []) (ob := []) (by as_aux_lemma => kernel_rfl) An enters29 (alive6 E w  (hG.keep hk0 (fun _ h => h))) ?_
  clear hf; rintro _ w1 a ⟨rfl, hk⟩ hf
  have hM := hM.keepNn hk
  have hk0 := hk0.trans hk.nn
  clear hk
  refine sr0 hf hM [9, 0] [{}] (env' := [(9, .val (.bool false)), (0, .val (.slice av l.length c))]) (ob := []) (fun B => by as_aux_lemma => kernel_rfl) rfl An ?_
  clear hf; intro a hf
  refine wpList_nil ?_
  refine hK3 _ _ ?_
  refine sxcond hf (b := false) (by kernel_rfl) (fun h => by cases h) (fun _ => ?_)
  refine wp_skip ?_
  refine hK2 _ _ ?_
  refine wp_seq_k (fun K4 hK4 => ?_)
  refine wp_seq_k (fun K5 hK5 => ?_)
  refine wp_region_lit ?_
  refine sr0 hf hM [12, 0] [{}, {}, {}] (env' := [(12, .val (.bool (decide (((l.length : Int) : Int) > 100)))), (0, .val (.slice av l.length c))]) (ob := []) (fun B => by as_aux_lemma => kernel_rfl) rfl An ?_
  clear hf; intro a hf
  refine wpList_nil ?_
  refine hK5 _ _ ?_
  refine sxcond hf (b := (decide (((l.length : Int) : Int) > 100))) (by kernel_rfl) (fun hc2 => ?_) (fun hc2 => ?_)
  · have hc2r := hc2
    try simp only [Bool.or_eq_true, Bool.and_eq_true, Bool.not_eq_true', Bool.not_eq_false', Bool.or_eq_false_iff, Bool.and_eq_false_iff, decide_eq_true_eq, decide_eq_false_iff_not, beq_iff_eq, bne_iff_ne, beq_eq_false_iff_ne, bne_eq_false_iff_eq, Bool.and_true, Bool.true_and, ne_eq] at hc2
    refine wp_seq_k (fun K6 hK6 => ?_)
    refine wp_region_lit ?_
    refine sr0 hf hM [2] [{}] (env' := [(2, .val (.bool true))]) (ob := []) (fun B => by as_aux_lemma => kernel_rfl) rfl An ?_
    clear hf; intro a hf
    refine wpList_nil ?_
    refine hK6 _ _ ?_
    refine wp_ret ?_
    refine sxret (fn := Tryd.f8) hf hM [] (l := [.bool true]) (M' := []) (d' := false) (ob := []) (by kernel_rfl) (fun B => ⟨B, by as_aux_lemma => kernel_rfl⟩) rfl An ?_
    show (.bool true : Value) = .bool true ∧ Keep Nn w w1
    refine ⟨congrArg Value.bool ?_, hk0⟩
    first | rfl | (simp; done) | (simp_all; done)
  · have hc2r := hc2
    try simp only [Bool.or_eq_true, Bool.and_eq_true, Bool.not_eq_true', Bool.not_eq_false', Bool.or_eq_false_iff, Bool.and_eq_false_iff, decide_eq_true_eq, decide_eq_false_iff_not, beq_iff_eq, bne_iff_ne, beq_eq_false_iff_ne, bne_eq_false_iff_eq, Bool.and_true, Bool.true_and, ne_eq] at hc2
    refine wp_skip ?_
    refine hK4 _ _ ?_
    refine wp_seq_k (fun K7 hK7 => ?_)
    refine wp_region_lit ?_
    refine sxbslice hf hM (t := 23) (e := 62) (len := 0) (cs := []) (ob := []) rfl rfl rfl rfl (by as_aux_lemma => kernel_rfl) An (by as_aux_lemma => kernel_rfl) ?_
    clear hf hM; intro a w2 B5 hf hM hB hk
    replace hM : MemOk [⟨B5, 62, []⟩] w2 := hM
    have hbB5 : w.heap.size ≤ B5 := by have := hk0.size; omega
    have hk0 := hk0.trans hk.nn
    clear hk hB
    refine sr0 hf hM [14, 13, 0] [{}] (env' := [(14, .val (.slice av l.length c)), (13, .val (.slice (some ⟨B5, 0, none⟩) 0 0)), (0, .val (.slice av l.length c))]) (ob := []) (fun B => by as_aux_lemma => kernel_rfl) rfl An ?_
    clear hf; intro a hf
    have hO : OwnOk w.heap.size [⟨B5, 62, []⟩] [] w2 := OwnOk.nil hM
    replace hO := OwnOk.took (M1 := []) (M2 := []) (sz := 3) hO hM (n := 0) (c := 0) (by have := hk0.size; omega) (by decide) (by decide) rfl
    replace hM : MemOk [] w2 := hM.sub (.cons _ .slnil)
    replace hO : OwnOk w.heap.size [] [⟨62, 3, .slice (some ⟨B5, 0, none⟩) 0 0, 0, flat fV ([] : List V3)⟩] w2 := hO
    replace hO : OwnOk w.heap.size [] [⟨62, 3, .slice (some ⟨B5, 0, none⟩) 0 0, 0, flat fV ([] : List V3)⟩] w2 := OwnOk.front (l1 := []) (l2 := []) hO
    refine sxappend hf hM (e := 62) (sz := 3) (by_ := 24) (k := 0) (v := .slice (some ⟨B5, 0, none⟩) 0 0) (xs := flat fV ([] : List V3)) hO rfl rfl rfl rfl (av := av) (m := l.length) (c := c) rfl rfl Tryd.underlying23 (by kernel_rfl) rfl (news := flat fV l) (hav.keepNn hk0) (flat_one1 fV_one) (by simp only [maxLen]; constructor <;> (first | omega | (simp; omega))) (by have := hk0.size; omega) ?_
    clear hf hM hO; intro a w3 av1 cv1 hf hM hO hk
    have en : (0 + l.length : Nat) = l.length := (by simp)
    have ec : flat fV ([] : List V3) ++ flat fV l = flat fV l := (by simp [flat_app, flat_nil])
    rw [en] at hf hO; rw [ec] at hO; clear en ec
    replace hO : OwnOk w.heap.size [] [⟨62, 3, .slice av1 l.length cv1, l.length, flat fV l⟩] w3 := hO
    have hk0 := hk0.then hk (by intro i hi h; have := h.1; omega)
    clear hk
    refine sr0 hf hM [3, 0] [{}] (env' := [(3, .val (.slice av1 l.length cv1)), (0, .val (.slice av l.length c))]) (ob := []) (fun B => by as_aux_lemma => kernel_rfl) rfl An ?_
    clear hf; intro a hf
    refine wpList_nil ?_
    refine hK7 _ _ ?_
    refine wp_seq_k (fun K8 hK8 => ?_)
    refine wp_region_lit ?_
    refine sr0 hf hM [17, 3, 0] [{}] (env' := [(17, .val (.slice av1 l.length cv1)), (3, .val (.slice av1 l.length cv1)), (0, .val (.slice av l.length c))]) (ob := []) (fun B => by as_aux_lemma => kernel_rfl) rfl An ?_
    clear hf; intro a hf
    refine sxcall hf rfl rfl rfl rfl (g := 40) (vs := [.slice av1 l.length cv1]) (ob := []) (by as_aux_lemma => kernel_rfl) An enters40 (srow_ok E av1 l cv1 w3 hn0 hn1 (own_arr (hO.own _ (List.Mem.head _))) (by first | omega | (simp; omega) | (simp; done) | exact Nat.le_trans (byKinds_len _ _) (by omega) | decide) (hG.keep hk0 (fun _ h => h))) ?_
    clear hf; rintro _ w4 a ⟨a'1, c'1, rfl, hk, hx1⟩ hf
    have hO := hO.more hM hk (by have := hk0.size; omega) hx1
    replace hO : OwnOk w.heap.size [] [⟨62, 3, .slice a'1 (byKinds l 10).length c'1, (byKinds l 10).length, flat fV (byKinds l 10)⟩, ⟨62, 3, .slice av1 l.length cv1, l.length, flat fV l⟩] _ := hO
    have hM := hM.keepNn hk
    have hk0 := hk0.trans hk.nn
    clear hk
    refine sr0 hf hM [5, 4, 3, 0] [{}, {}, {}, {}, {}] (env' := [(5, .val (.nilIface)), (4, .val (.slice a'1 (byKinds l 10).length c'1)), (3, .val (.slice av1 l.length cv1)), (0, .val (.slice av l.length c))]) (ob := []) (fun B => by as_aux_lemma => kernel_rfl) rfl An ?_
    clear hf; intro a hf
    refine wpList_nil ?_
    refine hK8 _ _ ?_
    refine wp_seq_k (fun K9 hK9 => ?_)
    refine wp_region_lit ?_
    refine sr0 hf hM [22, 5, 4, 3, 0] [{}] (env' := [(22, .val (.slice av l.length c)), (5, .val (.nilIface)), (4, .val (.slice a'1 (byKinds l 10).length c'1)), (3, .val (.slice av1 l.length cv1)), (0, .val (.slice av l.length c))]) (ob := []) (fun B => by as_aux_lemma => kernel_rfl) rfl An ?_
    clear hf; intro a hf
    refine sxcall hf rfl rfl rfl rfl (g := 33) (vs := [.slice av l.length c]) (ob := []) (by as_aux_lemma => kernel_rfl) An enters33 (rrow_ok av l c w4 hn0 hn1 (hav.keepNn hk0) (by first | omega | (simp; omega) | (simp; done) | exact Nat.le_trans (byKinds_len _ _) (by omega) | decide)) ?_
    clear hf; rintro _ w5 a ⟨a'2, c'2, rfl, hk, hx2⟩ hf
    have hO := hO.more hM hk (by have := hk0.size; omega) hx2
    replace hO : OwnOk w.heap.size [] [⟨62, 3, .slice a'2 (byKinds l 10).length c'2, (byKinds l 10).length, flat fV (byKinds l 10)⟩, ⟨62, 3, .slice a'1 (byKinds l 10).length c'1, (byKinds l 10).length, flat fV (byKinds l 10)⟩, ⟨62, 3, .slice av1 l.length cv1, l.length, flat fV l⟩] _ := hO
    have hM := hM.keepNn hk
    have hk0 := hk0.trans hk.nn
    clear hk
    refine sr0 hf hM [7, 6, 5, 4, 3, 0] [{}, {}, {}, {}, {}] (env' := [(7, .val (.int .i64 0)), (6, .val (.slice a'2 (byKinds l 10).length c'2)), (5, .val (.nilIface)), (4, .val (.slice a'1 (byKinds l 10).length c'1)), (3, .val (.slice av1 l.length cv1)), (0, .val (.slice av l.length c))]) (ob := []) (fun B => by as_aux_lemma => kernel_rfl) rfl An ?_
    clear hf; intro a hf
    refine wpList_nil ?_
    refine hK9 _ _ ?_
    refine wp_seq_k (fun K10 hK10 => ?_)
    refine wp_region_lit ?_
    refine sr0 hf hM [27, 26, 7, 5, 3, 0] [{}, {}] (env' := [(27, .val (.slice a'2 (byKinds l 10).length c'2)), (26, .val (.slice a'1 (byKinds l 10).length c'1)), (7, .val (.int .i64 0)), (5, .val (.nilIface)), (3, .val (.slice av1 l.length cv1)), (0, .val (.slice av l.length c))]) (ob := []) (fun B => by as_aux_lemma => kernel_rfl) rfl An ?_
    clear hf; intro a hf
    refine sxcall hf rfl rfl rfl rfl (g := 37) (vs := [.slice a'1 (byKinds l 10).length c'1, .slice a'2 (byKinds l 10).length c'2]) (ob := []) (by as_aux_lemma => kernel_rfl) An enters37 (rsame a'1 (byKinds l 10) c'1 a'2 (byKinds l 10) c'2 w5  (own_arr (hO.own _ (List.Mem.tail _ (List.Mem.head _)))) (by first | omega | (simp; omega) | (simp; done) | exact Nat.le_trans (byKinds_len _ _) (by omega) | decide) (own_arr (hO.own _ (List.Mem.head _))) (by first | omega | (simp; omega) | (simp; done) | exact Nat.le_trans (byKinds_len _ _) (by omega) | decide)) ?_
    clear hf; rintro _ w6 a ⟨rfl, hk⟩ hf
    have hO := hO.keepNn hk
    have hM := hM.keepNn hk
    have hk0 := hk0.trans hk.nn
    clear hk
    refine sr0 hf hM [29, 7, 5, 3, 0] [{}] (env' := [(29, .val (.bool (sameL (byKinds l 10) (byKinds l 10)))), (7, .val (.int .i64 0)), (5, .val (.nilIface)), (3, .val (.slice av1 l.length cv1)), (0, .val (.slice av l.length c))]) (ob := []) (fun B => by as_aux_lemma => kernel_rfl) rfl An ?_
    clear hf; intro a hf
    have hf := hf.prune [29, 7, 5, 3, 0]
    replace hf : Fr 47 [(29, .val (.bool (sameL (byKinds l 10) (byKinds l 10)))), (7, .val (.int .i64 0)), (5, .val (.nilIface)), (3, .val (.slice av1 l.length cv1)), (0, .val (.slice av l.length c))] a := hf
    replace hf := hf.conv (env' := [(29, .val (.bool true)), (7, .val (.int .i64 0)), (5, .val (.nilIface)), (3, .val (.slice av1 l.length cv1)), (0, .val (.slice av l.length c))]) (Ac (congrArg Value.bool hsb) (Ac rfl (Ac rfl (Ac rfl (Ao rfl)))))
    refine sr0 hf hM [30, 29, 7, 3, 0] [{}] (env' := [(30, .val (.nilIface)), (29, .val (.bool true)), (7, .val (.int .i64 0)), (3, .val (.slice av1 l.length cv1)), (0, .val (.slice av l.length c))]) (ob := [true = true]) (fun B => by as_aux_lemma => kernel_rfl) rfl (Ao rfl) ?_
    clear hf; intro a hf
    refine sxcallg hf rfl rfl rfl rfl rfl (g := 17) (vs := [.nilIface]) (ob := []) (by as_aux_lemma => kernel_rfl) An enters17 (num_nil  w6  ) ?_
    clear hf; rintro _ w7 a ⟨rfl, hk⟩ hf
    have hO := hO.keepNn hk
    have hM := hM.keepNn hk
    have hk0 := hk0.trans hk.nn
    clear hk
    refine sr0 hf hM [37, 36, 35, 0] [{}, {}, {}, {}, {}, {}] (env' := [(37, .val (.slice av l.length c)), (36, .val (.slice av1 l.length cv1)), (35, .val (.bool true)), (0, .val (.slice av l.length c))]) (ob := [true = true, true = true, true = true, true = true]) (fun B => by as_aux_lemma => kernel_rfl) rfl (Ac rfl (Ac rfl (Ac rfl (Ao rfl)))) ?_
    clear hf; intro a hf
    refine sxcallg hf rfl rfl rfl rfl rfl (g := 37) (vs := [.slice av1 l.length cv1, .slice av l.length c]) (ob := []) (by as_aux_lemma => kernel_rfl) An enters37 (rsame av1 l cv1 av l c w7  (own_arr (hO.own _ (List.Mem.tail _ (List.Mem.tail _ (List.Mem.head _))))) (by first | omega | (simp; omega) | (simp; done) | exact Nat.le_trans (byKinds_len _ _) (by omega) | decide) (hav.keepNn hk0) (by first | omega | (simp; omega) | (simp; done) | exact Nat.le_trans (byKinds_len _ _) (by omega) | decide)) ?_
    clear hf; rintro _ w8 a ⟨rfl, hk⟩ hf
    have hO := hO.keepNn hk
    have hM := hM.keepNn hk
    have hk0 := hk0.trans hk.nn
    clear hk
    refine sr0 hf hM [40, 0] [{}, {}] (env' := [(40, .val (.bool (sameL l l))), (0, .val (.slice av l.length c))]) (ob := []) (fun B => by as_aux_lemma => kernel_rfl) rfl An ?_
    clear hf; intro a hf
    have hf := hf.prune [40, 0]
    replace hf : Fr 47 [(40, .val (.bool (sameL l l))), (0, .val (.slice av l.length c))] a := hf
    replace hf := hf.conv (env' := [(40, .val (.bool true)), (0, .val (.slice av l.length c))]) (Ac (congrArg Value.bool hsl) (Ao rfl))
    refine sr0 hf hM [41, 40, 0] [{}] (env' := [(41, .val (.slice av l.length c)), (40, .val (.bool true)), (0, .val (.slice av l.length c))]) (ob := [true = true]) (fun B => by as_aux_lemma => kernel_rfl) rfl (Ao rfl) ?_
    clear hf; intro a hf
    refine sxcallg hf rfl rfl rfl rfl rfl (g := 41) (vs := [.slice av l.length c]) (ob := []) (by as_aux_lemma => kernel_rfl) An enters41 (sright E av l c w8  (hav.keepNn hk0) (by first | omega | (simp; omega) | (simp; done) | exact Nat.le_trans (byKinds_len _ _) (by omega) | decide) (hG.keep hk0 (fun _ h => h))) ?_
    clear hf; rintro _ w9 a ⟨rfl, hk⟩ hf
    have hO := hO.keepNn hk
    have hM := hM.keepNn hk
    have hk0 := hk0.trans hk.nn
    clear hk
    refine sr0 hf hM [43, 42, 40] [{}] (env' := [(43, .val (.slice av l.length c)), (42, .val (.bool (rightV l))), (40, .val (.bool true))]) (ob := [true = true]) (fun B => by as_aux_lemma => kernel_rfl) rfl (Ao rfl) ?_
    clear hf; intro a hf
    refine sxcallg hf rfl rfl rfl rfl rfl (g := 18) (vs := [.slice av l.length c]) (ob := []) (by as_aux_lemma => kernel_rfl) An enters18 (rright_ok av l c w9 hn0 hn1 (hav.keepNn hk0) (by first | omega | (simp; omega) | (simp; done) | exact Nat.le_trans (byKinds_len _ _) (by omega) | decide)) ?_
    clear hf; rintro _ w10 a ⟨rfl, hk⟩ hf
    have hO := hO.keepNn hk
    have hM := hM.keepNn hk
    have hk0 := hk0.trans hk.nn
    clear hk
    refine sr0 hf hM [2] [{}, {}, {}] (env' := [(2, .val (.bool ((rightV l) == (rightV l))))]) (ob := [true = true]) (fun B => by as_aux_lemma => kernel_rfl) rfl (Ao rfl) ?_
    clear hf; intro a hf
    refine wpList_nil ?_
    refine hK10 _ _ ?_
    refine wp_ret ?_
    refine sxret (fn := Tryd.f8) hf hM [] (l := [.bool ((rightV l) == (rightV l))]) (M' := []) (d' := false) (ob := []) (by kernel_rfl) (fun B => ⟨B, by as_aux_lemma => kernel_rfl⟩) rfl An ?_
    show (.bool ((rightV l) == (rightV l)) : Value) = .bool true ∧ Keep Nn w w10
    refine ⟨congrArg Value.bool ?_, hk0⟩
    first | rfl | (simp; done) | (simp_all; done)

set_option maxRecDepth 10000 in
set_option maxHeartbeats 4000000 in
theorem sro_dup (E : Nat → Addr) (av : Option Addr) (l : List V3) (c : Nat) (w : World) (hn0 : (firstBad l == 0) = true) (hn1 : (noDup l) = false) (hav : Arr w 3 av l.length c (flat fV l)) (hG : Errs [0, 1, 2, 3, 4, 5, 6, 7, 8, 9] w 185 E) :
    Calls Tryd.prog 8 #[.slice av l.length c] w (Ret fun v w' => v = .bool true ∧ Keep Nn w w') := by
  refine sxenter (n := 47) (args := [.slice av l.length c]) Tryd.func8 rfl rfl rfl fun a hf => ?_
  replace hf : Fr 47 [(0, .val (.slice av l.length c))] a := hf
  have hM : MemOk [] w := MemOk.nil w
  have hk0 : Keep Nn w w := Keep.refl _ _
  have hn : firstBad l = 0 := by simpa using hn0
  have hb1 : (firstBad l == 1) = false := by rw [hn]; decide
  have hb5 : (firstBad l == 5) = false := by rw [hn]; decide
  have hse : sameL ([] : List V3) [] = true := rfl
  have hsl := sameL_refl l
  have hsb := sameL_refl (byKinds l 10)
  refine wp_seq_k (fun K1 hK1 => ?_)
  refine wp_region_lit ?_
  refine sr0 hf hM [0] [{}] (env' := [(0, .val (.slice av l.length c))]) (ob := []) (fun B => by as_aux_lemma => kernel_rfl) rfl An ?_
  clear hf; intro a hf
  refine wpList_nil ?_
  refine hK1 _ _ ?_
  refine wp_seq_k (fun K2 hK2 => ?_)
  refine wp_seq_k (fun K3 hK3 => ?_)
  refine wp_region_lit ?_
  refine sxcall hf rfl rfl rfl rfl (g := 29) (vs := []) (ob := []) (by as_aux_lemma => kernel_rfl) An enters29 (alive6 E w  (hG.keep hk0 (fun _ h => h))) ?_
  clear hf; rintro _ w1 a ⟨rfl, hk⟩ hf
  have hM := hM.keepNn hk
  have hk0 := hk0.trans hk.nn
  clear hk
  refine sr0 hf hM [9, 0] [{}] (env' := [(9, .val (.bool false)), (0, .val (.slice av l.length c))]) (ob := []) (fun B => by as_aux_lemma => kernel_rfl) rfl An ?_
  clear hf; intro a hf
  refine wpList_nil ?_
  refine hK3 _ _ ?_
  refine sxcond hf (b := false) (by kernel_rfl) (fun h => by cases h) (fun _ => ?_)
  refine wp_skip ?_
  refine hK2 _ _ ?_
  refine wp_seq_k (fun K4 hK4 => ?_)
  refine wp_seq_k (fun K5 hK5 => ?_)
  refine wp_region_lit ?_
  refine sr0 hf hM [12, 0] [{}, {}, {}] (env' := [(12, .val (.bool (decide (((l.length : Int) : Int) > 100)))), (0, .val (.slice av l.length c))]) (ob := []) (fun B => by as_aux_lemma => kernel_rfl) rfl An ?_
  clear hf; intro a hf
  refine wpList_nil ?_
  refine hK5 _ _ ?_
  refine sxcond hf (b := (decide (((l.length : Int) : Int) > 100))) (by kernel_rfl) (fun hc2 => ?_) (fun hc2 => ?_)
  · have hc2r := hc2
    try simp only [Bool.or_eq_true, Bool.and_eq_true, Bool.not_eq_true', Bool.not_eq_false', Bool.or_eq_false_iff, Bool.and_eq_false_iff, decide_eq_true_eq, decide_eq_false_iff_not, beq_iff_eq, bne_iff_ne, beq_eq_false_iff_ne, bne_eq_false_iff_eq, Bool.and_true, Bool.true_and, ne_eq] at hc2
    refine wp_seq_k (fun K6 hK6 => ?_)
    refine wp_region_lit ?_
    refine sr0 hf hM [2] [{}] (env' := [(2, .val (.bool true))]) (ob := []) (fun B => by as_aux_lemma => kernel_rfl) rfl An ?_
    clear hf; intro a hf
    refine wpList_nil ?_
    refine hK6 _ _ ?_
    refine wp_ret ?_
    refine sxret (fn := Tryd.f8) hf hM [] (l := [.bool true]) (M' := []) (d' := false) (ob := []) (by kernel_rfl) (fun B => ⟨B, by as_aux_lemma => kernel_rfl⟩) rfl An ?_
    show (.bool true : Value) = .bool true ∧ Keep Nn w w1
    refine ⟨congrArg Value.bool ?_, hk0⟩
    first | rfl | (simp; done) | (simp_all; done)
  · have hc2r := hc2
    try simp only [Bool.or_eq_true, Bool.and_eq_true, Bool.not_eq_true', Bool.not_eq_false', Bool.or_eq_false_iff, Bool.and_eq_false_iff, decide_eq_true_eq, decide_eq_false_iff_not, beq_iff_eq, bne_iff_ne, beq_eq_false_iff_ne, bne_eq_false_iff_eq, Bool.and_true, Bool.true_and, ne_eq] at hc2
    refine wp_skip ?_
    refine hK4 _ _ ?_
    refine wp_seq_k (fun K7 hK7 => ?_)
    refine wp_region_lit ?_
    refine sxbslice hf hM (t := 23) (e := 62) (len := 0) (cs := []) (ob := []) rfl rfl rfl rfl (by as_aux_lemma => kernel_rfl) An (by as_aux_lemma => kernel_rfl) ?_
    clear hf hM; intro a w2 B5 hf hM hB hk
    replace hM : MemOk [⟨B5, 62, []⟩] w2 := hM
    have hbB5 : w.heap.size ≤ B5 := by have := hk0.size; omega
    have hk0 := hk0.trans hk.nn
    clear hk hB
    refine sr0 hf hM [14, 13, 0] [{}] (env' := [(14, .val (.slice av l.length c)), (13, .val (.slice (some ⟨B5, 0, none⟩) 0 0)), (0, .val (.slice av l.length c))]) (ob := []) (fun B => by as_aux_lemma => kernel_rfl) rfl An ?_
    clear hf; intro a hf
    have hO : OwnOk w.heap.size [⟨B5, 62, []⟩] [] w2 := OwnOk.nil hM
    replace hO := OwnOk.took (M1 := []) (M2 := []) (sz := 3) hO hM (n := 0) (c := 0) (by have := hk0.size; omega) (by decide) (by decide) rfl
    replace hM : MemOk [] w2 := hM.sub (.cons _ .slnil)
    replace hO : OwnOk w.heap.size [] [⟨62, 3, .slice (some ⟨B5, 0, none⟩) 0 0, 0, flat fV ([] : List V3)⟩] w2 := hO
    replace hO : OwnOk w.heap.size [] [⟨62, 3, .slice (some ⟨B5, 0, none⟩) 0 0, 0, flat fV ([] : List V3)⟩] w2 := OwnOk.front (l1 := []) (l2 := []) hO
    refine sxappend hf hM (e := 62) (sz := 3) (by_ := 24) (k := 0) (v := .slice (some ⟨B5, 0, none⟩) 0 0) (xs := flat fV ([] : List V3)) hO rfl rfl rfl rfl (av := av) (m := l.length) (c := c) rfl rfl Tryd.underlying23 (by kernel_rfl) rfl (news := flat fV l) (hav.keepNn hk0) (flat_one1 fV_one) (by simp only [maxLen]; constructor <;> (first | omega | (simp; omega))) (by have := hk0.size; omega) ?_
    clear hf hM hO; intro a w3 av1 cv1 hf hM hO hk
    have en : (0 + l.length : Nat) = l.length := (by simp)
    have ec : flat fV ([] : List V3) ++ flat fV l = flat fV l := (by simp [flat_app, flat_nil])
    rw [en] at hf hO; rw [ec] at hO; clear en ec
    replace hO : OwnOk w.heap.size [] [⟨62, 3, .slice av1 l.length cv1, l.length, flat fV l⟩] w3 := hO
    have hk0 := hk0.then hk (by intro i hi h; have := h.1; omega)
    clear hk
    refine sr0 hf hM [3, 0] [{}] (env' := [(3, .val (.slice av1 l.length cv1)), (0, .val (.slice av l.length c))]) (ob := []) (fun B => by as_aux_lemma => kernel_rfl) rfl An ?_
    clear hf; intro a hf
    refine wpList_nil ?_
    refine hK7 _ _ ?_
    refine wp_seq_k (fun K8 hK8 => ?_)
    refine wp_region_lit ?_
    refine sr0 hf hM [17, 3, 0] [{}] (env' := [(17, .val (.slice av1 l.length cv1)), (3, .val (.slice av1 l.length cv1)), (0, .val (.slice av l.length c))]) (ob := []) (fun B => by as_aux_lemma => kernel_rfl) rfl An ?_
    clear hf; intro a hf
    refine sxcall hf rfl rfl rfl rfl (g := 40) (vs := [.slice av1 l.length cv1]) (ob := []) (by as_aux_lemma => kernel_rfl) An enters40 (srow_dup E av1 l cv1 w3 hn0 hn1 (own_arr (hO.own _ (List.Mem.head _))) (by first | omega | (simp; omega) | (simp; done) | exact Nat.le_trans (byKinds_len _ _) (by omega) | decide) (hG.keep hk0 (fun _ h => h))) ?_
    clear hf; rintro _ w4 a ⟨rfl, hk⟩ hf
    have hO := hO.keepNn hk
    have hM := hM.keepNn hk
    have hk0 := hk0.trans hk.nn
    clear hk
    refine sr0 hf hM [5, 4, 3, 0] [{}, {}, {}, {}, {}] (env' := [(5, .val (.iface 185 (.pointer (some (E 3))))), (4, .val (.slice none 0 0)), (3, .val (.slice av1 l.length cv1)), (0, .val (.slice av l.length c))]) (ob := []) (fun B => by as_aux_lemma => kernel_rfl) rfl An ?_
    clear hf; intro a hf
    refine wpList_nil ?_
    refine hK8 _ _ ?_
    refine wp_seq_k (fun K9 hK9 => ?_)
    refine wp_region_lit ?_
    refine sr0 hf hM [22, 5, 4, 3, 0] [{}] (env' := [(22, .val (.slice av l.length c)), (5, .val (.iface 185 (.pointer (some (E 3))))), (4, .val (.slice none 0 0)), (3, .val (.slice av1 l.length cv1)), (0, .val (.slice av l.length c))]) (ob := []) (fun B => by as_aux_lemma => kernel_rfl) rfl An ?_
    clear hf; intro a hf
    refine sxcall hf rfl rfl rfl rfl (g := 33) (vs := [.slice av l.length c]) (ob := []) (by as_aux_lemma => kernel_rfl) An enters33 (rrow_dup av l c w4 hn0 hn1 (hav.keepNn hk0) (by first | omega | (simp; omega) | (simp; done) | exact Nat.le_trans (byKinds_len _ _) (by omega) | decide)) ?_
    clear hf; rintro _ w5 a ⟨rfl, hk⟩ hf
    have hO := hO.keepNn hk
    have hM := hM.keepNn hk
    have hk0 := hk0.trans hk.nn
    clear hk
    refine sr0 hf hM [7, 6, 5, 4, 3, 0] [{}, {}, {}, {}, {}] (env' := [(7, .val (.int .i64 4)), (6, .val (.slice none 0 0)), (5, .val (.iface 185 (.pointer (some (E 3))))), (4, .val (.slice none 0 0)), (3, .val (.slice av1 l.length cv1)), (0, .val (.slice av l.length c))]) (ob := []) (fun B => by as_aux_lemma => kernel_rfl) rfl An ?_
    clear hf; intro a hf
    refine wpList_nil ?_
    refine hK9 _ _ ?_
    refine wp_seq_k (fun K10 hK10 => ?_)
    refine wp_region_lit ?_
    refine sr0 hf hM [27, 26, 7, 5, 3, 0] [{}, {}] (env' := [(27, .val (.slice none 0 0)), (26, .val (.slice none 0 0)), (7, .val (.int .i64 4)), (5, .val (.iface 185 (.pointer (some (E 3))))), (3, .val (.slice av1 l.length cv1)), (0, .val (.slice av l.length c))]) (ob := []) (fun B => by as_aux_lemma => kernel_rfl) rfl An ?_
    clear hf; intro a hf
    refine sxcall hf rfl rfl rfl rfl (g := 37) (vs := [.slice none ([] : List V3).length 0, .slice none ([] : List V3).length 0]) (ob := []) (by as_aux_lemma => kernel_rfl) An enters37 (rsame none ([] : List V3) 0 none ([] : List V3) 0 w5  (Arr.none_nil _ _) (by first | omega | (simp; omega) | (simp; done) | exact Nat.le_trans (byKinds_len _ _) (by omega) | decide) (Arr.none_nil _ _) (by first | omega | (simp; omega) | (simp; done) | exact Nat.le_trans (byKinds_len _ _) (by omega) | decide)) ?_
    clear hf; rintro _ w6 a ⟨rfl, hk⟩ hf
    have hO := hO.keepNn hk
    have hM := hM.keepNn hk
    have hk0 := hk0.trans hk.nn
    clear hk
    refine sr0 hf hM [29, 7, 5, 3, 0] [{}] (env' := [(29, .val (.bool (sameL ([] : List V3) ([] : List V3)))), (7, .val (.int .i64 4)), (5, .val (.iface 185 (.pointer (some (E 3))))), (3, .val (.slice av1 l.length cv1)), (0, .val (.slice av l.length c))]) (ob := []) (fun B => by as_aux_lemma => kernel_rfl) rfl An ?_
    clear hf; intro a hf
    have hf := hf.prune [29, 7, 5, 3, 0]
    replace hf : Fr 47 [(29, .val (.bool (sameL ([] : List V3) ([] : List V3)))), (7, .val (.int .i64 4)), (5, .val (.iface 185 (.pointer (some (E 3))))), (3, .val (.slice av1 l.length cv1)), (0, .val (.slice av l.length c))] a := hf
    replace hf := hf.conv (env' := [(29, .val (.bool true)), (7, .val (.int .i64 4)), (5, .val (.iface 185 (.pointer (some (E 3))))), (3, .val (.slice av1 l.length cv1)), (0, .val (.slice av l.length c))]) (Ac (congrArg Value.bool hse) (Ac rfl (Ac rfl (Ac rfl (Ao rfl)))))
    refine sr0 hf hM [30, 29, 7, 3, 0] [{}] (env' := [(30, .val (.iface 185 (.pointer (some (E 3))))), (29, .val (.bool true)), (7, .val (.int .i64 4)), (3, .val (.slice av1 l.length cv1)), (0, .val (.slice av l.length c))]) (ob := [true = true]) (fun B => by as_aux_lemma => kernel_rfl) rfl (Ao rfl) ?_
    clear hf; intro a hf
    refine sxcallg hf rfl rfl rfl rfl rfl (g := 17) (vs := [.iface 185 (.pointer (some (E 3)))]) (ob := []) (by as_aux_lemma => kernel_rfl) An enters17 (num_err E 3 w6  (by decide) (hG.keep hk0 (fun _ h => h))) ?_
    clear hf; rintro _ w7 a ⟨rfl, hk⟩ hf
    have hO := hO.keepNn hk
    have hM := hM.keepNn hk
    have hk0 := hk0.trans hk.nn
    clear hk
    refine sr0 hf hM [37, 36, 35, 0] [{}, {}, {}, {}, {}, {}] (env' := [(37, .val (.slice av l.length c)), (36, .val (.slice av1 l.length cv1)), (35, .val (.bool true)), (0, .val (.slice av l.length c))]) (ob := [true = true, true = true, true = true, true = true]) (fun B => by as_aux_lemma => kernel_rfl) rfl (Ac rfl (Ac rfl (Ac rfl (Ao rfl)))) ?_
    clear hf; intro a hf
    refine sxcallg hf rfl rfl rfl rfl rfl (g := 37) (vs := [.slice av1 l.length cv1, .slice av l.length c]) (ob := []) (by as_aux_lemma => kernel_rfl) An enters37 (rsame av1 l cv1 av l c w7  (own_arr (hO.own _ (List.Mem.head _))) (by first | omega | (simp; omega) | (simp; done) | exact Nat.le_trans (byKinds_len _ _) (by omega) | decide) (hav.keepNn hk0) (by first | omega | (simp; omega) | (simp; done) | exact Nat.le_trans (byKinds_len _ _) (by omega) | decide)) ?_
    clear hf; rintro _ w8 a ⟨rfl, hk⟩ hf
    have hO := hO.keepNn hk
    have hM := hM.keepNn hk
    have hk0 := hk0.trans hk.nn
    clear hk
    refine sr0 hf hM [40, 0] [{}, {}] (env' := [(40, .val (.bool (sameL l l))), (0, .val (.slice av l.length c))]) (ob := []) (fun B => by as_aux_lemma => kernel_rfl) rfl An ?_
    clear hf; intro a hf
    have hf := hf.prune [40, 0]
    replace hf : Fr 47 [(40, .val (.bool (sameL l l))), (0, .val (.slice av l.length c))] a := hf
    replace hf := hf.conv (env' := [(40, .val (.bool true)), (0, .val (.slice av l.length c))]) (Ac (congrArg Value.bool hsl) (Ao rfl))
    refine sr0 hf hM [41, 40, 0] [{}] (env' := [(41, .val (.slice av l.length c)), (40, .val (.bool true)), (0, .val (.slice av l.length c))]) (ob := [true = true]) (fun B => by as_aux_lemma => kernel_rfl) rfl (Ao rfl) ?_
    clear hf; intro a hf
    refine sxcallg hf rfl rfl rfl rfl rfl (g := 41) (vs := [.slice av l.length c]) (ob := []) (by as_aux_lemma => kernel_rfl) An enters41 (sright E av l c w8  (hav.keepNn hk0) (by first | omega | (simp; omega) | (simp; done) | exact Nat.le_trans (byKinds_len _ _) (by omega) | decide) (hG.keep hk0 (fun _ h => h))) ?_
    clear hf; rintro _ w9 a ⟨rfl, hk⟩ hf
    have hO := hO.keepNn hk
    have hM := hM.keepNn hk
    have hk0 := hk0.trans hk.nn
    clear hk
    refine sr0 hf hM [43, 42, 40] [{}] (env' := [(43, .val (.slice av l.length c)), (42, .val (.bool (rightV l))), (40, .val (.bool true))]) (ob := [true = true]) (fun B => by as_aux_lemma => kernel_rfl) rfl (Ao rfl) ?_
    clear hf; intro a hf
    refine sxcallg hf rfl rfl rfl rfl rfl (g := 18) (vs := [.slice av l.length c]) (ob := []) (by as_aux_lemma => kernel_rfl) An enters18 (rright_dup av l c w9 hn0 hn1 (hav.keepNn hk0) (by first | omega | (simp; omega) | (simp; done) | exact Nat.le_trans (byKinds_len _ _) (by omega) | decide)) ?_
    clear hf; rintro _ w10 a ⟨rfl, hk⟩ hf
    have hO := hO.keepNn hk
    have hM := hM.keepNn hk
    have hk0 := hk0.trans hk.nn
    clear hk
    refine sr0 hf hM [2] [{}, {}, {}] (env' := [(2, .val (.bool ((rightV l) == (rightV l))))]) (ob := [true = true]) (fun B => by as_aux_lemma => kernel_rfl) rfl (Ao rfl) ?_
    clear hf; intro a hf
    refine wpList_nil ?_
    refine hK10 _ _ ?_
    refine wp_ret ?_
    refine sxret (fn := Tryd.f8) hf hM [] (l := [.bool ((rightV l) == (rightV l))]) (M' := []) (d' := false) (ob := []) (by kernel_rfl) (fun B => ⟨B, by as_aux_lemma => kernel_rfl⟩) rfl An ?_
    show (.bool ((rightV l) == (rightV l)) : Value) = .bool true ∧ Keep Nn w w10
    refine ⟨congrArg Value.bool ?_, hk0⟩
    first | rfl | (simp; done) | (simp_all; done)

theorem schemaRows_any (E : Nat → Addr) (av : Option Addr) (l : List V3) (c : Nat) (w : World) (hav : Arr w 3 av l.length c (flat fV l)) (hG : Errs [0, 1, 2, 3, 4, 5, 6, 7, 8, 9] w 185 E) :
    Calls Tryd.prog 8 #[.slice av l.length c] w (Ret fun v w' => v = .bool true ∧ Keep Nn w w') := by
  rcases firstBad_vals l with h | h | h
  · rcases Bool.eq_false_or_eq_true (noDup l) with h0 | h0
    · exact sro_ok E av l c w (by simp [h]) h0 hav hG
    · exact sro_dup E av l c w (by simp [h]) h0 hav hG
  · exact sro_range E av l c w (by simp [h]) hav hG
  · exact sro_kind E av l c w (by simp [h]) hav hG
end Go.Proofs.YtifcgjnknikjkaaDoor
