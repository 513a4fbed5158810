/- laws of layer 6: rows -/
import Derived.Test.YtifcgjnknikjkaaDoorBC6
namespace Go.Proofs.YtifcgjnknikjkaaDoor
open Go.Px
set_option linter.unusedVariables false
set_option linter.unusedSimpArgs false
theorem enters29 : enters Tryd.prog 29 := ⟨_, Tryd.func29, by kernel_rfl, rfl⟩
theorem enters45 : enters Tryd.prog 45 := ⟨_, Tryd.func45, by kernel_rfl, rfl⟩
theorem enters46 : enters Tryd.prog 46 := ⟨_, Tryd.func46, by kernel_rfl, rfl⟩
theorem enters47 : enters Tryd.prog 47 := ⟨_, Tryd.func47, by kernel_rfl, rfl⟩
theorem enters48 : enters Tryd.prog 48 := ⟨_, Tryd.func48, by kernel_rfl, rfl⟩

set_option maxRecDepth 10000 in
set_option maxHeartbeats 4000000 in
theorem sas_bad (E : Nat → Addr) (av : Option Addr) (l : List V3) (c : Nat) (kk : Int) (w : World) (hn0 : (firstBad l == 0) = false) (hav : Arr w 3 av l.length c (flat fV l)) (hG : Errs [0, 3, 4] w 185 E) :
    Calls Tryd.prog 9 #[.slice av l.length c, .int .i64 kk] w (Ret fun v w' => v = .bool true ∧ Keep Nn w w') := by
  refine sxenter (n := 81) (args := [.slice av l.length c, .int .i64 kk]) Tryd.func9 rfl rfl rfl fun a hf => ?_
  replace hf : Fr 81 [(0, .val (.slice av l.length c)), (1, .val (.int .i64 kk))] a := hf
  have hM : MemOk [] w := MemOk.nil w
  have hk0 : Keep Nn w w := Keep.refl _ _
  have hn : ¬ firstBad l = 0 := by simpa using hn0
  refine wp_seq_k (fun K1 hK1 => ?_)
  refine wp_region_lit ?_
  refine sr0 hf hM [0, 1] [{}] (env' := [(0, .val (.slice av l.length c)), (1, .val (.int .i64 kk))]) (ob := []) (fun B => by as_aux_lemma => kernel_rfl) rfl An ?_
  clear hf; intro a hf
  refine wpList_nil ?_
  refine hK1 _ _ ?_
  refine wp_seq_k (fun K2 hK2 => ?_)
  refine wp_seq_k (fun K3 hK3 => ?_)
  refine wp_region_lit ?_
  refine sxcall hf rfl rfl rfl rfl (g := 29) (vs := []) (ob := []) (by as_aux_lemma => kernel_rfl) An enters29 (alive6 E w  (hG.keep hk0 (fun _ h => h))) ?_
  clear hf; rintro _ w1 a ⟨rfl, hk⟩ hf
  have hM := hM.keepNn hk
  have hk0 := hk0.trans hk.nn
  clear hk
  refine sr0 hf hM [16, 0, 1] [{}] (env' := [(16, .val (.bool false)), (0, .val (.slice av l.length c)), (1, .val (.int .i64 kk))]) (ob := []) (fun B => by as_aux_lemma => kernel_rfl) rfl An ?_
  clear hf; intro a hf
  refine wpList_nil ?_
  refine hK3 _ _ ?_
  refine sxcond hf (b := false) (by kernel_rfl) (fun h => by cases h) (fun _ => ?_)
  refine wp_skip ?_
  refine hK2 _ _ ?_
  refine wp_seq_k (fun K4 hK4 => ?_)
  refine wp_seq_k (fun K5 hK5 => ?_)
  refine wp_region_lit ?_
  refine sr0 hf hM [19, 0, 1] [{}, {}, {}] (env' := [(19, .val (.bool (decide (((l.length : Int) : Int) > 20)))), (0, .val (.slice av l.length c)), (1, .val (.int .i64 kk))]) (ob := []) (fun B => by as_aux_lemma => kernel_rfl) rfl An ?_
  clear hf; intro a hf
  refine wpList_nil ?_
  refine hK5 _ _ ?_
  refine sxcond hf (b := (decide (((l.length : Int) : Int) > 20))) (by kernel_rfl) (fun hc2 => ?_) (fun hc2 => ?_)
  · have hc2r := hc2
    try simp only [Bool.or_eq_true, Bool.and_eq_true, Bool.not_eq_true', Bool.not_eq_false', Bool.or_eq_false_iff, Bool.and_eq_false_iff, decide_eq_true_eq, decide_eq_false_iff_not, beq_iff_eq, bne_iff_ne, beq_eq_false_iff_ne, bne_eq_false_iff_eq, Bool.and_true, Bool.true_and, ne_eq] at hc2
    refine wp_seq_k (fun K6 hK6 => ?_)
    refine wp_region_lit ?_
    refine sr0 hf hM [4] [{}] (env' := [(4, .val (.bool true))]) (ob := []) (fun B => by as_aux_lemma => kernel_rfl) rfl An ?_
    clear hf; intro a hf
    refine wpList_nil ?_
    refine hK6 _ _ ?_
    refine wp_ret ?_
    refine sxret (fn := Tryd.f9) hf hM [] (l := [.bool true]) (M' := []) (d' := false) (ob := []) (by kernel_rfl) (fun B => ⟨B, by as_aux_lemma => kernel_rfl⟩) rfl An ?_
    show (.bool true : Value) = .bool true ∧ Keep Nn w w1
    refine ⟨congrArg Value.bool ?_, hk0⟩
    first | rfl | (simp; done) | (simp_all; done)
  · have hc2r := hc2
    try simp only [Bool.or_eq_true, Bool.and_eq_true, Bool.not_eq_true', Bool.not_eq_false', Bool.or_eq_false_iff, Bool.and_eq_false_iff, decide_eq_true_eq, decide_eq_false_iff_not, beq_iff_eq, bne_iff_ne, beq_eq_false_iff_ne, bne_eq_false_iff_eq, Bool.and_true, Bool.true_and, ne_eq] at hc2
    refine wp_skip ?_
    refine hK4 _ _ ?_
    refine wp_seq_k (fun K7 hK7 => ?_)
    refine wp_region_lit ?_
    refine sr0 hf hM [21, 1] [{}] (env' := [(21, .val (.slice av l.length c)), (1, .val (.int .i64 kk))]) (ob := []) (fun B => by as_aux_lemma => kernel_rfl) rfl An ?_
    clear hf; intro a hf
    refine sxcall hf rfl rfl rfl rfl (g := 33) (vs := [.slice av l.length c]) (ob := []) (by as_aux_lemma => kernel_rfl) An enters33 (rrow_bad av l c w1 hn0 (hav.keepNn hk0) (by first | omega | (simp; omega) | (simp; done) | exact Nat.le_trans (byKinds_len _ _) (by omega) | decide)) ?_
    clear hf; rintro _ w2 a ⟨rfl, hk⟩ hf
    have hM := hM.keepNn hk
    have hk0 := hk0.trans hk.nn
    clear hk
    refine sr0 hf hM [6, 5, 1] [{}, {}, {}, {}, {}] (env' := [(6, .val (.int .i64 (firstBad l))), (5, .val (.slice none 0 0)), (1, .val (.int .i64 kk))]) (ob := []) (fun B => by as_aux_lemma => kernel_rfl) rfl An ?_
    clear hf; intro a hf
    refine wpList_nil ?_
    refine hK7 _ _ ?_
    refine wp_seq_k (fun K8 hK8 => ?_)
    refine wp_seq_k (fun K9 hK9 => ?_)
    refine wp_region_lit ?_
    refine sr0 hf hM [26, 5, 1] [{}, {}] (env' := [(26, .val (.bool (((firstBad l) : Int) != 0))), (5, .val (.slice none 0 0)), (1, .val (.int .i64 kk))]) (ob := []) (fun B => by as_aux_lemma => kernel_rfl) rfl An ?_
    clear hf; intro a hf
    refine wpList_nil ?_
    refine hK9 _ _ ?_
    refine sxcond hf (b := (((firstBad l) : Int) != 0)) (by kernel_rfl) (fun hc3 => ?_) (fun hc3 => ?_)
    · have hc3r := hc3
      try simp only [Bool.or_eq_true, Bool.and_eq_true, Bool.not_eq_true', Bool.not_eq_false', Bool.or_eq_false_iff, Bool.and_eq_false_iff, decide_eq_true_eq, decide_eq_false_iff_not, beq_iff_eq, bne_iff_ne, beq_eq_false_iff_ne, bne_eq_false_iff_eq, Bool.and_true, Bool.true_and, ne_eq] at hc3
      refine wp_seq_k (fun K10 hK10 => ?_)
      refine wp_region_lit ?_
      refine sr0 hf hM [4] [{}] (env' := [(4, .val (.bool true))]) (ob := []) (fun B => by as_aux_lemma => kernel_rfl) rfl An ?_
      clear hf; intro a hf
      refine wpList_nil ?_
      refine hK10 _ _ ?_
      refine wp_ret ?_
      refine sxret (fn := Tryd.f9) hf hM [] (l := [.bool true]) (M' := []) (d' := false) (ob := []) (by kernel_rfl) (fun B => ⟨B, by as_aux_lemma => kernel_rfl⟩) rfl An ?_
      show (.bool true : Value) = .bool true ∧ Keep Nn w w2
      refine ⟨congrArg Value.bool ?_, hk0⟩
      first | rfl | (simp; done) | (simp_all; done)
    · have hc3r := hc3
      try simp only [Bool.or_eq_true, Bool.and_eq_true, Bool.not_eq_true', Bool.not_eq_false', Bool.or_eq_false_iff, Bool.and_eq_false_iff, decide_eq_true_eq, decide_eq_false_iff_not, beq_iff_eq, bne_iff_ne, beq_eq_false_iff_ne, bne_eq_false_iff_eq, Bool.and_true, Bool.true_and, ne_eq] at hc3
      exfalso; simp_all

set_option maxRecDepth 10000 in
set_option maxHeartbeats 4000000 in
theorem sas_dup (E : Nat → Addr) (av : Option Addr) (l : List V3) (c : Nat) (kk : Int) (w : World) (hn0 : (firstBad l == 0) = true) (hn1 : (noDup l) = false) (hav : Arr w 3 av l.length c (flat fV l)) (hG : Errs [0, 3, 4] w 185 E) :
    Calls Tryd.prog 9 #[.slice av l.length c, .int .i64 kk] w (Ret fun v w' => v = .bool true ∧ Keep Nn w w') := by
  refine sxenter (n := 81) (args := [.slice av l.length c, .int .i64 kk]) Tryd.func9 rfl rfl rfl fun a hf => ?_
  replace hf : Fr 81 [(0, .val (.slice av l.length c)), (1, .val (.int .i64 kk))] a := hf
  have hM : MemOk [] w := MemOk.nil w
  have hk0 : Keep Nn w w := Keep.refl _ _
  refine wp_seq_k (fun K1 hK1 => ?_)
  refine wp_region_lit ?_
  refine sr0 hf hM [0, 1] [{}] (env' := [(0, .val (.slice av l.length c)), (1, .val (.int .i64 kk))]) (ob := []) (fun B => by as_aux_lemma => kernel_rfl) rfl An ?_
  clear hf; intro a hf
  refine wpList_nil ?_
  refine hK1 _ _ ?_
  refine wp_seq_k (fun K2 hK2 => ?_)
  refine wp_seq_k (fun K3 hK3 => ?_)
  refine wp_region_lit ?_
  refine sxcall hf rfl rfl rfl rfl (g := 29) (vs := []) (ob := []) (by as_aux_lemma => kernel_rfl) An enters29 (alive6 E w  (hG.keep hk0 (fun _ h => h))) ?_
  clear hf; rintro _ w1 a ⟨rfl, hk⟩ hf
  have hM := hM.keepNn hk
  have hk0 := hk0.trans hk.nn
  clear hk
  refine sr0 hf hM [16, 0, 1] [{}] (env' := [(16, .val (.bool false)), (0, .val (.slice av l.length c)), (1, .val (.int .i64 kk))]) (ob := []) (fun B => by as_aux_lemma => kernel_rfl) rfl An ?_
  clear hf; intro a hf
  refine wpList_nil ?_
  refine hK3 _ _ ?_
  refine sxcond hf (b := false) (by kernel_rfl) (fun h => by cases h) (fun _ => ?_)
  refine wp_skip ?_
  refine hK2 _ _ ?_
  refine wp_seq_k (fun K4 hK4 => ?_)
  refine wp_seq_k (fun K5 hK5 => ?_)
  refine wp_region_lit ?_
  refine sr0 hf hM [19, 0, 1] [{}, {}, {}] (env' := [(19, .val (.bool (decide (((l.length : Int) : Int) > 20)))), (0, .val (.slice av l.length c)), (1, .val (.int .i64 kk))]) (ob := []) (fun B => by as_aux_lemma => kernel_rfl) rfl An ?_
  clear hf; intro a hf
  refine wpList_nil ?_
  refine hK5 _ _ ?_
  refine sxcond hf (b := (decide (((l.length : Int) : Int) > 20))) (by kernel_rfl) (fun hc2 => ?_) (fun hc2 => ?_)
  · have hc2r := hc2
    try simp only [Bool.or_eq_true, Bool.and_eq_true, Bool.not_eq_true', Bool.not_eq_false', Bool.or_eq_false_iff, Bool.and_eq_false_iff, decide_eq_true_eq, decide_eq_false_iff_not, beq_iff_eq, bne_iff_ne, beq_eq_false_iff_ne, bne_eq_false_iff_eq, Bool.and_true, Bool.true_and, ne_eq] at hc2
    refine wp_seq_k (fun K6 hK6 => ?_)
    refine wp_region_lit ?_
    refine sr0 hf hM [4] [{}] (env' := [(4, .val (.bool true))]) (ob := []) (fun B => by as_aux_lemma => kernel_rfl) rfl An ?_
    clear hf; intro a hf
    refine wpList_nil ?_
    refine hK6 _ _ ?_
    refine wp_ret ?_
    refine sxret (fn := Tryd.f9) hf hM [] (l := [.bool true]) (M' := []) (d' := false) (ob := []) (by kernel_rfl) (fun B => ⟨B, by as_aux_lemma => kernel_rfl⟩) rfl An ?_
    show (.bool true : Value) = .bool true ∧ Keep Nn w w1
    refine ⟨congrArg Value.bool ?_, hk0⟩
    first | rfl | (simp; done) | (simp_all; done)
  · have hc2r := hc2
    try simp only [Bool.or_eq_true, Bool.and_eq_true, Bool.not_eq_true', Bool.not_eq_false', Bool.or_eq_false_iff, Bool.and_eq_false_iff, decide_eq_true_eq, decide_eq_false_iff_not, beq_iff_eq, bne_iff_ne, beq_eq_false_iff_ne, bne_eq_false_iff_eq, Bool.and_true, Bool.true_and, ne_eq] at hc2
    refine wp_skip ?_
    refine hK4 _ _ ?_
    refine wp_seq_k (fun K7 hK7 => ?_)
    refine wp_region_lit ?_
    refine sr0 hf hM [21, 1] [{}] (env' := [(21, .val (.slice av l.length c)), (1, .val (.int .i64 kk))]) (ob := []) (fun B => by as_aux_lemma => kernel_rfl) rfl An ?_
    clear hf; intro a hf
    refine sxcall hf rfl rfl rfl rfl (g := 33) (vs := [.slice av l.length c]) (ob := []) (by as_aux_lemma => kernel_rfl) An enters33 (rrow_dup av l c w1 hn0 hn1 (hav.keepNn hk0) (by first | omega | (simp; omega) | (simp; done) | exact Nat.le_trans (byKinds_len _ _) (by omega) | decide)) ?_
    clear hf; rintro _ w2 a ⟨rfl, hk⟩ hf
    have hM := hM.keepNn hk
    have hk0 := hk0.trans hk.nn
    clear hk
    refine sr0 hf hM [6, 5, 1] [{}, {}, {}, {}, {}] (env' := [(6, .val (.int .i64 4)), (5, .val (.slice none 0 0)), (1, .val (.int .i64 kk))]) (ob := []) (fun B => by as_aux_lemma => kernel_rfl) rfl An ?_
    clear hf; intro a hf
    refine wpList_nil ?_
    refine hK7 _ _ ?_
    refine wp_seq_k (fun K8 hK8 => ?_)
    refine wp_seq_k (fun K9 hK9 => ?_)
    refine wp_region_lit ?_
    refine sr0 hf hM [26, 5, 1] [{}, {}] (env' := [(26, .val (.bool true)), (5, .val (.slice none 0 0)), (1, .val (.int .i64 kk))]) (ob := []) (fun B => by as_aux_lemma => kernel_rfl) rfl An ?_
    clear hf; intro a hf
    refine wpList_nil ?_
    refine hK9 _ _ ?_
    refine sxcond hf (b := true) (by kernel_rfl) (fun _ => ?_) (fun h => by cases h)
    refine wp_seq_k (fun K10 hK10 => ?_)
    refine wp_region_lit ?_
    refine sr0 hf hM [4] [{}] (env' := [(4, .val (.bool true))]) (ob := []) (fun B => by as_aux_lemma => kernel_rfl) rfl An ?_
    clear hf; intro a hf
    refine wpList_nil ?_
    refine hK10 _ _ ?_
    refine wp_ret ?_
    refine sxret (fn := Tryd.f9) hf hM [] (l := [.bool true]) (M' := []) (d' := false) (ob := []) (by kernel_rfl) (fun B => ⟨B, by as_aux_lemma => kernel_rfl⟩) rfl An ?_
    show (.bool true : Value) = .bool true ∧ Keep Nn w w2
    refine ⟨congrArg Value.bool ?_, hk0⟩
    first | rfl | (simp; done) | (simp_all; done)

set_option maxRecDepth 10000 in
set_option maxHeartbeats 4000000 in
theorem sas_ok (E : Nat → Addr) (av : Option Addr) (l : List V3) (c : Nat) (kk : Int) (w : World) (hn0 : (firstBad l == 0) = true) (hn1 : (noDup l) = true) (hav : Arr w 3 av l.length c (flat fV l)) (hG : Errs [0, 3, 4] w 185 E) :
    Calls Tryd.prog 9 #[.slice av l.length c, .int .i64 kk] w (Ret fun v w' => v = .bool true ∧ Keep Nn w w') := by
  refine sxenter (n := 81) (args := [.slice av l.length c, .int .i64 kk]) Tryd.func9 rfl rfl rfl fun a hf => ?_
  replace hf : Fr 81 [(0, .val (.slice av l.length c)), (1, .val (.int .i64 kk))] a := hf
  have hM : MemOk [] w := MemOk.nil w
  have hk0 : Keep Nn w w := Keep.refl _ _
  have hn : firstBad l = 0 := by simpa using hn0
  have hkd := kinds_byKinds hn
  refine wp_seq_k (fun K1 hK1 => ?_)
  refine wp_region_lit ?_
  refine sr0 hf hM [0, 1] [{}] (env' := [(0, .val (.slice av l.length c)), (1, .val (.int .i64 kk))]) (ob := []) (fun B => by as_aux_lemma => kernel_rfl) rfl An ?_
  clear hf; intro a hf
  refine wpList_nil ?_
  refine hK1 _ _ ?_
  refine wp_seq_k (fun K2 hK2 => ?_)
  refine wp_seq_k (fun K3 hK3 => ?_)
  refine wp_region_lit ?_
  refine sxcall hf rfl rfl rfl rfl (g := 29) (vs := []) (ob := []) (by as_aux_lemma => kernel_rfl) An enters29 (alive6 E w  (hG.keep hk0 (fun _ h => h))) ?_
  clear hf; rintro _ w1 a ⟨rfl, hk⟩ hf
  have hM := hM.keepNn hk
  have hk0 := hk0.trans hk.nn
  clear hk
  refine sr0 hf hM [16, 0, 1] [{}] (env' := [(16, .val (.bool false)), (0, .val (.slice av l.length c)), (1, .val (.int .i64 kk))]) (ob := []) (fun B => by as_aux_lemma => kernel_rfl) rfl An ?_
  clear hf; intro a hf
  refine wpList_nil ?_
  refine hK3 _ _ ?_
  refine sxcond hf (b := false) (by kernel_rfl) (fun h => by cases h) (fun _ => ?_)
  refine wp_skip ?_
  refine hK2 _ _ ?_
  refine wp_seq_k (fun K4 hK4 => ?_)
  refine wp_seq_k (fun K5 hK5 => ?_)
  refine wp_region_lit ?_
  refine sr0 hf hM [19, 0, 1] [{}, {}, {}] (env' := [(19, .val (.bool (decide (((l.length : Int) : Int) > 20)))), (0, .val (.slice av l.length c)), (1, .val (.int .i64 kk))]) (ob := []) (fun B => by as_aux_lemma => kernel_rfl) rfl An ?_
  clear hf; intro a hf
  refine wpList_nil ?_
  refine hK5 _ _ ?_
  refine sxcond hf (b := (decide (((l.length : Int) : Int) > 20))) (by kernel_rfl) (fun hc2 => ?_) (fun hc2 => ?_)
  · have hc2r := hc2
    try simp only [Bool.or_eq_true, Bool.and_eq_true, Bool.not_eq_true', Bool.not_eq_false', Bool.or_eq_false_iff, Bool.and_eq_false_iff, decide_eq_true_eq, decide_eq_false_iff_not, beq_iff_eq, bne_iff_ne, beq_eq_false_iff_ne, bne_eq_false_iff_eq, Bool.and_true, Bool.true_and, ne_eq] at hc2
    refine wp_seq_k (fun K6 hK6 => ?_)
    refine wp_region_lit ?_
    refine sr0 hf hM [4] [{}] (env' := [(4, .val (.bool true))]) (ob := []) (fun B => by as_aux_lemma => kernel_rfl) rfl An ?_
    clear hf; intro a hf
    refine wpList_nil ?_
    refine hK6 _ _ ?_
    refine wp_ret ?_
    refine sxret (fn := Tryd.f9) hf hM [] (l := [.bool true]) (M' := []) (d' := false) (ob := []) (by kernel_rfl) (fun B => ⟨B, by as_aux_lemma => kernel_rfl⟩) rfl An ?_
    show (.bool true : Value) = .bool true ∧ Keep Nn w w1
    refine ⟨congrArg Value.bool ?_, hk0⟩
    first | rfl | (simp; done) | (simp_all; done)
  · have hc2r := hc2
    try simp only [Bool.or_eq_true, Bool.and_eq_true, Bool.not_eq_true', Bool.not_eq_false', Bool.or_eq_false_iff, Bool.and_eq_false_iff, decide_eq_true_eq, decide_eq_false_iff_not, beq_iff_eq, bne_iff_ne, beq_eq_false_iff_ne, bne_eq_false_iff_eq, Bool.and_true, Bool.true_and, ne_eq] at hc2
    refine wp_skip ?_
    refine hK4 _ _ ?_
    refine wp_seq_k (fun K7 hK7 => ?_)
    refine wp_region_lit ?_
    refine sr0 hf hM [21, 1] [{}] (env' := [(21, .val (.slice av l.length c)), (1, .val (.int .i64 kk))]) (ob := []) (fun B => by as_aux_lemma => kernel_rfl) rfl An ?_
    clear hf; intro a hf
    refine sxcall hf rfl rfl rfl rfl (g := 33) (vs := [.slice av l.length c]) (ob := []) (by as_aux_lemma => kernel_rfl) An enters33 (rrow_ok av l c w1 hn0 hn1 (hav.keepNn hk0) (by first | omega | (simp; omega) | (simp; done) | exact Nat.le_trans (byKinds_len _ _) (by omega) | decide)) ?_
    clear hf; rintro _ w2 a ⟨a'1, c'1, rfl, hk, hx1⟩ hf
    have hO : OwnOk w.heap.size [] [] w1 := OwnOk.nil hM
    have hO := hO.more hM hk (by have := hk0.size; omega) hx1
    replace hO : OwnOk w.heap.size [] [⟨62, 3, .slice a'1 (byKinds l 10).length c'1, (byKinds l 10).length, flat fV (byKinds l 10)⟩] _ := hO
    have hM := hM.keepNn hk
    have hk0 := hk0.trans hk.nn
    clear hk
    refine sr0 hf hM [6, 5, 1] [{}, {}, {}, {}, {}] (env' := [(6, .val (.int .i64 0)), (5, .val (.slice a'1 (byKinds l 10).length c'1)), (1, .val (.int .i64 kk))]) (ob := []) (fun B => by as_aux_lemma => kernel_rfl) rfl An ?_
    clear hf; intro a hf
    refine wpList_nil ?_
    refine hK7 _ _ ?_
    refine wp_seq_k (fun K8 hK8 => ?_)
    refine wp_seq_k (fun K9 hK9 => ?_)
    refine wp_region_lit ?_
    refine sr0 hf hM [26, 5, 1] [{}, {}] (env' := [(26, .val (.bool false)), (5, .val (.slice a'1 (byKinds l 10).length c'1)), (1, .val (.int .i64 kk))]) (ob := []) (fun B => by as_aux_lemma => kernel_rfl) rfl An ?_
    clear hf; intro a hf
    refine wpList_nil ?_
    refine hK9 _ _ ?_
    refine sxcond hf (b := false) (by kernel_rfl) (fun h => by cases h) (fun _ => ?_)
    refine wp_skip ?_
    refine hK8 _ _ ?_
    refine wp_seq_k (fun K10 hK10 => ?_)
    refine wp_region_lit ?_
    refine sr0 hf hM [29, 28, 5, 1] [{}, {}] (env' := [(29, .val (.int .i64 kk)), (28, .val (.slice a'1 (byKinds l 10).length c'1)), (5, .val (.slice a'1 (byKinds l 10).length c'1)), (1, .val (.int .i64 kk))]) (ob := []) (fun B => by as_aux_lemma => kernel_rfl) rfl An ?_
    clear hf; intro a hf
    refine sxcall hf rfl rfl rfl rfl (g := 42) (vs := [.slice a'1 (byKinds l 10).length c'1, .int .i64 kk]) (ob := []) (by as_aux_lemma => kernel_rfl) An enters42 (sfind a'1 (byKinds l 10) c'1 kk w2  (own_arr (hO.own _ (List.Mem.head _))) (by first | omega | (simp; omega) | (simp; done) | exact Nat.le_trans (byKinds_len _ _) (by omega) | decide)) ?_
    clear hf; rintro _ w3 a ⟨rfl, hk⟩ hf
    have hO := hO.keepNn hk
    have hM := hM.keepNn hk
    have hk0 := hk0.trans hk.nn
    clear hk
    refine sr hf hM [8, 7, 5, 1] [{}, {}, {}, { os := [.nw] }, { os := [.st 0 0, .st 0 1, .st 0 2] }, {}] (env' := fun B9 => [(8, .val (.bool (hasV (byKinds l 10) kk))), (7, .val (.pointer (some ⟨B9, 0, none⟩))), (5, .val (.slice a'1 (byKinds l 10).length c'1)), (1, .val (.int .i64 kk))]) (M' := fun B9 => [⟨B9, 62, [.int .i64 ((findV (byKinds l 10) kk).k), .int .i64 ((findV (byKinds l 10) kk).a), .int .i64 ((findV (byKinds l 10) kk).b)]⟩]) (ob := fun B9 => [Ad B9 0, Ad B9 1, Ad B9 2]) (fun B => by as_aux_lemma => kernel_rfl) (fun B9 => (Ac (ad _ _) (Ac (ad _ _) (Ao (ad _ _))))) ?_
    clear hf hM; intro a w4 B9 hf hM hB hk
    have hbB9 : w.heap.size ≤ B9 := by have := hk0.size; omega
    have hk0 := hk0.then hk (by intro i _ h; cases h)
    have hO := hO.step hM (hk.mono (by intro _ _ h; cases h)) (by intro i h; simp only [Mem.names, List.map_cons, List.map_nil, List.mem_cons, List.not_mem_nil, or_false, List.map_append, List.cons_append, List.nil_append] at h ⊢; omega)
    clear hk hB
    refine wpList_nil ?_
    refine hK10 _ _ ?_
    refine wp_seq_k (fun K11 hK11 => ?_)
    refine wp_region_lit ?_
    refine sr0 hf hM [35, 34, 8, 7, 5] [{}, {}] (env' := [(35, .val (.int .i64 kk)), (34, .val (.slice a'1 (byKinds l 10).length c'1)), (8, .val (.bool (hasV (byKinds l 10) kk))), (7, .val (.pointer (some ⟨B9, 0, none⟩))), (5, .val (.slice a'1 (byKinds l 10).length c'1))]) (ob := []) (fun B => by as_aux_lemma => kernel_rfl) rfl An ?_
    clear hf; intro a hf
    refine sxcall hf rfl rfl rfl rfl (g := 43) (vs := [.slice a'1 (byKinds l 10).length c'1, .int .i64 kk]) (ob := []) (by as_aux_lemma => kernel_rfl) An enters43 (rfind a'1 (byKinds l 10) c'1 kk w4  (own_arr (hO.own _ (List.Mem.head _))) (by first | omega | (simp; omega) | (simp; done) | exact Nat.le_trans (byKinds_len _ _) (by omega) | decide)) ?_
    clear hf; rintro _ w5 a ⟨rfl, hk⟩ hf
    have hO := hO.keepNn hk
    have hM := hM.keepNn hk
    have hk0 := hk0.trans hk.nn
    clear hk
    refine sr hf hM [10, 9, 8, 7, 5] [{}, {}, {}, { os := [.nw] }, { os := [.st 1 0, .st 1 1, .st 1 2] }, {}] (env' := fun B11 => [(10, .val (.bool (hasV (byKinds l 10) kk))), (9, .val (.pointer (some ⟨B11, 0, none⟩))), (8, .val (.bool (hasV (byKinds l 10) kk))), (7, .val (.pointer (some ⟨B9, 0, none⟩))), (5, .val (.slice a'1 (byKinds l 10).length c'1))]) (M' := fun B11 => [⟨B9, 62, [.int .i64 ((findV (byKinds l 10) kk).k), .int .i64 ((findV (byKinds l 10) kk).a), .int .i64 ((findV (byKinds l 10) kk).b)]⟩, ⟨B11, 62, [.int .i64 ((findV (byKinds l 10) kk).k), .int .i64 ((findV (byKinds l 10) kk).a), .int .i64 ((findV (byKinds l 10) kk).b)]⟩]) (ob := fun B11 => [Ad B11 0, Ad B11 1, Ad B11 2]) (fun B => by as_aux_lemma => kernel_rfl) (fun B11 => (Ac (ad _ _) (Ac (ad _ _) (Ao (ad _ _))))) ?_
    clear hf hM; intro a w6 B11 hf hM hB hk
    have hbB11 : w.heap.size ≤ B11 := by have := hk0.size; omega
    have hk0 := hk0.then hk (by intro i hi h; simp only [Is, Mem.names, List.map_cons, List.map_nil, List.mem_cons, List.not_mem_nil, or_false] at h; omega)
    have hO := hO.step hM hk (by intro i h; simp only [Mem.names, List.map_cons, List.map_nil, List.mem_cons, List.not_mem_nil, or_false, List.map_append, List.cons_append, List.nil_append] at h ⊢; omega)
    clear hk hB
    refine wpList_nil ?_
    refine hK11 _ _ ?_
    refine wp_seq_k (fun K12 hK12 => ?_)
    refine wp_region_lit ?_
    refine sr0 hf hM [40, 10, 9, 8, 7, 5] [{}] (env' := [(40, .val (.slice a'1 (byKinds l 10).length c'1)), (10, .val (.bool (hasV (byKinds l 10) kk))), (9, .val (.pointer (some ⟨B11, 0, none⟩))), (8, .val (.bool (hasV (byKinds l 10) kk))), (7, .val (.pointer (some ⟨B9, 0, none⟩))), (5, .val (.slice a'1 (byKinds l 10).length c'1))]) (ob := []) (fun B => by as_aux_lemma => kernel_rfl) rfl An ?_
    clear hf; intro a hf
    rcases Bool.eq_false_or_eq_true (hasBox (byKinds l 10)) with hs1 | hs1
    · have hs1r := hs1
      try simp only [Bool.or_eq_true, Bool.and_eq_true, Bool.not_eq_true', Bool.not_eq_false', Bool.or_eq_false_iff, Bool.and_eq_false_iff, decide_eq_true_eq, decide_eq_false_iff_not, beq_iff_eq, bne_iff_ne, beq_eq_false_iff_ne, bne_eq_false_iff_eq, Bool.and_true, Bool.true_and, ne_eq] at hs1
      refine sxcall hf rfl rfl rfl rfl (g := 32) (vs := [.slice a'1 (byKinds l 10).length c'1]) (ob := []) (by as_aux_lemma => kernel_rfl) An enters32 (sbox_ok E a'1 (byKinds l 10) c'1 w6 hs1r (own_arr (hO.own _ (List.Mem.head _))) (by first | omega | (simp; omega) | (simp; done) | exact Nat.le_trans (byKinds_len _ _) (by omega) | decide) (hG.keep hk0 (fun _ h => h))) ?_
      clear hf; rintro _ w7 a ⟨rfl, hk⟩ hf
      have hO := hO.keepNn hk
      have hM := hM.keepNn hk
      have hk0 := hk0.trans hk.nn
      clear hk
      refine sr hf hM [12, 11, 10, 9, 8, 7, 5] [{}, {}, {}, { os := [.nw] }, { os := [.st 2 0, .st 2 1, .st 2 2, .st 2 3] }, {}] (env' := fun B13 => [(12, .val (.bool true)), (11, .val (.pointer (some ⟨B13, 0, none⟩))), (10, .val (.bool (hasV (byKinds l 10) kk))), (9, .val (.pointer (some ⟨B11, 0, none⟩))), (8, .val (.bool (hasV (byKinds l 10) kk))), (7, .val (.pointer (some ⟨B9, 0, none⟩))), (5, .val (.slice a'1 (byKinds l 10).length c'1))]) (M' := fun B13 => [⟨B9, 62, [.int .i64 ((findV (byKinds l 10) kk).k), .int .i64 ((findV (byKinds l 10) kk).a), .int .i64 ((findV (byKinds l 10) kk).b)]⟩, ⟨B11, 62, [.int .i64 ((findV (byKinds l 10) kk).k), .int .i64 ((findV (byKinds l 10) kk).a), .int .i64 ((findV (byKinds l 10) kk).b)]⟩, ⟨B13, 50, [.int .i64 ((findV (byKinds l 10) 0).a - (findV (byKinds l 10) 1).a), .int .i64 ((findV (byKinds l 10) 0).b - (findV (byKinds l 10) 1).b), .int .i64 ((findV (byKinds l 10) 0).a + (findV (byKinds l 10) 1).a), .int .i64 ((findV (byKinds l 10) 0).b + (findV (byKinds l 10) 1).b)]⟩]) (ob := fun B13 => [Ad B13 0, Ad B13 1, Ad B13 2, Ad B13 3]) (fun B => by as_aux_lemma => kernel_rfl) (fun B13 => (Ac (ad _ _) (Ac (ad _ _) (Ac (ad _ _) (Ao (ad _ _)))))) ?_
      clear hf hM; intro a w8 B13 hf hM hB hk
      have hbB13 : w.heap.size ≤ B13 := by have := hk0.size; omega
      have hk0 := hk0.then hk (by intro i hi h; simp only [Is, Mem.names, List.map_cons, List.map_nil, List.mem_cons, List.not_mem_nil, or_false] at h; omega)
      have hO := hO.step hM hk (by intro i h; simp only [Mem.names, List.map_cons, List.map_nil, List.mem_cons, List.not_mem_nil, or_false, List.map_append, List.cons_append, List.nil_append] at h ⊢; omega)
      clear hk hB
      refine wpList_nil ?_
      refine hK12 _ _ ?_
      refine wp_seq_k (fun K13 hK13 => ?_)
      refine wp_region_lit ?_
      refine sr0 hf hM [45, 12, 11, 10, 9, 8, 7, 5] [{}] (env' := [(45, .val (.slice a'1 (byKinds l 10).length c'1)), (12, .val (.bool true)), (11, .val (.pointer (some ⟨B13, 0, none⟩))), (10, .val (.bool (hasV (byKinds l 10) kk))), (9, .val (.pointer (some ⟨B11, 0, none⟩))), (8, .val (.bool (hasV (byKinds l 10) kk))), (7, .val (.pointer (some ⟨B9, 0, none⟩))), (5, .val (.slice a'1 (byKinds l 10).length c'1))]) (ob := []) (fun B => by as_aux_lemma => kernel_rfl) rfl An ?_
      clear hf; intro a hf
      refine sxcall hf rfl rfl rfl rfl (g := 44) (vs := [.slice a'1 (byKinds l 10).length c'1]) (ob := []) (by as_aux_lemma => kernel_rfl) An enters44 (rbox_ok a'1 (byKinds l 10) c'1 w8 hs1r (own_arr (hO.own _ (List.Mem.head _))) (by first | omega | (simp; omega) | (simp; done) | exact Nat.le_trans (byKinds_len _ _) (by omega) | decide)) ?_
      clear hf; rintro _ w9 a ⟨rfl, hk⟩ hf
      have hO := hO.keepNn hk
      have hM := hM.keepNn hk
      have hk0 := hk0.trans hk.nn
      clear hk
      refine sr hf hM [14, 13, 12, 11, 10, 9, 8, 7, 5] [{}, {}, {}, { os := [.nw] }, { os := [.st 3 0, .st 3 1, .st 3 2, .st 3 3] }, {}] (env' := fun B15 => [(14, .val (.bool true)), (13, .val (.pointer (some ⟨B15, 0, none⟩))), (12, .val (.bool true)), (11, .val (.pointer (some ⟨B13, 0, none⟩))), (10, .val (.bool (hasV (byKinds l 10) kk))), (9, .val (.pointer (some ⟨B11, 0, none⟩))), (8, .val (.bool (hasV (byKinds l 10) kk))), (7, .val (.pointer (some ⟨B9, 0, none⟩))), (5, .val (.slice a'1 (byKinds l 10).length c'1))]) (M' := fun B15 => [⟨B9, 62, [.int .i64 ((findV (byKinds l 10) kk).k), .int .i64 ((findV (byKinds l 10) kk).a), .int .i64 ((findV (byKinds l 10) kk).b)]⟩, ⟨B11, 62, [.int .i64 ((findV (byKinds l 10) kk).k), .int .i64 ((findV (byKinds l 10) kk).a), .int .i64 ((findV (byKinds l 10) kk).b)]⟩, ⟨B13, 50, [.int .i64 ((findV (byKinds l 10) 0).a - (findV (byKinds l 10) 1).a), .int .i64 ((findV (byKinds l 10) 0).b - (findV (byKinds l 10) 1).b), .int .i64 ((findV (byKinds l 10) 0).a + (findV (byKinds l 10) 1).a), .int .i64 ((findV (byKinds l 10) 0).b + (findV (byKinds l 10) 1).b)]⟩, ⟨B15, 50, [.int .i64 ((findV (byKinds l 10) 0).a - (findV (byKinds l 10) 1).a), .int .i64 ((findV (byKinds l 10) 0).b - (findV (byKinds l 10) 1).b), .int .i64 ((findV (byKinds l 10) 0).a + (findV (byKinds l 10) 1).a), .int .i64 ((findV (byKinds l 10) 0).b + (findV (byKinds l 10) 1).b)]⟩]) (ob := fun B15 => [Ad B15 0, Ad B15 1, Ad B15 2, Ad B15 3]) (fun B => by as_aux_lemma => kernel_rfl) (fun B15 => (Ac (ad _ _) (Ac (ad _ _) (Ac (ad _ _) (Ao (ad _ _)))))) ?_
      clear hf hM; intro a w10 B15 hf hM hB hk
      have hbB15 : w.heap.size ≤ B15 := by have := hk0.size; omega
      have hk0 := hk0.then hk (by intro i hi h; simp only [Is, Mem.names, List.map_cons, List.map_nil, List.mem_cons, List.not_mem_nil, or_false] at h; omega)
      have hO := hO.step hM hk (by intro i h; simp only [Mem.names, List.map_cons, List.map_nil, List.mem_cons, List.not_mem_nil, or_false, List.map_append, List.cons_append, List.nil_append] at h ⊢; omega)
      clear hk hB
      refine wpList_nil ?_
      refine hK13 _ _ ?_
      refine wp_seq_k (fun K14 hK14 => ?_)
      refine wp_region_lit ?_
      refine sr0 hf hM [67, 5] [{ os := [.ld 0 0, .ld 0 1, .ld 0 2] }, { os := [.ld 1 0, .ld 1 1, .ld 1 2] }, { sp := true, hint := some (.bool true) }, {}, {}, {}, {}, {}, {}, { g := .sym, os := [.ld 2 0, .ld 2 1, .ld 2 2, .ld 2 3] }, { g := .sym, os := [.ld 3 0, .ld 3 1, .ld 3 2, .ld 3 3] }, { g := .sym, sp := true, hint := some (.bool true) }, { hint := some (.bool (((hasV (byKinds l 10) kk) == (hasV (byKinds l 10) kk)) || false)) }, {}, { g := .sym }, { g := .sym }, { g := .sym }, { hint := some (.bool ((((hasV (byKinds l 10) kk) == (hasV (byKinds l 10) kk)) || false) && (true == true))) }, {}] (env' := [(67, .val (.bool ((((hasV (byKinds l 10) kk) == (hasV (byKinds l 10) kk)) || false) && (true == true)))), (5, .val (.slice a'1 (byKinds l 10).length c'1))]) (ob := [Ad B9 0, Ad B9 1, Ad B9 2, Ad B11 0, Ad B11 1, Ad B11 2, (.bool (((((findV (byKinds l 10) kk).k) : Int) == ((findV (byKinds l 10) kk).k)) && (((((findV (byKinds l 10) kk).a) : Int) == ((findV (byKinds l 10) kk).a)) && (((((findV (byKinds l 10) kk).b) : Int) == ((findV (byKinds l 10) kk).b)) && true))) : Value) = (.bool true : Value), true = true, true = true, true = true, (((hasV (byKinds l 10) kk) == (hasV (byKinds l 10) kk)) = true → Ad B13 0), (((hasV (byKinds l 10) kk) == (hasV (byKinds l 10) kk)) = true → Ad B13 1), (((hasV (byKinds l 10) kk) == (hasV (byKinds l 10) kk)) = true → Ad B13 2), (((hasV (byKinds l 10) kk) == (hasV (byKinds l 10) kk)) = true → Ad B13 3), (((hasV (byKinds l 10) kk) == (hasV (byKinds l 10) kk)) = true → Ad B15 0), (((hasV (byKinds l 10) kk) == (hasV (byKinds l 10) kk)) = true → Ad B15 1), (((hasV (byKinds l 10) kk) == (hasV (byKinds l 10) kk)) = true → Ad B15 2), (((hasV (byKinds l 10) kk) == (hasV (byKinds l 10) kk)) = true → Ad B15 3), (((hasV (byKinds l 10) kk) == (hasV (byKinds l 10) kk)) = true → ((hasV (byKinds l 10) kk) == (hasV (byKinds l 10) kk)) = ((hasV (byKinds l 10) kk) == (hasV (byKinds l 10) kk))), (((hasV (byKinds l 10) kk) == (hasV (byKinds l 10) kk)) = true → ((hasV (byKinds l 10) kk) == (hasV (byKinds l 10) kk)) = ((hasV (byKinds l 10) kk) == (hasV (byKinds l 10) kk))), (((hasV (byKinds l 10) kk) == (hasV (byKinds l 10) kk)) = true → (.bool (((((findV (byKinds l 10) 0).a - (findV (byKinds l 10) 1).a) : Int) == ((findV (byKinds l 10) 0).a - (findV (byKinds l 10) 1).a)) && (((((findV (byKinds l 10) 0).b - (findV (byKinds l 10) 1).b) : Int) == ((findV (byKinds l 10) 0).b - (findV (byKinds l 10) 1).b)) && (((((findV (byKinds l 10) 0).a + (findV (byKinds l 10) 1).a) : Int) == ((findV (byKinds l 10) 0).a + (findV (byKinds l 10) 1).a)) && (((((findV (byKinds l 10) 0).b + (findV (byKinds l 10) 1).b) : Int) == ((findV (byKinds l 10) 0).b + (findV (byKinds l 10) 1).b)) && true)))) : Value) = (.bool true : Value)), (((hasV (byKinds l 10) kk) == (hasV (byKinds l 10) kk)) = true → ((hasV (byKinds l 10) kk) == (hasV (byKinds l 10) kk)) = ((hasV (byKinds l 10) kk) == (hasV (byKinds l 10) kk))), (bif ((hasV (byKinds l 10) kk) == (hasV (byKinds l 10) kk)) then (.bool true : Value) else .bool false) = .bool (((hasV (byKinds l 10) kk) == (hasV (byKinds l 10) kk)) || false), ((((hasV (byKinds l 10) kk) == (hasV (byKinds l 10) kk)) || false) = true → (((hasV (byKinds l 10) kk) == (hasV (byKinds l 10) kk)) || false) = (((hasV (byKinds l 10) kk) == (hasV (byKinds l 10) kk)) || false)), ((((hasV (byKinds l 10) kk) == (hasV (byKinds l 10) kk)) || false) = true → (((hasV (byKinds l 10) kk) == (hasV (byKinds l 10) kk)) || false) = (((hasV (byKinds l 10) kk) == (hasV (byKinds l 10) kk)) || false)), ((((hasV (byKinds l 10) kk) == (hasV (byKinds l 10) kk)) || false) = true → (((hasV (byKinds l 10) kk) == (hasV (byKinds l 10) kk)) || false) = (((hasV (byKinds l 10) kk) == (hasV (byKinds l 10) kk)) || false)), (bif (((hasV (byKinds l 10) kk) == (hasV (byKinds l 10) kk)) || false) then (.bool (true == true) : Value) else .bool false) = .bool ((((hasV (byKinds l 10) kk) == (hasV (byKinds l 10) kk)) || false) && (true == true))]) (fun B => by as_aux_lemma => kernel_rfl) rfl (Ac (ad _ _) (Ac (ad _ _) (Ac (ad _ _) (Ac (ad _ _) (Ac (ad _ _) (Ac (ad _ _) (Ac (by simp) (Ac rfl (Ac rfl (Ac rfl (Ac (fun hgd => ad _ _) (Ac (fun hgd => ad _ _) (Ac (fun hgd => ad _ _) (Ac (fun hgd => ad _ _) (Ac (fun hgd => ad _ _) (Ac (fun hgd => ad _ _) (Ac (fun hgd => ad _ _) (Ac (fun hgd => ad _ _) (Ac (fun hgd => rfl) (Ac (fun hgd => rfl) (Ac (fun hgd => (by simp)) (Ac (fun _ => rfl) (Ac (pick_or _ _) (Ac (fun hgd => rfl) (Ac (fun hgd => rfl) (Ac (fun _ => rfl) (Ao (pick_and _ _)))))))))))))))))))))))))))) ?_
      clear hf; intro a hf
      rcases Bool.eq_false_or_eq_true ((((hasV (byKinds l 10) kk) == (hasV (byKinds l 10) kk)) || false) && (true == true)) with hg1 | hg1
      · have hg1r := hg1
        have hf := hf.prune [67, 5]
        replace hf : Fr 81 [(67, .val (.bool ((((hasV (byKinds l 10) kk) == (hasV (byKinds l 10) kk)) || false) && (true == true)))), (5, .val (.slice a'1 (byKinds l 10).length c'1))] a := hf
        replace hf := hf.conv (env' := [(67, .val (.bool true)), (5, .val (.slice a'1 (byKinds l 10).length c'1))]) (Ac (congrArg Value.bool hg1r) (Ao rfl))
        try simp only [Bool.or_eq_true, Bool.and_eq_true, Bool.not_eq_true', Bool.not_eq_false', Bool.or_eq_false_iff, Bool.and_eq_false_iff, decide_eq_true_eq, decide_eq_false_iff_not, beq_iff_eq, bne_iff_ne, beq_eq_false_iff_ne, bne_eq_false_iff_eq, Bool.and_true, Bool.true_and, ne_eq] at hg1
        refine sr0 hf hM [68, 67, 5] [{}] (env' := [(68, .val (.slice a'1 (byKinds l 10).length c'1)), (67, .val (.bool true)), (5, .val (.slice a'1 (byKinds l 10).length c'1))]) (ob := [true = true]) (fun B => by as_aux_lemma => kernel_rfl) rfl (Ao rfl) ?_
        clear hf; intro a hf
        refine sxcallg hf rfl rfl rfl rfl rfl (g := 45) (vs := [.slice a'1 (byKinds l 10).length c'1]) (ob := []) (by as_aux_lemma => kernel_rfl) An enters45 (smask E a'1 (byKinds l 10) c'1 w10  (own_arr (hO.own _ (List.Mem.head _))) (by first | omega | (simp; omega) | (simp; done) | exact Nat.le_trans (byKinds_len _ _) (by omega) | decide) (by assumption) (hG.keep hk0 (fun _ h => h))) ?_
        clear hf; rintro _ w11 a ⟨rfl, hk⟩ hf
        have hO := hO.keepNn hk
        have hM := hM.keepNn hk
        have hk0 := hk0.trans hk.nn
        clear hk
        refine sr0 hf hM [70, 69, 67, 5] [{}] (env' := [(70, .val (.slice a'1 (byKinds l 10).length c'1)), (69, .val (.int .u64 (((maskN (byKinds l 10)) : Nat) : Int))), (67, .val (.bool true)), (5, .val (.slice a'1 (byKinds l 10).length c'1))]) (ob := [true = true]) (fun B => by as_aux_lemma => kernel_rfl) rfl (Ao rfl) ?_
        clear hf; intro a hf
        refine sxcallg hf rfl rfl rfl rfl rfl (g := 46) (vs := [.slice a'1 (byKinds l 10).length c'1]) (ob := []) (by as_aux_lemma => kernel_rfl) An enters46 (rmask a'1 (byKinds l 10) c'1 w11  (own_arr (hO.own _ (List.Mem.head _))) (by first | omega | (simp; omega) | (simp; done) | exact Nat.le_trans (byKinds_len _ _) (by omega) | decide) (by assumption)) ?_
        clear hf; rintro _ w12 a ⟨rfl, hk⟩ hf
        have hO := hO.keepNn hk
        have hM := hM.keepNn hk
        have hk0 := hk0.trans hk.nn
        clear hk
        refine sr0 hf hM [75, 74, 5] [{ hint := some (.bool true) }, {}, {}, {}] (env' := [(75, .val (.slice a'1 (byKinds l 10).length c'1)), (74, .val (.bool true)), (5, .val (.slice a'1 (byKinds l 10).length c'1))]) (ob := [true = true, (.bool (((((maskN (byKinds l 10)) : Nat) : Int) : Int) == (((maskN (byKinds l 10)) : Nat) : Int)) : Value) = (.bool true : Value), true = true]) (fun B => by as_aux_lemma => kernel_rfl) rfl (Ac rfl (Ac (by simp) (Ao rfl))) ?_
        clear hf; intro a hf
        refine sxcallg hf rfl rfl rfl rfl rfl (g := 47) (vs := [.slice a'1 (byKinds l 10).length c'1]) (ob := []) (by as_aux_lemma => kernel_rfl) An enters47 (sblocks E a'1 (byKinds l 10) c'1 w12  (own_arr (hO.own _ (List.Mem.head _))) (by first | omega | (simp; omega) | (simp; done) | exact Nat.le_trans (byKinds_len _ _) (by omega) | decide) (hG.keep hk0 (fun _ h => h))) ?_
        clear hf; rintro _ w13 a ⟨rfl, hk⟩ hf
        have hO := hO.keepNn hk
        have hM := hM.keepNn hk
        have hk0 := hk0.trans hk.nn
        clear hk
        refine sr0 hf hM [77, 76, 74] [{}] (env' := [(77, .val (.slice a'1 (byKinds l 10).length c'1)), (76, .val (.bool (hasBox (byKinds l 10) && hasV (byKinds l 10) 3))), (74, .val (.bool true))]) (ob := [true = true]) (fun B => by as_aux_lemma => kernel_rfl) rfl (Ao rfl) ?_
        clear hf; intro a hf
        refine sxcallg hf rfl rfl rfl rfl rfl (g := 48) (vs := [.slice a'1 (byKinds l 10).length c'1]) (ob := []) (by as_aux_lemma => kernel_rfl) An enters48 (rblocks a'1 (byKinds l 10) c'1 w13  (own_arr (hO.own _ (List.Mem.head _))) (by first | omega | (simp; omega) | (simp; done) | exact Nat.le_trans (byKinds_len _ _) (by omega) | decide)) ?_
        clear hf; rintro _ w14 a ⟨rfl, hk⟩ hf
        have hO := hO.keepNn hk
        have hM := hM.keepNn hk
        have hk0 := hk0.trans hk.nn
        clear hk
        refine sr0 hf hM [4] [{}, {}, {}] (env' := [(4, .val (.bool ((hasBox (byKinds l 10) && hasV (byKinds l 10) 3) == (hasBox (byKinds l 10) && hasV (byKinds l 10) 3))))]) (ob := [true = true]) (fun B => by as_aux_lemma => kernel_rfl) rfl (Ao rfl) ?_
        clear hf; intro a hf
        refine wpList_nil ?_
        refine hK14 _ _ ?_
        refine wp_ret ?_
        refine sxret (fn := Tryd.f9) hf hM [] (l := [.bool ((hasBox (byKinds l 10) && hasV (byKinds l 10) 3) == (hasBox (byKinds l 10) && hasV (byKinds l 10) 3))]) (M' := [⟨B9, 62, [.int .i64 ((findV (byKinds l 10) kk).k), .int .i64 ((findV (byKinds l 10) kk).a), .int .i64 ((findV (byKinds l 10) kk).b)]⟩, ⟨B11, 62, [.int .i64 ((findV (byKinds l 10) kk).k), .int .i64 ((findV (byKinds l 10) kk).a), .int .i64 ((findV (byKinds l 10) kk).b)]⟩, ⟨B13, 50, [.int .i64 ((findV (byKinds l 10) 0).a - (findV (byKinds l 10) 1).a), .int .i64 ((findV (byKinds l 10) 0).b - (findV (byKinds l 10) 1).b), .int .i64 ((findV (byKinds l 10) 0).a + (findV (byKinds l 10) 1).a), .int .i64 ((findV (byKinds l 10) 0).b + (findV (byKinds l 10) 1).b)]⟩, ⟨B15, 50, [.int .i64 ((findV (byKinds l 10) 0).a - (findV (byKinds l 10) 1).a), .int .i64 ((findV (byKinds l 10) 0).b - (findV (byKinds l 10) 1).b), .int .i64 ((findV (byKinds l 10) 0).a + (findV (byKinds l 10) 1).a), .int .i64 ((findV (byKinds l 10) 0).b + (findV (byKinds l 10) 1).b)]⟩]) (d' := false) (ob := []) (by kernel_rfl) (fun B => ⟨B, by as_aux_lemma => kernel_rfl⟩) rfl An ?_
        show (.bool ((hasBox (byKinds l 10) && hasV (byKinds l 10) 3) == (hasBox (byKinds l 10) && hasV (byKinds l 10) 3)) : Value) = .bool true ∧ Keep Nn w w14
        refine ⟨congrArg Value.bool ?_, hk0⟩
        first | rfl | (simp; done) | (simp_all; done)
      · have hg1r := hg1
        have hf := hf.prune [67, 5]
        replace hf : Fr 81 [(67, .val (.bool ((((hasV (byKinds l 10) kk) == (hasV (byKinds l 10) kk)) || false) && (true == true)))), (5, .val (.slice a'1 (byKinds l 10).length c'1))] a := hf
        replace hf := hf.conv (env' := [(67, .val (.bool false)), (5, .val (.slice a'1 (byKinds l 10).length c'1))]) (Ac (congrArg Value.bool hg1r) (Ao rfl))
        try simp only [Bool.or_eq_true, Bool.and_eq_true, Bool.not_eq_true', Bool.not_eq_false', Bool.or_eq_false_iff, Bool.and_eq_false_iff, decide_eq_true_eq, decide_eq_false_iff_not, beq_iff_eq, bne_iff_ne, beq_eq_false_iff_ne, bne_eq_false_iff_eq, Bool.and_true, Bool.true_and, ne_eq] at hg1
        refine sr0 hf hM [68, 67, 5] [{ g := .off }] (env' := [(68, .val (undef)), (67, .val (.bool false)), (5, .val (.slice a'1 (byKinds l 10).length c'1))]) (ob := [false = !true]) (fun B => by as_aux_lemma => kernel_rfl) rfl (Ao rfl) ?_
        clear hf; intro a hf
        refine sr0 hf hM [70, 69, 67, 5] [{ g := .off }, { g := .off }] (env' := [(70, .val (undef)), (69, .val (undef)), (67, .val (.bool false)), (5, .val (.slice a'1 (byKinds l 10).length c'1))]) (ob := [false = !true, false = !true]) (fun B => by as_aux_lemma => kernel_rfl) rfl (Ac rfl (Ao rfl)) ?_
        clear hf; intro a hf
        refine sr0 hf hM [75, 74, 5] [{ g := .off }, { g := .off }, {}, {}, { g := .off }] (env' := [(75, .val (undef)), (74, .val (.bool false)), (5, .val (.slice a'1 (byKinds l 10).length c'1))]) (ob := [false = !true, false = !true, false = !true]) (fun B => by as_aux_lemma => kernel_rfl) rfl (Ac rfl (Ac rfl (Ao rfl))) ?_
        clear hf; intro a hf
        refine sr0 hf hM [77, 76, 74] [{ g := .off }, { g := .off }] (env' := [(77, .val (undef)), (76, .val (undef)), (74, .val (.bool false))]) (ob := [false = !true, false = !true]) (fun B => by as_aux_lemma => kernel_rfl) rfl (Ac rfl (Ao rfl)) ?_
        clear hf; intro a hf
        refine sr0 hf hM [4] [{ g := .off }, { g := .off }, {}, {}] (env' := [(4, .val (.bool false))]) (ob := [false = !true, false = !true]) (fun B => by as_aux_lemma => kernel_rfl) rfl (Ac rfl (Ao rfl)) ?_
        clear hf; intro a hf
        refine wpList_nil ?_
        refine hK14 _ _ ?_
        refine wp_ret ?_
        refine sxret (fn := Tryd.f9) hf hM [] (l := [.bool false]) (M' := [⟨B9, 62, [.int .i64 ((findV (byKinds l 10) kk).k), .int .i64 ((findV (byKinds l 10) kk).a), .int .i64 ((findV (byKinds l 10) kk).b)]⟩, ⟨B11, 62, [.int .i64 ((findV (byKinds l 10) kk).k), .int .i64 ((findV (byKinds l 10) kk).a), .int .i64 ((findV (byKinds l 10) kk).b)]⟩, ⟨B13, 50, [.int .i64 ((findV (byKinds l 10) 0).a - (findV (byKinds l 10) 1).a), .int .i64 ((findV (byKinds l 10) 0).b - (findV (byKinds l 10) 1).b), .int .i64 ((findV (byKinds l 10) 0).a + (findV (byKinds l 10) 1).a), .int .i64 ((findV (byKinds l 10) 0).b + (findV (byKinds l 10) 1).b)]⟩, ⟨B15, 50, [.int .i64 ((findV (byKinds l 10) 0).a - (findV (byKinds l 10) 1).a), .int .i64 ((findV (byKinds l 10) 0).b - (findV (byKinds l 10) 1).b), .int .i64 ((findV (byKinds l 10) 0).a + (findV (byKinds l 10) 1).a), .int .i64 ((findV (byKinds l 10) 0).b + (findV (byKinds l 10) 1).b)]⟩]) (d' := false) (ob := []) (by kernel_rfl) (fun B => ⟨B, by as_aux_lemma => kernel_rfl⟩) rfl An ?_
        show (.bool false : Value) = .bool true ∧ Keep Nn w w10
        refine ⟨congrArg Value.bool ?_, hk0⟩
        first | rfl | (simp; done) | (simp_all; done)
    · have hs1r := hs1
      try simp only [Bool.or_eq_true, Bool.and_eq_true, Bool.not_eq_true', Bool.not_eq_false', Bool.or_eq_false_iff, Bool.and_eq_false_iff, decide_eq_true_eq, decide_eq_false_iff_not, beq_iff_eq, bne_iff_ne, beq_eq_false_iff_ne, bne_eq_false_iff_eq, Bool.and_true, Bool.true_and, ne_eq] at hs1
      refine sxcall hf rfl rfl rfl rfl (g := 32) (vs := [.slice a'1 (byKinds l 10).length c'1]) (ob := []) (by as_aux_lemma => kernel_rfl) An enters32 (sbox_no E a'1 (byKinds l 10) c'1 w6 hs1r (own_arr (hO.own _ (List.Mem.head _))) (by first | omega | (simp; omega) | (simp; done) | exact Nat.le_trans (byKinds_len _ _) (by omega) | decide) (hG.keep hk0 (fun _ h => h))) ?_
      clear hf; rintro _ w15 a ⟨rfl, hk⟩ hf
      have hO := hO.keepNn hk
      have hM := hM.keepNn hk
      have hk0 := hk0.trans hk.nn
      clear hk
      refine sr hf hM [12, 11, 10, 9, 8, 7, 5] [{}, {}, {}, { os := [.nw] }, { os := [.st 2 0, .st 2 1, .st 2 2, .st 2 3] }, {}] (env' := fun B27 => [(12, .val (.bool false)), (11, .val (.pointer (some ⟨B27, 0, none⟩))), (10, .val (.bool (hasV (byKinds l 10) kk))), (9, .val (.pointer (some ⟨B11, 0, none⟩))), (8, .val (.bool (hasV (byKinds l 10) kk))), (7, .val (.pointer (some ⟨B9, 0, none⟩))), (5, .val (.slice a'1 (byKinds l 10).length c'1))]) (M' := fun B27 => [⟨B9, 62, [.int .i64 ((findV (byKinds l 10) kk).k), .int .i64 ((findV (byKinds l 10) kk).a), .int .i64 ((findV (byKinds l 10) kk).b)]⟩, ⟨B11, 62, [.int .i64 ((findV (byKinds l 10) kk).k), .int .i64 ((findV (byKinds l 10) kk).a), .int .i64 ((findV (byKinds l 10) kk).b)]⟩, ⟨B27, 50, [.int .i64 0, .int .i64 0, .int .i64 0, .int .i64 0]⟩]) (ob := fun B27 => [Ad B27 0, Ad B27 1, Ad B27 2, Ad B27 3]) (fun B => by as_aux_lemma => kernel_rfl) (fun B27 => (Ac (ad _ _) (Ac (ad _ _) (Ac (ad _ _) (Ao (ad _ _)))))) ?_
      clear hf hM; intro a w16 B27 hf hM hB hk
      have hbB27 : w.heap.size ≤ B27 := by have := hk0.size; omega
      have hk0 := hk0.then hk (by intro i hi h; simp only [Is, Mem.names, List.map_cons, List.map_nil, List.mem_cons, List.not_mem_nil, or_false] at h; omega)
      have hO := hO.step hM hk (by intro i h; simp only [Mem.names, List.map_cons, List.map_nil, List.mem_cons, List.not_mem_nil, or_false, List.map_append, List.cons_append, List.nil_append] at h ⊢; omega)
      clear hk hB
      refine wpList_nil ?_
      refine hK12 _ _ ?_
      refine wp_seq_k (fun K15 hK15 => ?_)
      refine wp_region_lit ?_
      refine sr0 hf hM [45, 12, 11, 10, 9, 8, 7, 5] [{}] (env' := [(45, .val (.slice a'1 (byKinds l 10).length c'1)), (12, .val (.bool false)), (11, .val (.pointer (some ⟨B27, 0, none⟩))), (10, .val (.bool (hasV (byKinds l 10) kk))), (9, .val (.pointer (some ⟨B11, 0, none⟩))), (8, .val (.bool (hasV (byKinds l 10) kk))), (7, .val (.pointer (some ⟨B9, 0, none⟩))), (5, .val (.slice a'1 (byKinds l 10).length c'1))]) (ob := []) (fun B => by as_aux_lemma => kernel_rfl) rfl An ?_
      clear hf; intro a hf
      refine sxcall hf rfl rfl rfl rfl (g := 44) (vs := [.slice a'1 (byKinds l 10).length c'1]) (ob := []) (by as_aux_lemma => kernel_rfl) An enters44 (rbox_no a'1 (byKinds l 10) c'1 w16 hs1r (own_arr (hO.own _ (List.Mem.head _))) (by first | omega | (simp; omega) | (simp; done) | exact Nat.le_trans (byKinds_len _ _) (by omega) | decide)) ?_
      clear hf; rintro _ w17 a ⟨rfl, hk⟩ hf
      have hO := hO.keepNn hk
      have hM := hM.keepNn hk
      have hk0 := hk0.trans hk.nn
      clear hk
      refine sr hf hM [14, 13, 12, 11, 10, 9, 8, 7, 5] [{}, {}, {}, { os := [.nw] }, { os := [.st 3 0, .st 3 1, .st 3 2, .st 3 3] }, {}] (env' := fun B29 => [(14, .val (.bool false)), (13, .val (.pointer (some ⟨B29, 0, none⟩))), (12, .val (.bool false)), (11, .val (.pointer (some ⟨B27, 0, none⟩))), (10, .val (.bool (hasV (byKinds l 10) kk))), (9, .val (.pointer (some ⟨B11, 0, none⟩))), (8, .val (.bool (hasV (byKinds l 10) kk))), (7, .val (.pointer (some ⟨B9, 0, none⟩))), (5, .val (.slice a'1 (byKinds l 10).length c'1))]) (M' := fun B29 => [⟨B9, 62, [.int .i64 ((findV (byKinds l 10) kk).k), .int .i64 ((findV (byKinds l 10) kk).a), .int .i64 ((findV (byKinds l 10) kk).b)]⟩, ⟨B11, 62, [.int .i64 ((findV (byKinds l 10) kk).k), .int .i64 ((findV (byKinds l 10) kk).a), .int .i64 ((findV (byKinds l 10) kk).b)]⟩, ⟨B27, 50, [.int .i64 0, .int .i64 0, .int .i64 0, .int .i64 0]⟩, ⟨B29, 50, [.int .i64 0, .int .i64 0, .int .i64 0, .int .i64 0]⟩]) (ob := fun B29 => [Ad B29 0, Ad B29 1, Ad B29 2, Ad B29 3]) (fun B => by as_aux_lemma => kernel_rfl) (fun B29 => (Ac (ad _ _) (Ac (ad _ _) (Ac (ad _ _) (Ao (ad _ _)))))) ?_
      clear hf hM; intro a w18 B29 hf hM hB hk
      have hbB29 : w.heap.size ≤ B29 := by have := hk0.size; omega
      have hk0 := hk0.then hk (by intro i hi h; simp only [Is, Mem.names, List.map_cons, List.map_nil, List.mem_cons, List.not_mem_nil, or_false] at h; omega)
      have hO := hO.step hM hk (by intro i h; simp only [Mem.names, List.map_cons, List.map_nil, List.mem_cons, List.not_mem_nil, or_false, List.map_append, List.cons_append, List.nil_append] at h ⊢; omega)
      clear hk hB
      refine wpList_nil ?_
      refine hK15 _ _ ?_
      refine wp_seq_k (fun K16 hK16 => ?_)
      refine wp_region_lit ?_
      refine sr0 hf hM [67, 5] [{ os := [.ld 0 0, .ld 0 1, .ld 0 2] }, { os := [.ld 1 0, .ld 1 1, .ld 1 2] }, { sp := true, hint := some (.bool true) }, {}, {}, {}, {}, {}, {}, { g := .sym, os := [.ld 2 0, .ld 2 1, .ld 2 2, .ld 2 3] }, { g := .sym, os := [.ld 3 0, .ld 3 1, .ld 3 2, .ld 3 3] }, { g := .sym, sp := true, hint := some (.bool true) }, { hint := some (.bool (((hasV (byKinds l 10) kk) == (hasV (byKinds l 10) kk)) || false)) }, {}, { g := .sym }, { g := .sym }, { g := .sym }, { hint := some (.bool ((((hasV (byKinds l 10) kk) == (hasV (byKinds l 10) kk)) || false) && (false == false))) }, {}] (env' := [(67, .val (.bool ((((hasV (byKinds l 10) kk) == (hasV (byKinds l 10) kk)) || false) && (false == false)))), (5, .val (.slice a'1 (byKinds l 10).length c'1))]) (ob := [Ad B9 0, Ad B9 1, Ad B9 2, Ad B11 0, Ad B11 1, Ad B11 2, (.bool (((((findV (byKinds l 10) kk).k) : Int) == ((findV (byKinds l 10) kk).k)) && (((((findV (byKinds l 10) kk).a) : Int) == ((findV (byKinds l 10) kk).a)) && (((((findV (byKinds l 10) kk).b) : Int) == ((findV (byKinds l 10) kk).b)) && true))) : Value) = (.bool true : Value), true = true, true = true, true = true, (((hasV (byKinds l 10) kk) == (hasV (byKinds l 10) kk)) = true → Ad B27 0), (((hasV (byKinds l 10) kk) == (hasV (byKinds l 10) kk)) = true → Ad B27 1), (((hasV (byKinds l 10) kk) == (hasV (byKinds l 10) kk)) = true → Ad B27 2), (((hasV (byKinds l 10) kk) == (hasV (byKinds l 10) kk)) = true → Ad B27 3), (((hasV (byKinds l 10) kk) == (hasV (byKinds l 10) kk)) = true → Ad B29 0), (((hasV (byKinds l 10) kk) == (hasV (byKinds l 10) kk)) = true → Ad B29 1), (((hasV (byKinds l 10) kk) == (hasV (byKinds l 10) kk)) = true → Ad B29 2), (((hasV (byKinds l 10) kk) == (hasV (byKinds l 10) kk)) = true → Ad B29 3), (((hasV (byKinds l 10) kk) == (hasV (byKinds l 10) kk)) = true → ((hasV (byKinds l 10) kk) == (hasV (byKinds l 10) kk)) = ((hasV (byKinds l 10) kk) == (hasV (byKinds l 10) kk))), (((hasV (byKinds l 10) kk) == (hasV (byKinds l 10) kk)) = true → ((hasV (byKinds l 10) kk) == (hasV (byKinds l 10) kk)) = ((hasV (byKinds l 10) kk) == (hasV (byKinds l 10) kk))), (((hasV (byKinds l 10) kk) == (hasV (byKinds l 10) kk)) = true → (.bool (((0 : Int) == 0) && (((0 : Int) == 0) && (((0 : Int) == 0) && (((0 : Int) == 0) && true)))) : Value) = (.bool true : Value)), (((hasV (byKinds l 10) kk) == (hasV (byKinds l 10) kk)) = true → ((hasV (byKinds l 10) kk) == (hasV (byKinds l 10) kk)) = ((hasV (byKinds l 10) kk) == (hasV (byKinds l 10) kk))), (bif ((hasV (byKinds l 10) kk) == (hasV (byKinds l 10) kk)) then (.bool true : Value) else .bool false) = .bool (((hasV (byKinds l 10) kk) == (hasV (byKinds l 10) kk)) || false), ((((hasV (byKinds l 10) kk) == (hasV (byKinds l 10) kk)) || false) = true → (((hasV (byKinds l 10) kk) == (hasV (byKinds l 10) kk)) || false) = (((hasV (byKinds l 10) kk) == (hasV (byKinds l 10) kk)) || false)), ((((hasV (byKinds l 10) kk) == (hasV (byKinds l 10) kk)) || false) = true → (((hasV (byKinds l 10) kk) == (hasV (byKinds l 10) kk)) || false) = (((hasV (byKinds l 10) kk) == (hasV (byKinds l 10) kk)) || false)), ((((hasV (byKinds l 10) kk) == (hasV (byKinds l 10) kk)) || false) = true → (((hasV (byKinds l 10) kk) == (hasV (byKinds l 10) kk)) || false) = (((hasV (byKinds l 10) kk) == (hasV (byKinds l 10) kk)) || false)), (bif (((hasV (byKinds l 10) kk) == (hasV (byKinds l 10) kk)) || false) then (.bool (false == false) : Value) else .bool false) = .bool ((((hasV (byKinds l 10) kk) == (hasV (byKinds l 10) kk)) || false) && (false == false))]) (fun B => by as_aux_lemma => kernel_rfl) rfl (Ac (ad _ _) (Ac (ad _ _) (Ac (ad _ _) (Ac (ad _ _) (Ac (ad _ _) (Ac (ad _ _) (Ac (by simp) (Ac rfl (Ac rfl (Ac rfl (Ac (fun hgd => ad _ _) (Ac (fun hgd => ad _ _) (Ac (fun hgd => ad _ _) (Ac (fun hgd => ad _ _) (Ac (fun hgd => ad _ _) (Ac (fun hgd => ad _ _) (Ac (fun hgd => ad _ _) (Ac (fun hgd => ad _ _) (Ac (fun hgd => rfl) (Ac (fun hgd => rfl) (Ac (fun hgd => (by simp)) (Ac (fun _ => rfl) (Ac (pick_or _ _) (Ac (fun hgd => rfl) (Ac (fun hgd => rfl) (Ac (fun _ => rfl) (Ao (pick_and _ _)))))))))))))))))))))))))))) ?_
      clear hf; intro a hf
      rcases Bool.eq_false_or_eq_true ((((hasV (byKinds l 10) kk) == (hasV (byKinds l 10) kk)) || false) && (false == false)) with hg2 | hg2
      · have hg2r := hg2
        have hf := hf.prune [67, 5]
        replace hf : Fr 81 [(67, .val (.bool ((((hasV (byKinds l 10) kk) == (hasV (byKinds l 10) kk)) || false) && (false == false)))), (5, .val (.slice a'1 (byKinds l 10).length c'1))] a := hf
        replace hf := hf.conv (env' := [(67, .val (.bool true)), (5, .val (.slice a'1 (byKinds l 10).length c'1))]) (Ac (congrArg Value.bool hg2r) (Ao rfl))
        try simp only [Bool.or_eq_true, Bool.and_eq_true, Bool.not_eq_true', Bool.not_eq_false', Bool.or_eq_false_iff, Bool.and_eq_false_iff, decide_eq_true_eq, decide_eq_false_iff_not, beq_iff_eq, bne_iff_ne, beq_eq_false_iff_ne, bne_eq_false_iff_eq, Bool.and_true, Bool.true_and, ne_eq] at hg2
        refine sr0 hf hM [68, 67, 5] [{}] (env' := [(68, .val (.slice a'1 (byKinds l 10).length c'1)), (67, .val (.bool true)), (5, .val (.slice a'1 (byKinds l 10).length c'1))]) (ob := [true = true]) (fun B => by as_aux_lemma => kernel_rfl) rfl (Ao rfl) ?_
        clear hf; intro a hf
        refine sxcallg hf rfl rfl rfl rfl rfl (g := 45) (vs := [.slice a'1 (byKinds l 10).length c'1]) (ob := []) (by as_aux_lemma => kernel_rfl) An enters45 (smask E a'1 (byKinds l 10) c'1 w18  (own_arr (hO.own _ (List.Mem.head _))) (by first | omega | (simp; omega) | (simp; done) | exact Nat.le_trans (byKinds_len _ _) (by omega) | decide) (by assumption) (hG.keep hk0 (fun _ h => h))) ?_
        clear hf; rintro _ w19 a ⟨rfl, hk⟩ hf
        have hO := hO.keepNn hk
        have hM := hM.keepNn hk
        have hk0 := hk0.trans hk.nn
        clear hk
        refine sr0 hf hM [70, 69, 67, 5] [{}] (env' := [(70, .val (.slice a'1 (byKinds l 10).length c'1)), (69, .val (.int .u64 (((maskN (byKinds l 10)) : Nat) : Int))), (67, .val (.bool true)), (5, .val (.slice a'1 (byKinds l 10).length c'1))]) (ob := [true = true]) (fun B => by as_aux_lemma => kernel_rfl) rfl (Ao rfl) ?_
        clear hf; intro a hf
        refine sxcallg hf rfl rfl rfl rfl rfl (g := 46) (vs := [.slice a'1 (byKinds l 10).length c'1]) (ob := []) (by as_aux_lemma => kernel_rfl) An enters46 (rmask a'1 (byKinds l 10) c'1 w19  (own_arr (hO.own _ (List.Mem.head _))) (by first | omega | (simp; omega) | (simp; done) | exact Nat.le_trans (byKinds_len _ _) (by omega) | decide) (by assumption)) ?_
        clear hf; rintro _ w20 a ⟨rfl, hk⟩ hf
        have hO := hO.keepNn hk
        have hM := hM.keepNn hk
        have hk0 := hk0.trans hk.nn
        clear hk
        refine sr0 hf hM [75, 74, 5] [{ hint := some (.bool true) }, {}, {}, {}] (env' := [(75, .val (.slice a'1 (byKinds l 10).length c'1)), (74, .val (.bool true)), (5, .val (.slice a'1 (byKinds l 10).length c'1))]) (ob := [true = true, (.bool (((((maskN (byKinds l 10)) : Nat) : Int) : Int) == (((maskN (byKinds l 10)) : Nat) : Int)) : Value) = (.bool true : Value), true = true]) (fun B => by as_aux_lemma => kernel_rfl) rfl (Ac rfl (Ac (by simp) (Ao rfl))) ?_
        clear hf; intro a hf
        refine sxcallg hf rfl rfl rfl rfl rfl (g := 47) (vs := [.slice a'1 (byKinds l 10).length c'1]) (ob := []) (by as_aux_lemma => kernel_rfl) An enters47 (sblocks E a'1 (byKinds l 10) c'1 w20  (own_arr (hO.own _ (List.Mem.head _))) (by first | omega | (simp; omega) | (simp; done) | exact Nat.le_trans (byKinds_len _ _) (by omega) | decide) (hG.keep hk0 (fun _ h => h))) ?_
        clear hf; rintro _ w21 a ⟨rfl, hk⟩ hf
        have hO := hO.keepNn hk
        have hM := hM.keepNn hk
        have hk0 := hk0.trans hk.nn
        clear hk
        refine sr0 hf hM [77, 76, 74] [{}] (env' := [(77, .val (.slice a'1 (byKinds l 10).length c'1)), (76, .val (.bool (hasBox (byKinds l 10) && hasV (byKinds l 10) 3))), (74, .val (.bool true))]) (ob := [true = true]) (fun B => by as_aux_lemma => kernel_rfl) rfl (Ao rfl) ?_
        clear hf; intro a hf
        refine sxcallg hf rfl rfl rfl rfl rfl (g := 48) (vs := [.slice a'1 (byKinds l 10).length c'1]) (ob := []) (by as_aux_lemma => kernel_rfl) An enters48 (rblocks a'1 (byKinds l 10) c'1 w21  (own_arr (hO.own _ (List.Mem.head _))) (by first | omega | (simp; omega) | (simp; done) | exact Nat.le_trans (byKinds_len _ _) (by omega) | decide)) ?_
        clear hf; rintro _ w22 a ⟨rfl, hk⟩ hf
        have hO := hO.keepNn hk
        have hM := hM.keepNn hk
        have hk0 := hk0.trans hk.nn
        clear hk
        refine sr0 hf hM [4] [{}, {}, {}] (env' := [(4, .val (.bool ((hasBox (byKinds l 10) && hasV (byKinds l 10) 3) == (hasBox (byKinds l 10) && hasV (byKinds l 10) 3))))]) (ob := [true = true]) (fun B => by as_aux_lemma => kernel_rfl) rfl (Ao rfl) ?_
        clear hf; intro a hf
        refine wpList_nil ?_
        refine hK16 _ _ ?_
        refine wp_ret ?_
        refine sxret (fn := Tryd.f9) hf hM [] (l := [.bool ((hasBox (byKinds l 10) && hasV (byKinds l 10) 3) == (hasBox (byKinds l 10) && hasV (byKinds l 10) 3))]) (M' := [⟨B9, 62, [.int .i64 ((findV (byKinds l 10) kk).k), .int .i64 ((findV (byKinds l 10) kk).a), .int .i64 ((findV (byKinds l 10) kk).b)]⟩, ⟨B11, 62, [.int .i64 ((findV (byKinds l 10) kk).k), .int .i64 ((findV (byKinds l 10) kk).a), .int .i64 ((findV (byKinds l 10) kk).b)]⟩, ⟨B27, 50, [.int .i64 0, .int .i64 0, .int .i64 0, .int .i64 0]⟩, ⟨B29, 50, [.int .i64 0, .int .i64 0, .int .i64 0, .int .i64 0]⟩]) (d' := false) (ob := []) (by kernel_rfl) (fun B => ⟨B, by as_aux_lemma => kernel_rfl⟩) rfl An ?_
        show (.bool ((hasBox (byKinds l 10) && hasV (byKinds l 10) 3) == (hasBox (byKinds l 10) && hasV (byKinds l 10) 3)) : Value) = .bool true ∧ Keep Nn w w22
        refine ⟨congrArg Value.bool ?_, hk0⟩
        first | rfl | (simp; done) | (simp_all; done)
      · have hg2r := hg2
        have hf := hf.prune [67, 5]
        replace hf : Fr 81 [(67, .val (.bool ((((hasV (byKinds l 10) kk) == (hasV (byKinds l 10) kk)) || false) && (false == false)))), (5, .val (.slice a'1 (byKinds l 10).length c'1))] a := hf
        replace hf := hf.conv (env' := [(67, .val (.bool false)), (5, .val (.slice a'1 (byKinds l 10).length c'1))]) (Ac (congrArg Value.bool hg2r) (Ao rfl))
        try simp only [Bool.or_eq_true, Bool.and_eq_true, Bool.not_eq_true', Bool.not_eq_false', Bool.or_eq_false_iff, Bool.and_eq_false_iff, decide_eq_true_eq, decide_eq_false_iff_not, beq_iff_eq, bne_iff_ne, beq_eq_false_iff_ne, bne_eq_false_iff_eq, Bool.and_true, Bool.true_and, ne_eq] at hg2
        refine sr0 hf hM [68, 67, 5] [{ g := .off }] (env' := [(68, .val (undef)), (67, .val (.bool false)), (5, .val (.slice a'1 (byKinds l 10).length c'1))]) (ob := [false = !true]) (fun B => by as_aux_lemma => kernel_rfl) rfl (Ao rfl) ?_
        clear hf; intro a hf
        refine sr0 hf hM [70, 69, 67, 5] [{ g := .off }, { g := .off }] (env' := [(70, .val (undef)), (69, .val (undef)), (67, .val (.bool false)), (5, .val (.slice a'1 (byKinds l 10).length c'1))]) (ob := [false = !true, false = !true]) (fun B => by as_aux_lemma => kernel_rfl) rfl (Ac rfl (Ao rfl)) ?_
        clear hf; intro a hf
        refine sr0 hf hM [75, 74, 5] [{ g := .off }, { g := .off }, {}, {}, { g := .off }] (env' := [(75, .val (undef)), (74, .val (.bool false)), (5, .val (.slice a'1 (byKinds l 10).length c'1))]) (ob := [false = !true, false = !true, false = !true]) (fun B => by as_aux_lemma => kernel_rfl) rfl (Ac rfl (Ac rfl (Ao rfl))) ?_
        clear hf; intro a hf
        refine sr0 hf hM [77, 76, 74] [{ g := .off }, { g := .off }] (env' := [(77, .val (undef)), (76, .val (undef)), (74, .val (.bool false))]) (ob := [false = !true, false = !true]) (fun B => by as_aux_lemma => kernel_rfl) rfl (Ac rfl (Ao rfl)) ?_
        clear hf; intro a hf
        refine sr0 hf hM [4] [{ g := .off }, { g := .off }, {}, {}] (env' := [(4, .val (.bool false))]) (ob := [false = !true, false = !true]) (fun B => by as_aux_lemma => kernel_rfl) rfl (Ac rfl (Ao rfl)) ?_
        clear hf; intro a hf
        refine wpList_nil ?_
        refine hK16 _ _ ?_
        refine wp_ret ?_
        refine sxret (fn := Tryd.f9) hf hM [] (l := [.bool false]) (M' := [⟨B9, 62, [.int .i64 ((findV (byKinds l 10) kk).k), .int .i64 ((findV (byKinds l 10) kk).a), .int .i64 ((findV (byKinds l 10) kk).b)]⟩, ⟨B11, 62, [.int .i64 ((findV (byKinds l 10) kk).k), .int .i64 ((findV (byKinds l 10) kk).a), .int .i64 ((findV (byKinds l 10) kk).b)]⟩, ⟨B27, 50, [.int .i64 0, .int .i64 0, .int .i64 0, .int .i64 0]⟩, ⟨B29, 50, [.int .i64 0, .int .i64 0, .int .i64 0, .int .i64 0]⟩]) (d' := false) (ob := []) (by kernel_rfl) (fun B => ⟨B, by as_aux_lemma => kernel_rfl⟩) rfl An ?_
        show (.bool false : Value) = .bool true ∧ Keep Nn w w18
        refine ⟨congrArg Value.bool ?_, hk0⟩
        first | rfl | (simp; done) | (simp_all; done)

theorem schemaAsks_any (E : Nat → Addr) (av : Option Addr) (l : List V3) (c : Nat) (kk : Int) (w : World) (hav : Arr w 3 av l.length c (flat fV l)) (hG : Errs [0, 3, 4] w 185 E) :
    Calls Tryd.prog 9 #[.slice av l.length c, .int .i64 kk] w (Ret fun v w' => v = .bool true ∧ Keep Nn w w') := by
  rcases Bool.eq_false_or_eq_true (firstBad l == 0) with h | h
  · rcases Bool.eq_false_or_eq_true (noDup l) with h0 | h0
    · exact sas_ok E av l c kk w h h0 hav hG
    · exact sas_dup E av l c kk w h h0 hav hG
  · exact sas_bad E av l c kk w h hav hG
end Go.Proofs.YtifcgjnknikjkaaDoor
