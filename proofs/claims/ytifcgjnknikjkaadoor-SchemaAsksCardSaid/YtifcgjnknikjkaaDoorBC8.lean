/- layer 6: rows that are the same, masks -/
import Derived.Test.YtifcgjnknikjkaaDoorBC7
import Derived.Test.YtifcgjnknikjkaaDoorXp6e
namespace Go.Proofs.YtifcgjnknikjkaaDoor
open Go.Px
set_option linter.unusedVariables false
set_option linter.unusedSimpArgs false
theorem enters33 : enters Tryd.prog 33 := ⟨_, Tryd.func33, by kernel_rfl, rfl⟩
theorem enters37 : enters Tryd.prog 37 := ⟨_, Tryd.func37, by kernel_rfl, rfl⟩
theorem enters50 : enters Tryd.prog 50 := ⟨_, Tryd.func50, by kernel_rfl, rfl⟩
theorem enters53 : enters Tryd.prog 53 := ⟨_, Tryd.func53, by kernel_rfl, rfl⟩
theorem enters79 : enters Tryd.prog 79 := ⟨_, Tryd.func79, by kernel_rfl, rfl⟩
theorem enters80 : enters Tryd.prog 80 := ⟨_, Tryd.func80, by kernel_rfl, rfl⟩
theorem enters81 : enters Tryd.prog 81 := ⟨_, Tryd.func81, by kernel_rfl, rfl⟩
theorem enters82 : enters Tryd.prog 82 := ⟨_, Tryd.func82, by kernel_rfl, rfl⟩

set_option maxRecDepth 10000 in
set_option maxHeartbeats 4000000 in
theorem rsame (av : Option Addr) (l : List V3) (c : Nat) (bv : Option Addr) (m : List V3) (cm : Nat) (w : World) (hav : Arr w 3 av l.length c (flat fV l)) (hbav : l.length ≤ 1000000) (hbv : Arr w 3 bv m.length cm (flat fV m)) (hbbv : m.length ≤ 1000000) :
    Calls Tryd.prog 37 #[.slice av l.length c, .slice bv m.length cm] w (Ret fun v w' => v = .bool (sameL l m) ∧ Keep Nn w w') := by
  refine sxenter (n := 26) (args := [.slice av l.length c, .slice bv m.length cm]) Tryd.func37 rfl rfl rfl fun a hf => ?_
  replace hf : Fr 26 [(0, .val (.slice av l.length c)), (1, .val (.slice bv m.length cm))] a := hf
  have hM : MemOk [] w := MemOk.nil w
  have hk0 : Keep Nn w w := Keep.refl _ _
  refine wp_seq_k (fun K1 hK1 => ?_)
  refine wp_region_lit ?_
  refine sr0 hf hM [0, 1] [{}] (env' := [(0, .val (.slice av l.length c)), (1, .val (.slice bv m.length cm))]) (ob := []) (fun B => by as_aux_lemma => kernel_rfl) rfl An ?_
  clear hf; intro a hf
  refine wpList_nil ?_
  refine hK1 _ _ ?_
  refine wp_seq_k (fun K2 hK2 => ?_)
  refine wp_seq_k (fun K3 hK3 => ?_)
  refine wp_region_lit ?_
  refine sr0 hf hM [10, 0, 1] [{}, {}, {}, {}, {}] (env' := [(10, .val (.bool (((l.length : Int) : Int) != (m.length : Int)))), (0, .val (.slice av l.length c)), (1, .val (.slice bv m.length cm))]) (ob := []) (fun B => by as_aux_lemma => kernel_rfl) rfl An ?_
  clear hf; intro a hf
  refine wpList_nil ?_
  refine hK3 _ _ ?_
  refine sxcond hf (b := (((l.length : Int) : Int) != (m.length : Int))) (by kernel_rfl) (fun hc1 => ?_) (fun hc1 => ?_)
  · have hc1r := hc1
    try simp only [Bool.or_eq_true, Bool.and_eq_true, Bool.not_eq_true', Bool.not_eq_false', Bool.or_eq_false_iff, Bool.and_eq_false_iff, decide_eq_true_eq, decide_eq_false_iff_not, beq_iff_eq, bne_iff_ne, beq_eq_false_iff_ne, bne_eq_false_iff_eq, Bool.and_true, Bool.true_and, ne_eq] at hc1
    refine wp_seq_k (fun K4 hK4 => ?_)
    refine wp_region_lit ?_
    refine sr0 hf hM [4] [{}] (env' := [(4, .val (.bool false))]) (ob := []) (fun B => by as_aux_lemma => kernel_rfl) rfl An ?_
    clear hf; intro a hf
    refine wpList_nil ?_
    refine hK4 _ _ ?_
    refine wp_ret ?_
    refine sxret (fn := Tryd.f37) hf hM [] (l := [.bool false]) (M' := []) (d' := false) (ob := []) (by kernel_rfl) (fun B => ⟨B, by as_aux_lemma => kernel_rfl⟩) rfl An ?_
    show (.bool false : Value) = .bool (sameL l m) ∧ Keep Nn w w
    first | exact ⟨congrArg Value.bool (sameL_len (by assumption)).symm, hk0⟩ | exact ⟨congrArg Value.bool (sameL_at (j := i.toNat) ⟨0, 0, 0⟩ (v3_neB (by assumption))).symm, hk0⟩
  · have hc1r := hc1
    try simp only [Bool.or_eq_true, Bool.and_eq_true, Bool.not_eq_true', Bool.not_eq_false', Bool.or_eq_false_iff, Bool.and_eq_false_iff, decide_eq_true_eq, decide_eq_false_iff_not, beq_iff_eq, bne_iff_ne, beq_eq_false_iff_ne, bne_eq_false_iff_eq, Bool.and_true, Bool.true_and, ne_eq] at hc1
    refine wp_skip ?_
    refine hK2 _ _ ?_
    refine wp_seq_k (fun K5 hK5 => ?_)
    refine wp_seq_k (fun K6 hK6 => ?_)
    refine wp_region_lit ?_
    refine sr0 hf hM [13, 12, 0, 1] [{}, {}, {}] (env' := [(13, .val (.int .i64 0)), (12, .val (.int .i64 (l.length : Int))), (0, .val (.slice av l.length c)), (1, .val (.slice bv m.length cm))]) (ob := []) (fun B => by as_aux_lemma => kernel_rfl) rfl An ?_
    clear hf; intro a hf
    refine wpList_nil ?_
    refine hK6 _ _ ?_
    refine wp_block ?_
    have hf := hf.prune [0, 1, 12, 13]
    replace hf : Fr 26 [(0, .val (.slice av l.length c)), (1, .val (.slice bv m.length cm)), (12, .val (.int .i64 (l.length : Int))), (13, .val (.int .i64 0))] a := hf
    refine sxloop (fun zm a w1 => ∃ (i : Int), zm = ((l.length : Int) - i).toNat ∧ Fr 26 [(0, .val (.slice av l.length c)), (1, .val (.slice bv m.length cm)), (12, .val (.int .i64 (l.length : Int))), (13, .val (.int .i64 i))] a ∧ MemOk [] w1 ∧ Keep Nn w w1 ∧ (0 ≤ i ∧ i ≤ (l.length : Int)) ∧ (∀ j, j < i.toNat → l.getD j ⟨0, 0, 0⟩ = m.getD j ⟨0, 0, 0⟩)) _ ⟨0, rfl, hf.conv (Ac rfl (Ac rfl (Ac rfl (Ao rfl)))), hM, hk0, (by omega), (fun j hj => by simp at hj)⟩ ?_
    clear hf hM hk0
    rintro _ a w1 ⟨i, rfl, hf, hM, hk0, hi, hsm⟩ L1 hL1
    refine wp_seq_k (fun K7 hK7 => ?_)
    refine wp_region_lit ?_
    refine sr0 hf hM [14, 0, 1, 12, 13] [{}] (env' := [(14, .val (.bool (decide ((i : Int) < (l.length : Int))))), (0, .val (.slice av l.length c)), (1, .val (.slice bv m.length cm)), (12, .val (.int .i64 (l.length : Int))), (13, .val (.int .i64 i))]) (ob := []) (fun B => by as_aux_lemma => kernel_rfl) rfl An ?_
    clear hf; intro a hf
    refine wpList_nil ?_
    refine hK7 _ _ ?_
    refine wp_seq_k (fun K8 hK8 => ?_)
    refine sxcond hf (b := (decide ((i : Int) < (l.length : Int)))) (by kernel_rfl) (fun hc2 => ?_) (fun hc2 => ?_)
    · have hc2r := hc2
      try simp only [Bool.or_eq_true, Bool.and_eq_true, Bool.not_eq_true', Bool.not_eq_false', Bool.or_eq_false_iff, Bool.and_eq_false_iff, decide_eq_true_eq, decide_eq_false_iff_not, beq_iff_eq, bne_iff_ne, beq_eq_false_iff_ne, bne_eq_false_iff_eq, Bool.and_true, Bool.true_and, ne_eq] at hc2
      refine wp_skip ?_
      refine hK8 _ _ ?_
      refine wp_seq_k (fun K9 hK9 => ?_)
      refine wp_block ?_
      refine wp_seq_k (fun K10 hK10 => ?_)
      refine wp_region_lit ?_
      refine sr0 hf hM [5, 0, 1, 12, 13] [{}, {}] (env' := [(5, .val (.int .i64 i)), (0, .val (.slice av l.length c)), (1, .val (.slice bv m.length cm)), (12, .val (.int .i64 (l.length : Int))), (13, .val (.int .i64 i))]) (ob := []) (fun B => by as_aux_lemma => kernel_rfl) rfl An ?_
      clear hf; intro a hf
      refine wpList_nil ?_
      refine hK10 _ _ ?_
      refine wp_seq_k (fun K11 hK11 => ?_)
      replace hM := hM.drew; replace hk0 := hk0.drew
      obtain ⟨C1, hC1d⟩ : ∃ C : World → Prop, C = fun w' => MemOk [] w' ∧ Keep Nn w w' ∧ True := ⟨_, rfl⟩
      have hC1i : ∀ w', (MemOk [] w' ∧ Keep Nn w w' ∧ True) → C1 w' := fun w' h => by rw [hC1d]; exact h
      have hC1e : ∀ w', C1 w' → (MemOk [] w' ∧ Keep Nn w w' ∧ True) := fun w' h => by rw [hC1d] at h; exact h
      refine sxdraw (C := C1) (.leaf [(0, true), (1, true), (2, true), (3, true), (4, true), (5, true), (6, true), (7, true), (8, true)]) (by kernel_rfl) (by kernel_rfl) (by as_aux_lemma => kernel_rfl) rfl (by as_aux_lemma => kernel_rfl) (by kernel_rfl) (hC1i _ ⟨hM.sub (.slnil), hk0, trivial⟩) ?_
      refine sxleaf ?_
      have hC := (hC1i _ ⟨hM.sub (.slnil), hk0, trivial⟩)
      refine sc0 hf hC (fun w' h => (hC1e w' h).1) [24, 23, 22, 21, 20, 19, 18, 17, 16, 0, 1, 12, 13] [{}, {}, { sp := true }, { os := [.ex (.int .i64 (l.getD i.toNat ⟨0, 0, 0⟩).k), .ex (.int .i64 (l.getD i.toNat ⟨0, 0, 0⟩).a), .ex (.int .i64 (l.getD i.toNat ⟨0, 0, 0⟩).b)] }, {}, {}, { sp := true }, { os := [.ex (.int .i64 (m.getD i.toNat ⟨0, 0, 0⟩).k), .ex (.int .i64 (m.getD i.toNat ⟨0, 0, 0⟩).a), .ex (.int .i64 (m.getD i.toNat ⟨0, 0, 0⟩).b)] }, { sp := true, hint := some (.bool (!((((l.getD i.toNat ⟨0, 0, 0⟩).k : Int) == (m.getD i.toNat ⟨0, 0, 0⟩).k) && ((((l.getD i.toNat ⟨0, 0, 0⟩).a : Int) == (m.getD i.toNat ⟨0, 0, 0⟩).a) && (((l.getD i.toNat ⟨0, 0, 0⟩).b : Int) == (m.getD i.toNat ⟨0, 0, 0⟩).b))))) }] (env' := [(24, .val (.bool (!((((l.getD i.toNat ⟨0, 0, 0⟩).k : Int) == (m.getD i.toNat ⟨0, 0, 0⟩).k) && ((((l.getD i.toNat ⟨0, 0, 0⟩).a : Int) == (m.getD i.toNat ⟨0, 0, 0⟩).a) && (((l.getD i.toNat ⟨0, 0, 0⟩).b : Int) == (m.getD i.toNat ⟨0, 0, 0⟩).b)))))), (23, .val (.agg #[.int .i64 (m.getD i.toNat ⟨0, 0, 0⟩).k, .int .i64 (m.getD i.toNat ⟨0, 0, 0⟩).a, .int .i64 (m.getD i.toNat ⟨0, 0, 0⟩).b])), (22, .val (.pointer (some ((sa bv : Addr).add (i.toNat * 3))))), (21, .val (.int .i64 i)), (20, .val (.slice bv m.length cm)), (19, .val (.agg #[.int .i64 (l.getD i.toNat ⟨0, 0, 0⟩).k, .int .i64 (l.getD i.toNat ⟨0, 0, 0⟩).a, .int .i64 (l.getD i.toNat ⟨0, 0, 0⟩).b])), (18, .val (.pointer (some ((sa av : Addr).add (i.toNat * 3))))), (17, .val (.int .i64 i)), (16, .val (.slice av l.length c)), (0, .val (.slice av l.length c)), (1, .val (.slice bv m.length cm)), (12, .val (.int .i64 (l.length : Int))), (13, .val (.int .i64 i))]) (ob := [(0 : Int) ≤ i ∧ i < (l.length : Int), (av : Option Addr).isSome = true, (∀ w', C1 w' → w'.cell? (((sa av : Addr).add (i.toNat * 3)).add 0) = some (.int .i64 (l.getD i.toNat ⟨0, 0, 0⟩).k)), (∀ w', C1 w' → w'.cell? (((sa av : Addr).add (i.toNat * 3)).add 1) = some (.int .i64 (l.getD i.toNat ⟨0, 0, 0⟩).a)), (∀ w', C1 w' → w'.cell? (((sa av : Addr).add (i.toNat * 3)).add 2) = some (.int .i64 (l.getD i.toNat ⟨0, 0, 0⟩).b)), (0 : Int) ≤ i ∧ i < (m.length : Int), (bv : Option Addr).isSome = true, (∀ w', C1 w' → w'.cell? (((sa bv : Addr).add (i.toNat * 3)).add 0) = some (.int .i64 (m.getD i.toNat ⟨0, 0, 0⟩).k)), (∀ w', C1 w' → w'.cell? (((sa bv : Addr).add (i.toNat * 3)).add 1) = some (.int .i64 (m.getD i.toNat ⟨0, 0, 0⟩).a)), (∀ w', C1 w' → w'.cell? (((sa bv : Addr).add (i.toNat * 3)).add 2) = some (.int .i64 (m.getD i.toNat ⟨0, 0, 0⟩).b)), (.bool (!((((l.getD i.toNat ⟨0, 0, 0⟩).k : Int) == (m.getD i.toNat ⟨0, 0, 0⟩).k) && ((((l.getD i.toNat ⟨0, 0, 0⟩).a : Int) == (m.getD i.toNat ⟨0, 0, 0⟩).a) && ((((l.getD i.toNat ⟨0, 0, 0⟩).b : Int) == (m.getD i.toNat ⟨0, 0, 0⟩).b) && true)))) : Value) = (.bool (!((((l.getD i.toNat ⟨0, 0, 0⟩).k : Int) == (m.getD i.toNat ⟨0, 0, 0⟩).k) && ((((l.getD i.toNat ⟨0, 0, 0⟩).a : Int) == (m.getD i.toNat ⟨0, 0, 0⟩).a) && (((l.getD i.toNat ⟨0, 0, 0⟩).b : Int) == (m.getD i.toNat ⟨0, 0, 0⟩).b)))) : Value)]) (by as_aux_lemma => kernel_rfl) rfl (Ac (by first | omega | (simp; done)) (Ac ((hav.keepNn hk0).some_ (by first | omega | (simp; done))) (Ac (fun w' hc => by obtain ⟨hM, hk0, hO⟩ := hC1e w' hc; exact ((hav.keepNn hk0).get (fun _ => rfl) (by first | omega | (simp; done)) rfl)) (Ac (fun w' hc => by obtain ⟨hM, hk0, hO⟩ := hC1e w' hc; exact ((hav.keepNn hk0).get (fun _ => rfl) (by first | omega | (simp; done)) rfl)) (Ac (fun w' hc => by obtain ⟨hM, hk0, hO⟩ := hC1e w' hc; exact ((hav.keepNn hk0).get (fun _ => rfl) (by first | omega | (simp; done)) rfl)) (Ac (by first | omega | (simp; done)) (Ac ((hbv.keepNn hk0).some_ (by first | omega | (simp; done))) (Ac (fun w' hc => by obtain ⟨hM, hk0, hO⟩ := hC1e w' hc; exact ((hbv.keepNn hk0).get (fun _ => rfl) (by first | omega | (simp; done)) rfl)) (Ac (fun w' hc => by obtain ⟨hM, hk0, hO⟩ := hC1e w' hc; exact ((hbv.keepNn hk0).get (fun _ => rfl) (by first | omega | (simp; done)) rfl)) (Ac (fun w' hc => by obtain ⟨hM, hk0, hO⟩ := hC1e w' hc; exact ((hbv.keepNn hk0).get (fun _ => rfl) (by first | omega | (simp; done)) rfl)) (Ao (by simp)))))))))))) ?_
      clear hf; intro a hf
      clear hC
      show K11 _ _
      refine hK11 _ _ ?_
      refine sxcond hf (b := (!((((l.getD i.toNat ⟨0, 0, 0⟩).k : Int) == (m.getD i.toNat ⟨0, 0, 0⟩).k) && ((((l.getD i.toNat ⟨0, 0, 0⟩).a : Int) == (m.getD i.toNat ⟨0, 0, 0⟩).a) && (((l.getD i.toNat ⟨0, 0, 0⟩).b : Int) == (m.getD i.toNat ⟨0, 0, 0⟩).b))))) (by kernel_rfl) (fun hc3 => ?_) (fun hc3 => ?_)
      · have hc3r := hc3
        try simp only [Bool.or_eq_true, Bool.and_eq_true, Bool.not_eq_true', Bool.not_eq_false', Bool.or_eq_false_iff, Bool.and_eq_false_iff, decide_eq_true_eq, decide_eq_false_iff_not, beq_iff_eq, bne_iff_ne, beq_eq_false_iff_ne, bne_eq_false_iff_eq, Bool.and_true, Bool.true_and, ne_eq] at hc3
        refine wp_seq_k (fun K12 hK12 => ?_)
        refine wp_region_lit ?_
        refine sr0 hf hM [4] [{}] (env' := [(4, .val (.bool false))]) (ob := []) (fun B => by as_aux_lemma => kernel_rfl) rfl An ?_
        clear hf; intro a hf
        refine wpList_nil ?_
        refine hK12 _ _ ?_
        refine wp_ret ?_
        refine sxret (fn := Tryd.f37) hf hM [] (l := [.bool false]) (M' := []) (d' := false) (ob := []) (by kernel_rfl) (fun B => ⟨B, by as_aux_lemma => kernel_rfl⟩) rfl An ?_
        show (.bool false : Value) = .bool (sameL l m) ∧ Keep Nn w w1.drew
        first | exact ⟨congrArg Value.bool (sameL_len (by assumption)).symm, hk0⟩ | exact ⟨congrArg Value.bool (sameL_at (j := i.toNat) ⟨0, 0, 0⟩ (v3_neB (by assumption))).symm, hk0⟩
      · have hc3r := hc3
        try simp only [Bool.or_eq_true, Bool.and_eq_true, Bool.not_eq_true', Bool.not_eq_false', Bool.or_eq_false_iff, Bool.and_eq_false_iff, decide_eq_true_eq, decide_eq_false_iff_not, beq_iff_eq, bne_iff_ne, beq_eq_false_iff_ne, bne_eq_false_iff_eq, Bool.and_true, Bool.true_and, ne_eq] at hc3
        refine wp_skip ?_
        refine hK9 _ _ ?_
        refine wp_region_lit ?_
        refine sr0 hf hM [13, 24, 23, 22, 21, 20, 19, 18, 17, 16, 0, 1, 12] [{ hint := some (.int .i64 (i + 1)) }, {}] (env' := [(13, .val (.int .i64 (i + 1))), (24, .val (.bool (!((((l.getD i.toNat ⟨0, 0, 0⟩).k : Int) == (m.getD i.toNat ⟨0, 0, 0⟩).k) && ((((l.getD i.toNat ⟨0, 0, 0⟩).a : Int) == (m.getD i.toNat ⟨0, 0, 0⟩).a) && (((l.getD i.toNat ⟨0, 0, 0⟩).b : Int) == (m.getD i.toNat ⟨0, 0, 0⟩).b)))))), (23, .val (.agg #[.int .i64 (m.getD i.toNat ⟨0, 0, 0⟩).k, .int .i64 (m.getD i.toNat ⟨0, 0, 0⟩).a, .int .i64 (m.getD i.toNat ⟨0, 0, 0⟩).b])), (22, .val (.pointer (some ((sa bv : Addr).add (i.toNat * 3))))), (21, .val (.int .i64 i)), (20, .val (.slice bv m.length cm)), (19, .val (.agg #[.int .i64 (l.getD i.toNat ⟨0, 0, 0⟩).k, .int .i64 (l.getD i.toNat ⟨0, 0, 0⟩).a, .int .i64 (l.getD i.toNat ⟨0, 0, 0⟩).b])), (18, .val (.pointer (some ((sa av : Addr).add (i.toNat * 3))))), (17, .val (.int .i64 i)), (16, .val (.slice av l.length c)), (0, .val (.slice av l.length c)), (1, .val (.slice bv m.length cm)), (12, .val (.int .i64 (l.length : Int)))]) (ob := [(.int .i64 (IntKind.i64.wrap (i + 1)) : Value) = (.int .i64 (i + 1) : Value)]) (fun B => by as_aux_lemma => kernel_rfl) rfl (Ao (wr (by omega))) ?_
        clear hf; intro a hf
        refine wpList_nil ?_
        have hsm2 := same_next ⟨0, 0, 0⟩ (l := l) (m := m) (i := i) (by omega) hsm (v3_eqB (by assumption))
        have hf := hf.prune [0, 1, 12, 13]
        replace hf : Fr 26 [(0, .val (.slice av l.length c)), (1, .val (.slice bv m.length cm)), (12, .val (.int .i64 (l.length : Int))), (13, .val (.int .i64 (i + 1)))] a := hf
        refine hL1 _ _ _ (by omega) ⟨i + 1, rfl, hf.conv (Ac rfl (Ac rfl (Ac rfl (Ao rfl)))), hM, hk0, (by omega), hsm2⟩
    · have hc2r := hc2
      try simp only [Bool.or_eq_true, Bool.and_eq_true, Bool.not_eq_true', Bool.not_eq_false', Bool.or_eq_false_iff, Bool.and_eq_false_iff, decide_eq_true_eq, decide_eq_false_iff_not, beq_iff_eq, bne_iff_ne, beq_eq_false_iff_ne, bne_eq_false_iff_eq, Bool.and_true, Bool.true_and, ne_eq] at hc2
      refine wp_exit ?_
      refine hK5 _ _ ?_
      refine wp_seq_k (fun K13 hK13 => ?_)
      refine wp_region_lit ?_
      refine sr0 hf hM [4] [{}] (env' := [(4, .val (.bool true))]) (ob := []) (fun B => by as_aux_lemma => kernel_rfl) rfl An ?_
      clear hf; intro a hf
      refine wpList_nil ?_
      refine hK13 _ _ ?_
      refine wp_ret ?_
      refine sxret (fn := Tryd.f37) hf hM [] (l := [.bool true]) (M' := []) (d' := false) (ob := []) (by kernel_rfl) (fun B => ⟨B, by as_aux_lemma => kernel_rfl⟩) rfl An ?_
      show (.bool true : Value) = .bool (sameL l m) ∧ Keep Nn w w1
      exact ⟨congrArg Value.bool (sameL_all ⟨0, 0, 0⟩ (by omega) fun j hj => hsm j (by omega)).symm, hk0⟩

set_option maxRecDepth 10000 in
set_option maxHeartbeats 4000000 in
theorem rright_bad (av : Option Addr) (l : List V3) (c : Nat) (w : World) (hn0 : (firstBad l == 0) = false) (hav : Arr w 3 av l.length c (flat fV l)) (hbav : l.length ≤ 1000000) :
    Calls Tryd.prog 18 #[.slice av l.length c] w (Ret fun v w' => v = .bool (rightV l) ∧ Keep Nn w w') := by
  refine sxenter (n := 17) (args := [.slice av l.length c]) Tryd.func18 rfl rfl rfl fun a hf => ?_
  replace hf : Fr 17 [(0, .val (.slice av l.length c))] a := hf
  have hM : MemOk [] w := MemOk.nil w
  have hk0 : Keep Nn w w := Keep.refl _ _
  have hn : ¬ firstBad l = 0 := by simpa using hn0
  refine wp_seq_k (fun K1 hK1 => ?_)
  refine wp_region_lit ?_
  refine sr0 hf hM [0] [{}] (env' := [(0, .val (.slice av l.length c))]) (ob := []) (fun B => by as_aux_lemma => kernel_rfl) rfl An ?_
  clear hf; intro a hf
  refine wpList_nil ?_
  refine hK1 _ _ ?_
  refine wp_seq_k (fun K2 hK2 => ?_)
  refine wp_region_lit ?_
  refine sr0 hf hM [6, 0] [{}] (env' := [(6, .val (.slice av l.length c)), (0, .val (.slice av l.length c))]) (ob := []) (fun B => by as_aux_lemma => kernel_rfl) rfl An ?_
  clear hf; intro a hf
  refine sxcall hf rfl rfl rfl rfl (g := 33) (vs := [.slice av l.length c]) (ob := []) (by as_aux_lemma => kernel_rfl) An enters33 (rrow_bad av l c w hn0 (hav.keepNn hk0) (by first | omega | (simp; omega) | (simp; done) | exact Nat.le_trans (byKinds_len _ _) (by omega) | decide)) ?_
  clear hf; rintro _ w1 a ⟨rfl, hk⟩ hf
  have hM := hM.keepNn hk
  have hk0 := hk0.trans hk.nn
  clear hk
  refine sr0 hf hM [4, 3, 0] [{}, {}, {}, {}, {}] (env' := [(4, .val (.int .i64 (firstBad l))), (3, .val (.slice none 0 0)), (0, .val (.slice av l.length c))]) (ob := []) (fun B => by as_aux_lemma => kernel_rfl) rfl An ?_
  clear hf; intro a hf
  refine wpList_nil ?_
  refine hK2 _ _ ?_
  refine wp_seq_k (fun K3 hK3 => ?_)
  refine wp_region_lit ?_
  refine sr0 hf hM [12, 3, 0] [{}, {}, {}] (env' := [(12, .val (.bool (((firstBad l) : Int) == 0))), (3, .val (.slice none 0 0)), (0, .val (.slice av l.length c))]) (ob := []) (fun B => by as_aux_lemma => kernel_rfl) rfl An ?_
  clear hf; intro a hf
  rcases Bool.eq_false_or_eq_true (((firstBad l) : Int) == 0) with hg1 | hg1
  · have hg1r := hg1
    have hf := hf.prune [12, 3, 0]
    replace hf : Fr 17 [(12, .val (.bool (((firstBad l) : Int) == 0))), (3, .val (.slice none 0 0)), (0, .val (.slice av l.length c))] a := hf
    replace hf := hf.conv (env' := [(12, .val (.bool true)), (3, .val (.slice none 0 0)), (0, .val (.slice av l.length c))]) (Ac (congrArg Value.bool hg1r) (Ac rfl (Ao rfl)))
    try simp only [Bool.or_eq_true, Bool.and_eq_true, Bool.not_eq_true', Bool.not_eq_false', Bool.or_eq_false_iff, Bool.and_eq_false_iff, decide_eq_true_eq, decide_eq_false_iff_not, beq_iff_eq, bne_iff_ne, beq_eq_false_iff_ne, bne_eq_false_iff_eq, Bool.and_true, Bool.true_and, ne_eq] at hg1
    refine sr0 hf hM [14, 13, 12] [{}, {}] (env' := [(14, .val (.slice none 0 0)), (13, .val (.slice av l.length c)), (12, .val (.bool true))]) (ob := [true = true, true = true]) (fun B => by as_aux_lemma => kernel_rfl) rfl (Ac rfl (Ao rfl)) ?_
    clear hf; intro a hf
    refine sxcallg hf rfl rfl rfl rfl rfl (g := 37) (vs := [.slice av l.length c, .slice none ([] : List V3).length 0]) (ob := []) (by as_aux_lemma => kernel_rfl) An enters37 (rsame av l c none ([] : List V3) 0 w1  (hav.keepNn hk0) (by first | omega | (simp; omega) | (simp; done) | exact Nat.le_trans (byKinds_len _ _) (by omega) | decide) (Arr.none_nil _ _) (by first | omega | (simp; omega) | (simp; done) | exact Nat.le_trans (byKinds_len _ _) (by omega) | decide)) ?_
    clear hf; rintro _ w2 a ⟨rfl, hk⟩ hf
    have hM := hM.keepNn hk
    have hk0 := hk0.trans hk.nn
    clear hk
    refine sr0 hf hM [2] [{}, {}] (env' := [(2, .val (.bool (sameL l ([] : List V3))))]) (ob := []) (fun B => by as_aux_lemma => kernel_rfl) rfl An ?_
    clear hf; intro a hf
    refine wpList_nil ?_
    refine hK3 _ _ ?_
    refine wp_ret ?_
    refine sxret (fn := Tryd.f18) hf hM [] (l := [.bool (sameL l ([] : List V3))]) (M' := []) (d' := false) (ob := []) (by kernel_rfl) (fun B => ⟨B, by as_aux_lemma => kernel_rfl⟩) rfl An ?_
    show (.bool (sameL l ([] : List V3)) : Value) = .bool (rightV l) ∧ Keep Nn w w2
    have hr := rightV_bad hn
    first | exact ⟨congrArg Value.bool hr.symm, hk0⟩ | (exfalso; simp_all; done) | (refine ⟨congrArg Value.bool ?_, hk0⟩; rw [hr]; simp [hn0])
  · have hg1r := hg1
    have hf := hf.prune [12, 3, 0]
    replace hf : Fr 17 [(12, .val (.bool (((firstBad l) : Int) == 0))), (3, .val (.slice none 0 0)), (0, .val (.slice av l.length c))] a := hf
    replace hf := hf.conv (env' := [(12, .val (.bool false)), (3, .val (.slice none 0 0)), (0, .val (.slice av l.length c))]) (Ac (congrArg Value.bool hg1r) (Ac rfl (Ao rfl)))
    try simp only [Bool.or_eq_true, Bool.and_eq_true, Bool.not_eq_true', Bool.not_eq_false', Bool.or_eq_false_iff, Bool.and_eq_false_iff, decide_eq_true_eq, decide_eq_false_iff_not, beq_iff_eq, bne_iff_ne, beq_eq_false_iff_ne, bne_eq_false_iff_eq, Bool.and_true, Bool.true_and, ne_eq] at hg1
    refine sr0 hf hM [14, 13, 12] [{ g := .off }, { g := .off }] (env' := [(14, .val (undef)), (13, .val (undef)), (12, .val (.bool false))]) (ob := [false = !true, false = !true]) (fun B => by as_aux_lemma => kernel_rfl) rfl (Ac rfl (Ao rfl)) ?_
    clear hf; intro a hf
    refine sr0 hf hM [2] [{ g := .off }, {}, {}] (env' := [(2, .val (.bool false))]) (ob := [false = !true]) (fun B => by as_aux_lemma => kernel_rfl) rfl (Ao rfl) ?_
    clear hf; intro a hf
    refine wpList_nil ?_
    refine hK3 _ _ ?_
    refine wp_ret ?_
    refine sxret (fn := Tryd.f18) hf hM [] (l := [.bool false]) (M' := []) (d' := false) (ob := []) (by kernel_rfl) (fun B => ⟨B, by as_aux_lemma => kernel_rfl⟩) rfl An ?_
    show (.bool false : Value) = .bool (rightV l) ∧ Keep Nn w w1
    have hr := rightV_bad hn
    first | exact ⟨congrArg Value.bool hr.symm, hk0⟩ | (exfalso; simp_all; done) | (refine ⟨congrArg Value.bool ?_, hk0⟩; rw [hr]; simp [hn0])

set_option maxRecDepth 10000 in
set_option maxHeartbeats 4000000 in
theorem rright_dup (av : Option Addr) (l : List V3) (c : Nat) (w : World) (hn0 : (firstBad l == 0) = true) (hn1 : (noDup l) = false) (hav : Arr w 3 av l.length c (flat fV l)) (hbav : l.length ≤ 1000000) :
    Calls Tryd.prog 18 #[.slice av l.length c] w (Ret fun v w' => v = .bool (rightV l) ∧ Keep Nn w w') := by
  refine sxenter (n := 17) (args := [.slice av l.length c]) Tryd.func18 rfl rfl rfl fun a hf => ?_
  replace hf : Fr 17 [(0, .val (.slice av l.length c))] a := hf
  have hM : MemOk [] w := MemOk.nil w
  have hk0 : Keep Nn w w := Keep.refl _ _
  refine wp_seq_k (fun K1 hK1 => ?_)
  refine wp_region_lit ?_
  refine sr0 hf hM [0] [{}] (env' := [(0, .val (.slice av l.length c))]) (ob := []) (fun B => by as_aux_lemma => kernel_rfl) rfl An ?_
  clear hf; intro a hf
  refine wpList_nil ?_
  refine hK1 _ _ ?_
  refine wp_seq_k (fun K2 hK2 => ?_)
  refine wp_region_lit ?_
  refine sr0 hf hM [6, 0] [{}] (env' := [(6, .val (.slice av l.length c)), (0, .val (.slice av l.length c))]) (ob := []) (fun B => by as_aux_lemma => kernel_rfl) rfl An ?_
  clear hf; intro a hf
  refine sxcall hf rfl rfl rfl rfl (g := 33) (vs := [.slice av l.length c]) (ob := []) (by as_aux_lemma => kernel_rfl) An enters33 (rrow_dup av l c w hn0 hn1 (hav.keepNn hk0) (by first | omega | (simp; omega) | (simp; done) | exact Nat.le_trans (byKinds_len _ _) (by omega) | decide)) ?_
  clear hf; rintro _ w1 a ⟨rfl, hk⟩ hf
  have hM := hM.keepNn hk
  have hk0 := hk0.trans hk.nn
  clear hk
  refine sr0 hf hM [4, 3, 0] [{}, {}, {}, {}, {}] (env' := [(4, .val (.int .i64 4)), (3, .val (.slice none 0 0)), (0, .val (.slice av l.length c))]) (ob := []) (fun B => by as_aux_lemma => kernel_rfl) rfl An ?_
  clear hf; intro a hf
  refine wpList_nil ?_
  refine hK2 _ _ ?_
  refine wp_seq_k (fun K3 hK3 => ?_)
  refine wp_region_lit ?_
  refine sr0 hf hM [14, 13, 12] [{}, {}, {}, { g := .off }, { g := .off }] (env' := [(14, .val (undef)), (13, .val (undef)), (12, .val (.bool false))]) (ob := [false = !true, false = !true]) (fun B => by as_aux_lemma => kernel_rfl) rfl (Ac rfl (Ao rfl)) ?_
  clear hf; intro a hf
  refine sr0 hf hM [2] [{ g := .off }, {}, {}] (env' := [(2, .val (.bool false))]) (ob := [false = !true]) (fun B => by as_aux_lemma => kernel_rfl) rfl (Ao rfl) ?_
  clear hf; intro a hf
  refine wpList_nil ?_
  refine hK3 _ _ ?_
  refine wp_ret ?_
  refine sxret (fn := Tryd.f18) hf hM [] (l := [.bool false]) (M' := []) (d' := false) (ob := []) (by kernel_rfl) (fun B => ⟨B, by as_aux_lemma => kernel_rfl⟩) rfl An ?_
  show (.bool false : Value) = .bool (rightV l) ∧ Keep Nn w w1
  exact ⟨congrArg Value.bool (rightV_dup hn1).symm, hk0⟩

set_option maxRecDepth 10000 in
set_option maxHeartbeats 4000000 in
theorem rright_ok (av : Option Addr) (l : List V3) (c : Nat) (w : World) (hn0 : (firstBad l == 0) = true) (hn1 : (noDup l) = true) (hav : Arr w 3 av l.length c (flat fV l)) (hbav : l.length ≤ 1000000) :
    Calls Tryd.prog 18 #[.slice av l.length c] w (Ret fun v w' => v = .bool (rightV l) ∧ Keep Nn w w') := by
  refine sxenter (n := 17) (args := [.slice av l.length c]) Tryd.func18 rfl rfl rfl fun a hf => ?_
  replace hf : Fr 17 [(0, .val (.slice av l.length c))] a := hf
  have hM : MemOk [] w := MemOk.nil w
  have hk0 : Keep Nn w w := Keep.refl _ _
  have hn : firstBad l = 0 := by simpa using hn0
  refine wp_seq_k (fun K1 hK1 => ?_)
  refine wp_region_lit ?_
  refine sr0 hf hM [0] [{}] (env' := [(0, .val (.slice av l.length c))]) (ob := []) (fun B => by as_aux_lemma => kernel_rfl) rfl An ?_
  clear hf; intro a hf
  refine wpList_nil ?_
  refine hK1 _ _ ?_
  refine wp_seq_k (fun K2 hK2 => ?_)
  refine wp_region_lit ?_
  refine sr0 hf hM [6, 0] [{}] (env' := [(6, .val (.slice av l.length c)), (0, .val (.slice av l.length c))]) (ob := []) (fun B => by as_aux_lemma => kernel_rfl) rfl An ?_
  clear hf; intro a hf
  refine sxcall hf rfl rfl rfl rfl (g := 33) (vs := [.slice av l.length c]) (ob := []) (by as_aux_lemma => kernel_rfl) An enters33 (rrow_ok av l c w hn0 hn1 (hav.keepNn hk0) (by first | omega | (simp; omega) | (simp; done) | exact Nat.le_trans (byKinds_len _ _) (by omega) | decide)) ?_
  clear hf; rintro _ w1 a ⟨a'1, c'1, rfl, hk, hx1⟩ hf
  have hO : OwnOk w.heap.size [] [] w := OwnOk.nil hM
  have hO := hO.more hM hk (by have := hk0.size; omega) hx1
  replace hO : OwnOk w.heap.size [] [⟨62, 3, .slice a'1 (byKinds l 10).length c'1, (byKinds l 10).length, flat fV (byKinds l 10)⟩] _ := hO
  have hM := hM.keepNn hk
  have hk0 := hk0.trans hk.nn
  clear hk
  refine sr0 hf hM [4, 3, 0] [{}, {}, {}, {}, {}] (env' := [(4, .val (.int .i64 0)), (3, .val (.slice a'1 (byKinds l 10).length c'1)), (0, .val (.slice av l.length c))]) (ob := []) (fun B => by as_aux_lemma => kernel_rfl) rfl An ?_
  clear hf; intro a hf
  refine wpList_nil ?_
  refine hK2 _ _ ?_
  refine wp_seq_k (fun K3 hK3 => ?_)
  refine wp_region_lit ?_
  refine sr0 hf hM [14, 13, 12] [{}, {}, {}, {}, {}] (env' := [(14, .val (.slice a'1 (byKinds l 10).length c'1)), (13, .val (.slice av l.length c)), (12, .val (.bool true))]) (ob := [true = true, true = true]) (fun B => by as_aux_lemma => kernel_rfl) rfl (Ac rfl (Ao rfl)) ?_
  clear hf; intro a hf
  refine sxcallg hf rfl rfl rfl rfl rfl (g := 37) (vs := [.slice av l.length c, .slice a'1 (byKinds l 10).length c'1]) (ob := []) (by as_aux_lemma => kernel_rfl) An enters37 (rsame av l c a'1 (byKinds l 10) c'1 w1  (hav.keepNn hk0) (by first | omega | (simp; omega) | (simp; done) | exact Nat.le_trans (byKinds_len _ _) (by omega) | decide) (own_arr (hO.own _ (List.Mem.head _))) (by first | omega | (simp; omega) | (simp; done) | exact Nat.le_trans (byKinds_len _ _) (by omega) | decide)) ?_
  clear hf; rintro _ w2 a ⟨rfl, hk⟩ hf
  have hO := hO.keepNn hk
  have hM := hM.keepNn hk
  have hk0 := hk0.trans hk.nn
  clear hk
  refine sr0 hf hM [2] [{}, {}] (env' := [(2, .val (.bool (sameL l (byKinds l 10))))]) (ob := []) (fun B => by as_aux_lemma => kernel_rfl) rfl An ?_
  clear hf; intro a hf
  refine wpList_nil ?_
  refine hK3 _ _ ?_
  refine wp_ret ?_
  refine sxret (fn := Tryd.f18) hf hM [] (l := [.bool (sameL l (byKinds l 10))]) (M' := []) (d' := false) (ob := []) (by kernel_rfl) (fun B => ⟨B, by as_aux_lemma => kernel_rfl⟩) rfl An ?_
  show (.bool (sameL l (byKinds l 10)) : Value) = .bool (rightV l) ∧ Keep Nn w w2
  exact ⟨congrArg Value.bool (rright_eq hn hn1), hk0⟩

set_option maxRecDepth 10000 in
set_option maxHeartbeats 4000000 in
theorem bit_ok (k : Int) (w : World) (hn0 : (decide (0 ≤ k ∧ k ≤ 9)) = true) :
    Calls Tryd.prog 82 #[.int .i64 k] w (Ret fun v w' => v = .int .u64 (((bitN k) : Nat) : Int) ∧ Keep Nn w w') := by
  refine sxenter (n := 11) (args := [.int .i64 k]) Tryd.func82 rfl rfl rfl fun a hf => ?_
  replace hf : Fr 11 [(0, .val (.int .i64 k))] a := hf
  have hM : MemOk [] w := MemOk.nil w
  have hk0 : Keep Nn w w := Keep.refl _ _
  have hkk : 0 ≤ k ∧ k ≤ 9 := of_decide_eq_true hn0
  refine wp_seq_k (fun K1 hK1 => ?_)
  refine wp_region_lit ?_
  refine sr0 hf hM [0] [{}] (env' := [(0, .val (.int .i64 k))]) (ob := []) (fun B => by as_aux_lemma => kernel_rfl) rfl An ?_
  clear hf; intro a hf
  refine wpList_nil ?_
  refine hK1 _ _ ?_
  refine wp_seq_k (fun K2 hK2 => ?_)
  refine wp_seq_k (fun K3 hK3 => ?_)
  refine wp_region_lit ?_
  refine sr0 hf hM [8, 0] [{}, {}, {}, { g := .sym }, { g := .sym }, { hint := some (.bool ((decide ((k : Int) < 0)) || (decide ((k : Int) ≥ 10)))) }] (env' := [(8, .val (.bool ((decide ((k : Int) < 0)) || (decide ((k : Int) ≥ 10))))), (0, .val (.int .i64 k))]) (ob := [((decide ((k : Int) < 0)) = false → (decide ((k : Int) < 0)) = (decide ((k : Int) < 0))), ((decide ((k : Int) < 0)) = false → (decide ((k : Int) < 0)) = (decide ((k : Int) < 0))), (bif (decide ((k : Int) < 0)) then (.bool true : Value) else .bool (decide ((k : Int) ≥ 10))) = .bool ((decide ((k : Int) < 0)) || (decide ((k : Int) ≥ 10)))]) (fun B => by as_aux_lemma => kernel_rfl) rfl (Ac (fun hgd => rfl) (Ac (fun _ => rfl) (Ao (pick_or _ _)))) ?_
  clear hf; intro a hf
  refine wpList_nil ?_
  refine hK3 _ _ ?_
  refine sxcond hf (b := ((decide ((k : Int) < 0)) || (decide ((k : Int) ≥ 10)))) (by kernel_rfl) (fun hc1 => ?_) (fun hc1 => ?_)
  · have hc1r := hc1
    try simp only [Bool.or_eq_true, Bool.and_eq_true, Bool.not_eq_true', Bool.not_eq_false', Bool.or_eq_false_iff, Bool.and_eq_false_iff, decide_eq_true_eq, decide_eq_false_iff_not, beq_iff_eq, bne_iff_ne, beq_eq_false_iff_ne, bne_eq_false_iff_eq, Bool.and_true, Bool.true_and, ne_eq] at hc1
    exfalso; omega
  · have hc1r := hc1
    try simp only [Bool.or_eq_true, Bool.and_eq_true, Bool.not_eq_true', Bool.not_eq_false', Bool.or_eq_false_iff, Bool.and_eq_false_iff, decide_eq_true_eq, decide_eq_false_iff_not, beq_iff_eq, bne_iff_ne, beq_eq_false_iff_ne, bne_eq_false_iff_eq, Bool.and_true, Bool.true_and, ne_eq] at hc1
    refine wp_skip ?_
    refine hK2 _ _ ?_
    refine wp_seq_k (fun K4 hK4 => ?_)
    refine wp_region_lit ?_
    refine sr0 hf hM [2] [{}, { sp := true, hint := some (.int .u64 (((bitN k) : Nat) : Int)) }, {}] (env' := [(2, .val (.int .u64 (((bitN k) : Nat) : Int)))]) (ob := [0 ≤ (k : Int), (.int .u64 (IntKind.u64.wrap (1 * 2 ^ (min (k : Int).toNat IntKind.u64.bits))) : Value) = (.int .u64 (((bitN k) : Nat) : Int) : Value)]) (fun B => by as_aux_lemma => kernel_rfl) rfl (Ac (by omega) (Ao (shl_bit hkk))) ?_
    clear hf; intro a hf
    refine wpList_nil ?_
    refine hK4 _ _ ?_
    refine wp_ret ?_
    refine sxret (fn := Tryd.f82) hf hM [] (l := [.int .u64 (((bitN k) : Nat) : Int)]) (M' := []) (d' := false) (ob := []) (by kernel_rfl) (fun B => ⟨B, by as_aux_lemma => kernel_rfl⟩) rfl An ?_
    show (.int .u64 (((bitN k) : Nat) : Int) : Value) = .int .u64 (((bitN k) : Nat) : Int) ∧ Keep Nn w w
    exact ⟨rfl, hk0⟩

set_option maxRecDepth 10000 in
set_option maxHeartbeats 4000000 in
theorem bit_no (k : Int) (w : World) (hn0 : (decide (0 ≤ k ∧ k ≤ 9)) = false) :
    Calls Tryd.prog 82 #[.int .i64 k] w (Ret fun v w' => v = .int .u64 0 ∧ Keep Nn w w') := by
  refine sxenter (n := 11) (args := [.int .i64 k]) Tryd.func82 rfl rfl rfl fun a hf => ?_
  replace hf : Fr 11 [(0, .val (.int .i64 k))] a := hf
  have hM : MemOk [] w := MemOk.nil w
  have hk0 : Keep Nn w w := Keep.refl _ _
  have hkk : ¬ (0 ≤ k ∧ k ≤ 9) := of_decide_eq_false hn0
  refine wp_seq_k (fun K1 hK1 => ?_)
  refine wp_region_lit ?_
  refine sr0 hf hM [0] [{}] (env' := [(0, .val (.int .i64 k))]) (ob := []) (fun B => by as_aux_lemma => kernel_rfl) rfl An ?_
  clear hf; intro a hf
  refine wpList_nil ?_
  refine hK1 _ _ ?_
  refine wp_seq_k (fun K2 hK2 => ?_)
  refine wp_seq_k (fun K3 hK3 => ?_)
  refine wp_region_lit ?_
  refine sr0 hf hM [8, 0] [{}, {}, {}, { g := .sym }, { g := .sym }, { hint := some (.bool ((decide ((k : Int) < 0)) || (decide ((k : Int) ≥ 10)))) }] (env' := [(8, .val (.bool ((decide ((k : Int) < 0)) || (decide ((k : Int) ≥ 10))))), (0, .val (.int .i64 k))]) (ob := [((decide ((k : Int) < 0)) = false → (decide ((k : Int) < 0)) = (decide ((k : Int) < 0))), ((decide ((k : Int) < 0)) = false → (decide ((k : Int) < 0)) = (decide ((k : Int) < 0))), (bif (decide ((k : Int) < 0)) then (.bool true : Value) else .bool (decide ((k : Int) ≥ 10))) = .bool ((decide ((k : Int) < 0)) || (decide ((k : Int) ≥ 10)))]) (fun B => by as_aux_lemma => kernel_rfl) rfl (Ac (fun hgd => rfl) (Ac (fun _ => rfl) (Ao (pick_or _ _)))) ?_
  clear hf; intro a hf
  refine wpList_nil ?_
  refine hK3 _ _ ?_
  refine sxcond hf (b := ((decide ((k : Int) < 0)) || (decide ((k : Int) ≥ 10)))) (by kernel_rfl) (fun hc1 => ?_) (fun hc1 => ?_)
  · have hc1r := hc1
    try simp only [Bool.or_eq_true, Bool.and_eq_true, Bool.not_eq_true', Bool.not_eq_false', Bool.or_eq_false_iff, Bool.and_eq_false_iff, decide_eq_true_eq, decide_eq_false_iff_not, beq_iff_eq, bne_iff_ne, beq_eq_false_iff_ne, bne_eq_false_iff_eq, Bool.and_true, Bool.true_and, ne_eq] at hc1
    refine wp_seq_k (fun K4 hK4 => ?_)
    refine wp_region_lit ?_
    refine sr0 hf hM [2] [{}] (env' := [(2, .val (.int .u64 0))]) (ob := []) (fun B => by as_aux_lemma => kernel_rfl) rfl An ?_
    clear hf; intro a hf
    refine wpList_nil ?_
    refine hK4 _ _ ?_
    refine wp_ret ?_
    refine sxret (fn := Tryd.f82) hf hM [] (l := [.int .u64 0]) (M' := []) (d' := false) (ob := []) (by kernel_rfl) (fun B => ⟨B, by as_aux_lemma => kernel_rfl⟩) rfl An ?_
    show (.int .u64 0 : Value) = .int .u64 0 ∧ Keep Nn w w
    exact ⟨rfl, hk0⟩
  · have hc1r := hc1
    try simp only [Bool.or_eq_true, Bool.and_eq_true, Bool.not_eq_true', Bool.not_eq_false', Bool.or_eq_false_iff, Bool.and_eq_false_iff, decide_eq_true_eq, decide_eq_false_iff_not, beq_iff_eq, bne_iff_ne, beq_eq_false_iff_ne, bne_eq_false_iff_eq, Bool.and_true, Bool.true_and, ne_eq] at hc1
    exfalso; omega

set_option maxRecDepth 10000 in
set_option maxHeartbeats 4000000 in
theorem of1_ok (E : Nat → Addr) (av : Option Addr) (k : Int) (c : Nat) (w : World) (hn0 : (decide (0 ≤ k ∧ k ≤ 9)) = true) (hav : Arr w 1 av 1 c (flat fI ([k] : List Int))) (hG : Errs [0, 3, 4] w 185 E) :
    Calls Tryd.prog 53 #[.slice av 1 c] w (Ret fun v w' => v = .tuple #[.int .u64 (((bitN k) : Nat) : Int), .nilIface] ∧ Keep Nn w w') := by
  refine sxenter (n := 24) (args := [.slice av 1 c]) Tryd.func53 rfl rfl rfl fun a hf => ?_
  replace hf : Fr 24 [(0, .val (.slice av 1 c))] a := hf
  have hM : MemOk [] w := MemOk.nil w
  have hk0 : Keep Nn w w := Keep.refl _ _
  have hkk : 0 ≤ k ∧ k ≤ 9 := of_decide_eq_true hn0
  have hbp := bitN_pos k
  refine wp_seq_k (fun K1 hK1 => ?_)
  refine wp_region_lit ?_
  refine sr0 hf hM [3, 2, 0] [{}, {}] (env' := [(3, .val (.nilIface)), (2, .val (.int .u64 0)), (0, .val (.slice av 1 c))]) (ob := []) (fun B => by as_aux_lemma => kernel_rfl) rfl An ?_
  clear hf; intro a hf
  refine wpList_nil ?_
  refine hK1 _ _ ?_
  refine wp_seq_k (fun K2 hK2 => ?_)
  refine wp_region_lit ?_
  refine sr0 hf hM [4, 3, 2, 0] [{}] (env' := [(4, .val (.int .u64 0)), (3, .val (.nilIface)), (2, .val (.int .u64 0)), (0, .val (.slice av 1 c))]) (ob := []) (fun B => by as_aux_lemma => kernel_rfl) rfl An ?_
  clear hf; intro a hf
  refine wpList_nil ?_
  refine hK2 _ _ ?_
  refine wp_seq_k (fun K3 hK3 => ?_)
  refine wp_seq_k (fun K4 hK4 => ?_)
  refine wp_region_lit ?_
  refine sr0 hf hM [10, 9, 8, 4, 3, 2] [{}, {}, {}] (env' := [(10, .val (.int .i64 0)), (9, .val (.int .i64 1)), (8, .val (.slice av 1 c)), (4, .val (.int .u64 0)), (3, .val (.nilIface)), (2, .val (.int .u64 0))]) (ob := []) (fun B => by as_aux_lemma => kernel_rfl) rfl An ?_
  clear hf; intro a hf
  refine wpList_nil ?_
  refine hK4 _ _ ?_
  refine wp_block ?_
  refine wp_loop_rounds 2 ?_
  refine sxround (m := 1) fun L1 hL1 => ?_
  refine wp_seq_k (fun K5 hK5 => ?_)
  refine wp_region_lit ?_
  refine sr0 hf hM [11, 10, 9, 8, 4, 3, 2] [{}] (env' := [(11, .val (.bool true)), (10, .val (.int .i64 0)), (9, .val (.int .i64 1)), (8, .val (.slice av 1 c)), (4, .val (.int .u64 0)), (3, .val (.nilIface)), (2, .val (.int .u64 0))]) (ob := []) (fun B => by as_aux_lemma => kernel_rfl) rfl An ?_
  clear hf; intro a hf
  refine wpList_nil ?_
  refine hK5 _ _ ?_
  refine wp_seq_k (fun K6 hK6 => ?_)
  refine sxcond hf (b := true) (by kernel_rfl) (fun _ => ?_) (fun h => by cases h)
  refine wp_skip ?_
  refine hK6 _ _ ?_
  refine wp_seq_k (fun K7 hK7 => ?_)
  refine wp_block ?_
  refine wp_seq_k (fun K8 hK8 => ?_)
  refine wp_region_lit ?_
  refine sr0 hf hM [6, 10, 9, 8, 4, 3, 2] [{ sp := true }, { os := [.ex (.int .i64 (([k] : List Int).getD (0 : Int).toNat 0))], hint := some (.int .i64 k) }, {}] (env' := [(6, .val (.int .i64 k)), (10, .val (.int .i64 0)), (9, .val (.int .i64 1)), (8, .val (.slice av 1 c)), (4, .val (.int .u64 0)), (3, .val (.nilIface)), (2, .val (.int .u64 0))]) (ob := [(0 : Int) ≤ 0 ∧ 0 < (1 : Int), (av : Option Addr).isSome = true, w.cell? ((sa av : Addr).add ((0 : Int).toNat * 1)) = some (.int .i64 (([k] : List Int).getD (0 : Int).toNat 0)), (.int .i64 (([k] : List Int).getD (0 : Int).toNat 0) : Value) = (.int .i64 k : Value)]) (fun B => by as_aux_lemma => kernel_rfl) rfl (Ac (by first | omega | (simp; done)) (Ac ((hav.keepNn hk0).some_ (by first | omega | (simp; done))) (Ac ((hav.keepNn hk0).get0 (fun _ => rfl) (by first | omega | (simp; done)) rfl) (Ao rfl)))) ?_
  clear hf; intro a hf
  refine wpList_nil ?_
  refine hK8 _ _ ?_
  refine wp_seq_k (fun K9 hK9 => ?_)
  refine wp_region_lit ?_
  refine sr0 hf hM [14, 10, 9, 8, 4, 3, 2] [{}] (env' := [(14, .val (.int .i64 k)), (10, .val (.int .i64 0)), (9, .val (.int .i64 1)), (8, .val (.slice av 1 c)), (4, .val (.int .u64 0)), (3, .val (.nilIface)), (2, .val (.int .u64 0))]) (ob := []) (fun B => by as_aux_lemma => kernel_rfl) rfl An ?_
  clear hf; intro a hf
  refine sxcall hf rfl rfl rfl rfl (g := 82) (vs := [.int .i64 k]) (ob := []) (by as_aux_lemma => kernel_rfl) An enters82 (bit_ok k w hn0 ) ?_
  clear hf; rintro _ w1 a ⟨rfl, hk⟩ hf
  have hM := hM.keepNn hk
  have hk0 := hk0.trans hk.nn
  clear hk
  refine sr0 hf hM [7, 10, 9, 8, 4, 3, 2] [{}] (env' := [(7, .val (.int .u64 (((bitN k) : Nat) : Int))), (10, .val (.int .i64 0)), (9, .val (.int .i64 1)), (8, .val (.slice av 1 c)), (4, .val (.int .u64 0)), (3, .val (.nilIface)), (2, .val (.int .u64 0))]) (ob := []) (fun B => by as_aux_lemma => kernel_rfl) rfl An ?_
  clear hf; intro a hf
  refine wpList_nil ?_
  refine hK9 _ _ ?_
  refine wp_seq_k (fun K10 hK10 => ?_)
  refine wp_seq_k (fun K11 hK11 => ?_)
  refine wp_region_lit ?_
  refine sr0 hf hM [17, 7, 10, 9, 8, 4, 3, 2] [{}, {}] (env' := [(17, .val (.bool (((((bitN k) : Nat) : Int) : Int) == 0))), (7, .val (.int .u64 (((bitN k) : Nat) : Int))), (10, .val (.int .i64 0)), (9, .val (.int .i64 1)), (8, .val (.slice av 1 c)), (4, .val (.int .u64 0)), (3, .val (.nilIface)), (2, .val (.int .u64 0))]) (ob := []) (fun B => by as_aux_lemma => kernel_rfl) rfl An ?_
  clear hf; intro a hf
  refine wpList_nil ?_
  refine hK11 _ _ ?_
  refine sxcond hf (b := (((((bitN k) : Nat) : Int) : Int) == 0)) (by kernel_rfl) (fun hc2 => ?_) (fun hc2 => ?_)
  · have hc2r := hc2
    try simp only [Bool.or_eq_true, Bool.and_eq_true, Bool.not_eq_true', Bool.not_eq_false', Bool.or_eq_false_iff, Bool.and_eq_false_iff, decide_eq_true_eq, decide_eq_false_iff_not, beq_iff_eq, bne_iff_ne, beq_eq_false_iff_ne, bne_eq_false_iff_eq, Bool.and_true, Bool.true_and, ne_eq] at hc2
    exfalso; omega
  · have hc2r := hc2
    try simp only [Bool.or_eq_true, Bool.and_eq_true, Bool.not_eq_true', Bool.not_eq_false', Bool.or_eq_false_iff, Bool.and_eq_false_iff, decide_eq_true_eq, decide_eq_false_iff_not, beq_iff_eq, bne_iff_ne, beq_eq_false_iff_ne, bne_eq_false_iff_eq, Bool.and_true, Bool.true_and, ne_eq] at hc2
    refine wp_skip ?_
    refine hK10 _ _ ?_
    refine wp_region_lit ?_
    refine sr0 hf hM [4, 10, 9, 8, 3, 2] [{}, {}, { hint := some (.int .u64 (((bitN k) : Nat) : Int)) }, {}] (env' := [(4, .val (.int .u64 (((bitN k) : Nat) : Int))), (10, .val (.int .i64 0)), (9, .val (.int .i64 1)), (8, .val (.slice av 1 c)), (3, .val (.nilIface)), (2, .val (.int .u64 0))]) (ob := [(.int .u64 (IntKind.u64.wrap ((BitVec.ofInt IntKind.u64.bits 0 ||| (BitVec.ofInt IntKind.u64.bits (((bitN k) : Nat) : Int)) : BitVec IntKind.u64.bits).toNat : Int)) : Value) = (.int .u64 (((bitN k) : Nat) : Int) : Value)]) (fun B => by as_aux_lemma => kernel_rfl) rfl (Ao (or_u64_0 (bitN_lt' hkk))) ?_
    clear hf; intro a hf
    refine wpList_nil ?_
    refine hK7 _ _ ?_
    refine wp_region_lit ?_
    refine sr0 hf hM [10, 4, 9, 8, 3, 2] [{}, {}] (env' := [(10, .val (.int .i64 1)), (4, .val (.int .u64 (((bitN k) : Nat) : Int))), (9, .val (.int .i64 1)), (8, .val (.slice av 1 c)), (3, .val (.nilIface)), (2, .val (.int .u64 0))]) (ob := []) (fun B => by as_aux_lemma => kernel_rfl) rfl An ?_
    clear hf; intro a hf
    refine wpList_nil ?_
    refine hL1 _ _ ?_
    refine sxround (m := 0) fun L2 hL2 => ?_
    refine wp_seq_k (fun K12 hK12 => ?_)
    refine wp_region_lit ?_
    refine sr0 hf hM [11, 10, 4, 9, 8, 3, 2] [{}] (env' := [(11, .val (.bool false)), (10, .val (.int .i64 1)), (4, .val (.int .u64 (((bitN k) : Nat) : Int))), (9, .val (.int .i64 1)), (8, .val (.slice av 1 c)), (3, .val (.nilIface)), (2, .val (.int .u64 0))]) (ob := []) (fun B => by as_aux_lemma => kernel_rfl) rfl An ?_
    clear hf; intro a hf
    refine wpList_nil ?_
    refine hK12 _ _ ?_
    refine wp_seq_k (fun K13 hK13 => ?_)
    refine sxcond hf (b := false) (by kernel_rfl) (fun h => by cases h) (fun _ => ?_)
    refine wp_exit ?_
    refine hK3 _ _ ?_
    refine wp_seq_k (fun K14 hK14 => ?_)
    refine wp_region_lit ?_
    refine sr0 hf hM [3, 2] [{}, {}, {}] (env' := [(3, .val (.nilIface)), (2, .val (.int .u64 (((bitN k) : Nat) : Int)))]) (ob := []) (fun B => by as_aux_lemma => kernel_rfl) rfl An ?_
    clear hf; intro a hf
    refine wpList_nil ?_
    refine hK14 _ _ ?_
    refine wp_ret ?_
    refine sxret (fn := Tryd.f53) hf hM [] (l := [.int .u64 (((bitN k) : Nat) : Int), .nilIface]) (M' := []) (d' := false) (ob := []) (by kernel_rfl) (fun B => ⟨B, by as_aux_lemma => kernel_rfl⟩) rfl An ?_
    show (.tuple #[.int .u64 (((bitN k) : Nat) : Int), .nilIface] : Value) = .tuple #[.int .u64 (((bitN k) : Nat) : Int), .nilIface] ∧ Keep Nn w w1
    exact ⟨rfl, hk0⟩

set_option maxRecDepth 10000 in
set_option maxHeartbeats 4000000 in
theorem of1_no (E : Nat → Addr) (av : Option Addr) (k : Int) (c : Nat) (w : World) (hn0 : (decide (0 ≤ k ∧ k ≤ 9)) = false) (hav : Arr w 1 av 1 c (flat fI ([k] : List Int))) (hG : Errs [0, 3, 4] w 185 E) :
    Calls Tryd.prog 53 #[.slice av 1 c] w (Ret fun v w' => v = .tuple #[.int .u64 0, .iface 185 (.pointer (some (E 4)))] ∧ Keep Nn w w') := by
  refine sxenter (n := 24) (args := [.slice av 1 c]) Tryd.func53 rfl rfl rfl fun a hf => ?_
  replace hf : Fr 24 [(0, .val (.slice av 1 c))] a := hf
  have hM : MemOk [] w := MemOk.nil w
  have hk0 : Keep Nn w w := Keep.refl _ _
  refine wp_seq_k (fun K1 hK1 => ?_)
  refine wp_region_lit ?_
  refine sr0 hf hM [3, 2, 0] [{}, {}] (env' := [(3, .val (.nilIface)), (2, .val (.int .u64 0)), (0, .val (.slice av 1 c))]) (ob := []) (fun B => by as_aux_lemma => kernel_rfl) rfl An ?_
  clear hf; intro a hf
  refine wpList_nil ?_
  refine hK1 _ _ ?_
  refine wp_seq_k (fun K2 hK2 => ?_)
  refine wp_region_lit ?_
  refine sr0 hf hM [4, 3, 2, 0] [{}] (env' := [(4, .val (.int .u64 0)), (3, .val (.nilIface)), (2, .val (.int .u64 0)), (0, .val (.slice av 1 c))]) (ob := []) (fun B => by as_aux_lemma => kernel_rfl) rfl An ?_
  clear hf; intro a hf
  refine wpList_nil ?_
  refine hK2 _ _ ?_
  refine wp_seq_k (fun K3 hK3 => ?_)
  refine wp_seq_k (fun K4 hK4 => ?_)
  refine wp_region_lit ?_
  refine sr0 hf hM [10, 9, 8, 4, 3, 2] [{}, {}, {}] (env' := [(10, .val (.int .i64 0)), (9, .val (.int .i64 1)), (8, .val (.slice av 1 c)), (4, .val (.int .u64 0)), (3, .val (.nilIface)), (2, .val (.int .u64 0))]) (ob := []) (fun B => by as_aux_lemma => kernel_rfl) rfl An ?_
  clear hf; intro a hf
  refine wpList_nil ?_
  refine hK4 _ _ ?_
  refine wp_block ?_
  refine wp_loop_rounds 2 ?_
  refine sxround (m := 1) fun L1 hL1 => ?_
  refine wp_seq_k (fun K5 hK5 => ?_)
  refine wp_region_lit ?_
  refine sr0 hf hM [11, 10, 9, 8, 4, 3, 2] [{}] (env' := [(11, .val (.bool true)), (10, .val (.int .i64 0)), (9, .val (.int .i64 1)), (8, .val (.slice av 1 c)), (4, .val (.int .u64 0)), (3, .val (.nilIface)), (2, .val (.int .u64 0))]) (ob := []) (fun B => by as_aux_lemma => kernel_rfl) rfl An ?_
  clear hf; intro a hf
  refine wpList_nil ?_
  refine hK5 _ _ ?_
  refine wp_seq_k (fun K6 hK6 => ?_)
  refine sxcond hf (b := true) (by kernel_rfl) (fun _ => ?_) (fun h => by cases h)
  refine wp_skip ?_
  refine hK6 _ _ ?_
  refine wp_seq_k (fun K7 hK7 => ?_)
  refine wp_block ?_
  refine wp_seq_k (fun K8 hK8 => ?_)
  refine wp_region_lit ?_
  refine sr0 hf hM [6, 10, 9, 8, 4, 3, 2] [{ sp := true }, { os := [.ex (.int .i64 (([k] : List Int).getD (0 : Int).toNat 0))], hint := some (.int .i64 k) }, {}] (env' := [(6, .val (.int .i64 k)), (10, .val (.int .i64 0)), (9, .val (.int .i64 1)), (8, .val (.slice av 1 c)), (4, .val (.int .u64 0)), (3, .val (.nilIface)), (2, .val (.int .u64 0))]) (ob := [(0 : Int) ≤ 0 ∧ 0 < (1 : Int), (av : Option Addr).isSome = true, w.cell? ((sa av : Addr).add ((0 : Int).toNat * 1)) = some (.int .i64 (([k] : List Int).getD (0 : Int).toNat 0)), (.int .i64 (([k] : List Int).getD (0 : Int).toNat 0) : Value) = (.int .i64 k : Value)]) (fun B => by as_aux_lemma => kernel_rfl) rfl (Ac (by first | omega | (simp; done)) (Ac ((hav.keepNn hk0).some_ (by first | omega | (simp; done))) (Ac ((hav.keepNn hk0).get0 (fun _ => rfl) (by first | omega | (simp; done)) rfl) (Ao rfl)))) ?_
  clear hf; intro a hf
  refine wpList_nil ?_
  refine hK8 _ _ ?_
  refine wp_seq_k (fun K9 hK9 => ?_)
  refine wp_region_lit ?_
  refine sr0 hf hM [14, 10, 9, 8, 4, 3, 2] [{}] (env' := [(14, .val (.int .i64 k)), (10, .val (.int .i64 0)), (9, .val (.int .i64 1)), (8, .val (.slice av 1 c)), (4, .val (.int .u64 0)), (3, .val (.nilIface)), (2, .val (.int .u64 0))]) (ob := []) (fun B => by as_aux_lemma => kernel_rfl) rfl An ?_
  clear hf; intro a hf
  refine sxcall hf rfl rfl rfl rfl (g := 82) (vs := [.int .i64 k]) (ob := []) (by as_aux_lemma => kernel_rfl) An enters82 (bit_no k w hn0 ) ?_
  clear hf; rintro _ w1 a ⟨rfl, hk⟩ hf
  have hM := hM.keepNn hk
  have hk0 := hk0.trans hk.nn
  clear hk
  refine sr0 hf hM [7, 10, 9, 8, 4, 3, 2] [{}] (env' := [(7, .val (.int .u64 0)), (10, .val (.int .i64 0)), (9, .val (.int .i64 1)), (8, .val (.slice av 1 c)), (4, .val (.int .u64 0)), (3, .val (.nilIface)), (2, .val (.int .u64 0))]) (ob := []) (fun B => by as_aux_lemma => kernel_rfl) rfl An ?_
  clear hf; intro a hf
  refine wpList_nil ?_
  refine hK9 _ _ ?_
  refine wp_seq_k (fun K10 hK10 => ?_)
  refine wp_seq_k (fun K11 hK11 => ?_)
  refine wp_region_lit ?_
  refine sr0 hf hM [17, 7, 10, 9, 8, 4, 3, 2] [{}, {}] (env' := [(17, .val (.bool true)), (7, .val (.int .u64 0)), (10, .val (.int .i64 0)), (9, .val (.int .i64 1)), (8, .val (.slice av 1 c)), (4, .val (.int .u64 0)), (3, .val (.nilIface)), (2, .val (.int .u64 0))]) (ob := []) (fun B => by as_aux_lemma => kernel_rfl) rfl An ?_
  clear hf; intro a hf
  refine wpList_nil ?_
  refine hK11 _ _ ?_
  refine sxcond hf (b := true) (by kernel_rfl) (fun _ => ?_) (fun h => by cases h)
  refine wp_seq_k (fun K12 hK12 => ?_)
  replace hM := hM.drew; replace hk0 := hk0.drew
  obtain ⟨C1, hC1d⟩ : ∃ C : World → Prop, C = fun w' => MemOk [] w' ∧ Keep Nn w w' ∧ True := ⟨_, rfl⟩
  have hC1i : ∀ w', (MemOk [] w' ∧ Keep Nn w w' ∧ True) → C1 w' := fun w' h => by rw [hC1d]; exact h
  have hC1e : ∀ w', C1 w' → (MemOk [] w' ∧ Keep Nn w w' ∧ True) := fun w' h => by rw [hC1d] at h; exact h
  refine sxdraw (C := C1) (.leaf [(0, true), (1, true), (2, true)]) (by kernel_rfl) (by kernel_rfl) (by as_aux_lemma => kernel_rfl) rfl (by as_aux_lemma => kernel_rfl) (by kernel_rfl) (hC1i _ ⟨hM.sub (.slnil), hk0, trivial⟩) ?_
  refine sxleaf ?_
  have hC := (hC1i _ ⟨hM.sub (.slnil), hk0, trivial⟩)
  refine sc0 hf hC (fun w' h => (hC1e w' h).1) [3, 2] [{ os := [.ex (.iface 185 (.pointer (some (E 4))))] }, {}, {}] (env' := [(3, .val (.iface 185 (.pointer (some (E 4))))), (2, .val (.int .u64 0))]) (ob := [(∀ w', C1 w' → w'.cell? ⟨4, 0, none⟩ = some (.iface 185 (.pointer (some (E 4)))))]) (by as_aux_lemma => kernel_rfl) rfl (Ao (fun w' hc => by obtain ⟨hM, hk0, hO⟩ := hC1e w' hc; exact (hk0.cell (hG.cell 4 (by decide)) (fun h => h)))) ?_
  clear hf; intro a hf
  clear hC
  show K12 _ _
  refine hK12 _ _ ?_
  refine wp_ret ?_
  refine sxret (fn := Tryd.f53) hf hM [] (l := [.int .u64 0, .iface 185 (.pointer (some (E 4)))]) (M' := []) (d' := false) (ob := []) (by kernel_rfl) (fun B => ⟨B, by as_aux_lemma => kernel_rfl⟩) rfl An ?_
  show (.tuple #[.int .u64 0, .iface 185 (.pointer (some (E 4)))] : Value) = .tuple #[.int .u64 0, .iface 185 (.pointer (some (E 4)))] ∧ Keep Nn w w1.drew
  exact ⟨rfl, hk0⟩

set_option maxRecDepth 10000 in
set_option maxHeartbeats 4000000 in
theorem mwith1 (na nb : Nat) (w : World) (ha : na < 2 ^ 64) (hb : nb < 2 ^ 64) :
    Calls Tryd.prog 80 #[.int .u64 ((na : Nat) : Int), .int .u64 ((nb : Nat) : Int)] w (Ret fun v w' => v = .int .u64 (((na ||| nb) : Nat) : Int) ∧ Keep Nn w w') := by
  refine sxenter (n := 8) (args := [.int .u64 ((na : Nat) : Int), .int .u64 ((nb : Nat) : Int)]) Tryd.func80 rfl rfl rfl fun a hf => ?_
  replace hf : Fr 8 [(0, .val (.int .u64 ((na : Nat) : Int))), (1, .val (.int .u64 ((nb : Nat) : Int)))] a := hf
  have hM : MemOk [] w := MemOk.nil w
  have hk0 : Keep Nn w w := Keep.refl _ _
  refine wp_seq_k (fun K1 hK1 => ?_)
  refine wp_region_lit ?_
  refine sr0 hf hM [0, 1] [{}] (env' := [(0, .val (.int .u64 ((na : Nat) : Int))), (1, .val (.int .u64 ((nb : Nat) : Int)))]) (ob := []) (fun B => by as_aux_lemma => kernel_rfl) rfl An ?_
  clear hf; intro a hf
  refine wpList_nil ?_
  refine hK1 _ _ ?_
  refine wp_seq_k (fun K2 hK2 => ?_)
  refine wp_region_lit ?_
  refine sr0 hf hM [4] [{}, {}, { hint := some (.int .u64 (((na ||| nb) : Nat) : Int)) }, {}] (env' := [(4, .val (.int .u64 (((na ||| nb) : Nat) : Int)))]) (ob := [(.int .u64 (IntKind.u64.wrap ((BitVec.ofInt IntKind.u64.bits ((na : Nat) : Int) ||| (BitVec.ofInt IntKind.u64.bits ((nb : Nat) : Int)) : BitVec IntKind.u64.bits).toNat : Int)) : Value) = (.int .u64 (((na ||| nb) : Nat) : Int) : Value)]) (fun B => by as_aux_lemma => kernel_rfl) rfl (Ao (or_u64 ha hb)) ?_
  clear hf; intro a hf
  refine wpList_nil ?_
  refine hK2 _ _ ?_
  refine wp_ret ?_
  refine sxret (fn := Tryd.f80) hf hM [] (l := [.int .u64 (((na ||| nb) : Nat) : Int)]) (M' := []) (d' := false) (ob := []) (by kernel_rfl) (fun B => ⟨B, by as_aux_lemma => kernel_rfl⟩) rfl An ?_
  show (.int .u64 (((na ||| nb) : Nat) : Int) : Value) = .int .u64 (((na ||| nb) : Nat) : Int) ∧ Keep Nn w w
  exact ⟨rfl, hk0⟩

set_option maxRecDepth 10000 in
set_option maxHeartbeats 4000000 in
theorem mwith_ch_ok (E : Nat → Addr) (mm : Nat) (av : Option Addr) (k : Int) (c : Nat) (w : World) (hn0 : (decide (0 ≤ k ∧ k ≤ 9)) = true) (hmm : mm < 2 ^ 64) (hav : Arr w 1 av 1 c (flat fI ([k] : List Int))) (hG : Errs [0, 3, 4] w 185 E) :
    Calls Tryd.prog 79 #[.int .u64 ((mm : Nat) : Int), .func (.func 80) #[] #[], .slice av 1 c] w (Ret fun v w' => v = .tuple #[.int .u64 (((mm ||| bitN k) : Nat) : Int), .nilIface] ∧ Keep Nn w w') := by
  refine sxenter (n := 22) (args := [.int .u64 ((mm : Nat) : Int), .func (.func 80) #[] #[], .slice av 1 c]) Tryd.func79 rfl rfl rfl fun a hf => ?_
  replace hf : Fr 22 [(0, .val (.int .u64 ((mm : Nat) : Int))), (1, .val (.func (.func 80) #[] #[])), (2, .val (.slice av 1 c))] a := hf
  have hM : MemOk [] w := MemOk.nil w
  have hk0 : Keep Nn w w := Keep.refl _ _
  have hkk : 0 ≤ k ∧ k ≤ 9 := of_decide_eq_true hn0
  have hb64 := bitN_lt' hkk
  refine wp_seq_k (fun K1 hK1 => ?_)
  refine wp_region_lit ?_
  refine sr0 hf hM [0, 1, 2] [{}, {}] (env' := [(0, .val (.int .u64 ((mm : Nat) : Int))), (1, .val (.func (.func 80) #[] #[])), (2, .val (.slice av 1 c))]) (ob := []) (fun B => by as_aux_lemma => kernel_rfl) rfl An ?_
  clear hf; intro a hf
  refine wpList_nil ?_
  refine hK1 _ _ ?_
  refine wp_seq_k (fun K2 hK2 => ?_)
  refine wp_region_lit ?_
  refine sr0 hf hM [11, 0, 1] [{}] (env' := [(11, .val (.slice av 1 c)), (0, .val (.int .u64 ((mm : Nat) : Int))), (1, .val (.func (.func 80) #[] #[]))]) (ob := []) (fun B => by as_aux_lemma => kernel_rfl) rfl An ?_
  clear hf; intro a hf
  refine sxcall hf rfl rfl rfl rfl (g := 53) (vs := [.slice av 1 c]) (ob := []) (by as_aux_lemma => kernel_rfl) An enters53 (of1_ok E av k c w hn0 (hav.keepNn hk0) (hG.keep hk0 (fun _ h => h))) ?_
  clear hf; rintro _ w1 a ⟨rfl, hk⟩ hf
  have hM := hM.keepNn hk
  have hk0 := hk0.trans hk.nn
  clear hk
  refine sr0 hf hM [9, 8, 0, 1] [{}, {}, {}, {}, {}] (env' := [(9, .val (.nilIface)), (8, .val (.int .u64 (((bitN k) : Nat) : Int))), (0, .val (.int .u64 ((mm : Nat) : Int))), (1, .val (.func (.func 80) #[] #[]))]) (ob := []) (fun B => by as_aux_lemma => kernel_rfl) rfl An ?_
  clear hf; intro a hf
  refine wpList_nil ?_
  refine hK2 _ _ ?_
  refine wp_seq_k (fun K3 hK3 => ?_)
  refine wp_seq_k (fun K4 hK4 => ?_)
  refine wp_region_lit ?_
  refine sr0 hf hM [16, 9, 8, 0, 1] [{}, {}] (env' := [(16, .val (.bool false)), (9, .val (.nilIface)), (8, .val (.int .u64 (((bitN k) : Nat) : Int))), (0, .val (.int .u64 ((mm : Nat) : Int))), (1, .val (.func (.func 80) #[] #[]))]) (ob := []) (fun B => by as_aux_lemma => kernel_rfl) rfl An ?_
  clear hf; intro a hf
  refine wpList_nil ?_
  refine hK4 _ _ ?_
  refine sxcond hf (b := false) (by kernel_rfl) (fun h => by cases h) (fun _ => ?_)
  refine wp_skip ?_
  refine hK3 _ _ ?_
  refine wp_seq_k (fun K5 hK5 => ?_)
  refine wp_region_lit ?_
  refine sr0 hf hM [20, 19, 18] [{}, {}, {}] (env' := [(20, .val (.int .u64 (((bitN k) : Nat) : Int))), (19, .val (.int .u64 ((mm : Nat) : Int))), (18, .val (.func (.func 80) #[] #[]))]) (ob := []) (fun B => by as_aux_lemma => kernel_rfl) rfl An ?_
  clear hf; intro a hf
  refine sxcall hf rfl rfl rfl rfl (g := 80) (vs := [.int .u64 ((mm : Nat) : Int), .int .u64 (((bitN k) : Nat) : Int)]) (ob := []) (by as_aux_lemma => kernel_rfl) An enters80 (mwith1 mm (bitN k) w1  (by first | assumption | exact bitN_lt' (by assumption) | omega) (by first | assumption | exact bitN_lt' (by assumption) | omega)) ?_
  clear hf; rintro _ w2 a ⟨rfl, hk⟩ hf
  have hM := hM.keepNn hk
  have hk0 := hk0.trans hk.nn
  clear hk
  refine sr0 hf hM [7, 6] [{}, {}] (env' := [(7, .val (.nilIface)), (6, .val (.int .u64 (((mm ||| (bitN k)) : Nat) : Int)))]) (ob := []) (fun B => by as_aux_lemma => kernel_rfl) rfl An ?_
  clear hf; intro a hf
  refine wpList_nil ?_
  refine hK5 _ _ ?_
  refine wp_ret ?_
  refine sxret (fn := Tryd.f79) hf hM [] (l := [.int .u64 (((mm ||| (bitN k)) : Nat) : Int), .nilIface]) (M' := []) (d' := false) (ob := []) (by kernel_rfl) (fun B => ⟨B, by as_aux_lemma => kernel_rfl⟩) rfl An ?_
  show (.tuple #[.int .u64 (((mm ||| (bitN k)) : Nat) : Int), .nilIface] : Value) = .tuple #[.int .u64 (((mm ||| bitN k) : Nat) : Int), .nilIface] ∧ Keep Nn w w2
  exact ⟨rfl, hk0⟩

set_option maxRecDepth 10000 in
set_option maxHeartbeats 4000000 in
theorem mwith_ok (E : Nat → Addr) (mm : Nat) (av : Option Addr) (k : Int) (c : Nat) (w : World) (hn0 : (decide (0 ≤ k ∧ k ≤ 9)) = true) (hmm : mm < 2 ^ 64) (hav : Arr w 1 av 1 c (flat fI ([k] : List Int))) (hG : Errs [0, 3, 4] w 185 E) :
    Calls Tryd.prog 50 #[.int .u64 ((mm : Nat) : Int), .slice av 1 c] w (Ret fun v w' => v = .tuple #[.int .u64 (((mm ||| bitN k) : Nat) : Int), .nilIface] ∧ Keep Nn w w') := by
  refine sxenter (n := 11) (args := [.int .u64 ((mm : Nat) : Int), .slice av 1 c]) Tryd.func50 rfl rfl rfl fun a hf => ?_
  replace hf : Fr 11 [(0, .val (.int .u64 ((mm : Nat) : Int))), (1, .val (.slice av 1 c))] a := hf
  have hM : MemOk [] w := MemOk.nil w
  have hk0 : Keep Nn w w := Keep.refl _ _
  have hkk : 0 ≤ k ∧ k ≤ 9 := of_decide_eq_true hn0
  have hb64 := bitN_lt' hkk
  refine wp_seq_k (fun K1 hK1 => ?_)
  refine wp_region_lit ?_
  refine sr0 hf hM [0, 1] [{}, {}] (env' := [(0, .val (.int .u64 ((mm : Nat) : Int))), (1, .val (.slice av 1 c))]) (ob := []) (fun B => by as_aux_lemma => kernel_rfl) rfl An ?_
  clear hf; intro a hf
  refine wpList_nil ?_
  refine hK1 _ _ ?_
  refine wp_seq_k (fun K2 hK2 => ?_)
  refine wp_region_lit ?_
  refine sr0 hf hM [7, 6] [{}, {}] (env' := [(7, .val (.slice av 1 c)), (6, .val (.int .u64 ((mm : Nat) : Int)))]) (ob := []) (fun B => by as_aux_lemma => kernel_rfl) rfl An ?_
  clear hf; intro a hf
  refine sxcall hf rfl rfl rfl rfl (g := 79) (vs := [.int .u64 ((mm : Nat) : Int), .func (.func 80) #[] #[], .slice av 1 c]) (ob := []) (by as_aux_lemma => kernel_rfl) An enters79 (mwith_ch_ok E mm av k c w hn0 (by first | assumption | exact bitN_lt' (by assumption) | omega) (hav.keepNn hk0) (hG.keep hk0 (fun _ h => h))) ?_
  clear hf; rintro _ w1 a ⟨rfl, hk⟩ hf
  have hM := hM.keepNn hk
  have hk0 := hk0.trans hk.nn
  clear hk
  refine sr0 hf hM [5, 4] [{}, {}, {}, {}] (env' := [(5, .val (.nilIface)), (4, .val (.int .u64 (((mm ||| bitN k) : Nat) : Int)))]) (ob := []) (fun B => by as_aux_lemma => kernel_rfl) rfl An ?_
  clear hf; intro a hf
  refine wpList_nil ?_
  refine hK2 _ _ ?_
  refine wp_ret ?_
  refine sxret (fn := Tryd.f50) hf hM [] (l := [.int .u64 (((mm ||| bitN k) : Nat) : Int), .nilIface]) (M' := []) (d' := false) (ob := []) (by kernel_rfl) (fun B => ⟨B, by as_aux_lemma => kernel_rfl⟩) rfl An ?_
  show (.tuple #[.int .u64 (((mm ||| bitN k) : Nat) : Int), .nilIface] : Value) = .tuple #[.int .u64 (((mm ||| bitN k) : Nat) : Int), .nilIface] ∧ Keep Nn w w1
  exact ⟨rfl, hk0⟩

set_option maxRecDepth 10000 in
set_option maxHeartbeats 4000000 in
theorem mwith_ch_no (E : Nat → Addr) (mm : Nat) (av : Option Addr) (k : Int) (c : Nat) (w : World) (hn0 : (decide (0 ≤ k ∧ k ≤ 9)) = false) (hmm : mm < 2 ^ 64) (hav : Arr w 1 av 1 c (flat fI ([k] : List Int))) (hG : Errs [0, 3, 4] w 185 E) :
    Calls Tryd.prog 79 #[.int .u64 ((mm : Nat) : Int), .func (.func 80) #[] #[], .slice av 1 c] w (Ret fun v w' => v = .tuple #[.int .u64 0, .iface 185 (.pointer (some (E 4)))] ∧ Keep Nn w w') := by
  refine sxenter (n := 22) (args := [.int .u64 ((mm : Nat) : Int), .func (.func 80) #[] #[], .slice av 1 c]) Tryd.func79 rfl rfl rfl fun a hf => ?_
  replace hf : Fr 22 [(0, .val (.int .u64 ((mm : Nat) : Int))), (1, .val (.func (.func 80) #[] #[])), (2, .val (.slice av 1 c))] a := hf
  have hM : MemOk [] w := MemOk.nil w
  have hk0 : Keep Nn w w := Keep.refl _ _
  refine wp_seq_k (fun K1 hK1 => ?_)
  refine wp_region_lit ?_
  refine sr0 hf hM [0, 1, 2] [{}, {}] (env' := [(0, .val (.int .u64 ((mm : Nat) : Int))), (1, .val (.func (.func 80) #[] #[])), (2, .val (.slice av 1 c))]) (ob := []) (fun B => by as_aux_lemma => kernel_rfl) rfl An ?_
  clear hf; intro a hf
  refine wpList_nil ?_
  refine hK1 _ _ ?_
  refine wp_seq_k (fun K2 hK2 => ?_)
  refine wp_region_lit ?_
  refine sr0 hf hM [11, 0, 1] [{}] (env' := [(11, .val (.slice av 1 c)), (0, .val (.int .u64 ((mm : Nat) : Int))), (1, .val (.func (.func 80) #[] #[]))]) (ob := []) (fun B => by as_aux_lemma => kernel_rfl) rfl An ?_
  clear hf; intro a hf
  refine sxcall hf rfl rfl rfl rfl (g := 53) (vs := [.slice av 1 c]) (ob := []) (by as_aux_lemma => kernel_rfl) An enters53 (of1_no E av k c w hn0 (hav.keepNn hk0) (hG.keep hk0 (fun _ h => h))) ?_
  clear hf; rintro _ w1 a ⟨rfl, hk⟩ hf
  have hM := hM.keepNn hk
  have hk0 := hk0.trans hk.nn
  clear hk
  refine sr0 hf hM [9, 8, 0, 1] [{}, {}, {}, {}, {}] (env' := [(9, .val (.iface 185 (.pointer (some (E 4))))), (8, .val (.int .u64 0)), (0, .val (.int .u64 ((mm : Nat) : Int))), (1, .val (.func (.func 80) #[] #[]))]) (ob := []) (fun B => by as_aux_lemma => kernel_rfl) rfl An ?_
  clear hf; intro a hf
  refine wpList_nil ?_
  refine hK2 _ _ ?_
  refine wp_seq_k (fun K3 hK3 => ?_)
  refine wp_seq_k (fun K4 hK4 => ?_)
  refine wp_region_lit ?_
  refine sr0 hf hM [16, 9, 8, 0, 1] [{}, {}] (env' := [(16, .val (.bool true)), (9, .val (.iface 185 (.pointer (some (E 4))))), (8, .val (.int .u64 0)), (0, .val (.int .u64 ((mm : Nat) : Int))), (1, .val (.func (.func 80) #[] #[]))]) (ob := []) (fun B => by as_aux_lemma => kernel_rfl) rfl An ?_
  clear hf; intro a hf
  refine wpList_nil ?_
  refine hK4 _ _ ?_
  refine sxcond hf (b := true) (by kernel_rfl) (fun _ => ?_) (fun h => by cases h)
  refine wp_seq_k (fun K5 hK5 => ?_)
  refine wp_region_lit ?_
  refine sr0 hf hM [7, 6] [{}, {}, {}] (env' := [(7, .val (.iface 185 (.pointer (some (E 4))))), (6, .val (.int .u64 0))]) (ob := []) (fun B => by as_aux_lemma => kernel_rfl) rfl An ?_
  clear hf; intro a hf
  refine wpList_nil ?_
  refine hK5 _ _ ?_
  refine wp_ret ?_
  refine sxret (fn := Tryd.f79) hf hM [] (l := [.int .u64 0, .iface 185 (.pointer (some (E 4)))]) (M' := []) (d' := false) (ob := []) (by kernel_rfl) (fun B => ⟨B, by as_aux_lemma => kernel_rfl⟩) rfl An ?_
  show (.tuple #[.int .u64 0, .iface 185 (.pointer (some (E 4)))] : Value) = .tuple #[.int .u64 0, .iface 185 (.pointer (some (E 4)))] ∧ Keep Nn w w1
  exact ⟨rfl, hk0⟩

set_option maxRecDepth 10000 in
set_option maxHeartbeats 4000000 in
theorem mwith_no (E : Nat → Addr) (mm : Nat) (av : Option Addr) (k : Int) (c : Nat) (w : World) (hn0 : (decide (0 ≤ k ∧ k ≤ 9)) = false) (hmm : mm < 2 ^ 64) (hav : Arr w 1 av 1 c (flat fI ([k] : List Int))) (hG : Errs [0, 3, 4] w 185 E) :
    Calls Tryd.prog 50 #[.int .u64 ((mm : Nat) : Int), .slice av 1 c] w (Ret fun v w' => v = .tuple #[.int .u64 0, .iface 185 (.pointer (some (E 4)))] ∧ Keep Nn w w') := by
  refine sxenter (n := 11) (args := [.int .u64 ((mm : Nat) : Int), .slice av 1 c]) Tryd.func50 rfl rfl rfl fun a hf => ?_
  replace hf : Fr 11 [(0, .val (.int .u64 ((mm : Nat) : Int))), (1, .val (.slice av 1 c))] a := hf
  have hM : MemOk [] w := MemOk.nil w
  have hk0 : Keep Nn w w := Keep.refl _ _
  refine wp_seq_k (fun K1 hK1 => ?_)
  refine wp_region_lit ?_
  refine sr0 hf hM [0, 1] [{}, {}] (env' := [(0, .val (.int .u64 ((mm : Nat) : Int))), (1, .val (.slice av 1 c))]) (ob := []) (fun B => by as_aux_lemma => kernel_rfl) rfl An ?_
  clear hf; intro a hf
  refine wpList_nil ?_
  refine hK1 _ _ ?_
  refine wp_seq_k (fun K2 hK2 => ?_)
  refine wp_region_lit ?_
  refine sr0 hf hM [7, 6] [{}, {}] (env' := [(7, .val (.slice av 1 c)), (6, .val (.int .u64 ((mm : Nat) : Int)))]) (ob := []) (fun B => by as_aux_lemma => kernel_rfl) rfl An ?_
  clear hf; intro a hf
  refine sxcall hf rfl rfl rfl rfl (g := 79) (vs := [.int .u64 ((mm : Nat) : Int), .func (.func 80) #[] #[], .slice av 1 c]) (ob := []) (by as_aux_lemma => kernel_rfl) An enters79 (mwith_ch_no E mm av k c w hn0 (by first | assumption | exact bitN_lt' (by assumption) | omega) (hav.keepNn hk0) (hG.keep hk0 (fun _ h => h))) ?_
  clear hf; rintro _ w1 a ⟨rfl, hk⟩ hf
  have hM := hM.keepNn hk
  have hk0 := hk0.trans hk.nn
  clear hk
  refine sr0 hf hM [5, 4] [{}, {}, {}, {}] (env' := [(5, .val (.iface 185 (.pointer (some (E 4))))), (4, .val (.int .u64 0))]) (ob := []) (fun B => by as_aux_lemma => kernel_rfl) rfl An ?_
  clear hf; intro a hf
  refine wpList_nil ?_
  refine hK2 _ _ ?_
  refine wp_ret ?_
  refine sxret (fn := Tryd.f50) hf hM [] (l := [.int .u64 0, .iface 185 (.pointer (some (E 4)))]) (M' := []) (d' := false) (ob := []) (by kernel_rfl) (fun B => ⟨B, by as_aux_lemma => kernel_rfl⟩) rfl An ?_
  show (.tuple #[.int .u64 0, .iface 185 (.pointer (some (E 4)))] : Value) = .tuple #[.int .u64 0, .iface 185 (.pointer (some (E 4)))] ∧ Keep Nn w w1
  exact ⟨rfl, hk0⟩

set_option maxRecDepth 10000 in
set_option maxHeartbeats 4000000 in
theorem mless1 (na nb : Nat) (w : World) (ha : na < 2 ^ 64) (hb : nb < 2 ^ 64) :
    Calls Tryd.prog 81 #[.int .u64 ((na : Nat) : Int), .int .u64 ((nb : Nat) : Int)] w (Ret fun v w' => v = .int .u64 (((lessN na nb) : Nat) : Int) ∧ Keep Nn w w') := by
  refine sxenter (n := 8) (args := [.int .u64 ((na : Nat) : Int), .int .u64 ((nb : Nat) : Int)]) Tryd.func81 rfl rfl rfl fun a hf => ?_
  replace hf : Fr 8 [(0, .val (.int .u64 ((na : Nat) : Int))), (1, .val (.int .u64 ((nb : Nat) : Int)))] a := hf
  have hM : MemOk [] w := MemOk.nil w
  have hk0 : Keep Nn w w := Keep.refl _ _
  refine wp_seq_k (fun K1 hK1 => ?_)
  refine wp_region_lit ?_
  refine sr0 hf hM [0, 1] [{}] (env' := [(0, .val (.int .u64 ((na : Nat) : Int))), (1, .val (.int .u64 ((nb : Nat) : Int)))]) (ob := []) (fun B => by as_aux_lemma => kernel_rfl) rfl An ?_
  clear hf; intro a hf
  refine wpList_nil ?_
  refine hK1 _ _ ?_
  refine wp_seq_k (fun K2 hK2 => ?_)
  refine wp_region_lit ?_
  refine sr0 hf hM [4] [{}, {}, { hint := some (.int .u64 (((lessN na nb) : Nat) : Int)) }, {}] (env' := [(4, .val (.int .u64 (((lessN na nb) : Nat) : Int)))]) (ob := [(.int .u64 (IntKind.u64.wrap ((BitVec.ofInt IntKind.u64.bits ((na : Nat) : Int) &&& ~~~(BitVec.ofInt IntKind.u64.bits ((nb : Nat) : Int)) : BitVec IntKind.u64.bits).toNat : Int)) : Value) = (.int .u64 (((lessN na nb) : Nat) : Int) : Value)]) (fun B => by as_aux_lemma => kernel_rfl) rfl (Ao (andNot_u64 ha hb)) ?_
  clear hf; intro a hf
  refine wpList_nil ?_
  refine hK2 _ _ ?_
  refine wp_ret ?_
  refine sxret (fn := Tryd.f81) hf hM [] (l := [.int .u64 (((lessN na nb) : Nat) : Int)]) (M' := []) (d' := false) (ob := []) (by kernel_rfl) (fun B => ⟨B, by as_aux_lemma => kernel_rfl⟩) rfl An ?_
  show (.int .u64 (((lessN na nb) : Nat) : Int) : Value) = .int .u64 (((lessN na nb) : Nat) : Int) ∧ Keep Nn w w
  exact ⟨rfl, hk0⟩

set_option maxRecDepth 10000 in
set_option maxHeartbeats 4000000 in
theorem mless_ch_ok (E : Nat → Addr) (mm : Nat) (av : Option Addr) (k : Int) (c : Nat) (w : World) (hn0 : (decide (0 ≤ k ∧ k ≤ 9)) = true) (hmm : mm < 2 ^ 64) (hav : Arr w 1 av 1 c (flat fI ([k] : List Int))) (hG : Errs [0, 3, 4] w 185 E) :
    Calls Tryd.prog 79 #[.int .u64 ((mm : Nat) : Int), .func (.func 81) #[] #[], .slice av 1 c] w (Ret fun v w' => v = .tuple #[.int .u64 (((lessN mm (bitN k)) : Nat) : Int), .nilIface] ∧ Keep Nn w w') := by
  refine sxenter (n := 22) (args := [.int .u64 ((mm : Nat) : Int), .func (.func 81) #[] #[], .slice av 1 c]) Tryd.func79 rfl rfl rfl fun a hf => ?_
  replace hf : Fr 22 [(0, .val (.int .u64 ((mm : Nat) : Int))), (1, .val (.func (.func 81) #[] #[])), (2, .val (.slice av 1 c))] a := hf
  have hM : MemOk [] w := MemOk.nil w
  have hk0 : Keep Nn w w := Keep.refl _ _
  have hkk : 0 ≤ k ∧ k ≤ 9 := of_decide_eq_true hn0
  have hb64 := bitN_lt' hkk
  refine wp_seq_k (fun K1 hK1 => ?_)
  refine wp_region_lit ?_
  refine sr0 hf hM [0, 1, 2] [{}, {}] (env' := [(0, .val (.int .u64 ((mm : Nat) : Int))), (1, .val (.func (.func 81) #[] #[])), (2, .val (.slice av 1 c))]) (ob := []) (fun B => by as_aux_lemma => kernel_rfl) rfl An ?_
  clear hf; intro a hf
  refine wpList_nil ?_
  refine hK1 _ _ ?_
  refine wp_seq_k (fun K2 hK2 => ?_)
  refine wp_region_lit ?_
  refine sr0 hf hM [11, 0, 1] [{}] (env' := [(11, .val (.slice av 1 c)), (0, .val (.int .u64 ((mm : Nat) : Int))), (1, .val (.func (.func 81) #[] #[]))]) (ob := []) (fun B => by as_aux_lemma => kernel_rfl) rfl An ?_
  clear hf; intro a hf
  refine sxcall hf rfl rfl rfl rfl (g := 53) (vs := [.slice av 1 c]) (ob := []) (by as_aux_lemma => kernel_rfl) An enters53 (of1_ok E av k c w hn0 (hav.keepNn hk0) (hG.keep hk0 (fun _ h => h))) ?_
  clear hf; rintro _ w1 a ⟨rfl, hk⟩ hf
  have hM := hM.keepNn hk
  have hk0 := hk0.trans hk.nn
  clear hk
  refine sr0 hf hM [9, 8, 0, 1] [{}, {}, {}, {}, {}] (env' := [(9, .val (.nilIface)), (8, .val (.int .u64 (((bitN k) : Nat) : Int))), (0, .val (.int .u64 ((mm : Nat) : Int))), (1, .val (.func (.func 81) #[] #[]))]) (ob := []) (fun B => by as_aux_lemma => kernel_rfl) rfl An ?_
  clear hf; intro a hf
  refine wpList_nil ?_
  refine hK2 _ _ ?_
  refine wp_seq_k (fun K3 hK3 => ?_)
  refine wp_seq_k (fun K4 hK4 => ?_)
  refine wp_region_lit ?_
  refine sr0 hf hM [16, 9, 8, 0, 1] [{}, {}] (env' := [(16, .val (.bool false)), (9, .val (.nilIface)), (8, .val (.int .u64 (((bitN k) : Nat) : Int))), (0, .val (.int .u64 ((mm : Nat) : Int))), (1, .val (.func (.func 81) #[] #[]))]) (ob := []) (fun B => by as_aux_lemma => kernel_rfl) rfl An ?_
  clear hf; intro a hf
  refine wpList_nil ?_
  refine hK4 _ _ ?_
  refine sxcond hf (b := false) (by kernel_rfl) (fun h => by cases h) (fun _ => ?_)
  refine wp_skip ?_
  refine hK3 _ _ ?_
  refine wp_seq_k (fun K5 hK5 => ?_)
  refine wp_region_lit ?_
  refine sr0 hf hM [20, 19, 18] [{}, {}, {}] (env' := [(20, .val (.int .u64 (((bitN k) : Nat) : Int))), (19, .val (.int .u64 ((mm : Nat) : Int))), (18, .val (.func (.func 81) #[] #[]))]) (ob := []) (fun B => by as_aux_lemma => kernel_rfl) rfl An ?_
  clear hf; intro a hf
  refine sxcall hf rfl rfl rfl rfl (g := 81) (vs := [.int .u64 ((mm : Nat) : Int), .int .u64 (((bitN k) : Nat) : Int)]) (ob := []) (by as_aux_lemma => kernel_rfl) An enters81 (mless1 mm (bitN k) w1  (by first | assumption | exact bitN_lt' (by assumption) | omega) (by first | assumption | exact bitN_lt' (by assumption) | omega)) ?_
  clear hf; rintro _ w2 a ⟨rfl, hk⟩ hf
  have hM := hM.keepNn hk
  have hk0 := hk0.trans hk.nn
  clear hk
  refine sr0 hf hM [7, 6] [{}, {}] (env' := [(7, .val (.nilIface)), (6, .val (.int .u64 (((lessN mm (bitN k)) : Nat) : Int)))]) (ob := []) (fun B => by as_aux_lemma => kernel_rfl) rfl An ?_
  clear hf; intro a hf
  refine wpList_nil ?_
  refine hK5 _ _ ?_
  refine wp_ret ?_
  refine sxret (fn := Tryd.f79) hf hM [] (l := [.int .u64 (((lessN mm (bitN k)) : Nat) : Int), .nilIface]) (M' := []) (d' := false) (ob := []) (by kernel_rfl) (fun B => ⟨B, by as_aux_lemma => kernel_rfl⟩) rfl An ?_
  show (.tuple #[.int .u64 (((lessN mm (bitN k)) : Nat) : Int), .nilIface] : Value) = .tuple #[.int .u64 (((lessN mm (bitN k)) : Nat) : Int), .nilIface] ∧ Keep Nn w w2
  exact ⟨rfl, hk0⟩

set_option maxRecDepth 10000 in
set_option maxHeartbeats 4000000 in
theorem mless_ok (E : Nat → Addr) (mm : Nat) (av : Option Addr) (k : Int) (c : Nat) (w : World) (hn0 : (decide (0 ≤ k ∧ k ≤ 9)) = true) (hmm : mm < 2 ^ 64) (hav : Arr w 1 av 1 c (flat fI ([k] : List Int))) (hG : Errs [0, 3, 4] w 185 E) :
    Calls Tryd.prog 51 #[.int .u64 ((mm : Nat) : Int), .slice av 1 c] w (Ret fun v w' => v = .tuple #[.int .u64 (((lessN mm (bitN k)) : Nat) : Int), .nilIface] ∧ Keep Nn w w') := by
  refine sxenter (n := 11) (args := [.int .u64 ((mm : Nat) : Int), .slice av 1 c]) Tryd.func51 rfl rfl rfl fun a hf => ?_
  replace hf : Fr 11 [(0, .val (.int .u64 ((mm : Nat) : Int))), (1, .val (.slice av 1 c))] a := hf
  have hM : MemOk [] w := MemOk.nil w
  have hk0 : Keep Nn w w := Keep.refl _ _
  have hkk : 0 ≤ k ∧ k ≤ 9 := of_decide_eq_true hn0
  have hb64 := bitN_lt' hkk
  refine wp_seq_k (fun K1 hK1 => ?_)
  refine wp_region_lit ?_
  refine sr0 hf hM [0, 1] [{}, {}] (env' := [(0, .val (.int .u64 ((mm : Nat) : Int))), (1, .val (.slice av 1 c))]) (ob := []) (fun B => by as_aux_lemma => kernel_rfl) rfl An ?_
  clear hf; intro a hf
  refine wpList_nil ?_
  refine hK1 _ _ ?_
  refine wp_seq_k (fun K2 hK2 => ?_)
  refine wp_region_lit ?_
  refine sr0 hf hM [7, 6] [{}, {}] (env' := [(7, .val (.slice av 1 c)), (6, .val (.int .u64 ((mm : Nat) : Int)))]) (ob := []) (fun B => by as_aux_lemma => kernel_rfl) rfl An ?_
  clear hf; intro a hf
  refine sxcall hf rfl rfl rfl rfl (g := 79) (vs := [.int .u64 ((mm : Nat) : Int), .func (.func 81) #[] #[], .slice av 1 c]) (ob := []) (by as_aux_lemma => kernel_rfl) An enters79 (mless_ch_ok E mm av k c w hn0 (by first | assumption | exact bitN_lt' (by assumption) | omega) (hav.keepNn hk0) (hG.keep hk0 (fun _ h => h))) ?_
  clear hf; rintro _ w1 a ⟨rfl, hk⟩ hf
  have hM := hM.keepNn hk
  have hk0 := hk0.trans hk.nn
  clear hk
  refine sr0 hf hM [5, 4] [{}, {}, {}, {}] (env' := [(5, .val (.nilIface)), (4, .val (.int .u64 (((lessN mm (bitN k)) : Nat) : Int)))]) (ob := []) (fun B => by as_aux_lemma => kernel_rfl) rfl An ?_
  clear hf; intro a hf
  refine wpList_nil ?_
  refine hK2 _ _ ?_
  refine wp_ret ?_
  refine sxret (fn := Tryd.f51) hf hM [] (l := [.int .u64 (((lessN mm (bitN k)) : Nat) : Int), .nilIface]) (M' := []) (d' := false) (ob := []) (by kernel_rfl) (fun B => ⟨B, by as_aux_lemma => kernel_rfl⟩) rfl An ?_
  show (.tuple #[.int .u64 (((lessN mm (bitN k)) : Nat) : Int), .nilIface] : Value) = .tuple #[.int .u64 (((lessN mm (bitN k)) : Nat) : Int), .nilIface] ∧ Keep Nn w w1
  exact ⟨rfl, hk0⟩

set_option maxRecDepth 10000 in
set_option maxHeartbeats 4000000 in
theorem mless_ch_no (E : Nat → Addr) (mm : Nat) (av : Option Addr) (k : Int) (c : Nat) (w : World) (hn0 : (decide (0 ≤ k ∧ k ≤ 9)) = false) (hmm : mm < 2 ^ 64) (hav : Arr w 1 av 1 c (flat fI ([k] : List Int))) (hG : Errs [0, 3, 4] w 185 E) :
    Calls Tryd.prog 79 #[.int .u64 ((mm : Nat) : Int), .func (.func 81) #[] #[], .slice av 1 c] w (Ret fun v w' => v = .tuple #[.int .u64 0, .iface 185 (.pointer (some (E 4)))] ∧ Keep Nn w w') := by
  refine sxenter (n := 22) (args := [.int .u64 ((mm : Nat) : Int), .func (.func 81) #[] #[], .slice av 1 c]) Tryd.func79 rfl rfl rfl fun a hf => ?_
  replace hf : Fr 22 [(0, .val (.int .u64 ((mm : Nat) : Int))), (1, .val (.func (.func 81) #[] #[])), (2, .val (.slice av 1 c))] a := hf
  have hM : MemOk [] w := MemOk.nil w
  have hk0 : Keep Nn w w := Keep.refl _ _
  refine wp_seq_k (fun K1 hK1 => ?_)
  refine wp_region_lit ?_
  refine sr0 hf hM [0, 1, 2] [{}, {}] (env' := [(0, .val (.int .u64 ((mm : Nat) : Int))), (1, .val (.func (.func 81) #[] #[])), (2, .val (.slice av 1 c))]) (ob := []) (fun B => by as_aux_lemma => kernel_rfl) rfl An ?_
  clear hf; intro a hf
  refine wpList_nil ?_
  refine hK1 _ _ ?_
  refine wp_seq_k (fun K2 hK2 => ?_)
  refine wp_region_lit ?_
  refine sr0 hf hM [11, 0, 1] [{}] (env' := [(11, .val (.slice av 1 c)), (0, .val (.int .u64 ((mm : Nat) : Int))), (1, .val (.func (.func 81) #[] #[]))]) (ob := []) (fun B => by as_aux_lemma => kernel_rfl) rfl An ?_
  clear hf; intro a hf
  refine sxcall hf rfl rfl rfl rfl (g := 53) (vs := [.slice av 1 c]) (ob := []) (by as_aux_lemma => kernel_rfl) An enters53 (of1_no E av k c w hn0 (hav.keepNn hk0) (hG.keep hk0 (fun _ h => h))) ?_
  clear hf; rintro _ w1 a ⟨rfl, hk⟩ hf
  have hM := hM.keepNn hk
  have hk0 := hk0.trans hk.nn
  clear hk
  refine sr0 hf hM [9, 8, 0, 1] [{}, {}, {}, {}, {}] (env' := [(9, .val (.iface 185 (.pointer (some (E 4))))), (8, .val (.int .u64 0)), (0, .val (.int .u64 ((mm : Nat) : Int))), (1, .val (.func (.func 81) #[] #[]))]) (ob := []) (fun B => by as_aux_lemma => kernel_rfl) rfl An ?_
  clear hf; intro a hf
  refine wpList_nil ?_
  refine hK2 _ _ ?_
  refine wp_seq_k (fun K3 hK3 => ?_)
  refine wp_seq_k (fun K4 hK4 => ?_)
  refine wp_region_lit ?_
  refine sr0 hf hM [16, 9, 8, 0, 1] [{}, {}] (env' := [(16, .val (.bool true)), (9, .val (.iface 185 (.pointer (some (E 4))))), (8, .val (.int .u64 0)), (0, .val (.int .u64 ((mm : Nat) : Int))), (1, .val (.func (.func 81) #[] #[]))]) (ob := []) (fun B => by as_aux_lemma => kernel_rfl) rfl An ?_
  clear hf; intro a hf
  refine wpList_nil ?_
  refine hK4 _ _ ?_
  refine sxcond hf (b := true) (by kernel_rfl) (fun _ => ?_) (fun h => by cases h)
  refine wp_seq_k (fun K5 hK5 => ?_)
  refine wp_region_lit ?_
  refine sr0 hf hM [7, 6] [{}, {}, {}] (env' := [(7, .val (.iface 185 (.pointer (some (E 4))))), (6, .val (.int .u64 0))]) (ob := []) (fun B => by as_aux_lemma => kernel_rfl) rfl An ?_
  clear hf; intro a hf
  refine wpList_nil ?_
  refine hK5 _ _ ?_
  refine wp_ret ?_
  refine sxret (fn := Tryd.f79) hf hM [] (l := [.int .u64 0, .iface 185 (.pointer (some (E 4)))]) (M' := []) (d' := false) (ob := []) (by kernel_rfl) (fun B => ⟨B, by as_aux_lemma => kernel_rfl⟩) rfl An ?_
  show (.tuple #[.int .u64 0, .iface 185 (.pointer (some (E 4)))] : Value) = .tuple #[.int .u64 0, .iface 185 (.pointer (some (E 4)))] ∧ Keep Nn w w1
  exact ⟨rfl, hk0⟩

set_option maxRecDepth 10000 in
set_option maxHeartbeats 4000000 in
theorem mless_no (E : Nat → Addr) (mm : Nat) (av : Option Addr) (k : Int) (c : Nat) (w : World) (hn0 : (decide (0 ≤ k ∧ k ≤ 9)) = false) (hmm : mm < 2 ^ 64) (hav : Arr w 1 av 1 c (flat fI ([k] : List Int))) (hG : Errs [0, 3, 4] w 185 E) :
    Calls Tryd.prog 51 #[.int .u64 ((mm : Nat) : Int), .slice av 1 c] w (Ret fun v w' => v = .tuple #[.int .u64 0, .iface 185 (.pointer (some (E 4)))] ∧ Keep Nn w w') := by
  refine sxenter (n := 11) (args := [.int .u64 ((mm : Nat) : Int), .slice av 1 c]) Tryd.func51 rfl rfl rfl fun a hf => ?_
  replace hf : Fr 11 [(0, .val (.int .u64 ((mm : Nat) : Int))), (1, .val (.slice av 1 c))] a := hf
  have hM : MemOk [] w := MemOk.nil w
  have hk0 : Keep Nn w w := Keep.refl _ _
  refine wp_seq_k (fun K1 hK1 => ?_)
  refine wp_region_lit ?_
  refine sr0 hf hM [0, 1] [{}, {}] (env' := [(0, .val (.int .u64 ((mm : Nat) : Int))), (1, .val (.slice av 1 c))]) (ob := []) (fun B => by as_aux_lemma => kernel_rfl) rfl An ?_
  clear hf; intro a hf
  refine wpList_nil ?_
  refine hK1 _ _ ?_
  refine wp_seq_k (fun K2 hK2 => ?_)
  refine wp_region_lit ?_
  refine sr0 hf hM [7, 6] [{}, {}] (env' := [(7, .val (.slice av 1 c)), (6, .val (.int .u64 ((mm : Nat) : Int)))]) (ob := []) (fun B => by as_aux_lemma => kernel_rfl) rfl An ?_
  clear hf; intro a hf
  refine sxcall hf rfl rfl rfl rfl (g := 79) (vs := [.int .u64 ((mm : Nat) : Int), .func (.func 81) #[] #[], .slice av 1 c]) (ob := []) (by as_aux_lemma => kernel_rfl) An enters79 (mless_ch_no E mm av k c w hn0 (by first | assumption | exact bitN_lt' (by assumption) | omega) (hav.keepNn hk0) (hG.keep hk0 (fun _ h => h))) ?_
  clear hf; rintro _ w1 a ⟨rfl, hk⟩ hf
  have hM := hM.keepNn hk
  have hk0 := hk0.trans hk.nn
  clear hk
  refine sr0 hf hM [5, 4] [{}, {}, {}, {}] (env' := [(5, .val (.iface 185 (.pointer (some (E 4))))), (4, .val (.int .u64 0))]) (ob := []) (fun B => by as_aux_lemma => kernel_rfl) rfl An ?_
  clear hf; intro a hf
  refine wpList_nil ?_
  refine hK2 _ _ ?_
  refine wp_ret ?_
  refine sxret (fn := Tryd.f51) hf hM [] (l := [.int .u64 0, .iface 185 (.pointer (some (E 4)))]) (M' := []) (d' := false) (ob := []) (by kernel_rfl) (fun B => ⟨B, by as_aux_lemma => kernel_rfl⟩) rfl An ?_
  show (.tuple #[.int .u64 0, .iface 185 (.pointer (some (E 4)))] : Value) = .tuple #[.int .u64 0, .iface 185 (.pointer (some (E 4)))] ∧ Keep Nn w w1
  exact ⟨rfl, hk0⟩

set_option maxRecDepth 10000 in
set_option maxHeartbeats 4000000 in
theorem smask (E : Nat → Addr) (av : Option Addr) (l : List V3) (c : Nat) (w : World) (hav : Arr w 3 av l.length c (flat fV l)) (hbav : l.length ≤ 1000000) (hkd : ∀ v ∈ l, 0 ≤ v.k ∧ v.k ≤ 9) (hG : Errs [0, 3, 4] w 185 E) :
    Calls Tryd.prog 45 #[.slice av l.length c] w (Ret fun v w' => v = .int .u64 (((maskN l) : Nat) : Int) ∧ Keep Nn w w') := by
  refine sxenter (n := 27) (args := [.slice av l.length c]) Tryd.func45 rfl rfl rfl fun a hf => ?_
  replace hf : Fr 27 [(0, .val (.slice av l.length c))] a := hf
  have hM : MemOk [] w := MemOk.nil w
  have hk0 : Keep Nn w w := Keep.refl _ _
  refine wp_seq_k (fun K1 hK1 => ?_)
  refine wp_region_lit ?_
  refine sr0 hf hM [0] [{}] (env' := [(0, .val (.slice av l.length c))]) (ob := []) (fun B => by as_aux_lemma => kernel_rfl) rfl An ?_
  clear hf; intro a hf
  refine wpList_nil ?_
  refine hK1 _ _ ?_
  refine wp_seq_k (fun K2 hK2 => ?_)
  refine wp_region_lit ?_
  refine sr0 hf hM [3, 0] [{}] (env' := [(3, .val (.int .u64 0)), (0, .val (.slice av l.length c))]) (ob := []) (fun B => by as_aux_lemma => kernel_rfl) rfl An ?_
  clear hf; intro a hf
  refine wpList_nil ?_
  refine hK2 _ _ ?_
  refine wp_seq_k (fun K3 hK3 => ?_)
  refine wp_seq_k (fun K4 hK4 => ?_)
  refine wp_region_lit ?_
  refine sr0 hf hM [10, 9, 8, 3] [{}, {}, {}] (env' := [(10, .val (.int .i64 0)), (9, .val (.int .i64 (l.length : Int))), (8, .val (.slice av l.length c)), (3, .val (.int .u64 0))]) (ob := []) (fun B => by as_aux_lemma => kernel_rfl) rfl An ?_
  clear hf; intro a hf
  refine wpList_nil ?_
  refine hK4 _ _ ?_
  refine wp_block ?_
  have hf := hf.prune [3, 8, 9, 10]
  replace hf : Fr 27 [(3, .val (.int .u64 0)), (8, .val (.slice av l.length c)), (9, .val (.int .i64 (l.length : Int))), (10, .val (.int .i64 0))] a := hf
  refine sxloop (fun zm a w1 => ∃ (i : Int), zm = ((l.length : Int) - i).toNat ∧ Fr 27 [(3, .val (.int .u64 (((maskN (l.take i.toNat)) : Nat) : Int))), (8, .val (.slice av l.length c)), (9, .val (.int .i64 (l.length : Int))), (10, .val (.int .i64 i))] a ∧ MemOk [] w1 ∧ Keep Nn w w1 ∧ (0 ≤ i ∧ i ≤ (l.length : Int))) _ ⟨0, rfl, hf.conv (Ac (congrArg (Value.int .u64) (by simp [maskN])) (Ac rfl (Ac rfl (Ao rfl)))), hM, hk0, (by omega)⟩ ?_
  clear hf hM hk0
  rintro _ a w1 ⟨i, rfl, hf, hM, hk0, hi⟩ L1 hL1
  have hml := maskN_lt64 (kinds_take hkd i.toNat)
  refine wp_seq_k (fun K5 hK5 => ?_)
  refine wp_region_lit ?_
  refine sr0 hf hM [11, 3, 8, 9, 10] [{}] (env' := [(11, .val (.bool (decide ((i : Int) < (l.length : Int))))), (3, .val (.int .u64 (((maskN (l.take i.toNat)) : Nat) : Int))), (8, .val (.slice av l.length c)), (9, .val (.int .i64 (l.length : Int))), (10, .val (.int .i64 i))]) (ob := []) (fun B => by as_aux_lemma => kernel_rfl) rfl An ?_
  clear hf; intro a hf
  refine wpList_nil ?_
  refine hK5 _ _ ?_
  refine wp_seq_k (fun K6 hK6 => ?_)
  refine sxcond hf (b := (decide ((i : Int) < (l.length : Int)))) (by kernel_rfl) (fun hc1 => ?_) (fun hc1 => ?_)
  · have hc1r := hc1
    try simp only [Bool.or_eq_true, Bool.and_eq_true, Bool.not_eq_true', Bool.not_eq_false', Bool.or_eq_false_iff, Bool.and_eq_false_iff, decide_eq_true_eq, decide_eq_false_iff_not, beq_iff_eq, bne_iff_ne, beq_eq_false_iff_ne, bne_eq_false_iff_eq, Bool.and_true, Bool.true_and, ne_eq] at hc1
    have hka := kinds_at hkd (i := i) ⟨by omega, by omega⟩
    have hkl : decide (0 ≤ (l.getD i.toNat ⟨0, 0, 0⟩).k ∧ (l.getD i.toNat ⟨0, 0, 0⟩).k ≤ 9) = true := decide_eq_true hka
    refine wp_skip ?_
    refine hK6 _ _ ?_
    refine wp_seq_k (fun K7 hK7 => ?_)
    refine wp_block ?_
    refine wp_seq_k (fun K8 hK8 => ?_)
    refine wp_region_lit ?_
    refine sr hf hM [5, 3, 8, 9, 10] [{ sp := true }, { os := [.ex (.int .i64 (l.getD i.toNat ⟨0, 0, 0⟩).k), .ex (.int .i64 (l.getD i.toNat ⟨0, 0, 0⟩).a), .ex (.int .i64 (l.getD i.toNat ⟨0, 0, 0⟩).b)] }, { os := [.nw] }, { os := [.st 0 0, .st 0 1, .st 0 2] }] (env' := fun B5 => [(5, .val (.pointer (some ⟨B5, 0, none⟩))), (3, .val (.int .u64 (((maskN (l.take i.toNat)) : Nat) : Int))), (8, .val (.slice av l.length c)), (9, .val (.int .i64 (l.length : Int))), (10, .val (.int .i64 i))]) (M' := fun B5 => [⟨B5, 62, [.int .i64 (l.getD i.toNat ⟨0, 0, 0⟩).k, .int .i64 (l.getD i.toNat ⟨0, 0, 0⟩).a, .int .i64 (l.getD i.toNat ⟨0, 0, 0⟩).b]⟩]) (ob := fun B5 => [(0 : Int) ≤ i ∧ i < (l.length : Int), (av : Option Addr).isSome = true, w1.cell? (((sa av : Addr).add (i.toNat * 3)).add 0) = some (.int .i64 (l.getD i.toNat ⟨0, 0, 0⟩).k), w1.cell? (((sa av : Addr).add (i.toNat * 3)).add 1) = some (.int .i64 (l.getD i.toNat ⟨0, 0, 0⟩).a), w1.cell? (((sa av : Addr).add (i.toNat * 3)).add 2) = some (.int .i64 (l.getD i.toNat ⟨0, 0, 0⟩).b), Ad B5 0, Ad B5 1, Ad B5 2]) (fun B => by as_aux_lemma => kernel_rfl) (fun B5 => (Ac (by first | omega | (simp; done)) (Ac ((hav.keepNn hk0).some_ (by first | omega | (simp; done))) (Ac ((hav.keepNn hk0).get (fun _ => rfl) (by first | omega | (simp; done)) rfl) (Ac ((hav.keepNn hk0).get (fun _ => rfl) (by first | omega | (simp; done)) rfl) (Ac ((hav.keepNn hk0).get (fun _ => rfl) (by first | omega | (simp; done)) rfl) (Ac (ad _ _) (Ac (ad _ _) (Ao (ad _ _)))))))))) ?_
    clear hf hM; intro a w2 B5 hf hM hB hk
    have hbB5 : w.heap.size ≤ B5 := by have := hk0.size; omega
    have hk0 := hk0.then hk (by intro i _ h; cases h)
    clear hk hB
    refine wpList_nil ?_
    refine hK8 _ _ ?_
    refine wp_seq_k (fun K9 hK9 => ?_)
    refine wp_region_lit ?_
    refine sr0 hf hM [17, 15, 3, 8, 9, 10] [{}, {}, { os := [.ld 0 0] }] (env' := [(17, .val (.int .i64 (l.getD i.toNat ⟨0, 0, 0⟩).k)), (15, .val (.int .u64 (((maskN (l.take i.toNat)) : Nat) : Int))), (3, .val (.int .u64 (((maskN (l.take i.toNat)) : Nat) : Int))), (8, .val (.slice av l.length c)), (9, .val (.int .i64 (l.length : Int))), (10, .val (.int .i64 i))]) (ob := [Ad B5 0]) (fun B => by as_aux_lemma => kernel_rfl) rfl (Ao (ad _ _)) ?_
    clear hf; intro a hf
    refine sxbslice hf hM (t := 22) (e := 3) (len := 1) (cs := [.int .i64 (l.getD i.toNat ⟨0, 0, 0⟩).k]) (ob := []) rfl rfl rfl rfl (by as_aux_lemma => kernel_rfl) An (by as_aux_lemma => kernel_rfl) ?_
    clear hf hM; intro a w3 B7 hf hM hB hk
    replace hM : MemOk [⟨B5, 62, [.int .i64 (l.getD i.toNat ⟨0, 0, 0⟩).k, .int .i64 (l.getD i.toNat ⟨0, 0, 0⟩).a, .int .i64 (l.getD i.toNat ⟨0, 0, 0⟩).b]⟩, ⟨B7, 3, [.int .i64 (l.getD i.toNat ⟨0, 0, 0⟩).k]⟩] w3 := hM
    have hbB7 : w.heap.size ≤ B7 := by have := hk0.size; omega
    have hk0 := hk0.trans hk.nn
    clear hk hB
    refine sxcall hf rfl rfl rfl rfl (g := 50) (vs := [.int .u64 (((maskN (l.take i.toNat)) : Nat) : Int), .slice (some ⟨B7, 0, none⟩) 1 1]) (ob := []) (by as_aux_lemma => kernel_rfl) An enters50 (mwith_ok E (maskN (l.take i.toNat)) (some ⟨B7, 0, none⟩) (l.getD i.toNat ⟨0, 0, 0⟩).k 1 w3 hkl (by first | assumption | exact bitN_lt' (by assumption) | omega) (Arr.of_memT (sz := 1) (f := fI) (L := ([(l.getD i.toNat ⟨0, 0, 0⟩).k] : List Int)) (l := ([(l.getD i.toNat ⟨0, 0, 0⟩).k] : List Int)) hM (List.Mem.tail _ (List.Mem.head _)) (fun _ => rfl) rfl rfl) (hG.keep hk0 (fun _ h => h))) ?_
    clear hf; rintro _ w4 a ⟨rfl, hk⟩ hf
    have hM := hM.keepNn hk
    have hk0 := hk0.trans hk.nn
    clear hk
    refine sr0 hf hM [7, 6, 3, 8, 9, 10] [{}, {}, {}, {}, {}] (env' := [(7, .val (.nilIface)), (6, .val (.int .u64 ((((maskN (l.take i.toNat)) ||| bitN (l.getD i.toNat ⟨0, 0, 0⟩).k) : Nat) : Int))), (3, .val (.int .u64 (((maskN (l.take i.toNat)) : Nat) : Int))), (8, .val (.slice av l.length c)), (9, .val (.int .i64 (l.length : Int))), (10, .val (.int .i64 i))]) (ob := []) (fun B => by as_aux_lemma => kernel_rfl) rfl An ?_
    clear hf; intro a hf
    refine wpList_nil ?_
    refine hK9 _ _ ?_
    refine wp_seq_k (fun K10 hK10 => ?_)
    refine wp_region_lit ?_
    refine sr0 hf hM [23, 6, 3, 8, 9, 10] [{}, {}] (env' := [(23, .val (.bool true)), (6, .val (.int .u64 ((((maskN (l.take i.toNat)) ||| bitN (l.getD i.toNat ⟨0, 0, 0⟩).k) : Nat) : Int))), (3, .val (.int .u64 (((maskN (l.take i.toNat)) : Nat) : Int))), (8, .val (.slice av l.length c)), (9, .val (.int .i64 (l.length : Int))), (10, .val (.int .i64 i))]) (ob := []) (fun B => by as_aux_lemma => kernel_rfl) rfl An ?_
    clear hf; intro a hf
    refine wpList_nil ?_
    refine hK10 _ _ ?_
    refine sxcond hf (b := true) (by kernel_rfl) (fun _ => ?_) (fun h => by cases h)
    refine wp_region_lit ?_
    refine sr0 hf hM [3, 8, 9, 10] [{}, {}] (env' := [(3, .val (.int .u64 ((((maskN (l.take i.toNat)) ||| bitN (l.getD i.toNat ⟨0, 0, 0⟩).k) : Nat) : Int))), (8, .val (.slice av l.length c)), (9, .val (.int .i64 (l.length : Int))), (10, .val (.int .i64 i))]) (ob := []) (fun B => by as_aux_lemma => kernel_rfl) rfl An ?_
    clear hf; intro a hf
    refine wpList_nil ?_
    refine hK7 _ _ ?_
    refine wp_region_lit ?_
    refine sr0 hf hM [10, 3, 8, 9] [{ hint := some (.int .i64 (i + 1)) }, {}] (env' := [(10, .val (.int .i64 (i + 1))), (3, .val (.int .u64 ((((maskN (l.take i.toNat)) ||| bitN (l.getD i.toNat ⟨0, 0, 0⟩).k) : Nat) : Int))), (8, .val (.slice av l.length c)), (9, .val (.int .i64 (l.length : Int)))]) (ob := [(.int .i64 (IntKind.i64.wrap (i + 1)) : Value) = (.int .i64 (i + 1) : Value)]) (fun B => by as_aux_lemma => kernel_rfl) rfl (Ao (wr (by omega))) ?_
    clear hf; intro a hf
    refine wpList_nil ?_
    have hf := hf.prune [3, 8, 9, 10]
    replace hf : Fr 27 [(3, .val (.int .u64 ((((maskN (l.take i.toNat)) ||| bitN (l.getD i.toNat ⟨0, 0, 0⟩).k) : Nat) : Int))), (8, .val (.slice av l.length c)), (9, .val (.int .i64 (l.length : Int))), (10, .val (.int .i64 (i + 1)))] a := hf
    replace hM : MemOk [] w4 := hM.sub (.cons _ (.cons _ .slnil))
    refine hL1 _ _ _ (by omega) ⟨i + 1, rfl, hf.conv (Ac (by rw [maskN_next ⟨by omega, by omega⟩]; rfl) (Ac rfl (Ac rfl (Ao rfl)))), hM, hk0, (by omega)⟩
  · have hc1r := hc1
    try simp only [Bool.or_eq_true, Bool.and_eq_true, Bool.not_eq_true', Bool.not_eq_false', Bool.or_eq_false_iff, Bool.and_eq_false_iff, decide_eq_true_eq, decide_eq_false_iff_not, beq_iff_eq, bne_iff_ne, beq_eq_false_iff_ne, bne_eq_false_iff_eq, Bool.and_true, Bool.true_and, ne_eq] at hc1
    refine wp_exit ?_
    refine hK3 _ _ ?_
    refine wp_seq_k (fun K11 hK11 => ?_)
    refine wp_region_lit ?_
    refine sr0 hf hM [2] [{}, {}] (env' := [(2, .val (.int .u64 (((maskN (l.take i.toNat)) : Nat) : Int)))]) (ob := []) (fun B => by as_aux_lemma => kernel_rfl) rfl An ?_
    clear hf; intro a hf
    refine wpList_nil ?_
    refine hK11 _ _ ?_
    refine wp_ret ?_
    refine sxret (fn := Tryd.f45) hf hM [] (l := [.int .u64 (((maskN (l.take i.toNat)) : Nat) : Int)]) (M' := []) (d' := false) (ob := []) (by kernel_rfl) (fun B => ⟨B, by as_aux_lemma => kernel_rfl⟩) rfl An ?_
    show (.int .u64 (((maskN (l.take i.toNat)) : Nat) : Int) : Value) = .int .u64 (((maskN l) : Nat) : Int) ∧ Keep Nn w w1
    refine ⟨?_, hk0⟩
    rw [List.take_of_length_le (by omega)]

set_option maxRecDepth 10000 in
set_option maxHeartbeats 4000000 in
theorem rmask (av : Option Addr) (l : List V3) (c : Nat) (w : World) (hav : Arr w 3 av l.length c (flat fV l)) (hbav : l.length ≤ 1000000) (hkd : ∀ v ∈ l, 0 ≤ v.k ∧ v.k ≤ 9) :
    Calls Tryd.prog 46 #[.slice av l.length c] w (Ret fun v w' => v = .int .u64 (((maskN l) : Nat) : Int) ∧ Keep Nn w w') := by
  refine sxenter (n := 19) (args := [.slice av l.length c]) Tryd.func46 rfl rfl rfl fun a hf => ?_
  replace hf : Fr 19 [(0, .val (.slice av l.length c))] a := hf
  have hM : MemOk [] w := MemOk.nil w
  have hk0 : Keep Nn w w := Keep.refl _ _
  refine wp_seq_k (fun K1 hK1 => ?_)
  refine wp_region_lit ?_
  refine sr0 hf hM [0] [{}] (env' := [(0, .val (.slice av l.length c))]) (ob := []) (fun B => by as_aux_lemma => kernel_rfl) rfl An ?_
  clear hf; intro a hf
  refine wpList_nil ?_
  refine hK1 _ _ ?_
  refine wp_seq_k (fun K2 hK2 => ?_)
  refine wp_region_lit ?_
  refine sr0 hf hM [3, 0] [{}] (env' := [(3, .val (.int .u64 0)), (0, .val (.slice av l.length c))]) (ob := []) (fun B => by as_aux_lemma => kernel_rfl) rfl An ?_
  clear hf; intro a hf
  refine wpList_nil ?_
  refine hK2 _ _ ?_
  refine wp_seq_k (fun K3 hK3 => ?_)
  refine wp_seq_k (fun K4 hK4 => ?_)
  refine wp_region_lit ?_
  refine sr0 hf hM [8, 7, 6, 3] [{}, {}, {}] (env' := [(8, .val (.int .i64 0)), (7, .val (.int .i64 (l.length : Int))), (6, .val (.slice av l.length c)), (3, .val (.int .u64 0))]) (ob := []) (fun B => by as_aux_lemma => kernel_rfl) rfl An ?_
  clear hf; intro a hf
  refine wpList_nil ?_
  refine hK4 _ _ ?_
  refine wp_block ?_
  have hf := hf.prune [3, 6, 7, 8]
  replace hf : Fr 19 [(3, .val (.int .u64 0)), (6, .val (.slice av l.length c)), (7, .val (.int .i64 (l.length : Int))), (8, .val (.int .i64 0))] a := hf
  refine sxloop (fun zm a w1 => ∃ (i : Int), zm = ((l.length : Int) - i).toNat ∧ Fr 19 [(3, .val (.int .u64 (((maskN (l.take i.toNat)) : Nat) : Int))), (6, .val (.slice av l.length c)), (7, .val (.int .i64 (l.length : Int))), (8, .val (.int .i64 i))] a ∧ MemOk [] w1 ∧ Keep Nn w w1 ∧ (0 ≤ i ∧ i ≤ (l.length : Int))) _ ⟨0, rfl, hf.conv (Ac (congrArg (Value.int .u64) (by simp [maskN])) (Ac rfl (Ac rfl (Ao rfl)))), hM, hk0, (by omega)⟩ ?_
  clear hf hM hk0
  rintro _ a w1 ⟨i, rfl, hf, hM, hk0, hi⟩ L1 hL1
  have hml := maskN_lt64 (kinds_take hkd i.toNat)
  refine wp_seq_k (fun K5 hK5 => ?_)
  refine wp_region_lit ?_
  refine sr0 hf hM [9, 3, 6, 7, 8] [{}] (env' := [(9, .val (.bool (decide ((i : Int) < (l.length : Int))))), (3, .val (.int .u64 (((maskN (l.take i.toNat)) : Nat) : Int))), (6, .val (.slice av l.length c)), (7, .val (.int .i64 (l.length : Int))), (8, .val (.int .i64 i))]) (ob := []) (fun B => by as_aux_lemma => kernel_rfl) rfl An ?_
  clear hf; intro a hf
  refine wpList_nil ?_
  refine hK5 _ _ ?_
  refine wp_seq_k (fun K6 hK6 => ?_)
  refine sxcond hf (b := (decide ((i : Int) < (l.length : Int)))) (by kernel_rfl) (fun hc1 => ?_) (fun hc1 => ?_)
  · have hc1r := hc1
    try simp only [Bool.or_eq_true, Bool.and_eq_true, Bool.not_eq_true', Bool.not_eq_false', Bool.or_eq_false_iff, Bool.and_eq_false_iff, decide_eq_true_eq, decide_eq_false_iff_not, beq_iff_eq, bne_iff_ne, beq_eq_false_iff_ne, bne_eq_false_iff_eq, Bool.and_true, Bool.true_and, ne_eq] at hc1
    refine wp_skip ?_
    refine hK6 _ _ ?_
    refine wp_seq_k (fun K7 hK7 => ?_)
    refine wp_block ?_
    refine wp_seq_k (fun K8 hK8 => ?_)
    refine wp_region_lit ?_
    refine sr hf hM [5, 3, 6, 7, 8] [{ sp := true }, { os := [.ex (.int .i64 (l.getD i.toNat ⟨0, 0, 0⟩).k), .ex (.int .i64 (l.getD i.toNat ⟨0, 0, 0⟩).a), .ex (.int .i64 (l.getD i.toNat ⟨0, 0, 0⟩).b)] }, { os := [.nw] }, { os := [.st 0 0, .st 0 1, .st 0 2] }] (env' := fun B5 => [(5, .val (.pointer (some ⟨B5, 0, none⟩))), (3, .val (.int .u64 (((maskN (l.take i.toNat)) : Nat) : Int))), (6, .val (.slice av l.length c)), (7, .val (.int .i64 (l.length : Int))), (8, .val (.int .i64 i))]) (M' := fun B5 => [⟨B5, 62, [.int .i64 (l.getD i.toNat ⟨0, 0, 0⟩).k, .int .i64 (l.getD i.toNat ⟨0, 0, 0⟩).a, .int .i64 (l.getD i.toNat ⟨0, 0, 0⟩).b]⟩]) (ob := fun B5 => [(0 : Int) ≤ i ∧ i < (l.length : Int), (av : Option Addr).isSome = true, w1.cell? (((sa av : Addr).add (i.toNat * 3)).add 0) = some (.int .i64 (l.getD i.toNat ⟨0, 0, 0⟩).k), w1.cell? (((sa av : Addr).add (i.toNat * 3)).add 1) = some (.int .i64 (l.getD i.toNat ⟨0, 0, 0⟩).a), w1.cell? (((sa av : Addr).add (i.toNat * 3)).add 2) = some (.int .i64 (l.getD i.toNat ⟨0, 0, 0⟩).b), Ad B5 0, Ad B5 1, Ad B5 2]) (fun B => by as_aux_lemma => kernel_rfl) (fun B5 => (Ac (by first | omega | (simp; done)) (Ac ((hav.keepNn hk0).some_ (by first | omega | (simp; done))) (Ac ((hav.keepNn hk0).get (fun _ => rfl) (by first | omega | (simp; done)) rfl) (Ac ((hav.keepNn hk0).get (fun _ => rfl) (by first | omega | (simp; done)) rfl) (Ac ((hav.keepNn hk0).get (fun _ => rfl) (by first | omega | (simp; done)) rfl) (Ac (ad _ _) (Ac (ad _ _) (Ao (ad _ _)))))))))) ?_
    clear hf hM; intro a w2 B5 hf hM hB hk
    have hbB5 : w.heap.size ≤ B5 := by have := hk0.size; omega
    have hk0 := hk0.then hk (by intro i _ h; cases h)
    clear hk hB
    refine wpList_nil ?_
    refine hK8 _ _ ?_
    refine wp_region_lit ?_
    refine sr0 hf hM [3, 6, 7, 8] [{}, {}, { os := [.ld 0 0] }, { sp := true, hint := some (.int .u64 (((bitN (l.getD i.toNat ⟨0, 0, 0⟩).k) : Nat) : Int)) }, { hint := some (.int .u64 (((maskN (l.take i.toNat) ||| bitN (l.getD i.toNat ⟨0, 0, 0⟩).k) : Nat) : Int)) }, {}] (env' := [(3, .val (.int .u64 (((maskN (l.take i.toNat) ||| bitN (l.getD i.toNat ⟨0, 0, 0⟩).k) : Nat) : Int))), (6, .val (.slice av l.length c)), (7, .val (.int .i64 (l.length : Int))), (8, .val (.int .i64 i))]) (ob := [Ad B5 0, 0 ≤ ((l.getD i.toNat ⟨0, 0, 0⟩).k : Int), (.int .u64 (IntKind.u64.wrap (1 * 2 ^ (min ((l.getD i.toNat ⟨0, 0, 0⟩).k : Int).toNat IntKind.u64.bits))) : Value) = (.int .u64 (((bitN (l.getD i.toNat ⟨0, 0, 0⟩).k) : Nat) : Int) : Value), (.int .u64 (IntKind.u64.wrap ((BitVec.ofInt IntKind.u64.bits (((maskN (l.take i.toNat)) : Nat) : Int) ||| (BitVec.ofInt IntKind.u64.bits (((bitN (l.getD i.toNat ⟨0, 0, 0⟩).k) : Nat) : Int)) : BitVec IntKind.u64.bits).toNat : Int)) : Value) = (.int .u64 (((maskN (l.take i.toNat) ||| bitN (l.getD i.toNat ⟨0, 0, 0⟩).k) : Nat) : Int) : Value)]) (fun B => by as_aux_lemma => kernel_rfl) rfl (Ac (ad _ _) (Ac ((kinds_at hkd ⟨by omega, by omega⟩).1) (Ac (shl_bit (kinds_at hkd ⟨by omega, by omega⟩)) (Ao (or_u64 hml (bitN_lt' (kinds_at hkd ⟨by omega, by omega⟩))))))) ?_
    clear hf; intro a hf
    refine wpList_nil ?_
    refine hK7 _ _ ?_
    refine wp_region_lit ?_
    refine sr0 hf hM [8, 3, 6, 7] [{ hint := some (.int .i64 (i + 1)) }, {}] (env' := [(8, .val (.int .i64 (i + 1))), (3, .val (.int .u64 (((maskN (l.take i.toNat) ||| bitN (l.getD i.toNat ⟨0, 0, 0⟩).k) : Nat) : Int))), (6, .val (.slice av l.length c)), (7, .val (.int .i64 (l.length : Int)))]) (ob := [(.int .i64 (IntKind.i64.wrap (i + 1)) : Value) = (.int .i64 (i + 1) : Value)]) (fun B => by as_aux_lemma => kernel_rfl) rfl (Ao (wr (by omega))) ?_
    clear hf; intro a hf
    refine wpList_nil ?_
    have hf := hf.prune [3, 6, 7, 8]
    replace hf : Fr 19 [(3, .val (.int .u64 (((maskN (l.take i.toNat) ||| bitN (l.getD i.toNat ⟨0, 0, 0⟩).k) : Nat) : Int))), (6, .val (.slice av l.length c)), (7, .val (.int .i64 (l.length : Int))), (8, .val (.int .i64 (i + 1)))] a := hf
    replace hM : MemOk [] w2 := hM.sub (.cons _ .slnil)
    refine hL1 _ _ _ (by omega) ⟨i + 1, rfl, hf.conv (Ac (by rw [maskN_next ⟨by omega, by omega⟩]; rfl) (Ac rfl (Ac rfl (Ao rfl)))), hM, hk0, (by omega)⟩
  · have hc1r := hc1
    try simp only [Bool.or_eq_true, Bool.and_eq_true, Bool.not_eq_true', Bool.not_eq_false', Bool.or_eq_false_iff, Bool.and_eq_false_iff, decide_eq_true_eq, decide_eq_false_iff_not, beq_iff_eq, bne_iff_ne, beq_eq_false_iff_ne, bne_eq_false_iff_eq, Bool.and_true, Bool.true_and, ne_eq] at hc1
    refine wp_exit ?_
    refine hK3 _ _ ?_
    refine wp_seq_k (fun K9 hK9 => ?_)
    refine wp_region_lit ?_
    refine sr0 hf hM [2] [{}, {}] (env' := [(2, .val (.int .u64 (((maskN (l.take i.toNat)) : Nat) : Int)))]) (ob := []) (fun B => by as_aux_lemma => kernel_rfl) rfl An ?_
    clear hf; intro a hf
    refine wpList_nil ?_
    refine hK9 _ _ ?_
    refine wp_ret ?_
    refine sxret (fn := Tryd.f46) hf hM [] (l := [.int .u64 (((maskN (l.take i.toNat)) : Nat) : Int)]) (M' := []) (d' := false) (ob := []) (by kernel_rfl) (fun B => ⟨B, by as_aux_lemma => kernel_rfl⟩) rfl An ?_
    show (.int .u64 (((maskN (l.take i.toNat)) : Nat) : Int) : Value) = .int .u64 (((maskN l) : Nat) : Int) ∧ Keep Nn w w1
    refine ⟨?_, hk0⟩
    rw [List.take_of_length_le (by omega)]
end Go.Proofs.YtifcgjnknikjkaaDoor
