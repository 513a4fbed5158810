/- layer 6: components, rows, masks -/
import Derived.Test.YtkcpadkllhgmdaaDoorQ0
import Derived.Test.YtkcpadkllhgmdaaDoorXp6d
import Derived.Test.YtkcpadkllhgmdaaDoorXp6e
namespace Go.Proofs.YtkcpadkllhgmdaaDoor
open Go.Px
set_option linter.unusedVariables false
set_option linter.unusedSimpArgs false

set_option maxRecDepth 10000 in
set_option maxHeartbeats 1600000 in
theorem rin6 (n l m : Int) (w : World) :
    Calls Tryd.prog 55 #[iV n, iV l, iV m] w (Ret fun v w' => v = .bool (decide (l ≤ n) && decide (n ≤ m)) ∧ Keep Nn w w') := by
 refine sxenter (n := 15) (args := [iV n, iV l, iV m]) Tryd.func55 rfl rfl rfl fun a hf => ?_
 replace hf : Fr 15 [(0, eI n), (1, eI l), (2, eI m)] a := hf
 have hM : MemOk [] w := MemOk.nil w
 have hk0 : Keep Nn w w := Keep.refl _ _
 refine wp_seq_k (fun K1 hK1 => ?_)
 refine wp_region_lit ?_
 refine q0 hf hM [0, 1, 2] [{}] (nw := []) An ?_
 clear hf; intro a hf
 refine wpList_nil ?_
 refine hK1 _ _ ?_
 refine wp_seq_k (fun K2 hK2 => ?_)
 refine wp_region_lit ?_
 refine q0 hf hM [] [{}, {}, {}, {}, { g := .sym }, { g := .sym }, { g := .sym }, { hint := some (bV ((decide ((l : Int) ≤ n)) && (decide ((n : Int) ≤ m)))) }, {}] (nw := [(6, eB ((decide ((l : Int) ≤ n)) && (decide ((n : Int) ≤ m))))]) (ob := [((decide ((l : Int) ≤ n)) = true → (decide ((l : Int) ≤ n)) = (decide ((l : Int) ≤ n))), ((decide ((l : Int) ≤ n)) = true → (decide ((l : Int) ≤ n)) = (decide ((l : Int) ≤ n))), ((decide ((l : Int) ≤ n)) = true → (decide ((l : Int) ≤ n)) = (decide ((l : Int) ≤ n))), (bif (decide ((l : Int) ≤ n)) then (bV (decide ((n : Int) ≤ m)) : Value) else bV false) = .bool ((decide ((l : Int) ≤ n)) && (decide ((n : Int) ≤ m)))]) (Ac (fun hgd => rfl) (Ac (fun hgd => rfl) (Ac (fun _ => rfl) (Ao (pick_and _ _))))) ?_
 clear hf; intro a hf
 refine wpList_nil ?_
 refine hK2 _ _ ?_
 refine wp_ret ?_
 refine qr (fn := Tryd.f55) hf hM [] (l := [bV ((decide ((l : Int) ≤ n)) && (decide ((n : Int) ≤ m)))]) (ob := []) An ?_
 show (bV ((decide ((l : Int) ≤ n)) && (decide ((n : Int) ≤ m))) : Value) = .bool (decide (l ≤ n) && decide (n ≤ m)) ∧ Keep Nn w w
 exact ⟨rfl, hk0⟩

/-- The ranges of a kind's numbers. -/
def spanOf (k : Int) : (Int × Int) × (Int × Int) :=
  if k = 0 ∨ k = 2 then ((-1048576, 1048576), (-1048576, 1048576)) else if k = 1 then ((0, 1048576), (0, 1048576)) else if k = 3 then ((0, 0), (0, 0))
  else if k = 4 then ((0, 255), (0, 0)) else if k = 5 then ((0, 1048576), (0, 0)) else ((-4194304, 4194304), (-4194304, 4194304))
theorem vrange_span (k a b : Int) : vrange ⟨k, a, b⟩ = decide ((spanOf k).1.1 ≤ a ∧ a ≤ (spanOf k).1.2 ∧ (spanOf k).2.1 ≤ b ∧ b ≤ (spanOf k).2.2) := by
  unfold vrange spanOf
  repeat' split
  all_goals first | rfl | (rw [Bool.eq_iff_iff]; simp only [decide_eq_true_eq]; omega)

set_option maxRecDepth 10000 in
set_option maxHeartbeats 1600000 in
theorem rcheck (k x y : Int) (w : World) :
    Calls Tryd.prog 48 #[.agg #[iV k, iV x, iV y]] w (Ret fun v w' => v = .int .i64 (vcheck ⟨k, x, y⟩) ∧ Keep Nn w w') := by
 refine sxenter (n := 72) (args := [.agg #[iV k, iV x, iV y]]) Tryd.func48 rfl rfl rfl fun a hf => ?_
 replace hf : Fr 72 [(0, .val (.agg #[iV k, iV x, iV y]))] a := hf
 have hM : MemOk [] w := MemOk.nil w
 have hk0 : Keep Nn w w := Keep.refl _ _
 refine wp_seq_k (fun K1 hK1 => ?_)
 refine wp_region_lit ?_
 refine q1 hf hM [] [{ os := [.nw] }, {}] (nw := fun B1 => [(1, eP B1 0)]) (M' := fun B1 => [⟨B1, 59, [iV k, iV x, iV y]⟩]) (ob := fun B1 => []) (fun B1 => An) ?_
 clear hf hM; intro a w1 B1 hf hM hB hk
 have hbB1 : w.heap.size ≤ B1 := by have := hk0.size; omega
 have hk0 := hk0.then hk (by intro i _ h; cases h)
 clear hk hB
 refine wpList_nil ?_
 refine hK1 _ _ ?_
 refine wp_seq_k (fun K2 hK2 => ?_)
 refine wp_region_lit ?_
 refine q0 hf hM [1] [{}] (nw := []) An ?_
 clear hf; intro a hf
 refine wpList_nil ?_
 refine hK2 _ _ ?_
 refine wp_seq_k (fun K3 hK3 => ?_)
 refine wp_seq_k (fun K4 hK4 => ?_)
 refine wp_region_lit ?_
 refine q0 hf hM [1] [{}, { os := [.ld 0 0] }] (nw := [(5, eI k)]) (ob := [Ad B1 0]) (Ao (ad _ _)) ?_
 clear hf; intro a hf
 refine wpList_nil ?_
 refine hK4 _ _ ?_
 refine wp_block ?_
 refine wp_seq_k (fun K5 hK5 => ?_)
 refine wp_seq_k (fun K6 hK6 => ?_)
 refine wp_region_lit ?_
 refine q0 hf hM [5, 1] [{}, {}] (nw := [(6, eB ((k : Int) == 0))]) An ?_
 clear hf; intro a hf
 refine wpList_nil ?_
 refine hK6 _ _ ?_
 refine qc hf (b := ((k : Int) == 0)) (fun hc1r => ?_) (fun hc1r => ?_)
 · have hc1 := (nE hc1r)
   refine wp_skip ?_
   refine hK5 _ _ ?_
   refine sxcond hf (b := ((k : Int) == 0)) (by kernel_rfl) (fun _ => ?_) (fun h => absurd h (by rw [hc1r]; simp))
   refine wp_region_lit ?_
   refine q0 hf hM [1] [{}, { os := [.ld 0 1] }] (nw := [(10, eI x)]) (ob := [Ad B1 1]) (Ao (ad _ _)) ?_
   clear hf; intro a hf
   refine sxcall hf rfl rfl rfl rfl (g := 55) (vs := [iV x, iV (-1048576), iV 1048576]) (ob := []) (by as_aux_lemma => kernel_rfl) An enters55 (rin6 x (-1048576) 1048576 w1  ) ?_
   clear hf; rintro _ w2 a ⟨rfl, hk⟩ hf
   have hM := hM.keepNn hk
   have hk0 := hk0.trans hk.nn
   clear hk
   refine q0 hf hM [1] [{}] (nw := [(12, eB (decide ((-1048576) ≤ x) && decide (x ≤ 1048576)))]) An ?_
   clear hf; intro a hf
   rcases Bool.eq_false_or_eq_true (decide ((-1048576) ≤ x) && decide (x ≤ 1048576)) with hg1r | hg1r
   · have hg1 := hg1r
     try simp only [Bool.or_eq_true, Bool.and_eq_true, Bool.not_eq_true', Bool.not_eq_false', Bool.or_eq_false_iff, Bool.and_eq_false_iff, decide_eq_true_eq, decide_eq_false_iff_not, beq_iff_eq, bne_iff_ne, beq_eq_false_iff_ne, bne_eq_false_iff_eq, Bool.and_true, Bool.true_and, ne_eq] at hg1
     have hf := hf.setb 12 hg1r
     refine q0 hf hM [12] [{}, { os := [.ld 0 2] }] (nw := [(14, eI y)]) (ob := [true = true, true = true, Ad B1 2]) (Ac rfl (Ac rfl (Ao (ad _ _)))) ?_
     clear hf; intro a hf
     refine sxcallg hf rfl rfl rfl rfl rfl (g := 55) (vs := [iV y, iV (-1048576), iV 1048576]) (ob := []) (by as_aux_lemma => kernel_rfl) An enters55 (rin6 y (-1048576) 1048576 w2  ) ?_
     clear hf; rintro _ w3 a ⟨rfl, hk⟩ hf
     have hM := hM.keepNn hk
     have hk0 := hk0.trans hk.nn
     clear hk
     refine q0 hf hM [] [{}, {}] (nw := [(3, eB (decide ((-1048576) ≤ y) && decide (y ≤ 1048576)))]) An ?_
     clear hf; intro a hf
     refine wpList_nil ?_
     refine hK3 _ _ ?_
     refine wp_seq_k (fun K7 hK7 => ?_)
     refine wp_seq_k (fun K8 hK8 => ?_)
     refine wp_region_lit ?_
     refine q0 hf hM [] [{}, {}] (nw := [(71, eB (!(decide ((-1048576) ≤ y) && decide (y ≤ 1048576))))]) An ?_
     clear hf; intro a hf
     refine wpList_nil ?_
     refine hK8 _ _ ?_
     refine qc hf (b := !(decide ((-1048576) ≤ y) && decide (y ≤ 1048576))) (fun hc3r => ?_) (fun hc3r => ?_)
     · have hc3 := hc3r
       try simp only [Bool.or_eq_true, Bool.and_eq_true, Bool.not_eq_true', Bool.not_eq_false', Bool.or_eq_false_iff, Bool.and_eq_false_iff, decide_eq_true_eq, decide_eq_false_iff_not, beq_iff_eq, bne_iff_ne, beq_eq_false_iff_ne, bne_eq_false_iff_eq, Bool.and_true, Bool.true_and, ne_eq] at hc3
       refine wp_seq_k (fun K9 hK9 => ?_)
       refine wp_region_lit ?_
       refine q0 hf hM [] [{}] (nw := [(2, eI 1)]) An ?_
       clear hf; intro a hf
       refine wpList_nil ?_
       refine hK9 _ _ ?_
       refine wp_ret ?_
       refine qr (fn := Tryd.f48) hf hM [] (l := [iV 1]) (ob := []) An ?_
       show (iV 1 : Value) = .int .i64 (vcheck ⟨k, x, y⟩) ∧ Keep Nn w w3
       refine ⟨congrArg _ ?_, hk0⟩
       rw [vcheck_eq]
       repeat' split
       all_goals first | rfl | (exfalso; omega)
     · have hc3 := hc3r
       try simp only [Bool.or_eq_true, Bool.and_eq_true, Bool.not_eq_true', Bool.not_eq_false', Bool.or_eq_false_iff, Bool.and_eq_false_iff, decide_eq_true_eq, decide_eq_false_iff_not, beq_iff_eq, bne_iff_ne, beq_eq_false_iff_ne, bne_eq_false_iff_eq, Bool.and_true, Bool.true_and, ne_eq] at hc3
       refine wp_skip ?_
       refine hK7 _ _ ?_
       refine wp_seq_k (fun K10 hK10 => ?_)
       refine wp_region_lit ?_
       refine q0 hf hM [] [{}] (nw := [(2, eI 0)]) An ?_
       clear hf; intro a hf
       refine wpList_nil ?_
       refine hK10 _ _ ?_
       refine wp_ret ?_
       refine qr (fn := Tryd.f48) hf hM [] (l := [iV 0]) (ob := []) An ?_
       show (iV 0 : Value) = .int .i64 (vcheck ⟨k, x, y⟩) ∧ Keep Nn w w3
       refine ⟨congrArg _ ?_, hk0⟩
       rw [vcheck_eq]
       repeat' split
       all_goals first | rfl | (exfalso; omega)
   · have hg1 := hg1r
     try simp only [Bool.or_eq_true, Bool.and_eq_true, Bool.not_eq_true', Bool.not_eq_false', Bool.or_eq_false_iff, Bool.and_eq_false_iff, decide_eq_true_eq, decide_eq_false_iff_not, beq_iff_eq, bne_iff_ne, beq_eq_false_iff_ne, bne_eq_false_iff_eq, Bool.and_true, Bool.true_and, ne_eq] at hg1
     have hf := hf.setb 12 hg1r
     refine q0 hf hM [12] [{ g := .off }, { g := .off }] (nw := [(14, .val (undef))]) (ob := [false = !true, false = !true]) (Ac rfl (Ao rfl)) ?_
     clear hf; intro a hf
     refine q0 hf hM [] [{ g := .off }, {}, {}] (nw := [(3, eB false)]) (ob := [false = !true]) (Ao rfl) ?_
     clear hf; intro a hf
     refine wpList_nil ?_
     refine hK3 _ _ ?_
     refine wp_seq_k (fun K11 hK11 => ?_)
     refine wp_seq_k (fun K12 hK12 => ?_)
     refine wp_region_lit ?_
     refine q0 hf hM [] [{}, {}] (nw := [(71, eB true)]) An ?_
     clear hf; intro a hf
     refine wpList_nil ?_
     refine hK12 _ _ ?_
     refine sxcond hf (b := true) (by kernel_rfl) (fun _ => ?_) (fun h => by cases h)
     refine wp_seq_k (fun K13 hK13 => ?_)
     refine wp_region_lit ?_
     refine q0 hf hM [] [{}] (nw := [(2, eI 1)]) An ?_
     clear hf; intro a hf
     refine wpList_nil ?_
     refine hK13 _ _ ?_
     refine wp_ret ?_
     refine qr (fn := Tryd.f48) hf hM [] (l := [iV 1]) (ob := []) An ?_
     show (iV 1 : Value) = .int .i64 (vcheck ⟨k, x, y⟩) ∧ Keep Nn w w2
     refine ⟨congrArg _ ?_, hk0⟩
     rw [vcheck_eq]
     repeat' split
     all_goals first | rfl | (exfalso; omega)
 · have hc1 := (nF hc1r)
   refine wp_region_lit ?_
   refine q0 hf hM [5, 1] [{}, {}] (nw := [(6, eB ((k : Int) == 2))]) An ?_
   clear hf; intro a hf
   refine wpList_nil ?_
   refine hK5 _ _ ?_
   refine qc hf (b := ((k : Int) == 2)) (fun hc5r => ?_) (fun hc5r => ?_)
   · have hc5 := (nE hc5r)
     refine wp_region_lit ?_
     refine q0 hf hM [1] [{}, { os := [.ld 0 1] }] (nw := [(10, eI x)]) (ob := [Ad B1 1]) (Ao (ad _ _)) ?_
     clear hf; intro a hf
     refine sxcall hf rfl rfl rfl rfl (g := 55) (vs := [iV x, iV (-1048576), iV 1048576]) (ob := []) (by as_aux_lemma => kernel_rfl) An enters55 (rin6 x (-1048576) 1048576 w1  ) ?_
     clear hf; rintro _ w4 a ⟨rfl, hk⟩ hf
     have hM := hM.keepNn hk
     have hk0 := hk0.trans hk.nn
     clear hk
     refine q0 hf hM [1] [{}] (nw := [(12, eB (decide ((-1048576) ≤ x) && decide (x ≤ 1048576)))]) An ?_
     clear hf; intro a hf
     rcases Bool.eq_false_or_eq_true (decide ((-1048576) ≤ x) && decide (x ≤ 1048576)) with hg2r | hg2r
     · have hg2 := hg2r
       try simp only [Bool.or_eq_true, Bool.and_eq_true, Bool.not_eq_true', Bool.not_eq_false', Bool.or_eq_false_iff, Bool.and_eq_false_iff, decide_eq_true_eq, decide_eq_false_iff_not, beq_iff_eq, bne_iff_ne, beq_eq_false_iff_ne, bne_eq_false_iff_eq, Bool.and_true, Bool.true_and, ne_eq] at hg2
       have hf := hf.setb 12 hg2r
       refine q0 hf hM [12] [{}, { os := [.ld 0 2] }] (nw := [(14, eI y)]) (ob := [true = true, true = true, Ad B1 2]) (Ac rfl (Ac rfl (Ao (ad _ _)))) ?_
       clear hf; intro a hf
       refine sxcallg hf rfl rfl rfl rfl rfl (g := 55) (vs := [iV y, iV (-1048576), iV 1048576]) (ob := []) (by as_aux_lemma => kernel_rfl) An enters55 (rin6 y (-1048576) 1048576 w4  ) ?_
       clear hf; rintro _ w5 a ⟨rfl, hk⟩ hf
       have hM := hM.keepNn hk
       have hk0 := hk0.trans hk.nn
       clear hk
       refine q0 hf hM [] [{}, {}] (nw := [(3, eB (decide ((-1048576) ≤ y) && decide (y ≤ 1048576)))]) An ?_
       clear hf; intro a hf
       refine wpList_nil ?_
       refine hK3 _ _ ?_
       refine wp_seq_k (fun K14 hK14 => ?_)
       refine wp_seq_k (fun K15 hK15 => ?_)
       refine wp_region_lit ?_
       refine q0 hf hM [] [{}, {}] (nw := [(71, eB (!(decide ((-1048576) ≤ y) && decide (y ≤ 1048576))))]) An ?_
       clear hf; intro a hf
       refine wpList_nil ?_
       refine hK15 _ _ ?_
       refine qc hf (b := !(decide ((-1048576) ≤ y) && decide (y ≤ 1048576))) (fun hc6r => ?_) (fun hc6r => ?_)
       · have hc6 := hc6r
         try simp only [Bool.or_eq_true, Bool.and_eq_true, Bool.not_eq_true', Bool.not_eq_false', Bool.or_eq_false_iff, Bool.and_eq_false_iff, decide_eq_true_eq, decide_eq_false_iff_not, beq_iff_eq, bne_iff_ne, beq_eq_false_iff_ne, bne_eq_false_iff_eq, Bool.and_true, Bool.true_and, ne_eq] at hc6
         refine wp_seq_k (fun K16 hK16 => ?_)
         refine wp_region_lit ?_
         refine q0 hf hM [] [{}] (nw := [(2, eI 1)]) An ?_
         clear hf; intro a hf
         refine wpList_nil ?_
         refine hK16 _ _ ?_
         refine wp_ret ?_
         refine qr (fn := Tryd.f48) hf hM [] (l := [iV 1]) (ob := []) An ?_
         show (iV 1 : Value) = .int .i64 (vcheck ⟨k, x, y⟩) ∧ Keep Nn w w5
         refine ⟨congrArg _ ?_, hk0⟩
         rw [vcheck_eq]
         repeat' split
         all_goals first | rfl | (exfalso; omega)
       · have hc6 := hc6r
         try simp only [Bool.or_eq_true, Bool.and_eq_true, Bool.not_eq_true', Bool.not_eq_false', Bool.or_eq_false_iff, Bool.and_eq_false_iff, decide_eq_true_eq, decide_eq_false_iff_not, beq_iff_eq, bne_iff_ne, beq_eq_false_iff_ne, bne_eq_false_iff_eq, Bool.and_true, Bool.true_and, ne_eq] at hc6
         refine wp_skip ?_
         refine hK14 _ _ ?_
         refine wp_seq_k (fun K17 hK17 => ?_)
         refine wp_region_lit ?_
         refine q0 hf hM [] [{}] (nw := [(2, eI 0)]) An ?_
         clear hf; intro a hf
         refine wpList_nil ?_
         refine hK17 _ _ ?_
         refine wp_ret ?_
         refine qr (fn := Tryd.f48) hf hM [] (l := [iV 0]) (ob := []) An ?_
         show (iV 0 : Value) = .int .i64 (vcheck ⟨k, x, y⟩) ∧ Keep Nn w w5
         refine ⟨congrArg _ ?_, hk0⟩
         rw [vcheck_eq]
         repeat' split
         all_goals first | rfl | (exfalso; omega)
     · have hg2 := hg2r
       try simp only [Bool.or_eq_true, Bool.and_eq_true, Bool.not_eq_true', Bool.not_eq_false', Bool.or_eq_false_iff, Bool.and_eq_false_iff, decide_eq_true_eq, decide_eq_false_iff_not, beq_iff_eq, bne_iff_ne, beq_eq_false_iff_ne, bne_eq_false_iff_eq, Bool.and_true, Bool.true_and, ne_eq] at hg2
       have hf := hf.setb 12 hg2r
       refine q0 hf hM [12] [{ g := .off }, { g := .off }] (nw := [(14, .val (undef))]) (ob := [false = !true, false = !true]) (Ac rfl (Ao rfl)) ?_
       clear hf; intro a hf
       refine q0 hf hM [] [{ g := .off }, {}, {}] (nw := [(3, eB false)]) (ob := [false = !true]) (Ao rfl) ?_
       clear hf; intro a hf
       refine wpList_nil ?_
       refine hK3 _ _ ?_
       refine wp_seq_k (fun K18 hK18 => ?_)
       refine wp_seq_k (fun K19 hK19 => ?_)
       refine wp_region_lit ?_
       refine q0 hf hM [] [{}, {}] (nw := [(71, eB true)]) An ?_
       clear hf; intro a hf
       refine wpList_nil ?_
       refine hK19 _ _ ?_
       refine sxcond hf (b := true) (by kernel_rfl) (fun _ => ?_) (fun h => by cases h)
       refine wp_seq_k (fun K20 hK20 => ?_)
       refine wp_region_lit ?_
       refine q0 hf hM [] [{}] (nw := [(2, eI 1)]) An ?_
       clear hf; intro a hf
       refine wpList_nil ?_
       refine hK20 _ _ ?_
       refine wp_ret ?_
       refine qr (fn := Tryd.f48) hf hM [] (l := [iV 1]) (ob := []) An ?_
       show (iV 1 : Value) = .int .i64 (vcheck ⟨k, x, y⟩) ∧ Keep Nn w w4
       refine ⟨congrArg _ ?_, hk0⟩
       rw [vcheck_eq]
       repeat' split
       all_goals first | rfl | (exfalso; omega)
   · have hc5 := (nF hc5r)
     refine wp_seq_k (fun K21 hK21 => ?_)
     refine wp_region_lit ?_
     refine q0 hf hM [5, 1] [{}, {}] (nw := [(17, eB ((k : Int) == 1))]) An ?_
     clear hf; intro a hf
     refine wpList_nil ?_
     refine hK21 _ _ ?_
     refine qc hf (b := ((k : Int) == 1)) (fun hc8r => ?_) (fun hc8r => ?_)
     · have hc8 := (nE hc8r)
       refine wp_region_lit ?_
       refine q0 hf hM [1] [{}, { os := [.ld 0 1] }] (nw := [(20, eI x)]) (ob := [Ad B1 1]) (Ao (ad _ _)) ?_
       clear hf; intro a hf
       refine sxcall hf rfl rfl rfl rfl (g := 55) (vs := [iV x, iV 0, iV 1048576]) (ob := []) (by as_aux_lemma => kernel_rfl) An enters55 (rin6 x 0 1048576 w1  ) ?_
       clear hf; rintro _ w6 a ⟨rfl, hk⟩ hf
       have hM := hM.keepNn hk
       have hk0 := hk0.trans hk.nn
       clear hk
       refine q0 hf hM [1] [{}] (nw := [(22, eB (decide (0 ≤ x) && decide (x ≤ 1048576)))]) An ?_
       clear hf; intro a hf
       rcases Bool.eq_false_or_eq_true (decide (0 ≤ x) && decide (x ≤ 1048576)) with hg3r | hg3r
       · have hg3 := hg3r
         try simp only [Bool.or_eq_true, Bool.and_eq_true, Bool.not_eq_true', Bool.not_eq_false', Bool.or_eq_false_iff, Bool.and_eq_false_iff, decide_eq_true_eq, decide_eq_false_iff_not, beq_iff_eq, bne_iff_ne, beq_eq_false_iff_ne, bne_eq_false_iff_eq, Bool.and_true, Bool.true_and, ne_eq] at hg3
         have hf := hf.setb 22 hg3r
         refine q0 hf hM [22] [{}, { os := [.ld 0 2] }] (nw := [(24, eI y)]) (ob := [true = true, true = true, Ad B1 2]) (Ac rfl (Ac rfl (Ao (ad _ _)))) ?_
         clear hf; intro a hf
         refine sxcallg hf rfl rfl rfl rfl rfl (g := 55) (vs := [iV y, iV 0, iV 1048576]) (ob := []) (by as_aux_lemma => kernel_rfl) An enters55 (rin6 y 0 1048576 w6  ) ?_
         clear hf; rintro _ w7 a ⟨rfl, hk⟩ hf
         have hM := hM.keepNn hk
         have hk0 := hk0.trans hk.nn
         clear hk
         refine q0 hf hM [] [{}, {}] (nw := [(3, eB (decide (0 ≤ y) && decide (y ≤ 1048576)))]) An ?_
         clear hf; intro a hf
         refine wpList_nil ?_
         refine hK3 _ _ ?_
         refine wp_seq_k (fun K22 hK22 => ?_)
         refine wp_seq_k (fun K23 hK23 => ?_)
         refine wp_region_lit ?_
         refine q0 hf hM [] [{}, {}] (nw := [(71, eB (!(decide (0 ≤ y) && decide (y ≤ 1048576))))]) An ?_
         clear hf; intro a hf
         refine wpList_nil ?_
         refine hK23 _ _ ?_
         refine qc hf (b := !(decide (0 ≤ y) && decide (y ≤ 1048576))) (fun hc9r => ?_) (fun hc9r => ?_)
         · have hc9 := hc9r
           try simp only [Bool.or_eq_true, Bool.and_eq_true, Bool.not_eq_true', Bool.not_eq_false', Bool.or_eq_false_iff, Bool.and_eq_false_iff, decide_eq_true_eq, decide_eq_false_iff_not, beq_iff_eq, bne_iff_ne, beq_eq_false_iff_ne, bne_eq_false_iff_eq, Bool.and_true, Bool.true_and, ne_eq] at hc9
           refine wp_seq_k (fun K24 hK24 => ?_)
           refine wp_region_lit ?_
           refine q0 hf hM [] [{}] (nw := [(2, eI 1)]) An ?_
           clear hf; intro a hf
           refine wpList_nil ?_
           refine hK24 _ _ ?_
           refine wp_ret ?_
           refine qr (fn := Tryd.f48) hf hM [] (l := [iV 1]) (ob := []) An ?_
           show (iV 1 : Value) = .int .i64 (vcheck ⟨k, x, y⟩) ∧ Keep Nn w w7
           refine ⟨congrArg _ ?_, hk0⟩
           rw [vcheck_eq]
           repeat' split
           all_goals first | rfl | (exfalso; omega)
         · have hc9 := hc9r
           try simp only [Bool.or_eq_true, Bool.and_eq_true, Bool.not_eq_true', Bool.not_eq_false', Bool.or_eq_false_iff, Bool.and_eq_false_iff, decide_eq_true_eq, decide_eq_false_iff_not, beq_iff_eq, bne_iff_ne, beq_eq_false_iff_ne, bne_eq_false_iff_eq, Bool.and_true, Bool.true_and, ne_eq] at hc9
           refine wp_skip ?_
           refine hK22 _ _ ?_
           refine wp_seq_k (fun K25 hK25 => ?_)
           refine wp_region_lit ?_
           refine q0 hf hM [] [{}] (nw := [(2, eI 0)]) An ?_
           clear hf; intro a hf
           refine wpList_nil ?_
           refine hK25 _ _ ?_
           refine wp_ret ?_
           refine qr (fn := Tryd.f48) hf hM [] (l := [iV 0]) (ob := []) An ?_
           show (iV 0 : Value) = .int .i64 (vcheck ⟨k, x, y⟩) ∧ Keep Nn w w7
           refine ⟨congrArg _ ?_, hk0⟩
           rw [vcheck_eq]
           repeat' split
           all_goals first | rfl | (exfalso; omega)
       · have hg3 := hg3r
         try simp only [Bool.or_eq_true, Bool.and_eq_true, Bool.not_eq_true', Bool.not_eq_false', Bool.or_eq_false_iff, Bool.and_eq_false_iff, decide_eq_true_eq, decide_eq_false_iff_not, beq_iff_eq, bne_iff_ne, beq_eq_false_iff_ne, bne_eq_false_iff_eq, Bool.and_true, Bool.true_and, ne_eq] at hg3
         have hf := hf.setb 22 hg3r
         refine q0 hf hM [22] [{ g := .off }, { g := .off }] (nw := [(24, .val (undef))]) (ob := [false = !true, false = !true]) (Ac rfl (Ao rfl)) ?_
         clear hf; intro a hf
         refine q0 hf hM [] [{ g := .off }, {}, {}] (nw := [(3, eB false)]) (ob := [false = !true]) (Ao rfl) ?_
         clear hf; intro a hf
         refine wpList_nil ?_
         refine hK3 _ _ ?_
         refine wp_seq_k (fun K26 hK26 => ?_)
         refine wp_seq_k (fun K27 hK27 => ?_)
         refine wp_region_lit ?_
         refine q0 hf hM [] [{}, {}] (nw := [(71, eB true)]) An ?_
         clear hf; intro a hf
         refine wpList_nil ?_
         refine hK27 _ _ ?_
         refine sxcond hf (b := true) (by kernel_rfl) (fun _ => ?_) (fun h => by cases h)
         refine wp_seq_k (fun K28 hK28 => ?_)
         refine wp_region_lit ?_
         refine q0 hf hM [] [{}] (nw := [(2, eI 1)]) An ?_
         clear hf; intro a hf
         refine wpList_nil ?_
         refine hK28 _ _ ?_
         refine wp_ret ?_
         refine qr (fn := Tryd.f48) hf hM [] (l := [iV 1]) (ob := []) An ?_
         show (iV 1 : Value) = .int .i64 (vcheck ⟨k, x, y⟩) ∧ Keep Nn w w6
         refine ⟨congrArg _ ?_, hk0⟩
         rw [vcheck_eq]
         repeat' split
         all_goals first | rfl | (exfalso; omega)
     · have hc8 := (nF hc8r)
       refine wp_seq_k (fun K29 hK29 => ?_)
       refine wp_region_lit ?_
       refine q0 hf hM [5, 1] [{}, {}] (nw := [(27, eB ((k : Int) == 3))]) An ?_
       clear hf; intro a hf
       refine wpList_nil ?_
       refine hK29 _ _ ?_
       refine qc hf (b := ((k : Int) == 3)) (fun hc11r => ?_) (fun hc11r => ?_)
       · have hc11 := (nE hc11r)
         refine wp_region_lit ?_
         refine q0 hf hM [] [{}, { os := [.ld 0 1] }, {}, {}, { g := .sym }, { g := .sym, os := [.ld 0 2] }, { g := .sym }, { hint := some (bV (((x : Int) == 0) && ((y : Int) == 0))) }, {}] (nw := [(3, eB (((x : Int) == 0) && ((y : Int) == 0)))]) (ob := [Ad B1 1, (((x : Int) == 0) = true → ((x : Int) == 0) = ((x : Int) == 0)), (((x : Int) == 0) = true → Ad B1 2), (((x : Int) == 0) = true → ((x : Int) == 0) = ((x : Int) == 0)), (((x : Int) == 0) = true → ((x : Int) == 0) = ((x : Int) == 0)), (bif ((x : Int) == 0) then (bV ((y : Int) == 0) : Value) else bV false) = .bool (((x : Int) == 0) && ((y : Int) == 0))]) (Ac (ad _ _) (Ac (fun hgd => rfl) (Ac (fun hgd => ad _ _) (Ac (fun hgd => rfl) (Ac (fun _ => rfl) (Ao (pick_and _ _))))))) ?_
         clear hf; intro a hf
         refine wpList_nil ?_
         refine hK3 _ _ ?_
         refine wp_seq_k (fun K30 hK30 => ?_)
         refine wp_seq_k (fun K31 hK31 => ?_)
         refine wp_region_lit ?_
         refine q0 hf hM [] [{}, {}] (nw := [(71, eB (!(((x : Int) == 0) && ((y : Int) == 0))))]) An ?_
         clear hf; intro a hf
         refine wpList_nil ?_
         refine hK31 _ _ ?_
         refine qc hf (b := !(((x : Int) == 0) && ((y : Int) == 0))) (fun hc12r => ?_) (fun hc12r => ?_)
         · have hc12 := hc12r
           try simp only [Bool.or_eq_true, Bool.and_eq_true, Bool.not_eq_true', Bool.not_eq_false', Bool.or_eq_false_iff, Bool.and_eq_false_iff, decide_eq_true_eq, decide_eq_false_iff_not, beq_iff_eq, bne_iff_ne, beq_eq_false_iff_ne, bne_eq_false_iff_eq, Bool.and_true, Bool.true_and, ne_eq] at hc12
           refine wp_seq_k (fun K32 hK32 => ?_)
           refine wp_region_lit ?_
           refine q0 hf hM [] [{}] (nw := [(2, eI 1)]) An ?_
           clear hf; intro a hf
           refine wpList_nil ?_
           refine hK32 _ _ ?_
           refine wp_ret ?_
           refine qr (fn := Tryd.f48) hf hM [] (l := [iV 1]) (ob := []) An ?_
           show (iV 1 : Value) = .int .i64 (vcheck ⟨k, x, y⟩) ∧ Keep Nn w w1
           refine ⟨congrArg _ ?_, hk0⟩
           rw [vcheck_eq]
           repeat' split
           all_goals first | rfl | (exfalso; omega)
         · have hc12 := hc12r
           try simp only [Bool.or_eq_true, Bool.and_eq_true, Bool.not_eq_true', Bool.not_eq_false', Bool.or_eq_false_iff, Bool.and_eq_false_iff, decide_eq_true_eq, decide_eq_false_iff_not, beq_iff_eq, bne_iff_ne, beq_eq_false_iff_ne, bne_eq_false_iff_eq, Bool.and_true, Bool.true_and, ne_eq] at hc12
           refine wp_skip ?_
           refine hK30 _ _ ?_
           refine wp_seq_k (fun K33 hK33 => ?_)
           refine wp_region_lit ?_
           refine q0 hf hM [] [{}] (nw := [(2, eI 0)]) An ?_
           clear hf; intro a hf
           refine wpList_nil ?_
           refine hK33 _ _ ?_
           refine wp_ret ?_
           refine qr (fn := Tryd.f48) hf hM [] (l := [iV 0]) (ob := []) An ?_
           show (iV 0 : Value) = .int .i64 (vcheck ⟨k, x, y⟩) ∧ Keep Nn w w1
           refine ⟨congrArg _ ?_, hk0⟩
           rw [vcheck_eq]
           repeat' split
           all_goals first | rfl | (exfalso; omega)
       · have hc11 := (nF hc11r)
         refine wp_seq_k (fun K34 hK34 => ?_)
         refine wp_region_lit ?_
         refine q0 hf hM [5, 1] [{}, {}] (nw := [(37, eB ((k : Int) == 4))]) An ?_
         clear hf; intro a hf
         refine wpList_nil ?_
         refine hK34 _ _ ?_
         refine qc hf (b := ((k : Int) == 4)) (fun hc13r => ?_) (fun hc13r => ?_)
         · have hc13 := (nE hc13r)
           refine wp_region_lit ?_
           refine q0 hf hM [1] [{}, { os := [.ld 0 1] }] (nw := [(40, eI x)]) (ob := [Ad B1 1]) (Ao (ad _ _)) ?_
           clear hf; intro a hf
           refine sxcall hf rfl rfl rfl rfl (g := 55) (vs := [iV x, iV 0, iV 255]) (ob := []) (by as_aux_lemma => kernel_rfl) An enters55 (rin6 x 0 255 w1  ) ?_
           clear hf; rintro _ w8 a ⟨rfl, hk⟩ hf
           have hM := hM.keepNn hk
           have hk0 := hk0.trans hk.nn
           clear hk
           refine q0 hf hM [] [{}, { g := .sym }, { g := .sym, os := [.ld 0 2] }, { g := .sym }, { hint := some (bV ((decide (0 ≤ x) && decide (x ≤ 255)) && ((y : Int) == 0))) }, {}] (nw := [(3, eB ((decide (0 ≤ x) && decide (x ≤ 255)) && ((y : Int) == 0)))]) (ob := [((decide (0 ≤ x) && decide (x ≤ 255)) = true → (decide (0 ≤ x) && decide (x ≤ 255)) = (decide (0 ≤ x) && decide (x ≤ 255))), ((decide (0 ≤ x) && decide (x ≤ 255)) = true → Ad B1 2), ((decide (0 ≤ x) && decide (x ≤ 255)) = true → (decide (0 ≤ x) && decide (x ≤ 255)) = (decide (0 ≤ x) && decide (x ≤ 255))), ((decide (0 ≤ x) && decide (x ≤ 255)) = true → (decide (0 ≤ x) && decide (x ≤ 255)) = (decide (0 ≤ x) && decide (x ≤ 255))), (bif (decide (0 ≤ x) && decide (x ≤ 255)) then (bV ((y : Int) == 0) : Value) else bV false) = .bool ((decide (0 ≤ x) && decide (x ≤ 255)) && ((y : Int) == 0))]) (Ac (fun hgd => rfl) (Ac (fun hgd => ad _ _) (Ac (fun hgd => rfl) (Ac (fun _ => rfl) (Ao (pick_and _ _)))))) ?_
           clear hf; intro a hf
           refine wpList_nil ?_
           refine hK3 _ _ ?_
           refine wp_seq_k (fun K35 hK35 => ?_)
           refine wp_seq_k (fun K36 hK36 => ?_)
           refine wp_region_lit ?_
           refine q0 hf hM [] [{}, {}] (nw := [(71, eB (!((decide (0 ≤ x) && decide (x ≤ 255)) && ((y : Int) == 0))))]) An ?_
           clear hf; intro a hf
           refine wpList_nil ?_
           refine hK36 _ _ ?_
           refine qc hf (b := !((decide (0 ≤ x) && decide (x ≤ 255)) && ((y : Int) == 0))) (fun hc14r => ?_) (fun hc14r => ?_)
           · have hc14 := hc14r
             try simp only [Bool.or_eq_true, Bool.and_eq_true, Bool.not_eq_true', Bool.not_eq_false', Bool.or_eq_false_iff, Bool.and_eq_false_iff, decide_eq_true_eq, decide_eq_false_iff_not, beq_iff_eq, bne_iff_ne, beq_eq_false_iff_ne, bne_eq_false_iff_eq, Bool.and_true, Bool.true_and, ne_eq] at hc14
             refine wp_seq_k (fun K37 hK37 => ?_)
             refine wp_region_lit ?_
             refine q0 hf hM [] [{}] (nw := [(2, eI 1)]) An ?_
             clear hf; intro a hf
             refine wpList_nil ?_
             refine hK37 _ _ ?_
             refine wp_ret ?_
             refine qr (fn := Tryd.f48) hf hM [] (l := [iV 1]) (ob := []) An ?_
             show (iV 1 : Value) = .int .i64 (vcheck ⟨k, x, y⟩) ∧ Keep Nn w w8
             refine ⟨congrArg _ ?_, hk0⟩
             rw [vcheck_eq]
             repeat' split
             all_goals first | rfl | (exfalso; omega)
           · have hc14 := hc14r
             try simp only [Bool.or_eq_true, Bool.and_eq_true, Bool.not_eq_true', Bool.not_eq_false', Bool.or_eq_false_iff, Bool.and_eq_false_iff, decide_eq_true_eq, decide_eq_false_iff_not, beq_iff_eq, bne_iff_ne, beq_eq_false_iff_ne, bne_eq_false_iff_eq, Bool.and_true, Bool.true_and, ne_eq] at hc14
             refine wp_skip ?_
             refine hK35 _ _ ?_
             refine wp_seq_k (fun K38 hK38 => ?_)
             refine wp_region_lit ?_
             refine q0 hf hM [] [{}] (nw := [(2, eI 0)]) An ?_
             clear hf; intro a hf
             refine wpList_nil ?_
             refine hK38 _ _ ?_
             refine wp_ret ?_
             refine qr (fn := Tryd.f48) hf hM [] (l := [iV 0]) (ob := []) An ?_
             show (iV 0 : Value) = .int .i64 (vcheck ⟨k, x, y⟩) ∧ Keep Nn w w8
             refine ⟨congrArg _ ?_, hk0⟩
             rw [vcheck_eq]
             repeat' split
             all_goals first | rfl | (exfalso; omega)
         · have hc13 := (nF hc13r)
           refine wp_seq_k (fun K39 hK39 => ?_)
           refine wp_region_lit ?_
           refine q0 hf hM [5, 1] [{}, {}] (nw := [(47, eB ((k : Int) == 5))]) An ?_
           clear hf; intro a hf
           refine wpList_nil ?_
           refine hK39 _ _ ?_
           refine qc hf (b := ((k : Int) == 5)) (fun hc15r => ?_) (fun hc15r => ?_)
           · have hc15 := (nE hc15r)
             refine wp_region_lit ?_
             refine q0 hf hM [1] [{}, { os := [.ld 0 1] }] (nw := [(50, eI x)]) (ob := [Ad B1 1]) (Ao (ad _ _)) ?_
             clear hf; intro a hf
             refine sxcall hf rfl rfl rfl rfl (g := 55) (vs := [iV x, iV 0, iV 1048576]) (ob := []) (by as_aux_lemma => kernel_rfl) An enters55 (rin6 x 0 1048576 w1  ) ?_
             clear hf; rintro _ w9 a ⟨rfl, hk⟩ hf
             have hM := hM.keepNn hk
             have hk0 := hk0.trans hk.nn
             clear hk
             refine q0 hf hM [] [{}, { g := .sym }, { g := .sym, os := [.ld 0 2] }, { g := .sym }, { hint := some (bV ((decide (0 ≤ x) && decide (x ≤ 1048576)) && ((y : Int) == 0))) }, {}] (nw := [(3, eB ((decide (0 ≤ x) && decide (x ≤ 1048576)) && ((y : Int) == 0)))]) (ob := [((decide (0 ≤ x) && decide (x ≤ 1048576)) = true → (decide (0 ≤ x) && decide (x ≤ 1048576)) = (decide (0 ≤ x) && decide (x ≤ 1048576))), ((decide (0 ≤ x) && decide (x ≤ 1048576)) = true → Ad B1 2), ((decide (0 ≤ x) && decide (x ≤ 1048576)) = true → (decide (0 ≤ x) && decide (x ≤ 1048576)) = (decide (0 ≤ x) && decide (x ≤ 1048576))), ((decide (0 ≤ x) && decide (x ≤ 1048576)) = true → (decide (0 ≤ x) && decide (x ≤ 1048576)) = (decide (0 ≤ x) && decide (x ≤ 1048576))), (bif (decide (0 ≤ x) && decide (x ≤ 1048576)) then (bV ((y : Int) == 0) : Value) else bV false) = .bool ((decide (0 ≤ x) && decide (x ≤ 1048576)) && ((y : Int) == 0))]) (Ac (fun hgd => rfl) (Ac (fun hgd => ad _ _) (Ac (fun hgd => rfl) (Ac (fun _ => rfl) (Ao (pick_and _ _)))))) ?_
             clear hf; intro a hf
             refine wpList_nil ?_
             refine hK3 _ _ ?_
             refine wp_seq_k (fun K40 hK40 => ?_)
             refine wp_seq_k (fun K41 hK41 => ?_)
             refine wp_region_lit ?_
             refine q0 hf hM [] [{}, {}] (nw := [(71, eB (!((decide (0 ≤ x) && decide (x ≤ 1048576)) && ((y : Int) == 0))))]) An ?_
             clear hf; intro a hf
             refine wpList_nil ?_
             refine hK41 _ _ ?_
             refine qc hf (b := !((decide (0 ≤ x) && decide (x ≤ 1048576)) && ((y : Int) == 0))) (fun hc16r => ?_) (fun hc16r => ?_)
             · have hc16 := hc16r
               try simp only [Bool.or_eq_true, Bool.and_eq_true, Bool.not_eq_true', Bool.not_eq_false', Bool.or_eq_false_iff, Bool.and_eq_false_iff, decide_eq_true_eq, decide_eq_false_iff_not, beq_iff_eq, bne_iff_ne, beq_eq_false_iff_ne, bne_eq_false_iff_eq, Bool.and_true, Bool.true_and, ne_eq] at hc16
               refine wp_seq_k (fun K42 hK42 => ?_)
               refine wp_region_lit ?_
               refine q0 hf hM [] [{}] (nw := [(2, eI 1)]) An ?_
               clear hf; intro a hf
               refine wpList_nil ?_
               refine hK42 _ _ ?_
               refine wp_ret ?_
               refine qr (fn := Tryd.f48) hf hM [] (l := [iV 1]) (ob := []) An ?_
               show (iV 1 : Value) = .int .i64 (vcheck ⟨k, x, y⟩) ∧ Keep Nn w w9
               refine ⟨congrArg _ ?_, hk0⟩
               rw [vcheck_eq]
               repeat' split
               all_goals first | rfl | (exfalso; omega)
             · have hc16 := hc16r
               try simp only [Bool.or_eq_true, Bool.and_eq_true, Bool.not_eq_true', Bool.not_eq_false', Bool.or_eq_false_iff, Bool.and_eq_false_iff, decide_eq_true_eq, decide_eq_false_iff_not, beq_iff_eq, bne_iff_ne, beq_eq_false_iff_ne, bne_eq_false_iff_eq, Bool.and_true, Bool.true_and, ne_eq] at hc16
               refine wp_skip ?_
               refine hK40 _ _ ?_
               refine wp_seq_k (fun K43 hK43 => ?_)
               refine wp_region_lit ?_
               refine q0 hf hM [] [{}] (nw := [(2, eI 0)]) An ?_
               clear hf; intro a hf
               refine wpList_nil ?_
               refine hK43 _ _ ?_
               refine wp_ret ?_
               refine qr (fn := Tryd.f48) hf hM [] (l := [iV 0]) (ob := []) An ?_
               show (iV 0 : Value) = .int .i64 (vcheck ⟨k, x, y⟩) ∧ Keep Nn w w9
               refine ⟨congrArg _ ?_, hk0⟩
               rw [vcheck_eq]
               repeat' split
               all_goals first | rfl | (exfalso; omega)
           · have hc15 := (nF hc15r)
             refine wp_seq_k (fun K44 hK44 => ?_)
             refine wp_seq_k (fun K45 hK45 => ?_)
             refine wp_region_lit ?_
             refine q0 hf hM [5, 1] [{}, {}] (nw := [(57, eB ((k : Int) == 6))]) An ?_
             clear hf; intro a hf
             refine wpList_nil ?_
             refine hK45 _ _ ?_
             refine qc hf (b := ((k : Int) == 6)) (fun hc17r => ?_) (fun hc17r => ?_)
             · have hc17 := (nE hc17r)
               refine wp_skip ?_
               refine hK44 _ _ ?_
               refine sxcond hf (b := ((k : Int) == 6)) (by kernel_rfl) (fun _ => ?_) (fun h => absurd h (by rw [hc17r]; simp))
               refine wp_region_lit ?_
               refine q0 hf hM [1] [{}, { os := [.ld 0 1] }] (nw := [(63, eI x)]) (ob := [Ad B1 1]) (Ao (ad _ _)) ?_
               clear hf; intro a hf
               refine sxcall hf rfl rfl rfl rfl (g := 55) (vs := [iV x, iV (-4194304), iV 4194304]) (ob := []) (by as_aux_lemma => kernel_rfl) An enters55 (rin6 x (-4194304) 4194304 w1  ) ?_
               clear hf; rintro _ w10 a ⟨rfl, hk⟩ hf
               have hM := hM.keepNn hk
               have hk0 := hk0.trans hk.nn
               clear hk
               refine q0 hf hM [1] [{}] (nw := [(65, eB (decide ((-4194304) ≤ x) && decide (x ≤ 4194304)))]) An ?_
               clear hf; intro a hf
               rcases Bool.eq_false_or_eq_true (decide ((-4194304) ≤ x) && decide (x ≤ 4194304)) with hg4r | hg4r
               · have hg4 := hg4r
                 try simp only [Bool.or_eq_true, Bool.and_eq_true, Bool.not_eq_true', Bool.not_eq_false', Bool.or_eq_false_iff, Bool.and_eq_false_iff, decide_eq_true_eq, decide_eq_false_iff_not, beq_iff_eq, bne_iff_ne, beq_eq_false_iff_ne, bne_eq_false_iff_eq, Bool.and_true, Bool.true_and, ne_eq] at hg4
                 have hf := hf.setb 65 hg4r
                 refine q0 hf hM [65] [{}, { os := [.ld 0 2] }] (nw := [(67, eI y)]) (ob := [true = true, true = true, Ad B1 2]) (Ac rfl (Ac rfl (Ao (ad _ _)))) ?_
                 clear hf; intro a hf
                 refine sxcallg hf rfl rfl rfl rfl rfl (g := 55) (vs := [iV y, iV (-4194304), iV 4194304]) (ob := []) (by as_aux_lemma => kernel_rfl) An enters55 (rin6 y (-4194304) 4194304 w10  ) ?_
                 clear hf; rintro _ w11 a ⟨rfl, hk⟩ hf
                 have hM := hM.keepNn hk
                 have hk0 := hk0.trans hk.nn
                 clear hk
                 refine q0 hf hM [] [{}, {}] (nw := [(3, eB (decide ((-4194304) ≤ y) && decide (y ≤ 4194304)))]) An ?_
                 clear hf; intro a hf
                 refine wpList_nil ?_
                 refine hK3 _ _ ?_
                 refine wp_seq_k (fun K46 hK46 => ?_)
                 refine wp_seq_k (fun K47 hK47 => ?_)
                 refine wp_region_lit ?_
                 refine q0 hf hM [] [{}, {}] (nw := [(71, eB (!(decide ((-4194304) ≤ y) && decide (y ≤ 4194304))))]) An ?_
                 clear hf; intro a hf
                 refine wpList_nil ?_
                 refine hK47 _ _ ?_
                 refine qc hf (b := !(decide ((-4194304) ≤ y) && decide (y ≤ 4194304))) (fun hc19r => ?_) (fun hc19r => ?_)
                 · have hc19 := hc19r
                   try simp only [Bool.or_eq_true, Bool.and_eq_true, Bool.not_eq_true', Bool.not_eq_false', Bool.or_eq_false_iff, Bool.and_eq_false_iff, decide_eq_true_eq, decide_eq_false_iff_not, beq_iff_eq, bne_iff_ne, beq_eq_false_iff_ne, bne_eq_false_iff_eq, Bool.and_true, Bool.true_and, ne_eq] at hc19
                   refine wp_seq_k (fun K48 hK48 => ?_)
                   refine wp_region_lit ?_
                   refine q0 hf hM [] [{}] (nw := [(2, eI 1)]) An ?_
                   clear hf; intro a hf
                   refine wpList_nil ?_
                   refine hK48 _ _ ?_
                   refine wp_ret ?_
                   refine qr (fn := Tryd.f48) hf hM [] (l := [iV 1]) (ob := []) An ?_
                   show (iV 1 : Value) = .int .i64 (vcheck ⟨k, x, y⟩) ∧ Keep Nn w w11
                   refine ⟨congrArg _ ?_, hk0⟩
                   rw [vcheck_eq]
                   repeat' split
                   all_goals first | rfl | (exfalso; omega)
                 · have hc19 := hc19r
                   try simp only [Bool.or_eq_true, Bool.and_eq_true, Bool.not_eq_true', Bool.not_eq_false', Bool.or_eq_false_iff, Bool.and_eq_false_iff, decide_eq_true_eq, decide_eq_false_iff_not, beq_iff_eq, bne_iff_ne, beq_eq_false_iff_ne, bne_eq_false_iff_eq, Bool.and_true, Bool.true_and, ne_eq] at hc19
                   refine wp_skip ?_
                   refine hK46 _ _ ?_
                   refine wp_seq_k (fun K49 hK49 => ?_)
                   refine wp_region_lit ?_
                   refine q0 hf hM [] [{}] (nw := [(2, eI 0)]) An ?_
                   clear hf; intro a hf
                   refine wpList_nil ?_
                   refine hK49 _ _ ?_
                   refine wp_ret ?_
                   refine qr (fn := Tryd.f48) hf hM [] (l := [iV 0]) (ob := []) An ?_
                   show (iV 0 : Value) = .int .i64 (vcheck ⟨k, x, y⟩) ∧ Keep Nn w w11
                   refine ⟨congrArg _ ?_, hk0⟩
                   rw [vcheck_eq]
                   repeat' split
                   all_goals first | rfl | (exfalso; omega)
               · have hg4 := hg4r
                 try simp only [Bool.or_eq_true, Bool.and_eq_true, Bool.not_eq_true', Bool.not_eq_false', Bool.or_eq_false_iff, Bool.and_eq_false_iff, decide_eq_true_eq, decide_eq_false_iff_not, beq_iff_eq, bne_iff_ne, beq_eq_false_iff_ne, bne_eq_false_iff_eq, Bool.and_true, Bool.true_and, ne_eq] at hg4
                 have hf := hf.setb 65 hg4r
                 refine q0 hf hM [65] [{ g := .off }, { g := .off }] (nw := [(67, .val (undef))]) (ob := [false = !true, false = !true]) (Ac rfl (Ao rfl)) ?_
                 clear hf; intro a hf
                 refine q0 hf hM [] [{ g := .off }, {}, {}] (nw := [(3, eB false)]) (ob := [false = !true]) (Ao rfl) ?_
                 clear hf; intro a hf
                 refine wpList_nil ?_
                 refine hK3 _ _ ?_
                 refine wp_seq_k (fun K50 hK50 => ?_)
                 refine wp_seq_k (fun K51 hK51 => ?_)
                 refine wp_region_lit ?_
                 refine q0 hf hM [] [{}, {}] (nw := [(71, eB true)]) An ?_
                 clear hf; intro a hf
                 refine wpList_nil ?_
                 refine hK51 _ _ ?_
                 refine sxcond hf (b := true) (by kernel_rfl) (fun _ => ?_) (fun h => by cases h)
                 refine wp_seq_k (fun K52 hK52 => ?_)
                 refine wp_region_lit ?_
                 refine q0 hf hM [] [{}] (nw := [(2, eI 1)]) An ?_
                 clear hf; intro a hf
                 refine wpList_nil ?_
                 refine hK52 _ _ ?_
                 refine wp_ret ?_
                 refine qr (fn := Tryd.f48) hf hM [] (l := [iV 1]) (ob := []) An ?_
                 show (iV 1 : Value) = .int .i64 (vcheck ⟨k, x, y⟩) ∧ Keep Nn w w10
                 refine ⟨congrArg _ ?_, hk0⟩
                 rw [vcheck_eq]
                 repeat' split
                 all_goals first | rfl | (exfalso; omega)
             · have hc17 := (nF hc17r)
               refine wp_seq_k (fun K53 hK53 => ?_)
               refine wp_region_lit ?_
               refine q0 hf hM [5, 1] [{}, {}] (nw := [(57, eB ((k : Int) == 7))]) An ?_
               clear hf; intro a hf
               refine wpList_nil ?_
               refine hK53 _ _ ?_
               refine qc hf (b := ((k : Int) == 7)) (fun hc21r => ?_) (fun hc21r => ?_)
               · have hc21 := (nE hc21r)
                 refine wp_skip ?_
                 refine hK44 _ _ ?_
                 refine sxcond hf (b := ((k : Int) == 7)) (by kernel_rfl) (fun _ => ?_) (fun h => absurd h (by rw [hc21r]; simp))
                 refine wp_region_lit ?_
                 refine q0 hf hM [1] [{}, { os := [.ld 0 1] }] (nw := [(63, eI x)]) (ob := [Ad B1 1]) (Ao (ad _ _)) ?_
                 clear hf; intro a hf
                 refine sxcall hf rfl rfl rfl rfl (g := 55) (vs := [iV x, iV (-4194304), iV 4194304]) (ob := []) (by as_aux_lemma => kernel_rfl) An enters55 (rin6 x (-4194304) 4194304 w1  ) ?_
                 clear hf; rintro _ w12 a ⟨rfl, hk⟩ hf
                 have hM := hM.keepNn hk
                 have hk0 := hk0.trans hk.nn
                 clear hk
                 refine q0 hf hM [1] [{}] (nw := [(65, eB (decide ((-4194304) ≤ x) && decide (x ≤ 4194304)))]) An ?_
                 clear hf; intro a hf
                 rcases Bool.eq_false_or_eq_true (decide ((-4194304) ≤ x) && decide (x ≤ 4194304)) with hg5r | hg5r
                 · have hg5 := hg5r
                   try simp only [Bool.or_eq_true, Bool.and_eq_true, Bool.not_eq_true', Bool.not_eq_false', Bool.or_eq_false_iff, Bool.and_eq_false_iff, decide_eq_true_eq, decide_eq_false_iff_not, beq_iff_eq, bne_iff_ne, beq_eq_false_iff_ne, bne_eq_false_iff_eq, Bool.and_true, Bool.true_and, ne_eq] at hg5
                   have hf := hf.setb 65 hg5r
                   refine q0 hf hM [65] [{}, { os := [.ld 0 2] }] (nw := [(67, eI y)]) (ob := [true = true, true = true, Ad B1 2]) (Ac rfl (Ac rfl (Ao (ad _ _)))) ?_
                   clear hf; intro a hf
                   refine sxcallg hf rfl rfl rfl rfl rfl (g := 55) (vs := [iV y, iV (-4194304), iV 4194304]) (ob := []) (by as_aux_lemma => kernel_rfl) An enters55 (rin6 y (-4194304) 4194304 w12  ) ?_
                   clear hf; rintro _ w13 a ⟨rfl, hk⟩ hf
                   have hM := hM.keepNn hk
                   have hk0 := hk0.trans hk.nn
                   clear hk
                   refine q0 hf hM [] [{}, {}] (nw := [(3, eB (decide ((-4194304) ≤ y) && decide (y ≤ 4194304)))]) An ?_
                   clear hf; intro a hf
                   refine wpList_nil ?_
                   refine hK3 _ _ ?_
                   refine wp_seq_k (fun K54 hK54 => ?_)
                   refine wp_seq_k (fun K55 hK55 => ?_)
                   refine wp_region_lit ?_
                   refine q0 hf hM [] [{}, {}] (nw := [(71, eB (!(decide ((-4194304) ≤ y) && decide (y ≤ 4194304))))]) An ?_
                   clear hf; intro a hf
                   refine wpList_nil ?_
                   refine hK55 _ _ ?_
                   refine qc hf (b := !(decide ((-4194304) ≤ y) && decide (y ≤ 4194304))) (fun hc23r => ?_) (fun hc23r => ?_)
                   · have hc23 := hc23r
                     try simp only [Bool.or_eq_true, Bool.and_eq_true, Bool.not_eq_true', Bool.not_eq_false', Bool.or_eq_false_iff, Bool.and_eq_false_iff, decide_eq_true_eq, decide_eq_false_iff_not, beq_iff_eq, bne_iff_ne, beq_eq_false_iff_ne, bne_eq_false_iff_eq, Bool.and_true, Bool.true_and, ne_eq] at hc23
                     refine wp_seq_k (fun K56 hK56 => ?_)
                     refine wp_region_lit ?_
                     refine q0 hf hM [] [{}] (nw := [(2, eI 1)]) An ?_
                     clear hf; intro a hf
                     refine wpList_nil ?_
                     refine hK56 _ _ ?_
                     refine wp_ret ?_
                     refine qr (fn := Tryd.f48) hf hM [] (l := [iV 1]) (ob := []) An ?_
                     show (iV 1 : Value) = .int .i64 (vcheck ⟨k, x, y⟩) ∧ Keep Nn w w13
                     refine ⟨congrArg _ ?_, hk0⟩
                     rw [vcheck_eq]
                     repeat' split
                     all_goals first | rfl | (exfalso; omega)
                   · have hc23 := hc23r
                     try simp only [Bool.or_eq_true, Bool.and_eq_true, Bool.not_eq_true', Bool.not_eq_false', Bool.or_eq_false_iff, Bool.and_eq_false_iff, decide_eq_true_eq, decide_eq_false_iff_not, beq_iff_eq, bne_iff_ne, beq_eq_false_iff_ne, bne_eq_false_iff_eq, Bool.and_true, Bool.true_and, ne_eq] at hc23
                     refine wp_skip ?_
                     refine hK54 _ _ ?_
                     refine wp_seq_k (fun K57 hK57 => ?_)
                     refine wp_region_lit ?_
                     refine q0 hf hM [] [{}] (nw := [(2, eI 0)]) An ?_
                     clear hf; intro a hf
                     refine wpList_nil ?_
                     refine hK57 _ _ ?_
                     refine wp_ret ?_
                     refine qr (fn := Tryd.f48) hf hM [] (l := [iV 0]) (ob := []) An ?_
                     show (iV 0 : Value) = .int .i64 (vcheck ⟨k, x, y⟩) ∧ Keep Nn w w13
                     refine ⟨congrArg _ ?_, hk0⟩
                     rw [vcheck_eq]
                     repeat' split
                     all_goals first | rfl | (exfalso; omega)
                 · have hg5 := hg5r
                   try simp only [Bool.or_eq_true, Bool.and_eq_true, Bool.not_eq_true', Bool.not_eq_false', Bool.or_eq_false_iff, Bool.and_eq_false_iff, decide_eq_true_eq, decide_eq_false_iff_not, beq_iff_eq, bne_iff_ne, beq_eq_false_iff_ne, bne_eq_false_iff_eq, Bool.and_true, Bool.true_and, ne_eq] at hg5
                   have hf := hf.setb 65 hg5r
                   refine q0 hf hM [65] [{ g := .off }, { g := .off }] (nw := [(67, .val (undef))]) (ob := [false = !true, false = !true]) (Ac rfl (Ao rfl)) ?_
                   clear hf; intro a hf
                   refine q0 hf hM [] [{ g := .off }, {}, {}] (nw := [(3, eB false)]) (ob := [false = !true]) (Ao rfl) ?_
                   clear hf; intro a hf
                   refine wpList_nil ?_
                   refine hK3 _ _ ?_
                   refine wp_seq_k (fun K58 hK58 => ?_)
                   refine wp_seq_k (fun K59 hK59 => ?_)
                   refine wp_region_lit ?_
                   refine q0 hf hM [] [{}, {}] (nw := [(71, eB true)]) An ?_
                   clear hf; intro a hf
                   refine wpList_nil ?_
                   refine hK59 _ _ ?_
                   refine sxcond hf (b := true) (by kernel_rfl) (fun _ => ?_) (fun h => by cases h)
                   refine wp_seq_k (fun K60 hK60 => ?_)
                   refine wp_region_lit ?_
                   refine q0 hf hM [] [{}] (nw := [(2, eI 1)]) An ?_
                   clear hf; intro a hf
                   refine wpList_nil ?_
                   refine hK60 _ _ ?_
                   refine wp_ret ?_
                   refine qr (fn := Tryd.f48) hf hM [] (l := [iV 1]) (ob := []) An ?_
                   show (iV 1 : Value) = .int .i64 (vcheck ⟨k, x, y⟩) ∧ Keep Nn w w12
                   refine ⟨congrArg _ ?_, hk0⟩
                   rw [vcheck_eq]
                   repeat' split
                   all_goals first | rfl | (exfalso; omega)
               · have hc21 := (nF hc21r)
                 refine wp_seq_k (fun K61 hK61 => ?_)
                 refine wp_region_lit ?_
                 refine q0 hf hM [5, 1] [{}, {}] (nw := [(57, eB ((k : Int) == 8))]) An ?_
                 clear hf; intro a hf
                 refine wpList_nil ?_
                 refine hK61 _ _ ?_
                 refine qc hf (b := ((k : Int) == 8)) (fun hc25r => ?_) (fun hc25r => ?_)
                 · have hc25 := (nE hc25r)
                   refine wp_skip ?_
                   refine hK44 _ _ ?_
                   refine sxcond hf (b := ((k : Int) == 8)) (by kernel_rfl) (fun _ => ?_) (fun h => absurd h (by rw [hc25r]; simp))
                   refine wp_region_lit ?_
                   refine q0 hf hM [1] [{}, { os := [.ld 0 1] }] (nw := [(63, eI x)]) (ob := [Ad B1 1]) (Ao (ad _ _)) ?_
                   clear hf; intro a hf
                   refine sxcall hf rfl rfl rfl rfl (g := 55) (vs := [iV x, iV (-4194304), iV 4194304]) (ob := []) (by as_aux_lemma => kernel_rfl) An enters55 (rin6 x (-4194304) 4194304 w1  ) ?_
                   clear hf; rintro _ w14 a ⟨rfl, hk⟩ hf
                   have hM := hM.keepNn hk
                   have hk0 := hk0.trans hk.nn
                   clear hk
                   refine q0 hf hM [1] [{}] (nw := [(65, eB (decide ((-4194304) ≤ x) && decide (x ≤ 4194304)))]) An ?_
                   clear hf; intro a hf
                   rcases Bool.eq_false_or_eq_true (decide ((-4194304) ≤ x) && decide (x ≤ 4194304)) with hg6r | hg6r
                   · have hg6 := hg6r
                     try simp only [Bool.or_eq_true, Bool.and_eq_true, Bool.not_eq_true', Bool.not_eq_false', Bool.or_eq_false_iff, Bool.and_eq_false_iff, decide_eq_true_eq, decide_eq_false_iff_not, beq_iff_eq, bne_iff_ne, beq_eq_false_iff_ne, bne_eq_false_iff_eq, Bool.and_true, Bool.true_and, ne_eq] at hg6
                     have hf := hf.setb 65 hg6r
                     refine q0 hf hM [65] [{}, { os := [.ld 0 2] }] (nw := [(67, eI y)]) (ob := [true = true, true = true, Ad B1 2]) (Ac rfl (Ac rfl (Ao (ad _ _)))) ?_
                     clear hf; intro a hf
                     refine sxcallg hf rfl rfl rfl rfl rfl (g := 55) (vs := [iV y, iV (-4194304), iV 4194304]) (ob := []) (by as_aux_lemma => kernel_rfl) An enters55 (rin6 y (-4194304) 4194304 w14  ) ?_
                     clear hf; rintro _ w15 a ⟨rfl, hk⟩ hf
                     have hM := hM.keepNn hk
                     have hk0 := hk0.trans hk.nn
                     clear hk
                     refine q0 hf hM [] [{}, {}] (nw := [(3, eB (decide ((-4194304) ≤ y) && decide (y ≤ 4194304)))]) An ?_
                     clear hf; intro a hf
                     refine wpList_nil ?_
                     refine hK3 _ _ ?_
                     refine wp_seq_k (fun K62 hK62 => ?_)
                     refine wp_seq_k (fun K63 hK63 => ?_)
                     refine wp_region_lit ?_
                     refine q0 hf hM [] [{}, {}] (nw := [(71, eB (!(decide ((-4194304) ≤ y) && decide (y ≤ 4194304))))]) An ?_
                     clear hf; intro a hf
                     refine wpList_nil ?_
                     refine hK63 _ _ ?_
                     refine qc hf (b := !(decide ((-4194304) ≤ y) && decide (y ≤ 4194304))) (fun hc27r => ?_) (fun hc27r => ?_)
                     · have hc27 := hc27r
                       try simp only [Bool.or_eq_true, Bool.and_eq_true, Bool.not_eq_true', Bool.not_eq_false', Bool.or_eq_false_iff, Bool.and_eq_false_iff, decide_eq_true_eq, decide_eq_false_iff_not, beq_iff_eq, bne_iff_ne, beq_eq_false_iff_ne, bne_eq_false_iff_eq, Bool.and_true, Bool.true_and, ne_eq] at hc27
                       refine wp_seq_k (fun K64 hK64 => ?_)
                       refine wp_region_lit ?_
                       refine q0 hf hM [] [{}] (nw := [(2, eI 1)]) An ?_
                       clear hf; intro a hf
                       refine wpList_nil ?_
                       refine hK64 _ _ ?_
                       refine wp_ret ?_
                       refine qr (fn := Tryd.f48) hf hM [] (l := [iV 1]) (ob := []) An ?_
                       show (iV 1 : Value) = .int .i64 (vcheck ⟨k, x, y⟩) ∧ Keep Nn w w15
                       refine ⟨congrArg _ ?_, hk0⟩
                       rw [vcheck_eq]
                       repeat' split
                       all_goals first | rfl | (exfalso; omega)
                     · have hc27 := hc27r
                       try simp only [Bool.or_eq_true, Bool.and_eq_true, Bool.not_eq_true', Bool.not_eq_false', Bool.or_eq_false_iff, Bool.and_eq_false_iff, decide_eq_true_eq, decide_eq_false_iff_not, beq_iff_eq, bne_iff_ne, beq_eq_false_iff_ne, bne_eq_false_iff_eq, Bool.and_true, Bool.true_and, ne_eq] at hc27
                       refine wp_skip ?_
                       refine hK62 _ _ ?_
                       refine wp_seq_k (fun K65 hK65 => ?_)
                       refine wp_region_lit ?_
                       refine q0 hf hM [] [{}] (nw := [(2, eI 0)]) An ?_
                       clear hf; intro a hf
                       refine wpList_nil ?_
                       refine hK65 _ _ ?_
                       refine wp_ret ?_
                       refine qr (fn := Tryd.f48) hf hM [] (l := [iV 0]) (ob := []) An ?_
                       show (iV 0 : Value) = .int .i64 (vcheck ⟨k, x, y⟩) ∧ Keep Nn w w15
                       refine ⟨congrArg _ ?_, hk0⟩
                       rw [vcheck_eq]
                       repeat' split
                       all_goals first | rfl | (exfalso; omega)
                   · have hg6 := hg6r
                     try simp only [Bool.or_eq_true, Bool.and_eq_true, Bool.not_eq_true', Bool.not_eq_false', Bool.or_eq_false_iff, Bool.and_eq_false_iff, decide_eq_true_eq, decide_eq_false_iff_not, beq_iff_eq, bne_iff_ne, beq_eq_false_iff_ne, bne_eq_false_iff_eq, Bool.and_true, Bool.true_and, ne_eq] at hg6
                     have hf := hf.setb 65 hg6r
                     refine q0 hf hM [65] [{ g := .off }, { g := .off }] (nw := [(67, .val (undef))]) (ob := [false = !true, false = !true]) (Ac rfl (Ao rfl)) ?_
                     clear hf; intro a hf
                     refine q0 hf hM [] [{ g := .off }, {}, {}] (nw := [(3, eB false)]) (ob := [false = !true]) (Ao rfl) ?_
                     clear hf; intro a hf
                     refine wpList_nil ?_
                     refine hK3 _ _ ?_
                     refine wp_seq_k (fun K66 hK66 => ?_)
                     refine wp_seq_k (fun K67 hK67 => ?_)
                     refine wp_region_lit ?_
                     refine q0 hf hM [] [{}, {}] (nw := [(71, eB true)]) An ?_
                     clear hf; intro a hf
                     refine wpList_nil ?_
                     refine hK67 _ _ ?_
                     refine sxcond hf (b := true) (by kernel_rfl) (fun _ => ?_) (fun h => by cases h)
                     refine wp_seq_k (fun K68 hK68 => ?_)
                     refine wp_region_lit ?_
                     refine q0 hf hM [] [{}] (nw := [(2, eI 1)]) An ?_
                     clear hf; intro a hf
                     refine wpList_nil ?_
                     refine hK68 _ _ ?_
                     refine wp_ret ?_
                     refine qr (fn := Tryd.f48) hf hM [] (l := [iV 1]) (ob := []) An ?_
                     show (iV 1 : Value) = .int .i64 (vcheck ⟨k, x, y⟩) ∧ Keep Nn w w14
                     refine ⟨congrArg _ ?_, hk0⟩
                     rw [vcheck_eq]
                     repeat' split
                     all_goals first | rfl | (exfalso; omega)
                 · have hc25 := (nF hc25r)
                   refine wp_region_lit ?_
                   refine q0 hf hM [1] [{}, {}] (nw := [(57, eB ((k : Int) == 9))]) An ?_
                   clear hf; intro a hf
                   refine wpList_nil ?_
                   refine hK44 _ _ ?_
                   refine qc hf (b := ((k : Int) == 9)) (fun hc29r => ?_) (fun hc29r => ?_)
                   · have hc29 := (nE hc29r)
                     refine wp_region_lit ?_
                     refine q0 hf hM [1] [{}, { os := [.ld 0 1] }] (nw := [(63, eI x)]) (ob := [Ad B1 1]) (Ao (ad _ _)) ?_
                     clear hf; intro a hf
                     refine sxcall hf rfl rfl rfl rfl (g := 55) (vs := [iV x, iV (-4194304), iV 4194304]) (ob := []) (by as_aux_lemma => kernel_rfl) An enters55 (rin6 x (-4194304) 4194304 w1  ) ?_
                     clear hf; rintro _ w16 a ⟨rfl, hk⟩ hf
                     have hM := hM.keepNn hk
                     have hk0 := hk0.trans hk.nn
                     clear hk
                     refine q0 hf hM [1] [{}] (nw := [(65, eB (decide ((-4194304) ≤ x) && decide (x ≤ 4194304)))]) An ?_
                     clear hf; intro a hf
                     rcases Bool.eq_false_or_eq_true (decide ((-4194304) ≤ x) && decide (x ≤ 4194304)) with hg7r | hg7r
                     · have hg7 := hg7r
                       try simp only [Bool.or_eq_true, Bool.and_eq_true, Bool.not_eq_true', Bool.not_eq_false', Bool.or_eq_false_iff, Bool.and_eq_false_iff, decide_eq_true_eq, decide_eq_false_iff_not, beq_iff_eq, bne_iff_ne, beq_eq_false_iff_ne, bne_eq_false_iff_eq, Bool.and_true, Bool.true_and, ne_eq] at hg7
                       have hf := hf.setb 65 hg7r
                       refine q0 hf hM [65] [{}, { os := [.ld 0 2] }] (nw := [(67, eI y)]) (ob := [true = true, true = true, Ad B1 2]) (Ac rfl (Ac rfl (Ao (ad _ _)))) ?_
                       clear hf; intro a hf
                       refine sxcallg hf rfl rfl rfl rfl rfl (g := 55) (vs := [iV y, iV (-4194304), iV 4194304]) (ob := []) (by as_aux_lemma => kernel_rfl) An enters55 (rin6 y (-4194304) 4194304 w16  ) ?_
                       clear hf; rintro _ w17 a ⟨rfl, hk⟩ hf
                       have hM := hM.keepNn hk
                       have hk0 := hk0.trans hk.nn
                       clear hk
                       refine q0 hf hM [] [{}, {}] (nw := [(3, eB (decide ((-4194304) ≤ y) && decide (y ≤ 4194304)))]) An ?_
                       clear hf; intro a hf
                       refine wpList_nil ?_
                       refine hK3 _ _ ?_
                       refine wp_seq_k (fun K69 hK69 => ?_)
                       refine wp_seq_k (fun K70 hK70 => ?_)
                       refine wp_region_lit ?_
                       refine q0 hf hM [] [{}, {}] (nw := [(71, eB (!(decide ((-4194304) ≤ y) && decide (y ≤ 4194304))))]) An ?_
                       clear hf; intro a hf
                       refine wpList_nil ?_
                       refine hK70 _ _ ?_
                       refine qc hf (b := !(decide ((-4194304) ≤ y) && decide (y ≤ 4194304))) (fun hc30r => ?_) (fun hc30r => ?_)
                       · have hc30 := hc30r
                         try simp only [Bool.or_eq_true, Bool.and_eq_true, Bool.not_eq_true', Bool.not_eq_false', Bool.or_eq_false_iff, Bool.and_eq_false_iff, decide_eq_true_eq, decide_eq_false_iff_not, beq_iff_eq, bne_iff_ne, beq_eq_false_iff_ne, bne_eq_false_iff_eq, Bool.and_true, Bool.true_and, ne_eq] at hc30
                         refine wp_seq_k (fun K71 hK71 => ?_)
                         refine wp_region_lit ?_
                         refine q0 hf hM [] [{}] (nw := [(2, eI 1)]) An ?_
                         clear hf; intro a hf
                         refine wpList_nil ?_
                         refine hK71 _ _ ?_
                         refine wp_ret ?_
                         refine qr (fn := Tryd.f48) hf hM [] (l := [iV 1]) (ob := []) An ?_
                         show (iV 1 : Value) = .int .i64 (vcheck ⟨k, x, y⟩) ∧ Keep Nn w w17
                         refine ⟨congrArg _ ?_, hk0⟩
                         rw [vcheck_eq]
                         repeat' split
                         all_goals first | rfl | (exfalso; omega)
                       · have hc30 := hc30r
                         try simp only [Bool.or_eq_true, Bool.and_eq_true, Bool.not_eq_true', Bool.not_eq_false', Bool.or_eq_false_iff, Bool.and_eq_false_iff, decide_eq_true_eq, decide_eq_false_iff_not, beq_iff_eq, bne_iff_ne, beq_eq_false_iff_ne, bne_eq_false_iff_eq, Bool.and_true, Bool.true_and, ne_eq] at hc30
                         refine wp_skip ?_
                         refine hK69 _ _ ?_
                         refine wp_seq_k (fun K72 hK72 => ?_)
                         refine wp_region_lit ?_
                         refine q0 hf hM [] [{}] (nw := [(2, eI 0)]) An ?_
                         clear hf; intro a hf
                         refine wpList_nil ?_
                         refine hK72 _ _ ?_
                         refine wp_ret ?_
                         refine qr (fn := Tryd.f48) hf hM [] (l := [iV 0]) (ob := []) An ?_
                         show (iV 0 : Value) = .int .i64 (vcheck ⟨k, x, y⟩) ∧ Keep Nn w w17
                         refine ⟨congrArg _ ?_, hk0⟩
                         rw [vcheck_eq]
                         repeat' split
                         all_goals first | rfl | (exfalso; omega)
                     · have hg7 := hg7r
                       try simp only [Bool.or_eq_true, Bool.and_eq_true, Bool.not_eq_true', Bool.not_eq_false', Bool.or_eq_false_iff, Bool.and_eq_false_iff, decide_eq_true_eq, decide_eq_false_iff_not, beq_iff_eq, bne_iff_ne, beq_eq_false_iff_ne, bne_eq_false_iff_eq, Bool.and_true, Bool.true_and, ne_eq] at hg7
                       have hf := hf.setb 65 hg7r
                       refine q0 hf hM [65] [{ g := .off }, { g := .off }] (nw := [(67, .val (undef))]) (ob := [false = !true, false = !true]) (Ac rfl (Ao rfl)) ?_
                       clear hf; intro a hf
                       refine q0 hf hM [] [{ g := .off }, {}, {}] (nw := [(3, eB false)]) (ob := [false = !true]) (Ao rfl) ?_
                       clear hf; intro a hf
                       refine wpList_nil ?_
                       refine hK3 _ _ ?_
                       refine wp_seq_k (fun K73 hK73 => ?_)
                       refine wp_seq_k (fun K74 hK74 => ?_)
                       refine wp_region_lit ?_
                       refine q0 hf hM [] [{}, {}] (nw := [(71, eB true)]) An ?_
                       clear hf; intro a hf
                       refine wpList_nil ?_
                       refine hK74 _ _ ?_
                       refine sxcond hf (b := true) (by kernel_rfl) (fun _ => ?_) (fun h => by cases h)
                       refine wp_seq_k (fun K75 hK75 => ?_)
                       refine wp_region_lit ?_
                       refine q0 hf hM [] [{}] (nw := [(2, eI 1)]) An ?_
                       clear hf; intro a hf
                       refine wpList_nil ?_
                       refine hK75 _ _ ?_
                       refine wp_ret ?_
                       refine qr (fn := Tryd.f48) hf hM [] (l := [iV 1]) (ob := []) An ?_
                       show (iV 1 : Value) = .int .i64 (vcheck ⟨k, x, y⟩) ∧ Keep Nn w w16
                       refine ⟨congrArg _ ?_, hk0⟩
                       rw [vcheck_eq]
                       repeat' split
                       all_goals first | rfl | (exfalso; omega)
                   · have hc29 := (nF hc29r)
                     refine wp_seq_k (fun K76 hK76 => ?_)
                     refine wp_region_lit ?_
                     refine q0 hf hM [] [{}] (nw := [(2, eI 5)]) An ?_
                     clear hf; intro a hf
                     refine wpList_nil ?_
                     refine hK76 _ _ ?_
                     refine wp_ret ?_
                     refine qr (fn := Tryd.f48) hf hM [] (l := [iV 5]) (ob := []) An ?_
                     show (iV 5 : Value) = .int .i64 (vcheck ⟨k, x, y⟩) ∧ Keep Nn w w1
                     refine ⟨congrArg _ ?_, hk0⟩
                     rw [vcheck_eq]
                     repeat' split
                     all_goals first | rfl | (exfalso; omega)

def cmpI (a b : Int) : Int := if a < b then -1 else if b < a then 1 else 0

set_option maxRecDepth 10000 in
set_option maxHeartbeats 1600000 in
theorem rrow_bad (av : Option Addr) (l : List V3) (c : Nat) (w : World) (hn0 : (firstBad l == 0) = false) (hav : Arr w 3 av l.length c (flat fV l)) (hbav : l.length ≤ 1000000) :
    Calls Tryd.prog 27 #[.slice av l.length c] w (Ret fun v w' => v = .tuple #[.slice none 0 0, .int .i64 (firstBad l)] ∧ Keep Nn w w') := by
 refine sxenter (n := 49) (args := [.slice av l.length c]) Tryd.func27 rfl rfl rfl fun a hf => ?_
 replace hf : Fr 49 [(0, eS av l.length c)] a := hf
 have hM : MemOk [] w := MemOk.nil w
 have hk0 : Keep Nn w w := Keep.refl _ _
 have hn : ¬ firstBad l = 0 := by simpa using hn0
 refine wp_seq_k (fun K1 hK1 => ?_)
 refine wp_region_lit ?_
 refine q0 hf hM [0] [{}, {}] (nw := []) An ?_
 clear hf; intro a hf
 refine wpList_nil ?_
 refine hK1 _ _ ?_
 refine wp_seq_k (fun K2 hK2 => ?_)
 refine wp_seq_k (fun K3 hK3 => ?_)
 refine wp_region_lit ?_
 refine q0 hf hM [0] [{}, {}, {}] (nw := [(14, eI 0), (13, eI (l.length : Int)), (12, eS av l.length c)]) An ?_
 clear hf; intro a hf
 refine wpList_nil ?_
 refine hK3 _ _ ?_
 refine wp_block ?_
 have hf := (hf.prune [0, 12, 13, 14]).to (env' := [(0, eS av l.length c), (12, eS av l.length c), (13, eI (l.length : Int)), (14, eI 0)]) (by kernel_rfl)
 refine sxloop (fun zm a w1 => ∃ (i : Int), zm = ((l.length : Int) - i).toNat ∧ Fr 49 [(0, eS av l.length c), (12, eS av l.length c), (13, eI (l.length : Int)), (14, eI i)] a ∧ MemOk [] w1 ∧ Keep Nn w w1 ∧ (0 ≤ i ∧ i ≤ (l.length : Int)) ∧ (firstBad (l.drop i.toNat) = firstBad l)) _ ⟨0, rfl, hf.conv (Ac rfl (Ac rfl (Ac rfl (Ao rfl)))), hM, hk0, (by omega), rfl⟩ ?_
 clear hf hM hk0
 rintro _ a w1 ⟨i, rfl, hf, hM, hk0, hi, hfb⟩ L1 hL1
 refine wp_seq_k (fun K4 hK4 => ?_)
 refine wp_region_lit ?_
 refine q0 hf hM [0, 12, 13, 14] [{}] (nw := [(15, eB (decide ((i : Int) < (l.length : Int))))]) An ?_
 clear hf; intro a hf
 refine wpList_nil ?_
 refine hK4 _ _ ?_
 refine wp_seq_k (fun K5 hK5 => ?_)
 refine qc hf (b := (decide ((i : Int) < (l.length : Int)))) (fun hc1r => ?_) (fun hc1r => ?_)
 · have hc1 := (nT hc1r)
   refine wp_skip ?_
   refine hK5 _ _ ?_
   refine wp_seq_k (fun K6 hK6 => ?_)
   refine wp_block ?_
   refine wp_seq_k (fun K7 hK7 => ?_)
   refine wp_region_lit ?_
   refine q1 hf hM [0, 12, 13, 14] [{ sp := true }, { os := [.ex (iV (l.getD i.toNat ⟨0, 0, 0⟩).k), .ex (iV (l.getD i.toNat ⟨0, 0, 0⟩).a), .ex (iV (l.getD i.toNat ⟨0, 0, 0⟩).b)] }, { os := [.nw] }, { os := [.st 0 0, .st 0 1, .st 0 2] }] (nw := fun B4 => [(5, eP B4 0)]) (M' := fun B4 => [⟨B4, 59, [iV (l.getD i.toNat ⟨0, 0, 0⟩).k, iV (l.getD i.toNat ⟨0, 0, 0⟩).a, iV (l.getD i.toNat ⟨0, 0, 0⟩).b]⟩]) (ob := fun B4 => [(0 : Int) ≤ i ∧ i < (l.length : Int), (av : Option Addr).isSome = true, w1.cell? (((sa av : Addr).add (i.toNat * 3)).add 0) = some (iV (l.getD i.toNat ⟨0, 0, 0⟩).k), w1.cell? (((sa av : Addr).add (i.toNat * 3)).add 1) = some (iV (l.getD i.toNat ⟨0, 0, 0⟩).a), w1.cell? (((sa av : Addr).add (i.toNat * 3)).add 2) = some (iV (l.getD i.toNat ⟨0, 0, 0⟩).b), Ad B4 0, Ad B4 1, Ad B4 2]) (fun B4 => (Ac (by first | omega | (simp; done)) (Ac ((hav.keepNn hk0).some_ (by first | omega | (simp; done))) (Ac ((hav.keepNn hk0).get (fun _ => rfl) (by first | omega | (simp; done)) rfl) (Ac ((hav.keepNn hk0).get (fun _ => rfl) (by first | omega | (simp; done)) rfl) (Ac ((hav.keepNn hk0).get (fun _ => rfl) (by first | omega | (simp; done)) rfl) (Ac (ad _ _) (Ac (ad _ _) (Ao (ad _ _)))))))))) ?_
   clear hf hM; intro a w2 B4 hf hM hB hk
   have hbB4 : w.heap.size ≤ B4 := by have := hk0.size; omega
   have hk0 := hk0.then hk (by intro i _ h; cases h)
   clear hk hB
   refine wpList_nil ?_
   refine hK7 _ _ ?_
   refine wp_seq_k (fun K8 hK8 => ?_)
   refine wp_region_lit ?_
   refine q0 hf hM [0, 12, 13, 14] [{ os := [.ld 0 0, .ld 0 1, .ld 0 2] }] (nw := [(18, .val (.agg #[iV (l.getD i.toNat ⟨0, 0, 0⟩).k, iV (l.getD i.toNat ⟨0, 0, 0⟩).a, iV (l.getD i.toNat ⟨0, 0, 0⟩).b]))]) (ob := [Ad B4 0, Ad B4 1, Ad B4 2]) (Ac (ad _ _) (Ac (ad _ _) (Ao (ad _ _)))) ?_
   clear hf; intro a hf
   refine sxcall hf rfl rfl rfl rfl (g := 48) (vs := [.agg #[iV (l.getD i.toNat ⟨0, 0, 0⟩).k, iV (l.getD i.toNat ⟨0, 0, 0⟩).a, iV (l.getD i.toNat ⟨0, 0, 0⟩).b]]) (ob := []) (by as_aux_lemma => kernel_rfl) An enters48 (rcheck (l.getD i.toNat ⟨0, 0, 0⟩).k (l.getD i.toNat ⟨0, 0, 0⟩).a (l.getD i.toNat ⟨0, 0, 0⟩).b w2  ) ?_
   clear hf; rintro _ w3 a ⟨rfl, hk⟩ hf
   have hM := hM.keepNn hk
   have hk0 := hk0.trans hk.nn
   clear hk
   refine q0 hf hM [0, 12, 13, 14] [{}] (nw := [(6, eI (vcheck ⟨(l.getD i.toNat ⟨0, 0, 0⟩).k, (l.getD i.toNat ⟨0, 0, 0⟩).a, (l.getD i.toNat ⟨0, 0, 0⟩).b⟩))]) An ?_
   clear hf; intro a hf
   refine wpList_nil ?_
   refine hK8 _ _ ?_
   refine wp_seq_k (fun K9 hK9 => ?_)
   refine wp_region_lit ?_
   refine q0 hf hM [6, 0, 12, 13, 14] [{}, {}] (nw := [(21, eB (((vcheck ⟨(l.getD i.toNat ⟨0, 0, 0⟩).k, (l.getD i.toNat ⟨0, 0, 0⟩).a, (l.getD i.toNat ⟨0, 0, 0⟩).b⟩) : Int) != 0))]) An ?_
   clear hf; intro a hf
   refine wpList_nil ?_
   refine hK9 _ _ ?_
   refine qc hf (b := (((vcheck ⟨(l.getD i.toNat ⟨0, 0, 0⟩).k, (l.getD i.toNat ⟨0, 0, 0⟩).a, (l.getD i.toNat ⟨0, 0, 0⟩).b⟩) : Int) != 0)) (fun hc2r => ?_) (fun hc2r => ?_)
   · have hc2 := (nN hc2r)
     refine wp_seq_k (fun K10 hK10 => ?_)
     refine wp_region_lit ?_
     refine q0 hf hM [] [{}, {}, {}] (nw := [(3, eI (vcheck ⟨(l.getD i.toNat ⟨0, 0, 0⟩).k, (l.getD i.toNat ⟨0, 0, 0⟩).a, (l.getD i.toNat ⟨0, 0, 0⟩).b⟩)), (2, eS none 0 0)]) An ?_
     clear hf; intro a hf
     refine wpList_nil ?_
     refine hK10 _ _ ?_
     refine wp_ret ?_
     refine qr (fn := Tryd.f27) hf hM [] (l := [.slice none 0 0, iV (vcheck ⟨(l.getD i.toNat ⟨0, 0, 0⟩).k, (l.getD i.toNat ⟨0, 0, 0⟩).a, (l.getD i.toNat ⟨0, 0, 0⟩).b⟩)]) (ob := []) An ?_
     show (.tuple #[.slice none 0 0, iV (vcheck ⟨(l.getD i.toNat ⟨0, 0, 0⟩).k, (l.getD i.toNat ⟨0, 0, 0⟩).a, (l.getD i.toNat ⟨0, 0, 0⟩).b⟩)] : Value) = .tuple #[.slice none 0 0, .int .i64 (firstBad l)] ∧ Keep Nn w w3
     have h1 := firstBad_step (l := l) (i := i.toNat) (d := ⟨0, 0, 0⟩) (by omega)
     have h2 : ¬ vcheck (l.getD i.toNat ⟨0, 0, 0⟩) = 0 := by assumption
     rw [if_neg h2, hfb] at h1
     rw [h1]
     exact ⟨rfl, hk0⟩
   · have hc2 := (nM hc2r)
     refine wp_skip ?_
     refine hK6 _ _ ?_
     refine wp_region_lit ?_
     refine q0 hf hM [0, 12, 13] [{ hint := some (iV (i + 1)) }, {}] (nw := [(14, eI (i + 1))]) (ob := [(iV (IntKind.i64.wrap (i + 1)) : Value) = (iV (i + 1) : Value)]) (Ao (wr (by omega))) ?_
     clear hf; intro a hf
     refine wpList_nil ?_
     have hfb2 : firstBad (l.drop (i + 1).toNat) = firstBad l := by
       have h1 := firstBad_step (l := l) (i := i.toNat) (d := ⟨0, 0, 0⟩) (by omega)
       have h2 : vcheck (l.getD i.toNat ⟨0, 0, 0⟩) = 0 := by assumption
       rw [h2, if_pos rfl, hfb] at h1
       rw [h1, show (i + 1).toNat = i.toNat + 1 by omega]
     have hf := (hf.prune [0, 12, 13, 14]).to (env' := [(0, eS av l.length c), (12, eS av l.length c), (13, eI (l.length : Int)), (14, eI (i + 1))]) (by kernel_rfl)
     replace hM : MemOk [] w3 := hM.sub (.cons _ .slnil)
     refine hL1 _ _ _ (by omega) ⟨i + 1, rfl, hf.conv (Ac rfl (Ac rfl (Ac rfl (Ao rfl)))), hM, hk0, (by omega), hfb2⟩
 · have hc1 := (nU hc1r)
   exfalso; have h2 : l.drop i.toNat = [] := List.drop_eq_nil_of_le (by omega); rw [h2] at hfb; simp only [firstBad] at hfb; omega

set_option maxRecDepth 10000 in
set_option maxHeartbeats 1600000 in
theorem rrow_ok (av : Option Addr) (l : List V3) (c : Nat) (w : World) (hn0 : (firstBad l == 0) = true) (hn1 : (noDup l) = true) (hav : Arr w 3 av l.length c (flat fV l)) (hbav : l.length ≤ 1000000) :
    Calls Tryd.prog 27 #[.slice av l.length c] w (Ret fun v w' => ∃ a' c', v = .tuple #[.slice a' (byKinds l 10).length c', .int .i64 0] ∧ Keep Nn w w' ∧ World.ownsRow w' w.heap.size 59 3 (.slice a' (byKinds l 10).length c') (byKinds l 10).length (flat fV (byKinds l 10))) := by
 refine sxenter (n := 49) (args := [.slice av l.length c]) Tryd.func27 rfl rfl rfl fun a hf => ?_
 replace hf : Fr 49 [(0, eS av l.length c)] a := hf
 have hM : MemOk [] w := MemOk.nil w
 have hk0 : Keep Nn w w := Keep.refl _ _
 have hn : firstBad l = 0 := by simpa using hn0
 refine wp_seq_k (fun K1 hK1 => ?_)
 refine wp_region_lit ?_
 refine q0 hf hM [0] [{}, {}] (nw := []) An ?_
 clear hf; intro a hf
 refine wpList_nil ?_
 refine hK1 _ _ ?_
 refine wp_seq_k (fun K2 hK2 => ?_)
 refine wp_seq_k (fun K3 hK3 => ?_)
 refine wp_region_lit ?_
 refine q0 hf hM [0] [{}, {}, {}] (nw := [(14, eI 0), (13, eI (l.length : Int)), (12, eS av l.length c)]) An ?_
 clear hf; intro a hf
 refine wpList_nil ?_
 refine hK3 _ _ ?_
 refine wp_block ?_
 have hf := (hf.prune [0, 12, 13, 14]).to (env' := [(0, eS av l.length c), (12, eS av l.length c), (13, eI (l.length : Int)), (14, eI 0)]) (by kernel_rfl)
 refine sxloop (fun zm a w1 => ∃ (i : Int), zm = ((l.length : Int) - i).toNat ∧ Fr 49 [(0, eS av l.length c), (12, eS av l.length c), (13, eI (l.length : Int)), (14, eI i)] a ∧ MemOk [] w1 ∧ Keep Nn w w1 ∧ (0 ≤ i ∧ i ≤ (l.length : Int)) ∧ (firstBad (l.drop i.toNat) = firstBad l)) _ ⟨0, rfl, hf.conv (Ac rfl (Ac rfl (Ac rfl (Ao rfl)))), hM, hk0, (by omega), rfl⟩ ?_
 clear hf hM hk0
 rintro _ a w1 ⟨i, rfl, hf, hM, hk0, hi, hfb⟩ L1 hL1
 refine wp_seq_k (fun K4 hK4 => ?_)
 refine wp_region_lit ?_
 refine q0 hf hM [0, 12, 13, 14] [{}] (nw := [(15, eB (decide ((i : Int) < (l.length : Int))))]) An ?_
 clear hf; intro a hf
 refine wpList_nil ?_
 refine hK4 _ _ ?_
 refine wp_seq_k (fun K5 hK5 => ?_)
 refine qc hf (b := (decide ((i : Int) < (l.length : Int)))) (fun hc1r => ?_) (fun hc1r => ?_)
 · have hc1 := (nT hc1r)
   refine wp_skip ?_
   refine hK5 _ _ ?_
   refine wp_seq_k (fun K6 hK6 => ?_)
   refine wp_block ?_
   refine wp_seq_k (fun K7 hK7 => ?_)
   refine wp_region_lit ?_
   refine q1 hf hM [0, 12, 13, 14] [{ sp := true }, { os := [.ex (iV (l.getD i.toNat ⟨0, 0, 0⟩).k), .ex (iV (l.getD i.toNat ⟨0, 0, 0⟩).a), .ex (iV (l.getD i.toNat ⟨0, 0, 0⟩).b)] }, { os := [.nw] }, { os := [.st 0 0, .st 0 1, .st 0 2] }] (nw := fun B4 => [(5, eP B4 0)]) (M' := fun B4 => [⟨B4, 59, [iV (l.getD i.toNat ⟨0, 0, 0⟩).k, iV (l.getD i.toNat ⟨0, 0, 0⟩).a, iV (l.getD i.toNat ⟨0, 0, 0⟩).b]⟩]) (ob := fun B4 => [(0 : Int) ≤ i ∧ i < (l.length : Int), (av : Option Addr).isSome = true, w1.cell? (((sa av : Addr).add (i.toNat * 3)).add 0) = some (iV (l.getD i.toNat ⟨0, 0, 0⟩).k), w1.cell? (((sa av : Addr).add (i.toNat * 3)).add 1) = some (iV (l.getD i.toNat ⟨0, 0, 0⟩).a), w1.cell? (((sa av : Addr).add (i.toNat * 3)).add 2) = some (iV (l.getD i.toNat ⟨0, 0, 0⟩).b), Ad B4 0, Ad B4 1, Ad B4 2]) (fun B4 => (Ac (by first | omega | (simp; done)) (Ac ((hav.keepNn hk0).some_ (by first | omega | (simp; done))) (Ac ((hav.keepNn hk0).get (fun _ => rfl) (by first | omega | (simp; done)) rfl) (Ac ((hav.keepNn hk0).get (fun _ => rfl) (by first | omega | (simp; done)) rfl) (Ac ((hav.keepNn hk0).get (fun _ => rfl) (by first | omega | (simp; done)) rfl) (Ac (ad _ _) (Ac (ad _ _) (Ao (ad _ _)))))))))) ?_
   clear hf hM; intro a w2 B4 hf hM hB hk
   have hbB4 : w.heap.size ≤ B4 := by have := hk0.size; omega
   have hk0 := hk0.then hk (by intro i _ h; cases h)
   clear hk hB
   refine wpList_nil ?_
   refine hK7 _ _ ?_
   refine wp_seq_k (fun K8 hK8 => ?_)
   refine wp_region_lit ?_
   refine q0 hf hM [0, 12, 13, 14] [{ os := [.ld 0 0, .ld 0 1, .ld 0 2] }] (nw := [(18, .val (.agg #[iV (l.getD i.toNat ⟨0, 0, 0⟩).k, iV (l.getD i.toNat ⟨0, 0, 0⟩).a, iV (l.getD i.toNat ⟨0, 0, 0⟩).b]))]) (ob := [Ad B4 0, Ad B4 1, Ad B4 2]) (Ac (ad _ _) (Ac (ad _ _) (Ao (ad _ _)))) ?_
   clear hf; intro a hf
   refine sxcall hf rfl rfl rfl rfl (g := 48) (vs := [.agg #[iV (l.getD i.toNat ⟨0, 0, 0⟩).k, iV (l.getD i.toNat ⟨0, 0, 0⟩).a, iV (l.getD i.toNat ⟨0, 0, 0⟩).b]]) (ob := []) (by as_aux_lemma => kernel_rfl) An enters48 (rcheck (l.getD i.toNat ⟨0, 0, 0⟩).k (l.getD i.toNat ⟨0, 0, 0⟩).a (l.getD i.toNat ⟨0, 0, 0⟩).b w2  ) ?_
   clear hf; rintro _ w3 a ⟨rfl, hk⟩ hf
   have hM := hM.keepNn hk
   have hk0 := hk0.trans hk.nn
   clear hk
   refine q0 hf hM [0, 12, 13, 14] [{}] (nw := [(6, eI (vcheck ⟨(l.getD i.toNat ⟨0, 0, 0⟩).k, (l.getD i.toNat ⟨0, 0, 0⟩).a, (l.getD i.toNat ⟨0, 0, 0⟩).b⟩))]) An ?_
   clear hf; intro a hf
   refine wpList_nil ?_
   refine hK8 _ _ ?_
   refine wp_seq_k (fun K9 hK9 => ?_)
   refine wp_region_lit ?_
   refine q0 hf hM [6, 0, 12, 13, 14] [{}, {}] (nw := [(21, eB (((vcheck ⟨(l.getD i.toNat ⟨0, 0, 0⟩).k, (l.getD i.toNat ⟨0, 0, 0⟩).a, (l.getD i.toNat ⟨0, 0, 0⟩).b⟩) : Int) != 0))]) An ?_
   clear hf; intro a hf
   refine wpList_nil ?_
   refine hK9 _ _ ?_
   refine qc hf (b := (((vcheck ⟨(l.getD i.toNat ⟨0, 0, 0⟩).k, (l.getD i.toNat ⟨0, 0, 0⟩).a, (l.getD i.toNat ⟨0, 0, 0⟩).b⟩) : Int) != 0)) (fun hc2r => ?_) (fun hc2r => ?_)
   · have hc2 := (nN hc2r)
     refine wp_seq_k (fun K10 hK10 => ?_)
     refine wp_region_lit ?_
     refine q0 hf hM [] [{}, {}, {}] (nw := [(3, eI (vcheck ⟨(l.getD i.toNat ⟨0, 0, 0⟩).k, (l.getD i.toNat ⟨0, 0, 0⟩).a, (l.getD i.toNat ⟨0, 0, 0⟩).b⟩)), (2, eS none 0 0)]) An ?_
     clear hf; intro a hf
     refine wpList_nil ?_
     refine hK10 _ _ ?_
     refine wp_ret ?_
     refine qr (fn := Tryd.f27) hf hM [] (l := [.slice none 0 0, iV (vcheck ⟨(l.getD i.toNat ⟨0, 0, 0⟩).k, (l.getD i.toNat ⟨0, 0, 0⟩).a, (l.getD i.toNat ⟨0, 0, 0⟩).b⟩)]) (ob := []) An ?_
     show ∃ a' c', (.tuple #[.slice none 0 0, iV (vcheck ⟨(l.getD i.toNat ⟨0, 0, 0⟩).k, (l.getD i.toNat ⟨0, 0, 0⟩).a, (l.getD i.toNat ⟨0, 0, 0⟩).b⟩)] : Value) = .tuple #[.slice a' (byKinds l 10).length c', .int .i64 0] ∧ Keep Nn w w3 ∧ World.ownsRow w3 w.heap.size 59 3 (.slice a' (byKinds l 10).length c') (byKinds l 10).length (flat fV (byKinds l 10))
     exfalso; have h1 := firstBad_step (l := l) (i := i.toNat) (d := ⟨0, 0, 0⟩) (by omega); have h2 : ¬ vcheck (l.getD i.toNat ⟨0, 0, 0⟩) = 0 := (by assumption); rw [if_neg h2, hfb, hn] at h1; exact h2 h1.symm
   · have hc2 := (nM hc2r)
     refine wp_skip ?_
     refine hK6 _ _ ?_
     refine wp_region_lit ?_
     refine q0 hf hM [0, 12, 13] [{ hint := some (iV (i + 1)) }, {}] (nw := [(14, eI (i + 1))]) (ob := [(iV (IntKind.i64.wrap (i + 1)) : Value) = (iV (i + 1) : Value)]) (Ao (wr (by omega))) ?_
     clear hf; intro a hf
     refine wpList_nil ?_
     have hfb2 : firstBad (l.drop (i + 1).toNat) = firstBad l := by
       have h1 := firstBad_step (l := l) (i := i.toNat) (d := ⟨0, 0, 0⟩) (by omega)
       have h2 : vcheck (l.getD i.toNat ⟨0, 0, 0⟩) = 0 := by assumption
       rw [h2, if_pos rfl, hfb] at h1
       rw [h1, show (i + 1).toNat = i.toNat + 1 by omega]
     have hf := (hf.prune [0, 12, 13, 14]).to (env' := [(0, eS av l.length c), (12, eS av l.length c), (13, eI (l.length : Int)), (14, eI (i + 1))]) (by kernel_rfl)
     replace hM : MemOk [] w3 := hM.sub (.cons _ .slnil)
     refine hL1 _ _ _ (by omega) ⟨i + 1, rfl, hf.conv (Ac rfl (Ac rfl (Ac rfl (Ao rfl)))), hM, hk0, (by omega), hfb2⟩
 · have hc1 := (nU hc1r)
   refine wp_exit ?_
   refine hK2 _ _ ?_
   refine wp_seq_k (fun K11 hK11 => ?_)
   refine wp_region_lit ?_
   refine sxbslice hf hM (t := 23) (e := 59) (len := 0) (cs := []) (ob := []) rfl rfl rfl rfl (by as_aux_lemma => kernel_rfl) An (by as_aux_lemma => kernel_rfl) ?_
   clear hf hM; intro a w4 B10 hf hM hB hk
   replace hM : MemOk [⟨B10, 59, []⟩] w4 := hM
   have hbB10 : w.heap.size ≤ B10 := by have := hk0.size; omega
   have hk0 := hk0.trans hk.nn
   clear hk hB
   refine q0 hf hM [0] [{}] (nw := [(7, eS (some ⟨B10, 0, none⟩) 0 0)]) An ?_
   clear hf; intro a hf
   refine wpList_nil ?_
   refine hK11 _ _ ?_
   refine wp_seq_k (fun K12 hK12 => ?_)
   refine wp_seq_k (fun K13 hK13 => ?_)
   refine wp_region_lit ?_
   refine q0 hf hM [7, 0] [{}] (nw := [(8, eI 0)]) An ?_
   clear hf; intro a hf
   refine wpList_nil ?_
   refine hK13 _ _ ?_
   refine wp_block ?_
   have hO : OwnOk w.heap.size [⟨B10, 59, []⟩] [] w4 := OwnOk.nil hM
   replace hO := OwnOk.took (M1 := []) (M2 := []) (sz := 3) hO hM (n := 0) (c := 0) (by have := hk0.size; omega) (by decide) (by decide) rfl
   replace hM : MemOk [] w4 := hM.sub (.cons _ .slnil)
   replace hO : OwnOk w.heap.size [] [⟨59, 3, .slice (some ⟨B10, 0, none⟩) 0 0, 0, flat fV ([] : List V3)⟩] w4 := hO
   have hf := (hf.prune [0, 7, 8]).to (env' := [(0, eS av l.length c), (7, eS (some ⟨B10, 0, none⟩) 0 0), (8, eI 0)]) (by kernel_rfl)
   replace hO : OwnOk w.heap.size [] [⟨59, 3, .slice (some ⟨B10, 0, none⟩) ((byKinds l (0 : Int).toNat).length) 0, (byKinds l (0 : Int).toNat).length, flat fV (byKinds l (0 : Int).toNat)⟩] w4 := by
    first | exact hO | (have e : ([⟨59, 3, .slice (some ⟨B10, 0, none⟩) 0 0, 0, flat fV ([] : List V3)⟩] : List Own) = [⟨59, 3, .slice (some ⟨B10, 0, none⟩) ((byKinds l (0 : Int).toNat).length) 0, (byKinds l (0 : Int).toNat).length, flat fV (byKinds l (0 : Int).toNat)⟩] := by rfl) <;> (rw [← e]; exact hO)
   refine sxloop (fun zm a w1 => ∃ (kk : Int) (a7 : Option Addr) (c7 : Nat), zm = (10 - kk).toNat ∧ Fr 49 [(0, eS av l.length c), (7, eS a7 (byKinds l kk.toNat).length c7), (8, eI kk)] a ∧ MemOk [] w1 ∧ Keep Nn w w1 ∧ OwnOk w.heap.size [] [⟨59, 3, .slice a7 (byKinds l kk.toNat).length c7, (byKinds l kk.toNat).length, flat fV (byKinds l kk.toNat)⟩] w1 ∧ (0 ≤ kk ∧ kk ≤ 10) ∧ (∀ j : Int, 0 ≤ j → j < kk → (l.map (·.k)).count j ≤ 1)) _ ⟨0, some ⟨B10, 0, none⟩, 0, rfl, hf.conv (Ac rfl (Ac rfl (Ao rfl))), hM, hk0, hO, (by omega), (fun j h1 h2 => by omega)⟩ ?_
   clear hf hM hk0 hO
   rintro _ a w5 ⟨kk, a7, c7, rfl, hf, hM, hk0, hO, hkk, hcn⟩ L2 hL2
   refine wp_seq_k (fun K14 hK14 => ?_)
   refine wp_seq_k (fun K15 hK15 => ?_)
   refine wp_region_lit ?_
   refine q0 hf hM [0, 7, 8] [{}, {}] (nw := [(26, eB (decide ((kk : Int) < 10)))]) An ?_
   clear hf; intro a hf
   refine wpList_nil ?_
   refine hK15 _ _ ?_
   refine qc hf (b := (decide ((kk : Int) < 10))) (fun hc3r => ?_) (fun hc3r => ?_)
   · have hc3 := (nT hc3r)
     refine wp_skip ?_
     refine hK14 _ _ ?_
     refine wp_seq_k (fun K16 hK16 => ?_)
     refine wp_block ?_
     refine wp_seq_k (fun K17 hK17 => ?_)
     refine wp_region_lit ?_
     refine q0 hf hM [0, 7, 8] [{}] (nw := [(9, eI 0)]) An ?_
     clear hf; intro a hf
     refine wpList_nil ?_
     refine hK17 _ _ ?_
     refine wp_seq_k (fun K18 hK18 => ?_)
     refine wp_seq_k (fun K19 hK19 => ?_)
     refine wp_region_lit ?_
     refine q0 hf hM [9, 0, 7, 8] [{}, {}, {}] (nw := [(31, eI 0), (30, eI (l.length : Int)), (29, eS av l.length c)]) An ?_
     clear hf; intro a hf
     refine wpList_nil ?_
     refine hK19 _ _ ?_
     refine wp_block ?_
     have hz1 := cntTo_zero l kk; have hz2 := upTo_zero l kk
     have hf := (hf.prune [0, 7, 8, 9, 29, 30, 31]).to (env' := [(0, eS av l.length c), (7, eS a7 (byKinds l kk.toNat).length c7), (8, eI kk), (9, eI 0), (29, eS av l.length c), (30, eI (l.length : Int)), (31, eI 0)]) (by kernel_rfl)
     replace hO : OwnOk w.heap.size [] [⟨59, 3, .slice a7 (upTo l kk 0).length c7, (upTo l kk 0).length, flat fV (upTo l kk 0)⟩] w5 := by
      first | exact hO | (have e : ([⟨59, 3, .slice a7 (byKinds l kk.toNat).length c7, (byKinds l kk.toNat).length, flat fV (byKinds l kk.toNat)⟩] : List Own) = [⟨59, 3, .slice a7 (upTo l kk 0).length c7, (upTo l kk 0).length, flat fV (upTo l kk 0)⟩] := by rw [upTo_zero]) <;> (rw [← e]; exact hO)
     refine sxloop (fun zm a w1 => ∃ (i : Int) (a8 : Option Addr) (c8 : Nat), zm = ((l.length : Int) - i).toNat ∧ Fr 49 [(0, eS av l.length c), (7, eS a8 (upTo l kk i).length c8), (8, eI kk), (9, eI (cntTo l kk i)), (29, eS av l.length c), (30, eI (l.length : Int)), (31, eI i)] a ∧ MemOk [] w1 ∧ Keep Nn w w1 ∧ OwnOk w.heap.size [] [⟨59, 3, .slice a8 (upTo l kk i).length c8, (upTo l kk i).length, flat fV (upTo l kk i)⟩] w1 ∧ (0 ≤ i ∧ i ≤ (l.length : Int))) _ ⟨0, a7, c7, rfl, hf.conv (Ac rfl (Ac (by rw [hz2]; rfl) (Ac rfl (Ac (congrArg _ hz1.symm) (Ac rfl (Ac rfl (Ao rfl))))))), hM, hk0, hO, (by omega)⟩ ?_
     clear hf hM hk0 hO
     rintro _ a w6 ⟨i, a8, c8, rfl, hf, hM, hk0, hO, hi⟩ L3 hL3
     have hul := upTo_len l kk i
     have hct := cntTo_le l kk i
     refine wp_seq_k (fun K20 hK20 => ?_)
     refine wp_region_lit ?_
     refine q0 hf hM [0, 7, 8, 9, 29, 30, 31] [{}] (nw := [(32, eB (decide ((i : Int) < (l.length : Int))))]) An ?_
     clear hf; intro a hf
     refine wpList_nil ?_
     refine hK20 _ _ ?_
     refine wp_seq_k (fun K21 hK21 => ?_)
     refine qc hf (b := (decide ((i : Int) < (l.length : Int)))) (fun hc4r => ?_) (fun hc4r => ?_)
     · have hc4 := (nT hc4r)
       refine wp_skip ?_
       refine hK21 _ _ ?_
       refine wp_seq_k (fun K22 hK22 => ?_)
       refine wp_block ?_
       refine wp_seq_k (fun K23 hK23 => ?_)
       refine wp_region_lit ?_
       refine q1 hf hM [0, 7, 8, 9, 29, 30, 31] [{ sp := true }, { os := [.ex (iV (l.getD i.toNat ⟨0, 0, 0⟩).k), .ex (iV (l.getD i.toNat ⟨0, 0, 0⟩).a), .ex (iV (l.getD i.toNat ⟨0, 0, 0⟩).b)] }, { os := [.nw] }, { os := [.st 0 0, .st 0 1, .st 0 2] }] (nw := fun B17 => [(11, eP B17 0)]) (M' := fun B17 => [⟨B17, 59, [iV (l.getD i.toNat ⟨0, 0, 0⟩).k, iV (l.getD i.toNat ⟨0, 0, 0⟩).a, iV (l.getD i.toNat ⟨0, 0, 0⟩).b]⟩]) (ob := fun B17 => [(0 : Int) ≤ i ∧ i < (l.length : Int), (av : Option Addr).isSome = true, w6.cell? (((sa av : Addr).add (i.toNat * 3)).add 0) = some (iV (l.getD i.toNat ⟨0, 0, 0⟩).k), w6.cell? (((sa av : Addr).add (i.toNat * 3)).add 1) = some (iV (l.getD i.toNat ⟨0, 0, 0⟩).a), w6.cell? (((sa av : Addr).add (i.toNat * 3)).add 2) = some (iV (l.getD i.toNat ⟨0, 0, 0⟩).b), Ad B17 0, Ad B17 1, Ad B17 2]) (fun B17 => (Ac (by first | omega | (simp; done)) (Ac ((hav.keepNn hk0).some_ (by first | omega | (simp; done))) (Ac ((hav.keepNn hk0).get (fun _ => rfl) (by first | omega | (simp; done)) rfl) (Ac ((hav.keepNn hk0).get (fun _ => rfl) (by first | omega | (simp; done)) rfl) (Ac ((hav.keepNn hk0).get (fun _ => rfl) (by first | omega | (simp; done)) rfl) (Ac (ad _ _) (Ac (ad _ _) (Ao (ad _ _)))))))))) ?_
       clear hf hM; intro a w7 B17 hf hM hB hk
       have hbB17 : w.heap.size ≤ B17 := by have := hk0.size; omega
       have hk0 := hk0.then hk (by intro i _ h; cases h)
       have hO := hO.step hM (hk.mono (by intro _ _ h; cases h)) (by intro i h; simp only [Mem.names, List.map_cons, List.map_nil, List.mem_cons, List.not_mem_nil, or_false, List.map_append, List.cons_append, List.nil_append] at h ⊢; omega)
       clear hk hB
       refine wpList_nil ?_
       refine hK23 _ _ ?_
       refine wp_seq_k (fun K24 hK24 => ?_)
       refine wp_region_lit ?_
       refine q0 hf hM [11, 0, 7, 8, 9, 29, 30, 31] [{}, { os := [.ld 0 0] }, {}, {}] (nw := [(38, eB (((l.getD i.toNat ⟨0, 0, 0⟩).k : Int) == kk))]) (ob := [Ad B17 0]) (Ao (ad _ _)) ?_
       clear hf; intro a hf
       refine wpList_nil ?_
       refine hK24 _ _ ?_
       refine qc hf (b := (((l.getD i.toNat ⟨0, 0, 0⟩).k : Int) == kk)) (fun hc5r => ?_) (fun hc5r => ?_)
       · have hc5 := (nE hc5r)
         refine wp_seq_k (fun K25 hK25 => ?_)
         refine wp_region_lit ?_
         refine q0 hf hM [0, 7, 8, 9, 29, 30, 31] [{}, { os := [.ld 0 0, .ld 0 1, .ld 0 2] }] (nw := [(40, .val (.agg #[iV (l.getD i.toNat ⟨0, 0, 0⟩).k, iV (l.getD i.toNat ⟨0, 0, 0⟩).a, iV (l.getD i.toNat ⟨0, 0, 0⟩).b])), (39, eS a8 (upTo l kk i).length c8)]) (ob := [Ad B17 0, Ad B17 1, Ad B17 2]) (Ac (ad _ _) (Ac (ad _ _) (Ao (ad _ _)))) ?_
         clear hf; intro a hf
         refine sxbslice hf hM (t := 23) (e := 59) (len := 1) (cs := [iV (l.getD i.toNat ⟨0, 0, 0⟩).k, iV (l.getD i.toNat ⟨0, 0, 0⟩).a, iV (l.getD i.toNat ⟨0, 0, 0⟩).b]) (ob := []) rfl rfl rfl rfl (by as_aux_lemma => kernel_rfl) An (by as_aux_lemma => kernel_rfl) ?_
         clear hf hM; intro a w8 B20 hf hM hB hk
         replace hM : MemOk [⟨B17, 59, [iV (l.getD i.toNat ⟨0, 0, 0⟩).k, iV (l.getD i.toNat ⟨0, 0, 0⟩).a, iV (l.getD i.toNat ⟨0, 0, 0⟩).b]⟩, ⟨B20, 59, [iV (l.getD i.toNat ⟨0, 0, 0⟩).k, iV (l.getD i.toNat ⟨0, 0, 0⟩).a, iV (l.getD i.toNat ⟨0, 0, 0⟩).b]⟩] w8 := hM
         have hbB20 : w.heap.size ≤ B20 := by have := hk0.size; omega
         have hk0 := hk0.trans hk.nn
         have hO := hO.step hM hk.nn (by intro i h; simp only [Mem.names, List.map_cons, List.map_nil, List.mem_cons, List.not_mem_nil, or_false, List.map_append, List.cons_append, List.nil_append] at h ⊢; omega)
         clear hk hB
         replace hO : OwnOk w.heap.size [⟨B17, 59, [iV (l.getD i.toNat ⟨0, 0, 0⟩).k, iV (l.getD i.toNat ⟨0, 0, 0⟩).a, iV (l.getD i.toNat ⟨0, 0, 0⟩).b]⟩, ⟨B20, 59, [iV (l.getD i.toNat ⟨0, 0, 0⟩).k, iV (l.getD i.toNat ⟨0, 0, 0⟩).a, iV (l.getD i.toNat ⟨0, 0, 0⟩).b]⟩] [⟨59, 3, .slice a8 (upTo l kk i).length c8, (upTo l kk i).length, flat fV (upTo l kk i)⟩] w8 := OwnOk.front (l1 := []) (l2 := []) hO
         refine sxappend hf hM (e := 59) (sz := 3) (by_ := 24) (k := (upTo l kk i).length) (v := .slice a8 (upTo l kk i).length c8) (xs := flat fV (upTo l kk i)) hO rfl rfl rfl rfl (av := some ⟨B20, 0, none⟩) (m := 1) (c := 1) rfl rfl Tryd.underlying23 (by kernel_rfl) rfl (news := flat fV ([⟨(l.getD i.toNat ⟨0, 0, 0⟩).k, (l.getD i.toNat ⟨0, 0, 0⟩).a, (l.getD i.toNat ⟨0, 0, 0⟩).b⟩] : List V3)) (Arr.of_memT (sz := 3) (f := fV) (L := ([⟨(l.getD i.toNat ⟨0, 0, 0⟩).k, (l.getD i.toNat ⟨0, 0, 0⟩).a, (l.getD i.toNat ⟨0, 0, 0⟩).b⟩] : List V3)) (l := ([⟨(l.getD i.toNat ⟨0, 0, 0⟩).k, (l.getD i.toNat ⟨0, 0, 0⟩).a, (l.getD i.toNat ⟨0, 0, 0⟩).b⟩] : List V3)) hM (List.Mem.tail _ (List.Mem.head _)) (fun _ => rfl) rfl rfl) (flat_one1 fV_one) (by simp only [maxLen]; constructor <;> (first | omega | (simp; omega))) (by have := hk0.size; omega) ?_
         clear hf hM hO; intro a w9 av1 cv1 hf hM hO hk
         have en : ((upTo l kk i).length + 1 : Nat) = ((upTo l kk i) ++ ([⟨(l.getD i.toNat ⟨0, 0, 0⟩).k, (l.getD i.toNat ⟨0, 0, 0⟩).a, (l.getD i.toNat ⟨0, 0, 0⟩).b⟩] : List V3)).length := (by first | (simp; done) | (simp; omega))
         have ec : flat fV (upTo l kk i) ++ flat fV ([⟨(l.getD i.toNat ⟨0, 0, 0⟩).k, (l.getD i.toNat ⟨0, 0, 0⟩).a, (l.getD i.toNat ⟨0, 0, 0⟩).b⟩] : List V3) = flat fV ((upTo l kk i) ++ ([⟨(l.getD i.toNat ⟨0, 0, 0⟩).k, (l.getD i.toNat ⟨0, 0, 0⟩).a, (l.getD i.toNat ⟨0, 0, 0⟩).b⟩] : List V3)) := (by first | rfl | exact (flat_app _ _ _).symm | simp [flat_app, flat_nil])
         rw [en] at hf hO; rw [ec] at hO; clear en ec
         replace hO : OwnOk w.heap.size [⟨B17, 59, [iV (l.getD i.toNat ⟨0, 0, 0⟩).k, iV (l.getD i.toNat ⟨0, 0, 0⟩).a, iV (l.getD i.toNat ⟨0, 0, 0⟩).b]⟩, ⟨B20, 59, [iV (l.getD i.toNat ⟨0, 0, 0⟩).k, iV (l.getD i.toNat ⟨0, 0, 0⟩).a, iV (l.getD i.toNat ⟨0, 0, 0⟩).b]⟩] [⟨59, 3, .slice av1 (((upTo l kk i) ++ ([⟨(l.getD i.toNat ⟨0, 0, 0⟩).k, (l.getD i.toNat ⟨0, 0, 0⟩).a, (l.getD i.toNat ⟨0, 0, 0⟩).b⟩] : List V3)).length) cv1, ((upTo l kk i) ++ ([⟨(l.getD i.toNat ⟨0, 0, 0⟩).k, (l.getD i.toNat ⟨0, 0, 0⟩).a, (l.getD i.toNat ⟨0, 0, 0⟩).b⟩] : List V3)).length, flat fV ((upTo l kk i) ++ ([⟨(l.getD i.toNat ⟨0, 0, 0⟩).k, (l.getD i.toNat ⟨0, 0, 0⟩).a, (l.getD i.toNat ⟨0, 0, 0⟩).b⟩] : List V3))⟩] w9 := hO
         have hk0 := hk0.then hk (by intro i hi h; have := h.1; omega)
         clear hk
         refine q0 hf hM [0, 8, 9, 29, 30, 31] [{}] (nw := [(7, eS av1 (((upTo l kk i) ++ ([⟨(l.getD i.toNat ⟨0, 0, 0⟩).k, (l.getD i.toNat ⟨0, 0, 0⟩).a, (l.getD i.toNat ⟨0, 0, 0⟩).b⟩] : List V3)).length) cv1)]) An ?_
         clear hf; intro a hf
         refine wpList_nil ?_
         refine hK25 _ _ ?_
         refine wp_region_lit ?_
         refine q0 hf hM [7, 0, 8, 29, 30, 31] [{}, { hint := some (iV ((cntTo l kk i) + 1)) }, {}] (nw := [(9, eI ((cntTo l kk i) + 1))]) (ob := [(iV (IntKind.i64.wrap ((cntTo l kk i) + 1)) : Value) = (iV ((cntTo l kk i) + 1) : Value)]) (Ao (wr (by omega))) ?_
         clear hf; intro a hf
         refine wpList_nil ?_
         refine hK22 _ _ ?_
         refine wp_region_lit ?_
         refine q0 hf hM [9, 7, 0, 8, 29, 30] [{ hint := some (iV (i + 1)) }, {}] (nw := [(31, eI (i + 1))]) (ob := [(iV (IntKind.i64.wrap (i + 1)) : Value) = (iV (i + 1) : Value)]) (Ao (wr (by omega))) ?_
         clear hf; intro a hf
         refine wpList_nil ?_
         have hf := (hf.prune [0, 7, 8, 9, 29, 30, 31]).to (env' := [(0, eS av l.length c), (7, eS av1 (((upTo l kk i) ++ ([⟨(l.getD i.toNat ⟨0, 0, 0⟩).k, (l.getD i.toNat ⟨0, 0, 0⟩).a, (l.getD i.toNat ⟨0, 0, 0⟩).b⟩] : List V3)).length) cv1), (8, eI kk), (9, eI ((cntTo l kk i) + 1)), (29, eS av l.length c), (30, eI (l.length : Int)), (31, eI (i + 1))]) (by kernel_rfl)
         replace hO : OwnOk w.heap.size [] [⟨59, 3, .slice av1 (((upTo l kk i) ++ ([⟨(l.getD i.toNat ⟨0, 0, 0⟩).k, (l.getD i.toNat ⟨0, 0, 0⟩).a, (l.getD i.toNat ⟨0, 0, 0⟩).b⟩] : List V3)).length) cv1, ((upTo l kk i) ++ ([⟨(l.getD i.toNat ⟨0, 0, 0⟩).k, (l.getD i.toNat ⟨0, 0, 0⟩).a, (l.getD i.toNat ⟨0, 0, 0⟩).b⟩] : List V3)).length, flat fV ((upTo l kk i) ++ ([⟨(l.getD i.toNat ⟨0, 0, 0⟩).k, (l.getD i.toNat ⟨0, 0, 0⟩).a, (l.getD i.toNat ⟨0, 0, 0⟩).b⟩] : List V3))⟩] w9 := hO.sub (.cons _ (.cons _ .slnil)) (List.Sublist.refl _)
         replace hM : MemOk [] w9 := hM.sub (.cons _ (.cons _ .slnil))
         replace hO : OwnOk w.heap.size [] [⟨59, 3, .slice av1 ((upTo l kk (i + 1)).length) cv1, (upTo l kk (i + 1)).length, flat fV (upTo l kk (i + 1))⟩] w9 := by
          first | exact hO | (have e : ([⟨59, 3, .slice av1 (((upTo l kk i) ++ ([⟨(l.getD i.toNat ⟨0, 0, 0⟩).k, (l.getD i.toNat ⟨0, 0, 0⟩).a, (l.getD i.toNat ⟨0, 0, 0⟩).b⟩] : List V3)).length) cv1, ((upTo l kk i) ++ ([⟨(l.getD i.toNat ⟨0, 0, 0⟩).k, (l.getD i.toNat ⟨0, 0, 0⟩).a, (l.getD i.toNat ⟨0, 0, 0⟩).b⟩] : List V3)).length, flat fV ((upTo l kk i) ++ ([⟨(l.getD i.toNat ⟨0, 0, 0⟩).k, (l.getD i.toNat ⟨0, 0, 0⟩).a, (l.getD i.toNat ⟨0, 0, 0⟩).b⟩] : List V3))⟩] : List Own) = [⟨59, 3, .slice av1 ((upTo l kk (i + 1)).length) cv1, (upTo l kk (i + 1)).length, flat fV (upTo l kk (i + 1))⟩] := by first | (rw [upTo_in (d := ⟨0, 0, 0⟩) (by omega) (by assumption)]; try rfl) | (rw [upTo_out (d := ⟨0, 0, 0⟩) (by omega) (by assumption)]; try rfl)) <;> (rw [← e]; exact hO)
         refine hL3 _ _ _ (by omega) ⟨i + 1, av1, cv1, rfl, hf.conv (Ac rfl (Ac (by first | rfl | (congr 1; first | (rw [upTo_in (d := ⟨0, 0, 0⟩) (by omega) (by assumption)]; try rfl) | (rw [upTo_out (d := ⟨0, 0, 0⟩) (by omega) (by assumption)]; try rfl))) (Ac rfl (Ac (by congr 1; first | (rw [cntTo_in (d := ⟨0, 0, 0⟩) (by omega) (by assumption)]; done) | (rw [cntTo_out (d := ⟨0, 0, 0⟩) (by omega) (by assumption)]; done)) (Ac rfl (Ac rfl (Ao rfl))))))), hM, hk0, hO, (by omega)⟩
       · have hc5 := (nF hc5r)
         refine wp_skip ?_
         refine hK22 _ _ ?_
         refine wp_region_lit ?_
         refine q0 hf hM [0, 7, 8, 9, 29, 30] [{ hint := some (iV (i + 1)) }, {}] (nw := [(31, eI (i + 1))]) (ob := [(iV (IntKind.i64.wrap (i + 1)) : Value) = (iV (i + 1) : Value)]) (Ao (wr (by omega))) ?_
         clear hf; intro a hf
         refine wpList_nil ?_
         have hf := (hf.prune [0, 7, 8, 9, 29, 30, 31]).to (env' := [(0, eS av l.length c), (7, eS a8 (upTo l kk i).length c8), (8, eI kk), (9, eI (cntTo l kk i)), (29, eS av l.length c), (30, eI (l.length : Int)), (31, eI (i + 1))]) (by kernel_rfl)
         replace hO : OwnOk w.heap.size [] [⟨59, 3, .slice a8 (upTo l kk i).length c8, (upTo l kk i).length, flat fV (upTo l kk i)⟩] w7 := hO.sub (.cons _ .slnil) (List.Sublist.refl _)
         replace hM : MemOk [] w7 := hM.sub (.cons _ .slnil)
         replace hO : OwnOk w.heap.size [] [⟨59, 3, .slice a8 ((upTo l kk (i + 1)).length) c8, (upTo l kk (i + 1)).length, flat fV (upTo l kk (i + 1))⟩] w7 := by
          first | exact hO | (have e : ([⟨59, 3, .slice a8 (upTo l kk i).length c8, (upTo l kk i).length, flat fV (upTo l kk i)⟩] : List Own) = [⟨59, 3, .slice a8 ((upTo l kk (i + 1)).length) c8, (upTo l kk (i + 1)).length, flat fV (upTo l kk (i + 1))⟩] := by first | (rw [upTo_in (d := ⟨0, 0, 0⟩) (by omega) (by assumption)]; try rfl) | (rw [upTo_out (d := ⟨0, 0, 0⟩) (by omega) (by assumption)]; try rfl)) <;> (rw [← e]; exact hO)
         refine hL3 _ _ _ (by omega) ⟨i + 1, a8, c8, rfl, hf.conv (Ac rfl (Ac (by first | rfl | (congr 1; first | (rw [upTo_in (d := ⟨0, 0, 0⟩) (by omega) (by assumption)]; try rfl) | (rw [upTo_out (d := ⟨0, 0, 0⟩) (by omega) (by assumption)]; try rfl))) (Ac rfl (Ac (by congr 1; first | (rw [cntTo_in (d := ⟨0, 0, 0⟩) (by omega) (by assumption)]; done) | (rw [cntTo_out (d := ⟨0, 0, 0⟩) (by omega) (by assumption)]; done)) (Ac rfl (Ac rfl (Ao rfl))))))), hM, hk0, hO, (by omega)⟩
     · have hc4 := (nU hc4r)
       refine wp_exit ?_
       refine hK18 _ _ ?_
       refine wp_seq_k (fun K26 hK26 => ?_)
       refine wp_region_lit ?_
       refine q0 hf hM [0, 7, 8] [{}, {}] (nw := [(47, eB (decide (((cntTo l kk i) : Int) > 1)))]) An ?_
       clear hf; intro a hf
       refine wpList_nil ?_
       refine hK26 _ _ ?_
       refine qc hf (b := (decide (((cntTo l kk i) : Int) > 1))) (fun hc6r => ?_) (fun hc6r => ?_)
       · have hc6 := (nT hc6r)
         exfalso; have h5 := cntTo_end (l := l) (kk := kk) (i := i) (by omega); have h6 := count_one hn1 kk; omega
       · have hc6 := (nU hc6r)
         refine wp_skip ?_
         refine hK16 _ _ ?_
         refine wp_region_lit ?_
         refine q0 hf hM [0, 7] [{}, { hint := some (iV (kk + 1)) }, {}] (nw := [(8, eI (kk + 1))]) (ob := [(iV (IntKind.i64.wrap (kk + 1)) : Value) = (iV (kk + 1) : Value)]) (Ao (wr (by omega))) ?_
         clear hf; intro a hf
         refine wpList_nil ?_
         have hcn2 : ∀ j : Int, 0 ≤ j → j < kk + 1 → (l.map (·.k)).count j ≤ 1 := fun j h1 h2 => by
           by_cases hj : j < kk
           · exact hcn j h1 hj
           · obtain rfl : j = kk := by omega
             have h5 := cntTo_end (l := l) (kk := j) (i := i) (by omega)
             omega
         have hf := (hf.prune [0, 7, 8]).to (env' := [(0, eS av l.length c), (7, eS a8 (upTo l kk i).length c8), (8, eI (kk + 1))]) (by kernel_rfl)
         replace hO : OwnOk w.heap.size [] [⟨59, 3, .slice a8 ((byKinds l (kk + 1).toNat).length) c8, (byKinds l (kk + 1).toNat).length, flat fV (byKinds l (kk + 1).toNat)⟩] w6 := by
          first | exact hO | (have e : ([⟨59, 3, .slice a8 (upTo l kk i).length c8, (upTo l kk i).length, flat fV (upTo l kk i)⟩] : List Own) = [⟨59, 3, .slice a8 ((byKinds l (kk + 1).toNat).length) c8, (byKinds l (kk + 1).toNat).length, flat fV (byKinds l (kk + 1).toNat)⟩] := by rw [upTo_end (i := i) (by omega) (by omega)]) <;> (rw [← e]; exact hO)
         refine hL2 _ _ _ (by omega) ⟨kk + 1, a8, c8, rfl, hf.conv (Ac rfl (Ac (by rw [upTo_end (i := i) (by omega) (by omega)]; rfl) (Ao rfl))), hM, hk0, hO, (by omega), hcn2⟩
   · have hc3 := (nU hc3r)
     refine wp_exit ?_
     refine hK12 _ _ ?_
     refine wp_seq_k (fun K27 hK27 => ?_)
     refine wp_region_lit ?_
     refine q0 hf hM [] [{}, {}, {}] (nw := [(3, eI 0), (2, eS a7 (byKinds l kk.toNat).length c7)]) An ?_
     clear hf; intro a hf
     refine wpList_nil ?_
     refine hK27 _ _ ?_
     refine wp_ret ?_
     refine qr (fn := Tryd.f27) hf hM [] (l := [.slice a7 (byKinds l kk.toNat).length c7, iV 0]) (ob := []) An ?_
     show ∃ a' c', (.tuple #[.slice a7 (byKinds l kk.toNat).length c7, iV 0] : Value) = .tuple #[.slice a' (byKinds l 10).length c', .int .i64 0] ∧ Keep Nn w w5 ∧ World.ownsRow w5 w.heap.size 59 3 (.slice a' (byKinds l 10).length c') (byKinds l 10).length (flat fV (byKinds l 10))
     obtain rfl : kk = 10 := by omega
     exact ⟨_, _, rfl, hk0, hO.own _ (List.Mem.head _)⟩

set_option maxRecDepth 10000 in
set_option maxHeartbeats 1600000 in
theorem rrow_dup (av : Option Addr) (l : List V3) (c : Nat) (w : World) (hn0 : (firstBad l == 0) = true) (hn1 : (noDup l) = false) (hav : Arr w 3 av l.length c (flat fV l)) (hbav : l.length ≤ 1000000) :
    Calls Tryd.prog 27 #[.slice av l.length c] w (Ret fun v w' => v = .tuple #[.slice none 0 0, .int .i64 4] ∧ Keep Nn w w') := by
 refine sxenter (n := 49) (args := [.slice av l.length c]) Tryd.func27 rfl rfl rfl fun a hf => ?_
 replace hf : Fr 49 [(0, eS av l.length c)] a := hf
 have hM : MemOk [] w := MemOk.nil w
 have hk0 : Keep Nn w w := Keep.refl _ _
 have hn : firstBad l = 0 := by simpa using hn0
 refine wp_seq_k (fun K1 hK1 => ?_)
 refine wp_region_lit ?_
 refine q0 hf hM [0] [{}, {}] (nw := []) An ?_
 clear hf; intro a hf
 refine wpList_nil ?_
 refine hK1 _ _ ?_
 refine wp_seq_k (fun K2 hK2 => ?_)
 refine wp_seq_k (fun K3 hK3 => ?_)
 refine wp_region_lit ?_
 refine q0 hf hM [0] [{}, {}, {}] (nw := [(14, eI 0), (13, eI (l.length : Int)), (12, eS av l.length c)]) An ?_
 clear hf; intro a hf
 refine wpList_nil ?_
 refine hK3 _ _ ?_
 refine wp_block ?_
 have hf := (hf.prune [0, 12, 13, 14]).to (env' := [(0, eS av l.length c), (12, eS av l.length c), (13, eI (l.length : Int)), (14, eI 0)]) (by kernel_rfl)
 refine sxloop (fun zm a w1 => ∃ (i : Int), zm = ((l.length : Int) - i).toNat ∧ Fr 49 [(0, eS av l.length c), (12, eS av l.length c), (13, eI (l.length : Int)), (14, eI i)] a ∧ MemOk [] w1 ∧ Keep Nn w w1 ∧ (0 ≤ i ∧ i ≤ (l.length : Int)) ∧ (firstBad (l.drop i.toNat) = firstBad l)) _ ⟨0, rfl, hf.conv (Ac rfl (Ac rfl (Ac rfl (Ao rfl)))), hM, hk0, (by omega), rfl⟩ ?_
 clear hf hM hk0
 rintro _ a w1 ⟨i, rfl, hf, hM, hk0, hi, hfb⟩ L1 hL1
 refine wp_seq_k (fun K4 hK4 => ?_)
 refine wp_region_lit ?_
 refine q0 hf hM [0, 12, 13, 14] [{}] (nw := [(15, eB (decide ((i : Int) < (l.length : Int))))]) An ?_
 clear hf; intro a hf
 refine wpList_nil ?_
 refine hK4 _ _ ?_
 refine wp_seq_k (fun K5 hK5 => ?_)
 refine qc hf (b := (decide ((i : Int) < (l.length : Int)))) (fun hc1r => ?_) (fun hc1r => ?_)
 · have hc1 := (nT hc1r)
   refine wp_skip ?_
   refine hK5 _ _ ?_
   refine wp_seq_k (fun K6 hK6 => ?_)
   refine wp_block ?_
   refine wp_seq_k (fun K7 hK7 => ?_)
   refine wp_region_lit ?_
   refine q1 hf hM [0, 12, 13, 14] [{ sp := true }, { os := [.ex (iV (l.getD i.toNat ⟨0, 0, 0⟩).k), .ex (iV (l.getD i.toNat ⟨0, 0, 0⟩).a), .ex (iV (l.getD i.toNat ⟨0, 0, 0⟩).b)] }, { os := [.nw] }, { os := [.st 0 0, .st 0 1, .st 0 2] }] (nw := fun B4 => [(5, eP B4 0)]) (M' := fun B4 => [⟨B4, 59, [iV (l.getD i.toNat ⟨0, 0, 0⟩).k, iV (l.getD i.toNat ⟨0, 0, 0⟩).a, iV (l.getD i.toNat ⟨0, 0, 0⟩).b]⟩]) (ob := fun B4 => [(0 : Int) ≤ i ∧ i < (l.length : Int), (av : Option Addr).isSome = true, w1.cell? (((sa av : Addr).add (i.toNat * 3)).add 0) = some (iV (l.getD i.toNat ⟨0, 0, 0⟩).k), w1.cell? (((sa av : Addr).add (i.toNat * 3)).add 1) = some (iV (l.getD i.toNat ⟨0, 0, 0⟩).a), w1.cell? (((sa av : Addr).add (i.toNat * 3)).add 2) = some (iV (l.getD i.toNat ⟨0, 0, 0⟩).b), Ad B4 0, Ad B4 1, Ad B4 2]) (fun B4 => (Ac (by first | omega | (simp; done)) (Ac ((hav.keepNn hk0).some_ (by first | omega | (simp; done))) (Ac ((hav.keepNn hk0).get (fun _ => rfl) (by first | omega | (simp; done)) rfl) (Ac ((hav.keepNn hk0).get (fun _ => rfl) (by first | omega | (simp; done)) rfl) (Ac ((hav.keepNn hk0).get (fun _ => rfl) (by first | omega | (simp; done)) rfl) (Ac (ad _ _) (Ac (ad _ _) (Ao (ad _ _)))))))))) ?_
   clear hf hM; intro a w2 B4 hf hM hB hk
   have hbB4 : w.heap.size ≤ B4 := by have := hk0.size; omega
   have hk0 := hk0.then hk (by intro i _ h; cases h)
   clear hk hB
   refine wpList_nil ?_
   refine hK7 _ _ ?_
   refine wp_seq_k (fun K8 hK8 => ?_)
   refine wp_region_lit ?_
   refine q0 hf hM [0, 12, 13, 14] [{ os := [.ld 0 0, .ld 0 1, .ld 0 2] }] (nw := [(18, .val (.agg #[iV (l.getD i.toNat ⟨0, 0, 0⟩).k, iV (l.getD i.toNat ⟨0, 0, 0⟩).a, iV (l.getD i.toNat ⟨0, 0, 0⟩).b]))]) (ob := [Ad B4 0, Ad B4 1, Ad B4 2]) (Ac (ad _ _) (Ac (ad _ _) (Ao (ad _ _)))) ?_
   clear hf; intro a hf
   refine sxcall hf rfl rfl rfl rfl (g := 48) (vs := [.agg #[iV (l.getD i.toNat ⟨0, 0, 0⟩).k, iV (l.getD i.toNat ⟨0, 0, 0⟩).a, iV (l.getD i.toNat ⟨0, 0, 0⟩).b]]) (ob := []) (by as_aux_lemma => kernel_rfl) An enters48 (rcheck (l.getD i.toNat ⟨0, 0, 0⟩).k (l.getD i.toNat ⟨0, 0, 0⟩).a (l.getD i.toNat ⟨0, 0, 0⟩).b w2  ) ?_
   clear hf; rintro _ w3 a ⟨rfl, hk⟩ hf
   have hM := hM.keepNn hk
   have hk0 := hk0.trans hk.nn
   clear hk
   refine q0 hf hM [0, 12, 13, 14] [{}] (nw := [(6, eI (vcheck ⟨(l.getD i.toNat ⟨0, 0, 0⟩).k, (l.getD i.toNat ⟨0, 0, 0⟩).a, (l.getD i.toNat ⟨0, 0, 0⟩).b⟩))]) An ?_
   clear hf; intro a hf
   refine wpList_nil ?_
   refine hK8 _ _ ?_
   refine wp_seq_k (fun K9 hK9 => ?_)
   refine wp_region_lit ?_
   refine q0 hf hM [6, 0, 12, 13, 14] [{}, {}] (nw := [(21, eB (((vcheck ⟨(l.getD i.toNat ⟨0, 0, 0⟩).k, (l.getD i.toNat ⟨0, 0, 0⟩).a, (l.getD i.toNat ⟨0, 0, 0⟩).b⟩) : Int) != 0))]) An ?_
   clear hf; intro a hf
   refine wpList_nil ?_
   refine hK9 _ _ ?_
   refine qc hf (b := (((vcheck ⟨(l.getD i.toNat ⟨0, 0, 0⟩).k, (l.getD i.toNat ⟨0, 0, 0⟩).a, (l.getD i.toNat ⟨0, 0, 0⟩).b⟩) : Int) != 0)) (fun hc2r => ?_) (fun hc2r => ?_)
   · have hc2 := (nN hc2r)
     refine wp_seq_k (fun K10 hK10 => ?_)
     refine wp_region_lit ?_
     refine q0 hf hM [] [{}, {}, {}] (nw := [(3, eI (vcheck ⟨(l.getD i.toNat ⟨0, 0, 0⟩).k, (l.getD i.toNat ⟨0, 0, 0⟩).a, (l.getD i.toNat ⟨0, 0, 0⟩).b⟩)), (2, eS none 0 0)]) An ?_
     clear hf; intro a hf
     refine wpList_nil ?_
     refine hK10 _ _ ?_
     refine wp_ret ?_
     refine qr (fn := Tryd.f27) hf hM [] (l := [.slice none 0 0, iV (vcheck ⟨(l.getD i.toNat ⟨0, 0, 0⟩).k, (l.getD i.toNat ⟨0, 0, 0⟩).a, (l.getD i.toNat ⟨0, 0, 0⟩).b⟩)]) (ob := []) An ?_
     show (.tuple #[.slice none 0 0, iV (vcheck ⟨(l.getD i.toNat ⟨0, 0, 0⟩).k, (l.getD i.toNat ⟨0, 0, 0⟩).a, (l.getD i.toNat ⟨0, 0, 0⟩).b⟩)] : Value) = .tuple #[.slice none 0 0, .int .i64 4] ∧ Keep Nn w w3
     first | exact ⟨rfl, hk0⟩ | (exfalso; have h1 := firstBad_step (l := l) (i := i.toNat) (d := ⟨0, 0, 0⟩) (by omega); have h2 : ¬ vcheck (l.getD i.toNat ⟨0, 0, 0⟩) = 0 := (by assumption); rw [if_neg h2, hfb, hn] at h1; exact h2 h1.symm)
   · have hc2 := (nM hc2r)
     refine wp_skip ?_
     refine hK6 _ _ ?_
     refine wp_region_lit ?_
     refine q0 hf hM [0, 12, 13] [{ hint := some (iV (i + 1)) }, {}] (nw := [(14, eI (i + 1))]) (ob := [(iV (IntKind.i64.wrap (i + 1)) : Value) = (iV (i + 1) : Value)]) (Ao (wr (by omega))) ?_
     clear hf; intro a hf
     refine wpList_nil ?_
     have hfb2 : firstBad (l.drop (i + 1).toNat) = firstBad l := by
       have h1 := firstBad_step (l := l) (i := i.toNat) (d := ⟨0, 0, 0⟩) (by omega)
       have h2 : vcheck (l.getD i.toNat ⟨0, 0, 0⟩) = 0 := by assumption
       rw [h2, if_pos rfl, hfb] at h1
       rw [h1, show (i + 1).toNat = i.toNat + 1 by omega]
     have hf := (hf.prune [0, 12, 13, 14]).to (env' := [(0, eS av l.length c), (12, eS av l.length c), (13, eI (l.length : Int)), (14, eI (i + 1))]) (by kernel_rfl)
     replace hM : MemOk [] w3 := hM.sub (.cons _ .slnil)
     refine hL1 _ _ _ (by omega) ⟨i + 1, rfl, hf.conv (Ac rfl (Ac rfl (Ac rfl (Ao rfl)))), hM, hk0, (by omega), hfb2⟩
 · have hc1 := (nU hc1r)
   refine wp_exit ?_
   refine hK2 _ _ ?_
   refine wp_seq_k (fun K11 hK11 => ?_)
   refine wp_region_lit ?_
   refine sxbslice hf hM (t := 23) (e := 59) (len := 0) (cs := []) (ob := []) rfl rfl rfl rfl (by as_aux_lemma => kernel_rfl) An (by as_aux_lemma => kernel_rfl) ?_
   clear hf hM; intro a w4 B10 hf hM hB hk
   replace hM : MemOk [⟨B10, 59, []⟩] w4 := hM
   have hbB10 : w.heap.size ≤ B10 := by have := hk0.size; omega
   have hk0 := hk0.trans hk.nn
   clear hk hB
   refine q0 hf hM [0] [{}] (nw := [(7, eS (some ⟨B10, 0, none⟩) 0 0)]) An ?_
   clear hf; intro a hf
   refine wpList_nil ?_
   refine hK11 _ _ ?_
   refine wp_seq_k (fun K12 hK12 => ?_)
   refine wp_seq_k (fun K13 hK13 => ?_)
   refine wp_region_lit ?_
   refine q0 hf hM [7, 0] [{}] (nw := [(8, eI 0)]) An ?_
   clear hf; intro a hf
   refine wpList_nil ?_
   refine hK13 _ _ ?_
   refine wp_block ?_
   have hO : OwnOk w.heap.size [⟨B10, 59, []⟩] [] w4 := OwnOk.nil hM
   replace hO := OwnOk.took (M1 := []) (M2 := []) (sz := 3) hO hM (n := 0) (c := 0) (by have := hk0.size; omega) (by decide) (by decide) rfl
   replace hM : MemOk [] w4 := hM.sub (.cons _ .slnil)
   replace hO : OwnOk w.heap.size [] [⟨59, 3, .slice (some ⟨B10, 0, none⟩) 0 0, 0, flat fV ([] : List V3)⟩] w4 := hO
   have hf := (hf.prune [0, 7, 8]).to (env' := [(0, eS av l.length c), (7, eS (some ⟨B10, 0, none⟩) 0 0), (8, eI 0)]) (by kernel_rfl)
   replace hO : OwnOk w.heap.size [] [⟨59, 3, .slice (some ⟨B10, 0, none⟩) ((byKinds l (0 : Int).toNat).length) 0, (byKinds l (0 : Int).toNat).length, flat fV (byKinds l (0 : Int).toNat)⟩] w4 := by
    first | exact hO | (have e : ([⟨59, 3, .slice (some ⟨B10, 0, none⟩) 0 0, 0, flat fV ([] : List V3)⟩] : List Own) = [⟨59, 3, .slice (some ⟨B10, 0, none⟩) ((byKinds l (0 : Int).toNat).length) 0, (byKinds l (0 : Int).toNat).length, flat fV (byKinds l (0 : Int).toNat)⟩] := by rfl) <;> (rw [← e]; exact hO)
   refine sxloop (fun zm a w1 => ∃ (kk : Int) (a7 : Option Addr) (c7 : Nat), zm = (10 - kk).toNat ∧ Fr 49 [(0, eS av l.length c), (7, eS a7 (byKinds l kk.toNat).length c7), (8, eI kk)] a ∧ MemOk [] w1 ∧ Keep Nn w w1 ∧ OwnOk w.heap.size [] [⟨59, 3, .slice a7 (byKinds l kk.toNat).length c7, (byKinds l kk.toNat).length, flat fV (byKinds l kk.toNat)⟩] w1 ∧ (0 ≤ kk ∧ kk ≤ 10) ∧ (∀ j : Int, 0 ≤ j → j < kk → (l.map (·.k)).count j ≤ 1)) _ ⟨0, some ⟨B10, 0, none⟩, 0, rfl, hf.conv (Ac rfl (Ac rfl (Ao rfl))), hM, hk0, hO, (by omega), (fun j h1 h2 => by omega)⟩ ?_
   clear hf hM hk0 hO
   rintro _ a w5 ⟨kk, a7, c7, rfl, hf, hM, hk0, hO, hkk, hcn⟩ L2 hL2
   refine wp_seq_k (fun K14 hK14 => ?_)
   refine wp_seq_k (fun K15 hK15 => ?_)
   refine wp_region_lit ?_
   refine q0 hf hM [0, 7, 8] [{}, {}] (nw := [(26, eB (decide ((kk : Int) < 10)))]) An ?_
   clear hf; intro a hf
   refine wpList_nil ?_
   refine hK15 _ _ ?_
   refine qc hf (b := (decide ((kk : Int) < 10))) (fun hc3r => ?_) (fun hc3r => ?_)
   · have hc3 := (nT hc3r)
     refine wp_skip ?_
     refine hK14 _ _ ?_
     refine wp_seq_k (fun K16 hK16 => ?_)
     refine wp_block ?_
     refine wp_seq_k (fun K17 hK17 => ?_)
     refine wp_region_lit ?_
     refine q0 hf hM [0, 7, 8] [{}] (nw := [(9, eI 0)]) An ?_
     clear hf; intro a hf
     refine wpList_nil ?_
     refine hK17 _ _ ?_
     refine wp_seq_k (fun K18 hK18 => ?_)
     refine wp_seq_k (fun K19 hK19 => ?_)
     refine wp_region_lit ?_
     refine q0 hf hM [9, 0, 7, 8] [{}, {}, {}] (nw := [(31, eI 0), (30, eI (l.length : Int)), (29, eS av l.length c)]) An ?_
     clear hf; intro a hf
     refine wpList_nil ?_
     refine hK19 _ _ ?_
     refine wp_block ?_
     have hz1 := cntTo_zero l kk; have hz2 := upTo_zero l kk
     have hf := (hf.prune [0, 7, 8, 9, 29, 30, 31]).to (env' := [(0, eS av l.length c), (7, eS a7 (byKinds l kk.toNat).length c7), (8, eI kk), (9, eI 0), (29, eS av l.length c), (30, eI (l.length : Int)), (31, eI 0)]) (by kernel_rfl)
     replace hO : OwnOk w.heap.size [] [⟨59, 3, .slice a7 (upTo l kk 0).length c7, (upTo l kk 0).length, flat fV (upTo l kk 0)⟩] w5 := by
      first | exact hO | (have e : ([⟨59, 3, .slice a7 (byKinds l kk.toNat).length c7, (byKinds l kk.toNat).length, flat fV (byKinds l kk.toNat)⟩] : List Own) = [⟨59, 3, .slice a7 (upTo l kk 0).length c7, (upTo l kk 0).length, flat fV (upTo l kk 0)⟩] := by rw [upTo_zero]) <;> (rw [← e]; exact hO)
     refine sxloop (fun zm a w1 => ∃ (i : Int) (a8 : Option Addr) (c8 : Nat), zm = ((l.length : Int) - i).toNat ∧ Fr 49 [(0, eS av l.length c), (7, eS a8 (upTo l kk i).length c8), (8, eI kk), (9, eI (cntTo l kk i)), (29, eS av l.length c), (30, eI (l.length : Int)), (31, eI i)] a ∧ MemOk [] w1 ∧ Keep Nn w w1 ∧ OwnOk w.heap.size [] [⟨59, 3, .slice a8 (upTo l kk i).length c8, (upTo l kk i).length, flat fV (upTo l kk i)⟩] w1 ∧ (0 ≤ i ∧ i ≤ (l.length : Int))) _ ⟨0, a7, c7, rfl, hf.conv (Ac rfl (Ac (by rw [hz2]; rfl) (Ac rfl (Ac (congrArg _ hz1.symm) (Ac rfl (Ac rfl (Ao rfl))))))), hM, hk0, hO, (by omega)⟩ ?_
     clear hf hM hk0 hO
     rintro _ a w6 ⟨i, a8, c8, rfl, hf, hM, hk0, hO, hi⟩ L3 hL3
     have hul := upTo_len l kk i
     have hct := cntTo_le l kk i
     refine wp_seq_k (fun K20 hK20 => ?_)
     refine wp_region_lit ?_
     refine q0 hf hM [0, 7, 8, 9, 29, 30, 31] [{}] (nw := [(32, eB (decide ((i : Int) < (l.length : Int))))]) An ?_
     clear hf; intro a hf
     refine wpList_nil ?_
     refine hK20 _ _ ?_
     refine wp_seq_k (fun K21 hK21 => ?_)
     refine qc hf (b := (decide ((i : Int) < (l.length : Int)))) (fun hc4r => ?_) (fun hc4r => ?_)
     · have hc4 := (nT hc4r)
       refine wp_skip ?_
       refine hK21 _ _ ?_
       refine wp_seq_k (fun K22 hK22 => ?_)
       refine wp_block ?_
       refine wp_seq_k (fun K23 hK23 => ?_)
       refine wp_region_lit ?_
       refine q1 hf hM [0, 7, 8, 9, 29, 30, 31] [{ sp := true }, { os := [.ex (iV (l.getD i.toNat ⟨0, 0, 0⟩).k), .ex (iV (l.getD i.toNat ⟨0, 0, 0⟩).a), .ex (iV (l.getD i.toNat ⟨0, 0, 0⟩).b)] }, { os := [.nw] }, { os := [.st 0 0, .st 0 1, .st 0 2] }] (nw := fun B17 => [(11, eP B17 0)]) (M' := fun B17 => [⟨B17, 59, [iV (l.getD i.toNat ⟨0, 0, 0⟩).k, iV (l.getD i.toNat ⟨0, 0, 0⟩).a, iV (l.getD i.toNat ⟨0, 0, 0⟩).b]⟩]) (ob := fun B17 => [(0 : Int) ≤ i ∧ i < (l.length : Int), (av : Option Addr).isSome = true, w6.cell? (((sa av : Addr).add (i.toNat * 3)).add 0) = some (iV (l.getD i.toNat ⟨0, 0, 0⟩).k), w6.cell? (((sa av : Addr).add (i.toNat * 3)).add 1) = some (iV (l.getD i.toNat ⟨0, 0, 0⟩).a), w6.cell? (((sa av : Addr).add (i.toNat * 3)).add 2) = some (iV (l.getD i.toNat ⟨0, 0, 0⟩).b), Ad B17 0, Ad B17 1, Ad B17 2]) (fun B17 => (Ac (by first | omega | (simp; done)) (Ac ((hav.keepNn hk0).some_ (by first | omega | (simp; done))) (Ac ((hav.keepNn hk0).get (fun _ => rfl) (by first | omega | (simp; done)) rfl) (Ac ((hav.keepNn hk0).get (fun _ => rfl) (by first | omega | (simp; done)) rfl) (Ac ((hav.keepNn hk0).get (fun _ => rfl) (by first | omega | (simp; done)) rfl) (Ac (ad _ _) (Ac (ad _ _) (Ao (ad _ _)))))))))) ?_
       clear hf hM; intro a w7 B17 hf hM hB hk
       have hbB17 : w.heap.size ≤ B17 := by have := hk0.size; omega
       have hk0 := hk0.then hk (by intro i _ h; cases h)
       have hO := hO.step hM (hk.mono (by intro _ _ h; cases h)) (by intro i h; simp only [Mem.names, List.map_cons, List.map_nil, List.mem_cons, List.not_mem_nil, or_false, List.map_append, List.cons_append, List.nil_append] at h ⊢; omega)
       clear hk hB
       refine wpList_nil ?_
       refine hK23 _ _ ?_
       refine wp_seq_k (fun K24 hK24 => ?_)
       refine wp_region_lit ?_
       refine q0 hf hM [11, 0, 7, 8, 9, 29, 30, 31] [{}, { os := [.ld 0 0] }, {}, {}] (nw := [(38, eB (((l.getD i.toNat ⟨0, 0, 0⟩).k : Int) == kk))]) (ob := [Ad B17 0]) (Ao (ad _ _)) ?_
       clear hf; intro a hf
       refine wpList_nil ?_
       refine hK24 _ _ ?_
       refine qc hf (b := (((l.getD i.toNat ⟨0, 0, 0⟩).k : Int) == kk)) (fun hc5r => ?_) (fun hc5r => ?_)
       · have hc5 := (nE hc5r)
         refine wp_seq_k (fun K25 hK25 => ?_)
         refine wp_region_lit ?_
         refine q0 hf hM [0, 7, 8, 9, 29, 30, 31] [{}, { os := [.ld 0 0, .ld 0 1, .ld 0 2] }] (nw := [(40, .val (.agg #[iV (l.getD i.toNat ⟨0, 0, 0⟩).k, iV (l.getD i.toNat ⟨0, 0, 0⟩).a, iV (l.getD i.toNat ⟨0, 0, 0⟩).b])), (39, eS a8 (upTo l kk i).length c8)]) (ob := [Ad B17 0, Ad B17 1, Ad B17 2]) (Ac (ad _ _) (Ac (ad _ _) (Ao (ad _ _)))) ?_
         clear hf; intro a hf
         refine sxbslice hf hM (t := 23) (e := 59) (len := 1) (cs := [iV (l.getD i.toNat ⟨0, 0, 0⟩).k, iV (l.getD i.toNat ⟨0, 0, 0⟩).a, iV (l.getD i.toNat ⟨0, 0, 0⟩).b]) (ob := []) rfl rfl rfl rfl (by as_aux_lemma => kernel_rfl) An (by as_aux_lemma => kernel_rfl) ?_
         clear hf hM; intro a w8 B20 hf hM hB hk
         replace hM : MemOk [⟨B17, 59, [iV (l.getD i.toNat ⟨0, 0, 0⟩).k, iV (l.getD i.toNat ⟨0, 0, 0⟩).a, iV (l.getD i.toNat ⟨0, 0, 0⟩).b]⟩, ⟨B20, 59, [iV (l.getD i.toNat ⟨0, 0, 0⟩).k, iV (l.getD i.toNat ⟨0, 0, 0⟩).a, iV (l.getD i.toNat ⟨0, 0, 0⟩).b]⟩] w8 := hM
         have hbB20 : w.heap.size ≤ B20 := by have := hk0.size; omega
         have hk0 := hk0.trans hk.nn
         have hO := hO.step hM hk.nn (by intro i h; simp only [Mem.names, List.map_cons, List.map_nil, List.mem_cons, List.not_mem_nil, or_false, List.map_append, List.cons_append, List.nil_append] at h ⊢; omega)
         clear hk hB
         replace hO : OwnOk w.heap.size [⟨B17, 59, [iV (l.getD i.toNat ⟨0, 0, 0⟩).k, iV (l.getD i.toNat ⟨0, 0, 0⟩).a, iV (l.getD i.toNat ⟨0, 0, 0⟩).b]⟩, ⟨B20, 59, [iV (l.getD i.toNat ⟨0, 0, 0⟩).k, iV (l.getD i.toNat ⟨0, 0, 0⟩).a, iV (l.getD i.toNat ⟨0, 0, 0⟩).b]⟩] [⟨59, 3, .slice a8 (upTo l kk i).length c8, (upTo l kk i).length, flat fV (upTo l kk i)⟩] w8 := OwnOk.front (l1 := []) (l2 := []) hO
         refine sxappend hf hM (e := 59) (sz := 3) (by_ := 24) (k := (upTo l kk i).length) (v := .slice a8 (upTo l kk i).length c8) (xs := flat fV (upTo l kk i)) hO rfl rfl rfl rfl (av := some ⟨B20, 0, none⟩) (m := 1) (c := 1) rfl rfl Tryd.underlying23 (by kernel_rfl) rfl (news := flat fV ([⟨(l.getD i.toNat ⟨0, 0, 0⟩).k, (l.getD i.toNat ⟨0, 0, 0⟩).a, (l.getD i.toNat ⟨0, 0, 0⟩).b⟩] : List V3)) (Arr.of_memT (sz := 3) (f := fV) (L := ([⟨(l.getD i.toNat ⟨0, 0, 0⟩).k, (l.getD i.toNat ⟨0, 0, 0⟩).a, (l.getD i.toNat ⟨0, 0, 0⟩).b⟩] : List V3)) (l := ([⟨(l.getD i.toNat ⟨0, 0, 0⟩).k, (l.getD i.toNat ⟨0, 0, 0⟩).a, (l.getD i.toNat ⟨0, 0, 0⟩).b⟩] : List V3)) hM (List.Mem.tail _ (List.Mem.head _)) (fun _ => rfl) rfl rfl) (flat_one1 fV_one) (by simp only [maxLen]; constructor <;> (first | omega | (simp; omega))) (by have := hk0.size; omega) ?_
         clear hf hM hO; intro a w9 av1 cv1 hf hM hO hk
         have en : ((upTo l kk i).length + 1 : Nat) = ((upTo l kk i) ++ ([⟨(l.getD i.toNat ⟨0, 0, 0⟩).k, (l.getD i.toNat ⟨0, 0, 0⟩).a, (l.getD i.toNat ⟨0, 0, 0⟩).b⟩] : List V3)).length := (by first | (simp; done) | (simp; omega))
         have ec : flat fV (upTo l kk i) ++ flat fV ([⟨(l.getD i.toNat ⟨0, 0, 0⟩).k, (l.getD i.toNat ⟨0, 0, 0⟩).a, (l.getD i.toNat ⟨0, 0, 0⟩).b⟩] : List V3) = flat fV ((upTo l kk i) ++ ([⟨(l.getD i.toNat ⟨0, 0, 0⟩).k, (l.getD i.toNat ⟨0, 0, 0⟩).a, (l.getD i.toNat ⟨0, 0, 0⟩).b⟩] : List V3)) := (by first | rfl | exact (flat_app _ _ _).symm | simp [flat_app, flat_nil])
         rw [en] at hf hO; rw [ec] at hO; clear en ec
         replace hO : OwnOk w.heap.size [⟨B17, 59, [iV (l.getD i.toNat ⟨0, 0, 0⟩).k, iV (l.getD i.toNat ⟨0, 0, 0⟩).a, iV (l.getD i.toNat ⟨0, 0, 0⟩).b]⟩, ⟨B20, 59, [iV (l.getD i.toNat ⟨0, 0, 0⟩).k, iV (l.getD i.toNat ⟨0, 0, 0⟩).a, iV (l.getD i.toNat ⟨0, 0, 0⟩).b]⟩] [⟨59, 3, .slice av1 (((upTo l kk i) ++ ([⟨(l.getD i.toNat ⟨0, 0, 0⟩).k, (l.getD i.toNat ⟨0, 0, 0⟩).a, (l.getD i.toNat ⟨0, 0, 0⟩).b⟩] : List V3)).length) cv1, ((upTo l kk i) ++ ([⟨(l.getD i.toNat ⟨0, 0, 0⟩).k, (l.getD i.toNat ⟨0, 0, 0⟩).a, (l.getD i.toNat ⟨0, 0, 0⟩).b⟩] : List V3)).length, flat fV ((upTo l kk i) ++ ([⟨(l.getD i.toNat ⟨0, 0, 0⟩).k, (l.getD i.toNat ⟨0, 0, 0⟩).a, (l.getD i.toNat ⟨0, 0, 0⟩).b⟩] : List V3))⟩] w9 := hO
         have hk0 := hk0.then hk (by intro i hi h; have := h.1; omega)
         clear hk
         refine q0 hf hM [0, 8, 9, 29, 30, 31] [{}] (nw := [(7, eS av1 (((upTo l kk i) ++ ([⟨(l.getD i.toNat ⟨0, 0, 0⟩).k, (l.getD i.toNat ⟨0, 0, 0⟩).a, (l.getD i.toNat ⟨0, 0, 0⟩).b⟩] : List V3)).length) cv1)]) An ?_
         clear hf; intro a hf
         refine wpList_nil ?_
         refine hK25 _ _ ?_
         refine wp_region_lit ?_
         refine q0 hf hM [7, 0, 8, 29, 30, 31] [{}, { hint := some (iV ((cntTo l kk i) + 1)) }, {}] (nw := [(9, eI ((cntTo l kk i) + 1))]) (ob := [(iV (IntKind.i64.wrap ((cntTo l kk i) + 1)) : Value) = (iV ((cntTo l kk i) + 1) : Value)]) (Ao (wr (by omega))) ?_
         clear hf; intro a hf
         refine wpList_nil ?_
         refine hK22 _ _ ?_
         refine wp_region_lit ?_
         refine q0 hf hM [9, 7, 0, 8, 29, 30] [{ hint := some (iV (i + 1)) }, {}] (nw := [(31, eI (i + 1))]) (ob := [(iV (IntKind.i64.wrap (i + 1)) : Value) = (iV (i + 1) : Value)]) (Ao (wr (by omega))) ?_
         clear hf; intro a hf
         refine wpList_nil ?_
         have hf := (hf.prune [0, 7, 8, 9, 29, 30, 31]).to (env' := [(0, eS av l.length c), (7, eS av1 (((upTo l kk i) ++ ([⟨(l.getD i.toNat ⟨0, 0, 0⟩).k, (l.getD i.toNat ⟨0, 0, 0⟩).a, (l.getD i.toNat ⟨0, 0, 0⟩).b⟩] : List V3)).length) cv1), (8, eI kk), (9, eI ((cntTo l kk i) + 1)), (29, eS av l.length c), (30, eI (l.length : Int)), (31, eI (i + 1))]) (by kernel_rfl)
         replace hO : OwnOk w.heap.size [] [⟨59, 3, .slice av1 (((upTo l kk i) ++ ([⟨(l.getD i.toNat ⟨0, 0, 0⟩).k, (l.getD i.toNat ⟨0, 0, 0⟩).a, (l.getD i.toNat ⟨0, 0, 0⟩).b⟩] : List V3)).length) cv1, ((upTo l kk i) ++ ([⟨(l.getD i.toNat ⟨0, 0, 0⟩).k, (l.getD i.toNat ⟨0, 0, 0⟩).a, (l.getD i.toNat ⟨0, 0, 0⟩).b⟩] : List V3)).length, flat fV ((upTo l kk i) ++ ([⟨(l.getD i.toNat ⟨0, 0, 0⟩).k, (l.getD i.toNat ⟨0, 0, 0⟩).a, (l.getD i.toNat ⟨0, 0, 0⟩).b⟩] : List V3))⟩] w9 := hO.sub (.cons _ (.cons _ .slnil)) (List.Sublist.refl _)
         replace hM : MemOk [] w9 := hM.sub (.cons _ (.cons _ .slnil))
         replace hO : OwnOk w.heap.size [] [⟨59, 3, .slice av1 ((upTo l kk (i + 1)).length) cv1, (upTo l kk (i + 1)).length, flat fV (upTo l kk (i + 1))⟩] w9 := by
          first | exact hO | (have e : ([⟨59, 3, .slice av1 (((upTo l kk i) ++ ([⟨(l.getD i.toNat ⟨0, 0, 0⟩).k, (l.getD i.toNat ⟨0, 0, 0⟩).a, (l.getD i.toNat ⟨0, 0, 0⟩).b⟩] : List V3)).length) cv1, ((upTo l kk i) ++ ([⟨(l.getD i.toNat ⟨0, 0, 0⟩).k, (l.getD i.toNat ⟨0, 0, 0⟩).a, (l.getD i.toNat ⟨0, 0, 0⟩).b⟩] : List V3)).length, flat fV ((upTo l kk i) ++ ([⟨(l.getD i.toNat ⟨0, 0, 0⟩).k, (l.getD i.toNat ⟨0, 0, 0⟩).a, (l.getD i.toNat ⟨0, 0, 0⟩).b⟩] : List V3))⟩] : List Own) = [⟨59, 3, .slice av1 ((upTo l kk (i + 1)).length) cv1, (upTo l kk (i + 1)).length, flat fV (upTo l kk (i + 1))⟩] := by first | (rw [upTo_in (d := ⟨0, 0, 0⟩) (by omega) (by assumption)]; try rfl) | (rw [upTo_out (d := ⟨0, 0, 0⟩) (by omega) (by assumption)]; try rfl)) <;> (rw [← e]; exact hO)
         refine hL3 _ _ _ (by omega) ⟨i + 1, av1, cv1, rfl, hf.conv (Ac rfl (Ac (by first | rfl | (congr 1; first | (rw [upTo_in (d := ⟨0, 0, 0⟩) (by omega) (by assumption)]; try rfl) | (rw [upTo_out (d := ⟨0, 0, 0⟩) (by omega) (by assumption)]; try rfl))) (Ac rfl (Ac (by congr 1; first | (rw [cntTo_in (d := ⟨0, 0, 0⟩) (by omega) (by assumption)]; done) | (rw [cntTo_out (d := ⟨0, 0, 0⟩) (by omega) (by assumption)]; done)) (Ac rfl (Ac rfl (Ao rfl))))))), hM, hk0, hO, (by omega)⟩
       · have hc5 := (nF hc5r)
         refine wp_skip ?_
         refine hK22 _ _ ?_
         refine wp_region_lit ?_
         refine q0 hf hM [0, 7, 8, 9, 29, 30] [{ hint := some (iV (i + 1)) }, {}] (nw := [(31, eI (i + 1))]) (ob := [(iV (IntKind.i64.wrap (i + 1)) : Value) = (iV (i + 1) : Value)]) (Ao (wr (by omega))) ?_
         clear hf; intro a hf
         refine wpList_nil ?_
         have hf := (hf.prune [0, 7, 8, 9, 29, 30, 31]).to (env' := [(0, eS av l.length c), (7, eS a8 (upTo l kk i).length c8), (8, eI kk), (9, eI (cntTo l kk i)), (29, eS av l.length c), (30, eI (l.length : Int)), (31, eI (i + 1))]) (by kernel_rfl)
         replace hO : OwnOk w.heap.size [] [⟨59, 3, .slice a8 (upTo l kk i).length c8, (upTo l kk i).length, flat fV (upTo l kk i)⟩] w7 := hO.sub (.cons _ .slnil) (List.Sublist.refl _)
         replace hM : MemOk [] w7 := hM.sub (.cons _ .slnil)
         replace hO : OwnOk w.heap.size [] [⟨59, 3, .slice a8 ((upTo l kk (i + 1)).length) c8, (upTo l kk (i + 1)).length, flat fV (upTo l kk (i + 1))⟩] w7 := by
          first | exact hO | (have e : ([⟨59, 3, .slice a8 (upTo l kk i).length c8, (upTo l kk i).length, flat fV (upTo l kk i)⟩] : List Own) = [⟨59, 3, .slice a8 ((upTo l kk (i + 1)).length) c8, (upTo l kk (i + 1)).length, flat fV (upTo l kk (i + 1))⟩] := by first | (rw [upTo_in (d := ⟨0, 0, 0⟩) (by omega) (by assumption)]; try rfl) | (rw [upTo_out (d := ⟨0, 0, 0⟩) (by omega) (by assumption)]; try rfl)) <;> (rw [← e]; exact hO)
         refine hL3 _ _ _ (by omega) ⟨i + 1, a8, c8, rfl, hf.conv (Ac rfl (Ac (by first | rfl | (congr 1; first | (rw [upTo_in (d := ⟨0, 0, 0⟩) (by omega) (by assumption)]; try rfl) | (rw [upTo_out (d := ⟨0, 0, 0⟩) (by omega) (by assumption)]; try rfl))) (Ac rfl (Ac (by congr 1; first | (rw [cntTo_in (d := ⟨0, 0, 0⟩) (by omega) (by assumption)]; done) | (rw [cntTo_out (d := ⟨0, 0, 0⟩) (by omega) (by assumption)]; done)) (Ac rfl (Ac rfl (Ao rfl))))))), hM, hk0, hO, (by omega)⟩
     · have hc4 := (nU hc4r)
       refine wp_exit ?_
       refine hK18 _ _ ?_
       refine wp_seq_k (fun K26 hK26 => ?_)
       refine wp_region_lit ?_
       refine q0 hf hM [0, 7, 8] [{}, {}] (nw := [(47, eB (decide (((cntTo l kk i) : Int) > 1)))]) An ?_
       clear hf; intro a hf
       refine wpList_nil ?_
       refine hK26 _ _ ?_
       refine qc hf (b := (decide (((cntTo l kk i) : Int) > 1))) (fun hc6r => ?_) (fun hc6r => ?_)
       · have hc6 := (nT hc6r)
         refine wp_seq_k (fun K27 hK27 => ?_)
         refine wp_region_lit ?_
         refine q0 hf hM [] [{}, {}] (nw := [(3, eI 4), (2, eS none 0 0)]) An ?_
         clear hf; intro a hf
         refine wpList_nil ?_
         refine hK27 _ _ ?_
         refine wp_ret ?_
         refine qr (fn := Tryd.f27) hf hM [] (l := [.slice none 0 0, iV 4]) (ob := []) An ?_
         show (.tuple #[.slice none 0 0, iV 4] : Value) = .tuple #[.slice none 0 0, .int .i64 4] ∧ Keep Nn w w6
         first | exact ⟨rfl, hk0⟩ | (exfalso; have h1 := firstBad_step (l := l) (i := i.toNat) (d := ⟨0, 0, 0⟩) (by omega); have h2 : ¬ vcheck (l.getD i.toNat ⟨0, 0, 0⟩) = 0 := (by assumption); rw [if_neg h2, hfb, hn] at h1; exact h2 h1.symm)
       · have hc6 := (nU hc6r)
         refine wp_skip ?_
         refine hK16 _ _ ?_
         refine wp_region_lit ?_
         refine q0 hf hM [0, 7] [{}, { hint := some (iV (kk + 1)) }, {}] (nw := [(8, eI (kk + 1))]) (ob := [(iV (IntKind.i64.wrap (kk + 1)) : Value) = (iV (kk + 1) : Value)]) (Ao (wr (by omega))) ?_
         clear hf; intro a hf
         refine wpList_nil ?_
         have hcn2 : ∀ j : Int, 0 ≤ j → j < kk + 1 → (l.map (·.k)).count j ≤ 1 := fun j h1 h2 => by
           by_cases hj : j < kk
           · exact hcn j h1 hj
           · obtain rfl : j = kk := by omega
             have h5 := cntTo_end (l := l) (kk := j) (i := i) (by omega)
             omega
         have hf := (hf.prune [0, 7, 8]).to (env' := [(0, eS av l.length c), (7, eS a8 (upTo l kk i).length c8), (8, eI (kk + 1))]) (by kernel_rfl)
         replace hO : OwnOk w.heap.size [] [⟨59, 3, .slice a8 ((byKinds l (kk + 1).toNat).length) c8, (byKinds l (kk + 1).toNat).length, flat fV (byKinds l (kk + 1).toNat)⟩] w6 := by
          first | exact hO | (have e : ([⟨59, 3, .slice a8 (upTo l kk i).length c8, (upTo l kk i).length, flat fV (upTo l kk i)⟩] : List Own) = [⟨59, 3, .slice a8 ((byKinds l (kk + 1).toNat).length) c8, (byKinds l (kk + 1).toNat).length, flat fV (byKinds l (kk + 1).toNat)⟩] := by rw [upTo_end (i := i) (by omega) (by omega)]) <;> (rw [← e]; exact hO)
         refine hL2 _ _ _ (by omega) ⟨kk + 1, a8, c8, rfl, hf.conv (Ac rfl (Ac (by rw [upTo_end (i := i) (by omega) (by omega)]; rfl) (Ao rfl))), hM, hk0, hO, (by omega), hcn2⟩
   · have hc3 := (nU hc3r)
     refine wp_exit ?_
     refine hK12 _ _ ?_
     refine wp_seq_k (fun K28 hK28 => ?_)
     refine wp_region_lit ?_
     refine q0 hf hM [] [{}, {}, {}] (nw := [(3, eI 0), (2, eS a7 (byKinds l kk.toNat).length c7)]) An ?_
     clear hf; intro a hf
     refine wpList_nil ?_
     refine hK28 _ _ ?_
     refine wp_ret ?_
     refine qr (fn := Tryd.f27) hf hM [] (l := [.slice a7 (byKinds l kk.toNat).length c7, iV 0]) (ob := []) An ?_
     show (.tuple #[.slice a7 (byKinds l kk.toNat).length c7, iV 0] : Value) = .tuple #[.slice none 0 0, .int .i64 4] ∧ Keep Nn w w5
     exfalso
     have h5 := noDup_of hn (fun j h1 h2 => hcn j h1 (by omega))
     rw [hn1] at h5
     cases h5

set_option maxRecDepth 10000 in
set_option maxHeartbeats 1600000 in
theorem rsame (av : Option Addr) (l : List V3) (c : Nat) (bv : Option Addr) (m : List V3) (cm : Nat) (w : World) (hav : Arr w 3 av l.length c (flat fV l)) (hbav : l.length ≤ 1000000) (hbv : Arr w 3 bv m.length cm (flat fV m)) (hbbv : m.length ≤ 1000000) :
    Calls Tryd.prog 28 #[.slice av l.length c, .slice bv m.length cm] w (Ret fun v w' => v = .bool (sameL l m) ∧ Keep Nn w w') := by
 refine sxenter (n := 26) (args := [.slice av l.length c, .slice bv m.length cm]) Tryd.func28 rfl rfl rfl fun a hf => ?_
 replace hf : Fr 26 [(0, eS av l.length c), (1, eS bv m.length cm)] a := hf
 have hM : MemOk [] w := MemOk.nil w
 have hk0 : Keep Nn w w := Keep.refl _ _
 refine wp_seq_k (fun K1 hK1 => ?_)
 refine wp_region_lit ?_
 refine q0 hf hM [0, 1] [{}] (nw := []) An ?_
 clear hf; intro a hf
 refine wpList_nil ?_
 refine hK1 _ _ ?_
 refine wp_seq_k (fun K2 hK2 => ?_)
 refine wp_seq_k (fun K3 hK3 => ?_)
 refine wp_region_lit ?_
 refine q0 hf hM [0, 1] [{}, {}, {}, {}, {}] (nw := [(10, eB (((l.length : Int) : Int) != (m.length : Int)))]) An ?_
 clear hf; intro a hf
 refine wpList_nil ?_
 refine hK3 _ _ ?_
 refine qc hf (b := (((l.length : Int) : Int) != (m.length : Int))) (fun hc1r => ?_) (fun hc1r => ?_)
 · have hc1 := (nN hc1r)
   refine wp_seq_k (fun K4 hK4 => ?_)
   refine wp_region_lit ?_
   refine q0 hf hM [] [{}] (nw := [(4, eB false)]) An ?_
   clear hf; intro a hf
   refine wpList_nil ?_
   refine hK4 _ _ ?_
   refine wp_ret ?_
   refine qr (fn := Tryd.f28) hf hM [] (l := [bV false]) (ob := []) An ?_
   show (bV false : Value) = .bool (sameL l m) ∧ Keep Nn w w
   first | exact ⟨congrArg Value.bool (sameL_len (by assumption)).symm, hk0⟩ | exact ⟨congrArg Value.bool (sameL_at (j := i.toNat) ⟨0, 0, 0⟩ (v3_neB (by assumption))).symm, hk0⟩
 · have hc1 := (nM hc1r)
   refine wp_skip ?_
   refine hK2 _ _ ?_
   refine wp_seq_k (fun K5 hK5 => ?_)
   refine wp_seq_k (fun K6 hK6 => ?_)
   refine wp_region_lit ?_
   refine q0 hf hM [0, 1] [{}, {}, {}] (nw := [(13, eI 0), (12, eI (l.length : Int))]) An ?_
   clear hf; intro a hf
   refine wpList_nil ?_
   refine hK6 _ _ ?_
   refine wp_block ?_
   have hf := (hf.prune [0, 1, 12, 13]).to (env' := [(0, eS av l.length c), (1, eS bv m.length cm), (12, eI (l.length : Int)), (13, eI 0)]) (by kernel_rfl)
   refine sxloop (fun zm a w1 => ∃ (i : Int), zm = ((l.length : Int) - i).toNat ∧ Fr 26 [(0, eS av l.length c), (1, eS bv m.length cm), (12, eI (l.length : Int)), (13, eI i)] a ∧ MemOk [] w1 ∧ Keep Nn w w1 ∧ (0 ≤ i ∧ i ≤ (l.length : Int)) ∧ (∀ j, j < i.toNat → l.getD j ⟨0, 0, 0⟩ = m.getD j ⟨0, 0, 0⟩)) _ ⟨0, rfl, hf.conv (Ac rfl (Ac rfl (Ac rfl (Ao rfl)))), hM, hk0, (by omega), (fun j hj => by simp at hj)⟩ ?_
   clear hf hM hk0
   rintro _ a w1 ⟨i, rfl, hf, hM, hk0, hi, hsm⟩ L1 hL1
   refine wp_seq_k (fun K7 hK7 => ?_)
   refine wp_region_lit ?_
   refine q0 hf hM [0, 1, 12, 13] [{}] (nw := [(14, eB (decide ((i : Int) < (l.length : Int))))]) An ?_
   clear hf; intro a hf
   refine wpList_nil ?_
   refine hK7 _ _ ?_
   refine wp_seq_k (fun K8 hK8 => ?_)
   refine qc hf (b := (decide ((i : Int) < (l.length : Int)))) (fun hc2r => ?_) (fun hc2r => ?_)
   · have hc2 := (nT hc2r)
     refine wp_skip ?_
     refine hK8 _ _ ?_
     refine wp_seq_k (fun K9 hK9 => ?_)
     refine wp_block ?_
     refine wp_seq_k (fun K10 hK10 => ?_)
     refine wp_region_lit ?_
     refine q0 hf hM [0, 1, 12, 13] [{}, {}] (nw := [(5, eI i)]) An ?_
     clear hf; intro a hf
     refine wpList_nil ?_
     refine hK10 _ _ ?_
     refine wp_seq_k (fun K11 hK11 => ?_)
     replace hM := hM.drew; replace hk0 := hk0.drew
     obtain ⟨C1, hC1i, hC1e⟩ := qcls fun w' => MemOk [] w' ∧ Keep Nn w w' ∧ True
     refine sxdraw (C := C1) (.leaf [(0, true), (1, true), (2, true), (3, true), (4, true), (5, true), (6, true), (7, true), (8, true)]) (by kernel_rfl) (by kernel_rfl) (by as_aux_lemma => kernel_rfl) rfl (by as_aux_lemma => kernel_rfl) (by kernel_rfl) (hC1i _ ⟨hM.sub (.slnil), hk0, trivial⟩) ?_
     refine sxleaf ?_
     have hC := (hC1i _ ⟨hM.sub (.slnil), hk0, trivial⟩)
     refine qd hf hC (fun w' h => (hC1e w' h).1) [0, 1, 12, 13] [{}, {}, { sp := true }, { os := [.ex (iV (l.getD i.toNat ⟨0, 0, 0⟩).k), .ex (iV (l.getD i.toNat ⟨0, 0, 0⟩).a), .ex (iV (l.getD i.toNat ⟨0, 0, 0⟩).b)] }, {}, {}, { sp := true }, { os := [.ex (iV (m.getD i.toNat ⟨0, 0, 0⟩).k), .ex (iV (m.getD i.toNat ⟨0, 0, 0⟩).a), .ex (iV (m.getD i.toNat ⟨0, 0, 0⟩).b)] }, { sp := true, hint := some (bV (!((((l.getD i.toNat ⟨0, 0, 0⟩).k : Int) == (m.getD i.toNat ⟨0, 0, 0⟩).k) && ((((l.getD i.toNat ⟨0, 0, 0⟩).a : Int) == (m.getD i.toNat ⟨0, 0, 0⟩).a) && (((l.getD i.toNat ⟨0, 0, 0⟩).b : Int) == (m.getD i.toNat ⟨0, 0, 0⟩).b))))) }] (nw := [(24, eB (!((((l.getD i.toNat ⟨0, 0, 0⟩).k : Int) == (m.getD i.toNat ⟨0, 0, 0⟩).k) && ((((l.getD i.toNat ⟨0, 0, 0⟩).a : Int) == (m.getD i.toNat ⟨0, 0, 0⟩).a) && (((l.getD i.toNat ⟨0, 0, 0⟩).b : Int) == (m.getD i.toNat ⟨0, 0, 0⟩).b))))), (23, .val (.agg #[iV (m.getD i.toNat ⟨0, 0, 0⟩).k, iV (m.getD i.toNat ⟨0, 0, 0⟩).a, iV (m.getD i.toNat ⟨0, 0, 0⟩).b])), (22, .val (.pointer (some ((sa bv : Addr).add (i.toNat * 3))))), (21, eI i), (20, eS bv m.length cm), (19, .val (.agg #[iV (l.getD i.toNat ⟨0, 0, 0⟩).k, iV (l.getD i.toNat ⟨0, 0, 0⟩).a, iV (l.getD i.toNat ⟨0, 0, 0⟩).b])), (18, .val (.pointer (some ((sa av : Addr).add (i.toNat * 3))))), (17, eI i), (16, eS av l.length c)]) (ob := [(0 : Int) ≤ i ∧ i < (l.length : Int), (av : Option Addr).isSome = true, (∀ w', C1 w' → w'.cell? (((sa av : Addr).add (i.toNat * 3)).add 0) = some (iV (l.getD i.toNat ⟨0, 0, 0⟩).k)), (∀ w', C1 w' → w'.cell? (((sa av : Addr).add (i.toNat * 3)).add 1) = some (iV (l.getD i.toNat ⟨0, 0, 0⟩).a)), (∀ w', C1 w' → w'.cell? (((sa av : Addr).add (i.toNat * 3)).add 2) = some (iV (l.getD i.toNat ⟨0, 0, 0⟩).b)), (0 : Int) ≤ i ∧ i < (m.length : Int), (bv : Option Addr).isSome = true, (∀ w', C1 w' → w'.cell? (((sa bv : Addr).add (i.toNat * 3)).add 0) = some (iV (m.getD i.toNat ⟨0, 0, 0⟩).k)), (∀ w', C1 w' → w'.cell? (((sa bv : Addr).add (i.toNat * 3)).add 1) = some (iV (m.getD i.toNat ⟨0, 0, 0⟩).a)), (∀ w', C1 w' → w'.cell? (((sa bv : Addr).add (i.toNat * 3)).add 2) = some (iV (m.getD i.toNat ⟨0, 0, 0⟩).b)), (bV (!((((l.getD i.toNat ⟨0, 0, 0⟩).k : Int) == (m.getD i.toNat ⟨0, 0, 0⟩).k) && ((((l.getD i.toNat ⟨0, 0, 0⟩).a : Int) == (m.getD i.toNat ⟨0, 0, 0⟩).a) && ((((l.getD i.toNat ⟨0, 0, 0⟩).b : Int) == (m.getD i.toNat ⟨0, 0, 0⟩).b) && true)))) : Value) = (bV (!((((l.getD i.toNat ⟨0, 0, 0⟩).k : Int) == (m.getD i.toNat ⟨0, 0, 0⟩).k) && ((((l.getD i.toNat ⟨0, 0, 0⟩).a : Int) == (m.getD i.toNat ⟨0, 0, 0⟩).a) && (((l.getD i.toNat ⟨0, 0, 0⟩).b : Int) == (m.getD i.toNat ⟨0, 0, 0⟩).b)))) : Value)]) (Ac (by first | omega | (simp; done)) (Ac ((hav.keepNn hk0).some_ (by first | omega | (simp; done))) (Ac (fun w' hc => by obtain ⟨hM, hk0, hO⟩ := hC1e w' hc; exact ((hav.keepNn hk0).get (fun _ => rfl) (by first | omega | (simp; done)) rfl)) (Ac (fun w' hc => by obtain ⟨hM, hk0, hO⟩ := hC1e w' hc; exact ((hav.keepNn hk0).get (fun _ => rfl) (by first | omega | (simp; done)) rfl)) (Ac (fun w' hc => by obtain ⟨hM, hk0, hO⟩ := hC1e w' hc; exact ((hav.keepNn hk0).get (fun _ => rfl) (by first | omega | (simp; done)) rfl)) (Ac (by first | omega | (simp; done)) (Ac ((hbv.keepNn hk0).some_ (by first | omega | (simp; done))) (Ac (fun w' hc => by obtain ⟨hM, hk0, hO⟩ := hC1e w' hc; exact ((hbv.keepNn hk0).get (fun _ => rfl) (by first | omega | (simp; done)) rfl)) (Ac (fun w' hc => by obtain ⟨hM, hk0, hO⟩ := hC1e w' hc; exact ((hbv.keepNn hk0).get (fun _ => rfl) (by first | omega | (simp; done)) rfl)) (Ac (fun w' hc => by obtain ⟨hM, hk0, hO⟩ := hC1e w' hc; exact ((hbv.keepNn hk0).get (fun _ => rfl) (by first | omega | (simp; done)) rfl)) (Ao (by simp)))))))))))) ?_
     clear hf; intro a hf
     clear hC
     show K11 _ _
     refine hK11 _ _ ?_
     refine qc hf (b := (!((((l.getD i.toNat ⟨0, 0, 0⟩).k : Int) == (m.getD i.toNat ⟨0, 0, 0⟩).k) && ((((l.getD i.toNat ⟨0, 0, 0⟩).a : Int) == (m.getD i.toNat ⟨0, 0, 0⟩).a) && (((l.getD i.toNat ⟨0, 0, 0⟩).b : Int) == (m.getD i.toNat ⟨0, 0, 0⟩).b))))) (fun hc3r => ?_) (fun hc3r => ?_)
     · have hc3 := hc3r
       try simp only [Bool.or_eq_true, Bool.and_eq_true, Bool.not_eq_true', Bool.not_eq_false', Bool.or_eq_false_iff, Bool.and_eq_false_iff, decide_eq_true_eq, decide_eq_false_iff_not, beq_iff_eq, bne_iff_ne, beq_eq_false_iff_ne, bne_eq_false_iff_eq, Bool.and_true, Bool.true_and, ne_eq] at hc3
       refine wp_seq_k (fun K12 hK12 => ?_)
       refine wp_region_lit ?_
       refine q0 hf hM [] [{}] (nw := [(4, eB false)]) An ?_
       clear hf; intro a hf
       refine wpList_nil ?_
       refine hK12 _ _ ?_
       refine wp_ret ?_
       refine qr (fn := Tryd.f28) hf hM [] (l := [bV false]) (ob := []) An ?_
       show (bV false : Value) = .bool (sameL l m) ∧ Keep Nn w w1.drew
       first | exact ⟨congrArg Value.bool (sameL_len (by assumption)).symm, hk0⟩ | exact ⟨congrArg Value.bool (sameL_at (j := i.toNat) ⟨0, 0, 0⟩ (v3_neB (by assumption))).symm, hk0⟩
     · have hc3 := hc3r
       try simp only [Bool.or_eq_true, Bool.and_eq_true, Bool.not_eq_true', Bool.not_eq_false', Bool.or_eq_false_iff, Bool.and_eq_false_iff, decide_eq_true_eq, decide_eq_false_iff_not, beq_iff_eq, bne_iff_ne, beq_eq_false_iff_ne, bne_eq_false_iff_eq, Bool.and_true, Bool.true_and, ne_eq] at hc3
       refine wp_skip ?_
       refine hK9 _ _ ?_
       refine wp_region_lit ?_
       refine q0 hf hM [24, 23, 22, 21, 20, 19, 18, 17, 16, 0, 1, 12] [{ hint := some (iV (i + 1)) }, {}] (nw := [(13, eI (i + 1))]) (ob := [(iV (IntKind.i64.wrap (i + 1)) : Value) = (iV (i + 1) : Value)]) (Ao (wr (by omega))) ?_
       clear hf; intro a hf
       refine wpList_nil ?_
       have hsm2 := same_next ⟨0, 0, 0⟩ (l := l) (m := m) (i := i) (by omega) hsm (v3_eqB (by assumption))
       have hf := (hf.prune [0, 1, 12, 13]).to (env' := [(0, eS av l.length c), (1, eS bv m.length cm), (12, eI (l.length : Int)), (13, eI (i + 1))]) (by kernel_rfl)
       refine hL1 _ _ _ (by omega) ⟨i + 1, rfl, hf.conv (Ac rfl (Ac rfl (Ac rfl (Ao rfl)))), hM, hk0, (by omega), hsm2⟩
   · have hc2 := (nU hc2r)
     refine wp_exit ?_
     refine hK5 _ _ ?_
     refine wp_seq_k (fun K13 hK13 => ?_)
     refine wp_region_lit ?_
     refine q0 hf hM [] [{}] (nw := [(4, eB true)]) An ?_
     clear hf; intro a hf
     refine wpList_nil ?_
     refine hK13 _ _ ?_
     refine wp_ret ?_
     refine qr (fn := Tryd.f28) hf hM [] (l := [bV true]) (ob := []) An ?_
     show (bV true : Value) = .bool (sameL l m) ∧ Keep Nn w w1
     exact ⟨congrArg Value.bool (sameL_all ⟨0, 0, 0⟩ (by omega) fun j hj => hsm j (by omega)).symm, hk0⟩

set_option maxRecDepth 10000 in
set_option maxHeartbeats 1600000 in
theorem rright_bad (av : Option Addr) (l : List V3) (c : Nat) (w : World) (hn0 : (firstBad l == 0) = false) (hav : Arr w 3 av l.length c (flat fV l)) (hbav : l.length ≤ 1000000) :
    Calls Tryd.prog 12 #[.slice av l.length c] w (Ret fun v w' => v = .bool (rightV l) ∧ Keep Nn w w') := by
 refine sxenter (n := 17) (args := [.slice av l.length c]) Tryd.func12 rfl rfl rfl fun a hf => ?_
 replace hf : Fr 17 [(0, eS av l.length c)] a := hf
 have hM : MemOk [] w := MemOk.nil w
 have hk0 : Keep Nn w w := Keep.refl _ _
 have hn : ¬ firstBad l = 0 := by simpa using hn0
 refine wp_seq_k (fun K1 hK1 => ?_)
 refine wp_region_lit ?_
 refine q0 hf hM [0] [{}] (nw := []) An ?_
 clear hf; intro a hf
 refine wpList_nil ?_
 refine hK1 _ _ ?_
 refine wp_seq_k (fun K2 hK2 => ?_)
 refine wp_region_lit ?_
 refine q0 hf hM [0] [{}] (nw := [(6, eS av l.length c)]) An ?_
 clear hf; intro a hf
 refine sxcall hf rfl rfl rfl rfl (g := 27) (vs := [.slice av l.length c]) (ob := []) (by as_aux_lemma => kernel_rfl) An enters27 (rrow_bad av l c w hn0 (hav.keepNn hk0) (by first | omega | (simp; omega) | (simp; done) | exact Nat.le_trans (byKinds_len _ _) (by omega) | decide)) ?_
 clear hf; rintro _ w1 a ⟨rfl, hk⟩ hf
 have hM := hM.keepNn hk
 have hk0 := hk0.trans hk.nn
 clear hk
 refine q0 hf hM [0] [{}, {}, {}, {}, {}] (nw := [(4, eI (firstBad l)), (3, eS none 0 0)]) An ?_
 clear hf; intro a hf
 refine wpList_nil ?_
 refine hK2 _ _ ?_
 refine wp_seq_k (fun K3 hK3 => ?_)
 refine wp_region_lit ?_
 refine q0 hf hM [3, 0] [{}, {}, {}] (nw := [(12, eB (((firstBad l) : Int) == 0))]) An ?_
 clear hf; intro a hf
 rcases Bool.eq_false_or_eq_true (((firstBad l) : Int) == 0) with hg1r | hg1r
 · have hg1 := (nE hg1r)
   have hf := hf.setb 12 hg1r
   refine q0 hf hM [12] [{}, {}] (nw := [(14, eS none 0 0), (13, eS av l.length c)]) (ob := [true = true, true = true]) (Ac rfl (Ao rfl)) ?_
   clear hf; intro a hf
   refine sxcallg hf rfl rfl rfl rfl rfl (g := 28) (vs := [.slice av l.length c, .slice none ([] : List V3).length 0]) (ob := []) (by as_aux_lemma => kernel_rfl) An enters28 (rsame av l c none ([] : List V3) 0 w1  (hav.keepNn hk0) (by first | omega | (simp; omega) | (simp; done) | exact Nat.le_trans (byKinds_len _ _) (by omega) | decide) (Arr.none_nil _ _) (by first | omega | (simp; omega) | (simp; done) | exact Nat.le_trans (byKinds_len _ _) (by omega) | decide)) ?_
   clear hf; rintro _ w2 a ⟨rfl, hk⟩ hf
   have hM := hM.keepNn hk
   have hk0 := hk0.trans hk.nn
   clear hk
   refine q0 hf hM [] [{}, {}] (nw := [(2, eB (sameL l ([] : List V3)))]) An ?_
   clear hf; intro a hf
   refine wpList_nil ?_
   refine hK3 _ _ ?_
   refine wp_ret ?_
   refine qr (fn := Tryd.f12) hf hM [] (l := [bV (sameL l ([] : List V3))]) (ob := []) An ?_
   show (bV (sameL l ([] : List V3)) : Value) = .bool (rightV l) ∧ Keep Nn w w2
   have hr := rightV_bad hn
   first | exact ⟨congrArg Value.bool hr.symm, hk0⟩ | (exfalso; simp_all; done) | (refine ⟨congrArg Value.bool ?_, hk0⟩; rw [hr]; simp [hn0])
 · have hg1 := (nF hg1r)
   have hf := hf.setb 12 hg1r
   refine q0 hf hM [12] [{ g := .off }, { g := .off }] (nw := [(14, .val (undef)), (13, .val (undef))]) (ob := [false = !true, false = !true]) (Ac rfl (Ao rfl)) ?_
   clear hf; intro a hf
   refine q0 hf hM [] [{ g := .off }, {}, {}] (nw := [(2, eB false)]) (ob := [false = !true]) (Ao rfl) ?_
   clear hf; intro a hf
   refine wpList_nil ?_
   refine hK3 _ _ ?_
   refine wp_ret ?_
   refine qr (fn := Tryd.f12) hf hM [] (l := [bV false]) (ob := []) An ?_
   show (bV false : Value) = .bool (rightV l) ∧ Keep Nn w w1
   have hr := rightV_bad hn
   first | exact ⟨congrArg Value.bool hr.symm, hk0⟩ | (exfalso; simp_all; done) | (refine ⟨congrArg Value.bool ?_, hk0⟩; rw [hr]; simp [hn0])

set_option maxRecDepth 10000 in
set_option maxHeartbeats 1600000 in
theorem rright_dup (av : Option Addr) (l : List V3) (c : Nat) (w : World) (hn0 : (firstBad l == 0) = true) (hn1 : (noDup l) = false) (hav : Arr w 3 av l.length c (flat fV l)) (hbav : l.length ≤ 1000000) :
    Calls Tryd.prog 12 #[.slice av l.length c] w (Ret fun v w' => v = .bool (rightV l) ∧ Keep Nn w w') := by
 refine sxenter (n := 17) (args := [.slice av l.length c]) Tryd.func12 rfl rfl rfl fun a hf => ?_
 replace hf : Fr 17 [(0, eS av l.length c)] a := hf
 have hM : MemOk [] w := MemOk.nil w
 have hk0 : Keep Nn w w := Keep.refl _ _
 refine wp_seq_k (fun K1 hK1 => ?_)
 refine wp_region_lit ?_
 refine q0 hf hM [0] [{}] (nw := []) An ?_
 clear hf; intro a hf
 refine wpList_nil ?_
 refine hK1 _ _ ?_
 refine wp_seq_k (fun K2 hK2 => ?_)
 refine wp_region_lit ?_
 refine q0 hf hM [0] [{}] (nw := [(6, eS av l.length c)]) An ?_
 clear hf; intro a hf
 refine sxcall hf rfl rfl rfl rfl (g := 27) (vs := [.slice av l.length c]) (ob := []) (by as_aux_lemma => kernel_rfl) An enters27 (rrow_dup av l c w hn0 hn1 (hav.keepNn hk0) (by first | omega | (simp; omega) | (simp; done) | exact Nat.le_trans (byKinds_len _ _) (by omega) | decide)) ?_
 clear hf; rintro _ w1 a ⟨rfl, hk⟩ hf
 have hM := hM.keepNn hk
 have hk0 := hk0.trans hk.nn
 clear hk
 refine q0 hf hM [0] [{}, {}, {}, {}, {}] (nw := [(4, eI 4), (3, eS none 0 0)]) An ?_
 clear hf; intro a hf
 refine wpList_nil ?_
 refine hK2 _ _ ?_
 refine wp_seq_k (fun K3 hK3 => ?_)
 refine wp_region_lit ?_
 refine q0 hf hM [] [{}, {}, {}, { g := .off }, { g := .off }] (nw := [(14, .val (undef)), (13, .val (undef)), (12, eB false)]) (ob := [false = !true, false = !true]) (Ac rfl (Ao rfl)) ?_
 clear hf; intro a hf
 refine q0 hf hM [] [{ g := .off }, {}, {}] (nw := [(2, eB false)]) (ob := [false = !true]) (Ao rfl) ?_
 clear hf; intro a hf
 refine wpList_nil ?_
 refine hK3 _ _ ?_
 refine wp_ret ?_
 refine qr (fn := Tryd.f12) hf hM [] (l := [bV false]) (ob := []) An ?_
 show (bV false : Value) = .bool (rightV l) ∧ Keep Nn w w1
 exact ⟨congrArg Value.bool (rightV_dup hn1).symm, hk0⟩

set_option maxRecDepth 10000 in
set_option maxHeartbeats 1600000 in
theorem rright_ok (av : Option Addr) (l : List V3) (c : Nat) (w : World) (hn0 : (firstBad l == 0) = true) (hn1 : (noDup l) = true) (hav : Arr w 3 av l.length c (flat fV l)) (hbav : l.length ≤ 1000000) :
    Calls Tryd.prog 12 #[.slice av l.length c] w (Ret fun v w' => v = .bool (rightV l) ∧ Keep Nn w w') := by
 refine sxenter (n := 17) (args := [.slice av l.length c]) Tryd.func12 rfl rfl rfl fun a hf => ?_
 replace hf : Fr 17 [(0, eS av l.length c)] a := hf
 have hM : MemOk [] w := MemOk.nil w
 have hk0 : Keep Nn w w := Keep.refl _ _
 have hn : firstBad l = 0 := by simpa using hn0
 refine wp_seq_k (fun K1 hK1 => ?_)
 refine wp_region_lit ?_
 refine q0 hf hM [0] [{}] (nw := []) An ?_
 clear hf; intro a hf
 refine wpList_nil ?_
 refine hK1 _ _ ?_
 refine wp_seq_k (fun K2 hK2 => ?_)
 refine wp_region_lit ?_
 refine q0 hf hM [0] [{}] (nw := [(6, eS av l.length c)]) An ?_
 clear hf; intro a hf
 refine sxcall hf rfl rfl rfl rfl (g := 27) (vs := [.slice av l.length c]) (ob := []) (by as_aux_lemma => kernel_rfl) An enters27 (rrow_ok av l c w hn0 hn1 (hav.keepNn hk0) (by first | omega | (simp; omega) | (simp; done) | exact Nat.le_trans (byKinds_len _ _) (by omega) | decide)) ?_
 clear hf; rintro _ w1 a ⟨a'1, c'1, rfl, hk, hx1⟩ hf
 have hO : OwnOk w.heap.size [] [] w := OwnOk.nil hM
 have hO := hO.more hM hk (by have := hk0.size; omega) hx1
 replace hO : OwnOk w.heap.size [] [⟨59, 3, .slice a'1 (byKinds l 10).length c'1, (byKinds l 10).length, flat fV (byKinds l 10)⟩] _ := hO
 have hM := hM.keepNn hk
 have hk0 := hk0.trans hk.nn
 clear hk
 refine q0 hf hM [0] [{}, {}, {}, {}, {}] (nw := [(4, eI 0), (3, eS a'1 (byKinds l 10).length c'1)]) An ?_
 clear hf; intro a hf
 refine wpList_nil ?_
 refine hK2 _ _ ?_
 refine wp_seq_k (fun K3 hK3 => ?_)
 refine wp_region_lit ?_
 refine q0 hf hM [] [{}, {}, {}, {}, {}] (nw := [(14, eS a'1 (byKinds l 10).length c'1), (13, eS av l.length c), (12, eB true)]) (ob := [true = true, true = true]) (Ac rfl (Ao rfl)) ?_
 clear hf; intro a hf
 refine sxcallg hf rfl rfl rfl rfl rfl (g := 28) (vs := [.slice av l.length c, .slice a'1 (byKinds l 10).length c'1]) (ob := []) (by as_aux_lemma => kernel_rfl) An enters28 (rsame av l c a'1 (byKinds l 10) c'1 w1  (hav.keepNn hk0) (by first | omega | (simp; omega) | (simp; done) | exact Nat.le_trans (byKinds_len _ _) (by omega) | decide) (own_arr (hO.own _ (List.Mem.head _))) (by first | omega | (simp; omega) | (simp; done) | exact Nat.le_trans (byKinds_len _ _) (by omega) | decide)) ?_
 clear hf; rintro _ w2 a ⟨rfl, hk⟩ hf
 have hO := hO.keepNn hk
 have hM := hM.keepNn hk
 have hk0 := hk0.trans hk.nn
 clear hk
 refine q0 hf hM [] [{}, {}] (nw := [(2, eB (sameL l (byKinds l 10)))]) An ?_
 clear hf; intro a hf
 refine wpList_nil ?_
 refine hK3 _ _ ?_
 refine wp_ret ?_
 refine qr (fn := Tryd.f12) hf hM [] (l := [bV (sameL l (byKinds l 10))]) (ob := []) An ?_
 show (bV (sameL l (byKinds l 10)) : Value) = .bool (rightV l) ∧ Keep Nn w w2
 exact ⟨congrArg Value.bool (rright_eq hn hn1), hk0⟩

set_option maxRecDepth 10000 in
set_option maxHeartbeats 1600000 in
theorem bit_ok (k : Int) (w : World) (hn0 : (decide (0 ≤ k ∧ k ≤ 9)) = true) :
    Calls Tryd.prog 44 #[iV k] w (Ret fun v w' => v = uV (((bitN k) : Nat) : Int) ∧ Keep Nn w w') := by
 refine sxenter (n := 11) (args := [iV k]) Tryd.func44 rfl rfl rfl fun a hf => ?_
 replace hf : Fr 11 [(0, eI k)] a := hf
 have hM : MemOk [] w := MemOk.nil w
 have hk0 : Keep Nn w w := Keep.refl _ _
 have hkk : 0 ≤ k ∧ k ≤ 9 := of_decide_eq_true hn0
 refine wp_seq_k (fun K1 hK1 => ?_)
 refine wp_region_lit ?_
 refine q0 hf hM [0] [{}] (nw := []) An ?_
 clear hf; intro a hf
 refine wpList_nil ?_
 refine hK1 _ _ ?_
 refine wp_seq_k (fun K2 hK2 => ?_)
 refine wp_seq_k (fun K3 hK3 => ?_)
 refine wp_region_lit ?_
 refine q0 hf hM [0] [{}, {}, {}, { g := .sym }, { g := .sym }, { hint := some (bV ((decide ((k : Int) < 0)) || (decide ((k : Int) ≥ 10)))) }] (nw := [(8, eB ((decide ((k : Int) < 0)) || (decide ((k : Int) ≥ 10))))]) (ob := [((decide ((k : Int) < 0)) = false → (decide ((k : Int) < 0)) = (decide ((k : Int) < 0))), ((decide ((k : Int) < 0)) = false → (decide ((k : Int) < 0)) = (decide ((k : Int) < 0))), (bif (decide ((k : Int) < 0)) then (bV true : Value) else bV (decide ((k : Int) ≥ 10))) = .bool ((decide ((k : Int) < 0)) || (decide ((k : Int) ≥ 10)))]) (Ac (fun hgd => rfl) (Ac (fun _ => rfl) (Ao (pick_or _ _)))) ?_
 clear hf; intro a hf
 refine wpList_nil ?_
 refine hK3 _ _ ?_
 refine qc hf (b := ((decide ((k : Int) < 0)) || (decide ((k : Int) ≥ 10)))) (fun hc1r => ?_) (fun hc1r => ?_)
 · have hc1 := hc1r
   try simp only [Bool.or_eq_true, Bool.and_eq_true, Bool.not_eq_true', Bool.not_eq_false', Bool.or_eq_false_iff, Bool.and_eq_false_iff, decide_eq_true_eq, decide_eq_false_iff_not, beq_iff_eq, bne_iff_ne, beq_eq_false_iff_ne, bne_eq_false_iff_eq, Bool.and_true, Bool.true_and, ne_eq] at hc1
   exfalso; omega
 · have hc1 := hc1r
   try simp only [Bool.or_eq_true, Bool.and_eq_true, Bool.not_eq_true', Bool.not_eq_false', Bool.or_eq_false_iff, Bool.and_eq_false_iff, decide_eq_true_eq, decide_eq_false_iff_not, beq_iff_eq, bne_iff_ne, beq_eq_false_iff_ne, bne_eq_false_iff_eq, Bool.and_true, Bool.true_and, ne_eq] at hc1
   refine wp_skip ?_
   refine hK2 _ _ ?_
   refine wp_seq_k (fun K4 hK4 => ?_)
   refine wp_region_lit ?_
   refine q0 hf hM [] [{}, { sp := true, hint := some (uV (((bitN k) : Nat) : Int)) }, {}] (nw := [(2, eU (((bitN k) : Nat) : Int))]) (ob := [0 ≤ (k : Int), (uV (IntKind.u64.wrap (1 * 2 ^ (min (k : Int).toNat IntKind.u64.bits))) : Value) = (uV (((bitN k) : Nat) : Int) : Value)]) (Ac (by omega) (Ao (shl_bit hkk))) ?_
   clear hf; intro a hf
   refine wpList_nil ?_
   refine hK4 _ _ ?_
   refine wp_ret ?_
   refine qr (fn := Tryd.f44) hf hM [] (l := [uV (((bitN k) : Nat) : Int)]) (ob := []) An ?_
   show (uV (((bitN k) : Nat) : Int) : Value) = uV (((bitN k) : Nat) : Int) ∧ Keep Nn w w
   exact ⟨rfl, hk0⟩

set_option maxRecDepth 10000 in
set_option maxHeartbeats 1600000 in
theorem bit_no (k : Int) (w : World) (hn0 : (decide (0 ≤ k ∧ k ≤ 9)) = false) :
    Calls Tryd.prog 44 #[iV k] w (Ret fun v w' => v = .int .u64 0 ∧ Keep Nn w w') := by
 refine sxenter (n := 11) (args := [iV k]) Tryd.func44 rfl rfl rfl fun a hf => ?_
 replace hf : Fr 11 [(0, eI k)] a := hf
 have hM : MemOk [] w := MemOk.nil w
 have hk0 : Keep Nn w w := Keep.refl _ _
 have hkk : ¬ (0 ≤ k ∧ k ≤ 9) := of_decide_eq_false hn0
 refine wp_seq_k (fun K1 hK1 => ?_)
 refine wp_region_lit ?_
 refine q0 hf hM [0] [{}] (nw := []) An ?_
 clear hf; intro a hf
 refine wpList_nil ?_
 refine hK1 _ _ ?_
 refine wp_seq_k (fun K2 hK2 => ?_)
 refine wp_seq_k (fun K3 hK3 => ?_)
 refine wp_region_lit ?_
 refine q0 hf hM [0] [{}, {}, {}, { g := .sym }, { g := .sym }, { hint := some (bV ((decide ((k : Int) < 0)) || (decide ((k : Int) ≥ 10)))) }] (nw := [(8, eB ((decide ((k : Int) < 0)) || (decide ((k : Int) ≥ 10))))]) (ob := [((decide ((k : Int) < 0)) = false → (decide ((k : Int) < 0)) = (decide ((k : Int) < 0))), ((decide ((k : Int) < 0)) = false → (decide ((k : Int) < 0)) = (decide ((k : Int) < 0))), (bif (decide ((k : Int) < 0)) then (bV true : Value) else bV (decide ((k : Int) ≥ 10))) = .bool ((decide ((k : Int) < 0)) || (decide ((k : Int) ≥ 10)))]) (Ac (fun hgd => rfl) (Ac (fun _ => rfl) (Ao (pick_or _ _)))) ?_
 clear hf; intro a hf
 refine wpList_nil ?_
 refine hK3 _ _ ?_
 refine qc hf (b := ((decide ((k : Int) < 0)) || (decide ((k : Int) ≥ 10)))) (fun hc1r => ?_) (fun hc1r => ?_)
 · have hc1 := hc1r
   try simp only [Bool.or_eq_true, Bool.and_eq_true, Bool.not_eq_true', Bool.not_eq_false', Bool.or_eq_false_iff, Bool.and_eq_false_iff, decide_eq_true_eq, decide_eq_false_iff_not, beq_iff_eq, bne_iff_ne, beq_eq_false_iff_ne, bne_eq_false_iff_eq, Bool.and_true, Bool.true_and, ne_eq] at hc1
   refine wp_seq_k (fun K4 hK4 => ?_)
   refine wp_region_lit ?_
   refine q0 hf hM [] [{}] (nw := [(2, eU 0)]) An ?_
   clear hf; intro a hf
   refine wpList_nil ?_
   refine hK4 _ _ ?_
   refine wp_ret ?_
   refine qr (fn := Tryd.f44) hf hM [] (l := [uV 0]) (ob := []) An ?_
   show (uV 0 : Value) = .int .u64 0 ∧ Keep Nn w w
   exact ⟨rfl, hk0⟩
 · have hc1 := hc1r
   try simp only [Bool.or_eq_true, Bool.and_eq_true, Bool.not_eq_true', Bool.not_eq_false', Bool.or_eq_false_iff, Bool.and_eq_false_iff, decide_eq_true_eq, decide_eq_false_iff_not, beq_iff_eq, bne_iff_ne, beq_eq_false_iff_ne, bne_eq_false_iff_eq, Bool.and_true, Bool.true_and, ne_eq] at hc1
   exfalso; omega

set_option maxRecDepth 10000 in
set_option maxHeartbeats 1600000 in
theorem of1_ok (E : Nat → Addr) (av : Option Addr) (k : Int) (c : Nat) (w : World) (hn0 : (decide (0 ≤ k ∧ k ≤ 9)) = true) (hav : Arr w 1 av 1 c (flat fI ([k] : List Int))) (hG : Errs [0, 1, 2, 3, 4, 5, 6, 7, 8, 9] w 115 E) :
    Calls Tryd.prog 22 #[.slice av 1 c] w (Ret fun v w' => v = .tuple #[uV (((bitN k) : Nat) : Int), .nilIface] ∧ Keep Nn w w') := by
 refine sxenter (n := 24) (args := [.slice av 1 c]) Tryd.func22 rfl rfl rfl fun a hf => ?_
 replace hf : Fr 24 [(0, eS av 1 c)] a := hf
 have hM : MemOk [] w := MemOk.nil w
 have hk0 : Keep Nn w w := Keep.refl _ _
 have hkk : 0 ≤ k ∧ k ≤ 9 := of_decide_eq_true hn0
 have hbp := bitN_pos k
 refine wp_seq_k (fun K1 hK1 => ?_)
 refine wp_region_lit ?_
 refine q0 hf hM [0] [{}, {}] (nw := [(3, .val (.nilIface)), (2, eU 0)]) An ?_
 clear hf; intro a hf
 refine wpList_nil ?_
 refine hK1 _ _ ?_
 refine wp_seq_k (fun K2 hK2 => ?_)
 refine wp_region_lit ?_
 refine q0 hf hM [3, 2, 0] [{}] (nw := [(4, eU 0)]) An ?_
 clear hf; intro a hf
 refine wpList_nil ?_
 refine hK2 _ _ ?_
 refine wp_seq_k (fun K3 hK3 => ?_)
 refine wp_seq_k (fun K4 hK4 => ?_)
 refine wp_region_lit ?_
 refine q0 hf hM [4, 3, 2] [{}, {}, {}] (nw := [(10, eI 0), (9, eI 1), (8, eS av 1 c)]) An ?_
 clear hf; intro a hf
 refine wpList_nil ?_
 refine hK4 _ _ ?_
 refine wp_block ?_
 refine wp_loop_rounds 2 ?_
 refine sxround (m := 1) fun L1 hL1 => ?_
 refine wp_seq_k (fun K5 hK5 => ?_)
 refine wp_region_lit ?_
 refine q0 hf hM [10, 9, 8, 4, 3, 2] [{}] (nw := [(11, eB true)]) An ?_
 clear hf; intro a hf
 refine wpList_nil ?_
 refine hK5 _ _ ?_
 refine wp_seq_k (fun K6 hK6 => ?_)
 refine sxcond hf (b := true) (by kernel_rfl) (fun _ => ?_) (fun h => by cases h)
 refine wp_skip ?_
 refine hK6 _ _ ?_
 refine wp_seq_k (fun K7 hK7 => ?_)
 refine wp_block ?_
 refine wp_seq_k (fun K8 hK8 => ?_)
 refine wp_region_lit ?_
 refine q0 hf hM [10, 9, 8, 4, 3, 2] [{ sp := true }, { os := [.ex (iV (([k] : List Int).getD (0 : Int).toNat 0))], hint := some (iV k) }, {}] (nw := [(6, eI k)]) (ob := [(0 : Int) ≤ 0 ∧ 0 < (1 : Int), (av : Option Addr).isSome = true, w.cell? ((sa av : Addr).add ((0 : Int).toNat * 1)) = some (iV (([k] : List Int).getD (0 : Int).toNat 0)), (iV (([k] : List Int).getD (0 : Int).toNat 0) : Value) = (iV k : Value)]) (Ac (by first | omega | (simp; done)) (Ac ((hav.keepNn hk0).some_ (by first | omega | (simp; done))) (Ac ((hav.keepNn hk0).get0 (fun _ => rfl) (by first | omega | (simp; done)) rfl) (Ao rfl)))) ?_
 clear hf; intro a hf
 refine wpList_nil ?_
 refine hK8 _ _ ?_
 refine wp_seq_k (fun K9 hK9 => ?_)
 refine wp_region_lit ?_
 refine q0 hf hM [10, 9, 8, 4, 3, 2] [{}] (nw := [(14, eI k)]) An ?_
 clear hf; intro a hf
 refine sxcall hf rfl rfl rfl rfl (g := 44) (vs := [iV k]) (ob := []) (by as_aux_lemma => kernel_rfl) An enters44 (bit_ok k w hn0 ) ?_
 clear hf; rintro _ w1 a ⟨rfl, hk⟩ hf
 have hM := hM.keepNn hk
 have hk0 := hk0.trans hk.nn
 clear hk
 refine q0 hf hM [10, 9, 8, 4, 3, 2] [{}] (nw := [(7, eU (((bitN k) : Nat) : Int))]) An ?_
 clear hf; intro a hf
 refine wpList_nil ?_
 refine hK9 _ _ ?_
 refine wp_seq_k (fun K10 hK10 => ?_)
 refine wp_seq_k (fun K11 hK11 => ?_)
 refine wp_region_lit ?_
 refine q0 hf hM [7, 10, 9, 8, 4, 3, 2] [{}, {}] (nw := [(17, eB (((((bitN k) : Nat) : Int) : Int) == 0))]) An ?_
 clear hf; intro a hf
 refine wpList_nil ?_
 refine hK11 _ _ ?_
 refine qc hf (b := (((((bitN k) : Nat) : Int) : Int) == 0)) (fun hc2r => ?_) (fun hc2r => ?_)
 · have hc2 := (nE hc2r)
   exfalso; omega
 · have hc2 := (nF hc2r)
   refine wp_skip ?_
   refine hK10 _ _ ?_
   refine wp_region_lit ?_
   refine q0 hf hM [10, 9, 8, 3, 2] [{}, {}, { hint := some (uV (((bitN k) : Nat) : Int)) }, {}] (nw := [(4, eU (((bitN k) : Nat) : Int))]) (ob := [(uV (IntKind.u64.wrap ((BitVec.ofInt IntKind.u64.bits 0 ||| (BitVec.ofInt IntKind.u64.bits (((bitN k) : Nat) : Int)) : BitVec IntKind.u64.bits).toNat : Int)) : Value) = (uV (((bitN k) : Nat) : Int) : Value)]) (Ao (or_u64_0 (bitN_lt' hkk))) ?_
   clear hf; intro a hf
   refine wpList_nil ?_
   refine hK7 _ _ ?_
   refine wp_region_lit ?_
   refine q0 hf hM [4, 9, 8, 3, 2] [{}, {}] (nw := [(10, eI 1)]) An ?_
   clear hf; intro a hf
   refine wpList_nil ?_
   refine hL1 _ _ ?_
   refine sxround (m := 0) fun L2 hL2 => ?_
   refine wp_seq_k (fun K12 hK12 => ?_)
   refine wp_region_lit ?_
   refine q0 hf hM [10, 4, 9, 8, 3, 2] [{}] (nw := [(11, eB false)]) An ?_
   clear hf; intro a hf
   refine wpList_nil ?_
   refine hK12 _ _ ?_
   refine wp_seq_k (fun K13 hK13 => ?_)
   refine sxcond hf (b := false) (by kernel_rfl) (fun h => by cases h) (fun _ => ?_)
   refine wp_exit ?_
   refine hK3 _ _ ?_
   refine wp_seq_k (fun K14 hK14 => ?_)
   refine wp_region_lit ?_
   refine q0 hf hM [3] [{}, {}, {}] (nw := [(2, eU (((bitN k) : Nat) : Int))]) An ?_
   clear hf; intro a hf
   refine wpList_nil ?_
   refine hK14 _ _ ?_
   refine wp_ret ?_
   refine qr (fn := Tryd.f22) hf hM [] (l := [uV (((bitN k) : Nat) : Int), .nilIface]) (ob := []) An ?_
   show (.tuple #[uV (((bitN k) : Nat) : Int), .nilIface] : Value) = .tuple #[uV (((bitN k) : Nat) : Int), .nilIface] ∧ Keep Nn w w1
   exact ⟨rfl, hk0⟩

set_option maxRecDepth 10000 in
set_option maxHeartbeats 1600000 in
theorem of1_no (E : Nat → Addr) (av : Option Addr) (k : Int) (c : Nat) (w : World) (hn0 : (decide (0 ≤ k ∧ k ≤ 9)) = false) (hav : Arr w 1 av 1 c (flat fI ([k] : List Int))) (hG : Errs [0, 1, 2, 3, 4, 5, 6, 7, 8, 9] w 115 E) :
    Calls Tryd.prog 22 #[.slice av 1 c] w (Ret fun v w' => v = .tuple #[uV 0, .iface 115 (.pointer (some (E 4)))] ∧ Keep Nn w w') := by
 refine sxenter (n := 24) (args := [.slice av 1 c]) Tryd.func22 rfl rfl rfl fun a hf => ?_
 replace hf : Fr 24 [(0, eS av 1 c)] a := hf
 have hM : MemOk [] w := MemOk.nil w
 have hk0 : Keep Nn w w := Keep.refl _ _
 refine wp_seq_k (fun K1 hK1 => ?_)
 refine wp_region_lit ?_
 refine q0 hf hM [0] [{}, {}] (nw := [(3, .val (.nilIface)), (2, eU 0)]) An ?_
 clear hf; intro a hf
 refine wpList_nil ?_
 refine hK1 _ _ ?_
 refine wp_seq_k (fun K2 hK2 => ?_)
 refine wp_region_lit ?_
 refine q0 hf hM [3, 2, 0] [{}] (nw := [(4, eU 0)]) An ?_
 clear hf; intro a hf
 refine wpList_nil ?_
 refine hK2 _ _ ?_
 refine wp_seq_k (fun K3 hK3 => ?_)
 refine wp_seq_k (fun K4 hK4 => ?_)
 refine wp_region_lit ?_
 refine q0 hf hM [4, 3, 2] [{}, {}, {}] (nw := [(10, eI 0), (9, eI 1), (8, eS av 1 c)]) An ?_
 clear hf; intro a hf
 refine wpList_nil ?_
 refine hK4 _ _ ?_
 refine wp_block ?_
 refine wp_loop_rounds 2 ?_
 refine sxround (m := 1) fun L1 hL1 => ?_
 refine wp_seq_k (fun K5 hK5 => ?_)
 refine wp_region_lit ?_
 refine q0 hf hM [10, 9, 8, 4, 3, 2] [{}] (nw := [(11, eB true)]) An ?_
 clear hf; intro a hf
 refine wpList_nil ?_
 refine hK5 _ _ ?_
 refine wp_seq_k (fun K6 hK6 => ?_)
 refine sxcond hf (b := true) (by kernel_rfl) (fun _ => ?_) (fun h => by cases h)
 refine wp_skip ?_
 refine hK6 _ _ ?_
 refine wp_seq_k (fun K7 hK7 => ?_)
 refine wp_block ?_
 refine wp_seq_k (fun K8 hK8 => ?_)
 refine wp_region_lit ?_
 refine q0 hf hM [10, 9, 8, 4, 3, 2] [{ sp := true }, { os := [.ex (iV (([k] : List Int).getD (0 : Int).toNat 0))], hint := some (iV k) }, {}] (nw := [(6, eI k)]) (ob := [(0 : Int) ≤ 0 ∧ 0 < (1 : Int), (av : Option Addr).isSome = true, w.cell? ((sa av : Addr).add ((0 : Int).toNat * 1)) = some (iV (([k] : List Int).getD (0 : Int).toNat 0)), (iV (([k] : List Int).getD (0 : Int).toNat 0) : Value) = (iV k : Value)]) (Ac (by first | omega | (simp; done)) (Ac ((hav.keepNn hk0).some_ (by first | omega | (simp; done))) (Ac ((hav.keepNn hk0).get0 (fun _ => rfl) (by first | omega | (simp; done)) rfl) (Ao rfl)))) ?_
 clear hf; intro a hf
 refine wpList_nil ?_
 refine hK8 _ _ ?_
 refine wp_seq_k (fun K9 hK9 => ?_)
 refine wp_region_lit ?_
 refine q0 hf hM [10, 9, 8, 4, 3, 2] [{}] (nw := [(14, eI k)]) An ?_
 clear hf; intro a hf
 refine sxcall hf rfl rfl rfl rfl (g := 44) (vs := [iV k]) (ob := []) (by as_aux_lemma => kernel_rfl) An enters44 (bit_no k w hn0 ) ?_
 clear hf; rintro _ w1 a ⟨rfl, hk⟩ hf
 have hM := hM.keepNn hk
 have hk0 := hk0.trans hk.nn
 clear hk
 refine q0 hf hM [10, 9, 8, 4, 3, 2] [{}] (nw := [(7, eU 0)]) An ?_
 clear hf; intro a hf
 refine wpList_nil ?_
 refine hK9 _ _ ?_
 refine wp_seq_k (fun K10 hK10 => ?_)
 refine wp_seq_k (fun K11 hK11 => ?_)
 refine wp_region_lit ?_
 refine q0 hf hM [7, 10, 9, 8, 4, 3, 2] [{}, {}] (nw := [(17, eB true)]) An ?_
 clear hf; intro a hf
 refine wpList_nil ?_
 refine hK11 _ _ ?_
 refine sxcond hf (b := true) (by kernel_rfl) (fun _ => ?_) (fun h => by cases h)
 refine wp_seq_k (fun K12 hK12 => ?_)
 replace hM := hM.drew; replace hk0 := hk0.drew
 obtain ⟨C1, hC1i, hC1e⟩ := qcls fun w' => MemOk [] w' ∧ Keep Nn w w' ∧ True
 refine sxdraw (C := C1) (.leaf [(0, true), (1, true), (2, true)]) (by kernel_rfl) (by kernel_rfl) (by as_aux_lemma => kernel_rfl) rfl (by as_aux_lemma => kernel_rfl) (by kernel_rfl) (hC1i _ ⟨hM.sub (.slnil), hk0, trivial⟩) ?_
 refine sxleaf ?_
 have hC := (hC1i _ ⟨hM.sub (.slnil), hk0, trivial⟩)
 refine qd hf hC (fun w' h => (hC1e w' h).1) [2] [{ os := [.ex (.iface 115 (.pointer (some (E 4))))] }, {}, {}] (nw := [(3, .val (.iface 115 (.pointer (some (E 4)))))]) (ob := [(∀ w', C1 w' → w'.cell? ⟨4, 0, none⟩ = some (.iface 115 (.pointer (some (E 4)))))]) (Ao (fun w' hc => by obtain ⟨hM, hk0, hO⟩ := hC1e w' hc; exact (hk0.cell (hG.cell 4 (by decide)) (fun h => h)))) ?_
 clear hf; intro a hf
 clear hC
 show K12 _ _
 refine hK12 _ _ ?_
 refine wp_ret ?_
 refine qr (fn := Tryd.f22) hf hM [] (l := [uV 0, .iface 115 (.pointer (some (E 4)))]) (ob := []) An ?_
 show (.tuple #[uV 0, .iface 115 (.pointer (some (E 4)))] : Value) = .tuple #[uV 0, .iface 115 (.pointer (some (E 4)))] ∧ Keep Nn w w1.drew
 exact ⟨rfl, hk0⟩

set_option maxRecDepth 10000 in
set_option maxHeartbeats 1600000 in
theorem mwith1 (na nb : Nat) (w : World) (ha : na < 2 ^ 64) (hb : nb < 2 ^ 64) :
    Calls Tryd.prog 57 #[uV ((na : Nat) : Int), uV ((nb : Nat) : Int)] w (Ret fun v w' => v = uV (((na ||| nb) : Nat) : Int) ∧ Keep Nn w w') := by
 refine sxenter (n := 8) (args := [uV ((na : Nat) : Int), uV ((nb : Nat) : Int)]) Tryd.func57 rfl rfl rfl fun a hf => ?_
 replace hf : Fr 8 [(0, eU ((na : Nat) : Int)), (1, eU ((nb : Nat) : Int))] a := hf
 have hM : MemOk [] w := MemOk.nil w
 have hk0 : Keep Nn w w := Keep.refl _ _
 refine wp_seq_k (fun K1 hK1 => ?_)
 refine wp_region_lit ?_
 refine q0 hf hM [0, 1] [{}] (nw := []) An ?_
 clear hf; intro a hf
 refine wpList_nil ?_
 refine hK1 _ _ ?_
 refine wp_seq_k (fun K2 hK2 => ?_)
 refine wp_region_lit ?_
 refine q0 hf hM [] [{}, {}, { hint := some (uV (((na ||| nb) : Nat) : Int)) }, {}] (nw := [(4, eU (((na ||| nb) : Nat) : Int))]) (ob := [(uV (IntKind.u64.wrap ((BitVec.ofInt IntKind.u64.bits ((na : Nat) : Int) ||| (BitVec.ofInt IntKind.u64.bits ((nb : Nat) : Int)) : BitVec IntKind.u64.bits).toNat : Int)) : Value) = (uV (((na ||| nb) : Nat) : Int) : Value)]) (Ao (or_u64 ha hb)) ?_
 clear hf; intro a hf
 refine wpList_nil ?_
 refine hK2 _ _ ?_
 refine wp_ret ?_
 refine qr (fn := Tryd.f57) hf hM [] (l := [uV (((na ||| nb) : Nat) : Int)]) (ob := []) An ?_
 show (uV (((na ||| nb) : Nat) : Int) : Value) = uV (((na ||| nb) : Nat) : Int) ∧ Keep Nn w w
 exact ⟨rfl, hk0⟩

set_option maxRecDepth 10000 in
set_option maxHeartbeats 1600000 in
theorem mwith_ch_ok (E : Nat → Addr) (mm : Nat) (av : Option Addr) (k : Int) (c : Nat) (w : World) (hn0 : (decide (0 ≤ k ∧ k ≤ 9)) = true) (hmm : mm < 2 ^ 64) (hav : Arr w 1 av 1 c (flat fI ([k] : List Int))) (hG : Errs [0, 1, 2, 3, 4, 5, 6, 7, 8, 9] w 115 E) :
    Calls Tryd.prog 56 #[uV ((mm : Nat) : Int), .func (.func 57) #[] #[], .slice av 1 c] w (Ret fun v w' => v = .tuple #[uV (((mm ||| bitN k) : Nat) : Int), .nilIface] ∧ Keep Nn w w') := by
 refine sxenter (n := 22) (args := [uV ((mm : Nat) : Int), .func (.func 57) #[] #[], .slice av 1 c]) Tryd.func56 rfl rfl rfl fun a hf => ?_
 replace hf : Fr 22 [(0, eU ((mm : Nat) : Int)), (1, .val (.func (.func 57) #[] #[])), (2, eS av 1 c)] a := hf
 have hM : MemOk [] w := MemOk.nil w
 have hk0 : Keep Nn w w := Keep.refl _ _
 have hkk : 0 ≤ k ∧ k ≤ 9 := of_decide_eq_true hn0
 have hb64 := bitN_lt' hkk
 refine wp_seq_k (fun K1 hK1 => ?_)
 refine wp_region_lit ?_
 refine q0 hf hM [0, 1, 2] [{}, {}] (nw := []) An ?_
 clear hf; intro a hf
 refine wpList_nil ?_
 refine hK1 _ _ ?_
 refine wp_seq_k (fun K2 hK2 => ?_)
 refine wp_region_lit ?_
 refine q0 hf hM [0, 1] [{}] (nw := [(11, eS av 1 c)]) An ?_
 clear hf; intro a hf
 refine sxcall hf rfl rfl rfl rfl (g := 22) (vs := [.slice av 1 c]) (ob := []) (by as_aux_lemma => kernel_rfl) An enters22 (of1_ok E av k c w hn0 (hav.keepNn hk0) (hG.keep hk0 (fun _ h => h))) ?_
 clear hf; rintro _ w1 a ⟨rfl, hk⟩ hf
 have hM := hM.keepNn hk
 have hk0 := hk0.trans hk.nn
 clear hk
 refine q0 hf hM [0, 1] [{}, {}, {}, {}, {}] (nw := [(9, .val (.nilIface)), (8, eU (((bitN k) : Nat) : Int))]) An ?_
 clear hf; intro a hf
 refine wpList_nil ?_
 refine hK2 _ _ ?_
 refine wp_seq_k (fun K3 hK3 => ?_)
 refine wp_seq_k (fun K4 hK4 => ?_)
 refine wp_region_lit ?_
 refine q0 hf hM [9, 8, 0, 1] [{}, {}] (nw := [(16, eB false)]) An ?_
 clear hf; intro a hf
 refine wpList_nil ?_
 refine hK4 _ _ ?_
 refine sxcond hf (b := false) (by kernel_rfl) (fun h => by cases h) (fun _ => ?_)
 refine wp_skip ?_
 refine hK3 _ _ ?_
 refine wp_seq_k (fun K5 hK5 => ?_)
 refine wp_region_lit ?_
 refine q0 hf hM [] [{}, {}, {}] (nw := [(20, eU (((bitN k) : Nat) : Int)), (19, eU ((mm : Nat) : Int)), (18, .val (.func (.func 57) #[] #[]))]) An ?_
 clear hf; intro a hf
 refine sxcall hf rfl rfl rfl rfl (g := 57) (vs := [uV ((mm : Nat) : Int), uV (((bitN k) : Nat) : Int)]) (ob := []) (by as_aux_lemma => kernel_rfl) An enters57 (mwith1 mm (bitN k) w1  (by first | assumption | exact bitN_lt' (by assumption) | omega) (by first | assumption | exact bitN_lt' (by assumption) | omega)) ?_
 clear hf; rintro _ w2 a ⟨rfl, hk⟩ hf
 have hM := hM.keepNn hk
 have hk0 := hk0.trans hk.nn
 clear hk
 refine q0 hf hM [] [{}, {}] (nw := [(7, .val (.nilIface)), (6, eU (((mm ||| (bitN k)) : Nat) : Int))]) An ?_
 clear hf; intro a hf
 refine wpList_nil ?_
 refine hK5 _ _ ?_
 refine wp_ret ?_
 refine qr (fn := Tryd.f56) hf hM [] (l := [uV (((mm ||| (bitN k)) : Nat) : Int), .nilIface]) (ob := []) An ?_
 show (.tuple #[uV (((mm ||| (bitN k)) : Nat) : Int), .nilIface] : Value) = .tuple #[uV (((mm ||| bitN k) : Nat) : Int), .nilIface] ∧ Keep Nn w w2
 exact ⟨rfl, hk0⟩

set_option maxRecDepth 10000 in
set_option maxHeartbeats 1600000 in
theorem mwith_ok (E : Nat → Addr) (mm : Nat) (av : Option Addr) (k : Int) (c : Nat) (w : World) (hn0 : (decide (0 ≤ k ∧ k ≤ 9)) = true) (hmm : mm < 2 ^ 64) (hav : Arr w 1 av 1 c (flat fI ([k] : List Int))) (hG : Errs [0, 1, 2, 3, 4, 5, 6, 7, 8, 9] w 115 E) :
    Calls Tryd.prog 49 #[uV ((mm : Nat) : Int), .slice av 1 c] w (Ret fun v w' => v = .tuple #[uV (((mm ||| bitN k) : Nat) : Int), .nilIface] ∧ Keep Nn w w') := by
 refine sxenter (n := 11) (args := [uV ((mm : Nat) : Int), .slice av 1 c]) Tryd.func49 rfl rfl rfl fun a hf => ?_
 replace hf : Fr 11 [(0, eU ((mm : Nat) : Int)), (1, eS av 1 c)] a := hf
 have hM : MemOk [] w := MemOk.nil w
 have hk0 : Keep Nn w w := Keep.refl _ _
 have hkk : 0 ≤ k ∧ k ≤ 9 := of_decide_eq_true hn0
 have hb64 := bitN_lt' hkk
 refine wp_seq_k (fun K1 hK1 => ?_)
 refine wp_region_lit ?_
 refine q0 hf hM [0, 1] [{}, {}] (nw := []) An ?_
 clear hf; intro a hf
 refine wpList_nil ?_
 refine hK1 _ _ ?_
 refine wp_seq_k (fun K2 hK2 => ?_)
 refine wp_region_lit ?_
 refine q0 hf hM [] [{}, {}] (nw := [(7, eS av 1 c), (6, eU ((mm : Nat) : Int))]) An ?_
 clear hf; intro a hf
 refine sxcall hf rfl rfl rfl rfl (g := 56) (vs := [uV ((mm : Nat) : Int), .func (.func 57) #[] #[], .slice av 1 c]) (ob := []) (by as_aux_lemma => kernel_rfl) An enters56 (mwith_ch_ok E mm av k c w hn0 (by first | assumption | exact bitN_lt' (by assumption) | omega) (hav.keepNn hk0) (hG.keep hk0 (fun _ h => h))) ?_
 clear hf; rintro _ w1 a ⟨rfl, hk⟩ hf
 have hM := hM.keepNn hk
 have hk0 := hk0.trans hk.nn
 clear hk
 refine q0 hf hM [] [{}, {}, {}, {}] (nw := [(5, .val (.nilIface)), (4, eU (((mm ||| bitN k) : Nat) : Int))]) An ?_
 clear hf; intro a hf
 refine wpList_nil ?_
 refine hK2 _ _ ?_
 refine wp_ret ?_
 refine qr (fn := Tryd.f49) hf hM [] (l := [uV (((mm ||| bitN k) : Nat) : Int), .nilIface]) (ob := []) An ?_
 show (.tuple #[uV (((mm ||| bitN k) : Nat) : Int), .nilIface] : Value) = .tuple #[uV (((mm ||| bitN k) : Nat) : Int), .nilIface] ∧ Keep Nn w w1
 exact ⟨rfl, hk0⟩

set_option maxRecDepth 10000 in
set_option maxHeartbeats 1600000 in
theorem mwith_ch_no (E : Nat → Addr) (mm : Nat) (av : Option Addr) (k : Int) (c : Nat) (w : World) (hn0 : (decide (0 ≤ k ∧ k ≤ 9)) = false) (hmm : mm < 2 ^ 64) (hav : Arr w 1 av 1 c (flat fI ([k] : List Int))) (hG : Errs [0, 1, 2, 3, 4, 5, 6, 7, 8, 9] w 115 E) :
    Calls Tryd.prog 56 #[uV ((mm : Nat) : Int), .func (.func 57) #[] #[], .slice av 1 c] w (Ret fun v w' => v = .tuple #[uV 0, .iface 115 (.pointer (some (E 4)))] ∧ Keep Nn w w') := by
 refine sxenter (n := 22) (args := [uV ((mm : Nat) : Int), .func (.func 57) #[] #[], .slice av 1 c]) Tryd.func56 rfl rfl rfl fun a hf => ?_
 replace hf : Fr 22 [(0, eU ((mm : Nat) : Int)), (1, .val (.func (.func 57) #[] #[])), (2, eS av 1 c)] a := hf
 have hM : MemOk [] w := MemOk.nil w
 have hk0 : Keep Nn w w := Keep.refl _ _
 refine wp_seq_k (fun K1 hK1 => ?_)
 refine wp_region_lit ?_
 refine q0 hf hM [0, 1, 2] [{}, {}] (nw := []) An ?_
 clear hf; intro a hf
 refine wpList_nil ?_
 refine hK1 _ _ ?_
 refine wp_seq_k (fun K2 hK2 => ?_)
 refine wp_region_lit ?_
 refine q0 hf hM [0, 1] [{}] (nw := [(11, eS av 1 c)]) An ?_
 clear hf; intro a hf
 refine sxcall hf rfl rfl rfl rfl (g := 22) (vs := [.slice av 1 c]) (ob := []) (by as_aux_lemma => kernel_rfl) An enters22 (of1_no E av k c w hn0 (hav.keepNn hk0) (hG.keep hk0 (fun _ h => h))) ?_
 clear hf; rintro _ w1 a ⟨rfl, hk⟩ hf
 have hM := hM.keepNn hk
 have hk0 := hk0.trans hk.nn
 clear hk
 refine q0 hf hM [0, 1] [{}, {}, {}, {}, {}] (nw := [(9, .val (.iface 115 (.pointer (some (E 4))))), (8, eU 0)]) An ?_
 clear hf; intro a hf
 refine wpList_nil ?_
 refine hK2 _ _ ?_
 refine wp_seq_k (fun K3 hK3 => ?_)
 refine wp_seq_k (fun K4 hK4 => ?_)
 refine wp_region_lit ?_
 refine q0 hf hM [9, 8, 0, 1] [{}, {}] (nw := [(16, eB true)]) An ?_
 clear hf; intro a hf
 refine wpList_nil ?_
 refine hK4 _ _ ?_
 refine sxcond hf (b := true) (by kernel_rfl) (fun _ => ?_) (fun h => by cases h)
 refine wp_seq_k (fun K5 hK5 => ?_)
 refine wp_region_lit ?_
 refine q0 hf hM [] [{}, {}, {}] (nw := [(7, .val (.iface 115 (.pointer (some (E 4))))), (6, eU 0)]) An ?_
 clear hf; intro a hf
 refine wpList_nil ?_
 refine hK5 _ _ ?_
 refine wp_ret ?_
 refine qr (fn := Tryd.f56) hf hM [] (l := [uV 0, .iface 115 (.pointer (some (E 4)))]) (ob := []) An ?_
 show (.tuple #[uV 0, .iface 115 (.pointer (some (E 4)))] : Value) = .tuple #[uV 0, .iface 115 (.pointer (some (E 4)))] ∧ Keep Nn w w1
 exact ⟨rfl, hk0⟩

set_option maxRecDepth 10000 in
set_option maxHeartbeats 1600000 in
theorem mwith_no (E : Nat → Addr) (mm : Nat) (av : Option Addr) (k : Int) (c : Nat) (w : World) (hn0 : (decide (0 ≤ k ∧ k ≤ 9)) = false) (hmm : mm < 2 ^ 64) (hav : Arr w 1 av 1 c (flat fI ([k] : List Int))) (hG : Errs [0, 1, 2, 3, 4, 5, 6, 7, 8, 9] w 115 E) :
    Calls Tryd.prog 49 #[uV ((mm : Nat) : Int), .slice av 1 c] w (Ret fun v w' => v = .tuple #[uV 0, .iface 115 (.pointer (some (E 4)))] ∧ Keep Nn w w') := by
 refine sxenter (n := 11) (args := [uV ((mm : Nat) : Int), .slice av 1 c]) Tryd.func49 rfl rfl rfl fun a hf => ?_
 replace hf : Fr 11 [(0, eU ((mm : Nat) : Int)), (1, eS av 1 c)] a := hf
 have hM : MemOk [] w := MemOk.nil w
 have hk0 : Keep Nn w w := Keep.refl _ _
 refine wp_seq_k (fun K1 hK1 => ?_)
 refine wp_region_lit ?_
 refine q0 hf hM [0, 1] [{}, {}] (nw := []) An ?_
 clear hf; intro a hf
 refine wpList_nil ?_
 refine hK1 _ _ ?_
 refine wp_seq_k (fun K2 hK2 => ?_)
 refine wp_region_lit ?_
 refine q0 hf hM [] [{}, {}] (nw := [(7, eS av 1 c), (6, eU ((mm : Nat) : Int))]) An ?_
 clear hf; intro a hf
 refine sxcall hf rfl rfl rfl rfl (g := 56) (vs := [uV ((mm : Nat) : Int), .func (.func 57) #[] #[], .slice av 1 c]) (ob := []) (by as_aux_lemma => kernel_rfl) An enters56 (mwith_ch_no E mm av k c w hn0 (by first | assumption | exact bitN_lt' (by assumption) | omega) (hav.keepNn hk0) (hG.keep hk0 (fun _ h => h))) ?_
 clear hf; rintro _ w1 a ⟨rfl, hk⟩ hf
 have hM := hM.keepNn hk
 have hk0 := hk0.trans hk.nn
 clear hk
 refine q0 hf hM [] [{}, {}, {}, {}] (nw := [(5, .val (.iface 115 (.pointer (some (E 4))))), (4, eU 0)]) An ?_
 clear hf; intro a hf
 refine wpList_nil ?_
 refine hK2 _ _ ?_
 refine wp_ret ?_
 refine qr (fn := Tryd.f49) hf hM [] (l := [uV 0, .iface 115 (.pointer (some (E 4)))]) (ob := []) An ?_
 show (.tuple #[uV 0, .iface 115 (.pointer (some (E 4)))] : Value) = .tuple #[uV 0, .iface 115 (.pointer (some (E 4)))] ∧ Keep Nn w w1
 exact ⟨rfl, hk0⟩

set_option maxRecDepth 10000 in
set_option maxHeartbeats 1600000 in
theorem smask (E : Nat → Addr) (av : Option Addr) (l : List V3) (c : Nat) (w : World) (hav : Arr w 3 av l.length c (flat fV l)) (hbav : l.length ≤ 1000000) (hkd : ∀ v ∈ l, 0 ≤ v.k ∧ v.k ≤ 9) (hG : Errs [0, 1, 2, 3, 4, 5, 6, 7, 8, 9] w 115 E) :
    Calls Tryd.prog 29 #[.slice av l.length c] w (Ret fun v w' => v = uV (((maskN l) : Nat) : Int) ∧ Keep Nn w w') := by
 refine sxenter (n := 27) (args := [.slice av l.length c]) Tryd.func29 rfl rfl rfl fun a hf => ?_
 replace hf : Fr 27 [(0, eS av l.length c)] a := hf
 have hM : MemOk [] w := MemOk.nil w
 have hk0 : Keep Nn w w := Keep.refl _ _
 refine wp_seq_k (fun K1 hK1 => ?_)
 refine wp_region_lit ?_
 refine q0 hf hM [0] [{}] (nw := []) An ?_
 clear hf; intro a hf
 refine wpList_nil ?_
 refine hK1 _ _ ?_
 refine wp_seq_k (fun K2 hK2 => ?_)
 refine wp_region_lit ?_
 refine q0 hf hM [0] [{}] (nw := [(3, eU 0)]) An ?_
 clear hf; intro a hf
 refine wpList_nil ?_
 refine hK2 _ _ ?_
 refine wp_seq_k (fun K3 hK3 => ?_)
 refine wp_seq_k (fun K4 hK4 => ?_)
 refine wp_region_lit ?_
 refine q0 hf hM [3] [{}, {}, {}] (nw := [(10, eI 0), (9, eI (l.length : Int)), (8, eS av l.length c)]) An ?_
 clear hf; intro a hf
 refine wpList_nil ?_
 refine hK4 _ _ ?_
 refine wp_block ?_
 have hf := (hf.prune [3, 8, 9, 10]).to (env' := [(3, eU 0), (8, eS av l.length c), (9, eI (l.length : Int)), (10, eI 0)]) (by kernel_rfl)
 refine sxloop (fun zm a w1 => ∃ (i : Int), zm = ((l.length : Int) - i).toNat ∧ Fr 27 [(3, eU (((maskN (l.take i.toNat)) : Nat) : Int)), (8, eS av l.length c), (9, eI (l.length : Int)), (10, eI i)] a ∧ MemOk [] w1 ∧ Keep Nn w w1 ∧ (0 ≤ i ∧ i ≤ (l.length : Int))) _ ⟨0, rfl, hf.conv (Ac (congrArg (Value.int .u64) (by simp [maskN])) (Ac rfl (Ac rfl (Ao rfl)))), hM, hk0, (by omega)⟩ ?_
 clear hf hM hk0
 rintro _ a w1 ⟨i, rfl, hf, hM, hk0, hi⟩ L1 hL1
 have hml := maskN_lt64 (kinds_take hkd i.toNat)
 refine wp_seq_k (fun K5 hK5 => ?_)
 refine wp_region_lit ?_
 refine q0 hf hM [3, 8, 9, 10] [{}] (nw := [(11, eB (decide ((i : Int) < (l.length : Int))))]) An ?_
 clear hf; intro a hf
 refine wpList_nil ?_
 refine hK5 _ _ ?_
 refine wp_seq_k (fun K6 hK6 => ?_)
 refine qc hf (b := (decide ((i : Int) < (l.length : Int)))) (fun hc1r => ?_) (fun hc1r => ?_)
 · have hc1 := (nT hc1r)
   have hka := kinds_at hkd (i := i) ⟨by omega, by omega⟩
   have hkl : decide (0 ≤ (l.getD i.toNat ⟨0, 0, 0⟩).k ∧ (l.getD i.toNat ⟨0, 0, 0⟩).k ≤ 9) = true := decide_eq_true hka
   refine wp_skip ?_
   refine hK6 _ _ ?_
   refine wp_seq_k (fun K7 hK7 => ?_)
   refine wp_block ?_
   refine wp_seq_k (fun K8 hK8 => ?_)
   refine wp_region_lit ?_
   refine q1 hf hM [3, 8, 9, 10] [{ sp := true }, { os := [.ex (iV (l.getD i.toNat ⟨0, 0, 0⟩).k), .ex (iV (l.getD i.toNat ⟨0, 0, 0⟩).a), .ex (iV (l.getD i.toNat ⟨0, 0, 0⟩).b)] }, { os := [.nw] }, { os := [.st 0 0, .st 0 1, .st 0 2] }] (nw := fun B5 => [(5, eP B5 0)]) (M' := fun B5 => [⟨B5, 59, [iV (l.getD i.toNat ⟨0, 0, 0⟩).k, iV (l.getD i.toNat ⟨0, 0, 0⟩).a, iV (l.getD i.toNat ⟨0, 0, 0⟩).b]⟩]) (ob := fun B5 => [(0 : Int) ≤ i ∧ i < (l.length : Int), (av : Option Addr).isSome = true, w1.cell? (((sa av : Addr).add (i.toNat * 3)).add 0) = some (iV (l.getD i.toNat ⟨0, 0, 0⟩).k), w1.cell? (((sa av : Addr).add (i.toNat * 3)).add 1) = some (iV (l.getD i.toNat ⟨0, 0, 0⟩).a), w1.cell? (((sa av : Addr).add (i.toNat * 3)).add 2) = some (iV (l.getD i.toNat ⟨0, 0, 0⟩).b), Ad B5 0, Ad B5 1, Ad B5 2]) (fun B5 => (Ac (by first | omega | (simp; done)) (Ac ((hav.keepNn hk0).some_ (by first | omega | (simp; done))) (Ac ((hav.keepNn hk0).get (fun _ => rfl) (by first | omega | (simp; done)) rfl) (Ac ((hav.keepNn hk0).get (fun _ => rfl) (by first | omega | (simp; done)) rfl) (Ac ((hav.keepNn hk0).get (fun _ => rfl) (by first | omega | (simp; done)) rfl) (Ac (ad _ _) (Ac (ad _ _) (Ao (ad _ _)))))))))) ?_
   clear hf hM; intro a w2 B5 hf hM hB hk
   have hbB5 : w.heap.size ≤ B5 := by have := hk0.size; omega
   have hk0 := hk0.then hk (by intro i _ h; cases h)
   clear hk hB
   refine wpList_nil ?_
   refine hK8 _ _ ?_
   refine wp_seq_k (fun K9 hK9 => ?_)
   refine wp_region_lit ?_
   refine q0 hf hM [3, 8, 9, 10] [{}, {}, { os := [.ld 0 0] }] (nw := [(17, eI (l.getD i.toNat ⟨0, 0, 0⟩).k), (15, eU (((maskN (l.take i.toNat)) : Nat) : Int))]) (ob := [Ad B5 0]) (Ao (ad _ _)) ?_
   clear hf; intro a hf
   refine sxbslice hf hM (t := 22) (e := 3) (len := 1) (cs := [iV (l.getD i.toNat ⟨0, 0, 0⟩).k]) (ob := []) rfl rfl rfl rfl (by as_aux_lemma => kernel_rfl) An (by as_aux_lemma => kernel_rfl) ?_
   clear hf hM; intro a w3 B7 hf hM hB hk
   replace hM : MemOk [⟨B5, 59, [iV (l.getD i.toNat ⟨0, 0, 0⟩).k, iV (l.getD i.toNat ⟨0, 0, 0⟩).a, iV (l.getD i.toNat ⟨0, 0, 0⟩).b]⟩, ⟨B7, 3, [iV (l.getD i.toNat ⟨0, 0, 0⟩).k]⟩] w3 := hM
   have hbB7 : w.heap.size ≤ B7 := by have := hk0.size; omega
   have hk0 := hk0.trans hk.nn
   clear hk hB
   refine sxcall hf rfl rfl rfl rfl (g := 49) (vs := [uV (((maskN (l.take i.toNat)) : Nat) : Int), .slice (some ⟨B7, 0, none⟩) 1 1]) (ob := []) (by as_aux_lemma => kernel_rfl) An enters49 (mwith_ok E (maskN (l.take i.toNat)) (some ⟨B7, 0, none⟩) (l.getD i.toNat ⟨0, 0, 0⟩).k 1 w3 hkl (by first | assumption | exact bitN_lt' (by assumption) | omega) (Arr.of_memT (sz := 1) (f := fI) (L := ([(l.getD i.toNat ⟨0, 0, 0⟩).k] : List Int)) (l := ([(l.getD i.toNat ⟨0, 0, 0⟩).k] : List Int)) hM (List.Mem.tail _ (List.Mem.head _)) (fun _ => rfl) rfl rfl) (hG.keep hk0 (fun _ h => h))) ?_
   clear hf; rintro _ w4 a ⟨rfl, hk⟩ hf
   have hM := hM.keepNn hk
   have hk0 := hk0.trans hk.nn
   clear hk
   refine q0 hf hM [3, 8, 9, 10] [{}, {}, {}, {}, {}] (nw := [(7, .val (.nilIface)), (6, eU ((((maskN (l.take i.toNat)) ||| bitN (l.getD i.toNat ⟨0, 0, 0⟩).k) : Nat) : Int))]) An ?_
   clear hf; intro a hf
   refine wpList_nil ?_
   refine hK9 _ _ ?_
   refine wp_seq_k (fun K10 hK10 => ?_)
   refine wp_region_lit ?_
   refine q0 hf hM [6, 3, 8, 9, 10] [{}, {}] (nw := [(23, eB true)]) An ?_
   clear hf; intro a hf
   refine wpList_nil ?_
   refine hK10 _ _ ?_
   refine sxcond hf (b := true) (by kernel_rfl) (fun _ => ?_) (fun h => by cases h)
   refine wp_region_lit ?_
   refine q0 hf hM [8, 9, 10] [{}, {}] (nw := [(3, eU ((((maskN (l.take i.toNat)) ||| bitN (l.getD i.toNat ⟨0, 0, 0⟩).k) : Nat) : Int))]) An ?_
   clear hf; intro a hf
   refine wpList_nil ?_
   refine hK7 _ _ ?_
   refine wp_region_lit ?_
   refine q0 hf hM [3, 8, 9] [{ hint := some (iV (i + 1)) }, {}] (nw := [(10, eI (i + 1))]) (ob := [(iV (IntKind.i64.wrap (i + 1)) : Value) = (iV (i + 1) : Value)]) (Ao (wr (by omega))) ?_
   clear hf; intro a hf
   refine wpList_nil ?_
   have hf := (hf.prune [3, 8, 9, 10]).to (env' := [(3, eU ((((maskN (l.take i.toNat)) ||| bitN (l.getD i.toNat ⟨0, 0, 0⟩).k) : Nat) : Int)), (8, eS av l.length c), (9, eI (l.length : Int)), (10, eI (i + 1))]) (by kernel_rfl)
   replace hM : MemOk [] w4 := hM.sub (.cons _ (.cons _ .slnil))
   refine hL1 _ _ _ (by omega) ⟨i + 1, rfl, hf.conv (Ac (by rw [maskN_next ⟨by omega, by omega⟩]; rfl) (Ac rfl (Ac rfl (Ao rfl)))), hM, hk0, (by omega)⟩
 · have hc1 := (nU hc1r)
   refine wp_exit ?_
   refine hK3 _ _ ?_
   refine wp_seq_k (fun K11 hK11 => ?_)
   refine wp_region_lit ?_
   refine q0 hf hM [] [{}, {}] (nw := [(2, eU (((maskN (l.take i.toNat)) : Nat) : Int))]) An ?_
   clear hf; intro a hf
   refine wpList_nil ?_
   refine hK11 _ _ ?_
   refine wp_ret ?_
   refine qr (fn := Tryd.f29) hf hM [] (l := [uV (((maskN (l.take i.toNat)) : Nat) : Int)]) (ob := []) An ?_
   show (uV (((maskN (l.take i.toNat)) : Nat) : Int) : Value) = uV (((maskN l) : Nat) : Int) ∧ Keep Nn w w1
   refine ⟨?_, hk0⟩
   rw [List.take_of_length_le (by omega)]

set_option maxRecDepth 10000 in
set_option maxHeartbeats 1600000 in
theorem rmask (av : Option Addr) (l : List V3) (c : Nat) (w : World) (hav : Arr w 3 av l.length c (flat fV l)) (hbav : l.length ≤ 1000000) (hkd : ∀ v ∈ l, 0 ≤ v.k ∧ v.k ≤ 9) :
    Calls Tryd.prog 32 #[.slice av l.length c] w (Ret fun v w' => v = uV (((maskN l) : Nat) : Int) ∧ Keep Nn w w') := by
 refine sxenter (n := 19) (args := [.slice av l.length c]) Tryd.func32 rfl rfl rfl fun a hf => ?_
 replace hf : Fr 19 [(0, eS av l.length c)] a := hf
 have hM : MemOk [] w := MemOk.nil w
 have hk0 : Keep Nn w w := Keep.refl _ _
 refine wp_seq_k (fun K1 hK1 => ?_)
 refine wp_region_lit ?_
 refine q0 hf hM [0] [{}] (nw := []) An ?_
 clear hf; intro a hf
 refine wpList_nil ?_
 refine hK1 _ _ ?_
 refine wp_seq_k (fun K2 hK2 => ?_)
 refine wp_region_lit ?_
 refine q0 hf hM [0] [{}] (nw := [(3, eU 0)]) An ?_
 clear hf; intro a hf
 refine wpList_nil ?_
 refine hK2 _ _ ?_
 refine wp_seq_k (fun K3 hK3 => ?_)
 refine wp_seq_k (fun K4 hK4 => ?_)
 refine wp_region_lit ?_
 refine q0 hf hM [3] [{}, {}, {}] (nw := [(8, eI 0), (7, eI (l.length : Int)), (6, eS av l.length c)]) An ?_
 clear hf; intro a hf
 refine wpList_nil ?_
 refine hK4 _ _ ?_
 refine wp_block ?_
 have hf := (hf.prune [3, 6, 7, 8]).to (env' := [(3, eU 0), (6, eS av l.length c), (7, eI (l.length : Int)), (8, eI 0)]) (by kernel_rfl)
 refine sxloop (fun zm a w1 => ∃ (i : Int), zm = ((l.length : Int) - i).toNat ∧ Fr 19 [(3, eU (((maskN (l.take i.toNat)) : Nat) : Int)), (6, eS av l.length c), (7, eI (l.length : Int)), (8, eI i)] a ∧ MemOk [] w1 ∧ Keep Nn w w1 ∧ (0 ≤ i ∧ i ≤ (l.length : Int))) _ ⟨0, rfl, hf.conv (Ac (congrArg (Value.int .u64) (by simp [maskN])) (Ac rfl (Ac rfl (Ao rfl)))), hM, hk0, (by omega)⟩ ?_
 clear hf hM hk0
 rintro _ a w1 ⟨i, rfl, hf, hM, hk0, hi⟩ L1 hL1
 have hml := maskN_lt64 (kinds_take hkd i.toNat)
 refine wp_seq_k (fun K5 hK5 => ?_)
 refine wp_region_lit ?_
 refine q0 hf hM [3, 6, 7, 8] [{}] (nw := [(9, eB (decide ((i : Int) < (l.length : Int))))]) An ?_
 clear hf; intro a hf
 refine wpList_nil ?_
 refine hK5 _ _ ?_
 refine wp_seq_k (fun K6 hK6 => ?_)
 refine qc hf (b := (decide ((i : Int) < (l.length : Int)))) (fun hc1r => ?_) (fun hc1r => ?_)
 · have hc1 := (nT hc1r)
   refine wp_skip ?_
   refine hK6 _ _ ?_
   refine wp_seq_k (fun K7 hK7 => ?_)
   refine wp_block ?_
   refine wp_seq_k (fun K8 hK8 => ?_)
   refine wp_region_lit ?_
   refine q1 hf hM [3, 6, 7, 8] [{ sp := true }, { os := [.ex (iV (l.getD i.toNat ⟨0, 0, 0⟩).k), .ex (iV (l.getD i.toNat ⟨0, 0, 0⟩).a), .ex (iV (l.getD i.toNat ⟨0, 0, 0⟩).b)] }, { os := [.nw] }, { os := [.st 0 0, .st 0 1, .st 0 2] }] (nw := fun B5 => [(5, eP B5 0)]) (M' := fun B5 => [⟨B5, 59, [iV (l.getD i.toNat ⟨0, 0, 0⟩).k, iV (l.getD i.toNat ⟨0, 0, 0⟩).a, iV (l.getD i.toNat ⟨0, 0, 0⟩).b]⟩]) (ob := fun B5 => [(0 : Int) ≤ i ∧ i < (l.length : Int), (av : Option Addr).isSome = true, w1.cell? (((sa av : Addr).add (i.toNat * 3)).add 0) = some (iV (l.getD i.toNat ⟨0, 0, 0⟩).k), w1.cell? (((sa av : Addr).add (i.toNat * 3)).add 1) = some (iV (l.getD i.toNat ⟨0, 0, 0⟩).a), w1.cell? (((sa av : Addr).add (i.toNat * 3)).add 2) = some (iV (l.getD i.toNat ⟨0, 0, 0⟩).b), Ad B5 0, Ad B5 1, Ad B5 2]) (fun B5 => (Ac (by first | omega | (simp; done)) (Ac ((hav.keepNn hk0).some_ (by first | omega | (simp; done))) (Ac ((hav.keepNn hk0).get (fun _ => rfl) (by first | omega | (simp; done)) rfl) (Ac ((hav.keepNn hk0).get (fun _ => rfl) (by first | omega | (simp; done)) rfl) (Ac ((hav.keepNn hk0).get (fun _ => rfl) (by first | omega | (simp; done)) rfl) (Ac (ad _ _) (Ac (ad _ _) (Ao (ad _ _)))))))))) ?_
   clear hf hM; intro a w2 B5 hf hM hB hk
   have hbB5 : w.heap.size ≤ B5 := by have := hk0.size; omega
   have hk0 := hk0.then hk (by intro i _ h; cases h)
   clear hk hB
   refine wpList_nil ?_
   refine hK8 _ _ ?_
   refine wp_region_lit ?_
   refine q0 hf hM [6, 7, 8] [{}, {}, { os := [.ld 0 0] }, { sp := true, hint := some (uV (((bitN (l.getD i.toNat ⟨0, 0, 0⟩).k) : Nat) : Int)) }, { hint := some (uV (((maskN (l.take i.toNat) ||| bitN (l.getD i.toNat ⟨0, 0, 0⟩).k) : Nat) : Int)) }, {}] (nw := [(3, eU (((maskN (l.take i.toNat) ||| bitN (l.getD i.toNat ⟨0, 0, 0⟩).k) : Nat) : Int))]) (ob := [Ad B5 0, 0 ≤ ((l.getD i.toNat ⟨0, 0, 0⟩).k : Int), (uV (IntKind.u64.wrap (1 * 2 ^ (min ((l.getD i.toNat ⟨0, 0, 0⟩).k : Int).toNat IntKind.u64.bits))) : Value) = (uV (((bitN (l.getD i.toNat ⟨0, 0, 0⟩).k) : Nat) : Int) : Value), (uV (IntKind.u64.wrap ((BitVec.ofInt IntKind.u64.bits (((maskN (l.take i.toNat)) : Nat) : Int) ||| (BitVec.ofInt IntKind.u64.bits (((bitN (l.getD i.toNat ⟨0, 0, 0⟩).k) : Nat) : Int)) : BitVec IntKind.u64.bits).toNat : Int)) : Value) = (uV (((maskN (l.take i.toNat) ||| bitN (l.getD i.toNat ⟨0, 0, 0⟩).k) : Nat) : Int) : Value)]) (Ac (ad _ _) (Ac ((kinds_at hkd ⟨by omega, by omega⟩).1) (Ac (shl_bit (kinds_at hkd ⟨by omega, by omega⟩)) (Ao (or_u64 hml (bitN_lt' (kinds_at hkd ⟨by omega, by omega⟩))))))) ?_
   clear hf; intro a hf
   refine wpList_nil ?_
   refine hK7 _ _ ?_
   refine wp_region_lit ?_
   refine q0 hf hM [3, 6, 7] [{ hint := some (iV (i + 1)) }, {}] (nw := [(8, eI (i + 1))]) (ob := [(iV (IntKind.i64.wrap (i + 1)) : Value) = (iV (i + 1) : Value)]) (Ao (wr (by omega))) ?_
   clear hf; intro a hf
   refine wpList_nil ?_
   have hf := (hf.prune [3, 6, 7, 8]).to (env' := [(3, eU (((maskN (l.take i.toNat) ||| bitN (l.getD i.toNat ⟨0, 0, 0⟩).k) : Nat) : Int)), (6, eS av l.length c), (7, eI (l.length : Int)), (8, eI (i + 1))]) (by kernel_rfl)
   replace hM : MemOk [] w2 := hM.sub (.cons _ .slnil)
   refine hL1 _ _ _ (by omega) ⟨i + 1, rfl, hf.conv (Ac (by rw [maskN_next ⟨by omega, by omega⟩]; rfl) (Ac rfl (Ac rfl (Ao rfl)))), hM, hk0, (by omega)⟩
 · have hc1 := (nU hc1r)
   refine wp_exit ?_
   refine hK3 _ _ ?_
   refine wp_seq_k (fun K9 hK9 => ?_)
   refine wp_region_lit ?_
   refine q0 hf hM [] [{}, {}] (nw := [(2, eU (((maskN (l.take i.toNat)) : Nat) : Int))]) An ?_
   clear hf; intro a hf
   refine wpList_nil ?_
   refine hK9 _ _ ?_
   refine wp_ret ?_
   refine qr (fn := Tryd.f32) hf hM [] (l := [uV (((maskN (l.take i.toNat)) : Nat) : Int)]) (ob := []) An ?_
   show (uV (((maskN (l.take i.toNat)) : Nat) : Int) : Value) = uV (((maskN l) : Nat) : Int) ∧ Keep Nn w w1
   refine ⟨?_, hk0⟩
   rw [List.take_of_length_le (by omega)]
end Go.Proofs.YtkcpadkllhgmdaaDoor
