/- layer 6 -/
import Derived.Test.YtifcgjnknikjkaaDoorBA1
namespace Go.Proofs.YtifcgjnknikjkaaDoor
open Go.Px
set_option linter.unusedVariables false
set_option linter.unusedSimpArgs false

set_option maxRecDepth 10000 in
set_option maxHeartbeats 1600000 in
theorem rin6 (n l m : Int) (w : World) :
    Calls Tryd.prog 72 #[iV n, iV l, iV m] w (Ret fun v w' => v = .bool (decide (l ≤ n) && decide (n ≤ m)) ∧ Keep Nn w w') := by
 refine sxenter (n := 15) (args := [iV n, iV l, iV m]) Tryd.func72 rfl rfl rfl fun a hf => ?_
 replace hf : Fr 15 [(0, eI n), (1, eI l), (2, eI m)] a := hf
 have hM : MemOk [] w := MemOk.nil w
 have hk0 : Keep Nn w w := Keep.refl _ _
 refine wp_seq_k (fun K1 hK1 => ?_)
 refine wp_region_lit ?_
 refine q0 hf hM [0, 1, 2] [{}] (env' := [(0, eI n), (1, eI l), (2, eI m)]) (ob := []) An ?_
 clear hf; intro a hf
 refine wpList_nil ?_
 refine hK1 _ _ ?_
 refine wp_seq_k (fun K2 hK2 => ?_)
 refine wp_region_lit ?_
 refine q0 hf hM [6] [{}, {}, {}, {}, { g := .sym }, { g := .sym }, { g := .sym }, { hint := some (bV ((decide ((l : Int) ≤ n)) && (decide ((n : Int) ≤ m)))) }, {}] (env' := [(6, eB ((decide ((l : Int) ≤ n)) && (decide ((n : Int) ≤ m))))]) (ob := [((decide ((l : Int) ≤ n)) = true → (decide ((l : Int) ≤ n)) = (decide ((l : Int) ≤ n))), ((decide ((l : Int) ≤ n)) = true → (decide ((l : Int) ≤ n)) = (decide ((l : Int) ≤ n))), ((decide ((l : Int) ≤ n)) = true → (decide ((l : Int) ≤ n)) = (decide ((l : Int) ≤ n))), (bif (decide ((l : Int) ≤ n)) then (bV (decide ((n : Int) ≤ m)) : Value) else bV false) = .bool ((decide ((l : Int) ≤ n)) && (decide ((n : Int) ≤ m)))]) (Ac (fun hgd => rfl) (Ac (fun hgd => rfl) (Ac (fun _ => rfl) (Ao (pick_and _ _))))) ?_
 clear hf; intro a hf
 refine wpList_nil ?_
 refine hK2 _ _ ?_
 refine wp_ret ?_
 refine qr (fn := Tryd.f72) hf hM [] (l := [bV ((decide ((l : Int) ≤ n)) && (decide ((n : Int) ≤ m)))]) (ob := []) An ?_
 show (bV ((decide ((l : Int) ≤ n)) && (decide ((n : Int) ≤ m))) : Value) = .bool (decide (l ≤ n) && decide (n ≤ m)) ∧ Keep Nn w w
 exact ⟨rfl, hk0⟩

set_option maxRecDepth 10000 in
set_option maxHeartbeats 1600000 in
theorem span_has (l m n : Int) (w : World) :
    Calls Tryd.prog 70 #[.agg #[iV l, iV m], iV n] w (Ret fun v w' => v = .bool (decide (n ≥ l) && decide (n ≤ m)) ∧ Keep Nn w w') := by
 refine sxenter (n := 15) (args := [.agg #[iV l, iV m], iV n]) Tryd.func70 rfl rfl rfl fun a hf => ?_
 replace hf : Fr 15 [(0, .val (.agg #[iV l, iV m])), (1, eI n)] a := hf
 have hM : MemOk [] w := MemOk.nil w
 have hk0 : Keep Nn w w := Keep.refl _ _
 refine wp_seq_k (fun K1 hK1 => ?_)
 refine wp_region_lit ?_
 refine q1 hf hM [2, 1] [{ os := [.nw] }, {}] (env' := fun B1 => [(2, eP B1 0), (1, eI n)]) (M' := fun B1 => [⟨B1, 127, [iV l, iV m]⟩]) (ob := fun B1 => []) (fun B1 => An) ?_
 clear hf hM; intro a w1 B1 hf hM hB hk
 have hbB1 : w.heap.size ≤ B1 := by have := hk0.size; omega
 have hk0 := hk0.then hk (by intro i _ h; cases h)
 clear hk hB
 refine wpList_nil ?_
 refine hK1 _ _ ?_
 refine wp_seq_k (fun K2 hK2 => ?_)
 refine wp_region_lit ?_
 refine q0 hf hM [4] [{}, {}, { os := [.ld 0 0] }, {}, {}, { g := .sym }, { g := .sym }, { g := .sym, os := [.ld 0 1] }, { g := .sym }, { hint := some (bV ((decide ((n : Int) ≥ l)) && (decide ((n : Int) ≤ m)))) }, {}] (env' := [(4, eB ((decide ((n : Int) ≥ l)) && (decide ((n : Int) ≤ m))))]) (ob := [Ad B1 0, ((decide ((n : Int) ≥ l)) = true → (decide ((n : Int) ≥ l)) = (decide ((n : Int) ≥ l))), ((decide ((n : Int) ≥ l)) = true → Ad B1 1), ((decide ((n : Int) ≥ l)) = true → (decide ((n : Int) ≥ l)) = (decide ((n : Int) ≥ l))), ((decide ((n : Int) ≥ l)) = true → (decide ((n : Int) ≥ l)) = (decide ((n : Int) ≥ l))), ((decide ((n : Int) ≥ l)) = true → (decide ((n : Int) ≥ l)) = (decide ((n : Int) ≥ l))), (bif (decide ((n : Int) ≥ l)) then (bV (decide ((n : Int) ≤ m)) : Value) else bV false) = .bool ((decide ((n : Int) ≥ l)) && (decide ((n : Int) ≤ m)))]) (Ac (ad _ _) (Ac (fun hgd => rfl) (Ac (fun hgd => ad _ _) (Ac (fun hgd => rfl) (Ac (fun hgd => rfl) (Ac (fun _ => rfl) (Ao (pick_and _ _)))))))) ?_
 clear hf; intro a hf
 refine wpList_nil ?_
 refine hK2 _ _ ?_
 refine wp_ret ?_
 refine qr (fn := Tryd.f70) hf hM [] (l := [bV ((decide ((n : Int) ≥ l)) && (decide ((n : Int) ≤ m)))]) (ob := []) An ?_
 show (bV ((decide ((n : Int) ≥ l)) && (decide ((n : Int) ≤ m))) : Value) = .bool (decide (n ≥ l) && decide (n ≤ m)) ∧ Keep Nn w w1
 exact ⟨rfl, hk0⟩

/-- The ranges of a kind's numbers. -/
def spanOf (k : Int) : (Int × Int) × (Int × Int) :=
  if k = 0 ∨ k = 2 then ((-1048576, 1048576), (-1048576, 1048576)) else if k = 1 then ((0, 1048576), (0, 1048576)) else if k = 3 then ((0, 0), (0, 0))
  else if k = 4 then ((0, 255), (0, 0)) else if k = 5 then ((0, 1048576), (0, 0)) else ((-4194304, 4194304), (-4194304, 4194304))
theorem vrange_span (k a b : Int) : vrange ⟨k, a, b⟩ = decide ((spanOf k).1.1 ≤ a ∧ a ≤ (spanOf k).1.2 ∧ (spanOf k).2.1 ≤ b ∧ b ≤ (spanOf k).2.2) := by
  unfold vrange spanOf
  repeat' split
  all_goals first | rfl | (rw [Bool.eq_iff_iff]; simp only [decide_eq_true_eq]; omega)

set_option maxRecDepth 10000 in
set_option maxHeartbeats 1600000 in
theorem ranges_ok (k : Int) (w : World) (hn0 : (decide (0 ≤ k ∧ k ≤ 9)) = true) :
    Calls Tryd.prog 69 #[iV k] w (Ret fun v w' => v = .tuple #[.agg #[iV (spanOf k).1.1, iV (spanOf k).1.2], .agg #[iV (spanOf k).2.1, iV (spanOf k).2.2], bV true] ∧ Keep Nn w w') := by
 refine sxenter (n := 50) (args := [iV k]) Tryd.func69 rfl rfl rfl fun a hf => ?_
 replace hf : Fr 50 [(0, eI k)] a := hf
 have hM : MemOk [] w := MemOk.nil w
 have hk0 : Keep Nn w w := Keep.refl _ _
 have hkk : 0 ≤ k ∧ k ≤ 9 := by simpa using hn0
 refine wp_seq_k (fun K1 hK1 => ?_)
 refine wp_region_lit ?_
 refine q1 hf hM [4, 3, 2, 0] [{ os := [.nw] }, { os := [.nw] }, {}] (env' := fun B1 => [(4, eB false), (3, eP (B1 + 1) 0), (2, eP B1 0), (0, eI k)]) (M' := fun B1 => [⟨B1, 127, [iV 0, iV 0]⟩, ⟨B1 + 1, 127, [iV 0, iV 0]⟩]) (ob := fun B1 => []) (fun B1 => An) ?_
 clear hf hM; intro a w1 B1 hf hM hB hk
 have hbB1 : w.heap.size ≤ B1 := by have := hk0.size; omega
 have hk0 := hk0.then hk (by intro i _ h; cases h)
 clear hk hB
 refine wpList_nil ?_
 refine hK1 _ _ ?_
 refine wp_seq_k (fun K2 hK2 => ?_)
 refine wp_region_lit ?_
 refine q1 hf hM [5, 4, 3, 2, 0] [{ sp := true }, { os := [.nw] }, { os := [.st 2 0, .st 2 1] }] (env' := fun B2 => [(5, eP B2 0), (4, eB false), (3, eP (B1 + 1) 0), (2, eP B1 0), (0, eI k)]) (M' := fun B2 => [⟨B1, 127, [iV 0, iV 0]⟩, ⟨B1 + 1, 127, [iV 0, iV 0]⟩, ⟨B2, 127, [iV 0, iV 0]⟩]) (ob := fun B2 => [Ad B2 0, Ad B2 1]) (fun B2 => (Ac (ad _ _) (Ao (ad _ _)))) ?_
 clear hf hM; intro a w2 B2 hf hM hB hk
 have hbB2 : w.heap.size ≤ B2 := by have := hk0.size; omega
 have hk0 := hk0.then hk (by intro i hi h; simp only [Is, Mem.names, List.map_cons, List.map_nil, List.mem_cons, List.not_mem_nil, or_false] at h; omega)
 clear hk hB
 refine wpList_nil ?_
 refine hK2 _ _ ?_
 refine wp_seq_k (fun K3 hK3 => ?_)
 refine wp_block ?_
 refine wp_seq_k (fun K4 hK4 => ?_)
 refine wp_region_lit ?_
 refine q0 hf hM [7, 5, 4, 3, 2, 0] [{}, {}, {}, { g := .sym }, { g := .sym }, { hint := some (bV ((decide ((k : Int) < 0)) || (decide ((k : Int) ≥ 10)))) }, {}] (env' := [(7, eB ((decide ((k : Int) < 0)) || (decide ((k : Int) ≥ 10)))), (5, eP B2 0), (4, eB false), (3, eP (B1 + 1) 0), (2, eP B1 0), (0, eI k)]) (ob := [((decide ((k : Int) < 0)) = false → (decide ((k : Int) < 0)) = (decide ((k : Int) < 0))), ((decide ((k : Int) < 0)) = false → (decide ((k : Int) < 0)) = (decide ((k : Int) < 0))), (bif (decide ((k : Int) < 0)) then (bV true : Value) else bV (decide ((k : Int) ≥ 10))) = .bool ((decide ((k : Int) < 0)) || (decide ((k : Int) ≥ 10)))]) (Ac (fun hgd => rfl) (Ac (fun _ => rfl) (Ao (pick_or _ _)))) ?_
 clear hf; intro a hf
 refine wpList_nil ?_
 refine hK4 _ _ ?_
 refine qc hf (b := ((decide ((k : Int) < 0)) || (decide ((k : Int) ≥ 10)))) (fun hc1r => ?_) (fun hc1r => ?_)
 · have hc1 := hc1r
   try simp only [Bool.or_eq_true, Bool.and_eq_true, Bool.not_eq_true', Bool.not_eq_false', Bool.or_eq_false_iff, Bool.and_eq_false_iff, decide_eq_true_eq, decide_eq_false_iff_not, beq_iff_eq, bne_iff_ne, beq_eq_false_iff_ne, bne_eq_false_iff_eq, Bool.and_true, Bool.true_and, ne_eq] at hc1
   exfalso; omega
 · have hc1 := hc1r
   try simp only [Bool.or_eq_true, Bool.and_eq_true, Bool.not_eq_true', Bool.not_eq_false', Bool.or_eq_false_iff, Bool.and_eq_false_iff, decide_eq_true_eq, decide_eq_false_iff_not, beq_iff_eq, bne_iff_ne, beq_eq_false_iff_ne, bne_eq_false_iff_eq, Bool.and_true, Bool.true_and, ne_eq] at hc1
   refine wp_seq_k (fun K5 hK5 => ?_)
   refine wp_region_lit ?_
   refine q0 hf hM [16, 5, 4, 3, 2, 0] [{}, {}, {}, { g := .sym }, { g := .sym }, { hint := some (bV (((k : Int) == 0) || ((k : Int) == 2))) }, {}] (env' := [(16, eB (((k : Int) == 0) || ((k : Int) == 2))), (5, eP B2 0), (4, eB false), (3, eP (B1 + 1) 0), (2, eP B1 0), (0, eI k)]) (ob := [(((k : Int) == 0) = false → ((k : Int) == 0) = ((k : Int) == 0)), (((k : Int) == 0) = false → ((k : Int) == 0) = ((k : Int) == 0)), (bif ((k : Int) == 0) then (bV true : Value) else bV ((k : Int) == 2)) = .bool (((k : Int) == 0) || ((k : Int) == 2))]) (Ac (fun hgd => rfl) (Ac (fun _ => rfl) (Ao (pick_or _ _)))) ?_
   clear hf; intro a hf
   refine wpList_nil ?_
   refine hK5 _ _ ?_
   refine qc hf (b := (((k : Int) == 0) || ((k : Int) == 2))) (fun hc2r => ?_) (fun hc2r => ?_)
   · have hc2 := hc2r
     try simp only [Bool.or_eq_true, Bool.and_eq_true, Bool.not_eq_true', Bool.not_eq_false', Bool.or_eq_false_iff, Bool.and_eq_false_iff, decide_eq_true_eq, decide_eq_false_iff_not, beq_iff_eq, bne_iff_ne, beq_eq_false_iff_ne, bne_eq_false_iff_eq, Bool.and_true, Bool.true_and, ne_eq] at hc2
     refine wp_seq_k (fun K6 hK6 => ?_)
     refine wp_region_lit ?_
     refine q1 hf hM [3, 2] [{ sp := true }, { os := [.st 0 0, .st 0 1] }] (env' := fun B5 => [(3, eP (B1 + 1) 0), (2, eP B1 0)]) (M' := fun B5 => [⟨B1, 127, [iV (-1048576), iV 1048576]⟩, ⟨B1 + 1, 127, [iV 0, iV 0]⟩, ⟨B2, 127, [iV 0, iV 0]⟩]) (ob := fun B5 => [Ad B1 0, Ad B1 1]) (fun B5 => (Ac (ad _ _) (Ao (ad _ _)))) ?_
     clear hf hM; intro a w3 B5 hf hM hB hk
     have hbB5 : w.heap.size ≤ B5 := by have := hk0.size; omega
     have hk0 := hk0.then hk (by intro i hi h; simp only [Is, Mem.names, List.map_cons, List.map_nil, List.mem_cons, List.not_mem_nil, or_false] at h; omega)
     clear hk hB
     refine wpList_nil ?_
     refine hK6 _ _ ?_
     refine wp_seq_k (fun K7 hK7 => ?_)
     refine wp_region_lit ?_
     refine q1 hf hM [4, 3, 2] [{ os := [.ld 0 0, .ld 0 1] }, { os := [.ld 0 0, .ld 0 1] }, { os := [.st 0 0, .st 0 1] }, { os := [.st 1 0, .st 1 1] }, {}] (env' := fun B6 => [(4, eB true), (3, eP (B1 + 1) 0), (2, eP B1 0)]) (M' := fun B6 => [⟨B1, 127, [iV (-1048576), iV 1048576]⟩, ⟨B1 + 1, 127, [iV (-1048576), iV 1048576]⟩, ⟨B2, 127, [iV 0, iV 0]⟩]) (ob := fun B6 => [Ad B1 0, Ad B1 1, Ad B1 0, Ad B1 1, Ad B1 0, Ad B1 1, Ad (B1 + 1) 0, Ad (B1 + 1) 1]) (fun B6 => (Ac (ad _ _) (Ac (ad _ _) (Ac (ad _ _) (Ac (ad _ _) (Ac (ad _ _) (Ac (ad _ _) (Ac (ad _ _) (Ao (ad _ _)))))))))) ?_
     clear hf hM; intro a w4 B6 hf hM hB hk
     have hbB6 : w.heap.size ≤ B6 := by have := hk0.size; omega
     have hk0 := hk0.then hk (by intro i hi h; simp only [Is, Mem.names, List.map_cons, List.map_nil, List.mem_cons, List.not_mem_nil, or_false] at h; omega)
     clear hk hB
     refine wpList_nil ?_
     refine hK7 _ _ ?_
     refine wp_ret ?_
     refine qr (fn := Tryd.f69) hf hM [.ld 0 0, .ld 0 1, .ld 1 0, .ld 1 1] (l := [.agg #[iV (-1048576), iV 1048576], .agg #[iV (-1048576), iV 1048576], bV true]) (ob := [Ad B1 0, Ad B1 1, Ad (B1 + 1) 0, Ad (B1 + 1) 1]) (Ac (ad _ _) (Ac (ad _ _) (Ac (ad _ _) (Ao (ad _ _))))) ?_
     show (.tuple #[.agg #[iV (-1048576), iV 1048576], .agg #[iV (-1048576), iV 1048576], bV true] : Value) = .tuple #[.agg #[iV (spanOf k).1.1, iV (spanOf k).1.2], .agg #[iV (spanOf k).2.1, iV (spanOf k).2.2], bV true] ∧ Keep Nn w w4
     refine ⟨?_, hk0⟩
     unfold spanOf
     repeat' split
     all_goals first | rfl | (exfalso; simp at *; omega)
   · have hc2 := hc2r
     try simp only [Bool.or_eq_true, Bool.and_eq_true, Bool.not_eq_true', Bool.not_eq_false', Bool.or_eq_false_iff, Bool.and_eq_false_iff, decide_eq_true_eq, decide_eq_false_iff_not, beq_iff_eq, bne_iff_ne, beq_eq_false_iff_ne, bne_eq_false_iff_eq, Bool.and_true, Bool.true_and, ne_eq] at hc2
     refine wp_seq_k (fun K8 hK8 => ?_)
     refine wp_region_lit ?_
     refine q0 hf hM [26, 5, 4, 3, 2, 0] [{}, {}, {}] (env' := [(26, eB ((k : Int) == 1)), (5, eP B2 0), (4, eB false), (3, eP (B1 + 1) 0), (2, eP B1 0), (0, eI k)]) (ob := []) An ?_
     clear hf; intro a hf
     refine wpList_nil ?_
     refine hK8 _ _ ?_
     refine qc hf (b := ((k : Int) == 1)) (fun hc3r => ?_) (fun hc3r => ?_)
     · have hc3 := (nE hc3r)
       refine wp_seq_k (fun K9 hK9 => ?_)
       refine wp_region_lit ?_
       refine q1 hf hM [3, 2] [{ sp := true }, { os := [.st 0 0, .st 0 1] }] (env' := fun B8 => [(3, eP (B1 + 1) 0), (2, eP B1 0)]) (M' := fun B8 => [⟨B1, 127, [iV 0, iV 1048576]⟩, ⟨B1 + 1, 127, [iV 0, iV 0]⟩, ⟨B2, 127, [iV 0, iV 0]⟩]) (ob := fun B8 => [Ad B1 0, Ad B1 1]) (fun B8 => (Ac (ad _ _) (Ao (ad _ _)))) ?_
       clear hf hM; intro a w5 B8 hf hM hB hk
       have hbB8 : w.heap.size ≤ B8 := by have := hk0.size; omega
       have hk0 := hk0.then hk (by intro i hi h; simp only [Is, Mem.names, List.map_cons, List.map_nil, List.mem_cons, List.not_mem_nil, or_false] at h; omega)
       clear hk hB
       refine wpList_nil ?_
       refine hK9 _ _ ?_
       refine wp_seq_k (fun K10 hK10 => ?_)
       refine wp_region_lit ?_
       refine q1 hf hM [4, 3, 2] [{ os := [.ld 0 0, .ld 0 1] }, { os := [.ld 0 0, .ld 0 1] }, { os := [.st 0 0, .st 0 1] }, { os := [.st 1 0, .st 1 1] }, {}] (env' := fun B9 => [(4, eB true), (3, eP (B1 + 1) 0), (2, eP B1 0)]) (M' := fun B9 => [⟨B1, 127, [iV 0, iV 1048576]⟩, ⟨B1 + 1, 127, [iV 0, iV 1048576]⟩, ⟨B2, 127, [iV 0, iV 0]⟩]) (ob := fun B9 => [Ad B1 0, Ad B1 1, Ad B1 0, Ad B1 1, Ad B1 0, Ad B1 1, Ad (B1 + 1) 0, Ad (B1 + 1) 1]) (fun B9 => (Ac (ad _ _) (Ac (ad _ _) (Ac (ad _ _) (Ac (ad _ _) (Ac (ad _ _) (Ac (ad _ _) (Ac (ad _ _) (Ao (ad _ _)))))))))) ?_
       clear hf hM; intro a w6 B9 hf hM hB hk
       have hbB9 : w.heap.size ≤ B9 := by have := hk0.size; omega
       have hk0 := hk0.then hk (by intro i hi h; simp only [Is, Mem.names, List.map_cons, List.map_nil, List.mem_cons, List.not_mem_nil, or_false] at h; omega)
       clear hk hB
       refine wpList_nil ?_
       refine hK10 _ _ ?_
       refine wp_ret ?_
       refine qr (fn := Tryd.f69) hf hM [.ld 0 0, .ld 0 1, .ld 1 0, .ld 1 1] (l := [.agg #[iV 0, iV 1048576], .agg #[iV 0, iV 1048576], bV true]) (ob := [Ad B1 0, Ad B1 1, Ad (B1 + 1) 0, Ad (B1 + 1) 1]) (Ac (ad _ _) (Ac (ad _ _) (Ac (ad _ _) (Ao (ad _ _))))) ?_
       show (.tuple #[.agg #[iV 0, iV 1048576], .agg #[iV 0, iV 1048576], bV true] : Value) = .tuple #[.agg #[iV (spanOf k).1.1, iV (spanOf k).1.2], .agg #[iV (spanOf k).2.1, iV (spanOf k).2.2], bV true] ∧ Keep Nn w w6
       refine ⟨?_, hk0⟩
       unfold spanOf
       repeat' split
       all_goals first | rfl | (exfalso; simp at *; omega)
     · have hc3 := (nF hc3r)
       refine wp_seq_k (fun K11 hK11 => ?_)
       refine wp_region_lit ?_
       refine q0 hf hM [32, 5, 4, 3, 2, 0] [{}, {}, {}] (env' := [(32, eB ((k : Int) == 3)), (5, eP B2 0), (4, eB false), (3, eP (B1 + 1) 0), (2, eP B1 0), (0, eI k)]) (ob := []) An ?_
       clear hf; intro a hf
       refine wpList_nil ?_
       refine hK11 _ _ ?_
       refine qc hf (b := ((k : Int) == 3)) (fun hc4r => ?_) (fun hc4r => ?_)
       · have hc4 := (nE hc4r)
         refine wp_seq_k (fun K12 hK12 => ?_)
         replace hM := hM.drew; replace hk0 := hk0.drew
         obtain ⟨C1, hC1d⟩ : ∃ C : World → Prop, C = fun w' => MemOk [⟨B2, 127, [iV 0, iV 0]⟩] w' ∧ Keep Nn w w' ∧ True := ⟨_, rfl⟩
         have hC1i : ∀ w', (MemOk [⟨B2, 127, [iV 0, iV 0]⟩] w' ∧ Keep Nn w w' ∧ True) → C1 w' := fun w' h => by rw [hC1d]; exact h
         have hC1e : ∀ w', C1 w' → (MemOk [⟨B2, 127, [iV 0, iV 0]⟩] w' ∧ Keep Nn w w' ∧ True) := fun w' h => by rw [hC1d] at h; exact h
         refine sxdraw (C := C1) (.leaf [(0, true), (1, true), (2, false), (3, false), (4, true)]) (by kernel_rfl) (by kernel_rfl) (by as_aux_lemma => kernel_rfl) rfl (by as_aux_lemma => kernel_rfl) (by kernel_rfl) (hC1i _ ⟨hM.sub (.cons _ (.cons _ (.cons_cons _ .slnil))), hk0, trivial⟩) ?_
         refine sxleaf ?_
         have hC := (hC1i _ ⟨hM.sub (.cons _ (.cons _ (.cons_cons _ .slnil))), hk0, trivial⟩)
         refine qd hf hC (fun w' h => (hC1e w' h).1) [36, 35, 4, 3, 2] [{ os := [.ld 0 0, .ld 0 1] }, { os := [.ld 0 0, .ld 0 1] }] (env' := [(36, .val (.agg #[iV 0, iV 0])), (35, .val (.agg #[iV 0, iV 0])), (4, eB false), (3, eP (B1 + 1) 0), (2, eP B1 0)]) (ob := [Ad B2 0, Ad B2 1, Ad B2 0, Ad B2 1]) (Ac (ad _ _) (Ac (ad _ _) (Ac (ad _ _) (Ao (ad _ _))))) ?_
         clear hf; intro a hf
         refine scstep rfl ?_
         have hMs : MemOk [⟨B1, 127, [iV 0, iV 0]⟩] w2.drew := hM.sub (.cons_cons _ (.cons _ (.cons _ .slnil)))
         refine q1 hf hMs [36, 4, 3, 2] [{ os := [.st 0 0, .st 0 1] }] (env' := fun B11 => [(36, .val (.agg #[iV 0, iV 0])), (4, eB false), (3, eP (B1 + 1) 0), (2, eP B1 0)]) (M' := fun B11 => [⟨B1, 127, [iV 0, iV 0]⟩]) (ob := fun B11 => [Ad B1 0, Ad B1 1]) (fun B11 => (Ac (ad _ _) (Ao (ad _ _)))) ?_
         clear hf hMs; intro a w7 B11 hf hMs hB hk; clear hB
         have hM : MemOk [⟨B1, 127, [iV 0, iV 0]⟩, ⟨B1 + 1, 127, [iV 0, iV 0]⟩, ⟨B2, 127, [iV 0, iV 0]⟩] w7 := MemOk.upd (M1 := []) (M2 := [⟨B1 + 1, 127, [iV 0, iV 0]⟩, ⟨B2, 127, [iV 0, iV 0]⟩]) hM hk hMs rfl
         have hk0 := hk0.then hk (by intro i hi h; simp only [Is, Mem.names, List.map_cons, List.map_nil, List.mem_cons, List.not_mem_nil, or_false] at h; omega)
         clear hk hMs
         have hC := (hC1i _ ⟨hM.sub (.cons _ (.cons _ (.cons_cons _ .slnil))), hk0, trivial⟩)
         refine scdone hC ?_
         refine scstep rfl ?_
         have hMs : MemOk [⟨B1 + 1, 127, [iV 0, iV 0]⟩] w7 := hM.sub (.cons _ (.cons_cons _ (.cons _ .slnil)))
         refine q1 hf hMs [4, 3, 2] [{ os := [.st 0 0, .st 0 1] }] (env' := fun B12 => [(4, eB false), (3, eP (B1 + 1) 0), (2, eP B1 0)]) (M' := fun B12 => [⟨B1 + 1, 127, [iV 0, iV 0]⟩]) (ob := fun B12 => [Ad (B1 + 1) 0, Ad (B1 + 1) 1]) (fun B12 => (Ac (ad _ _) (Ao (ad _ _)))) ?_
         clear hf hMs; intro a w8 B12 hf hMs hB hk; clear hB
         have hM : MemOk [⟨B1, 127, [iV 0, iV 0]⟩, ⟨B1 + 1, 127, [iV 0, iV 0]⟩, ⟨B2, 127, [iV 0, iV 0]⟩] w8 := MemOk.upd (M1 := [⟨B1, 127, [iV 0, iV 0]⟩]) (M2 := [⟨B2, 127, [iV 0, iV 0]⟩]) hM hk hMs rfl
         have hk0 := hk0.then hk (by intro i hi h; simp only [Is, Mem.names, List.map_cons, List.map_nil, List.mem_cons, List.not_mem_nil, or_false] at h; omega)
         clear hk hMs
         have hC := (hC1i _ ⟨hM.sub (.cons _ (.cons _ (.cons_cons _ .slnil))), hk0, trivial⟩)
         refine scdone hC ?_
         refine qd hf hC (fun w' h => (hC1e w' h).1) [4, 3, 2] [{}] (env' := [(4, eB true), (3, eP (B1 + 1) 0), (2, eP B1 0)]) (ob := []) An ?_
         clear hf; intro a hf
         clear hC
         show K12 _ _
         refine hK12 _ _ ?_
         refine wp_ret ?_
         refine qr (fn := Tryd.f69) hf hM [.ld 0 0, .ld 0 1, .ld 1 0, .ld 1 1] (l := [.agg #[iV 0, iV 0], .agg #[iV 0, iV 0], bV true]) (ob := [Ad B1 0, Ad B1 1, Ad (B1 + 1) 0, Ad (B1 + 1) 1]) (Ac (ad _ _) (Ac (ad _ _) (Ac (ad _ _) (Ao (ad _ _))))) ?_
         show (.tuple #[.agg #[iV 0, iV 0], .agg #[iV 0, iV 0], bV true] : Value) = .tuple #[.agg #[iV (spanOf k).1.1, iV (spanOf k).1.2], .agg #[iV (spanOf k).2.1, iV (spanOf k).2.2], bV true] ∧ Keep Nn w w8
         refine ⟨?_, hk0⟩
         unfold spanOf
         repeat' split
         all_goals first | rfl | (exfalso; simp at *; omega)
       · have hc4 := (nF hc4r)
         refine wp_seq_k (fun K13 hK13 => ?_)
         refine wp_region_lit ?_
         refine q0 hf hM [37, 5, 4, 3, 2, 0] [{}, {}, {}] (env' := [(37, eB ((k : Int) == 4)), (5, eP B2 0), (4, eB false), (3, eP (B1 + 1) 0), (2, eP B1 0), (0, eI k)]) (ob := []) An ?_
         clear hf; intro a hf
         refine wpList_nil ?_
         refine hK13 _ _ ?_
         refine qc hf (b := ((k : Int) == 4)) (fun hc5r => ?_) (fun hc5r => ?_)
         · have hc5 := (nE hc5r)
           refine wp_seq_k (fun K14 hK14 => ?_)
           replace hM := hM.drew; replace hk0 := hk0.drew
           obtain ⟨C2, hC2d⟩ : ∃ C : World → Prop, C = fun w' => MemOk [⟨B2, 127, [iV 0, iV 0]⟩] w' ∧ Keep Nn w w' ∧ True := ⟨_, rfl⟩
           have hC2i : ∀ w', (MemOk [⟨B2, 127, [iV 0, iV 0]⟩] w' ∧ Keep Nn w w' ∧ True) → C2 w' := fun w' h => by rw [hC2d]; exact h
           have hC2e : ∀ w', C2 w' → (MemOk [⟨B2, 127, [iV 0, iV 0]⟩] w' ∧ Keep Nn w w' ∧ True) := fun w' h => by rw [hC2d] at h; exact h
           refine sxdraw (C := C2) (.leaf [(0, true), (1, true), (2, false), (3, false), (4, true)]) (by kernel_rfl) (by kernel_rfl) (by as_aux_lemma => kernel_rfl) rfl (by as_aux_lemma => kernel_rfl) (by kernel_rfl) (hC2i _ ⟨hM.sub (.cons _ (.cons _ (.cons_cons _ .slnil))), hk0, trivial⟩) ?_
           refine sxleaf ?_
           have hC := (hC2i _ ⟨hM.sub (.cons _ (.cons _ (.cons_cons _ .slnil))), hk0, trivial⟩)
           refine qd hf hC (fun w' h => (hC2e w' h).1) [41, 40, 4, 3, 2] [{ sp := true }, { os := [.ld 0 0, .ld 0 1] }] (env' := [(41, .val (.agg #[iV 0, iV 0])), (40, .val (.agg #[iV 0, iV 255])), (4, eB false), (3, eP (B1 + 1) 0), (2, eP B1 0)]) (ob := [Ad B2 0, Ad B2 1]) (Ac (ad _ _) (Ao (ad _ _))) ?_
           clear hf; intro a hf
           refine scstep rfl ?_
           have hMs : MemOk [⟨B1, 127, [iV 0, iV 0]⟩] w2.drew := hM.sub (.cons_cons _ (.cons _ (.cons _ .slnil)))
           refine q1 hf hMs [41, 4, 3, 2] [{ os := [.st 0 0, .st 0 1] }] (env' := fun B14 => [(41, .val (.agg #[iV 0, iV 0])), (4, eB false), (3, eP (B1 + 1) 0), (2, eP B1 0)]) (M' := fun B14 => [⟨B1, 127, [iV 0, iV 255]⟩]) (ob := fun B14 => [Ad B1 0, Ad B1 1]) (fun B14 => (Ac (ad _ _) (Ao (ad _ _)))) ?_
           clear hf hMs; intro a w9 B14 hf hMs hB hk; clear hB
           have hM : MemOk [⟨B1, 127, [iV 0, iV 255]⟩, ⟨B1 + 1, 127, [iV 0, iV 0]⟩, ⟨B2, 127, [iV 0, iV 0]⟩] w9 := MemOk.upd (M1 := []) (M2 := [⟨B1 + 1, 127, [iV 0, iV 0]⟩, ⟨B2, 127, [iV 0, iV 0]⟩]) hM hk hMs rfl
           have hk0 := hk0.then hk (by intro i hi h; simp only [Is, Mem.names, List.map_cons, List.map_nil, List.mem_cons, List.not_mem_nil, or_false] at h; omega)
           clear hk hMs
           have hC := (hC2i _ ⟨hM.sub (.cons _ (.cons _ (.cons_cons _ .slnil))), hk0, trivial⟩)
           refine scdone hC ?_
           refine scstep rfl ?_
           have hMs : MemOk [⟨B1 + 1, 127, [iV 0, iV 0]⟩] w9 := hM.sub (.cons _ (.cons_cons _ (.cons _ .slnil)))
           refine q1 hf hMs [4, 3, 2] [{ os := [.st 0 0, .st 0 1] }] (env' := fun B15 => [(4, eB false), (3, eP (B1 + 1) 0), (2, eP B1 0)]) (M' := fun B15 => [⟨B1 + 1, 127, [iV 0, iV 0]⟩]) (ob := fun B15 => [Ad (B1 + 1) 0, Ad (B1 + 1) 1]) (fun B15 => (Ac (ad _ _) (Ao (ad _ _)))) ?_
           clear hf hMs; intro a w10 B15 hf hMs hB hk; clear hB
           have hM : MemOk [⟨B1, 127, [iV 0, iV 255]⟩, ⟨B1 + 1, 127, [iV 0, iV 0]⟩, ⟨B2, 127, [iV 0, iV 0]⟩] w10 := MemOk.upd (M1 := [⟨B1, 127, [iV 0, iV 255]⟩]) (M2 := [⟨B2, 127, [iV 0, iV 0]⟩]) hM hk hMs rfl
           have hk0 := hk0.then hk (by intro i hi h; simp only [Is, Mem.names, List.map_cons, List.map_nil, List.mem_cons, List.not_mem_nil, or_false] at h; omega)
           clear hk hMs
           have hC := (hC2i _ ⟨hM.sub (.cons _ (.cons _ (.cons_cons _ .slnil))), hk0, trivial⟩)
           refine scdone hC ?_
           refine qd hf hC (fun w' h => (hC2e w' h).1) [4, 3, 2] [{}] (env' := [(4, eB true), (3, eP (B1 + 1) 0), (2, eP B1 0)]) (ob := []) An ?_
           clear hf; intro a hf
           clear hC
           show K14 _ _
           refine hK14 _ _ ?_
           refine wp_ret ?_
           refine qr (fn := Tryd.f69) hf hM [.ld 0 0, .ld 0 1, .ld 1 0, .ld 1 1] (l := [.agg #[iV 0, iV 255], .agg #[iV 0, iV 0], bV true]) (ob := [Ad B1 0, Ad B1 1, Ad (B1 + 1) 0, Ad (B1 + 1) 1]) (Ac (ad _ _) (Ac (ad _ _) (Ac (ad _ _) (Ao (ad _ _))))) ?_
           show (.tuple #[.agg #[iV 0, iV 255], .agg #[iV 0, iV 0], bV true] : Value) = .tuple #[.agg #[iV (spanOf k).1.1, iV (spanOf k).1.2], .agg #[iV (spanOf k).2.1, iV (spanOf k).2.2], bV true] ∧ Keep Nn w w10
           refine ⟨?_, hk0⟩
           unfold spanOf
           repeat' split
           all_goals first | rfl | (exfalso; simp at *; omega)
         · have hc5 := (nF hc5r)
           refine wp_seq_k (fun K15 hK15 => ?_)
           refine wp_region_lit ?_
           refine q0 hf hM [42, 5, 4, 3, 2] [{}, {}, {}] (env' := [(42, eB ((k : Int) == 5)), (5, eP B2 0), (4, eB false), (3, eP (B1 + 1) 0), (2, eP B1 0)]) (ob := []) An ?_
           clear hf; intro a hf
           refine wpList_nil ?_
           refine hK15 _ _ ?_
           refine qc hf (b := ((k : Int) == 5)) (fun hc6r => ?_) (fun hc6r => ?_)
           · have hc6 := (nE hc6r)
             refine wp_seq_k (fun K16 hK16 => ?_)
             replace hM := hM.drew; replace hk0 := hk0.drew
             obtain ⟨C3, hC3d⟩ : ∃ C : World → Prop, C = fun w' => MemOk [⟨B2, 127, [iV 0, iV 0]⟩] w' ∧ Keep Nn w w' ∧ True := ⟨_, rfl⟩
             have hC3i : ∀ w', (MemOk [⟨B2, 127, [iV 0, iV 0]⟩] w' ∧ Keep Nn w w' ∧ True) → C3 w' := fun w' h => by rw [hC3d]; exact h
             have hC3e : ∀ w', C3 w' → (MemOk [⟨B2, 127, [iV 0, iV 0]⟩] w' ∧ Keep Nn w w' ∧ True) := fun w' h => by rw [hC3d] at h; exact h
             refine sxdraw (C := C3) (.leaf [(0, true), (1, true), (2, false), (3, false), (4, true)]) (by kernel_rfl) (by kernel_rfl) (by as_aux_lemma => kernel_rfl) rfl (by as_aux_lemma => kernel_rfl) (by kernel_rfl) (hC3i _ ⟨hM.sub (.cons _ (.cons _ (.cons_cons _ .slnil))), hk0, trivial⟩) ?_
             refine sxleaf ?_
             have hC := (hC3i _ ⟨hM.sub (.cons _ (.cons _ (.cons_cons _ .slnil))), hk0, trivial⟩)
             refine qd hf hC (fun w' h => (hC3e w' h).1) [46, 45, 4, 3, 2] [{ sp := true }, { os := [.ld 0 0, .ld 0 1] }] (env' := [(46, .val (.agg #[iV 0, iV 0])), (45, .val (.agg #[iV 0, iV 1048576])), (4, eB false), (3, eP (B1 + 1) 0), (2, eP B1 0)]) (ob := [Ad B2 0, Ad B2 1]) (Ac (ad _ _) (Ao (ad _ _))) ?_
             clear hf; intro a hf
             refine scstep rfl ?_
             have hMs : MemOk [⟨B1, 127, [iV 0, iV 0]⟩] w2.drew := hM.sub (.cons_cons _ (.cons _ (.cons _ .slnil)))
             refine q1 hf hMs [46, 4, 3, 2] [{ os := [.st 0 0, .st 0 1] }] (env' := fun B17 => [(46, .val (.agg #[iV 0, iV 0])), (4, eB false), (3, eP (B1 + 1) 0), (2, eP B1 0)]) (M' := fun B17 => [⟨B1, 127, [iV 0, iV 1048576]⟩]) (ob := fun B17 => [Ad B1 0, Ad B1 1]) (fun B17 => (Ac (ad _ _) (Ao (ad _ _)))) ?_
             clear hf hMs; intro a w11 B17 hf hMs hB hk; clear hB
             have hM : MemOk [⟨B1, 127, [iV 0, iV 1048576]⟩, ⟨B1 + 1, 127, [iV 0, iV 0]⟩, ⟨B2, 127, [iV 0, iV 0]⟩] w11 := MemOk.upd (M1 := []) (M2 := [⟨B1 + 1, 127, [iV 0, iV 0]⟩, ⟨B2, 127, [iV 0, iV 0]⟩]) hM hk hMs rfl
             have hk0 := hk0.then hk (by intro i hi h; simp only [Is, Mem.names, List.map_cons, List.map_nil, List.mem_cons, List.not_mem_nil, or_false] at h; omega)
             clear hk hMs
             have hC := (hC3i _ ⟨hM.sub (.cons _ (.cons _ (.cons_cons _ .slnil))), hk0, trivial⟩)
             refine scdone hC ?_
             refine scstep rfl ?_
             have hMs : MemOk [⟨B1 + 1, 127, [iV 0, iV 0]⟩] w11 := hM.sub (.cons _ (.cons_cons _ (.cons _ .slnil)))
             refine q1 hf hMs [4, 3, 2] [{ os := [.st 0 0, .st 0 1] }] (env' := fun B18 => [(4, eB false), (3, eP (B1 + 1) 0), (2, eP B1 0)]) (M' := fun B18 => [⟨B1 + 1, 127, [iV 0, iV 0]⟩]) (ob := fun B18 => [Ad (B1 + 1) 0, Ad (B1 + 1) 1]) (fun B18 => (Ac (ad _ _) (Ao (ad _ _)))) ?_
             clear hf hMs; intro a w12 B18 hf hMs hB hk; clear hB
             have hM : MemOk [⟨B1, 127, [iV 0, iV 1048576]⟩, ⟨B1 + 1, 127, [iV 0, iV 0]⟩, ⟨B2, 127, [iV 0, iV 0]⟩] w12 := MemOk.upd (M1 := [⟨B1, 127, [iV 0, iV 1048576]⟩]) (M2 := [⟨B2, 127, [iV 0, iV 0]⟩]) hM hk hMs rfl
             have hk0 := hk0.then hk (by intro i hi h; simp only [Is, Mem.names, List.map_cons, List.map_nil, List.mem_cons, List.not_mem_nil, or_false] at h; omega)
             clear hk hMs
             have hC := (hC3i _ ⟨hM.sub (.cons _ (.cons _ (.cons_cons _ .slnil))), hk0, trivial⟩)
             refine scdone hC ?_
             refine qd hf hC (fun w' h => (hC3e w' h).1) [4, 3, 2] [{}] (env' := [(4, eB true), (3, eP (B1 + 1) 0), (2, eP B1 0)]) (ob := []) An ?_
             clear hf; intro a hf
             clear hC
             show K16 _ _
             refine hK16 _ _ ?_
             refine wp_ret ?_
             refine qr (fn := Tryd.f69) hf hM [.ld 0 0, .ld 0 1, .ld 1 0, .ld 1 1] (l := [.agg #[iV 0, iV 1048576], .agg #[iV 0, iV 0], bV true]) (ob := [Ad B1 0, Ad B1 1, Ad (B1 + 1) 0, Ad (B1 + 1) 1]) (Ac (ad _ _) (Ac (ad _ _) (Ac (ad _ _) (Ao (ad _ _))))) ?_
             show (.tuple #[.agg #[iV 0, iV 1048576], .agg #[iV 0, iV 0], bV true] : Value) = .tuple #[.agg #[iV (spanOf k).1.1, iV (spanOf k).1.2], .agg #[iV (spanOf k).2.1, iV (spanOf k).2.2], bV true] ∧ Keep Nn w w12
             refine ⟨?_, hk0⟩
             unfold spanOf
             repeat' split
             all_goals first | rfl | (exfalso; simp at *; omega)
           · have hc6 := (nF hc6r)
             refine wp_skip ?_
             refine hK3 _ _ ?_
             refine wp_seq_k (fun K17 hK17 => ?_)
             refine wp_region_lit ?_
             refine q1 hf hM [3, 2] [{ sp := true }, { os := [.st 0 0, .st 0 1] }] (env' := fun B19 => [(3, eP (B1 + 1) 0), (2, eP B1 0)]) (M' := fun B19 => [⟨B1, 127, [iV (-4194304), iV 4194304]⟩, ⟨B1 + 1, 127, [iV 0, iV 0]⟩, ⟨B2, 127, [iV 0, iV 0]⟩]) (ob := fun B19 => [Ad B1 0, Ad B1 1]) (fun B19 => (Ac (ad _ _) (Ao (ad _ _)))) ?_
             clear hf hM; intro a w13 B19 hf hM hB hk
             have hbB19 : w.heap.size ≤ B19 := by have := hk0.size; omega
             have hk0 := hk0.then hk (by intro i hi h; simp only [Is, Mem.names, List.map_cons, List.map_nil, List.mem_cons, List.not_mem_nil, or_false] at h; omega)
             clear hk hB
             refine wpList_nil ?_
             refine hK17 _ _ ?_
             refine wp_seq_k (fun K18 hK18 => ?_)
             refine wp_region_lit ?_
             refine q1 hf hM [4, 3, 2] [{ os := [.ld 0 0, .ld 0 1] }, { os := [.ld 0 0, .ld 0 1] }, { os := [.st 0 0, .st 0 1] }, { os := [.st 1 0, .st 1 1] }, {}] (env' := fun B20 => [(4, eB true), (3, eP (B1 + 1) 0), (2, eP B1 0)]) (M' := fun B20 => [⟨B1, 127, [iV (-4194304), iV 4194304]⟩, ⟨B1 + 1, 127, [iV (-4194304), iV 4194304]⟩, ⟨B2, 127, [iV 0, iV 0]⟩]) (ob := fun B20 => [Ad B1 0, Ad B1 1, Ad B1 0, Ad B1 1, Ad B1 0, Ad B1 1, Ad (B1 + 1) 0, Ad (B1 + 1) 1]) (fun B20 => (Ac (ad _ _) (Ac (ad _ _) (Ac (ad _ _) (Ac (ad _ _) (Ac (ad _ _) (Ac (ad _ _) (Ac (ad _ _) (Ao (ad _ _)))))))))) ?_
             clear hf hM; intro a w14 B20 hf hM hB hk
             have hbB20 : w.heap.size ≤ B20 := by have := hk0.size; omega
             have hk0 := hk0.then hk (by intro i hi h; simp only [Is, Mem.names, List.map_cons, List.map_nil, List.mem_cons, List.not_mem_nil, or_false] at h; omega)
             clear hk hB
             refine wpList_nil ?_
             refine hK18 _ _ ?_
             refine wp_ret ?_
             refine qr (fn := Tryd.f69) hf hM [.ld 0 0, .ld 0 1, .ld 1 0, .ld 1 1] (l := [.agg #[iV (-4194304), iV 4194304], .agg #[iV (-4194304), iV 4194304], bV true]) (ob := [Ad B1 0, Ad B1 1, Ad (B1 + 1) 0, Ad (B1 + 1) 1]) (Ac (ad _ _) (Ac (ad _ _) (Ac (ad _ _) (Ao (ad _ _))))) ?_
             show (.tuple #[.agg #[iV (-4194304), iV 4194304], .agg #[iV (-4194304), iV 4194304], bV true] : Value) = .tuple #[.agg #[iV (spanOf k).1.1, iV (spanOf k).1.2], .agg #[iV (spanOf k).2.1, iV (spanOf k).2.2], bV true] ∧ Keep Nn w w14
             refine ⟨?_, hk0⟩
             unfold spanOf
             repeat' split
             all_goals first | rfl | (exfalso; simp at *; omega)

set_option maxRecDepth 10000 in
set_option maxHeartbeats 1600000 in
theorem ranges_no (k : Int) (w : World) (hn0 : (decide (0 ≤ k ∧ k ≤ 9)) = false) :
    Calls Tryd.prog 69 #[iV k] w (Ret fun v w' => v = .tuple #[.agg #[iV 0, iV 0], .agg #[iV 0, iV 0], bV false] ∧ Keep Nn w w') := by
 refine sxenter (n := 50) (args := [iV k]) Tryd.func69 rfl rfl rfl fun a hf => ?_
 replace hf : Fr 50 [(0, eI k)] a := hf
 have hM : MemOk [] w := MemOk.nil w
 have hk0 : Keep Nn w w := Keep.refl _ _
 have hkk : ¬ (0 ≤ k ∧ k ≤ 9) := by simpa using hn0
 refine wp_seq_k (fun K1 hK1 => ?_)
 refine wp_region_lit ?_
 refine q1 hf hM [4, 3, 2, 0] [{ os := [.nw] }, { os := [.nw] }, {}] (env' := fun B1 => [(4, eB false), (3, eP (B1 + 1) 0), (2, eP B1 0), (0, eI k)]) (M' := fun B1 => [⟨B1, 127, [iV 0, iV 0]⟩, ⟨B1 + 1, 127, [iV 0, iV 0]⟩]) (ob := fun B1 => []) (fun B1 => An) ?_
 clear hf hM; intro a w1 B1 hf hM hB hk
 have hbB1 : w.heap.size ≤ B1 := by have := hk0.size; omega
 have hk0 := hk0.then hk (by intro i _ h; cases h)
 clear hk hB
 refine wpList_nil ?_
 refine hK1 _ _ ?_
 refine wp_seq_k (fun K2 hK2 => ?_)
 refine wp_region_lit ?_
 refine q1 hf hM [5, 4, 3, 2, 0] [{ sp := true }, { os := [.nw] }, { os := [.st 2 0, .st 2 1] }] (env' := fun B2 => [(5, eP B2 0), (4, eB false), (3, eP (B1 + 1) 0), (2, eP B1 0), (0, eI k)]) (M' := fun B2 => [⟨B1, 127, [iV 0, iV 0]⟩, ⟨B1 + 1, 127, [iV 0, iV 0]⟩, ⟨B2, 127, [iV 0, iV 0]⟩]) (ob := fun B2 => [Ad B2 0, Ad B2 1]) (fun B2 => (Ac (ad _ _) (Ao (ad _ _)))) ?_
 clear hf hM; intro a w2 B2 hf hM hB hk
 have hbB2 : w.heap.size ≤ B2 := by have := hk0.size; omega
 have hk0 := hk0.then hk (by intro i hi h; simp only [Is, Mem.names, List.map_cons, List.map_nil, List.mem_cons, List.not_mem_nil, or_false] at h; omega)
 clear hk hB
 refine wpList_nil ?_
 refine hK2 _ _ ?_
 refine wp_seq_k (fun K3 hK3 => ?_)
 refine wp_block ?_
 refine wp_seq_k (fun K4 hK4 => ?_)
 refine wp_region_lit ?_
 refine q0 hf hM [7, 5, 4, 3, 2, 0] [{}, {}, {}, { g := .sym }, { g := .sym }, { hint := some (bV ((decide ((k : Int) < 0)) || (decide ((k : Int) ≥ 10)))) }, {}] (env' := [(7, eB ((decide ((k : Int) < 0)) || (decide ((k : Int) ≥ 10)))), (5, eP B2 0), (4, eB false), (3, eP (B1 + 1) 0), (2, eP B1 0), (0, eI k)]) (ob := [((decide ((k : Int) < 0)) = false → (decide ((k : Int) < 0)) = (decide ((k : Int) < 0))), ((decide ((k : Int) < 0)) = false → (decide ((k : Int) < 0)) = (decide ((k : Int) < 0))), (bif (decide ((k : Int) < 0)) then (bV true : Value) else bV (decide ((k : Int) ≥ 10))) = .bool ((decide ((k : Int) < 0)) || (decide ((k : Int) ≥ 10)))]) (Ac (fun hgd => rfl) (Ac (fun _ => rfl) (Ao (pick_or _ _)))) ?_
 clear hf; intro a hf
 refine wpList_nil ?_
 refine hK4 _ _ ?_
 refine qc hf (b := ((decide ((k : Int) < 0)) || (decide ((k : Int) ≥ 10)))) (fun hc1r => ?_) (fun hc1r => ?_)
 · have hc1 := hc1r
   try simp only [Bool.or_eq_true, Bool.and_eq_true, Bool.not_eq_true', Bool.not_eq_false', Bool.or_eq_false_iff, Bool.and_eq_false_iff, decide_eq_true_eq, decide_eq_false_iff_not, beq_iff_eq, bne_iff_ne, beq_eq_false_iff_ne, bne_eq_false_iff_eq, Bool.and_true, Bool.true_and, ne_eq] at hc1
   refine wp_seq_k (fun K5 hK5 => ?_)
   replace hM := hM.drew; replace hk0 := hk0.drew
   obtain ⟨C1, hC1d⟩ : ∃ C : World → Prop, C = fun w' => MemOk [⟨B2, 127, [iV 0, iV 0]⟩] w' ∧ Keep Nn w w' ∧ True := ⟨_, rfl⟩
   have hC1i : ∀ w', (MemOk [⟨B2, 127, [iV 0, iV 0]⟩] w' ∧ Keep Nn w w' ∧ True) → C1 w' := fun w' h => by rw [hC1d]; exact h
   have hC1e : ∀ w', C1 w' → (MemOk [⟨B2, 127, [iV 0, iV 0]⟩] w' ∧ Keep Nn w w' ∧ True) := fun w' h => by rw [hC1d] at h; exact h
   refine sxdraw (C := C1) (.leaf [(0, true), (1, true), (2, false), (3, false), (4, true)]) (by kernel_rfl) (by kernel_rfl) (by as_aux_lemma => kernel_rfl) rfl (by as_aux_lemma => kernel_rfl) (by kernel_rfl) (hC1i _ ⟨hM.sub (.cons _ (.cons _ (.cons_cons _ .slnil))), hk0, trivial⟩) ?_
   refine sxleaf ?_
   have hC := (hC1i _ ⟨hM.sub (.cons _ (.cons _ (.cons_cons _ .slnil))), hk0, trivial⟩)
   refine qd hf hC (fun w' h => (hC1e w' h).1) [15, 14, 4, 3, 2] [{ os := [.ld 0 0, .ld 0 1] }, { os := [.ld 0 0, .ld 0 1] }] (env' := [(15, .val (.agg #[iV 0, iV 0])), (14, .val (.agg #[iV 0, iV 0])), (4, eB false), (3, eP (B1 + 1) 0), (2, eP B1 0)]) (ob := [Ad B2 0, Ad B2 1, Ad B2 0, Ad B2 1]) (Ac (ad _ _) (Ac (ad _ _) (Ac (ad _ _) (Ao (ad _ _))))) ?_
   clear hf; intro a hf
   refine scstep rfl ?_
   have hMs : MemOk [⟨B1, 127, [iV 0, iV 0]⟩] w2.drew := hM.sub (.cons_cons _ (.cons _ (.cons _ .slnil)))
   refine q1 hf hMs [15, 4, 3, 2] [{ os := [.st 0 0, .st 0 1] }] (env' := fun B4 => [(15, .val (.agg #[iV 0, iV 0])), (4, eB false), (3, eP (B1 + 1) 0), (2, eP B1 0)]) (M' := fun B4 => [⟨B1, 127, [iV 0, iV 0]⟩]) (ob := fun B4 => [Ad B1 0, Ad B1 1]) (fun B4 => (Ac (ad _ _) (Ao (ad _ _)))) ?_
   clear hf hMs; intro a w3 B4 hf hMs hB hk; clear hB
   have hM : MemOk [⟨B1, 127, [iV 0, iV 0]⟩, ⟨B1 + 1, 127, [iV 0, iV 0]⟩, ⟨B2, 127, [iV 0, iV 0]⟩] w3 := MemOk.upd (M1 := []) (M2 := [⟨B1 + 1, 127, [iV 0, iV 0]⟩, ⟨B2, 127, [iV 0, iV 0]⟩]) hM hk hMs rfl
   have hk0 := hk0.then hk (by intro i hi h; simp only [Is, Mem.names, List.map_cons, List.map_nil, List.mem_cons, List.not_mem_nil, or_false] at h; omega)
   clear hk hMs
   have hC := (hC1i _ ⟨hM.sub (.cons _ (.cons _ (.cons_cons _ .slnil))), hk0, trivial⟩)
   refine scdone hC ?_
   refine scstep rfl ?_
   have hMs : MemOk [⟨B1 + 1, 127, [iV 0, iV 0]⟩] w3 := hM.sub (.cons _ (.cons_cons _ (.cons _ .slnil)))
   refine q1 hf hMs [4, 3, 2] [{ os := [.st 0 0, .st 0 1] }] (env' := fun B5 => [(4, eB false), (3, eP (B1 + 1) 0), (2, eP B1 0)]) (M' := fun B5 => [⟨B1 + 1, 127, [iV 0, iV 0]⟩]) (ob := fun B5 => [Ad (B1 + 1) 0, Ad (B1 + 1) 1]) (fun B5 => (Ac (ad _ _) (Ao (ad _ _)))) ?_
   clear hf hMs; intro a w4 B5 hf hMs hB hk; clear hB
   have hM : MemOk [⟨B1, 127, [iV 0, iV 0]⟩, ⟨B1 + 1, 127, [iV 0, iV 0]⟩, ⟨B2, 127, [iV 0, iV 0]⟩] w4 := MemOk.upd (M1 := [⟨B1, 127, [iV 0, iV 0]⟩]) (M2 := [⟨B2, 127, [iV 0, iV 0]⟩]) hM hk hMs rfl
   have hk0 := hk0.then hk (by intro i hi h; simp only [Is, Mem.names, List.map_cons, List.map_nil, List.mem_cons, List.not_mem_nil, or_false] at h; omega)
   clear hk hMs
   have hC := (hC1i _ ⟨hM.sub (.cons _ (.cons _ (.cons_cons _ .slnil))), hk0, trivial⟩)
   refine scdone hC ?_
   refine qd hf hC (fun w' h => (hC1e w' h).1) [4, 3, 2] [{}] (env' := [(4, eB false), (3, eP (B1 + 1) 0), (2, eP B1 0)]) (ob := []) An ?_
   clear hf; intro a hf
   clear hC
   show K5 _ _
   refine hK5 _ _ ?_
   refine wp_ret ?_
   refine qr (fn := Tryd.f69) hf hM [.ld 0 0, .ld 0 1, .ld 1 0, .ld 1 1] (l := [.agg #[iV 0, iV 0], .agg #[iV 0, iV 0], bV false]) (ob := [Ad B1 0, Ad B1 1, Ad (B1 + 1) 0, Ad (B1 + 1) 1]) (Ac (ad _ _) (Ac (ad _ _) (Ac (ad _ _) (Ao (ad _ _))))) ?_
   show (.tuple #[.agg #[iV 0, iV 0], .agg #[iV 0, iV 0], bV false] : Value) = .tuple #[.agg #[iV 0, iV 0], .agg #[iV 0, iV 0], bV false] ∧ Keep Nn w w4
   exact ⟨rfl, hk0⟩
 · have hc1 := hc1r
   try simp only [Bool.or_eq_true, Bool.and_eq_true, Bool.not_eq_true', Bool.not_eq_false', Bool.or_eq_false_iff, Bool.and_eq_false_iff, decide_eq_true_eq, decide_eq_false_iff_not, beq_iff_eq, bne_iff_ne, beq_eq_false_iff_ne, bne_eq_false_iff_eq, Bool.and_true, Bool.true_and, ne_eq] at hc1
   exfalso; omega

set_option maxRecDepth 10000 in
set_option maxHeartbeats 1600000 in
theorem scheck_kind (E : Nat → Addr) (k x y : Int) (w : World) (hn0 : (vkind ⟨k, x, y⟩) = false) (hG : Errs [0, 3, 4] w 185 E) :
    Calls Tryd.prog 31 #[.agg #[iV k, iV x, iV y]] w (Ret fun v w' => v = .iface 185 (.pointer (some (E 4))) ∧ Keep Nn w w') := by
 refine sxenter (n := 31) (args := [.agg #[iV k, iV x, iV y]]) Tryd.func31 rfl rfl rfl fun a hf => ?_
 replace hf : Fr 31 [(0, .val (.agg #[iV k, iV x, iV y]))] a := hf
 have hM : MemOk [] w := MemOk.nil w
 have hk0 : Keep Nn w w := Keep.refl _ _
 have hkk : decide (0 ≤ k ∧ k ≤ 9) = false := hn0
 refine wp_seq_k (fun K1 hK1 => ?_)
 refine wp_region_lit ?_
 refine q1 hf hM [1] [{ os := [.nw] }, {}] (env' := fun B1 => [(1, eP B1 0)]) (M' := fun B1 => [⟨B1, 62, [iV k, iV x, iV y]⟩]) (ob := fun B1 => []) (fun B1 => An) ?_
 clear hf hM; intro a w1 B1 hf hM hB hk
 have hbB1 : w.heap.size ≤ B1 := by have := hk0.size; omega
 have hk0 := hk0.then hk (by intro i _ h; cases h)
 clear hk hB
 refine wpList_nil ?_
 refine hK1 _ _ ?_
 refine wp_seq_k (fun K2 hK2 => ?_)
 refine wp_region_lit ?_
 refine q0 hf hM [8, 1] [{}, { os := [.ld 0 0] }] (env' := [(8, eI k), (1, eP B1 0)]) (ob := [Ad B1 0]) (Ao (ad _ _)) ?_
 clear hf; intro a hf
 refine sxcall hf rfl rfl rfl rfl (g := 69) (vs := [iV k]) (ob := []) (by as_aux_lemma => kernel_rfl) An enters69 (ranges_no k w1 hkk ) ?_
 clear hf; rintro _ w2 a ⟨rfl, hk⟩ hf
 have hM := hM.keepNn hk
 have hk0 := hk0.trans hk.nn
 clear hk
 refine q1 hf hM [5, 4, 3, 1] [{}, {}, {}, {}, { os := [.nw] }, { os := [.nw] }, { os := [.st 1 0, .st 1 1] }, { os := [.st 2 0, .st 2 1] }, {}] (env' := fun B3 => [(5, eB false), (4, eP (B3 + 1) 0), (3, eP B3 0), (1, eP B1 0)]) (M' := fun B3 => [⟨B1, 62, [iV k, iV x, iV y]⟩, ⟨B3, 127, [iV 0, iV 0]⟩, ⟨B3 + 1, 127, [iV 0, iV 0]⟩]) (ob := fun B3 => [Ad B3 0, Ad B3 1, Ad (B3 + 1) 0, Ad (B3 + 1) 1]) (fun B3 => (Ac (ad _ _) (Ac (ad _ _) (Ac (ad _ _) (Ao (ad _ _)))))) ?_
 clear hf hM; intro a w3 B3 hf hM hB hk
 have hbB3 : w.heap.size ≤ B3 := by have := hk0.size; omega
 have hk0 := hk0.then hk (by intro i hi h; simp only [Is, Mem.names, List.map_cons, List.map_nil, List.mem_cons, List.not_mem_nil, or_false] at h; omega)
 clear hk hB
 refine wpList_nil ?_
 refine hK2 _ _ ?_
 refine wp_seq_k (fun K3 hK3 => ?_)
 refine wp_block ?_
 refine wp_seq_k (fun K4 hK4 => ?_)
 refine wp_region_lit ?_
 refine q0 hf hM [13, 4, 3, 1] [{}, {}, {}] (env' := [(13, eB true), (4, eP (B3 + 1) 0), (3, eP B3 0), (1, eP B1 0)]) (ob := []) An ?_
 clear hf; intro a hf
 refine wpList_nil ?_
 refine hK4 _ _ ?_
 refine sxcond hf (b := true) (by kernel_rfl) (fun _ => ?_) (fun h => by cases h)
 refine wp_seq_k (fun K5 hK5 => ?_)
 refine wp_region_lit ?_
 refine q0 hf hM [2] [{ os := [.ex (.iface 185 (.pointer (some (E 4))))] }, {}] (env' := [(2, .val (.iface 185 (.pointer (some (E 4)))))]) (ob := [w3.cell? ⟨4, 0, none⟩ = some (.iface 185 (.pointer (some (E 4))))]) (Ao (hk0.cell (hG.cell 4 (by decide)) (fun h => h))) ?_
 clear hf; intro a hf
 refine wpList_nil ?_
 refine hK5 _ _ ?_
 refine wp_ret ?_
 refine qr (fn := Tryd.f31) hf hM [] (l := [.iface 185 (.pointer (some (E 4)))]) (ob := []) An ?_
 show (.iface 185 (.pointer (some (E 4))) : Value) = .iface 185 (.pointer (some (E 4))) ∧ Keep Nn w w3
 exact ⟨rfl, hk0⟩

set_option maxRecDepth 10000 in
set_option maxHeartbeats 1600000 in
theorem scheck_ok (E : Nat → Addr) (k x y : Int) (w : World) (hn0 : (vkind ⟨k, x, y⟩) = true) (hn1 : (vrange ⟨k, x, y⟩) = true) (hG : Errs [0, 3, 4] w 185 E) :
    Calls Tryd.prog 31 #[.agg #[iV k, iV x, iV y]] w (Ret fun v w' => v = .nilIface ∧ Keep Nn w w') := by
 refine sxenter (n := 31) (args := [.agg #[iV k, iV x, iV y]]) Tryd.func31 rfl rfl rfl fun a hf => ?_
 replace hf : Fr 31 [(0, .val (.agg #[iV k, iV x, iV y]))] a := hf
 have hM : MemOk [] w := MemOk.nil w
 have hk0 : Keep Nn w w := Keep.refl _ _
 have hkk : decide (0 ≤ k ∧ k ≤ 9) = true := hn0
 have hvr := hn1
 rw [vrange_span] at hvr
 have hvr := of_decide_eq_true hvr
 have hs1 : (decide (x ≥ (spanOf k).1.1) && decide (x ≤ (spanOf k).1.2)) = true := by simp; omega
 have hs2 : (decide (y ≥ (spanOf k).2.1) && decide (y ≤ (spanOf k).2.2)) = true := by simp; omega
 refine wp_seq_k (fun K1 hK1 => ?_)
 refine wp_region_lit ?_
 refine q1 hf hM [1] [{ os := [.nw] }, {}] (env' := fun B1 => [(1, eP B1 0)]) (M' := fun B1 => [⟨B1, 62, [iV k, iV x, iV y]⟩]) (ob := fun B1 => []) (fun B1 => An) ?_
 clear hf hM; intro a w1 B1 hf hM hB hk
 have hbB1 : w.heap.size ≤ B1 := by have := hk0.size; omega
 have hk0 := hk0.then hk (by intro i _ h; cases h)
 clear hk hB
 refine wpList_nil ?_
 refine hK1 _ _ ?_
 refine wp_seq_k (fun K2 hK2 => ?_)
 refine wp_region_lit ?_
 refine q0 hf hM [8, 1] [{}, { os := [.ld 0 0] }] (env' := [(8, eI k), (1, eP B1 0)]) (ob := [Ad B1 0]) (Ao (ad _ _)) ?_
 clear hf; intro a hf
 refine sxcall hf rfl rfl rfl rfl (g := 69) (vs := [iV k]) (ob := []) (by as_aux_lemma => kernel_rfl) An enters69 (ranges_ok k w1 hkk ) ?_
 clear hf; rintro _ w2 a ⟨rfl, hk⟩ hf
 have hM := hM.keepNn hk
 have hk0 := hk0.trans hk.nn
 clear hk
 refine q1 hf hM [5, 4, 3, 1] [{}, {}, {}, {}, { os := [.nw] }, { os := [.nw] }, { os := [.st 1 0, .st 1 1] }, { os := [.st 2 0, .st 2 1] }, {}] (env' := fun B3 => [(5, eB true), (4, eP (B3 + 1) 0), (3, eP B3 0), (1, eP B1 0)]) (M' := fun B3 => [⟨B1, 62, [iV k, iV x, iV y]⟩, ⟨B3, 127, [iV (spanOf k).1.1, iV (spanOf k).1.2]⟩, ⟨B3 + 1, 127, [iV (spanOf k).2.1, iV (spanOf k).2.2]⟩]) (ob := fun B3 => [Ad B3 0, Ad B3 1, Ad (B3 + 1) 0, Ad (B3 + 1) 1]) (fun B3 => (Ac (ad _ _) (Ac (ad _ _) (Ac (ad _ _) (Ao (ad _ _)))))) ?_
 clear hf hM; intro a w3 B3 hf hM hB hk
 have hbB3 : w.heap.size ≤ B3 := by have := hk0.size; omega
 have hk0 := hk0.then hk (by intro i hi h; simp only [Is, Mem.names, List.map_cons, List.map_nil, List.mem_cons, List.not_mem_nil, or_false] at h; omega)
 clear hk hB
 refine wpList_nil ?_
 refine hK2 _ _ ?_
 refine wp_seq_k (fun K3 hK3 => ?_)
 refine wp_block ?_
 refine wp_seq_k (fun K4 hK4 => ?_)
 refine wp_region_lit ?_
 refine q0 hf hM [13, 4, 3, 1] [{}, {}, {}] (env' := [(13, eB false), (4, eP (B3 + 1) 0), (3, eP B3 0), (1, eP B1 0)]) (ob := []) An ?_
 clear hf; intro a hf
 refine wpList_nil ?_
 refine hK4 _ _ ?_
 refine sxcond hf (b := false) (by kernel_rfl) (fun h => by cases h) (fun _ => ?_)
 refine wp_seq_k (fun K5 hK5 => ?_)
 refine wp_region_lit ?_
 refine q0 hf hM [20, 18, 4, 1] [{ os := [.ld 1 0, .ld 1 1] }, {}, { os := [.ld 0 1] }] (env' := [(20, eI x), (18, .val (.agg #[iV (spanOf k).1.1, iV (spanOf k).1.2])), (4, eP (B3 + 1) 0), (1, eP B1 0)]) (ob := [Ad B3 0, Ad B3 1, Ad B1 1]) (Ac (ad _ _) (Ac (ad _ _) (Ao (ad _ _)))) ?_
 clear hf; intro a hf
 refine sxcall hf rfl rfl rfl rfl (g := 70) (vs := [.agg #[iV (spanOf k).1.1, iV (spanOf k).1.2], iV x]) (ob := []) (by as_aux_lemma => kernel_rfl) An enters70 (span_has (spanOf k).1.1 (spanOf k).1.2 x w3  ) ?_
 clear hf; rintro _ w4 a ⟨rfl, hk⟩ hf
 have hM := hM.keepNn hk
 have hk0 := hk0.trans hk.nn
 clear hk
 refine q0 hf hM [23, 4, 1] [{}, {}] (env' := [(23, eB (!(decide (x ≥ (spanOf k).1.1) && decide (x ≤ (spanOf k).1.2)))), (4, eP (B3 + 1) 0), (1, eP B1 0)]) (ob := []) An ?_
 clear hf; intro a hf
 have hf := hf.prune [23, 4, 1]
 replace hf : Fr 31 [(23, eB (!(decide (x ≥ (spanOf k).1.1) && decide (x ≤ (spanOf k).1.2)))), (4, eP (B3 + 1) 0), (1, eP B1 0)] a := hf
 replace hf := hf.conv (env' := [(23, eB false), (4, eP (B3 + 1) 0), (1, eP B1 0)]) (Ac (congrArg Value.bool (by simp [hs1] : (!(decide (x ≥ (spanOf k).1.1) && decide (x ≤ (spanOf k).1.2)) : Bool) = false)) (Ac rfl (Ao rfl)))
 refine q0 hf hM [26, 24, 23] [{ os := [.ld 2 0, .ld 2 1] }, {}, { os := [.ld 0 2] }] (env' := [(26, eI y), (24, .val (.agg #[iV (spanOf k).2.1, iV (spanOf k).2.2])), (23, eB false)]) (ob := [false = false, Ad (B3 + 1) 0, Ad (B3 + 1) 1, false = false, false = false, Ad B1 2]) (Ac rfl (Ac (ad _ _) (Ac (ad _ _) (Ac rfl (Ac rfl (Ao (ad _ _))))))) ?_
 clear hf; intro a hf
 refine sxcallg hf rfl rfl rfl rfl rfl (g := 70) (vs := [.agg #[iV (spanOf k).2.1, iV (spanOf k).2.2], iV y]) (ob := []) (by as_aux_lemma => kernel_rfl) An enters70 (span_has (spanOf k).2.1 (spanOf k).2.2 y w4  ) ?_
 clear hf; rintro _ w5 a ⟨rfl, hk⟩ hf
 have hM := hM.keepNn hk
 have hk0 := hk0.trans hk.nn
 clear hk
 refine q0 hf hM [17] [{}, {}, {}] (env' := [(17, eB (!(decide (y ≥ (spanOf k).2.1) && decide (y ≤ (spanOf k).2.2))))]) (ob := [false = false]) (Ao rfl) ?_
 clear hf; intro a hf
 refine wpList_nil ?_
 refine hK5 _ _ ?_
 refine sxcond hf (b := !(decide (y ≥ (spanOf k).2.1) && decide (y ≤ (spanOf k).2.2))) (by kernel_rfl) (fun h => absurd (h.symm.trans (by simp [hs2] : (!(decide (y ≥ (spanOf k).2.1) && decide (y ≤ (spanOf k).2.2)) : Bool) = false)) (by simp)) (fun _ => ?_)
 refine wp_skip ?_
 refine hK3 _ _ ?_
 refine wp_seq_k (fun K6 hK6 => ?_)
 refine wp_region_lit ?_
 refine q0 hf hM [2] [{}] (env' := [(2, .val (.nilIface))]) (ob := []) An ?_
 clear hf; intro a hf
 refine wpList_nil ?_
 refine hK6 _ _ ?_
 refine wp_ret ?_
 refine qr (fn := Tryd.f31) hf hM [] (l := [.nilIface]) (ob := []) An ?_
 show (.nilIface : Value) = .nilIface ∧ Keep Nn w w5
 exact ⟨rfl, hk0⟩

set_option maxRecDepth 10000 in
set_option maxHeartbeats 1600000 in
theorem scheck_range (E : Nat → Addr) (k x y : Int) (w : World) (hn0 : (vkind ⟨k, x, y⟩) = true) (hn1 : (vrange ⟨k, x, y⟩) = false) (hG : Errs [0, 3, 4] w 185 E) :
    Calls Tryd.prog 31 #[.agg #[iV k, iV x, iV y]] w (Ret fun v w' => v = .iface 185 (.pointer (some (E 0))) ∧ Keep Nn w w') := by
 refine sxenter (n := 31) (args := [.agg #[iV k, iV x, iV y]]) Tryd.func31 rfl rfl rfl fun a hf => ?_
 replace hf : Fr 31 [(0, .val (.agg #[iV k, iV x, iV y]))] a := hf
 have hM : MemOk [] w := MemOk.nil w
 have hk0 : Keep Nn w w := Keep.refl _ _
 have hkk : decide (0 ≤ k ∧ k ≤ 9) = true := hn0
 have hvr := hn1
 rw [vrange_span] at hvr
 have hvr := of_decide_eq_false hvr
 refine wp_seq_k (fun K1 hK1 => ?_)
 refine wp_region_lit ?_
 refine q1 hf hM [1] [{ os := [.nw] }, {}] (env' := fun B1 => [(1, eP B1 0)]) (M' := fun B1 => [⟨B1, 62, [iV k, iV x, iV y]⟩]) (ob := fun B1 => []) (fun B1 => An) ?_
 clear hf hM; intro a w1 B1 hf hM hB hk
 have hbB1 : w.heap.size ≤ B1 := by have := hk0.size; omega
 have hk0 := hk0.then hk (by intro i _ h; cases h)
 clear hk hB
 refine wpList_nil ?_
 refine hK1 _ _ ?_
 refine wp_seq_k (fun K2 hK2 => ?_)
 refine wp_region_lit ?_
 refine q0 hf hM [8, 1] [{}, { os := [.ld 0 0] }] (env' := [(8, eI k), (1, eP B1 0)]) (ob := [Ad B1 0]) (Ao (ad _ _)) ?_
 clear hf; intro a hf
 refine sxcall hf rfl rfl rfl rfl (g := 69) (vs := [iV k]) (ob := []) (by as_aux_lemma => kernel_rfl) An enters69 (ranges_ok k w1 hkk ) ?_
 clear hf; rintro _ w2 a ⟨rfl, hk⟩ hf
 have hM := hM.keepNn hk
 have hk0 := hk0.trans hk.nn
 clear hk
 refine q1 hf hM [5, 4, 3, 1] [{}, {}, {}, {}, { os := [.nw] }, { os := [.nw] }, { os := [.st 1 0, .st 1 1] }, { os := [.st 2 0, .st 2 1] }, {}] (env' := fun B3 => [(5, eB true), (4, eP (B3 + 1) 0), (3, eP B3 0), (1, eP B1 0)]) (M' := fun B3 => [⟨B1, 62, [iV k, iV x, iV y]⟩, ⟨B3, 127, [iV (spanOf k).1.1, iV (spanOf k).1.2]⟩, ⟨B3 + 1, 127, [iV (spanOf k).2.1, iV (spanOf k).2.2]⟩]) (ob := fun B3 => [Ad B3 0, Ad B3 1, Ad (B3 + 1) 0, Ad (B3 + 1) 1]) (fun B3 => (Ac (ad _ _) (Ac (ad _ _) (Ac (ad _ _) (Ao (ad _ _)))))) ?_
 clear hf hM; intro a w3 B3 hf hM hB hk
 have hbB3 : w.heap.size ≤ B3 := by have := hk0.size; omega
 have hk0 := hk0.then hk (by intro i hi h; simp only [Is, Mem.names, List.map_cons, List.map_nil, List.mem_cons, List.not_mem_nil, or_false] at h; omega)
 clear hk hB
 refine wpList_nil ?_
 refine hK2 _ _ ?_
 refine wp_seq_k (fun K3 hK3 => ?_)
 refine wp_block ?_
 refine wp_seq_k (fun K4 hK4 => ?_)
 refine wp_region_lit ?_
 refine q0 hf hM [13, 4, 3, 1] [{}, {}, {}] (env' := [(13, eB false), (4, eP (B3 + 1) 0), (3, eP B3 0), (1, eP B1 0)]) (ob := []) An ?_
 clear hf; intro a hf
 refine wpList_nil ?_
 refine hK4 _ _ ?_
 refine sxcond hf (b := false) (by kernel_rfl) (fun h => by cases h) (fun _ => ?_)
 refine wp_seq_k (fun K5 hK5 => ?_)
 refine wp_region_lit ?_
 refine q0 hf hM [20, 18, 4, 1] [{ os := [.ld 1 0, .ld 1 1] }, {}, { os := [.ld 0 1] }] (env' := [(20, eI x), (18, .val (.agg #[iV (spanOf k).1.1, iV (spanOf k).1.2])), (4, eP (B3 + 1) 0), (1, eP B1 0)]) (ob := [Ad B3 0, Ad B3 1, Ad B1 1]) (Ac (ad _ _) (Ac (ad _ _) (Ao (ad _ _)))) ?_
 clear hf; intro a hf
 refine sxcall hf rfl rfl rfl rfl (g := 70) (vs := [.agg #[iV (spanOf k).1.1, iV (spanOf k).1.2], iV x]) (ob := []) (by as_aux_lemma => kernel_rfl) An enters70 (span_has (spanOf k).1.1 (spanOf k).1.2 x w3  ) ?_
 clear hf; rintro _ w4 a ⟨rfl, hk⟩ hf
 have hM := hM.keepNn hk
 have hk0 := hk0.trans hk.nn
 clear hk
 refine q0 hf hM [23, 4, 1] [{}, {}] (env' := [(23, eB (!(decide (x ≥ (spanOf k).1.1) && decide (x ≤ (spanOf k).1.2)))), (4, eP (B3 + 1) 0), (1, eP B1 0)]) (ob := []) An ?_
 clear hf; intro a hf
 rcases Bool.eq_false_or_eq_true (!(decide (x ≥ (spanOf k).1.1) && decide (x ≤ (spanOf k).1.2))) with hg1r | hg1r
 · have hg1 := hg1r
   try simp only [Bool.or_eq_true, Bool.and_eq_true, Bool.not_eq_true', Bool.not_eq_false', Bool.or_eq_false_iff, Bool.and_eq_false_iff, decide_eq_true_eq, decide_eq_false_iff_not, beq_iff_eq, bne_iff_ne, beq_eq_false_iff_ne, bne_eq_false_iff_eq, Bool.and_true, Bool.true_and, ne_eq] at hg1
   have hf := hf.prune [23, 4, 1]
   replace hf : Fr 31 [(23, eB (!(decide (x ≥ (spanOf k).1.1) && decide (x ≤ (spanOf k).1.2)))), (4, eP (B3 + 1) 0), (1, eP B1 0)] a := hf
   replace hf := hf.conv (env' := [(23, eB true), (4, eP (B3 + 1) 0), (1, eP B1 0)]) (Ac (congrArg Value.bool hg1r) (Ac rfl (Ao rfl)))
   refine q0 hf hM [26, 24, 23] [{ g := .off }, { g := .off }, { g := .off }] (env' := [(26, .val (undef)), (24, .val (undef)), (23, eB true)]) (ob := [true = !false, true = !false, true = !false]) (Ac rfl (Ac rfl (Ao rfl))) ?_
   clear hf; intro a hf
   refine q0 hf hM [17] [{ g := .off }, { g := .off }, {}, {}] (env' := [(17, eB true)]) (ob := [true = !false, true = !false]) (Ac rfl (Ao rfl)) ?_
   clear hf; intro a hf
   refine wpList_nil ?_
   refine hK5 _ _ ?_
   refine sxcond hf (b := true) (by kernel_rfl) (fun _ => ?_) (fun h => by cases h)
   refine wp_seq_k (fun K6 hK6 => ?_)
   refine wp_region_lit ?_
   refine q0 hf hM [2] [{ os := [.ex (.iface 185 (.pointer (some (E 0))))] }, {}] (env' := [(2, .val (.iface 185 (.pointer (some (E 0)))))]) (ob := [w4.cell? ⟨0, 0, none⟩ = some (.iface 185 (.pointer (some (E 0))))]) (Ao (hk0.cell (hG.cell 0 (by decide)) (fun h => h))) ?_
   clear hf; intro a hf
   refine wpList_nil ?_
   refine hK6 _ _ ?_
   refine wp_ret ?_
   refine qr (fn := Tryd.f31) hf hM [] (l := [.iface 185 (.pointer (some (E 0)))]) (ob := []) An ?_
   show (.iface 185 (.pointer (some (E 0))) : Value) = .iface 185 (.pointer (some (E 0))) ∧ Keep Nn w w4
   exact ⟨rfl, hk0⟩
 · have hg1 := hg1r
   try simp only [Bool.or_eq_true, Bool.and_eq_true, Bool.not_eq_true', Bool.not_eq_false', Bool.or_eq_false_iff, Bool.and_eq_false_iff, decide_eq_true_eq, decide_eq_false_iff_not, beq_iff_eq, bne_iff_ne, beq_eq_false_iff_ne, bne_eq_false_iff_eq, Bool.and_true, Bool.true_and, ne_eq] at hg1
   have hf := hf.prune [23, 4, 1]
   replace hf : Fr 31 [(23, eB (!(decide (x ≥ (spanOf k).1.1) && decide (x ≤ (spanOf k).1.2)))), (4, eP (B3 + 1) 0), (1, eP B1 0)] a := hf
   replace hf := hf.conv (env' := [(23, eB false), (4, eP (B3 + 1) 0), (1, eP B1 0)]) (Ac (congrArg Value.bool hg1r) (Ac rfl (Ao rfl)))
   refine q0 hf hM [26, 24, 23] [{ os := [.ld 2 0, .ld 2 1] }, {}, { os := [.ld 0 2] }] (env' := [(26, eI y), (24, .val (.agg #[iV (spanOf k).2.1, iV (spanOf k).2.2])), (23, eB false)]) (ob := [false = false, Ad (B3 + 1) 0, Ad (B3 + 1) 1, false = false, false = false, Ad B1 2]) (Ac rfl (Ac (ad _ _) (Ac (ad _ _) (Ac rfl (Ac rfl (Ao (ad _ _))))))) ?_
   clear hf; intro a hf
   refine sxcallg hf rfl rfl rfl rfl rfl (g := 70) (vs := [.agg #[iV (spanOf k).2.1, iV (spanOf k).2.2], iV y]) (ob := []) (by as_aux_lemma => kernel_rfl) An enters70 (span_has (spanOf k).2.1 (spanOf k).2.2 y w4  ) ?_
   clear hf; rintro _ w5 a ⟨rfl, hk⟩ hf
   have hM := hM.keepNn hk
   have hk0 := hk0.trans hk.nn
   clear hk
   refine q0 hf hM [17] [{}, {}, {}] (env' := [(17, eB (!(decide (y ≥ (spanOf k).2.1) && decide (y ≤ (spanOf k).2.2))))]) (ob := [false = false]) (Ao rfl) ?_
   clear hf; intro a hf
   refine wpList_nil ?_
   refine hK5 _ _ ?_
   refine qc hf (b := !(decide (y ≥ (spanOf k).2.1) && decide (y ≤ (spanOf k).2.2))) (fun hc3r => ?_) (fun hc3r => ?_)
   · have hc3 := hc3r
     simp at hc3
     refine wp_seq_k (fun K7 hK7 => ?_)
     refine wp_region_lit ?_
     refine q0 hf hM [2] [{ os := [.ex (.iface 185 (.pointer (some (E 0))))] }, {}] (env' := [(2, .val (.iface 185 (.pointer (some (E 0)))))]) (ob := [w5.cell? ⟨0, 0, none⟩ = some (.iface 185 (.pointer (some (E 0))))]) (Ao (hk0.cell (hG.cell 0 (by decide)) (fun h => h))) ?_
     clear hf; intro a hf
     refine wpList_nil ?_
     refine hK7 _ _ ?_
     refine wp_ret ?_
     refine qr (fn := Tryd.f31) hf hM [] (l := [.iface 185 (.pointer (some (E 0)))]) (ob := []) An ?_
     show (.iface 185 (.pointer (some (E 0))) : Value) = .iface 185 (.pointer (some (E 0))) ∧ Keep Nn w w5
     exact ⟨rfl, hk0⟩
   · have hc3 := hc3r
     simp at hc3
     exfalso; omega

set_option maxRecDepth 10000 in
set_option maxHeartbeats 1600000 in
theorem rcheck (k x y : Int) (w : World) :
    Calls Tryd.prog 34 #[.agg #[iV k, iV x, iV y]] w (Ret fun v w' => v = .int .i64 (vcheck ⟨k, x, y⟩) ∧ Keep Nn w w') := by
 refine sxenter (n := 72) (args := [.agg #[iV k, iV x, iV y]]) Tryd.func34 rfl rfl rfl fun a hf => ?_
 replace hf : Fr 72 [(0, .val (.agg #[iV k, iV x, iV y]))] a := hf
 have hM : MemOk [] w := MemOk.nil w
 have hk0 : Keep Nn w w := Keep.refl _ _
 refine wp_seq_k (fun K1 hK1 => ?_)
 refine wp_region_lit ?_
 refine q1 hf hM [1] [{ os := [.nw] }, {}] (env' := fun B1 => [(1, eP B1 0)]) (M' := fun B1 => [⟨B1, 62, [iV k, iV x, iV y]⟩]) (ob := fun B1 => []) (fun B1 => An) ?_
 clear hf hM; intro a w1 B1 hf hM hB hk
 have hbB1 : w.heap.size ≤ B1 := by have := hk0.size; omega
 have hk0 := hk0.then hk (by intro i _ h; cases h)
 clear hk hB
 refine wpList_nil ?_
 refine hK1 _ _ ?_
 refine wp_seq_k (fun K2 hK2 => ?_)
 refine wp_region_lit ?_
 refine q0 hf hM [1] [{}] (env' := [(1, eP B1 0)]) (ob := []) An ?_
 clear hf; intro a hf
 refine wpList_nil ?_
 refine hK2 _ _ ?_
 refine wp_seq_k (fun K3 hK3 => ?_)
 refine wp_seq_k (fun K4 hK4 => ?_)
 refine wp_region_lit ?_
 refine q0 hf hM [5, 1] [{}, { os := [.ld 0 0] }] (env' := [(5, eI k), (1, eP B1 0)]) (ob := [Ad B1 0]) (Ao (ad _ _)) ?_
 clear hf; intro a hf
 refine wpList_nil ?_
 refine hK4 _ _ ?_
 refine wp_block ?_
 refine wp_seq_k (fun K5 hK5 => ?_)
 refine wp_seq_k (fun K6 hK6 => ?_)
 refine wp_region_lit ?_
 refine q0 hf hM [6, 5, 1] [{}, {}] (env' := [(6, eB ((k : Int) == 0)), (5, eI k), (1, eP B1 0)]) (ob := []) An ?_
 clear hf; intro a hf
 refine wpList_nil ?_
 refine hK6 _ _ ?_
 refine qc hf (b := ((k : Int) == 0)) (fun hc1r => ?_) (fun hc1r => ?_)
 · have hc1 := (nE hc1r)
   refine wp_skip ?_
   refine hK5 _ _ ?_
   refine sxcond hf (b := ((k : Int) == 0)) (by kernel_rfl) (fun _ => ?_) (fun h => absurd h (by rw [hc1r]; simp))
   refine wp_region_lit ?_
   refine q0 hf hM [10, 1] [{}, { os := [.ld 0 1] }] (env' := [(10, eI x), (1, eP B1 0)]) (ob := [Ad B1 1]) (Ao (ad _ _)) ?_
   clear hf; intro a hf
   refine sxcall hf rfl rfl rfl rfl (g := 72) (vs := [iV x, iV (-1048576), iV 1048576]) (ob := []) (by as_aux_lemma => kernel_rfl) An enters72 (rin6 x (-1048576) 1048576 w1  ) ?_
   clear hf; rintro _ w2 a ⟨rfl, hk⟩ hf
   have hM := hM.keepNn hk
   have hk0 := hk0.trans hk.nn
   clear hk
   refine q0 hf hM [12, 1] [{}] (env' := [(12, eB (decide ((-1048576) ≤ x) && decide (x ≤ 1048576))), (1, eP B1 0)]) (ob := []) An ?_
   clear hf; intro a hf
   rcases Bool.eq_false_or_eq_true (decide ((-1048576) ≤ x) && decide (x ≤ 1048576)) with hg1r | hg1r
   · have hg1 := hg1r
     try simp only [Bool.or_eq_true, Bool.and_eq_true, Bool.not_eq_true', Bool.not_eq_false', Bool.or_eq_false_iff, Bool.and_eq_false_iff, decide_eq_true_eq, decide_eq_false_iff_not, beq_iff_eq, bne_iff_ne, beq_eq_false_iff_ne, bne_eq_false_iff_eq, Bool.and_true, Bool.true_and, ne_eq] at hg1
     have hf := hf.prune [12, 1]
     replace hf : Fr 72 [(12, eB (decide ((-1048576) ≤ x) && decide (x ≤ 1048576))), (1, eP B1 0)] a := hf
     replace hf := hf.conv (env' := [(12, eB true), (1, eP B1 0)]) (Ac (congrArg Value.bool hg1r) (Ao rfl))
     refine q0 hf hM [14, 12] [{}, { os := [.ld 0 2] }] (env' := [(14, eI y), (12, eB true)]) (ob := [true = true, true = true, Ad B1 2]) (Ac rfl (Ac rfl (Ao (ad _ _)))) ?_
     clear hf; intro a hf
     refine sxcallg hf rfl rfl rfl rfl rfl (g := 72) (vs := [iV y, iV (-1048576), iV 1048576]) (ob := []) (by as_aux_lemma => kernel_rfl) An enters72 (rin6 y (-1048576) 1048576 w2  ) ?_
     clear hf; rintro _ w3 a ⟨rfl, hk⟩ hf
     have hM := hM.keepNn hk
     have hk0 := hk0.trans hk.nn
     clear hk
     refine q0 hf hM [3] [{}, {}] (env' := [(3, eB (decide ((-1048576) ≤ y) && decide (y ≤ 1048576)))]) (ob := []) An ?_
     clear hf; intro a hf
     refine wpList_nil ?_
     refine hK3 _ _ ?_
     refine wp_seq_k (fun K7 hK7 => ?_)
     refine wp_seq_k (fun K8 hK8 => ?_)
     refine wp_region_lit ?_
     refine q0 hf hM [71] [{}, {}] (env' := [(71, eB (!(decide ((-1048576) ≤ y) && decide (y ≤ 1048576))))]) (ob := []) An ?_
     clear hf; intro a hf
     refine wpList_nil ?_
     refine hK8 _ _ ?_
     refine qc hf (b := !(decide ((-1048576) ≤ y) && decide (y ≤ 1048576))) (fun hc3r => ?_) (fun hc3r => ?_)
     · have hc3 := hc3r
       try simp only [Bool.or_eq_true, Bool.and_eq_true, Bool.not_eq_true', Bool.not_eq_false', Bool.or_eq_false_iff, Bool.and_eq_false_iff, decide_eq_true_eq, decide_eq_false_iff_not, beq_iff_eq, bne_iff_ne, beq_eq_false_iff_ne, bne_eq_false_iff_eq, Bool.and_true, Bool.true_and, ne_eq] at hc3
       refine wp_seq_k (fun K9 hK9 => ?_)
       refine wp_region_lit ?_
       refine q0 hf hM [2] [{}] (env' := [(2, eI 1)]) (ob := []) An ?_
       clear hf; intro a hf
       refine wpList_nil ?_
       refine hK9 _ _ ?_
       refine wp_ret ?_
       refine qr (fn := Tryd.f34) hf hM [] (l := [iV 1]) (ob := []) An ?_
       show (iV 1 : Value) = .int .i64 (vcheck ⟨k, x, y⟩) ∧ Keep Nn w w3
       refine ⟨congrArg _ ?_, hk0⟩
       rw [vcheck_eq]
       repeat' split
       all_goals first | rfl | (exfalso; omega)
     · have hc3 := hc3r
       try simp only [Bool.or_eq_true, Bool.and_eq_true, Bool.not_eq_true', Bool.not_eq_false', Bool.or_eq_false_iff, Bool.and_eq_false_iff, decide_eq_true_eq, decide_eq_false_iff_not, beq_iff_eq, bne_iff_ne, beq_eq_false_iff_ne, bne_eq_false_iff_eq, Bool.and_true, Bool.true_and, ne_eq] at hc3
       refine wp_skip ?_
       refine hK7 _ _ ?_
       refine wp_seq_k (fun K10 hK10 => ?_)
       refine wp_region_lit ?_
       refine q0 hf hM [2] [{}] (env' := [(2, eI 0)]) (ob := []) An ?_
       clear hf; intro a hf
       refine wpList_nil ?_
       refine hK10 _ _ ?_
       refine wp_ret ?_
       refine qr (fn := Tryd.f34) hf hM [] (l := [iV 0]) (ob := []) An ?_
       show (iV 0 : Value) = .int .i64 (vcheck ⟨k, x, y⟩) ∧ Keep Nn w w3
       refine ⟨congrArg _ ?_, hk0⟩
       rw [vcheck_eq]
       repeat' split
       all_goals first | rfl | (exfalso; omega)
   · have hg1 := hg1r
     try simp only [Bool.or_eq_true, Bool.and_eq_true, Bool.not_eq_true', Bool.not_eq_false', Bool.or_eq_false_iff, Bool.and_eq_false_iff, decide_eq_true_eq, decide_eq_false_iff_not, beq_iff_eq, bne_iff_ne, beq_eq_false_iff_ne, bne_eq_false_iff_eq, Bool.and_true, Bool.true_and, ne_eq] at hg1
     have hf := hf.prune [12, 1]
     replace hf : Fr 72 [(12, eB (decide ((-1048576) ≤ x) && decide (x ≤ 1048576))), (1, eP B1 0)] a := hf
     replace hf := hf.conv (env' := [(12, eB false), (1, eP B1 0)]) (Ac (congrArg Value.bool hg1r) (Ao rfl))
     refine q0 hf hM [14, 12] [{ g := .off }, { g := .off }] (env' := [(14, .val (undef)), (12, eB false)]) (ob := [false = !true, false = !true]) (Ac rfl (Ao rfl)) ?_
     clear hf; intro a hf
     refine q0 hf hM [3] [{ g := .off }, {}, {}] (env' := [(3, eB false)]) (ob := [false = !true]) (Ao rfl) ?_
     clear hf; intro a hf
     refine wpList_nil ?_
     refine hK3 _ _ ?_
     refine wp_seq_k (fun K11 hK11 => ?_)
     refine wp_seq_k (fun K12 hK12 => ?_)
     refine wp_region_lit ?_
     refine q0 hf hM [71] [{}, {}] (env' := [(71, eB true)]) (ob := []) An ?_
     clear hf; intro a hf
     refine wpList_nil ?_
     refine hK12 _ _ ?_
     refine sxcond hf (b := true) (by kernel_rfl) (fun _ => ?_) (fun h => by cases h)
     refine wp_seq_k (fun K13 hK13 => ?_)
     refine wp_region_lit ?_
     refine q0 hf hM [2] [{}] (env' := [(2, eI 1)]) (ob := []) An ?_
     clear hf; intro a hf
     refine wpList_nil ?_
     refine hK13 _ _ ?_
     refine wp_ret ?_
     refine qr (fn := Tryd.f34) hf hM [] (l := [iV 1]) (ob := []) An ?_
     show (iV 1 : Value) = .int .i64 (vcheck ⟨k, x, y⟩) ∧ Keep Nn w w2
     refine ⟨congrArg _ ?_, hk0⟩
     rw [vcheck_eq]
     repeat' split
     all_goals first | rfl | (exfalso; omega)
 · have hc1 := (nF hc1r)
   refine wp_region_lit ?_
   refine q0 hf hM [6, 5, 1] [{}, {}] (env' := [(6, eB ((k : Int) == 2)), (5, eI k), (1, eP B1 0)]) (ob := []) An ?_
   clear hf; intro a hf
   refine wpList_nil ?_
   refine hK5 _ _ ?_
   refine qc hf (b := ((k : Int) == 2)) (fun hc5r => ?_) (fun hc5r => ?_)
   · have hc5 := (nE hc5r)
     refine wp_region_lit ?_
     refine q0 hf hM [10, 1] [{}, { os := [.ld 0 1] }] (env' := [(10, eI x), (1, eP B1 0)]) (ob := [Ad B1 1]) (Ao (ad _ _)) ?_
     clear hf; intro a hf
     refine sxcall hf rfl rfl rfl rfl (g := 72) (vs := [iV x, iV (-1048576), iV 1048576]) (ob := []) (by as_aux_lemma => kernel_rfl) An enters72 (rin6 x (-1048576) 1048576 w1  ) ?_
     clear hf; rintro _ w4 a ⟨rfl, hk⟩ hf
     have hM := hM.keepNn hk
     have hk0 := hk0.trans hk.nn
     clear hk
     refine q0 hf hM [12, 1] [{}] (env' := [(12, eB (decide ((-1048576) ≤ x) && decide (x ≤ 1048576))), (1, eP B1 0)]) (ob := []) An ?_
     clear hf; intro a hf
     rcases Bool.eq_false_or_eq_true (decide ((-1048576) ≤ x) && decide (x ≤ 1048576)) with hg2r | hg2r
     · have hg2 := hg2r
       try simp only [Bool.or_eq_true, Bool.and_eq_true, Bool.not_eq_true', Bool.not_eq_false', Bool.or_eq_false_iff, Bool.and_eq_false_iff, decide_eq_true_eq, decide_eq_false_iff_not, beq_iff_eq, bne_iff_ne, beq_eq_false_iff_ne, bne_eq_false_iff_eq, Bool.and_true, Bool.true_and, ne_eq] at hg2
       have hf := hf.prune [12, 1]
       replace hf : Fr 72 [(12, eB (decide ((-1048576) ≤ x) && decide (x ≤ 1048576))), (1, eP B1 0)] a := hf
       replace hf := hf.conv (env' := [(12, eB true), (1, eP B1 0)]) (Ac (congrArg Value.bool hg2r) (Ao rfl))
       refine q0 hf hM [14, 12] [{}, { os := [.ld 0 2] }] (env' := [(14, eI y), (12, eB true)]) (ob := [true = true, true = true, Ad B1 2]) (Ac rfl (Ac rfl (Ao (ad _ _)))) ?_
       clear hf; intro a hf
       refine sxcallg hf rfl rfl rfl rfl rfl (g := 72) (vs := [iV y, iV (-1048576), iV 1048576]) (ob := []) (by as_aux_lemma => kernel_rfl) An enters72 (rin6 y (-1048576) 1048576 w4  ) ?_
       clear hf; rintro _ w5 a ⟨rfl, hk⟩ hf
       have hM := hM.keepNn hk
       have hk0 := hk0.trans hk.nn
       clear hk
       refine q0 hf hM [3] [{}, {}] (env' := [(3, eB (decide ((-1048576) ≤ y) && decide (y ≤ 1048576)))]) (ob := []) An ?_
       clear hf; intro a hf
       refine wpList_nil ?_
       refine hK3 _ _ ?_
       refine wp_seq_k (fun K14 hK14 => ?_)
       refine wp_seq_k (fun K15 hK15 => ?_)
       refine wp_region_lit ?_
       refine q0 hf hM [71] [{}, {}] (env' := [(71, eB (!(decide ((-1048576) ≤ y) && decide (y ≤ 1048576))))]) (ob := []) An ?_
       clear hf; intro a hf
       refine wpList_nil ?_
       refine hK15 _ _ ?_
       refine qc hf (b := !(decide ((-1048576) ≤ y) && decide (y ≤ 1048576))) (fun hc6r => ?_) (fun hc6r => ?_)
       · have hc6 := hc6r
         try simp only [Bool.or_eq_true, Bool.and_eq_true, Bool.not_eq_true', Bool.not_eq_false', Bool.or_eq_false_iff, Bool.and_eq_false_iff, decide_eq_true_eq, decide_eq_false_iff_not, beq_iff_eq, bne_iff_ne, beq_eq_false_iff_ne, bne_eq_false_iff_eq, Bool.and_true, Bool.true_and, ne_eq] at hc6
         refine wp_seq_k (fun K16 hK16 => ?_)
         refine wp_region_lit ?_
         refine q0 hf hM [2] [{}] (env' := [(2, eI 1)]) (ob := []) An ?_
         clear hf; intro a hf
         refine wpList_nil ?_
         refine hK16 _ _ ?_
         refine wp_ret ?_
         refine qr (fn := Tryd.f34) hf hM [] (l := [iV 1]) (ob := []) An ?_
         show (iV 1 : Value) = .int .i64 (vcheck ⟨k, x, y⟩) ∧ Keep Nn w w5
         refine ⟨congrArg _ ?_, hk0⟩
         rw [vcheck_eq]
         repeat' split
         all_goals first | rfl | (exfalso; omega)
       · have hc6 := hc6r
         try simp only [Bool.or_eq_true, Bool.and_eq_true, Bool.not_eq_true', Bool.not_eq_false', Bool.or_eq_false_iff, Bool.and_eq_false_iff, decide_eq_true_eq, decide_eq_false_iff_not, beq_iff_eq, bne_iff_ne, beq_eq_false_iff_ne, bne_eq_false_iff_eq, Bool.and_true, Bool.true_and, ne_eq] at hc6
         refine wp_skip ?_
         refine hK14 _ _ ?_
         refine wp_seq_k (fun K17 hK17 => ?_)
         refine wp_region_lit ?_
         refine q0 hf hM [2] [{}] (env' := [(2, eI 0)]) (ob := []) An ?_
         clear hf; intro a hf
         refine wpList_nil ?_
         refine hK17 _ _ ?_
         refine wp_ret ?_
         refine qr (fn := Tryd.f34) hf hM [] (l := [iV 0]) (ob := []) An ?_
         show (iV 0 : Value) = .int .i64 (vcheck ⟨k, x, y⟩) ∧ Keep Nn w w5
         refine ⟨congrArg _ ?_, hk0⟩
         rw [vcheck_eq]
         repeat' split
         all_goals first | rfl | (exfalso; omega)
     · have hg2 := hg2r
       try simp only [Bool.or_eq_true, Bool.and_eq_true, Bool.not_eq_true', Bool.not_eq_false', Bool.or_eq_false_iff, Bool.and_eq_false_iff, decide_eq_true_eq, decide_eq_false_iff_not, beq_iff_eq, bne_iff_ne, beq_eq_false_iff_ne, bne_eq_false_iff_eq, Bool.and_true, Bool.true_and, ne_eq] at hg2
       have hf := hf.prune [12, 1]
       replace hf : Fr 72 [(12, eB (decide ((-1048576) ≤ x) && decide (x ≤ 1048576))), (1, eP B1 0)] a := hf
       replace hf := hf.conv (env' := [(12, eB false), (1, eP B1 0)]) (Ac (congrArg Value.bool hg2r) (Ao rfl))
       refine q0 hf hM [14, 12] [{ g := .off }, { g := .off }] (env' := [(14, .val (undef)), (12, eB false)]) (ob := [false = !true, false = !true]) (Ac rfl (Ao rfl)) ?_
       clear hf; intro a hf
       refine q0 hf hM [3] [{ g := .off }, {}, {}] (env' := [(3, eB false)]) (ob := [false = !true]) (Ao rfl) ?_
       clear hf; intro a hf
       refine wpList_nil ?_
       refine hK3 _ _ ?_
       refine wp_seq_k (fun K18 hK18 => ?_)
       refine wp_seq_k (fun K19 hK19 => ?_)
       refine wp_region_lit ?_
       refine q0 hf hM [71] [{}, {}] (env' := [(71, eB true)]) (ob := []) An ?_
       clear hf; intro a hf
       refine wpList_nil ?_
       refine hK19 _ _ ?_
       refine sxcond hf (b := true) (by kernel_rfl) (fun _ => ?_) (fun h => by cases h)
       refine wp_seq_k (fun K20 hK20 => ?_)
       refine wp_region_lit ?_
       refine q0 hf hM [2] [{}] (env' := [(2, eI 1)]) (ob := []) An ?_
       clear hf; intro a hf
       refine wpList_nil ?_
       refine hK20 _ _ ?_
       refine wp_ret ?_
       refine qr (fn := Tryd.f34) hf hM [] (l := [iV 1]) (ob := []) An ?_
       show (iV 1 : Value) = .int .i64 (vcheck ⟨k, x, y⟩) ∧ Keep Nn w w4
       refine ⟨congrArg _ ?_, hk0⟩
       rw [vcheck_eq]
       repeat' split
       all_goals first | rfl | (exfalso; omega)
   · have hc5 := (nF hc5r)
     refine wp_seq_k (fun K21 hK21 => ?_)
     refine wp_region_lit ?_
     refine q0 hf hM [17, 5, 1] [{}, {}] (env' := [(17, eB ((k : Int) == 1)), (5, eI k), (1, eP B1 0)]) (ob := []) An ?_
     clear hf; intro a hf
     refine wpList_nil ?_
     refine hK21 _ _ ?_
     refine qc hf (b := ((k : Int) == 1)) (fun hc8r => ?_) (fun hc8r => ?_)
     · have hc8 := (nE hc8r)
       refine wp_region_lit ?_
       refine q0 hf hM [20, 1] [{}, { os := [.ld 0 1] }] (env' := [(20, eI x), (1, eP B1 0)]) (ob := [Ad B1 1]) (Ao (ad _ _)) ?_
       clear hf; intro a hf
       refine sxcall hf rfl rfl rfl rfl (g := 72) (vs := [iV x, iV 0, iV 1048576]) (ob := []) (by as_aux_lemma => kernel_rfl) An enters72 (rin6 x 0 1048576 w1  ) ?_
       clear hf; rintro _ w6 a ⟨rfl, hk⟩ hf
       have hM := hM.keepNn hk
       have hk0 := hk0.trans hk.nn
       clear hk
       refine q0 hf hM [22, 1] [{}] (env' := [(22, eB (decide (0 ≤ x) && decide (x ≤ 1048576))), (1, eP B1 0)]) (ob := []) An ?_
       clear hf; intro a hf
       rcases Bool.eq_false_or_eq_true (decide (0 ≤ x) && decide (x ≤ 1048576)) with hg3r | hg3r
       · have hg3 := hg3r
         try simp only [Bool.or_eq_true, Bool.and_eq_true, Bool.not_eq_true', Bool.not_eq_false', Bool.or_eq_false_iff, Bool.and_eq_false_iff, decide_eq_true_eq, decide_eq_false_iff_not, beq_iff_eq, bne_iff_ne, beq_eq_false_iff_ne, bne_eq_false_iff_eq, Bool.and_true, Bool.true_and, ne_eq] at hg3
         have hf := hf.prune [22, 1]
         replace hf : Fr 72 [(22, eB (decide (0 ≤ x) && decide (x ≤ 1048576))), (1, eP B1 0)] a := hf
         replace hf := hf.conv (env' := [(22, eB true), (1, eP B1 0)]) (Ac (congrArg Value.bool hg3r) (Ao rfl))
         refine q0 hf hM [24, 22] [{}, { os := [.ld 0 2] }] (env' := [(24, eI y), (22, eB true)]) (ob := [true = true, true = true, Ad B1 2]) (Ac rfl (Ac rfl (Ao (ad _ _)))) ?_
         clear hf; intro a hf
         refine sxcallg hf rfl rfl rfl rfl rfl (g := 72) (vs := [iV y, iV 0, iV 1048576]) (ob := []) (by as_aux_lemma => kernel_rfl) An enters72 (rin6 y 0 1048576 w6  ) ?_
         clear hf; rintro _ w7 a ⟨rfl, hk⟩ hf
         have hM := hM.keepNn hk
         have hk0 := hk0.trans hk.nn
         clear hk
         refine q0 hf hM [3] [{}, {}] (env' := [(3, eB (decide (0 ≤ y) && decide (y ≤ 1048576)))]) (ob := []) An ?_
         clear hf; intro a hf
         refine wpList_nil ?_
         refine hK3 _ _ ?_
         refine wp_seq_k (fun K22 hK22 => ?_)
         refine wp_seq_k (fun K23 hK23 => ?_)
         refine wp_region_lit ?_
         refine q0 hf hM [71] [{}, {}] (env' := [(71, eB (!(decide (0 ≤ y) && decide (y ≤ 1048576))))]) (ob := []) An ?_
         clear hf; intro a hf
         refine wpList_nil ?_
         refine hK23 _ _ ?_
         refine qc hf (b := !(decide (0 ≤ y) && decide (y ≤ 1048576))) (fun hc9r => ?_) (fun hc9r => ?_)
         · have hc9 := hc9r
           try simp only [Bool.or_eq_true, Bool.and_eq_true, Bool.not_eq_true', Bool.not_eq_false', Bool.or_eq_false_iff, Bool.and_eq_false_iff, decide_eq_true_eq, decide_eq_false_iff_not, beq_iff_eq, bne_iff_ne, beq_eq_false_iff_ne, bne_eq_false_iff_eq, Bool.and_true, Bool.true_and, ne_eq] at hc9
           refine wp_seq_k (fun K24 hK24 => ?_)
           refine wp_region_lit ?_
           refine q0 hf hM [2] [{}] (env' := [(2, eI 1)]) (ob := []) An ?_
           clear hf; intro a hf
           refine wpList_nil ?_
           refine hK24 _ _ ?_
           refine wp_ret ?_
           refine qr (fn := Tryd.f34) hf hM [] (l := [iV 1]) (ob := []) An ?_
           show (iV 1 : Value) = .int .i64 (vcheck ⟨k, x, y⟩) ∧ Keep Nn w w7
           refine ⟨congrArg _ ?_, hk0⟩
           rw [vcheck_eq]
           repeat' split
           all_goals first | rfl | (exfalso; omega)
         · have hc9 := hc9r
           try simp only [Bool.or_eq_true, Bool.and_eq_true, Bool.not_eq_true', Bool.not_eq_false', Bool.or_eq_false_iff, Bool.and_eq_false_iff, decide_eq_true_eq, decide_eq_false_iff_not, beq_iff_eq, bne_iff_ne, beq_eq_false_iff_ne, bne_eq_false_iff_eq, Bool.and_true, Bool.true_and, ne_eq] at hc9
           refine wp_skip ?_
           refine hK22 _ _ ?_
           refine wp_seq_k (fun K25 hK25 => ?_)
           refine wp_region_lit ?_
           refine q0 hf hM [2] [{}] (env' := [(2, eI 0)]) (ob := []) An ?_
           clear hf; intro a hf
           refine wpList_nil ?_
           refine hK25 _ _ ?_
           refine wp_ret ?_
           refine qr (fn := Tryd.f34) hf hM [] (l := [iV 0]) (ob := []) An ?_
           show (iV 0 : Value) = .int .i64 (vcheck ⟨k, x, y⟩) ∧ Keep Nn w w7
           refine ⟨congrArg _ ?_, hk0⟩
           rw [vcheck_eq]
           repeat' split
           all_goals first | rfl | (exfalso; omega)
       · have hg3 := hg3r
         try simp only [Bool.or_eq_true, Bool.and_eq_true, Bool.not_eq_true', Bool.not_eq_false', Bool.or_eq_false_iff, Bool.and_eq_false_iff, decide_eq_true_eq, decide_eq_false_iff_not, beq_iff_eq, bne_iff_ne, beq_eq_false_iff_ne, bne_eq_false_iff_eq, Bool.and_true, Bool.true_and, ne_eq] at hg3
         have hf := hf.prune [22, 1]
         replace hf : Fr 72 [(22, eB (decide (0 ≤ x) && decide (x ≤ 1048576))), (1, eP B1 0)] a := hf
         replace hf := hf.conv (env' := [(22, eB false), (1, eP B1 0)]) (Ac (congrArg Value.bool hg3r) (Ao rfl))
         refine q0 hf hM [24, 22] [{ g := .off }, { g := .off }] (env' := [(24, .val (undef)), (22, eB false)]) (ob := [false = !true, false = !true]) (Ac rfl (Ao rfl)) ?_
         clear hf; intro a hf
         refine q0 hf hM [3] [{ g := .off }, {}, {}] (env' := [(3, eB false)]) (ob := [false = !true]) (Ao rfl) ?_
         clear hf; intro a hf
         refine wpList_nil ?_
         refine hK3 _ _ ?_
         refine wp_seq_k (fun K26 hK26 => ?_)
         refine wp_seq_k (fun K27 hK27 => ?_)
         refine wp_region_lit ?_
         refine q0 hf hM [71] [{}, {}] (env' := [(71, eB true)]) (ob := []) An ?_
         clear hf; intro a hf
         refine wpList_nil ?_
         refine hK27 _ _ ?_
         refine sxcond hf (b := true) (by kernel_rfl) (fun _ => ?_) (fun h => by cases h)
         refine wp_seq_k (fun K28 hK28 => ?_)
         refine wp_region_lit ?_
         refine q0 hf hM [2] [{}] (env' := [(2, eI 1)]) (ob := []) An ?_
         clear hf; intro a hf
         refine wpList_nil ?_
         refine hK28 _ _ ?_
         refine wp_ret ?_
         refine qr (fn := Tryd.f34) hf hM [] (l := [iV 1]) (ob := []) An ?_
         show (iV 1 : Value) = .int .i64 (vcheck ⟨k, x, y⟩) ∧ Keep Nn w w6
         refine ⟨congrArg _ ?_, hk0⟩
         rw [vcheck_eq]
         repeat' split
         all_goals first | rfl | (exfalso; omega)
     · have hc8 := (nF hc8r)
       refine wp_seq_k (fun K29 hK29 => ?_)
       refine wp_region_lit ?_
       refine q0 hf hM [27, 5, 1] [{}, {}] (env' := [(27, eB ((k : Int) == 3)), (5, eI k), (1, eP B1 0)]) (ob := []) An ?_
       clear hf; intro a hf
       refine wpList_nil ?_
       refine hK29 _ _ ?_
       refine qc hf (b := ((k : Int) == 3)) (fun hc11r => ?_) (fun hc11r => ?_)
       · have hc11 := (nE hc11r)
         refine wp_region_lit ?_
         refine q0 hf hM [3] [{}, { os := [.ld 0 1] }, {}, {}, { g := .sym }, { g := .sym, os := [.ld 0 2] }, { g := .sym }, { hint := some (bV (((x : Int) == 0) && ((y : Int) == 0))) }, {}] (env' := [(3, eB (((x : Int) == 0) && ((y : Int) == 0)))]) (ob := [Ad B1 1, (((x : Int) == 0) = true → ((x : Int) == 0) = ((x : Int) == 0)), (((x : Int) == 0) = true → Ad B1 2), (((x : Int) == 0) = true → ((x : Int) == 0) = ((x : Int) == 0)), (((x : Int) == 0) = true → ((x : Int) == 0) = ((x : Int) == 0)), (bif ((x : Int) == 0) then (bV ((y : Int) == 0) : Value) else bV false) = .bool (((x : Int) == 0) && ((y : Int) == 0))]) (Ac (ad _ _) (Ac (fun hgd => rfl) (Ac (fun hgd => ad _ _) (Ac (fun hgd => rfl) (Ac (fun _ => rfl) (Ao (pick_and _ _))))))) ?_
         clear hf; intro a hf
         refine wpList_nil ?_
         refine hK3 _ _ ?_
         refine wp_seq_k (fun K30 hK30 => ?_)
         refine wp_seq_k (fun K31 hK31 => ?_)
         refine wp_region_lit ?_
         refine q0 hf hM [71] [{}, {}] (env' := [(71, eB (!(((x : Int) == 0) && ((y : Int) == 0))))]) (ob := []) An ?_
         clear hf; intro a hf
         refine wpList_nil ?_
         refine hK31 _ _ ?_
         refine qc hf (b := !(((x : Int) == 0) && ((y : Int) == 0))) (fun hc12r => ?_) (fun hc12r => ?_)
         · have hc12 := hc12r
           try simp only [Bool.or_eq_true, Bool.and_eq_true, Bool.not_eq_true', Bool.not_eq_false', Bool.or_eq_false_iff, Bool.and_eq_false_iff, decide_eq_true_eq, decide_eq_false_iff_not, beq_iff_eq, bne_iff_ne, beq_eq_false_iff_ne, bne_eq_false_iff_eq, Bool.and_true, Bool.true_and, ne_eq] at hc12
           refine wp_seq_k (fun K32 hK32 => ?_)
           refine wp_region_lit ?_
           refine q0 hf hM [2] [{}] (env' := [(2, eI 1)]) (ob := []) An ?_
           clear hf; intro a hf
           refine wpList_nil ?_
           refine hK32 _ _ ?_
           refine wp_ret ?_
           refine qr (fn := Tryd.f34) hf hM [] (l := [iV 1]) (ob := []) An ?_
           show (iV 1 : Value) = .int .i64 (vcheck ⟨k, x, y⟩) ∧ Keep Nn w w1
           refine ⟨congrArg _ ?_, hk0⟩
           rw [vcheck_eq]
           repeat' split
           all_goals first | rfl | (exfalso; omega)
         · have hc12 := hc12r
           try simp only [Bool.or_eq_true, Bool.and_eq_true, Bool.not_eq_true', Bool.not_eq_false', Bool.or_eq_false_iff, Bool.and_eq_false_iff, decide_eq_true_eq, decide_eq_false_iff_not, beq_iff_eq, bne_iff_ne, beq_eq_false_iff_ne, bne_eq_false_iff_eq, Bool.and_true, Bool.true_and, ne_eq] at hc12
           refine wp_skip ?_
           refine hK30 _ _ ?_
           refine wp_seq_k (fun K33 hK33 => ?_)
           refine wp_region_lit ?_
           refine q0 hf hM [2] [{}] (env' := [(2, eI 0)]) (ob := []) An ?_
           clear hf; intro a hf
           refine wpList_nil ?_
           refine hK33 _ _ ?_
           refine wp_ret ?_
           refine qr (fn := Tryd.f34) hf hM [] (l := [iV 0]) (ob := []) An ?_
           show (iV 0 : Value) = .int .i64 (vcheck ⟨k, x, y⟩) ∧ Keep Nn w w1
           refine ⟨congrArg _ ?_, hk0⟩
           rw [vcheck_eq]
           repeat' split
           all_goals first | rfl | (exfalso; omega)
       · have hc11 := (nF hc11r)
         refine wp_seq_k (fun K34 hK34 => ?_)
         refine wp_region_lit ?_
         refine q0 hf hM [37, 5, 1] [{}, {}] (env' := [(37, eB ((k : Int) == 4)), (5, eI k), (1, eP B1 0)]) (ob := []) An ?_
         clear hf; intro a hf
         refine wpList_nil ?_
         refine hK34 _ _ ?_
         refine qc hf (b := ((k : Int) == 4)) (fun hc13r => ?_) (fun hc13r => ?_)
         · have hc13 := (nE hc13r)
           refine wp_region_lit ?_
           refine q0 hf hM [40, 1] [{}, { os := [.ld 0 1] }] (env' := [(40, eI x), (1, eP B1 0)]) (ob := [Ad B1 1]) (Ao (ad _ _)) ?_
           clear hf; intro a hf
           refine sxcall hf rfl rfl rfl rfl (g := 72) (vs := [iV x, iV 0, iV 255]) (ob := []) (by as_aux_lemma => kernel_rfl) An enters72 (rin6 x 0 255 w1  ) ?_
           clear hf; rintro _ w8 a ⟨rfl, hk⟩ hf
           have hM := hM.keepNn hk
           have hk0 := hk0.trans hk.nn
           clear hk
           refine q0 hf hM [3] [{}, { g := .sym }, { g := .sym, os := [.ld 0 2] }, { g := .sym }, { hint := some (bV ((decide (0 ≤ x) && decide (x ≤ 255)) && ((y : Int) == 0))) }, {}] (env' := [(3, eB ((decide (0 ≤ x) && decide (x ≤ 255)) && ((y : Int) == 0)))]) (ob := [((decide (0 ≤ x) && decide (x ≤ 255)) = true → (decide (0 ≤ x) && decide (x ≤ 255)) = (decide (0 ≤ x) && decide (x ≤ 255))), ((decide (0 ≤ x) && decide (x ≤ 255)) = true → Ad B1 2), ((decide (0 ≤ x) && decide (x ≤ 255)) = true → (decide (0 ≤ x) && decide (x ≤ 255)) = (decide (0 ≤ x) && decide (x ≤ 255))), ((decide (0 ≤ x) && decide (x ≤ 255)) = true → (decide (0 ≤ x) && decide (x ≤ 255)) = (decide (0 ≤ x) && decide (x ≤ 255))), (bif (decide (0 ≤ x) && decide (x ≤ 255)) then (bV ((y : Int) == 0) : Value) else bV false) = .bool ((decide (0 ≤ x) && decide (x ≤ 255)) && ((y : Int) == 0))]) (Ac (fun hgd => rfl) (Ac (fun hgd => ad _ _) (Ac (fun hgd => rfl) (Ac (fun _ => rfl) (Ao (pick_and _ _)))))) ?_
           clear hf; intro a hf
           refine wpList_nil ?_
           refine hK3 _ _ ?_
           refine wp_seq_k (fun K35 hK35 => ?_)
           refine wp_seq_k (fun K36 hK36 => ?_)
           refine wp_region_lit ?_
           refine q0 hf hM [71] [{}, {}] (env' := [(71, eB (!((decide (0 ≤ x) && decide (x ≤ 255)) && ((y : Int) == 0))))]) (ob := []) An ?_
           clear hf; intro a hf
           refine wpList_nil ?_
           refine hK36 _ _ ?_
           refine qc hf (b := !((decide (0 ≤ x) && decide (x ≤ 255)) && ((y : Int) == 0))) (fun hc14r => ?_) (fun hc14r => ?_)
           · have hc14 := hc14r
             try simp only [Bool.or_eq_true, Bool.and_eq_true, Bool.not_eq_true', Bool.not_eq_false', Bool.or_eq_false_iff, Bool.and_eq_false_iff, decide_eq_true_eq, decide_eq_false_iff_not, beq_iff_eq, bne_iff_ne, beq_eq_false_iff_ne, bne_eq_false_iff_eq, Bool.and_true, Bool.true_and, ne_eq] at hc14
             refine wp_seq_k (fun K37 hK37 => ?_)
             refine wp_region_lit ?_
             refine q0 hf hM [2] [{}] (env' := [(2, eI 1)]) (ob := []) An ?_
             clear hf; intro a hf
             refine wpList_nil ?_
             refine hK37 _ _ ?_
             refine wp_ret ?_
             refine qr (fn := Tryd.f34) hf hM [] (l := [iV 1]) (ob := []) An ?_
             show (iV 1 : Value) = .int .i64 (vcheck ⟨k, x, y⟩) ∧ Keep Nn w w8
             refine ⟨congrArg _ ?_, hk0⟩
             rw [vcheck_eq]
             repeat' split
             all_goals first | rfl | (exfalso; omega)
           · have hc14 := hc14r
             try simp only [Bool.or_eq_true, Bool.and_eq_true, Bool.not_eq_true', Bool.not_eq_false', Bool.or_eq_false_iff, Bool.and_eq_false_iff, decide_eq_true_eq, decide_eq_false_iff_not, beq_iff_eq, bne_iff_ne, beq_eq_false_iff_ne, bne_eq_false_iff_eq, Bool.and_true, Bool.true_and, ne_eq] at hc14
             refine wp_skip ?_
             refine hK35 _ _ ?_
             refine wp_seq_k (fun K38 hK38 => ?_)
             refine wp_region_lit ?_
             refine q0 hf hM [2] [{}] (env' := [(2, eI 0)]) (ob := []) An ?_
             clear hf; intro a hf
             refine wpList_nil ?_
             refine hK38 _ _ ?_
             refine wp_ret ?_
             refine qr (fn := Tryd.f34) hf hM [] (l := [iV 0]) (ob := []) An ?_
             show (iV 0 : Value) = .int .i64 (vcheck ⟨k, x, y⟩) ∧ Keep Nn w w8
             refine ⟨congrArg _ ?_, hk0⟩
             rw [vcheck_eq]
             repeat' split
             all_goals first | rfl | (exfalso; omega)
         · have hc13 := (nF hc13r)
           refine wp_seq_k (fun K39 hK39 => ?_)
           refine wp_region_lit ?_
           refine q0 hf hM [47, 5, 1] [{}, {}] (env' := [(47, eB ((k : Int) == 5)), (5, eI k), (1, eP B1 0)]) (ob := []) An ?_
           clear hf; intro a hf
           refine wpList_nil ?_
           refine hK39 _ _ ?_
           refine qc hf (b := ((k : Int) == 5)) (fun hc15r => ?_) (fun hc15r => ?_)
           · have hc15 := (nE hc15r)
             refine wp_region_lit ?_
             refine q0 hf hM [50, 1] [{}, { os := [.ld 0 1] }] (env' := [(50, eI x), (1, eP B1 0)]) (ob := [Ad B1 1]) (Ao (ad _ _)) ?_
             clear hf; intro a hf
             refine sxcall hf rfl rfl rfl rfl (g := 72) (vs := [iV x, iV 0, iV 1048576]) (ob := []) (by as_aux_lemma => kernel_rfl) An enters72 (rin6 x 0 1048576 w1  ) ?_
             clear hf; rintro _ w9 a ⟨rfl, hk⟩ hf
             have hM := hM.keepNn hk
             have hk0 := hk0.trans hk.nn
             clear hk
             refine q0 hf hM [3] [{}, { g := .sym }, { g := .sym, os := [.ld 0 2] }, { g := .sym }, { hint := some (bV ((decide (0 ≤ x) && decide (x ≤ 1048576)) && ((y : Int) == 0))) }, {}] (env' := [(3, eB ((decide (0 ≤ x) && decide (x ≤ 1048576)) && ((y : Int) == 0)))]) (ob := [((decide (0 ≤ x) && decide (x ≤ 1048576)) = true → (decide (0 ≤ x) && decide (x ≤ 1048576)) = (decide (0 ≤ x) && decide (x ≤ 1048576))), ((decide (0 ≤ x) && decide (x ≤ 1048576)) = true → Ad B1 2), ((decide (0 ≤ x) && decide (x ≤ 1048576)) = true → (decide (0 ≤ x) && decide (x ≤ 1048576)) = (decide (0 ≤ x) && decide (x ≤ 1048576))), ((decide (0 ≤ x) && decide (x ≤ 1048576)) = true → (decide (0 ≤ x) && decide (x ≤ 1048576)) = (decide (0 ≤ x) && decide (x ≤ 1048576))), (bif (decide (0 ≤ x) && decide (x ≤ 1048576)) then (bV ((y : Int) == 0) : Value) else bV false) = .bool ((decide (0 ≤ x) && decide (x ≤ 1048576)) && ((y : Int) == 0))]) (Ac (fun hgd => rfl) (Ac (fun hgd => ad _ _) (Ac (fun hgd => rfl) (Ac (fun _ => rfl) (Ao (pick_and _ _)))))) ?_
             clear hf; intro a hf
             refine wpList_nil ?_
             refine hK3 _ _ ?_
             refine wp_seq_k (fun K40 hK40 => ?_)
             refine wp_seq_k (fun K41 hK41 => ?_)
             refine wp_region_lit ?_
             refine q0 hf hM [71] [{}, {}] (env' := [(71, eB (!((decide (0 ≤ x) && decide (x ≤ 1048576)) && ((y : Int) == 0))))]) (ob := []) An ?_
             clear hf; intro a hf
             refine wpList_nil ?_
             refine hK41 _ _ ?_
             refine qc hf (b := !((decide (0 ≤ x) && decide (x ≤ 1048576)) && ((y : Int) == 0))) (fun hc16r => ?_) (fun hc16r => ?_)
             · have hc16 := hc16r
               try simp only [Bool.or_eq_true, Bool.and_eq_true, Bool.not_eq_true', Bool.not_eq_false', Bool.or_eq_false_iff, Bool.and_eq_false_iff, decide_eq_true_eq, decide_eq_false_iff_not, beq_iff_eq, bne_iff_ne, beq_eq_false_iff_ne, bne_eq_false_iff_eq, Bool.and_true, Bool.true_and, ne_eq] at hc16
               refine wp_seq_k (fun K42 hK42 => ?_)
               refine wp_region_lit ?_
               refine q0 hf hM [2] [{}] (env' := [(2, eI 1)]) (ob := []) An ?_
               clear hf; intro a hf
               refine wpList_nil ?_
               refine hK42 _ _ ?_
               refine wp_ret ?_
               refine qr (fn := Tryd.f34) hf hM [] (l := [iV 1]) (ob := []) An ?_
               show (iV 1 : Value) = .int .i64 (vcheck ⟨k, x, y⟩) ∧ Keep Nn w w9
               refine ⟨congrArg _ ?_, hk0⟩
               rw [vcheck_eq]
               repeat' split
               all_goals first | rfl | (exfalso; omega)
             · have hc16 := hc16r
               try simp only [Bool.or_eq_true, Bool.and_eq_true, Bool.not_eq_true', Bool.not_eq_false', Bool.or_eq_false_iff, Bool.and_eq_false_iff, decide_eq_true_eq, decide_eq_false_iff_not, beq_iff_eq, bne_iff_ne, beq_eq_false_iff_ne, bne_eq_false_iff_eq, Bool.and_true, Bool.true_and, ne_eq] at hc16
               refine wp_skip ?_
               refine hK40 _ _ ?_
               refine wp_seq_k (fun K43 hK43 => ?_)
               refine wp_region_lit ?_
               refine q0 hf hM [2] [{}] (env' := [(2, eI 0)]) (ob := []) An ?_
               clear hf; intro a hf
               refine wpList_nil ?_
               refine hK43 _ _ ?_
               refine wp_ret ?_
               refine qr (fn := Tryd.f34) hf hM [] (l := [iV 0]) (ob := []) An ?_
               show (iV 0 : Value) = .int .i64 (vcheck ⟨k, x, y⟩) ∧ Keep Nn w w9
               refine ⟨congrArg _ ?_, hk0⟩
               rw [vcheck_eq]
               repeat' split
               all_goals first | rfl | (exfalso; omega)
           · have hc15 := (nF hc15r)
             refine wp_seq_k (fun K44 hK44 => ?_)
             refine wp_seq_k (fun K45 hK45 => ?_)
             refine wp_region_lit ?_
             refine q0 hf hM [57, 5, 1] [{}, {}] (env' := [(57, eB ((k : Int) == 6)), (5, eI k), (1, eP B1 0)]) (ob := []) An ?_
             clear hf; intro a hf
             refine wpList_nil ?_
             refine hK45 _ _ ?_
             refine qc hf (b := ((k : Int) == 6)) (fun hc17r => ?_) (fun hc17r => ?_)
             · have hc17 := (nE hc17r)
               refine wp_skip ?_
               refine hK44 _ _ ?_
               refine sxcond hf (b := ((k : Int) == 6)) (by kernel_rfl) (fun _ => ?_) (fun h => absurd h (by rw [hc17r]; simp))
               refine wp_region_lit ?_
               refine q0 hf hM [63, 1] [{}, { os := [.ld 0 1] }] (env' := [(63, eI x), (1, eP B1 0)]) (ob := [Ad B1 1]) (Ao (ad _ _)) ?_
               clear hf; intro a hf
               refine sxcall hf rfl rfl rfl rfl (g := 72) (vs := [iV x, iV (-4194304), iV 4194304]) (ob := []) (by as_aux_lemma => kernel_rfl) An enters72 (rin6 x (-4194304) 4194304 w1  ) ?_
               clear hf; rintro _ w10 a ⟨rfl, hk⟩ hf
               have hM := hM.keepNn hk
               have hk0 := hk0.trans hk.nn
               clear hk
               refine q0 hf hM [65, 1] [{}] (env' := [(65, eB (decide ((-4194304) ≤ x) && decide (x ≤ 4194304))), (1, eP B1 0)]) (ob := []) An ?_
               clear hf; intro a hf
               rcases Bool.eq_false_or_eq_true (decide ((-4194304) ≤ x) && decide (x ≤ 4194304)) with hg4r | hg4r
               · have hg4 := hg4r
                 try simp only [Bool.or_eq_true, Bool.and_eq_true, Bool.not_eq_true', Bool.not_eq_false', Bool.or_eq_false_iff, Bool.and_eq_false_iff, decide_eq_true_eq, decide_eq_false_iff_not, beq_iff_eq, bne_iff_ne, beq_eq_false_iff_ne, bne_eq_false_iff_eq, Bool.and_true, Bool.true_and, ne_eq] at hg4
                 have hf := hf.prune [65, 1]
                 replace hf : Fr 72 [(65, eB (decide ((-4194304) ≤ x) && decide (x ≤ 4194304))), (1, eP B1 0)] a := hf
                 replace hf := hf.conv (env' := [(65, eB true), (1, eP B1 0)]) (Ac (congrArg Value.bool hg4r) (Ao rfl))
                 refine q0 hf hM [67, 65] [{}, { os := [.ld 0 2] }] (env' := [(67, eI y), (65, eB true)]) (ob := [true = true, true = true, Ad B1 2]) (Ac rfl (Ac rfl (Ao (ad _ _)))) ?_
                 clear hf; intro a hf
                 refine sxcallg hf rfl rfl rfl rfl rfl (g := 72) (vs := [iV y, iV (-4194304), iV 4194304]) (ob := []) (by as_aux_lemma => kernel_rfl) An enters72 (rin6 y (-4194304) 4194304 w10  ) ?_
                 clear hf; rintro _ w11 a ⟨rfl, hk⟩ hf
                 have hM := hM.keepNn hk
                 have hk0 := hk0.trans hk.nn
                 clear hk
                 refine q0 hf hM [3] [{}, {}] (env' := [(3, eB (decide ((-4194304) ≤ y) && decide (y ≤ 4194304)))]) (ob := []) An ?_
                 clear hf; intro a hf
                 refine wpList_nil ?_
                 refine hK3 _ _ ?_
                 refine wp_seq_k (fun K46 hK46 => ?_)
                 refine wp_seq_k (fun K47 hK47 => ?_)
                 refine wp_region_lit ?_
                 refine q0 hf hM [71] [{}, {}] (env' := [(71, eB (!(decide ((-4194304) ≤ y) && decide (y ≤ 4194304))))]) (ob := []) An ?_
                 clear hf; intro a hf
                 refine wpList_nil ?_
                 refine hK47 _ _ ?_
                 refine qc hf (b := !(decide ((-4194304) ≤ y) && decide (y ≤ 4194304))) (fun hc19r => ?_) (fun hc19r => ?_)
                 · have hc19 := hc19r
                   try simp only [Bool.or_eq_true, Bool.and_eq_true, Bool.not_eq_true', Bool.not_eq_false', Bool.or_eq_false_iff, Bool.and_eq_false_iff, decide_eq_true_eq, decide_eq_false_iff_not, beq_iff_eq, bne_iff_ne, beq_eq_false_iff_ne, bne_eq_false_iff_eq, Bool.and_true, Bool.true_and, ne_eq] at hc19
                   refine wp_seq_k (fun K48 hK48 => ?_)
                   refine wp_region_lit ?_
                   refine q0 hf hM [2] [{}] (env' := [(2, eI 1)]) (ob := []) An ?_
                   clear hf; intro a hf
                   refine wpList_nil ?_
                   refine hK48 _ _ ?_
                   refine wp_ret ?_
                   refine qr (fn := Tryd.f34) hf hM [] (l := [iV 1]) (ob := []) An ?_
                   show (iV 1 : Value) = .int .i64 (vcheck ⟨k, x, y⟩) ∧ Keep Nn w w11
                   refine ⟨congrArg _ ?_, hk0⟩
                   rw [vcheck_eq]
                   repeat' split
                   all_goals first | rfl | (exfalso; omega)
                 · have hc19 := hc19r
                   try simp only [Bool.or_eq_true, Bool.and_eq_true, Bool.not_eq_true', Bool.not_eq_false', Bool.or_eq_false_iff, Bool.and_eq_false_iff, decide_eq_true_eq, decide_eq_false_iff_not, beq_iff_eq, bne_iff_ne, beq_eq_false_iff_ne, bne_eq_false_iff_eq, Bool.and_true, Bool.true_and, ne_eq] at hc19
                   refine wp_skip ?_
                   refine hK46 _ _ ?_
                   refine wp_seq_k (fun K49 hK49 => ?_)
                   refine wp_region_lit ?_
                   refine q0 hf hM [2] [{}] (env' := [(2, eI 0)]) (ob := []) An ?_
                   clear hf; intro a hf
                   refine wpList_nil ?_
                   refine hK49 _ _ ?_
                   refine wp_ret ?_
                   refine qr (fn := Tryd.f34) hf hM [] (l := [iV 0]) (ob := []) An ?_
                   show (iV 0 : Value) = .int .i64 (vcheck ⟨k, x, y⟩) ∧ Keep Nn w w11
                   refine ⟨congrArg _ ?_, hk0⟩
                   rw [vcheck_eq]
                   repeat' split
                   all_goals first | rfl | (exfalso; omega)
               · have hg4 := hg4r
                 try simp only [Bool.or_eq_true, Bool.and_eq_true, Bool.not_eq_true', Bool.not_eq_false', Bool.or_eq_false_iff, Bool.and_eq_false_iff, decide_eq_true_eq, decide_eq_false_iff_not, beq_iff_eq, bne_iff_ne, beq_eq_false_iff_ne, bne_eq_false_iff_eq, Bool.and_true, Bool.true_and, ne_eq] at hg4
                 have hf := hf.prune [65, 1]
                 replace hf : Fr 72 [(65, eB (decide ((-4194304) ≤ x) && decide (x ≤ 4194304))), (1, eP B1 0)] a := hf
                 replace hf := hf.conv (env' := [(65, eB false), (1, eP B1 0)]) (Ac (congrArg Value.bool hg4r) (Ao rfl))
                 refine q0 hf hM [67, 65] [{ g := .off }, { g := .off }] (env' := [(67, .val (undef)), (65, eB false)]) (ob := [false = !true, false = !true]) (Ac rfl (Ao rfl)) ?_
                 clear hf; intro a hf
                 refine q0 hf hM [3] [{ g := .off }, {}, {}] (env' := [(3, eB false)]) (ob := [false = !true]) (Ao rfl) ?_
                 clear hf; intro a hf
                 refine wpList_nil ?_
                 refine hK3 _ _ ?_
                 refine wp_seq_k (fun K50 hK50 => ?_)
                 refine wp_seq_k (fun K51 hK51 => ?_)
                 refine wp_region_lit ?_
                 refine q0 hf hM [71] [{}, {}] (env' := [(71, eB true)]) (ob := []) An ?_
                 clear hf; intro a hf
                 refine wpList_nil ?_
                 refine hK51 _ _ ?_
                 refine sxcond hf (b := true) (by kernel_rfl) (fun _ => ?_) (fun h => by cases h)
                 refine wp_seq_k (fun K52 hK52 => ?_)
                 refine wp_region_lit ?_
                 refine q0 hf hM [2] [{}] (env' := [(2, eI 1)]) (ob := []) An ?_
                 clear hf; intro a hf
                 refine wpList_nil ?_
                 refine hK52 _ _ ?_
                 refine wp_ret ?_
                 refine qr (fn := Tryd.f34) hf hM [] (l := [iV 1]) (ob := []) An ?_
                 show (iV 1 : Value) = .int .i64 (vcheck ⟨k, x, y⟩) ∧ Keep Nn w w10
                 refine ⟨congrArg _ ?_, hk0⟩
                 rw [vcheck_eq]
                 repeat' split
                 all_goals first | rfl | (exfalso; omega)
             · have hc17 := (nF hc17r)
               refine wp_seq_k (fun K53 hK53 => ?_)
               refine wp_region_lit ?_
               refine q0 hf hM [57, 5, 1] [{}, {}] (env' := [(57, eB ((k : Int) == 7)), (5, eI k), (1, eP B1 0)]) (ob := []) An ?_
               clear hf; intro a hf
               refine wpList_nil ?_
               refine hK53 _ _ ?_
               refine qc hf (b := ((k : Int) == 7)) (fun hc21r => ?_) (fun hc21r => ?_)
               · have hc21 := (nE hc21r)
                 refine wp_skip ?_
                 refine hK44 _ _ ?_
                 refine sxcond hf (b := ((k : Int) == 7)) (by kernel_rfl) (fun _ => ?_) (fun h => absurd h (by rw [hc21r]; simp))
                 refine wp_region_lit ?_
                 refine q0 hf hM [63, 1] [{}, { os := [.ld 0 1] }] (env' := [(63, eI x), (1, eP B1 0)]) (ob := [Ad B1 1]) (Ao (ad _ _)) ?_
                 clear hf; intro a hf
                 refine sxcall hf rfl rfl rfl rfl (g := 72) (vs := [iV x, iV (-4194304), iV 4194304]) (ob := []) (by as_aux_lemma => kernel_rfl) An enters72 (rin6 x (-4194304) 4194304 w1  ) ?_
                 clear hf; rintro _ w12 a ⟨rfl, hk⟩ hf
                 have hM := hM.keepNn hk
                 have hk0 := hk0.trans hk.nn
                 clear hk
                 refine q0 hf hM [65, 1] [{}] (env' := [(65, eB (decide ((-4194304) ≤ x) && decide (x ≤ 4194304))), (1, eP B1 0)]) (ob := []) An ?_
                 clear hf; intro a hf
                 rcases Bool.eq_false_or_eq_true (decide ((-4194304) ≤ x) && decide (x ≤ 4194304)) with hg5r | hg5r
                 · have hg5 := hg5r
                   try simp only [Bool.or_eq_true, Bool.and_eq_true, Bool.not_eq_true', Bool.not_eq_false', Bool.or_eq_false_iff, Bool.and_eq_false_iff, decide_eq_true_eq, decide_eq_false_iff_not, beq_iff_eq, bne_iff_ne, beq_eq_false_iff_ne, bne_eq_false_iff_eq, Bool.and_true, Bool.true_and, ne_eq] at hg5
                   have hf := hf.prune [65, 1]
                   replace hf : Fr 72 [(65, eB (decide ((-4194304) ≤ x) && decide (x ≤ 4194304))), (1, eP B1 0)] a := hf
                   replace hf := hf.conv (env' := [(65, eB true), (1, eP B1 0)]) (Ac (congrArg Value.bool hg5r) (Ao rfl))
                   refine q0 hf hM [67, 65] [{}, { os := [.ld 0 2] }] (env' := [(67, eI y), (65, eB true)]) (ob := [true = true, true = true, Ad B1 2]) (Ac rfl (Ac rfl (Ao (ad _ _)))) ?_
                   clear hf; intro a hf
                   refine sxcallg hf rfl rfl rfl rfl rfl (g := 72) (vs := [iV y, iV (-4194304), iV 4194304]) (ob := []) (by as_aux_lemma => kernel_rfl) An enters72 (rin6 y (-4194304) 4194304 w12  ) ?_
                   clear hf; rintro _ w13 a ⟨rfl, hk⟩ hf
                   have hM := hM.keepNn hk
                   have hk0 := hk0.trans hk.nn
                   clear hk
                   refine q0 hf hM [3] [{}, {}] (env' := [(3, eB (decide ((-4194304) ≤ y) && decide (y ≤ 4194304)))]) (ob := []) An ?_
                   clear hf; intro a hf
                   refine wpList_nil ?_
                   refine hK3 _ _ ?_
                   refine wp_seq_k (fun K54 hK54 => ?_)
                   refine wp_seq_k (fun K55 hK55 => ?_)
                   refine wp_region_lit ?_
                   refine q0 hf hM [71] [{}, {}] (env' := [(71, eB (!(decide ((-4194304) ≤ y) && decide (y ≤ 4194304))))]) (ob := []) An ?_
                   clear hf; intro a hf
                   refine wpList_nil ?_
                   refine hK55 _ _ ?_
                   refine qc hf (b := !(decide ((-4194304) ≤ y) && decide (y ≤ 4194304))) (fun hc23r => ?_) (fun hc23r => ?_)
                   · have hc23 := hc23r
                     try simp only [Bool.or_eq_true, Bool.and_eq_true, Bool.not_eq_true', Bool.not_eq_false', Bool.or_eq_false_iff, Bool.and_eq_false_iff, decide_eq_true_eq, decide_eq_false_iff_not, beq_iff_eq, bne_iff_ne, beq_eq_false_iff_ne, bne_eq_false_iff_eq, Bool.and_true, Bool.true_and, ne_eq] at hc23
                     refine wp_seq_k (fun K56 hK56 => ?_)
                     refine wp_region_lit ?_
                     refine q0 hf hM [2] [{}] (env' := [(2, eI 1)]) (ob := []) An ?_
                     clear hf; intro a hf
                     refine wpList_nil ?_
                     refine hK56 _ _ ?_
                     refine wp_ret ?_
                     refine qr (fn := Tryd.f34) hf hM [] (l := [iV 1]) (ob := []) An ?_
                     show (iV 1 : Value) = .int .i64 (vcheck ⟨k, x, y⟩) ∧ Keep Nn w w13
                     refine ⟨congrArg _ ?_, hk0⟩
                     rw [vcheck_eq]
                     repeat' split
                     all_goals first | rfl | (exfalso; omega)
                   · have hc23 := hc23r
                     try simp only [Bool.or_eq_true, Bool.and_eq_true, Bool.not_eq_true', Bool.not_eq_false', Bool.or_eq_false_iff, Bool.and_eq_false_iff, decide_eq_true_eq, decide_eq_false_iff_not, beq_iff_eq, bne_iff_ne, beq_eq_false_iff_ne, bne_eq_false_iff_eq, Bool.and_true, Bool.true_and, ne_eq] at hc23
                     refine wp_skip ?_
                     refine hK54 _ _ ?_
                     refine wp_seq_k (fun K57 hK57 => ?_)
                     refine wp_region_lit ?_
                     refine q0 hf hM [2] [{}] (env' := [(2, eI 0)]) (ob := []) An ?_
                     clear hf; intro a hf
                     refine wpList_nil ?_
                     refine hK57 _ _ ?_
                     refine wp_ret ?_
                     refine qr (fn := Tryd.f34) hf hM [] (l := [iV 0]) (ob := []) An ?_
                     show (iV 0 : Value) = .int .i64 (vcheck ⟨k, x, y⟩) ∧ Keep Nn w w13
                     refine ⟨congrArg _ ?_, hk0⟩
                     rw [vcheck_eq]
                     repeat' split
                     all_goals first | rfl | (exfalso; omega)
                 · have hg5 := hg5r
                   try simp only [Bool.or_eq_true, Bool.and_eq_true, Bool.not_eq_true', Bool.not_eq_false', Bool.or_eq_false_iff, Bool.and_eq_false_iff, decide_eq_true_eq, decide_eq_false_iff_not, beq_iff_eq, bne_iff_ne, beq_eq_false_iff_ne, bne_eq_false_iff_eq, Bool.and_true, Bool.true_and, ne_eq] at hg5
                   have hf := hf.prune [65, 1]
                   replace hf : Fr 72 [(65, eB (decide ((-4194304) ≤ x) && decide (x ≤ 4194304))), (1, eP B1 0)] a := hf
                   replace hf := hf.conv (env' := [(65, eB false), (1, eP B1 0)]) (Ac (congrArg Value.bool hg5r) (Ao rfl))
                   refine q0 hf hM [67, 65] [{ g := .off }, { g := .off }] (env' := [(67, .val (undef)), (65, eB false)]) (ob := [false = !true, false = !true]) (Ac rfl (Ao rfl)) ?_
                   clear hf; intro a hf
                   refine q0 hf hM [3] [{ g := .off }, {}, {}] (env' := [(3, eB false)]) (ob := [false = !true]) (Ao rfl) ?_
                   clear hf; intro a hf
                   refine wpList_nil ?_
                   refine hK3 _ _ ?_
                   refine wp_seq_k (fun K58 hK58 => ?_)
                   refine wp_seq_k (fun K59 hK59 => ?_)
                   refine wp_region_lit ?_
                   refine q0 hf hM [71] [{}, {}] (env' := [(71, eB true)]) (ob := []) An ?_
                   clear hf; intro a hf
                   refine wpList_nil ?_
                   refine hK59 _ _ ?_
                   refine sxcond hf (b := true) (by kernel_rfl) (fun _ => ?_) (fun h => by cases h)
                   refine wp_seq_k (fun K60 hK60 => ?_)
                   refine wp_region_lit ?_
                   refine q0 hf hM [2] [{}] (env' := [(2, eI 1)]) (ob := []) An ?_
                   clear hf; intro a hf
                   refine wpList_nil ?_
                   refine hK60 _ _ ?_
                   refine wp_ret ?_
                   refine qr (fn := Tryd.f34) hf hM [] (l := [iV 1]) (ob := []) An ?_
                   show (iV 1 : Value) = .int .i64 (vcheck ⟨k, x, y⟩) ∧ Keep Nn w w12
                   refine ⟨congrArg _ ?_, hk0⟩
                   rw [vcheck_eq]
                   repeat' split
                   all_goals first | rfl | (exfalso; omega)
               · have hc21 := (nF hc21r)
                 refine wp_seq_k (fun K61 hK61 => ?_)
                 refine wp_region_lit ?_
                 refine q0 hf hM [57, 5, 1] [{}, {}] (env' := [(57, eB ((k : Int) == 8)), (5, eI k), (1, eP B1 0)]) (ob := []) An ?_
                 clear hf; intro a hf
                 refine wpList_nil ?_
                 refine hK61 _ _ ?_
                 refine qc hf (b := ((k : Int) == 8)) (fun hc25r => ?_) (fun hc25r => ?_)
                 · have hc25 := (nE hc25r)
                   refine wp_skip ?_
                   refine hK44 _ _ ?_
                   refine sxcond hf (b := ((k : Int) == 8)) (by kernel_rfl) (fun _ => ?_) (fun h => absurd h (by rw [hc25r]; simp))
                   refine wp_region_lit ?_
                   refine q0 hf hM [63, 1] [{}, { os := [.ld 0 1] }] (env' := [(63, eI x), (1, eP B1 0)]) (ob := [Ad B1 1]) (Ao (ad _ _)) ?_
                   clear hf; intro a hf
                   refine sxcall hf rfl rfl rfl rfl (g := 72) (vs := [iV x, iV (-4194304), iV 4194304]) (ob := []) (by as_aux_lemma => kernel_rfl) An enters72 (rin6 x (-4194304) 4194304 w1  ) ?_
                   clear hf; rintro _ w14 a ⟨rfl, hk⟩ hf
                   have hM := hM.keepNn hk
                   have hk0 := hk0.trans hk.nn
                   clear hk
                   refine q0 hf hM [65, 1] [{}] (env' := [(65, eB (decide ((-4194304) ≤ x) && decide (x ≤ 4194304))), (1, eP B1 0)]) (ob := []) An ?_
                   clear hf; intro a hf
                   rcases Bool.eq_false_or_eq_true (decide ((-4194304) ≤ x) && decide (x ≤ 4194304)) with hg6r | hg6r
                   · have hg6 := hg6r
                     try simp only [Bool.or_eq_true, Bool.and_eq_true, Bool.not_eq_true', Bool.not_eq_false', Bool.or_eq_false_iff, Bool.and_eq_false_iff, decide_eq_true_eq, decide_eq_false_iff_not, beq_iff_eq, bne_iff_ne, beq_eq_false_iff_ne, bne_eq_false_iff_eq, Bool.and_true, Bool.true_and, ne_eq] at hg6
                     have hf := hf.prune [65, 1]
                     replace hf : Fr 72 [(65, eB (decide ((-4194304) ≤ x) && decide (x ≤ 4194304))), (1, eP B1 0)] a := hf
                     replace hf := hf.conv (env' := [(65, eB true), (1, eP B1 0)]) (Ac (congrArg Value.bool hg6r) (Ao rfl))
                     refine q0 hf hM [67, 65] [{}, { os := [.ld 0 2] }] (env' := [(67, eI y), (65, eB true)]) (ob := [true = true, true = true, Ad B1 2]) (Ac rfl (Ac rfl (Ao (ad _ _)))) ?_
                     clear hf; intro a hf
                     refine sxcallg hf rfl rfl rfl rfl rfl (g := 72) (vs := [iV y, iV (-4194304), iV 4194304]) (ob := []) (by as_aux_lemma => kernel_rfl) An enters72 (rin6 y (-4194304) 4194304 w14  ) ?_
                     clear hf; rintro _ w15 a ⟨rfl, hk⟩ hf
                     have hM := hM.keepNn hk
                     have hk0 := hk0.trans hk.nn
                     clear hk
                     refine q0 hf hM [3] [{}, {}] (env' := [(3, eB (decide ((-4194304) ≤ y) && decide (y ≤ 4194304)))]) (ob := []) An ?_
                     clear hf; intro a hf
                     refine wpList_nil ?_
                     refine hK3 _ _ ?_
                     refine wp_seq_k (fun K62 hK62 => ?_)
                     refine wp_seq_k (fun K63 hK63 => ?_)
                     refine wp_region_lit ?_
                     refine q0 hf hM [71] [{}, {}] (env' := [(71, eB (!(decide ((-4194304) ≤ y) && decide (y ≤ 4194304))))]) (ob := []) An ?_
                     clear hf; intro a hf
                     refine wpList_nil ?_
                     refine hK63 _ _ ?_
                     refine qc hf (b := !(decide ((-4194304) ≤ y) && decide (y ≤ 4194304))) (fun hc27r => ?_) (fun hc27r => ?_)
                     · have hc27 := hc27r
                       try simp only [Bool.or_eq_true, Bool.and_eq_true, Bool.not_eq_true', Bool.not_eq_false', Bool.or_eq_false_iff, Bool.and_eq_false_iff, decide_eq_true_eq, decide_eq_false_iff_not, beq_iff_eq, bne_iff_ne, beq_eq_false_iff_ne, bne_eq_false_iff_eq, Bool.and_true, Bool.true_and, ne_eq] at hc27
                       refine wp_seq_k (fun K64 hK64 => ?_)
                       refine wp_region_lit ?_
                       refine q0 hf hM [2] [{}] (env' := [(2, eI 1)]) (ob := []) An ?_
                       clear hf; intro a hf
                       refine wpList_nil ?_
                       refine hK64 _ _ ?_
                       refine wp_ret ?_
                       refine qr (fn := Tryd.f34) hf hM [] (l := [iV 1]) (ob := []) An ?_
                       show (iV 1 : Value) = .int .i64 (vcheck ⟨k, x, y⟩) ∧ Keep Nn w w15
                       refine ⟨congrArg _ ?_, hk0⟩
                       rw [vcheck_eq]
                       repeat' split
                       all_goals first | rfl | (exfalso; omega)
                     · have hc27 := hc27r
                       try simp only [Bool.or_eq_true, Bool.and_eq_true, Bool.not_eq_true', Bool.not_eq_false', Bool.or_eq_false_iff, Bool.and_eq_false_iff, decide_eq_true_eq, decide_eq_false_iff_not, beq_iff_eq, bne_iff_ne, beq_eq_false_iff_ne, bne_eq_false_iff_eq, Bool.and_true, Bool.true_and, ne_eq] at hc27
                       refine wp_skip ?_
                       refine hK62 _ _ ?_
                       refine wp_seq_k (fun K65 hK65 => ?_)
                       refine wp_region_lit ?_
                       refine q0 hf hM [2] [{}] (env' := [(2, eI 0)]) (ob := []) An ?_
                       clear hf; intro a hf
                       refine wpList_nil ?_
                       refine hK65 _ _ ?_
                       refine wp_ret ?_
                       refine qr (fn := Tryd.f34) hf hM [] (l := [iV 0]) (ob := []) An ?_
                       show (iV 0 : Value) = .int .i64 (vcheck ⟨k, x, y⟩) ∧ Keep Nn w w15
                       refine ⟨congrArg _ ?_, hk0⟩
                       rw [vcheck_eq]
                       repeat' split
                       all_goals first | rfl | (exfalso; omega)
                   · have hg6 := hg6r
                     try simp only [Bool.or_eq_true, Bool.and_eq_true, Bool.not_eq_true', Bool.not_eq_false', Bool.or_eq_false_iff, Bool.and_eq_false_iff, decide_eq_true_eq, decide_eq_false_iff_not, beq_iff_eq, bne_iff_ne, beq_eq_false_iff_ne, bne_eq_false_iff_eq, Bool.and_true, Bool.true_and, ne_eq] at hg6
                     have hf := hf.prune [65, 1]
                     replace hf : Fr 72 [(65, eB (decide ((-4194304) ≤ x) && decide (x ≤ 4194304))), (1, eP B1 0)] a := hf
                     replace hf := hf.conv (env' := [(65, eB false), (1, eP B1 0)]) (Ac (congrArg Value.bool hg6r) (Ao rfl))
                     refine q0 hf hM [67, 65] [{ g := .off }, { g := .off }] (env' := [(67, .val (undef)), (65, eB false)]) (ob := [false = !true, false = !true]) (Ac rfl (Ao rfl)) ?_
                     clear hf; intro a hf
                     refine q0 hf hM [3] [{ g := .off }, {}, {}] (env' := [(3, eB false)]) (ob := [false = !true]) (Ao rfl) ?_
                     clear hf; intro a hf
                     refine wpList_nil ?_
                     refine hK3 _ _ ?_
                     refine wp_seq_k (fun K66 hK66 => ?_)
                     refine wp_seq_k (fun K67 hK67 => ?_)
                     refine wp_region_lit ?_
                     refine q0 hf hM [71] [{}, {}] (env' := [(71, eB true)]) (ob := []) An ?_
                     clear hf; intro a hf
                     refine wpList_nil ?_
                     refine hK67 _ _ ?_
                     refine sxcond hf (b := true) (by kernel_rfl) (fun _ => ?_) (fun h => by cases h)
                     refine wp_seq_k (fun K68 hK68 => ?_)
                     refine wp_region_lit ?_
                     refine q0 hf hM [2] [{}] (env' := [(2, eI 1)]) (ob := []) An ?_
                     clear hf; intro a hf
                     refine wpList_nil ?_
                     refine hK68 _ _ ?_
                     refine wp_ret ?_
                     refine qr (fn := Tryd.f34) hf hM [] (l := [iV 1]) (ob := []) An ?_
                     show (iV 1 : Value) = .int .i64 (vcheck ⟨k, x, y⟩) ∧ Keep Nn w w14
                     refine ⟨congrArg _ ?_, hk0⟩
                     rw [vcheck_eq]
                     repeat' split
                     all_goals first | rfl | (exfalso; omega)
                 · have hc25 := (nF hc25r)
                   refine wp_region_lit ?_
                   refine q0 hf hM [57, 1] [{}, {}] (env' := [(57, eB ((k : Int) == 9)), (1, eP B1 0)]) (ob := []) An ?_
                   clear hf; intro a hf
                   refine wpList_nil ?_
                   refine hK44 _ _ ?_
                   refine qc hf (b := ((k : Int) == 9)) (fun hc29r => ?_) (fun hc29r => ?_)
                   · have hc29 := (nE hc29r)
                     refine wp_region_lit ?_
                     refine q0 hf hM [63, 1] [{}, { os := [.ld 0 1] }] (env' := [(63, eI x), (1, eP B1 0)]) (ob := [Ad B1 1]) (Ao (ad _ _)) ?_
                     clear hf; intro a hf
                     refine sxcall hf rfl rfl rfl rfl (g := 72) (vs := [iV x, iV (-4194304), iV 4194304]) (ob := []) (by as_aux_lemma => kernel_rfl) An enters72 (rin6 x (-4194304) 4194304 w1  ) ?_
                     clear hf; rintro _ w16 a ⟨rfl, hk⟩ hf
                     have hM := hM.keepNn hk
                     have hk0 := hk0.trans hk.nn
                     clear hk
                     refine q0 hf hM [65, 1] [{}] (env' := [(65, eB (decide ((-4194304) ≤ x) && decide (x ≤ 4194304))), (1, eP B1 0)]) (ob := []) An ?_
                     clear hf; intro a hf
                     rcases Bool.eq_false_or_eq_true (decide ((-4194304) ≤ x) && decide (x ≤ 4194304)) with hg7r | hg7r
                     · have hg7 := hg7r
                       try simp only [Bool.or_eq_true, Bool.and_eq_true, Bool.not_eq_true', Bool.not_eq_false', Bool.or_eq_false_iff, Bool.and_eq_false_iff, decide_eq_true_eq, decide_eq_false_iff_not, beq_iff_eq, bne_iff_ne, beq_eq_false_iff_ne, bne_eq_false_iff_eq, Bool.and_true, Bool.true_and, ne_eq] at hg7
                       have hf := hf.prune [65, 1]
                       replace hf : Fr 72 [(65, eB (decide ((-4194304) ≤ x) && decide (x ≤ 4194304))), (1, eP B1 0)] a := hf
                       replace hf := hf.conv (env' := [(65, eB true), (1, eP B1 0)]) (Ac (congrArg Value.bool hg7r) (Ao rfl))
                       refine q0 hf hM [67, 65] [{}, { os := [.ld 0 2] }] (env' := [(67, eI y), (65, eB true)]) (ob := [true = true, true = true, Ad B1 2]) (Ac rfl (Ac rfl (Ao (ad _ _)))) ?_
                       clear hf; intro a hf
                       refine sxcallg hf rfl rfl rfl rfl rfl (g := 72) (vs := [iV y, iV (-4194304), iV 4194304]) (ob := []) (by as_aux_lemma => kernel_rfl) An enters72 (rin6 y (-4194304) 4194304 w16  ) ?_
                       clear hf; rintro _ w17 a ⟨rfl, hk⟩ hf
                       have hM := hM.keepNn hk
                       have hk0 := hk0.trans hk.nn
                       clear hk
                       refine q0 hf hM [3] [{}, {}] (env' := [(3, eB (decide ((-4194304) ≤ y) && decide (y ≤ 4194304)))]) (ob := []) An ?_
                       clear hf; intro a hf
                       refine wpList_nil ?_
                       refine hK3 _ _ ?_
                       refine wp_seq_k (fun K69 hK69 => ?_)
                       refine wp_seq_k (fun K70 hK70 => ?_)
                       refine wp_region_lit ?_
                       refine q0 hf hM [71] [{}, {}] (env' := [(71, eB (!(decide ((-4194304) ≤ y) && decide (y ≤ 4194304))))]) (ob := []) An ?_
                       clear hf; intro a hf
                       refine wpList_nil ?_
                       refine hK70 _ _ ?_
                       refine qc hf (b := !(decide ((-4194304) ≤ y) && decide (y ≤ 4194304))) (fun hc30r => ?_) (fun hc30r => ?_)
                       · have hc30 := hc30r
                         try simp only [Bool.or_eq_true, Bool.and_eq_true, Bool.not_eq_true', Bool.not_eq_false', Bool.or_eq_false_iff, Bool.and_eq_false_iff, decide_eq_true_eq, decide_eq_false_iff_not, beq_iff_eq, bne_iff_ne, beq_eq_false_iff_ne, bne_eq_false_iff_eq, Bool.and_true, Bool.true_and, ne_eq] at hc30
                         refine wp_seq_k (fun K71 hK71 => ?_)
                         refine wp_region_lit ?_
                         refine q0 hf hM [2] [{}] (env' := [(2, eI 1)]) (ob := []) An ?_
                         clear hf; intro a hf
                         refine wpList_nil ?_
                         refine hK71 _ _ ?_
                         refine wp_ret ?_
                         refine qr (fn := Tryd.f34) hf hM [] (l := [iV 1]) (ob := []) An ?_
                         show (iV 1 : Value) = .int .i64 (vcheck ⟨k, x, y⟩) ∧ Keep Nn w w17
                         refine ⟨congrArg _ ?_, hk0⟩
                         rw [vcheck_eq]
                         repeat' split
                         all_goals first | rfl | (exfalso; omega)
                       · have hc30 := hc30r
                         try simp only [Bool.or_eq_true, Bool.and_eq_true, Bool.not_eq_true', Bool.not_eq_false', Bool.or_eq_false_iff, Bool.and_eq_false_iff, decide_eq_true_eq, decide_eq_false_iff_not, beq_iff_eq, bne_iff_ne, beq_eq_false_iff_ne, bne_eq_false_iff_eq, Bool.and_true, Bool.true_and, ne_eq] at hc30
                         refine wp_skip ?_
                         refine hK69 _ _ ?_
                         refine wp_seq_k (fun K72 hK72 => ?_)
                         refine wp_region_lit ?_
                         refine q0 hf hM [2] [{}] (env' := [(2, eI 0)]) (ob := []) An ?_
                         clear hf; intro a hf
                         refine wpList_nil ?_
                         refine hK72 _ _ ?_
                         refine wp_ret ?_
                         refine qr (fn := Tryd.f34) hf hM [] (l := [iV 0]) (ob := []) An ?_
                         show (iV 0 : Value) = .int .i64 (vcheck ⟨k, x, y⟩) ∧ Keep Nn w w17
                         refine ⟨congrArg _ ?_, hk0⟩
                         rw [vcheck_eq]
                         repeat' split
                         all_goals first | rfl | (exfalso; omega)
                     · have hg7 := hg7r
                       try simp only [Bool.or_eq_true, Bool.and_eq_true, Bool.not_eq_true', Bool.not_eq_false', Bool.or_eq_false_iff, Bool.and_eq_false_iff, decide_eq_true_eq, decide_eq_false_iff_not, beq_iff_eq, bne_iff_ne, beq_eq_false_iff_ne, bne_eq_false_iff_eq, Bool.and_true, Bool.true_and, ne_eq] at hg7
                       have hf := hf.prune [65, 1]
                       replace hf : Fr 72 [(65, eB (decide ((-4194304) ≤ x) && decide (x ≤ 4194304))), (1, eP B1 0)] a := hf
                       replace hf := hf.conv (env' := [(65, eB false), (1, eP B1 0)]) (Ac (congrArg Value.bool hg7r) (Ao rfl))
                       refine q0 hf hM [67, 65] [{ g := .off }, { g := .off }] (env' := [(67, .val (undef)), (65, eB false)]) (ob := [false = !true, false = !true]) (Ac rfl (Ao rfl)) ?_
                       clear hf; intro a hf
                       refine q0 hf hM [3] [{ g := .off }, {}, {}] (env' := [(3, eB false)]) (ob := [false = !true]) (Ao rfl) ?_
                       clear hf; intro a hf
                       refine wpList_nil ?_
                       refine hK3 _ _ ?_
                       refine wp_seq_k (fun K73 hK73 => ?_)
                       refine wp_seq_k (fun K74 hK74 => ?_)
                       refine wp_region_lit ?_
                       refine q0 hf hM [71] [{}, {}] (env' := [(71, eB true)]) (ob := []) An ?_
                       clear hf; intro a hf
                       refine wpList_nil ?_
                       refine hK74 _ _ ?_
                       refine sxcond hf (b := true) (by kernel_rfl) (fun _ => ?_) (fun h => by cases h)
                       refine wp_seq_k (fun K75 hK75 => ?_)
                       refine wp_region_lit ?_
                       refine q0 hf hM [2] [{}] (env' := [(2, eI 1)]) (ob := []) An ?_
                       clear hf; intro a hf
                       refine wpList_nil ?_
                       refine hK75 _ _ ?_
                       refine wp_ret ?_
                       refine qr (fn := Tryd.f34) hf hM [] (l := [iV 1]) (ob := []) An ?_
                       show (iV 1 : Value) = .int .i64 (vcheck ⟨k, x, y⟩) ∧ Keep Nn w w16
                       refine ⟨congrArg _ ?_, hk0⟩
                       rw [vcheck_eq]
                       repeat' split
                       all_goals first | rfl | (exfalso; omega)
                   · have hc29 := (nF hc29r)
                     refine wp_seq_k (fun K76 hK76 => ?_)
                     refine wp_region_lit ?_
                     refine q0 hf hM [2] [{}] (env' := [(2, eI 5)]) (ob := []) An ?_
                     clear hf; intro a hf
                     refine wpList_nil ?_
                     refine hK76 _ _ ?_
                     refine wp_ret ?_
                     refine qr (fn := Tryd.f34) hf hM [] (l := [iV 5]) (ob := []) An ?_
                     show (iV 5 : Value) = .int .i64 (vcheck ⟨k, x, y⟩) ∧ Keep Nn w w1
                     refine ⟨congrArg _ ?_, hk0⟩
                     rw [vcheck_eq]
                     repeat' split
                     all_goals first | rfl | (exfalso; omega)

set_option maxRecDepth 10000 in
set_option maxHeartbeats 1600000 in
theorem isnan (n : Int) (w : World) :
    Calls Tryd.prog 107 #[iV n] w (Ret fun v w' => v = .bool false ∧ Keep Nn w w') := by
 refine sxenter (n := 6) (args := [iV n]) Tryd.func107 rfl rfl rfl fun a hf => ?_
 replace hf : Fr 6 [(0, eI n)] a := hf
 have hM : MemOk [] w := MemOk.nil w
 have hk0 : Keep Nn w w := Keep.refl _ _
 refine wp_seq_k (fun K1 hK1 => ?_)
 refine wp_region_lit ?_
 refine q0 hf hM [0] [{}] (env' := [(0, eI n)]) (ob := []) An ?_
 clear hf; intro a hf
 refine wpList_nil ?_
 refine hK1 _ _ ?_
 refine wp_seq_k (fun K2 hK2 => ?_)
 refine wp_region_lit ?_
 refine q0 hf hM [2] [{}, {}, { hint := some (bV false) }, {}] (env' := [(2, eB false)]) (ob := [(bV ((n : Int) != n) : Value) = (bV false : Value)]) (Ao (by simp)) ?_
 clear hf; intro a hf
 refine wpList_nil ?_
 refine hK2 _ _ ?_
 refine wp_ret ?_
 refine qr (fn := Tryd.f107) hf hM [] (l := [bV false]) (ob := []) An ?_
 show (bV false : Value) = .bool false ∧ Keep Nn w w
 exact ⟨rfl, hk0⟩

def cmpI (a b : Int) : Int := if a < b then -1 else if b < a then 1 else 0

set_option maxRecDepth 10000 in
set_option maxHeartbeats 1600000 in
theorem compare_int (x y : Int) (w : World) :
    Calls Tryd.prog 93 #[iV x, iV y] w (Ret fun v w' => v = .int .i64 (cmpI x y) ∧ Keep Nn w w') := by
 refine sxenter (n := 20) (args := [iV x, iV y]) Tryd.func93 rfl rfl rfl fun a hf => ?_
 replace hf : Fr 20 [(0, eI x), (1, eI y)] a := hf
 have hM : MemOk [] w := MemOk.nil w
 have hk0 : Keep Nn w w := Keep.refl _ _
 refine wp_seq_k (fun K1 hK1 => ?_)
 refine wp_region_lit ?_
 refine q0 hf hM [0, 1] [{}] (env' := [(0, eI x), (1, eI y)]) (ob := []) An ?_
 clear hf; intro a hf
 refine wpList_nil ?_
 refine hK1 _ _ ?_
 refine wp_seq_k (fun K2 hK2 => ?_)
 refine wp_region_lit ?_
 refine q0 hf hM [7, 0, 1] [{}] (env' := [(7, eI x), (0, eI x), (1, eI y)]) (ob := []) An ?_
 clear hf; intro a hf
 refine sxcall hf rfl rfl rfl rfl (g := 107) (vs := [iV x]) (ob := []) (by as_aux_lemma => kernel_rfl) An enters107 (isnan x w  ) ?_
 clear hf; rintro _ w1 a ⟨rfl, hk⟩ hf
 have hM := hM.keepNn hk
 have hk0 := hk0.trans hk.nn
 clear hk
 refine q0 hf hM [5, 0, 1] [{}] (env' := [(5, eB false), (0, eI x), (1, eI y)]) (ob := []) An ?_
 clear hf; intro a hf
 refine wpList_nil ?_
 refine hK2 _ _ ?_
 refine wp_seq_k (fun K3 hK3 => ?_)
 refine wp_region_lit ?_
 refine q0 hf hM [9, 5, 0, 1] [{}] (env' := [(9, eI y), (5, eB false), (0, eI x), (1, eI y)]) (ob := []) An ?_
 clear hf; intro a hf
 refine sxcall hf rfl rfl rfl rfl (g := 107) (vs := [iV y]) (ob := []) (by as_aux_lemma => kernel_rfl) An enters107 (isnan y w1  ) ?_
 clear hf; rintro _ w2 a ⟨rfl, hk⟩ hf
 have hM := hM.keepNn hk
 have hk0 := hk0.trans hk.nn
 clear hk
 refine q0 hf hM [6, 5, 0, 1] [{}] (env' := [(6, eB false), (5, eB false), (0, eI x), (1, eI y)]) (ob := []) An ?_
 clear hf; intro a hf
 refine wpList_nil ?_
 refine hK3 _ _ ?_
 refine wp_seq_k (fun K4 hK4 => ?_)
 refine wp_seq_k (fun K5 hK5 => ?_)
 refine wp_region_lit ?_
 refine q0 hf hM [11, 6, 0, 1] [{}] (env' := [(11, eB false), (6, eB false), (0, eI x), (1, eI y)]) (ob := []) An ?_
 clear hf; intro a hf
 refine wpList_nil ?_
 refine hK5 _ _ ?_
 refine sxcond hf (b := false) (by kernel_rfl) (fun h => by cases h) (fun _ => ?_)
 refine wp_skip ?_
 refine hK4 _ _ ?_
 refine wp_seq_k (fun K6 hK6 => ?_)
 refine wp_seq_k (fun K7 hK7 => ?_)
 refine wp_region_lit ?_
 refine q0 hf hM [13, 0, 1] [{}] (env' := [(13, eB false), (0, eI x), (1, eI y)]) (ob := []) An ?_
 clear hf; intro a hf
 refine wpList_nil ?_
 refine hK7 _ _ ?_
 refine sxcond hf (b := false) (by kernel_rfl) (fun h => by cases h) (fun _ => ?_)
 refine wp_skip ?_
 refine hK6 _ _ ?_
 refine wp_seq_k (fun K8 hK8 => ?_)
 refine wp_seq_k (fun K9 hK9 => ?_)
 refine wp_region_lit ?_
 refine q0 hf hM [16, 0, 1] [{}, {}, {}] (env' := [(16, eB (decide ((x : Int) < y))), (0, eI x), (1, eI y)]) (ob := []) An ?_
 clear hf; intro a hf
 refine wpList_nil ?_
 refine hK9 _ _ ?_
 refine qc hf (b := (decide ((x : Int) < y))) (fun hc3r => ?_) (fun hc3r => ?_)
 · have hc3 := (nT hc3r)
   refine wp_seq_k (fun K10 hK10 => ?_)
   refine wp_region_lit ?_
   refine q0 hf hM [4] [{}] (env' := [(4, eI (-1))]) (ob := []) An ?_
   clear hf; intro a hf
   refine wpList_nil ?_
   refine hK10 _ _ ?_
   refine wp_ret ?_
   refine qr (fn := Tryd.f93) hf hM [] (l := [iV (-1)]) (ob := []) An ?_
   show (iV (-1) : Value) = .int .i64 (cmpI x y) ∧ Keep Nn w w2
   refine ⟨congrArg _ ?_, hk0⟩
   unfold cmpI
   repeat' split
   all_goals first | rfl | omega
 · have hc3 := (nU hc3r)
   refine wp_skip ?_
   refine hK8 _ _ ?_
   refine wp_seq_k (fun K11 hK11 => ?_)
   refine wp_seq_k (fun K12 hK12 => ?_)
   refine wp_region_lit ?_
   refine q0 hf hM [19] [{}, {}, {}] (env' := [(19, eB (decide ((x : Int) > y)))]) (ob := []) An ?_
   clear hf; intro a hf
   refine wpList_nil ?_
   refine hK12 _ _ ?_
   refine qc hf (b := (decide ((x : Int) > y))) (fun hc4r => ?_) (fun hc4r => ?_)
   · have hc4 := (nT hc4r)
     refine wp_seq_k (fun K13 hK13 => ?_)
     refine wp_region_lit ?_
     refine q0 hf hM [4] [{}] (env' := [(4, eI 1)]) (ob := []) An ?_
     clear hf; intro a hf
     refine wpList_nil ?_
     refine hK13 _ _ ?_
     refine wp_ret ?_
     refine qr (fn := Tryd.f93) hf hM [] (l := [iV 1]) (ob := []) An ?_
     show (iV 1 : Value) = .int .i64 (cmpI x y) ∧ Keep Nn w w2
     refine ⟨congrArg _ ?_, hk0⟩
     unfold cmpI
     repeat' split
     all_goals first | rfl | omega
   · have hc4 := (nU hc4r)
     refine wp_skip ?_
     refine hK11 _ _ ?_
     refine wp_seq_k (fun K14 hK14 => ?_)
     refine wp_region_lit ?_
     refine q0 hf hM [4] [{}] (env' := [(4, eI 0)]) (ob := []) An ?_
     clear hf; intro a hf
     refine wpList_nil ?_
     refine hK14 _ _ ?_
     refine wp_ret ?_
     refine qr (fn := Tryd.f93) hf hM [] (l := [iV 0]) (ob := []) An ?_
     show (iV 0 : Value) = .int .i64 (cmpI x y) ∧ Keep Nn w w2
     refine ⟨congrArg _ ?_, hk0⟩
     unfold cmpI
     repeat' split
     all_goals first | rfl | omega

set_option maxRecDepth 10000 in
set_option maxHeartbeats 1600000 in
theorem by_kind (k x y : Int) (kq xq yq : Int) (w : World) :
    Calls Tryd.prog 74 #[.agg #[iV k, iV x, iV y], .agg #[iV kq, iV xq, iV yq]] w (Ret fun v w' => v = .int .i64 (cmpI k kq) ∧ Keep Nn w w') := by
 refine sxenter (n := 10) (args := [.agg #[iV k, iV x, iV y], .agg #[iV kq, iV xq, iV yq]]) Tryd.func74 rfl rfl rfl fun a hf => ?_
 replace hf : Fr 10 [(0, .val (.agg #[iV k, iV x, iV y])), (1, .val (.agg #[iV kq, iV xq, iV yq]))] a := hf
 have hM : MemOk [] w := MemOk.nil w
 have hk0 : Keep Nn w w := Keep.refl _ _
 refine wp_seq_k (fun K1 hK1 => ?_)
 refine wp_region_lit ?_
 refine q1 hf hM [3, 2] [{ os := [.nw] }, { os := [.nw] }, {}] (env' := fun B1 => [(3, eP (B1 + 1) 0), (2, eP B1 0)]) (M' := fun B1 => [⟨B1, 62, [iV k, iV x, iV y]⟩, ⟨B1 + 1, 62, [iV kq, iV xq, iV yq]⟩]) (ob := fun B1 => []) (fun B1 => An) ?_
 clear hf hM; intro a w1 B1 hf hM hB hk
 have hbB1 : w.heap.size ≤ B1 := by have := hk0.size; omega
 have hk0 := hk0.then hk (by intro i _ h; cases h)
 clear hk hB
 refine wpList_nil ?_
 refine hK1 _ _ ?_
 refine wp_seq_k (fun K2 hK2 => ?_)
 refine wp_region_lit ?_
 refine q0 hf hM [8, 6] [{}, { os := [.ld 0 0] }, {}, { os := [.ld 1 0] }] (env' := [(8, eI kq), (6, eI k)]) (ob := [Ad B1 0, Ad (B1 + 1) 0]) (Ac (ad _ _) (Ao (ad _ _))) ?_
 clear hf; intro a hf
 refine sxcall hf rfl rfl rfl rfl (g := 93) (vs := [iV k, iV kq]) (ob := []) (by as_aux_lemma => kernel_rfl) An enters93 (compare_int k kq w1  ) ?_
 clear hf; rintro _ w2 a ⟨rfl, hk⟩ hf
 have hM := hM.keepNn hk
 have hk0 := hk0.trans hk.nn
 clear hk
 refine q0 hf hM [4] [{}] (env' := [(4, eI (cmpI k kq))]) (ob := []) An ?_
 clear hf; intro a hf
 refine wpList_nil ?_
 refine hK2 _ _ ?_
 refine wp_ret ?_
 refine qr (fn := Tryd.f74) hf hM [] (l := [iV (cmpI k kq)]) (ob := []) An ?_
 show (iV (cmpI k kq) : Value) = .int .i64 (cmpI k kq) ∧ Keep Nn w w2
 exact ⟨rfl, hk0⟩
end Go.Proofs.YtifcgjnknikjkaaDoor
