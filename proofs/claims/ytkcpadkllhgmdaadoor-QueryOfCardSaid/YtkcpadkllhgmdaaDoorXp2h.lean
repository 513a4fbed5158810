/- Plain words for layer 2: numbers in order, lists put together, lists without others. -/
import Derived.Test.YtkcpadkllhgmdaaDoorXp2f
namespace Go.Px
set_option linter.unusedVariables false
set_option linter.unusedSimpArgs false
set_option linter.unusedSectionVars false
section
variable {α : Type} [DecidableEq α] {lt : α → α → Bool}
theorem dropP_in {p : α → Bool} {l : List α} {i : Int} (d : α) (h : 0 ≤ i ∧ i < (l.length : Int)) (hk : p (l.getD i.toNat d) = false) : dropP p (l.take (i + 1).toNat) = dropP p (l.take i.toNat) ++ [l.getD i.toNat d] := by
  rw [take_nextI (d := d) h, dropP_snoc, if_neg (by rw [hk]; exact Bool.false_ne_true)]
theorem dropP_out {p : α → Bool} {l : List α} {i : Int} (d : α) (h : 0 ≤ i ∧ i < (l.length : Int)) (hk : p (l.getD i.toNat d) = true) : dropP p (l.take (i + 1).toNat) = dropP p (l.take i.toNat) := by
  rw [take_nextI (d := d) h, dropP_snoc, if_pos hk, List.append_nil]
theorem ordS_one (h : Ord lt) {l : List α} (hl : Rises lt l) (x : α) : ordS lt (l ++ [x]) = putS lt l x := by rw [ordS_snoc, ordS_id h hl]
theorem findS_in {l : List α} {t : α} : decide (findS lt l t ≥ 0) = inS l t := by
  unfold findS inS
  split
  · rename_i h
    simp [h]
  · rename_i h
    simp [h]
theorem findS_neg {l : List α} {t : α} : decide (findS lt l t < 0) = !inS l t := by
  unfold findS inS
  split
  · rename_i h
    simp [h]
  · rename_i h
    simp [h]
theorem findS_at (h : Ord lt) {l : List α} (hl : Rises lt l) {i : Int} (d : α) (hi : 0 ≤ i ∧ i < (l.length : Int)) : findS lt l (l.getD i.toNat d) = i := by
  have hm : l.getD i.toNat d ∈ l := by
    rw [List.getD_eq_getElem?_getD, List.getElem?_eq_getElem (by omega)]
    exact List.getElem_mem _
  have hp : i.toNat = pos lt l (l.getD i.toNat d) := by
    refine pos_unique (d := d) (by omega) (fun j hj => ?_) (fun _ => h.irr _)
    have h1 := List.pairwise_iff_getElem.1 hl j i.toNat (by omega) (by omega) hj
    simpa [List.getD_eq_getElem?_getD, List.getElem?_eq_getElem (show j < l.length by omega), List.getElem?_eq_getElem (show i.toNat < l.length by omega)] using h1
  unfold findS
  rw [if_pos hm, ← hp]
  omega
theorem mem_dropP {p : α → Bool} {l : List α} {x : α} : x ∈ dropP p l ↔ x ∈ l ∧ p x = false := by simp [dropP]
theorem both_len (h : Ord lt) {x y : List α} (hx : Rises lt x) (hy : Rises lt y) : (ordS lt (x ++ y)).length = x.length + (dropP (inS x) y).length := by
  have h1 : (x ++ dropP (inS x) y).Nodup := by
    refine List.nodup_append.2 ⟨hx.nodup h, (hy.nodup h).sublist List.filter_sublist, fun a ha b hb e => ?_⟩
    subst e
    have h2 := (mem_dropP.1 hb).2
    unfold inS at h2
    exact of_decide_eq_false h2 ha
  have h2 : (ordS lt (x ++ y)).Perm (x ++ dropP (inS x) y) := (List.perm_ext_iff_of_nodup ((ordS_rises h _).nodup h) h1).2 fun a => by
    rw [mem_ordS, List.mem_append, List.mem_append, mem_dropP]
    unfold inS
    rw [decide_eq_false_iff_not]
    by_cases ha : a ∈ x
    · simp [ha]
    · simp [ha]
  rw [h2.length_eq, List.length_append]
theorem both_sym (h : Ord lt) (x y : List α) : ordS lt (x ++ y) = ordS lt (y ++ x) := ordS_ext h fun a => by rw [List.mem_append, List.mem_append, or_comm]
theorem both_at (h : Ord lt) {x y : List α} {i : Int} (d : α) (hi : 0 ≤ i ∧ i < ((ordS lt (x ++ y)).length : Int)) : inS x ((ordS lt (x ++ y)).getD i.toNat d) = true ∨ inS y ((ordS lt (x ++ y)).getD i.toNat d) = true := by
  have hm : (ordS lt (x ++ y)).getD i.toNat d ∈ ordS lt (x ++ y) := by
    rw [List.getD_eq_getElem?_getD, List.getElem?_eq_getElem (by omega)]
    exact List.getElem_mem _
  rw [mem_ordS, List.mem_append] at hm
  unfold inS
  rcases hm with hm | hm
  · exact .inl (decide_eq_true hm)
  · exact .inr (decide_eq_true hm)
theorem inS_next {l : List α} {i : Int} {t d : α} (h : 0 ≤ i ∧ i < (l.length : Int)) (hno : inS (l.take i.toNat) t = false) (hx : l.getD i.toNat d ≠ t) : inS (l.take (i + 1).toNat) t = false := by
  rw [take_nextI (d := d) h]
  unfold inS at hno ⊢
  rw [decide_eq_false_iff_not] at hno ⊢
  rw [List.mem_append, List.mem_singleton]
  rintro (h1 | h1)
  · exact hno h1
  · exact hx h1.symm
theorem inS_here {l : List α} {i : Int} {t d : α} (h : 0 ≤ i ∧ i < (l.length : Int)) (hx : l.getD i.toNat d = t) : inS l t = true := by
  unfold inS
  rw [decide_eq_true_eq, ← hx, List.getD_eq_getElem?_getD, List.getElem?_eq_getElem (by omega)]
  exact List.getElem_mem _
theorem getD_mem {l : List α} {i : Nat} (d : α) (h : i < l.length) : l.getD i d ∈ l := by
  rw [List.getD_eq_getElem?_getD, List.getElem?_eq_getElem h]
  exact List.getElem_mem _
end
theorem room_at {l : List Int} {i k : Nat} (h : i = l.length + k) (hk : k < 4) : (l ++ ([-91, -92, -93, -94] : List Int)).getD i 0 = -91 - k := by
  subst h
  rw [List.getD_eq_getElem?_getD, List.getElem?_append_right (by omega), show l.length + k - l.length = k by omega]
  rcases (by omega : k = 0 ∨ k = 1 ∨ k = 2 ∨ k = 3) with rfl | rfl | rfl | rfl <;> rfl
theorem neq_of {x y : Int} (h : x = y) : (x != y) = false := by simp [h]
theorem both_no {x y : List H2} {t : H2} (h1 : findS ltH x t < 0) (h2 : findS ltH y t < 0) (h : inS x t = true ∨ inS y t = true) : False := by
  have e1 := findS_neg (lt := ltH) (l := x) (t := t)
  have e2 := findS_neg (lt := ltH) (l := y) (t := t)
  rcases h with h | h
  · rw [h, decide_eq_true h1] at e1
    cases e1
  · rw [h, decide_eq_true h2] at e2
    cases e2
theorem room_take (l m : List Int) : sameL ((l ++ m).take l.length) l = true := by simp [sameL]
/-- The law of numbers: with one more, and without one. -/
theorem ints_put (l : List Int) (n : Int) : sameL (putS ltI (ordS ltI l) n) (ordS ltI (ordS ltI l ++ [n])) = true := by
  rw [ordS_one ordI (ordS_rises ordI l)]
  exact sameL_refl _
end Go.Px
