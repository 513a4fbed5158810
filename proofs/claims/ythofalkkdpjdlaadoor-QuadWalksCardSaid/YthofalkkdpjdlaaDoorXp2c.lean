/- Plain words for layer 2, continued: a list in which neighbours that are the same are made one, in place. -/
import Derived.Test.YthofalkkdpjdlaaDoorXp2b
namespace Go.Px
set_option linter.unusedVariables false
set_option linter.unusedSimpArgs false
set_option linter.unusedSectionVars false

section
variable {α : Type} [DecidableEq α]
theorem comp_snoc2 : ∀ (l : List α) (y x : α), comp (l ++ [y] ++ [x]) = if y = x then comp (l ++ [y]) else comp (l ++ [y]) ++ [x]
  | [], y, x => by by_cases h : y = x <;> simp [comp, h]
  | [a], y, x => by by_cases h : a = y <;> by_cases h2 : y = x <;> simp_all [comp]
  | a :: b :: r, y, x => by
    have ih := comp_snoc2 (b :: r) y x
    simp only [List.cons_append, List.nil_append, comp] at ih ⊢
    split
    · exact ih
    · rw [ih]
      split <;> simp
theorem comp_take {l : List α} {j : Nat} {d : α} (h0 : 0 < j) (h : j < l.length) : comp (l.take (j + 1)) = if l.getD (j - 1) d = l.getD j d then comp (l.take j) else comp (l.take j) ++ [l.getD j d] := by
  have e1 : l.take (j + 1) = l.take j ++ [l.getD j d] := take_snoc h
  have e2 : l.take j = l.take (j - 1) ++ [l.getD (j - 1) d] := by
    have := take_snoc (l := l) (i := j - 1) (d := d) (by omega)
    rwa [show j - 1 + 1 = j by omega] at this
  rw [e1]
  conv => lhs; rw [e2]
  conv => rhs; rw [e2]
  exact comp_snoc2 _ _ _
theorem comp_one (l : List α) (h : l.length < 2) : comp l = l := by
  match l, h with
  | [], _ => rfl
  | [x], _ => rfl
/-- The first k stand as they are; from j on nothing has been looked at. -/
structure Cmp (l ll : List α) (k j : Nat) : Prop where
  len : ll.length = l.length
  kept : ll.take k = comp (l.take j)
  rest : ll.drop k = l.drop k
  k1 : 1 ≤ k
  le : k < j
  jl : j ≤ l.length
theorem Cmp.start {l : List α} {k : Nat} {d : α} (h1 : 1 ≤ k) (h : k < l.length) (hc : comp (l.take k) = l.take k) (he : l.getD k d = l.getD (k - 1) d) : Cmp l l k (k + 1) := by
  refine ⟨rfl, ?_, rfl, h1, by omega, h⟩
  rw [comp_take (d := d) (by omega) h, if_pos he.symm, hc]
theorem comp_go {l : List α} {k : Nat} {d : α} (h1 : 1 ≤ k) (h : k < l.length) (hc : comp (l.take k) = l.take k) (he : l.getD k d ≠ l.getD (k - 1) d) : comp (l.take (k + 1)) = l.take (k + 1) := by
  rw [comp_take (d := d) (by omega) h, if_neg (fun e => he e.symm), hc, take_snoc (d := d) h]
theorem Cmp.at_ {l ll : List α} {k j i : Nat} {d : α} (h : Cmp l ll k j) (hi : k ≤ i) : ll.getD i d = l.getD i d := by
  have h1 : (ll.drop k)[i - k]? = (l.drop k)[i - k]? := by rw [h.rest]
  simp only [List.getElem?_drop, show k + (i - k) = i by omega] at h1
  simp [List.getD_eq_getElem?_getD, h1]
theorem Cmp.skip {l ll : List α} {k j : Nat} {d : α} (h : Cmp l ll k j) (hj : j < l.length) (he : ll.getD j d = ll.getD (j - 1) d) : Cmp l ll k (j + 1) := by
  have hk := h.le
  have hk1 := h.k1
  rw [h.at_ (by omega), h.at_ (by omega)] at he
  exact ⟨h.len, by rw [comp_take (d := d) (by omega) hj, if_pos he.symm]; exact h.kept, h.rest, h.k1, by omega, hj⟩
theorem Cmp.keep {l ll : List α} {k j : Nat} {d : α} (h : Cmp l ll k j) (hj : j < l.length) (he : ll.getD j d ≠ ll.getD (j - 1) d) : Cmp l (ll.set k (ll.getD j d)) (k + 1) (j + 1) := by
  have hk := h.le
  have hk1 := h.k1
  have hl := h.len
  have e2 : ll.getD j d = l.getD j d := h.at_ (by omega)
  rw [h.at_ (by omega), h.at_ (by omega)] at he
  refine ⟨by simpa using h.len, ?_, ?_, by omega, by omega, hj⟩
  · have e : (ll.set k (ll.getD j d)).take (k + 1) = ll.take k ++ [ll.getD j d] := by
      rw [take_snoc (d := d) (by simp; omega), List.take_set_of_le (Nat.le_refl _)]
      congr 2
      simp [List.getD_eq_getElem?_getD, show k < ll.length by omega]
    rw [e, h.kept, e2, comp_take (d := d) (by omega) hj, if_neg (fun e => he e.symm)]
  · rw [List.drop_set_of_lt (by omega)]
    exact drop_next h.rest
theorem Cmp.done {l ll : List α} {k j : Nat} (h : Cmp l ll k j) (hj : l.length ≤ j) (r : List α) : (ll.take k ++ r).take k = comp l := by
  have hle := h.le
  have hlen := h.len
  have hjl := h.jl
  rw [List.take_append_of_le_length (by rw [List.length_take]; omega), List.take_take, Nat.min_self, h.kept, List.take_of_length_le hj]
theorem Cmp.lenEq {l ll : List α} {k j : Nat} (h : Cmp l ll k j) (hj : l.length ≤ j) : k = (comp l).length := by
  have hle := h.le
  have hlen := h.len
  have hjl := h.jl
  have h1 := congrArg List.length h.kept
  rw [List.take_of_length_le hj, List.length_take] at h1
  omega
theorem comp_len : ∀ l : List α, (comp l).length ≤ l.length
  | [] => by simp [comp]
  | [x] => by simp [comp]
  | x :: y :: r => by
    have ih := comp_len (y :: r)
    simp only [comp]
    split
    · simp only [List.length_cons] at ih ⊢; omega
    · simp only [List.length_cons] at ih ⊢; omega
theorem getD_drop {l : List α} {m i : Nat} {d : α} : (l.drop m).getD i d = l.getD (m + i) d := by simp [List.getD_eq_getElem?_getD]
end
end Go.Px
