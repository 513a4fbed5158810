/- Plain words for layer 6, continued: a row's component of a kind. -/
import Derived.Test.YthofalkkdpjdlaaDoorXp6
namespace Go.Px
set_option linter.unusedVariables false
set_option linter.unusedSimpArgs false
/-- A row's component of a kind, or the one of no fields. -/
def findV (l : List V3) (k : Int) : V3 := (l.find? fun v => v.k == k).getD v0
def hasV (l : List V3) (k : Int) : Bool := (l.find? fun v => v.k == k).isSome
theorem find_next {l : List V3} {i : Nat} {k : Int} {d : V3} (h : (l.drop i).find? (fun v => v.k == k) = l.find? fun v => v.k == k) (hi : i < l.length) (hk : ¬ (l.getD i d).k = k) : (l.drop (i + 1)).find? (fun v => v.k == k) = l.find? fun v => v.k == k := by
  rw [drop_cons (d := d) hi, List.find?_cons] at h
  have : ((l.getD i d).k == k) = false := by simpa using hk
  rw [this] at h
  exact h
theorem find_here {l : List V3} {i : Nat} {k : Int} {d : V3} (h : (l.drop i).find? (fun v => v.k == k) = l.find? fun v => v.k == k) (hi : i < l.length) (hk : (l.getD i d).k = k) : findV l k = l.getD i d ∧ hasV l k = true := by
  rw [drop_cons (d := d) hi, List.find?_cons] at h
  have : ((l.getD i d).k == k) = true := by simpa using hk
  rw [this] at h
  simp only at h
  simp [findV, hasV, ← h]
theorem find_none {l : List V3} {i : Nat} {k : Int} (h : (l.drop i).find? (fun v => v.k == k) = l.find? fun v => v.k == k) (hi : l.length ≤ i) : findV l k = v0 ∧ hasV l k = false := by
  rw [List.drop_eq_nil_of_le hi] at h
  simp only [List.find?_nil] at h
  simp [findV, hasV, ← h]
end Go.Px
