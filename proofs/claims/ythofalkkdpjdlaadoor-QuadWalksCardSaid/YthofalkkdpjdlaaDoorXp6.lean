/- Plain words for layers 3, 6 and 9: components, rows, masks. -/
import Derived.Test.YthofalkkdpjdlaaDoorX9
namespace Go.Px
set_option linter.unusedVariables false
set_option linter.unusedSimpArgs false

/-- A component: its kind and its two numbers. -/
structure V3 where
  k : Int
  a : Int
  b : Int
  deriving DecidableEq, Inhabited

def fI (x : Int) : List Value := [.int .i64 x]
def fB (x : Bool) : List Value := [.bool x]
def fV (x : V3) : List Value := [.int .i64 x.k, .int .i64 x.a, .int .i64 x.b]
theorem fI_one (x : Int) : ∀ u ∈ fI x, u.oneCell' = true := by intro u hu; simp [fI] at hu; subst hu; rfl
theorem fB_one (x : Bool) : ∀ u ∈ fB x, u.oneCell' = true := by intro u hu; simp [fB] at hu; subst hu; rfl
theorem fV_one (x : V3) : ∀ u ∈ fV x, u.oneCell' = true := by intro u hu; simp [fV] at hu; rcases hu with rfl | rfl | rfl <;> rfl

/-- A component's check: 0: it is right; 5: no such kind; 1: out of range. -/
def vkind (v : V3) : Bool := decide (0 ≤ v.k ∧ v.k ≤ 9)
def vrange (v : V3) : Bool :=
  if v.k = 0 ∨ v.k = 2 then decide (-1048576 ≤ v.a ∧ v.a ≤ 1048576 ∧ -1048576 ≤ v.b ∧ v.b ≤ 1048576)
  else if v.k = 1 then decide (0 ≤ v.a ∧ v.a ≤ 1048576 ∧ 0 ≤ v.b ∧ v.b ≤ 1048576)
  else if v.k = 3 then decide (v.a = 0 ∧ v.b = 0)
  else if v.k = 4 then decide (0 ≤ v.a ∧ v.a ≤ 255 ∧ v.b = 0)
  else if v.k = 5 then decide (0 ≤ v.a ∧ v.a ≤ 1048576 ∧ v.b = 0)
  else decide (-4194304 ≤ v.a ∧ v.a ≤ 4194304 ∧ -4194304 ≤ v.b ∧ v.b ≤ 4194304)
def vcheck (v : V3) : Int := if vkind v then (if vrange v then 0 else 1) else 5
theorem vcheck_eq (k x y : Int) : vcheck ⟨k, x, y⟩ =
    if ¬ (0 ≤ k ∧ k ≤ 9) then 5
    else if k = 0 ∨ k = 2 then (if -1048576 ≤ x ∧ x ≤ 1048576 ∧ -1048576 ≤ y ∧ y ≤ 1048576 then 0 else 1)
    else if k = 1 then (if 0 ≤ x ∧ x ≤ 1048576 ∧ 0 ≤ y ∧ y ≤ 1048576 then 0 else 1)
    else if k = 3 then (if x = 0 ∧ y = 0 then 0 else 1)
    else if k = 4 then (if 0 ≤ x ∧ x ≤ 255 ∧ y = 0 then 0 else 1)
    else if k = 5 then (if 0 ≤ x ∧ x ≤ 1048576 ∧ y = 0 then 0 else 1)
    else (if -4194304 ≤ x ∧ x ≤ 4194304 ∧ -4194304 ≤ y ∧ y ≤ 4194304 then 0 else 1) := by
  unfold vcheck vkind vrange
  by_cases h9 : 0 ≤ k ∧ k ≤ 9
  · by_cases h0 : k = 0 ∨ k = 2
    · simp [h9, h0]
    · by_cases h1 : k = 1
      · simp [h1]
      · by_cases h3 : k = 3
        · simp [h3]
        · by_cases h4 : k = 4
          · simp [h4]
          · by_cases h5 : k = 5
            · simp [h5]
            · simp [h9, h0, h1, h3, h4, h5]
  · simp [h9]
/-- The first check that fails. -/
def firstBad : List V3 → Int
  | [] => 0
  | v :: r => if vcheck v = 0 then firstBad r else vcheck v
/-- The components in the order of their kinds. -/
def byKinds (l : List V3) (n : Nat) : List V3 := (List.range n).flatMap fun k : Nat => l.filter fun v => v.k == (k : Int)

def v0 : V3 := ⟨0, 0, 0⟩
theorem drop_cons {α : Type} {l : List α} {i : Nat} {d : α} (h : i < l.length) : l.drop i = l.getD i d :: l.drop (i + 1) := by
  rw [List.drop_eq_getElem_cons h]
  simp [List.getD_eq_getElem?_getD, h]
theorem take_snoc {α : Type} {l : List α} {i : Nat} {d : α} (h : i < l.length) : l.take (i + 1) = l.take i ++ [l.getD i d] := by
  rw [List.take_add_one]
  simp [List.getD_eq_getElem?_getD, h]
theorem firstBad_step {l : List V3} {i : Nat} {d : V3} (h : i < l.length) : firstBad (l.drop i) = if vcheck (l.getD i d) = 0 then firstBad (l.drop (i + 1)) else vcheck (l.getD i d) := by
  rw [drop_cons (d := d) h]
  rfl
theorem vcheck_vals (v : V3) : vcheck v = 0 ∨ vcheck v = 1 ∨ vcheck v = 5 := by unfold vcheck; split <;> (try split) <;> simp
theorem vcheck_kind {v : V3} (h : vkind v = false) : vcheck v = 5 := by simp [vcheck, h]
theorem vcheck_range {v : V3} (h : vkind v = true) (h2 : vrange v = false) : vcheck v = 1 := by simp [vcheck, h, h2]
theorem vcheck_ok {v : V3} (h : vkind v = true) (h2 : vrange v = true) : vcheck v = 0 := by simp [vcheck, h, h2]
theorem firstBad_vals : ∀ l, firstBad l = 0 ∨ firstBad l = 1 ∨ firstBad l = 5
  | [] => .inl rfl
  | v :: r => by
    rcases vcheck_vals v with h | h | h <;> simp only [firstBad, h] <;> first | (simp; exact firstBad_vals r) | simp
theorem firstBad_all : ∀ {l : List V3}, firstBad l = 0 → ∀ v ∈ l, vcheck v = 0
  | [], _, v, h => by simp at h
  | x :: r, h0, v, h => by
    simp only [firstBad] at h0
    split at h0
    · rename_i hx
      rcases List.mem_cons.1 h with rfl | h
      · exact hx
      · exact firstBad_all h0 v h
    · rename_i hx; exact absurd h0 hx
/-- Is a row right? -/
def rightV (l : List V3) : Bool := decide (∀ j, j < l.length → vcheck (l.getD j v0) = 0 ∧ (0 < j → (l.getD (j - 1) v0).k < (l.getD j v0).k))
end Go.Px
