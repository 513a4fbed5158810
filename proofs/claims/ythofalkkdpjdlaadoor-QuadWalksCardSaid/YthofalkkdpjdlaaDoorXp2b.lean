/- Plain words for layer 2, continued: places in rising lists; how two things compare. -/
import Derived.Test.YthofalkkdpjdlaaDoorXp2
namespace Go.Px
set_option linter.unusedVariables false
set_option linter.unusedSimpArgs false
set_option linter.unusedSectionVars false

section
variable {α : Type} [DecidableEq α] {lt : α → α → Bool}
/-- Where a thing stands, or would stand. -/
def pos (lt : α → α → Bool) (l : List α) (t : α) : Nat := (l.takeWhile fun y => lt y t).length
theorem pos_le (l : List α) (t : α) : pos lt l t ≤ l.length := (List.takeWhile_sublist _).length_le
theorem takeWhile_pos (l : List α) (t : α) : l.takeWhile (fun y => lt y t) = l.take (pos lt l t) := by
  have h := List.takeWhile_append_dropWhile (p := fun y => lt y t) (l := l)
  have h1 : (l.takeWhile (fun y => lt y t) ++ l.dropWhile (fun y => lt y t)).take (pos lt l t) = l.takeWhile (fun y => lt y t) := List.take_left
  rw [h] at h1
  exact h1.symm
theorem dropWhile_pos (l : List α) (t : α) : l.dropWhile (fun y => lt y t) = l.drop (pos lt l t) := by
  have h := List.takeWhile_append_dropWhile (p := fun y => lt y t) (l := l)
  have h1 : (l.takeWhile (fun y => lt y t) ++ l.dropWhile (fun y => lt y t)).drop (pos lt l t) = l.dropWhile (fun y => lt y t) := List.drop_left
  rw [h] at h1
  exact h1.symm
theorem pos_unique : ∀ {l : List α} {t d : α} {i : Nat}, i ≤ l.length → (∀ j, j < i → lt (l.getD j d) t = true) → (i < l.length → lt (l.getD i d) t = false) → i = pos lt l t
  | [], t, d, i, hi, _, _ => by simp at hi; subst hi; rfl
  | y :: r, t, d, 0, _, _, h2 => by
    have := h2 (by simp)
    simp at this
    simp [pos, this]
  | y :: r, t, d, i + 1, hi, h1, h2 => by
    have h0 := h1 0 (by omega)
    simp at h0
    have ih := pos_unique (l := r) (t := t) (d := d) (i := i) (by simpa using hi) (fun j hj => by simpa using h1 (j + 1) (by omega)) (fun h => by simpa using h2 (by simpa using h))
    simp only [pos] at ih ⊢
    rw [List.takeWhile_cons, if_pos h0, List.length_cons, ← ih]
theorem pos_lt {l : List α} {t d : α} {j : Nat} (h : j < pos lt l t) : lt (l.getD j d) t = true := by
  have hl := pos_le (lt := lt) l t
  have hm : l.getD j d ∈ l.takeWhile (fun y => lt y t) := by
    rw [takeWhile_pos, List.mem_take_iff_getElem]
    exact ⟨j, by omega, by simp [List.getD_eq_getElem?_getD, show j < l.length by omega]⟩
  exact mem_takeWhile (p := fun y => lt y t) hm
theorem pos_ge (h : Ord lt) {l : List α} (hl : Rises lt l) {t d : α} {j : Nat} (hj : pos lt l t ≤ j) (hjl : j < l.length) : lt (l.getD j d) t = false := by
  refine dropWhile_ge h hl _ ?_
  rw [dropWhile_pos, List.mem_drop_iff_getElem]
  exact ⟨j - pos lt l t, by omega, by simp [List.getD_eq_getElem?_getD, hjl, show pos lt l t + (j - pos lt l t) = j by omega]⟩
theorem pos_mem (h : Ord lt) {l : List α} (hl : Rises lt l) (t d : α) : t ∈ l ↔ pos lt l t < l.length ∧ l.getD (pos lt l t) d = t := by
  constructor
  · intro hm
    obtain ⟨j, hj, rfl⟩ := List.getElem_of_mem hm
    have hp : j = pos lt l l[j] := by
      refine pos_unique (d := d) (by omega) (fun k hk => ?_) (fun _ => ?_)
      · have := (List.pairwise_iff_getElem.1 hl) k j (by omega) hj hk
        simpa [List.getD_eq_getElem?_getD, show k < l.length by omega] using this
      · simp [List.getD_eq_getElem?_getD, hj, h.irr]
    rw [← hp]
    exact ⟨hj, by simp [List.getD_eq_getElem?_getD, hj]⟩
  · rintro ⟨h1, h2⟩
    rw [← h2]
    simp [List.getD_eq_getElem?_getD, h1]
theorem putS_eq (l : List α) (x : α) : putS lt l x = if x ∈ l then l else l.take (pos lt l x) ++ x :: l.drop (pos lt l x) := by
  unfold putS
  rw [takeWhile_pos, dropWhile_pos]
theorem putS_in {l : List α} {x : α} (h : x ∈ l) : putS lt l x = l := by rw [putS_eq, if_pos h]
theorem putS_out {l : List α} {x : α} (h : ¬ x ∈ l) : putS lt l x = l.take (pos lt l x) ++ x :: l.drop (pos lt l x) := by rw [putS_eq, if_neg h]
/-- A thing's place; -1: it isn't there. -/
def findS (lt : α → α → Bool) (l : List α) (t : α) : Int := if t ∈ l then (pos lt l t : Int) else -1
/-- A halving search's state. -/
structure Half (lt : α → α → Bool) (l : List α) (t d : α) (i j : Int) : Prop where
  le : 0 ≤ i ∧ i ≤ j ∧ j ≤ l.length
  lo : ∀ k, k < i.toNat → lt (l.getD k d) t = true
  hi : ∀ k, j.toNat ≤ k → k < l.length → lt (l.getD k d) t = false
theorem Half.start (l : List α) (t d : α) : Half lt l t d 0 l.length := ⟨by omega, fun k hk => by simp at hk, fun k h1 h2 => by omega⟩
theorem Half.low (h : Ord lt) {l : List α} {t d : α} {i j m : Int} (hl : Rises lt l) (hh : Half lt l t d i j) (hm : i ≤ m ∧ m < j) (hx : lt (l.getD m.toNat d) t = true) : Half lt l t d (m + 1) j := by
  have hle := hh.le
  refine ⟨by omega, fun k hk => ?_, hh.hi⟩
  rcases Nat.lt_or_ge k m.toNat with h1 | h1
  · have h2 := (List.pairwise_iff_getElem.1 hl) k m.toNat (by omega) (by omega) h1
    refine h.tr _ _ _ ?_ hx
    simpa [List.getD_eq_getElem?_getD, show k < l.length by omega, show m.toNat < l.length by omega] using h2
  · obtain rfl : k = m.toNat := by omega
    exact hx
theorem Half.high (h : Ord lt) {l : List α} {t d : α} {i j m : Int} (hl : Rises lt l) (hh : Half lt l t d i j) (hm : i ≤ m ∧ m < j) (hx : lt (l.getD m.toNat d) t = false) : Half lt l t d i m := by
  have hle := hh.le
  refine ⟨by omega, hh.lo, fun k hk hkl => ?_⟩
  rcases Nat.lt_or_ge m.toNat k with h1 | h1
  · have h2 := (List.pairwise_iff_getElem.1 hl) m.toNat k (by omega) hkl h1
    cases h3 : lt (l.getD k d) t with
    | false => rfl
    | true =>
      have h4 : lt (l.getD m.toNat d) (l.getD k d) = true := by simpa [List.getD_eq_getElem?_getD, hkl, show m.toNat < l.length by omega] using h2
      rw [h.tr _ _ _ h4 h3] at hx
      cases hx
  · obtain rfl : k = m.toNat := by omega
    exact hx
theorem Half.done {l : List α} {t d : α} {i j : Int} (hh : Half lt l t d i j) (hij : j ≤ i) : i = (pos lt l t : Nat) := by
  have hle := hh.le
  have h1 := pos_unique (lt := lt) (l := l) (t := t) (d := d) (i := i.toNat) (by omega) hh.lo (fun h => hh.hi _ (by omega) h)
  omega
end

/-- How numbers, handles and pairs compare. -/
def orI (a b : Int) : Int := if a = 0 then b else a
def cmpN (x y : Int) : Int := if x < y then -1 else if y < x then 1 else 0
def cmpH (x y : H2) : Int := orI (cmpN x.i y.i) (cmpN x.g y.g)
def cmpP (x y : P4) : Int := orI (cmpH x.a y.a) (cmpH x.b y.b)
theorem cmpN_neg (x y : Int) : cmpN x y < 0 ↔ x < y := by unfold cmpN; split <;> (try split) <;> omega
theorem cmpN_zero (x y : Int) : cmpN x y = 0 ↔ x = y := by unfold cmpN; split <;> (try split) <;> omega
theorem cmpN_vals (x y : Int) : cmpN x y = -1 ∨ cmpN x y = 0 ∨ cmpN x y = 1 := by unfold cmpN; split <;> (try split) <;> simp
theorem cmpH_neg (x y : H2) : cmpH x y < 0 ↔ ltH x y = true := by
  simp only [cmpH, orI, ltH, decide_eq_true_eq]
  have h1 := cmpN_neg x.i y.i
  have h2 := cmpN_zero x.i y.i
  have h3 := cmpN_neg x.g y.g
  split <;> omega
theorem cmpH_zero (x y : H2) : cmpH x y = 0 ↔ x = y := by
  have h2 := cmpN_zero x.i y.i
  have h4 := cmpN_zero x.g y.g
  constructor
  · intro h
    simp only [cmpH, orI] at h
    split at h
    · exact h2_ext (h2.1 (by assumption)) (h4.1 h)
    · exact absurd h (by assumption)
  · rintro rfl
    simp [cmpH, orI, cmpN]
theorem cmpH_vals (x y : H2) : cmpH x y = -1 ∨ cmpH x y = 0 ∨ cmpH x y = 1 := by
  unfold cmpH orI
  split
  · exact cmpN_vals ..
  · exact cmpN_vals ..
theorem cmpP_neg (x y : P4) : cmpP x y < 0 ↔ ltP x y = true := by
  have h1 := cmpH_neg x.a y.a
  have h2 := cmpH_zero x.a y.a
  have h3 := cmpH_neg x.b y.b
  simp only [cmpP, orI, ltP, Bool.or_eq_true, Bool.and_eq_true, decide_eq_true_eq]
  split
  · rename_i h
    have e := h2.1 h
    rw [e] at h1 ⊢
    have : ¬ ltH y.a y.a = true := by simp [ordH.irr]
    simp [this, h3]
  · rename_i h
    rw [h1]
    constructor
    · exact .inl
    · rintro (h4 | ⟨h4, _⟩)
      · exact h4
      · exact absurd (h2.2 h4) h
theorem cmpP_zero (x y : P4) : cmpP x y = 0 ↔ x = y := by
  have h2 := cmpH_zero x.a y.a
  have h4 := cmpH_zero x.b y.b
  constructor
  · intro h
    simp only [cmpP, orI] at h
    split at h
    · exact p4_ext (h2.1 (by assumption)) (h4.1 h)
    · exact absurd h (by assumption)
  · rintro rfl
    have e1 := (cmpH_zero x.a x.a).2 rfl
    have e2 := (cmpH_zero x.b x.b).2 rfl
    simp [cmpP, orI, e1, e2]
end Go.Px
