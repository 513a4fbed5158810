/- Texts put together: Xp2, Xp2b, Xp2c, Xp2s, Xp2d, Xp2e, Xp2f, Xp2h. -/
import Derived.Test.YthofalkkdpjdlaaDoorXpA
import Derived.Test.YthofalkkdpjdlaaDoorXS
namespace Go.Px
set_option linter.unusedVariables false
set_option linter.unusedSimpArgs false
set_option linter.unusedSectionVars false

/-- An order: of two things one comes ahead, or they are the same. -/
structure Ord {α : Type} (lt : α → α → Bool) : Prop where
  irr : ∀ x, lt x x = false
  tr : ∀ x y z, lt x y = true → lt y z = true → lt x z = true
  tri : ∀ x y, lt x y = true ∨ x = y ∨ lt y x = true

section
variable {α : Type} [DecidableEq α] {lt : α → α → Bool}
/-- Rising, each once. -/
def Rises (lt : α → α → Bool) (l : List α) : Prop := l.Pairwise fun x y => lt x y = true
theorem Ord.ne (h : Ord lt) {x y : α} (hxy : lt x y = true) : x ≠ y := by
  rintro rfl
  rw [h.irr] at hxy
  cases hxy
theorem Ord.asym (h : Ord lt) {x y : α} (hxy : lt x y = true) : lt y x = false := by
  cases hyx : lt y x with
  | false => rfl
  | true =>
    have := h.tr _ _ _ hxy hyx
    rw [h.irr] at this
    cases this
theorem Rises.nodup (h : Ord lt) {l : List α} (hl : Rises lt l) : l.Nodup := hl.imp fun {x y} hxy => h.ne hxy
theorem Rises.ext (h : Ord lt) {l m : List α} (hl : Rises lt l) (hm : Rises lt m) (hmem : ∀ x, x ∈ l ↔ x ∈ m) : l = m :=
  List.Perm.eq_of_pairwise (le := fun x y : α => lt x y = true) (fun x y _ _ h1 h2 => by rw [h.asym h1] at h2; cases h2) hl hm ((List.perm_ext_iff_of_nodup (hl.nodup h) (hm.nodup h)).2 hmem)

/-- A rising list with one more. -/
def putS (lt : α → α → Bool) (l : List α) (x : α) : List α := if x ∈ l then l else l.takeWhile (fun y => lt y x) ++ x :: l.dropWhile (fun y => lt y x)
theorem mem_putS (l : List α) (x y : α) : y ∈ putS lt l x ↔ y ∈ l ∨ y = x := by
  unfold putS
  split
  · rename_i h
    constructor
    · exact .inl
    · rintro (h1 | rfl)
      · exact h1
      · exact h
  · have e : y ∈ l ↔ y ∈ l.takeWhile (fun y => lt y x) ∨ y ∈ l.dropWhile (fun y => lt y x) := by
      conv => lhs; rw [← List.takeWhile_append_dropWhile (p := fun y => lt y x) (l := l)]
      exact List.mem_append
    rw [e, List.mem_append, List.mem_cons]
    constructor
    · rintro (h1 | rfl | h1)
      · exact .inl (.inl h1)
      · exact .inr rfl
      · exact .inl (.inr h1)
    · rintro ((h1 | h1) | rfl)
      · exact .inl h1
      · exact .inr (.inr h1)
      · exact .inr (.inl rfl)
theorem mem_takeWhile {p : α → Bool} : ∀ {l : List α} {x : α}, x ∈ l.takeWhile p → p x = true
  | [], x, h => by simp at h
  | y :: r, x, h => by
    rw [List.takeWhile_cons] at h
    split at h
    · rename_i hy
      rcases List.mem_cons.1 h with rfl | h
      · exact hy
      · exact mem_takeWhile h
    · simp at h
theorem dropWhile_ge (h : Ord lt) {x : α} : ∀ {l : List α}, Rises lt l → ∀ y ∈ l.dropWhile (fun y => lt y x), lt y x = false
  | [], _, y, hy => by simp at hy
  | z :: r, hl, y, hy => by
    rw [List.dropWhile_cons] at hy
    have hl' := List.pairwise_cons.1 hl
    split at hy
    · exact dropWhile_ge h hl'.2 y hy
    · rename_i hz
      have hz : lt z x = false := by simpa using hz
      rcases List.mem_cons.1 hy with rfl | hy
      · exact hz
      · cases hyx : lt y x with
        | false => rfl
        | true => rw [h.tr _ _ _ (hl'.1 y hy) hyx] at hz; cases hz
theorem putS_rises (h : Ord lt) {l : List α} (hl : Rises lt l) (x : α) : Rises lt (putS lt l x) := by
  unfold putS
  split
  · exact hl
  · rename_i hx
    have h1 := hl.sublist (List.takeWhile_sublist (p := fun y => lt y x))
    have h2 := hl.sublist (List.dropWhile_sublist (p := fun y => lt y x))
    have h3 : ∀ y ∈ l.dropWhile (fun y => lt y x), lt x y = true := fun y hy => by
      have h4 := dropWhile_ge h hl y hy
      rcases h.tri y x with h5 | rfl | h5
      · rw [h5] at h4; cases h4
      · exact absurd ((List.dropWhile_sublist _).subset hy) hx
      · exact h5
    refine List.pairwise_append.2 ⟨h1, List.pairwise_cons.2 ⟨h3, h2⟩, fun y hy z hz => ?_⟩
    have h4 := mem_takeWhile (p := fun y => lt y x) hy
    rcases List.mem_cons.1 hz with rfl | hz
    · exact h4
    · exact h.tr _ _ _ h4 (h3 z hz)
/-- A list in order, each thing once. -/
def ordS (lt : α → α → Bool) (l : List α) : List α := l.foldl (putS lt) []
theorem ordS_snoc (l : List α) (x : α) : ordS lt (l ++ [x]) = putS lt (ordS lt l) x := by simp [ordS]
theorem ordS_rises (h : Ord lt) (l : List α) : Rises lt (ordS lt l) :=
  snoc_ind (m := fun l => Rises lt (ordS lt l)) List.Pairwise.nil (fun l x ih => by rw [ordS_snoc]; exact putS_rises h ih x) l
theorem mem_ordS (l : List α) (x : α) : x ∈ ordS lt l ↔ x ∈ l :=
  snoc_ind (m := fun l => x ∈ ordS lt l ↔ x ∈ l) (by simp [ordS]) (fun l y ih => by rw [ordS_snoc, mem_putS, ih, List.mem_append, List.mem_singleton]) l
theorem putS_len (l : List α) (x : α) : (putS lt l x).length ≤ l.length + 1 := by
  unfold putS
  split
  · omega
  · have h := congrArg List.length (List.takeWhile_append_dropWhile (p := fun y => lt y x) (l := l))
    simp only [List.length_append, List.length_cons] at h ⊢
    omega
theorem ordS_len (l : List α) : (ordS lt l).length ≤ l.length :=
  snoc_ind (m := fun l => (ordS lt l).length ≤ l.length) (by simp [ordS]) (fun l x ih => by
    have := putS_len (lt := lt) (ordS lt l) x
    rw [ordS_snoc, List.length_append, List.length_singleton]
    omega) l
theorem ordS_id (h : Ord lt) {l : List α} (hl : Rises lt l) : ordS lt l = l := Rises.ext h (ordS_rises h l) hl (mem_ordS l)
theorem ordS_ext (h : Ord lt) {l m : List α} (hm : ∀ x, x ∈ l ↔ x ∈ m) : ordS lt l = ordS lt m := Rises.ext h (ordS_rises h l) (ordS_rises h m) fun x => by rw [mem_ordS, mem_ordS, hm]

/-- A list without what is the same as what stands ahead of it. -/
def comp : List α → List α
  | [] => []
  | [x] => [x]
  | x :: y :: r => if x = y then comp (y :: r) else x :: comp (y :: r)
theorem mem_comp : ∀ (l : List α) (x : α), x ∈ comp l ↔ x ∈ l
  | [], x => by simp [comp]
  | [y], x => by simp [comp]
  | y :: z :: r, x => by
    simp only [comp]
    split
    · rename_i e
      subst e
      rw [mem_comp (y :: r) x]
      simp
    · rw [List.mem_cons, mem_comp (z :: r) x, List.mem_cons (a := x) (b := y)]
theorem comp_rises (h : Ord lt) : ∀ (l : List α), (l.Pairwise fun x y => lt y x = false) → Rises lt (comp l)
  | [], _ => List.Pairwise.nil
  | [y], _ => by simp [comp, Rises]
  | y :: z :: r, hl => by
    have hl' := List.pairwise_cons.1 hl
    simp only [comp]
    split
    · exact comp_rises h _ hl'.2
    · rename_i hne
      refine List.pairwise_cons.2 ⟨fun u hu => ?_, comp_rises h _ hl'.2⟩
      have hu' : u ∈ z :: r := (mem_comp _ u).1 hu
      have h1 := hl'.1 u hu'
      rcases h.tri y u with h2 | rfl | h2
      · exact h2
      · -- y stands again: then it is z, or z lies between
        exfalso
        have hyz := hl'.1 z (by simp)
        rcases List.mem_cons.1 hu' with rfl | hr
        · exact hne rfl
        · have hzy := (List.pairwise_cons.1 hl'.2).1 y hr
          rcases h.tri y z with h3 | h3 | h3
          · rw [h3] at hzy; cases hzy
          · exact hne h3
          · rw [h3] at hyz; cases hyz
      · rw [h2] at h1; cases h1
theorem comp_ordS (h : Ord lt) {l l' : List α} (hp : l'.Perm l) (hs : l'.Pairwise fun x y => lt y x = false) : comp l' = ordS lt l :=
  Rises.ext h (comp_rises h l' hs) (ordS_rises h l) fun x => by rw [mem_comp, mem_ordS, hp.mem_iff]
end

/-- A handle. -/
structure H2 where
  i : Int
  g : Int
  deriving DecidableEq, Inhabited
def fH (x : H2) : List Value := [.int .i64 x.i, .int .i64 x.g]
theorem fH_one (x : H2) : ∀ u ∈ fH x, u.oneCell' = true := by intro u hu; simp [fH] at hu; rcases hu with rfl | rfl <;> rfl
/-- A pair of handles. -/
structure P4 where
  a : H2
  b : H2
  deriving DecidableEq, Inhabited
def fP (x : P4) : List Value := [.int .i64 x.a.i, .int .i64 x.a.g, .int .i64 x.b.i, .int .i64 x.b.g]
theorem fP_one (x : P4) : ∀ u ∈ fP x, u.oneCell' = true := by intro u hu; simp [fP] at hu; rcases hu with rfl | rfl | rfl | rfl <;> rfl
def ltI (x y : Int) : Bool := decide (x < y)
def ltH (x y : H2) : Bool := decide (x.i < y.i ∨ x.i = y.i ∧ x.g < y.g)
def ltP (x y : P4) : Bool := ltH x.a y.a || (decide (x.a = y.a) && ltH x.b y.b)
theorem ordI : Ord ltI := ⟨fun x => by simp [ltI], fun x y z h1 h2 => by simp [ltI] at *; omega, fun x y => by simp only [ltI, decide_eq_true_eq]; omega⟩
theorem h2_ext {x y : H2} (h1 : x.i = y.i) (h2 : x.g = y.g) : x = y := by cases x; cases y; simp_all
theorem ordH : Ord ltH := by
  refine ⟨fun x => by simp [ltH], fun x y z h1 h2 => ?_, fun x y => ?_⟩
  · simp only [ltH, decide_eq_true_eq] at *
    omega
  · simp only [ltH, decide_eq_true_eq]
    rcases Int.lt_trichotomy x.i y.i with h | h | h
    · exact .inl (.inl h)
    · rcases Int.lt_trichotomy x.g y.g with h2 | h2 | h2
      · exact .inl (.inr ⟨h, h2⟩)
      · exact .inr (.inl (h2_ext h h2))
      · exact .inr (.inr (.inr ⟨h.symm, h2⟩))
    · exact .inr (.inr (.inl h))
theorem p4_ext {x y : P4} (h1 : x.a = y.a) (h2 : x.b = y.b) : x = y := by cases x; cases y; simp_all
theorem ordP : Ord ltP := by
  refine ⟨fun x => by simp [ltP, ordH.irr], fun x y z h1 h2 => ?_, fun x y => ?_⟩
  · simp only [ltP, Bool.or_eq_true, Bool.and_eq_true, decide_eq_true_eq] at *
    rcases h1 with h1 | ⟨h1, h1'⟩
    · rcases h2 with h2 | ⟨h2, _⟩
      · exact .inl (ordH.tr _ _ _ h1 h2)
      · rw [← h2]; exact .inl h1
    · rcases h2 with h2 | ⟨h2, h2'⟩
      · rw [h1]; exact .inl h2
      · exact .inr ⟨h1.trans h2, ordH.tr _ _ _ h1' h2'⟩
  · simp only [ltP, Bool.or_eq_true, Bool.and_eq_true, decide_eq_true_eq]
    rcases ordH.tri x.a y.a with h | h | h
    · exact .inl (.inl h)
    · rcases ordH.tri x.b y.b with h2 | h2 | h2
      · exact .inl (.inr ⟨h, h2⟩)
      · exact .inr (.inl (p4_ext h h2))
      · exact .inr (.inr (.inr ⟨h.symm, h2⟩))
    · exact .inr (.inr (.inl h))
end Go.Px

namespace Go.Px
set_option linter.unusedVariables false
set_option linter.unusedSimpArgs false
set_option linter.unusedSectionVars false

section
variable {α : Type} [DecidableEq α] {lt : α → α → Bool}
/-- Where a thing stands, or would stand. -/
def pos (lt : α → α → Bool) (l : List α) (t : α) : Nat := (l.takeWhile fun y => lt y t).length
theorem pos_le (l : List α) (t : α) : pos lt l t ≤ l.length := (List.takeWhile_sublist _).length_le
theorem takeWhile_pos (l : List α) (t : α) : l.takeWhile (fun y => lt y t) = l.take (pos lt l t) := by
  have h := List.takeWhile_append_dropWhile (p := fun y => lt y t) (l := l)
  have h1 : (l.takeWhile (fun y => lt y t) ++ l.dropWhile (fun y => lt y t)).take (pos lt l t) = l.takeWhile (fun y => lt y t) := List.take_left
  rw [h] at h1
  exact h1.symm
theorem dropWhile_pos (l : List α) (t : α) : l.dropWhile (fun y => lt y t) = l.drop (pos lt l t) := by
  have h := List.takeWhile_append_dropWhile (p := fun y => lt y t) (l := l)
  have h1 : (l.takeWhile (fun y => lt y t) ++ l.dropWhile (fun y => lt y t)).drop (pos lt l t) = l.dropWhile (fun y => lt y t) := List.drop_left
  rw [h] at h1
  exact h1.symm
theorem pos_unique : ∀ {l : List α} {t d : α} {i : Nat}, i ≤ l.length → (∀ j, j < i → lt (l.getD j d) t = true) → (i < l.length → lt (l.getD i d) t = false) → i = pos lt l t
  | [], t, d, i, hi, _, _ => by simp at hi; subst hi; rfl
  | y :: r, t, d, 0, _, _, h2 => by
    have := h2 (by simp)
    simp at this
    simp [pos, this]
  | y :: r, t, d, i + 1, hi, h1, h2 => by
    have h0 := h1 0 (by omega)
    simp at h0
    have ih := pos_unique (l := r) (t := t) (d := d) (i := i) (by simpa using hi) (fun j hj => by simpa using h1 (j + 1) (by omega)) (fun h => by simpa using h2 (by simpa using h))
    simp only [pos] at ih ⊢
    rw [List.takeWhile_cons, if_pos h0, List.length_cons, ← ih]
theorem pos_lt {l : List α} {t d : α} {j : Nat} (h : j < pos lt l t) : lt (l.getD j d) t = true := by
  have hl := pos_le (lt := lt) l t
  have hm : l.getD j d ∈ l.takeWhile (fun y => lt y t) := by
    rw [takeWhile_pos, List.mem_take_iff_getElem]
    exact ⟨j, by omega, by simp [List.getD_eq_getElem?_getD, show j < l.length by omega]⟩
  exact mem_takeWhile (p := fun y => lt y t) hm
theorem pos_ge (h : Ord lt) {l : List α} (hl : Rises lt l) {t d : α} {j : Nat} (hj : pos lt l t ≤ j) (hjl : j < l.length) : lt (l.getD j d) t = false := by
  refine dropWhile_ge h hl _ ?_
  rw [dropWhile_pos, List.mem_drop_iff_getElem]
  exact ⟨j - pos lt l t, by omega, by simp [List.getD_eq_getElem?_getD, hjl, show pos lt l t + (j - pos lt l t) = j by omega]⟩
theorem pos_mem (h : Ord lt) {l : List α} (hl : Rises lt l) (t d : α) : t ∈ l ↔ pos lt l t < l.length ∧ l.getD (pos lt l t) d = t := by
  constructor
  · intro hm
    obtain ⟨j, hj, rfl⟩ := List.getElem_of_mem hm
    have hp : j = pos lt l l[j] := by
      refine pos_unique (d := d) (by omega) (fun k hk => ?_) (fun _ => ?_)
      · have := (List.pairwise_iff_getElem.1 hl) k j (by omega) hj hk
        simpa [List.getD_eq_getElem?_getD, show k < l.length by omega] using this
      · simp [List.getD_eq_getElem?_getD, hj, h.irr]
    rw [← hp]
    exact ⟨hj, by simp [List.getD_eq_getElem?_getD, hj]⟩
  · rintro ⟨h1, h2⟩
    rw [← h2]
    simp [List.getD_eq_getElem?_getD, h1]
theorem putS_eq (l : List α) (x : α) : putS lt l x = if x ∈ l then l else l.take (pos lt l x) ++ x :: l.drop (pos lt l x) := by
  unfold putS
  rw [takeWhile_pos, dropWhile_pos]
theorem putS_in {l : List α} {x : α} (h : x ∈ l) : putS lt l x = l := by rw [putS_eq, if_pos h]
theorem putS_out {l : List α} {x : α} (h : ¬ x ∈ l) : putS lt l x = l.take (pos lt l x) ++ x :: l.drop (pos lt l x) := by rw [putS_eq, if_neg h]
/-- A thing's place; -1: it isn't there. -/
def findS (lt : α → α → Bool) (l : List α) (t : α) : Int := if t ∈ l then (pos lt l t : Int) else -1
/-- A halving search's state. -/
structure Half (lt : α → α → Bool) (l : List α) (t d : α) (i j : Int) : Prop where
  le : 0 ≤ i ∧ i ≤ j ∧ j ≤ l.length
  lo : ∀ k, k < i.toNat → lt (l.getD k d) t = true
  hi : ∀ k, j.toNat ≤ k → k < l.length → lt (l.getD k d) t = false
theorem Half.start (l : List α) (t d : α) : Half lt l t d 0 l.length := ⟨by omega, fun k hk => by simp at hk, fun k h1 h2 => by omega⟩
theorem Half.low (h : Ord lt) {l : List α} {t d : α} {i j m : Int} (hl : Rises lt l) (hh : Half lt l t d i j) (hm : i ≤ m ∧ m < j) (hx : lt (l.getD m.toNat d) t = true) : Half lt l t d (m + 1) j := by
  have hle := hh.le
  refine ⟨by omega, fun k hk => ?_, hh.hi⟩
  rcases Nat.lt_or_ge k m.toNat with h1 | h1
  · have h2 := (List.pairwise_iff_getElem.1 hl) k m.toNat (by omega) (by omega) h1
    refine h.tr _ _ _ ?_ hx
    simpa [List.getD_eq_getElem?_getD, show k < l.length by omega, show m.toNat < l.length by omega] using h2
  · obtain rfl : k = m.toNat := by omega
    exact hx
theorem Half.high (h : Ord lt) {l : List α} {t d : α} {i j m : Int} (hl : Rises lt l) (hh : Half lt l t d i j) (hm : i ≤ m ∧ m < j) (hx : lt (l.getD m.toNat d) t = false) : Half lt l t d i m := by
  have hle := hh.le
  refine ⟨by omega, hh.lo, fun k hk hkl => ?_⟩
  rcases Nat.lt_or_ge m.toNat k with h1 | h1
  · have h2 := (List.pairwise_iff_getElem.1 hl) m.toNat k (by omega) hkl h1
    cases h3 : lt (l.getD k d) t with
    | false => rfl
    | true =>
      have h4 : lt (l.getD m.toNat d) (l.getD k d) = true := by simpa [List.getD_eq_getElem?_getD, hkl, show m.toNat < l.length by omega] using h2
      rw [h.tr _ _ _ h4 h3] at hx
      cases hx
  · obtain rfl : k = m.toNat := by omega
    exact hx
theorem Half.done {l : List α} {t d : α} {i j : Int} (hh : Half lt l t d i j) (hij : j ≤ i) : i = (pos lt l t : Nat) := by
  have hle := hh.le
  have h1 := pos_unique (lt := lt) (l := l) (t := t) (d := d) (i := i.toNat) (by omega) hh.lo (fun h => hh.hi _ (by omega) h)
  omega
end

/-- How numbers, handles and pairs compare. -/
def orI (a b : Int) : Int := if a = 0 then b else a
def cmpN (x y : Int) : Int := if x < y then -1 else if y < x then 1 else 0
def cmpH (x y : H2) : Int := orI (cmpN x.i y.i) (cmpN x.g y.g)
def cmpP (x y : P4) : Int := orI (cmpH x.a y.a) (cmpH x.b y.b)
theorem cmpN_neg (x y : Int) : cmpN x y < 0 ↔ x < y := by unfold cmpN; split <;> (try split) <;> omega
theorem cmpN_zero (x y : Int) : cmpN x y = 0 ↔ x = y := by unfold cmpN; split <;> (try split) <;> omega
theorem cmpN_vals (x y : Int) : cmpN x y = -1 ∨ cmpN x y = 0 ∨ cmpN x y = 1 := by unfold cmpN; split <;> (try split) <;> simp
theorem cmpH_neg (x y : H2) : cmpH x y < 0 ↔ ltH x y = true := by
  simp only [cmpH, orI, ltH, decide_eq_true_eq]
  have h1 := cmpN_neg x.i y.i
  have h2 := cmpN_zero x.i y.i
  have h3 := cmpN_neg x.g y.g
  split <;> omega
theorem cmpH_zero (x y : H2) : cmpH x y = 0 ↔ x = y := by
  have h2 := cmpN_zero x.i y.i
  have h4 := cmpN_zero x.g y.g
  constructor
  · intro h
    simp only [cmpH, orI] at h
    split at h
    · exact h2_ext (h2.1 (by assumption)) (h4.1 h)
    · exact absurd h (by assumption)
  · rintro rfl
    simp [cmpH, orI, cmpN]
theorem cmpH_vals (x y : H2) : cmpH x y = -1 ∨ cmpH x y = 0 ∨ cmpH x y = 1 := by
  unfold cmpH orI
  split
  · exact cmpN_vals ..
  · exact cmpN_vals ..
theorem cmpP_neg (x y : P4) : cmpP x y < 0 ↔ ltP x y = true := by
  have h1 := cmpH_neg x.a y.a
  have h2 := cmpH_zero x.a y.a
  have h3 := cmpH_neg x.b y.b
  simp only [cmpP, orI, ltP, Bool.or_eq_true, Bool.and_eq_true, decide_eq_true_eq]
  split
  · rename_i h
    have e := h2.1 h
    rw [e] at h1 ⊢
    have : ¬ ltH y.a y.a = true := by simp [ordH.irr]
    simp [this, h3]
  · rename_i h
    rw [h1]
    constructor
    · exact .inl
    · rintro (h4 | ⟨h4, _⟩)
      · exact h4
      · exact absurd (h2.2 h4) h
theorem cmpP_zero (x y : P4) : cmpP x y = 0 ↔ x = y := by
  have h2 := cmpH_zero x.a y.a
  have h4 := cmpH_zero x.b y.b
  constructor
  · intro h
    simp only [cmpP, orI] at h
    split at h
    · exact p4_ext (h2.1 (by assumption)) (h4.1 h)
    · exact absurd h (by assumption)
  · rintro rfl
    have e1 := (cmpH_zero x.a x.a).2 rfl
    have e2 := (cmpH_zero x.b x.b).2 rfl
    simp [cmpP, orI, e1, e2]
end Go.Px

namespace Go.Px
set_option linter.unusedVariables false
set_option linter.unusedSimpArgs false
set_option linter.unusedSectionVars false

section
variable {α : Type} [DecidableEq α]
theorem comp_snoc2 : ∀ (l : List α) (y x : α), comp (l ++ [y] ++ [x]) = if y = x then comp (l ++ [y]) else comp (l ++ [y]) ++ [x]
  | [], y, x => by by_cases h : y = x <;> simp [comp, h]
  | [a], y, x => by by_cases h : a = y <;> by_cases h2 : y = x <;> simp_all [comp]
  | a :: b :: r, y, x => by
    have ih := comp_snoc2 (b :: r) y x
    simp only [List.cons_append, List.nil_append, comp] at ih ⊢
    split
    · exact ih
    · rw [ih]
      split <;> simp
theorem comp_take {l : List α} {j : Nat} {d : α} (h0 : 0 < j) (h : j < l.length) : comp (l.take (j + 1)) = if l.getD (j - 1) d = l.getD j d then comp (l.take j) else comp (l.take j) ++ [l.getD j d] := by
  have e1 : l.take (j + 1) = l.take j ++ [l.getD j d] := take_snoc h
  have e2 : l.take j = l.take (j - 1) ++ [l.getD (j - 1) d] := by
    have := take_snoc (l := l) (i := j - 1) (d := d) (by omega)
    rwa [show j - 1 + 1 = j by omega] at this
  rw [e1]
  conv => lhs; rw [e2]
  conv => rhs; rw [e2]
  exact comp_snoc2 _ _ _
theorem comp_one (l : List α) (h : l.length < 2) : comp l = l := by
  match l, h with
  | [], _ => rfl
  | [x], _ => rfl
/-- The first k stand as they are; from j on nothing has been looked at. -/
structure Cmp (l ll : List α) (k j : Nat) : Prop where
  len : ll.length = l.length
  kept : ll.take k = comp (l.take j)
  rest : ll.drop k = l.drop k
  k1 : 1 ≤ k
  le : k < j
  jl : j ≤ l.length
theorem Cmp.start {l : List α} {k : Nat} {d : α} (h1 : 1 ≤ k) (h : k < l.length) (hc : comp (l.take k) = l.take k) (he : l.getD k d = l.getD (k - 1) d) : Cmp l l k (k + 1) := by
  refine ⟨rfl, ?_, rfl, h1, by omega, h⟩
  rw [comp_take (d := d) (by omega) h, if_pos he.symm, hc]
theorem comp_go {l : List α} {k : Nat} {d : α} (h1 : 1 ≤ k) (h : k < l.length) (hc : comp (l.take k) = l.take k) (he : l.getD k d ≠ l.getD (k - 1) d) : comp (l.take (k + 1)) = l.take (k + 1) := by
  rw [comp_take (d := d) (by omega) h, if_neg (fun e => he e.symm), hc, take_snoc (d := d) h]
theorem Cmp.at_ {l ll : List α} {k j i : Nat} {d : α} (h : Cmp l ll k j) (hi : k ≤ i) : ll.getD i d = l.getD i d := by
  have h1 : (ll.drop k)[i - k]? = (l.drop k)[i - k]? := by rw [h.rest]
  simp only [List.getElem?_drop, show k + (i - k) = i by omega] at h1
  simp [List.getD_eq_getElem?_getD, h1]
theorem Cmp.skip {l ll : List α} {k j : Nat} {d : α} (h : Cmp l ll k j) (hj : j < l.length) (he : ll.getD j d = ll.getD (j - 1) d) : Cmp l ll k (j + 1) := by
  have hk := h.le
  have hk1 := h.k1
  rw [h.at_ (by omega), h.at_ (by omega)] at he
  exact ⟨h.len, by rw [comp_take (d := d) (by omega) hj, if_pos he.symm]; exact h.kept, h.rest, h.k1, by omega, hj⟩
theorem Cmp.keep {l ll : List α} {k j : Nat} {d : α} (h : Cmp l ll k j) (hj : j < l.length) (he : ll.getD j d ≠ ll.getD (j - 1) d) : Cmp l (ll.set k (ll.getD j d)) (k + 1) (j + 1) := by
  have hk := h.le
  have hk1 := h.k1
  have hl := h.len
  have e2 : ll.getD j d = l.getD j d := h.at_ (by omega)
  rw [h.at_ (by omega), h.at_ (by omega)] at he
  refine ⟨by simpa using h.len, ?_, ?_, by omega, by omega, hj⟩
  · have e : (ll.set k (ll.getD j d)).take (k + 1) = ll.take k ++ [ll.getD j d] := by
      rw [take_snoc (d := d) (by simp; omega), List.take_set_of_le (Nat.le_refl _)]
      congr 2
      simp [List.getD_eq_getElem?_getD, show k < ll.length by omega]
    rw [e, h.kept, e2, comp_take (d := d) (by omega) hj, if_neg (fun e => he e.symm)]
  · rw [List.drop_set_of_lt (by omega)]
    exact drop_next h.rest
theorem Cmp.done {l ll : List α} {k j : Nat} (h : Cmp l ll k j) (hj : l.length ≤ j) (r : List α) : (ll.take k ++ r).take k = comp l := by
  have hle := h.le
  have hlen := h.len
  have hjl := h.jl
  rw [List.take_append_of_le_length (by rw [List.length_take]; omega), List.take_take, Nat.min_self, h.kept, List.take_of_length_le hj]
theorem Cmp.lenEq {l ll : List α} {k j : Nat} (h : Cmp l ll k j) (hj : l.length ≤ j) : k = (comp l).length := by
  have hle := h.le
  have hlen := h.len
  have hjl := h.jl
  have h1 := congrArg List.length h.kept
  rw [List.take_of_length_le hj, List.length_take] at h1
  omega
theorem comp_len : ∀ l : List α, (comp l).length ≤ l.length
  | [] => by simp [comp]
  | [x] => by simp [comp]
  | x :: y :: r => by
    have ih := comp_len (y :: r)
    simp only [comp]
    split
    · simp only [List.length_cons] at ih ⊢; omega
    · simp only [List.length_cons] at ih ⊢; omega
theorem getD_drop {l : List α} {m i : Nat} {d : α} : (l.drop m).getD i d = l.getD (m + i) d := by simp [List.getD_eq_getElem?_getD]
end
end Go.Px

namespace Go.Px
open Go.Sort Go.Lib Go.Proofs Go.Shelf
theorem swo_of {α : Type} {lt : α → α → Bool} (ho : Ord lt) {cf : α → α → Int} (h : ∀ x y, cf x y < 0 ↔ lt x y = true) : SWO (ltOf cf) := by
  have e : ∀ x y, ltOf cf x y = lt x y := fun x y => by
    rw [Bool.eq_iff_iff, ← h]
    simp [ltOf]
  refine ⟨fun x => by rw [e]; exact ho.irr x, fun x y z h1 h2 => ?_, fun x y z h1 h2 => ?_⟩
  · rw [e] at *
    exact ho.tr _ _ _ h1 h2
  · rw [e] at *
    cases h3 : lt x z with
    | false => rfl
    | true =>
      rcases ho.tri x y with h4 | rfl | h4
      · rw [h4] at h1; cases h1
      · rw [h3] at h2; cases h2
      · rw [ho.tr _ _ _ h4 h3] at h2; cases h2
theorem pair_of {α : Type} {lt : α → α → Bool} {cf : α → α → Int} (h : ∀ x y, cf x y < 0 ↔ lt x y = true) {l : List α} (hl : l.Pairwise fun a b => ¬ cf b a < 0) : l.Pairwise fun x y => lt y x = false :=
  hl.imp fun {x y} hxy => by
    cases h1 : lt y x with
    | false => rfl
    | true => exact absurd ((h y x).2 h1) hxy
end Go.Px

namespace Go.Px
theorem cmpN_lt (x y : Int) : cmpN x y < 0 ↔ ltI x y = true := by rw [cmpN_neg]; simp [ltI]
theorem eqc_int {x y : Int} (h : x = y) : x = y := h
theorem nec_int {x y : Int} (h : ¬ x = y) : x ≠ y := h
theorem nec_hand {x y : H2} (h : ¬ (x.i = y.i ∧ x.g = y.g)) : x ≠ y := fun e => h (by rw [e]; exact ⟨rfl, rfl⟩)
theorem nec_pair {x y : P4} (h : ¬ (x.a.i = y.a.i ∧ x.a.g = y.a.g ∧ x.b.i = y.b.i ∧ x.b.g = y.b.g)) : x ≠ y := fun e => h (by rw [e]; exact ⟨rfl, rfl, rfl, rfl⟩)
theorem eqc_hand {x y : H2} (h : x.i = y.i ∧ x.g = y.g) : x = y := h2_ext h.1 h.2
theorem eqc_pair {x y : P4} (h : x.a.i = y.a.i ∧ x.a.g = y.a.g ∧ x.b.i = y.b.i ∧ x.b.g = y.b.g) : x = y := p4_ext (h2_ext h.1 h.2.1) (h2_ext h.2.2.1 h.2.2.2)
theorem h2_neB {x y : H2} (h : (!((x.i == y.i) && (x.g == y.g))) = true) : x ≠ y := by
  rintro rfl; simp at h
theorem h2_eqB {x y : H2} (h : (!((x.i == y.i) && (x.g == y.g))) = false) : x = y := by
  cases x; cases y; simp_all
theorem p4_neB {x y : P4} (h : (!((x.a.i == y.a.i) && ((x.a.g == y.a.g) && ((x.b.i == y.b.i) && (x.b.g == y.b.g))))) = true) : x ≠ y := by
  rintro rfl; simp at h
theorem p4_eqB {x y : P4} (h : (!((x.a.i == y.a.i) && ((x.a.g == y.a.g) && ((x.b.i == y.b.i) && (x.b.g == y.b.g))))) = false) : x = y := by
  simp at h
  exact eqc_pair h
theorem shrOne {n : Int} (h : 0 ≤ n) : Value.int .u64 (Int.fdiv n (2 ^ (min (1 : Int).toNat IntKind.u64.bits))) = Value.int .u64 (n / 2) := by
  congr 1
  show Int.fdiv n 2 = n / 2
  exact Int.fdiv_eq_ediv_of_nonneg n (by decide)
/-- Does a thing stand in a list? -/
def inS {α : Type} [DecidableEq α] (l : List α) (t : α) : Bool := decide (t ∈ l)
section
variable {α : Type} [DecidableEq α] {lt : α → α → Bool}
theorem half_out (ho : Ord lt) {l : List α} {t : α} {i : Int} (hl : Rises lt l) (hi : i = (pos lt l t : Nat)) (h : ¬ i < (l.length : Int)) (d : α) : inS l t = false := by
  simp only [inS, decide_eq_false_iff_not]
  intro hm
  have := ((pos_mem ho hl t d).1 hm).1
  omega
theorem half_in (ho : Ord lt) {l : List α} {t d : α} {i : Int} (hl : Rises lt l) (hi : i = (pos lt l t : Nat)) (h : i < (l.length : Int)) : inS l t = decide (l.getD i.toNat d = t) := by
  subst hi
  simp only [inS, Int.toNat_natCast]
  rw [decide_eq_decide, pos_mem ho hl t d]
  constructor
  · exact fun h => h.2
  · exact fun h2 => ⟨by omega, h2⟩
theorem putS_lenOut {l : List α} {x : α} (h : ¬ x ∈ l) : l.length + 1 = (putS lt l x).length := by
  rw [putS_out h]
  have := pos_le (lt := lt) l x
  simp only [List.length_append, List.length_cons, List.length_take, List.length_drop]
  omega
end
theorem half_inH {l : List H2} {t d : H2} {i : Int} (hl : Rises ltH l) (hi : i = (pos ltH l t : Nat)) (h : i < (l.length : Int)) : (cmpH (l.getD i.toNat d) t == 0) = inS l t := by
  rw [half_in ordH hl hi h (d := d), Bool.eq_iff_iff]
  simp only [beq_iff_eq, decide_eq_true_eq]
  exact cmpH_zero _ _
theorem half_inI {l : List Int} {t d : Int} {i : Int} (hl : Rises ltI l) (hi : i = (pos ltI l t : Nat)) (h : i < (l.length : Int)) : (l.getD i.toNat d == t) = inS l t := by
  rw [half_in ordI hl hi h (d := d), Bool.eq_iff_iff]
  simp
end Go.Px

namespace Go.Px
set_option linter.unusedVariables false
set_option linter.unusedSimpArgs false
set_option linter.unusedSectionVars false
theorem getD_appL {α : Type} {l m : List α} {j : Nat} {d : α} (h : j < l.length) : (l ++ m).getD j d = l.getD j d := by
  simp [List.getD_eq_getElem?_getD, List.getElem?_append_left h]
theorem getD_appR {α : Type} {l : List α} {x d : α} {i : Nat} (h : l.length = i) : (l ++ [x]).getD i d = x := by
  subst h
  simp [List.getD_eq_getElem?_getD]
section
variable {α : Type} [DecidableEq α] {lt : α → α → Bool}
theorem take_nextI {l : List α} {i : Int} {d : α} (h : 0 ≤ i ∧ i < (l.length : Int)) : l.take (i + 1).toNat = l.take i.toNat ++ [l.getD i.toNat d] := by
  rw [show (i + 1).toNat = i.toNat + 1 by omega]
  exact take_snoc (by omega)
theorem ordS_next {l : List α} {i : Int} (d : α) (h : 0 ≤ i ∧ i < (l.length : Int)) : ordS lt (l.take (i + 1).toNat) = putS lt (ordS lt (l.take i.toNat)) (l.getD i.toNat d) := by
  rw [take_nextI (d := d) h, ordS_snoc]
theorem ordS_nextIn {l : List α} {i : Int} (d : α) (h : 0 ≤ i ∧ i < (l.length : Int)) (hin : inS (ordS lt (l.take i.toNat)) (l.getD i.toNat d) = true) : ordS lt (l.take (i + 1).toNat) = ordS lt (l.take i.toNat) := by
  rw [ordS_next d h, putS_in (of_decide_eq_true hin)]
theorem ordS_takeLen (l : List α) (i : Nat) : (ordS lt (l.take i)).length ≤ l.length := by
  have := ordS_len (lt := lt) (l.take i)
  rw [List.length_take] at this
  omega
theorem putS_cut {l : List α} {x : α} {k : Nat} (hk : k = pos lt l x) (h : inS l x = false) : putS lt l x = l.take k ++ [x] ++ l.drop k := by
  rw [putS_out (of_decide_eq_false h), hk]
  simp
/-- Where a thing stands among the first ones. -/
theorem findS_next (ho : Ord lt) {l : List α} {i : Int} {t : α} (d : α) (hl : Rises lt l) (h : 0 ≤ i ∧ i < (l.length : Int)) : findS lt (l.take (i + 1).toNat) t = if l.getD i.toNat d = t then i else findS lt (l.take i.toNat) t := by
  have e := take_nextI (d := d) h
  have hl1 : Rises lt (l.take i.toNat ++ [l.getD i.toNat d]) := by rw [← e]; exact hl.sublist (List.take_sublist _ _)
  have hp := List.pairwise_append.1 hl1
  rw [e]
  have hlen : (l.take i.toNat).length = i.toNat := by rw [List.length_take]; omega
  split
  · rename_i hx
    have hp0 : i.toNat = pos lt (l.take i.toNat ++ [l.getD i.toNat d]) t := by
      refine pos_unique (d := d) (by simp [hlen]) (fun j hj => ?_) (fun _ => ?_)
      · rw [getD_appL (by omega)]
        rw [← hx]
        exact hp.2.2 _ (by rw [List.getD_eq_getElem?_getD, List.getElem?_eq_getElem (by omega)]; exact List.getElem_mem _) _ (by simp)
      · have e2 : (l.take i.toNat ++ [l.getD i.toNat d]).getD i.toNat d = l.getD i.toNat d := by
          exact getD_appR hlen
        rw [e2, hx]
        exact ho.irr _
    unfold findS
    rw [if_pos (List.mem_append_right _ (by rw [hx]; exact List.mem_singleton.2 rfl)), ← hp0]
    omega
  · rename_i hx
    have hm : t ∈ l.take i.toNat ++ [l.getD i.toNat d] ↔ t ∈ l.take i.toNat := by
      rw [List.mem_append, List.mem_singleton]
      exact ⟨fun h => h.elim id fun e => absurd e.symm hx, .inl⟩
    unfold findS
    by_cases ht : t ∈ l.take i.toNat
    · rw [if_pos (hm.2 ht), if_pos ht]
      have h1 := (pos_mem ho hp.1 t d).1 ht
      have hp0 : pos lt (l.take i.toNat) t = pos lt (l.take i.toNat ++ [l.getD i.toNat d]) t := by
        refine pos_unique (d := d) (by simp; omega) (fun j hj => ?_) (fun _ => ?_)
        · rw [getD_appL (by omega)]
          exact pos_lt hj
        · rw [getD_appL (by omega), h1.2]
          exact ho.irr _
      rw [hp0]
    · rw [if_neg (fun h => ht (hm.1 h)), if_neg ht]
end
theorem nec_hT {x : H2} {a b : Int} (h : ¬ (x.i = a ∧ x.g = b)) : x ≠ ⟨a, b⟩ := fun e => h (by rw [e]; exact ⟨rfl, rfl⟩)
theorem eqc_hT {x : H2} {a b : Int} (h : x.i = a ∧ x.g = b) : x = ⟨a, b⟩ := h2_ext h.1 h.2
/-- A pair whose first handle comes ahead. -/
def nrmP (p : P4) : P4 := if ltH p.b p.a then ⟨p.b, p.a⟩ else p
/-- The pairs of two, the lower handle first. -/
def nrmL (l : List P4) : List P4 := (l.filter fun p => !decide (p.a = p.b)).map nrmP
theorem nrmL_in {l : List P4} {i : Int} (d : P4) (h : 0 ≤ i ∧ i < (l.length : Int)) (hx : ¬ (l.getD i.toNat d).a = (l.getD i.toNat d).b) : nrmL (l.take (i + 1).toNat) = nrmL (l.take i.toNat) ++ [nrmP (l.getD i.toNat d)] := by
  rw [take_nextI (d := d) h, nrmL, List.filter_append, List.map_append]
  simp only [List.filter_cons, List.filter_nil, hx, decide_false, Bool.not_false, if_true, List.map_cons, List.map_nil]
  rfl
theorem nrmL_out {l : List P4} {i : Int} (d : P4) (h : 0 ≤ i ∧ i < (l.length : Int)) (hx : (l.getD i.toNat d).a = (l.getD i.toNat d).b) : nrmL (l.take (i + 1).toNat) = nrmL (l.take i.toNat) := by
  rw [take_nextI (d := d) h, nrmL, List.filter_append, List.map_append]
  simp only [List.filter_cons, List.filter_nil, hx, decide_true, Bool.not_true, Bool.false_eq_true, if_false, List.map_nil, List.append_nil]
  rfl
theorem nrmL_len (l : List P4) : (nrmL l).length ≤ l.length := by
  rw [nrmL, List.length_map]
  exact List.length_filter_le _ _
theorem nrmL_takeLen (l : List P4) (i : Nat) : (nrmL (l.take i)).length ≤ l.length := by
  have := nrmL_len (l.take i)
  rw [List.length_take] at this
  omega
end Go.Px

namespace Go.Px
set_option linter.unusedVariables false
set_option linter.unusedSimpArgs false
theorem nrmP_swap {p : P4} (h : ltH p.b p.a = true) : nrmP p = ⟨p.b, p.a⟩ := if_pos h
theorem nrmP_keep {p : P4} (h : ltH p.b p.a = false) : nrmP p = p := if_neg (by rw [h]; exact Bool.false_ne_true)
theorem eqc_pT {x y : P4} (h : x.a.i = y.a.i ∧ x.a.g = y.a.g ∧ x.b.i = y.b.i ∧ x.b.g = y.b.g) : x = y := eqc_pair h
theorem ordP_skip {l : List P4} {i : Int} (d : P4) (h : 0 ≤ i ∧ i < (l.length : Int)) (hx : (l.getD i.toNat d).a = (l.getD i.toNat d).b) : ordS ltP (nrmL (l.take (i + 1).toNat)) = ordS ltP (nrmL (l.take i.toNat)) := by rw [nrmL_out d h hx]
theorem ordP_in {l : List P4} {i kk : Int} (d : P4) (h : 0 ≤ i ∧ i < (l.length : Int)) (hx : ¬ (l.getD i.toNat d).a = (l.getD i.toNat d).b) (hp : kk.toNat = pos ltP (ordS ltP (nrmL (l.take i.toNat))) (nrmP (l.getD i.toNat d))) (hk : 0 ≤ kk ∧ kk < ((ordS ltP (nrmL (l.take i.toNat))).length : Int))
    (he : (ordS ltP (nrmL (l.take i.toNat))).getD kk.toNat d = nrmP (l.getD i.toNat d)) : ordS ltP (nrmL (l.take (i + 1).toNat)) = ordS ltP (nrmL (l.take i.toNat)) := by
  rw [nrmL_in d h hx, ordS_snoc, putS_in]
  rw [pos_mem ordP (ordS_rises ordP _) _ d, ← hp]
  exact ⟨by omega, he⟩
theorem ordP_out {l : List P4} {i kk : Int} (d : P4) (h : 0 ≤ i ∧ i < (l.length : Int)) (hx : ¬ (l.getD i.toNat d).a = (l.getD i.toNat d).b) (hp : kk.toNat = pos ltP (ordS ltP (nrmL (l.take i.toNat))) (nrmP (l.getD i.toNat d))) (hk : 0 ≤ kk)
    (he : ¬ (kk < ((ordS ltP (nrmL (l.take i.toNat))).length : Int)) ∨ (ordS ltP (nrmL (l.take i.toNat))).getD kk.toNat d ≠ nrmP (l.getD i.toNat d)) :
    ordS ltP (nrmL (l.take (i + 1).toNat)) = (ordS ltP (nrmL (l.take i.toNat))).take kk.toNat ++ ([nrmP (l.getD i.toNat d)] ++ (ordS ltP (nrmL (l.take i.toNat))).drop kk.toNat) := by
  rw [nrmL_in d h hx, ordS_snoc, putS_cut hp, List.append_assoc]
  refine decide_eq_false fun hm => ?_
  have h1 := (pos_mem ordP (ordS_rises ordP _) _ d).1 hm
  rw [← hp] at h1
  rcases he with he | he
  · exact he (by omega)
  · exact he h1.2
theorem ordI_in {l : List Int} {i kk : Int} (h : 0 ≤ i ∧ i < (l.length : Int)) (hp : kk.toNat = pos ltI (ordS ltI (l.take i.toNat)) (l.getD i.toNat 0)) (hk : 0 ≤ kk ∧ kk < ((ordS ltI (l.take i.toNat)).length : Int)) (he : (ordS ltI (l.take i.toNat)).getD kk.toNat 0 = l.getD i.toNat 0) :
    ordS ltI (l.take (i + 1).toNat) = ordS ltI (l.take i.toNat) := by
  rw [ordS_next 0 h, putS_in]
  rw [pos_mem ordI (ordS_rises ordI _) _ 0, ← hp]
  exact ⟨by omega, he⟩
theorem ordI_out {l : List Int} {i kk : Int} (h : 0 ≤ i ∧ i < (l.length : Int)) (hp : kk.toNat = pos ltI (ordS ltI (l.take i.toNat)) (l.getD i.toNat 0)) (hk : 0 ≤ kk)
    (he : ¬ (kk < ((ordS ltI (l.take i.toNat)).length : Int)) ∨ ¬ (ordS ltI (l.take i.toNat)).getD kk.toNat 0 = l.getD i.toNat 0) :
    ordS ltI (l.take (i + 1).toNat) = (ordS ltI (l.take i.toNat)).take kk.toNat ++ ([l.getD i.toNat 0] ++ (ordS ltI (l.take i.toNat)).drop kk.toNat) := by
  rw [ordS_next 0 h, putS_cut hp, List.append_assoc]
  refine decide_eq_false fun hm => ?_
  have h1 := (pos_mem ordI (ordS_rises ordI _) _ 0).1 hm
  rw [← hp] at h1
  rcases he with he | he
  · exact he (by omega)
  · exact he h1.2
theorem or_pair {x y : P4} {p : Prop} (h : p ∨ ¬ (x.a.i = y.a.i ∧ x.a.g = y.a.g ∧ x.b.i = y.b.i ∧ x.b.g = y.b.g)) : p ∨ x ≠ y := h.imp id nec_pair
end Go.Px

namespace Go.Px
set_option linter.unusedVariables false
set_option linter.unusedSimpArgs false
set_option linter.unusedSectionVars false
section
variable {α : Type} [DecidableEq α] {lt : α → α → Bool}
theorem dropP_in {p : α → Bool} {l : List α} {i : Int} (d : α) (h : 0 ≤ i ∧ i < (l.length : Int)) (hk : p (l.getD i.toNat d) = false) : dropP p (l.take (i + 1).toNat) = dropP p (l.take i.toNat) ++ [l.getD i.toNat d] := by
  rw [take_nextI (d := d) h, dropP_snoc, if_neg (by rw [hk]; exact Bool.false_ne_true)]
theorem dropP_out {p : α → Bool} {l : List α} {i : Int} (d : α) (h : 0 ≤ i ∧ i < (l.length : Int)) (hk : p (l.getD i.toNat d) = true) : dropP p (l.take (i + 1).toNat) = dropP p (l.take i.toNat) := by
  rw [take_nextI (d := d) h, dropP_snoc, if_pos hk, List.append_nil]
theorem ordS_one (h : Ord lt) {l : List α} (hl : Rises lt l) (x : α) : ordS lt (l ++ [x]) = putS lt l x := by rw [ordS_snoc, ordS_id h hl]
theorem findS_in {l : List α} {t : α} : decide (findS lt l t ≥ 0) = inS l t := by
  unfold findS inS
  split
  · rename_i h
    simp [h]
  · rename_i h
    simp [h]
theorem findS_neg {l : List α} {t : α} : decide (findS lt l t < 0) = !inS l t := by
  unfold findS inS
  split
  · rename_i h
    simp [h]
  · rename_i h
    simp [h]
theorem findS_at (h : Ord lt) {l : List α} (hl : Rises lt l) {i : Int} (d : α) (hi : 0 ≤ i ∧ i < (l.length : Int)) : findS lt l (l.getD i.toNat d) = i := by
  have hm : l.getD i.toNat d ∈ l := by
    rw [List.getD_eq_getElem?_getD, List.getElem?_eq_getElem (by omega)]
    exact List.getElem_mem _
  have hp : i.toNat = pos lt l (l.getD i.toNat d) := by
    refine pos_unique (d := d) (by omega) (fun j hj => ?_) (fun _ => h.irr _)
    have h1 := List.pairwise_iff_getElem.1 hl j i.toNat (by omega) (by omega) hj
    simpa [List.getD_eq_getElem?_getD, List.getElem?_eq_getElem (show j < l.length by omega), List.getElem?_eq_getElem (show i.toNat < l.length by omega)] using h1
  unfold findS
  rw [if_pos hm, ← hp]
  omega
theorem mem_dropP {p : α → Bool} {l : List α} {x : α} : x ∈ dropP p l ↔ x ∈ l ∧ p x = false := by simp [dropP]
theorem both_len (h : Ord lt) {x y : List α} (hx : Rises lt x) (hy : Rises lt y) : (ordS lt (x ++ y)).length = x.length + (dropP (inS x) y).length := by
  have h1 : (x ++ dropP (inS x) y).Nodup := by
    refine List.nodup_append.2 ⟨hx.nodup h, (hy.nodup h).sublist List.filter_sublist, fun a ha b hb e => ?_⟩
    subst e
    have h2 := (mem_dropP.1 hb).2
    unfold inS at h2
    exact of_decide_eq_false h2 ha
  have h2 : (ordS lt (x ++ y)).Perm (x ++ dropP (inS x) y) := (List.perm_ext_iff_of_nodup ((ordS_rises h _).nodup h) h1).2 fun a => by
    rw [mem_ordS, List.mem_append, List.mem_append, mem_dropP]
    unfold inS
    rw [decide_eq_false_iff_not]
    by_cases ha : a ∈ x
    · simp [ha]
    · simp [ha]
  rw [h2.length_eq, List.length_append]
theorem both_sym (h : Ord lt) (x y : List α) : ordS lt (x ++ y) = ordS lt (y ++ x) := ordS_ext h fun a => by rw [List.mem_append, List.mem_append, or_comm]
theorem both_at (h : Ord lt) {x y : List α} {i : Int} (d : α) (hi : 0 ≤ i ∧ i < ((ordS lt (x ++ y)).length : Int)) : inS x ((ordS lt (x ++ y)).getD i.toNat d) = true ∨ inS y ((ordS lt (x ++ y)).getD i.toNat d) = true := by
  have hm : (ordS lt (x ++ y)).getD i.toNat d ∈ ordS lt (x ++ y) := by
    rw [List.getD_eq_getElem?_getD, List.getElem?_eq_getElem (by omega)]
    exact List.getElem_mem _
  rw [mem_ordS, List.mem_append] at hm
  unfold inS
  rcases hm with hm | hm
  · exact .inl (decide_eq_true hm)
  · exact .inr (decide_eq_true hm)
theorem inS_next {l : List α} {i : Int} {t d : α} (h : 0 ≤ i ∧ i < (l.length : Int)) (hno : inS (l.take i.toNat) t = false) (hx : l.getD i.toNat d ≠ t) : inS (l.take (i + 1).toNat) t = false := by
  rw [take_nextI (d := d) h]
  unfold inS at hno ⊢
  rw [decide_eq_false_iff_not] at hno ⊢
  rw [List.mem_append, List.mem_singleton]
  rintro (h1 | h1)
  · exact hno h1
  · exact hx h1.symm
theorem inS_here {l : List α} {i : Int} {t d : α} (h : 0 ≤ i ∧ i < (l.length : Int)) (hx : l.getD i.toNat d = t) : inS l t = true := by
  unfold inS
  rw [decide_eq_true_eq, ← hx, List.getD_eq_getElem?_getD, List.getElem?_eq_getElem (by omega)]
  exact List.getElem_mem _
theorem getD_mem {l : List α} {i : Nat} (d : α) (h : i < l.length) : l.getD i d ∈ l := by
  rw [List.getD_eq_getElem?_getD, List.getElem?_eq_getElem h]
  exact List.getElem_mem _
end
theorem room_at {l : List Int} {i k : Nat} (h : i = l.length + k) (hk : k < 4) : (l ++ ([-91, -92, -93, -94] : List Int)).getD i 0 = -91 - k := by
  subst h
  rw [List.getD_eq_getElem?_getD, List.getElem?_append_right (by omega), show l.length + k - l.length = k by omega]
  rcases (by omega : k = 0 ∨ k = 1 ∨ k = 2 ∨ k = 3) with rfl | rfl | rfl | rfl <;> rfl
theorem neq_of {x y : Int} (h : x = y) : (x != y) = false := by simp [h]
theorem both_no {x y : List H2} {t : H2} (h1 : findS ltH x t < 0) (h2 : findS ltH y t < 0) (h : inS x t = true ∨ inS y t = true) : False := by
  have e1 := findS_neg (lt := ltH) (l := x) (t := t)
  have e2 := findS_neg (lt := ltH) (l := y) (t := t)
  rcases h with h | h
  · rw [h, decide_eq_true h1] at e1
    cases e1
  · rw [h, decide_eq_true h2] at e2
    cases e2
theorem room_take (l m : List Int) : sameL ((l ++ m).take l.length) l = true := by simp [sameL]
/-- The law of numbers: with one more, and without one. -/
theorem ints_put (l : List Int) (n : Int) : sameL (putS ltI (ordS ltI l) n) (ordS ltI (ordS ltI l ++ [n])) = true := by
  rw [ordS_one ordI (ordS_rises ordI l)]
  exact sameL_refl _
end Go.Px
