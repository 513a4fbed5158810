/- Plain words for layer 2: lists in order, each thing once; handles and pairs. -/
import Derived.Test.YthofalkkdpjdlaaDoorXp6f
namespace Go.Px
set_option linter.unusedVariables false
set_option linter.unusedSimpArgs false
set_option linter.unusedSectionVars false

/-- An order: of two things one comes ahead, or they are the same. -/
structure Ord {α : Type} (lt : α → α → Bool) : Prop where
  irr : ∀ x, lt x x = false
  tr : ∀ x y z, lt x y = true → lt y z = true → lt x z = true
  tri : ∀ x y, lt x y = true ∨ x = y ∨ lt y x = true

section
variable {α : Type} [DecidableEq α] {lt : α → α → Bool}
/-- Rising, each once. -/
def Rises (lt : α → α → Bool) (l : List α) : Prop := l.Pairwise fun x y => lt x y = true
theorem Ord.ne (h : Ord lt) {x y : α} (hxy : lt x y = true) : x ≠ y := by
  rintro rfl
  rw [h.irr] at hxy
  cases hxy
theorem Ord.asym (h : Ord lt) {x y : α} (hxy : lt x y = true) : lt y x = false := by
  cases hyx : lt y x with
  | false => rfl
  | true =>
    have := h.tr _ _ _ hxy hyx
    rw [h.irr] at this
    cases this
theorem Rises.nodup (h : Ord lt) {l : List α} (hl : Rises lt l) : l.Nodup := hl.imp fun {x y} hxy => h.ne hxy
theorem Rises.ext (h : Ord lt) {l m : List α} (hl : Rises lt l) (hm : Rises lt m) (hmem : ∀ x, x ∈ l ↔ x ∈ m) : l = m :=
  List.Perm.eq_of_pairwise (le := fun x y : α => lt x y = true) (fun x y _ _ h1 h2 => by rw [h.asym h1] at h2; cases h2) hl hm ((List.perm_ext_iff_of_nodup (hl.nodup h) (hm.nodup h)).2 hmem)

/-- A rising list with one more. -/
def putS (lt : α → α → Bool) (l : List α) (x : α) : List α := if x ∈ l then l else l.takeWhile (fun y => lt y x) ++ x :: l.dropWhile (fun y => lt y x)
theorem mem_putS (l : List α) (x y : α) : y ∈ putS lt l x ↔ y ∈ l ∨ y = x := by
  unfold putS
  split
  · rename_i h
    constructor
    · exact .inl
    · rintro (h1 | rfl)
      · exact h1
      · exact h
  · have e : y ∈ l ↔ y ∈ l.takeWhile (fun y => lt y x) ∨ y ∈ l.dropWhile (fun y => lt y x) := by
      conv => lhs; rw [← List.takeWhile_append_dropWhile (p := fun y => lt y x) (l := l)]
      exact List.mem_append
    rw [e, List.mem_append, List.mem_cons]
    constructor
    · rintro (h1 | rfl | h1)
      · exact .inl (.inl h1)
      · exact .inr rfl
      · exact .inl (.inr h1)
    · rintro ((h1 | h1) | rfl)
      · exact .inl h1
      · exact .inr (.inr h1)
      · exact .inr (.inl rfl)
theorem mem_takeWhile {p : α → Bool} : ∀ {l : List α} {x : α}, x ∈ l.takeWhile p → p x = true
  | [], x, h => by simp at h
  | y :: r, x, h => by
    rw [List.takeWhile_cons] at h
    split at h
    · rename_i hy
      rcases List.mem_cons.1 h with rfl | h
      · exact hy
      · exact mem_takeWhile h
    · simp at h
theorem dropWhile_ge (h : Ord lt) {x : α} : ∀ {l : List α}, Rises lt l → ∀ y ∈ l.dropWhile (fun y => lt y x), lt y x = false
  | [], _, y, hy => by simp at hy
  | z :: r, hl, y, hy => by
    rw [List.dropWhile_cons] at hy
    have hl' := List.pairwise_cons.1 hl
    split at hy
    · exact dropWhile_ge h hl'.2 y hy
    · rename_i hz
      have hz : lt z x = false := by simpa using hz
      rcases List.mem_cons.1 hy with rfl | hy
      · exact hz
      · cases hyx : lt y x with
        | false => rfl
        | true => rw [h.tr _ _ _ (hl'.1 y hy) hyx] at hz; cases hz
theorem putS_rises (h : Ord lt) {l : List α} (hl : Rises lt l) (x : α) : Rises lt (putS lt l x) := by
  unfold putS
  split
  · exact hl
  · rename_i hx
    have h1 := hl.sublist (List.takeWhile_sublist (p := fun y => lt y x))
    have h2 := hl.sublist (List.dropWhile_sublist (p := fun y => lt y x))
    have h3 : ∀ y ∈ l.dropWhile (fun y => lt y x), lt x y = true := fun y hy => by
      have h4 := dropWhile_ge h hl y hy
      rcases h.tri y x with h5 | rfl | h5
      · rw [h5] at h4; cases h4
      · exact absurd ((List.dropWhile_sublist _).subset hy) hx
      · exact h5
    refine List.pairwise_append.2 ⟨h1, List.pairwise_cons.2 ⟨h3, h2⟩, fun y hy z hz => ?_⟩
    have h4 := mem_takeWhile (p := fun y => lt y x) hy
    rcases List.mem_cons.1 hz with rfl | hz
    · exact h4
    · exact h.tr _ _ _ h4 (h3 z hz)
/-- A list in order, each thing once. -/
def ordS (lt : α → α → Bool) (l : List α) : List α := l.foldl (putS lt) []
theorem ordS_snoc (l : List α) (x : α) : ordS lt (l ++ [x]) = putS lt (ordS lt l) x := by simp [ordS]
theorem ordS_rises (h : Ord lt) (l : List α) : Rises lt (ordS lt l) :=
  snoc_ind (m := fun l => Rises lt (ordS lt l)) List.Pairwise.nil (fun l x ih => by rw [ordS_snoc]; exact putS_rises h ih x) l
theorem mem_ordS (l : List α) (x : α) : x ∈ ordS lt l ↔ x ∈ l :=
  snoc_ind (m := fun l => x ∈ ordS lt l ↔ x ∈ l) (by simp [ordS]) (fun l y ih => by rw [ordS_snoc, mem_putS, ih, List.mem_append, List.mem_singleton]) l
theorem putS_len (l : List α) (x : α) : (putS lt l x).length ≤ l.length + 1 := by
  unfold putS
  split
  · omega
  · have h := congrArg List.length (List.takeWhile_append_dropWhile (p := fun y => lt y x) (l := l))
    simp only [List.length_append, List.length_cons] at h ⊢
    omega
theorem ordS_len (l : List α) : (ordS lt l).length ≤ l.length :=
  snoc_ind (m := fun l => (ordS lt l).length ≤ l.length) (by simp [ordS]) (fun l x ih => by
    have := putS_len (lt := lt) (ordS lt l) x
    rw [ordS_snoc, List.length_append, List.length_singleton]
    omega) l
theorem ordS_id (h : Ord lt) {l : List α} (hl : Rises lt l) : ordS lt l = l := Rises.ext h (ordS_rises h l) hl (mem_ordS l)
theorem ordS_ext (h : Ord lt) {l m : List α} (hm : ∀ x, x ∈ l ↔ x ∈ m) : ordS lt l = ordS lt m := Rises.ext h (ordS_rises h l) (ordS_rises h m) fun x => by rw [mem_ordS, mem_ordS, hm]

/-- A list without what is the same as what stands ahead of it. -/
def comp : List α → List α
  | [] => []
  | [x] => [x]
  | x :: y :: r => if x = y then comp (y :: r) else x :: comp (y :: r)
theorem mem_comp : ∀ (l : List α) (x : α), x ∈ comp l ↔ x ∈ l
  | [], x => by simp [comp]
  | [y], x => by simp [comp]
  | y :: z :: r, x => by
    simp only [comp]
    split
    · rename_i e
      subst e
      rw [mem_comp (y :: r) x]
      simp
    · rw [List.mem_cons, mem_comp (z :: r) x, List.mem_cons (a := x) (b := y)]
theorem comp_rises (h : Ord lt) : ∀ (l : List α), (l.Pairwise fun x y => lt y x = false) → Rises lt (comp l)
  | [], _ => List.Pairwise.nil
  | [y], _ => by simp [comp, Rises]
  | y :: z :: r, hl => by
    have hl' := List.pairwise_cons.1 hl
    simp only [comp]
    split
    · exact comp_rises h _ hl'.2
    · rename_i hne
      refine List.pairwise_cons.2 ⟨fun u hu => ?_, comp_rises h _ hl'.2⟩
      have hu' : u ∈ z :: r := (mem_comp _ u).1 hu
      have h1 := hl'.1 u hu'
      rcases h.tri y u with h2 | rfl | h2
      · exact h2
      · -- y stands again: then it is z, or z lies between
        exfalso
        have hyz := hl'.1 z (by simp)
        rcases List.mem_cons.1 hu' with rfl | hr
        · exact hne rfl
        · have hzy := (List.pairwise_cons.1 hl'.2).1 y hr
          rcases h.tri y z with h3 | h3 | h3
          · rw [h3] at hzy; cases hzy
          · exact hne h3
          · rw [h3] at hyz; cases hyz
      · rw [h2] at h1; cases h1
theorem comp_ordS (h : Ord lt) {l l' : List α} (hp : l'.Perm l) (hs : l'.Pairwise fun x y => lt y x = false) : comp l' = ordS lt l :=
  Rises.ext h (comp_rises h l' hs) (ordS_rises h l) fun x => by rw [mem_comp, mem_ordS, hp.mem_iff]
end

/-- A handle. -/
structure H2 where
  i : Int
  g : Int
  deriving DecidableEq, Inhabited
def fH (x : H2) : List Value := [.int .i64 x.i, .int .i64 x.g]
theorem fH_one (x : H2) : ∀ u ∈ fH x, u.oneCell' = true := by intro u hu; simp [fH] at hu; rcases hu with rfl | rfl <;> rfl
/-- A pair of handles. -/
structure P4 where
  a : H2
  b : H2
  deriving DecidableEq, Inhabited
def fP (x : P4) : List Value := [.int .i64 x.a.i, .int .i64 x.a.g, .int .i64 x.b.i, .int .i64 x.b.g]
theorem fP_one (x : P4) : ∀ u ∈ fP x, u.oneCell' = true := by intro u hu; simp [fP] at hu; rcases hu with rfl | rfl | rfl | rfl <;> rfl
def ltI (x y : Int) : Bool := decide (x < y)
def ltH (x y : H2) : Bool := decide (x.i < y.i ∨ x.i = y.i ∧ x.g < y.g)
def ltP (x y : P4) : Bool := ltH x.a y.a || (decide (x.a = y.a) && ltH x.b y.b)
theorem ordI : Ord ltI := ⟨fun x => by simp [ltI], fun x y z h1 h2 => by simp [ltI] at *; omega, fun x y => by simp only [ltI, decide_eq_true_eq]; omega⟩
theorem h2_ext {x y : H2} (h1 : x.i = y.i) (h2 : x.g = y.g) : x = y := by cases x; cases y; simp_all
theorem ordH : Ord ltH := by
  refine ⟨fun x => by simp [ltH], fun x y z h1 h2 => ?_, fun x y => ?_⟩
  · simp only [ltH, decide_eq_true_eq] at *
    omega
  · simp only [ltH, decide_eq_true_eq]
    rcases Int.lt_trichotomy x.i y.i with h | h | h
    · exact .inl (.inl h)
    · rcases Int.lt_trichotomy x.g y.g with h2 | h2 | h2
      · exact .inl (.inr ⟨h, h2⟩)
      · exact .inr (.inl (h2_ext h h2))
      · exact .inr (.inr (.inr ⟨h.symm, h2⟩))
    · exact .inr (.inr (.inl h))
theorem p4_ext {x y : P4} (h1 : x.a = y.a) (h2 : x.b = y.b) : x = y := by cases x; cases y; simp_all
theorem ordP : Ord ltP := by
  refine ⟨fun x => by simp [ltP, ordH.irr], fun x y z h1 h2 => ?_, fun x y => ?_⟩
  · simp only [ltP, Bool.or_eq_true, Bool.and_eq_true, decide_eq_true_eq] at *
    rcases h1 with h1 | ⟨h1, h1'⟩
    · rcases h2 with h2 | ⟨h2, _⟩
      · exact .inl (ordH.tr _ _ _ h1 h2)
      · rw [← h2]; exact .inl h1
    · rcases h2 with h2 | ⟨h2, h2'⟩
      · rw [h1]; exact .inl h2
      · exact .inr ⟨h1.trans h2, ordH.tr _ _ _ h1' h2'⟩
  · simp only [ltP, Bool.or_eq_true, Bool.and_eq_true, decide_eq_true_eq]
    rcases ordH.tri x.a y.a with h | h | h
    · exact .inl (.inl h)
    · rcases ordH.tri x.b y.b with h2 | h2 | h2
      · exact .inl (.inr ⟨h, h2⟩)
      · exact .inr (.inl (p4_ext h h2))
      · exact .inr (.inr (.inr ⟨h.symm, h2⟩))
    · exact .inr (.inr (.inl h))
end Go.Px
