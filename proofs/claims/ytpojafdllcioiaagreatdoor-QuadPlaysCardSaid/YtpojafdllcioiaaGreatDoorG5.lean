/- A part of the proof: texts put together. -/
import Derived.Test.YtpojafdllcioiaaGreatDoorG1
import Derived.Shelf.SlSortCmp.WholeK
import Derived.Shelf.SlSortCmp.NoneTotal
import Derived.Test.YtpojafdllcioiaaGreatDoorG4
/- slices.SortFunc over a slice of one's own, out of the shelf's contract. Nothing of any one program stands here. -/
namespace Go.Px
set_option linter.unusedVariables false
set_option linter.unusedSimpArgs false
set_option linter.unusedSectionVars false
open Go.RowKit Go.Sort Go.Proofs Go.Shelf

theorem Keep.grown {w w' : World} (h : Keep Nn w w') : ∃ q os', w' = Go.Sort.grow (w.drewN q) os' := by
  refine ⟨w'.drawn - w.drawn, w'.heap.extract w.heap.size, ?_⟩
  have hh : w'.heap = w.heap ++ w'.heap.extract w.heap.size := by
    refine Array.ext_getElem? fun i => ?_
    rcases Nat.lt_or_ge i w.heap.size with hi | hi
    · rw [Array.getElem?_append_left hi]
      exact h.block i hi (fun e => e)
    · rw [Array.getElem?_append_right hi, Array.getElem?_extract]
      have h1 : w.heap.size + (i - w.heap.size) = i := by omega
      rw [h1]
      split
      · rfl
      · rename_i h2
        exact Array.getElem?_eq_none (by omega)
  have hd : w.drawn + (w'.drawn - w.drawn) = w'.drawn := Nat.add_sub_cancel' h.drawn
  obtain ⟨hp, tp, dr, os, ou⟩ := w'
  obtain ⟨hp0, tp0, dr0, os0, ou0⟩ := w
  have e1 := h.os; have e2 := h.tape; have e3 := h.output
  simp only at e1 e2 e3 hh hd
  subst e1 e2 e3
  simp only [Go.Sort.grow, World.drewN, hd]
  rw [← hh]

theorem cmpLays_of {P : Program} {α : Type} [Inhabited α] {g k : Nat} {enc : α → List Value} {cf : α → α → Int} (hc : ∀ x y w, Calls P g #[.agg (enc x).toArray, .agg (enc y).toArray] w (Ret fun v w' => v = .int .i64 (cf x y) ∧ Keep Nn w w')) (blk off size : Nat) (w : World) :
    CmpLays P g #[] enc k cf blk off size w := fun m os dk hs x y => by
  refine (hc x y _).mono fun e w' he => ?_
  obtain ⟨v, rfl, rfl, hk⟩ := he
  obtain ⟨q, os', hw⟩ := hk.grown
  exact ⟨rfl, q, os', hw⟩

theorem flatK_flat {α : Type} [Inhabited α] {enc : α → List Value} {k : Nat} (hk : ∀ x, (enc x).length = k) (l : List α) : flatK enc k l.toArray = (flat enc l).toArray := by
  apply Array.ext'
  refine List.ext_getElem? fun j => ?_
  have hl : (flat enc l).length = l.length * k := flat_len hk l
  rcases Nat.lt_or_ge j (l.length * k) with hj | hj
  · have hk0 : 0 < k := by
      rcases Nat.eq_zero_or_pos k with h0 | h0
      · rw [h0] at hj; simp at hj
      · exact h0
    have hd : j / k < l.length := Nat.div_lt_of_lt_mul (by rw [Nat.mul_comm]; exact hj)
    have hm : j % k < k := Nat.mod_lt _ hk0
    have e : (flat enc l)[j]? = (enc (l[j / k]))[j % k]? := by
      have h1 := flat_get (f := enc) hk (l := l) (i := j / k) (k := j % k) (x := l[j / k]) (List.getElem?_eq_getElem hd) hm
      rw [← h1]
      congr 1
      rw [Nat.mul_comm]
      exact (Nat.div_add_mod j k).symm
    rw [e]
    have hs : (flatK enc k l.toArray).toList[j]? = some ((enc l.toArray[j / k]!)[j % k]!) := by simp [flatK, hj]
    rw [hs]
    have hlen : j % k < (enc (l[j / k])).length := by rw [hk]; exact hm
    simp [hd, hlen]
  · rw [List.getElem?_eq_none (by simp [flatK]; exact hj), List.getElem?_eq_none (by rw [hl]; exact hj)]

theorem perm_of {α : Type} [Inhabited α] {l : List α} {d : Array α} (h : PermIn 0 l.toArray.size l.toArray d) : d.toList.Perm l := by
  have h1 := h.2.2
  have hs := h.1
  simp only [List.size_toArray] at h1 hs
  have e1 : (d.extract 0 l.length) = d := by rw [← hs]; exact Array.extract_size
  have e2 : (l.toArray.extract 0 l.length).toList = l := by simp
  rw [e1, e2] at h1
  exact h1
theorem sorted_of {α : Type} [Inhabited α] {cf : α → α → Int} {d : Array α} (h : SortedIn (ltOf cf) 0 d.size d) : d.toList.Pairwise fun a b => ¬ cf b a < 0 := by
  rw [List.pairwise_iff_getElem]
  intro i j hi hj hij
  simp only [Array.length_toList] at hi hj
  have h1 := h i j (Nat.zero_le _) hij hj
  simp only [ltOf, decide_eq_false_iff_not] at h1
  simpa [hi, hj] using h1

/-- slices.SortFunc, over a slice of one's own that is not nil. -/
theorem sortFunc_some {P : Program} {ρ : Ren} {α : Type} [Inhabited α] (L : SlLaysF0.n6 P ρ) {k : Nat} (aE : ∀ w, (isAgg (ρ.t 24)).run P w = .ok true w) (zE : ∀ w, (Go.sizeOf (ρ.t 24)).run P w = .ok k w) {enc : α → List Value} (hk : ∀ x, (enc x).length = k) (h1 : ∀ x, ∀ v ∈ enc x, v.oneCell' = true)
    {cf : α → α → Int} (hO : SWO (ltOf cf)) {g : Nat} (eg : ∀ args w, (callFunc g args).run P w = .ok (.enter g args) w)
    (hc : ∀ x y w, Calls P g #[.agg (enc x).toArray, .agg (enc y).toArray] w (Ret fun v w' => v = .int .i64 (cf x y) ∧ Keep Nn w w')) {w : World} {base e B c : Nat} {l : List α} (hown : w.ownsRow base e k (.slice (some ⟨B, 0, none⟩) l.length c) l.length (flat enc l)) (hlt : l.length < 4611686018427387904) :
    Calls P (ρ.f 6) #[.slice (some ⟨B, 0, none⟩) l.length c, .func (.func g) #[] #[]] w (Ret fun v w' => v = .tuple #[] ∧ ∃ l', l'.Perm l ∧ (l'.Pairwise fun a b => ¬ cf b a < 0) ∧
      w'.ownsRow base e k (.slice (some ⟨B, 0, none⟩) l.length c) l.length (flat enc l') ∧ Keep (fun i => i = B) w w') := by
  rcases hown.2 with ⟨h2, _⟩ | ⟨B', cap, cur, h2, h3, h4, h5, h6, h7, h8⟩
  · simp at h2
  simp only [Value.slice.injEq, Option.some.injEq, Addr.mk.injEq, and_true, true_and] at h2
  obtain ⟨rfl, rfl⟩ := h2
  have hB : B < w.heap.size := by
    rcases Nat.lt_or_ge B w.heap.size with h | h
    · exact h
    · rw [Array.getElem?_eq_none h] at h4; cases h4
  have hlen : l.length * k ≤ cur.size := by rw [h7]; exact Nat.mul_le_mul_right _ h5
  have hH : HoldsK enc k w B 0 l.toArray := by
    intro j hj
    rw [flatK_flat hk] at hj ⊢
    simp only [List.size_toArray, flat_len hk] at hj
    have hget : cur[j]? = (flat enc l)[j]? := by
      rw [← h8, List.getElem?_take, if_pos hj]
      simp
    have hjl : j < (flat enc l).length := by rw [flat_len hk]; exact hj
    constructor
    · simp [World.cell?, h4, hget, hjl]
    · simp only [World.frozen?, h4]
      simp
  have hcon := AnyQ.slices_SortFunc L k aE zE enc hk h1 cf hO g #[] B 0 c l.toArray w eg (cmpLays_of hc B 0 l.toArray.size w) hH hB (by simpa using hlt)
  refine hcon.mono fun ex w' he => ?_
  obtain ⟨rfl, d', n, os, hp, hs, rfl⟩ := he
  have hds : d'.size = l.length := by have := hp.1; simpa using this
  have hd : d' = d'.toList.toArray := by simp
  have hfk : flatK enc k d' = (flat enc d'.toList).toArray := by rw [hd, flatK_flat hk]
  refine ⟨.tuple #[], rfl, rfl, d'.toList, perm_of hp, sorted_of (by simpa [hds] using hs), ?_, ?_⟩
  · have hl' : (flat enc d'.toList).length = l.length * k := by rw [flat_len hk]; simp [hds]
    refine ⟨hl', .inr ⟨B, c, putCells id 0 (flatK enc k d') cur, rfl, h3, ?_, h5, h6, by simp [putCells, h7], ?_⟩⟩
    · simp only [sortWorldK, putRowK, putRow, mapBlock, Go.Sort.grow, Go.Sort.ahead]
      rw [Array.getElem?_append_left (by simpa using hB)]
      simp [Array.getElem?_modify, h4, onCells]
    · refine List.ext_getElem? fun j => ?_
      rw [List.getElem?_take]
      split
      · rename_i hj
        have hjc : j < cur.size := Nat.lt_of_lt_of_le hj hlen
        have hjl : j < (flat enc d'.toList).length := by rw [hl']; exact hj
        rw [hfk]
        simp [putCells, hjc, hjl]
      · rename_i hj
        exact (List.getElem?_eq_none (by rw [hl']; omega)).symm
  · refine ⟨rfl, rfl, rfl, ?_, ?_, fun i hi hn => ?_⟩
    · simp [sortWorldK, putRowK, putRow, mapBlock, Go.Sort.grow, Go.Sort.ahead]
    · simp [sortWorldK, putRowK, putRow, mapBlock, Go.Sort.grow, Go.Sort.ahead]
    · simp only [sortWorldK, putRowK, putRow, mapBlock, Go.Sort.grow, Go.Sort.ahead]
      rw [Array.getElem?_append_left (by simpa using hi)]
      rw [Array.getElem?_modify]
      rw [if_neg (fun e => hn e.symm)]

/-- .. nil or not. -/
theorem sortFunc_own {P : Program} {ρ : Ren} {α : Type} [Inhabited α] (L : SlLaysF0.n6 P ρ) {k : Nat} (aE : ∀ w, (isAgg (ρ.t 24)).run P w = .ok true w) (zE : ∀ w, (Go.sizeOf (ρ.t 24)).run P w = .ok k w) {enc : α → List Value} (hk : ∀ x, (enc x).length = k) (h1 : ∀ x, ∀ v ∈ enc x, v.oneCell' = true)
    {cf : α → α → Int} (hO : SWO (ltOf cf)) {g : Nat} (eg : ∀ args w, (callFunc g args).run P w = .ok (.enter g args) w)
    (hc : ∀ x y w, Calls P g #[.agg (enc x).toArray, .agg (enc y).toArray] w (Ret fun v w' => v = .int .i64 (cf x y) ∧ Keep Nn w w')) {w : World} {base e c : Nat} {av : Option Addr} {l : List α} (hown : w.ownsRow base e k (.slice av l.length c) l.length (flat enc l)) (hlt : l.length < 4611686018427387904) :
    Calls P (ρ.f 6) #[.slice av l.length c, .func (.func g) #[] #[]] w (Ret fun v w' => v = .tuple #[] ∧ ∃ l', l'.Perm l ∧ (l'.Pairwise fun a b => ¬ cf b a < 0) ∧
      w'.ownsRow base e k (.slice av l.length c) l.length (flat enc l') ∧ Keep (fun i => Value.ownBlock (.slice av l.length c) = some i) w w') := by
  rcases hown.2 with ⟨h2, h3⟩ | ⟨B, cap, cur, h2, _⟩
  · simp only [Value.slice.injEq] at h2
    obtain ⟨rfl, hl0, rfl⟩ := h2
    have hl : l = [] := List.eq_nil_of_length_eq_zero hl0
    subst hl
    refine (AnyF.slices_SortFunc_none L none 0 (.func (.func g) #[] #[]) w).mono fun ex w' he => ?_
    obtain ⟨rfl, rfl⟩ := he
    exact ⟨_, rfl, rfl, [], List.Perm.refl _, List.Pairwise.nil, hown, Keep.refl _ _⟩
  · simp only [Value.slice.injEq] at h2
    obtain ⟨rfl, _, rfl⟩ := h2
    refine (sortFunc_some L aE zE hk h1 hO eg hc hown hlt).mono fun ex w' he => ?_
    obtain ⟨v, rfl, rfl, l', hp, hs, hx, hkk⟩ := he
    exact ⟨_, rfl, rfl, l', hp, hs, hx, hkk.mono fun i _ hi => by rw [hi]; rfl⟩
end Go.Px

/- Orders, plainly: lists in order, each thing once; handles and pairs are pairs of numbers. No program in sight. -/
namespace Go.Px
set_option linter.unusedVariables false
set_option linter.unusedSimpArgs false
set_option linter.unusedSectionVars false
open Go.Sort Go.Proofs Go.Shelf
theorem snoc_ind {α : Type} {m : List α → Prop} (h0 : m []) (h1 : ∀ l x, m l → m (l ++ [x])) (l : List α) : m l := by
  have h : ∀ r : List α, m r.reverse := fun r => by
    induction r with
    | nil => exact h0
    | cons x r ih => rw [List.reverse_cons]; exact h1 _ _ ih
  simpa using h l.reverse
theorem drop_cons {α : Type} {l : List α} {i : Nat} {d : α} (h : i < l.length) : l.drop i = l.getD i d :: l.drop (i + 1) := by
  rw [List.drop_eq_getElem_cons h]
  simp [List.getD_eq_getElem?_getD, h]
theorem take_snoc {α : Type} {l : List α} {i : Nat} {d : α} (h : i < l.length) : l.take (i + 1) = l.take i ++ [l.getD i d] := by
  rw [List.take_add_one]
  simp [List.getD_eq_getElem?_getD, h]
/-- The list without those of which p holds. -/
def dropP {α : Type} (p : α → Bool) (l : List α) : List α := l.filter fun x => !p x
theorem dropP_none {α : Type} {p : α → Bool} {l : List α} (h : ∀ x ∈ l, p x = false) : dropP p l = l := List.filter_eq_self.2 fun x hx => by simp [h x hx]
theorem dropP_snoc {α : Type} (p : α → Bool) (l : List α) (x : α) : dropP p (l ++ [x]) = dropP p l ++ (if p x = true then [] else [x]) := by
  unfold dropP
  rw [List.filter_append, List.filter_cons, List.filter_nil]
  cases p x <;> simp
theorem dropP_len {α : Type} (p : α → Bool) (l : List α) : (dropP p l).length ≤ l.length := List.length_filter_le ..
/-- The walk of a list that is cut in place: the first i are what has been kept of the first j. -/
structure Cut {α : Type} (p : α → Bool) (l ll : List α) (i j : Nat) : Prop where
  len : ll.length = l.length
  kept : ll.take i = dropP p (l.take j)
  rest : ll.drop j = l.drop j
  le : i < j
  jl : j ≤ l.length
theorem Cut.start {α : Type} {p : α → Bool} {l : List α} {i : Nat} {d : α} (h : i < l.length) (hp : p (l.getD i d) = true) (hn : ∀ x ∈ l.take i, p x = false) : Cut p l l i (i + 1) := by
  refine ⟨rfl, ?_, rfl, by omega, h⟩
  rw [take_snoc (d := d) h]
  unfold dropP
  rw [List.filter_append, List.filter_cons, hp]
  simp only [Bool.not_true, Bool.false_eq_true, if_false, List.filter_nil, List.append_nil]
  exact (dropP_none hn).symm
theorem getD_of_drop {α : Type} {l ll : List α} {j : Nat} {d : α} (h : ll.drop j = l.drop j) : ll.getD j d = l.getD j d := by
  have h1 : (ll.drop j)[0]? = (l.drop j)[0]? := by rw [h]
  simp only [List.getElem?_drop, Nat.add_zero] at h1
  simp [List.getD_eq_getElem?_getD, h1]
theorem drop_next {α : Type} {l ll : List α} {j : Nat} (h : ll.drop j = l.drop j) : ll.drop (j + 1) = l.drop (j + 1) := by
  rw [← List.drop_drop, h, List.drop_drop]
theorem Cut.skip {α : Type} {p : α → Bool} {l ll : List α} {i j : Nat} {d : α} (h : Cut p l ll i j) (hj : j < l.length) (hp : p (ll.getD j d) = true) : Cut p l ll i (j + 1) := by
  refine ⟨h.len, ?_, drop_next h.rest, by have := h.le; omega, hj⟩
  rw [getD_of_drop h.rest] at hp
  rw [h.kept, take_snoc (d := d) hj]
  unfold dropP
  rw [List.filter_append, List.filter_cons, hp]
  simp
theorem Cut.keep {α : Type} {p : α → Bool} {l ll : List α} {i j : Nat} {d : α} (h : Cut p l ll i j) (hj : j < l.length) (hp : p (ll.getD j d) = false) : Cut p l (ll.set i (ll.getD j d)) (i + 1) (j + 1) := by
  have hle := h.le
  have hlen := h.len
  refine ⟨by simpa using h.len, ?_, ?_, by omega, hj⟩
  · have e : (ll.set i (ll.getD j d)).take (i + 1) = ll.take i ++ [ll.getD j d] := by
      rw [take_snoc (d := d) (by simp; omega), List.take_set_of_le (Nat.le_refl _)]
      congr 2
      simp [List.getD_eq_getElem?_getD, show i < ll.length by omega]
    rw [e, h.kept, getD_of_drop h.rest, take_snoc (d := d) hj]
    rw [getD_of_drop h.rest] at hp
    unfold dropP
    rw [List.filter_append, List.filter_cons, hp]
    simp
  · rw [List.drop_set_of_lt (by omega)]
    exact drop_next h.rest
theorem Cut.done {α : Type} {p : α → Bool} {l ll : List α} {i j : Nat} (h : Cut p l ll i j) (hj : l.length ≤ j) (r : List α) : (ll.take i ++ r).take i = dropP p l := by
  have hle := h.le
  have hlen := h.len
  have hjl := h.jl
  rw [List.take_append_of_le_length (by rw [List.length_take]; omega), List.take_take, Nat.min_self, h.kept, List.take_of_length_le hj]

theorem Cut.lenEq {α : Type} {p : α → Bool} {l ll : List α} {i j : Nat} (h : Cut p l ll i j) (hj : l.length ≤ j) : i = (dropP p l).length := by
  have hle := h.le
  have hlen := h.len
  have hjl := h.jl
  have h1 := congrArg List.length h.kept
  rw [List.take_of_length_le hj, List.length_take] at h1
  omega
/-- An order: of two things one comes ahead, or they are the same. -/
structure Ord {α : Type} (lt : α → α → Bool) : Prop where
  irr : ∀ x, lt x x = false
  tr : ∀ x y z, lt x y = true → lt y z = true → lt x z = true
  tri : ∀ x y, lt x y = true ∨ x = y ∨ lt y x = true

section
variable {α : Type} [DecidableEq α] {lt : α → α → Bool}
/-- Rising, each once. -/
def Rises (lt : α → α → Bool) (l : List α) : Prop := l.Pairwise fun x y => lt x y = true
theorem Ord.ne (h : Ord lt) {x y : α} (hxy : lt x y = true) : x ≠ y := by
  rintro rfl
  rw [h.irr] at hxy
  cases hxy
theorem Ord.asym (h : Ord lt) {x y : α} (hxy : lt x y = true) : lt y x = false := by
  cases hyx : lt y x with
  | false => rfl
  | true =>
    have := h.tr _ _ _ hxy hyx
    rw [h.irr] at this
    cases this
theorem Rises.nodup (h : Ord lt) {l : List α} (hl : Rises lt l) : l.Nodup := hl.imp fun {x y} hxy => h.ne hxy
theorem Rises.ext (h : Ord lt) {l m : List α} (hl : Rises lt l) (hm : Rises lt m) (hmem : ∀ x, x ∈ l ↔ x ∈ m) : l = m :=
  List.Perm.eq_of_pairwise (le := fun x y : α => lt x y = true) (fun x y _ _ h1 h2 => by rw [h.asym h1] at h2; cases h2) hl hm ((List.perm_ext_iff_of_nodup (hl.nodup h) (hm.nodup h)).2 hmem)

/-- A rising list with one more. -/
def putS (lt : α → α → Bool) (l : List α) (x : α) : List α := if x ∈ l then l else l.takeWhile (fun y => lt y x) ++ x :: l.dropWhile (fun y => lt y x)
theorem mem_putS (l : List α) (x y : α) : y ∈ putS lt l x ↔ y ∈ l ∨ y = x := by
  unfold putS
  split
  · rename_i h
    constructor
    · exact .inl
    · rintro (h1 | rfl)
      · exact h1
      · exact h
  · have e : y ∈ l ↔ y ∈ l.takeWhile (fun y => lt y x) ∨ y ∈ l.dropWhile (fun y => lt y x) := by
      conv => lhs; rw [← List.takeWhile_append_dropWhile (p := fun y => lt y x) (l := l)]
      exact List.mem_append
    rw [e, List.mem_append, List.mem_cons]
    constructor
    · rintro (h1 | rfl | h1)
      · exact .inl (.inl h1)
      · exact .inr rfl
      · exact .inl (.inr h1)
    · rintro ((h1 | h1) | rfl)
      · exact .inl h1
      · exact .inr (.inr h1)
      · exact .inr (.inl rfl)
theorem mem_takeWhile {p : α → Bool} : ∀ {l : List α} {x : α}, x ∈ l.takeWhile p → p x = true
  | [], x, h => by simp at h
  | y :: r, x, h => by
    rw [List.takeWhile_cons] at h
    split at h
    · rename_i hy
      rcases List.mem_cons.1 h with rfl | h
      · exact hy
      · exact mem_takeWhile h
    · simp at h
theorem dropWhile_ge (h : Ord lt) {x : α} : ∀ {l : List α}, Rises lt l → ∀ y ∈ l.dropWhile (fun y => lt y x), lt y x = false
  | [], _, y, hy => by simp at hy
  | z :: r, hl, y, hy => by
    rw [List.dropWhile_cons] at hy
    have hl' := List.pairwise_cons.1 hl
    split at hy
    · exact dropWhile_ge h hl'.2 y hy
    · rename_i hz
      have hz : lt z x = false := by simpa using hz
      rcases List.mem_cons.1 hy with rfl | hy
      · exact hz
      · cases hyx : lt y x with
        | false => rfl
        | true => rw [h.tr _ _ _ (hl'.1 y hy) hyx] at hz; cases hz
theorem putS_rises (h : Ord lt) {l : List α} (hl : Rises lt l) (x : α) : Rises lt (putS lt l x) := by
  unfold putS
  split
  · exact hl
  · rename_i hx
    have h1 := hl.sublist (List.takeWhile_sublist (p := fun y => lt y x))
    have h2 := hl.sublist (List.dropWhile_sublist (p := fun y => lt y x))
    have h3 : ∀ y ∈ l.dropWhile (fun y => lt y x), lt x y = true := fun y hy => by
      have h4 := dropWhile_ge h hl y hy
      rcases h.tri y x with h5 | rfl | h5
      · rw [h5] at h4; cases h4
      · exact absurd ((List.dropWhile_sublist _).subset hy) hx
      · exact h5
    refine List.pairwise_append.2 ⟨h1, List.pairwise_cons.2 ⟨h3, h2⟩, fun y hy z hz => ?_⟩
    have h4 := mem_takeWhile (p := fun y => lt y x) hy
    rcases List.mem_cons.1 hz with rfl | hz
    · exact h4
    · exact h.tr _ _ _ h4 (h3 z hz)
/-- A list in order, each thing once. -/
def ordS (lt : α → α → Bool) (l : List α) : List α := l.foldl (putS lt) []
theorem ordS_snoc (l : List α) (x : α) : ordS lt (l ++ [x]) = putS lt (ordS lt l) x := by simp [ordS]
theorem ordS_rises (h : Ord lt) (l : List α) : Rises lt (ordS lt l) :=
  snoc_ind (m := fun l => Rises lt (ordS lt l)) List.Pairwise.nil (fun l x ih => by rw [ordS_snoc]; exact putS_rises h ih x) l
theorem mem_ordS (l : List α) (x : α) : x ∈ ordS lt l ↔ x ∈ l :=
  snoc_ind (m := fun l => x ∈ ordS lt l ↔ x ∈ l) (by simp [ordS]) (fun l y ih => by rw [ordS_snoc, mem_putS, ih, List.mem_append, List.mem_singleton]) l
theorem putS_len (l : List α) (x : α) : (putS lt l x).length ≤ l.length + 1 := by
  unfold putS
  split
  · omega
  · have h := congrArg List.length (List.takeWhile_append_dropWhile (p := fun y => lt y x) (l := l))
    simp only [List.length_append, List.length_cons] at h ⊢
    omega
theorem ordS_len (l : List α) : (ordS lt l).length ≤ l.length :=
  snoc_ind (m := fun l => (ordS lt l).length ≤ l.length) (by simp [ordS]) (fun l x ih => by
    have := putS_len (lt := lt) (ordS lt l) x
    rw [ordS_snoc, List.length_append, List.length_singleton]
    omega) l
theorem ordS_id (h : Ord lt) {l : List α} (hl : Rises lt l) : ordS lt l = l := Rises.ext h (ordS_rises h l) hl (mem_ordS l)
theorem ordS_ext (h : Ord lt) {l m : List α} (hm : ∀ x, x ∈ l ↔ x ∈ m) : ordS lt l = ordS lt m := Rises.ext h (ordS_rises h l) (ordS_rises h m) fun x => by rw [mem_ordS, mem_ordS, hm]

/-- A list without what is the same as what stands ahead of it. -/
def comp : List α → List α
  | [] => []
  | [x] => [x]
  | x :: y :: r => if x = y then comp (y :: r) else x :: comp (y :: r)
theorem mem_comp : ∀ (l : List α) (x : α), x ∈ comp l ↔ x ∈ l
  | [], x => by simp [comp]
  | [y], x => by simp [comp]
  | y :: z :: r, x => by
    simp only [comp]
    split
    · rename_i e
      subst e
      rw [mem_comp (y :: r) x]
      simp
    · rw [List.mem_cons, mem_comp (z :: r) x, List.mem_cons (a := x) (b := y)]
theorem comp_rises (h : Ord lt) : ∀ (l : List α), (l.Pairwise fun x y => lt y x = false) → Rises lt (comp l)
  | [], _ => List.Pairwise.nil
  | [y], _ => by simp [comp, Rises]
  | y :: z :: r, hl => by
    have hl' := List.pairwise_cons.1 hl
    simp only [comp]
    split
    · exact comp_rises h _ hl'.2
    · rename_i hne
      refine List.pairwise_cons.2 ⟨fun u hu => ?_, comp_rises h _ hl'.2⟩
      have hu' : u ∈ z :: r := (mem_comp _ u).1 hu
      have h1 := hl'.1 u hu'
      rcases h.tri y u with h2 | rfl | h2
      · exact h2
      · -- y stands again: then it is z, or z lies between
        exfalso
        have hyz := hl'.1 z (by simp)
        rcases List.mem_cons.1 hu' with rfl | hr
        · exact hne rfl
        · have hzy := (List.pairwise_cons.1 hl'.2).1 y hr
          rcases h.tri y z with h3 | h3 | h3
          · rw [h3] at hzy; cases hzy
          · exact hne h3
          · rw [h3] at hyz; cases hyz
      · rw [h2] at h1; cases h1
theorem comp_ordS (h : Ord lt) {l l' : List α} (hp : l'.Perm l) (hs : l'.Pairwise fun x y => lt y x = false) : comp l' = ordS lt l :=
  Rises.ext h (comp_rises h l' hs) (ordS_rises h l) fun x => by rw [mem_comp, mem_ordS, hp.mem_iff]
end

section
variable {α : Type} [DecidableEq α] {lt : α → α → Bool}
/-- Where a thing stands, or would stand. -/
def pos (lt : α → α → Bool) (l : List α) (t : α) : Nat := (l.takeWhile fun y => lt y t).length
theorem pos_le (l : List α) (t : α) : pos lt l t ≤ l.length := (List.takeWhile_sublist _).length_le
theorem takeWhile_pos (l : List α) (t : α) : l.takeWhile (fun y => lt y t) = l.take (pos lt l t) := by
  have h := List.takeWhile_append_dropWhile (p := fun y => lt y t) (l := l)
  have h1 : (l.takeWhile (fun y => lt y t) ++ l.dropWhile (fun y => lt y t)).take (pos lt l t) = l.takeWhile (fun y => lt y t) := List.take_left
  rw [h] at h1
  exact h1.symm
theorem dropWhile_pos (l : List α) (t : α) : l.dropWhile (fun y => lt y t) = l.drop (pos lt l t) := by
  have h := List.takeWhile_append_dropWhile (p := fun y => lt y t) (l := l)
  have h1 : (l.takeWhile (fun y => lt y t) ++ l.dropWhile (fun y => lt y t)).drop (pos lt l t) = l.dropWhile (fun y => lt y t) := List.drop_left
  rw [h] at h1
  exact h1.symm
theorem pos_unique : ∀ {l : List α} {t d : α} {i : Nat}, i ≤ l.length → (∀ j, j < i → lt (l.getD j d) t = true) → (i < l.length → lt (l.getD i d) t = false) → i = pos lt l t
  | [], t, d, i, hi, _, _ => by simp at hi; subst hi; rfl
  | y :: r, t, d, 0, _, _, h2 => by
    have := h2 (by simp)
    simp at this
    simp [pos, this]
  | y :: r, t, d, i + 1, hi, h1, h2 => by
    have h0 := h1 0 (by omega)
    simp at h0
    have ih := pos_unique (l := r) (t := t) (d := d) (i := i) (by simpa using hi) (fun j hj => by simpa using h1 (j + 1) (by omega)) (fun h => by simpa using h2 (by simpa using h))
    simp only [pos] at ih ⊢
    rw [List.takeWhile_cons, if_pos h0, List.length_cons, ← ih]
theorem pos_lt {l : List α} {t d : α} {j : Nat} (h : j < pos lt l t) : lt (l.getD j d) t = true := by
  have hl := pos_le (lt := lt) l t
  have hm : l.getD j d ∈ l.takeWhile (fun y => lt y t) := by
    rw [takeWhile_pos, List.mem_take_iff_getElem]
    exact ⟨j, by omega, by simp [List.getD_eq_getElem?_getD, show j < l.length by omega]⟩
  exact mem_takeWhile (p := fun y => lt y t) hm
theorem pos_ge (h : Ord lt) {l : List α} (hl : Rises lt l) {t d : α} {j : Nat} (hj : pos lt l t ≤ j) (hjl : j < l.length) : lt (l.getD j d) t = false := by
  refine dropWhile_ge h hl _ ?_
  rw [dropWhile_pos, List.mem_drop_iff_getElem]
  exact ⟨j - pos lt l t, by omega, by simp [List.getD_eq_getElem?_getD, hjl, show pos lt l t + (j - pos lt l t) = j by omega]⟩
theorem pos_mem (h : Ord lt) {l : List α} (hl : Rises lt l) (t d : α) : t ∈ l ↔ pos lt l t < l.length ∧ l.getD (pos lt l t) d = t := by
  constructor
  · intro hm
    obtain ⟨j, hj, rfl⟩ := List.getElem_of_mem hm
    have hp : j = pos lt l l[j] := by
      refine pos_unique (d := d) (by omega) (fun k hk => ?_) (fun _ => ?_)
      · have := (List.pairwise_iff_getElem.1 hl) k j (by omega) hj hk
        simpa [List.getD_eq_getElem?_getD, show k < l.length by omega] using this
      · simp [List.getD_eq_getElem?_getD, hj, h.irr]
    rw [← hp]
    exact ⟨hj, by simp [List.getD_eq_getElem?_getD, hj]⟩
  · rintro ⟨h1, h2⟩
    rw [← h2]
    simp [List.getD_eq_getElem?_getD, h1]
theorem putS_eq (l : List α) (x : α) : putS lt l x = if x ∈ l then l else l.take (pos lt l x) ++ x :: l.drop (pos lt l x) := by
  unfold putS
  rw [takeWhile_pos, dropWhile_pos]
theorem putS_in {l : List α} {x : α} (h : x ∈ l) : putS lt l x = l := by rw [putS_eq, if_pos h]
theorem putS_out {l : List α} {x : α} (h : ¬ x ∈ l) : putS lt l x = l.take (pos lt l x) ++ x :: l.drop (pos lt l x) := by rw [putS_eq, if_neg h]
end
section
variable {α : Type} [DecidableEq α]
theorem comp_snoc2 : ∀ (l : List α) (y x : α), comp (l ++ [y] ++ [x]) = if y = x then comp (l ++ [y]) else comp (l ++ [y]) ++ [x]
  | [], y, x => by by_cases h : y = x <;> simp [comp, h]
  | [a], y, x => by by_cases h : a = y <;> by_cases h2 : y = x <;> simp_all [comp]
  | a :: b :: r, y, x => by
    have ih := comp_snoc2 (b :: r) y x
    simp only [List.cons_append, List.nil_append, comp] at ih ⊢
    split
    · exact ih
    · rw [ih]
      split <;> simp
theorem comp_take {l : List α} {j : Nat} {d : α} (h0 : 0 < j) (h : j < l.length) : comp (l.take (j + 1)) = if l.getD (j - 1) d = l.getD j d then comp (l.take j) else comp (l.take j) ++ [l.getD j d] := by
  have e1 : l.take (j + 1) = l.take j ++ [l.getD j d] := take_snoc h
  have e2 : l.take j = l.take (j - 1) ++ [l.getD (j - 1) d] := by
    have := take_snoc (l := l) (i := j - 1) (d := d) (by omega)
    rwa [show j - 1 + 1 = j by omega] at this
  rw [e1]
  conv => lhs; rw [e2]
  conv => rhs; rw [e2]
  exact comp_snoc2 _ _ _
theorem comp_one (l : List α) (h : l.length < 2) : comp l = l := by
  match l, h with
  | [], _ => rfl
  | [x], _ => rfl
/-- The first k stand as they are; from j on nothing has been looked at. -/
structure Cmp (l ll : List α) (k j : Nat) : Prop where
  len : ll.length = l.length
  kept : ll.take k = comp (l.take j)
  rest : ll.drop k = l.drop k
  k1 : 1 ≤ k
  le : k < j
  jl : j ≤ l.length
theorem Cmp.start {l : List α} {k : Nat} {d : α} (h1 : 1 ≤ k) (h : k < l.length) (hc : comp (l.take k) = l.take k) (he : l.getD k d = l.getD (k - 1) d) : Cmp l l k (k + 1) := by
  refine ⟨rfl, ?_, rfl, h1, by omega, h⟩
  rw [comp_take (d := d) (by omega) h, if_pos he.symm, hc]
theorem comp_go {l : List α} {k : Nat} {d : α} (h1 : 1 ≤ k) (h : k < l.length) (hc : comp (l.take k) = l.take k) (he : l.getD k d ≠ l.getD (k - 1) d) : comp (l.take (k + 1)) = l.take (k + 1) := by
  rw [comp_take (d := d) (by omega) h, if_neg (fun e => he e.symm), hc, take_snoc (d := d) h]
theorem Cmp.at_ {l ll : List α} {k j i : Nat} {d : α} (h : Cmp l ll k j) (hi : k ≤ i) : ll.getD i d = l.getD i d := by
  have h1 : (ll.drop k)[i - k]? = (l.drop k)[i - k]? := by rw [h.rest]
  simp only [List.getElem?_drop, show k + (i - k) = i by omega] at h1
  simp [List.getD_eq_getElem?_getD, h1]
theorem Cmp.skip {l ll : List α} {k j : Nat} {d : α} (h : Cmp l ll k j) (hj : j < l.length) (he : ll.getD j d = ll.getD (j - 1) d) : Cmp l ll k (j + 1) := by
  have hk := h.le
  have hk1 := h.k1
  rw [h.at_ (by omega), h.at_ (by omega)] at he
  exact ⟨h.len, by rw [comp_take (d := d) (by omega) hj, if_pos he.symm]; exact h.kept, h.rest, h.k1, by omega, hj⟩
theorem Cmp.keep {l ll : List α} {k j : Nat} {d : α} (h : Cmp l ll k j) (hj : j < l.length) (he : ll.getD j d ≠ ll.getD (j - 1) d) : Cmp l (ll.set k (ll.getD j d)) (k + 1) (j + 1) := by
  have hk := h.le
  have hk1 := h.k1
  have hl := h.len
  have e2 : ll.getD j d = l.getD j d := h.at_ (by omega)
  rw [h.at_ (by omega), h.at_ (by omega)] at he
  refine ⟨by simpa using h.len, ?_, ?_, by omega, by omega, hj⟩
  · have e : (ll.set k (ll.getD j d)).take (k + 1) = ll.take k ++ [ll.getD j d] := by
      rw [take_snoc (d := d) (by simp; omega), List.take_set_of_le (Nat.le_refl _)]
      congr 2
      simp [List.getD_eq_getElem?_getD, show k < ll.length by omega]
    rw [e, h.kept, e2, comp_take (d := d) (by omega) hj, if_neg (fun e => he e.symm)]
  · rw [List.drop_set_of_lt (by omega)]
    exact drop_next h.rest
theorem Cmp.done {l ll : List α} {k j : Nat} (h : Cmp l ll k j) (hj : l.length ≤ j) (r : List α) : (ll.take k ++ r).take k = comp l := by
  have hle := h.le
  have hlen := h.len
  have hjl := h.jl
  rw [List.take_append_of_le_length (by rw [List.length_take]; omega), List.take_take, Nat.min_self, h.kept, List.take_of_length_le hj]
theorem Cmp.lenEq {l ll : List α} {k j : Nat} (h : Cmp l ll k j) (hj : l.length ≤ j) : k = (comp l).length := by
  have hle := h.le
  have hlen := h.len
  have hjl := h.jl
  have h1 := congrArg List.length h.kept
  rw [List.take_of_length_le hj, List.length_take] at h1
  omega
theorem comp_len : ∀ l : List α, (comp l).length ≤ l.length
  | [] => by simp [comp]
  | [x] => by simp [comp]
  | x :: y :: r => by
    have ih := comp_len (y :: r)
    simp only [comp]
    split
    · simp only [List.length_cons] at ih ⊢; omega
    · simp only [List.length_cons] at ih ⊢; omega
theorem getD_drop {l : List α} {m i : Nat} {d : α} : (l.drop m).getD i d = l.getD (m + i) d := by simp [List.getD_eq_getElem?_getD]
end

/-! ### The same, at whole numbers' places -/
section
variable {α : Type} [DecidableEq α] {l : List α} {d : α}
theorem Cmp.startI {i : Nat} (h : 1 ≤ i ∧ i ≤ l.length ∧ comp (l.take i) = l.take i) (hi : (i : Int) < (l.length : Nat)) (he : l.getD ((i : Int)).toNat d = l.getD ((i : Int) - 1).toNat d) : Cmp l l ((i : Int)).toNat (i + (1 : Int).toNat) := by
  rw [show ((i : Int)).toNat = i by omega] at he ⊢
  rw [show ((i : Int) - 1).toNat = i - 1 by omega] at he
  exact Cmp.start h.1 (by omega) h.2.2 he
theorem comp_goI {i : Nat} (h : 1 ≤ i ∧ i ≤ l.length ∧ comp (l.take i) = l.take i) (hi : (i : Int) < (l.length : Nat)) (he : l.getD ((i : Int)).toNat d ≠ l.getD ((i : Int) - 1).toNat d) : comp (l.take (i + 1)) = l.take (i + 1) := by
  rw [show ((i : Int)).toNat = i by omega, show ((i : Int) - 1).toNat = i - 1 by omega] at he
  exact comp_go h.1 (by omega) h.2.2 he
theorem Cmp.keepI {x : Int × Int × List α} {i : Nat} (hI : 1 ≤ x.1 ∧ 1 ≤ x.2.1 ∧ Cmp l x.2.2 x.1.toNat (i + x.2.1.toNat)) (hj : x.2.1 < ((l.length - ((i : Int)).toNat : Nat) : Int)) (he : x.2.2.getD (((i : Int)).toNat + x.2.1.toNat) d ≠ x.2.2.getD (((i : Int)).toNat + (x.2.1 - 1).toNat) d) :
    Cmp l (x.2.2.set x.1.toNat (x.2.2.getD (((i : Int)).toNat + x.2.1.toNat) d)) (x.1 + 1).toNat (i + (x.2.1 + 1).toNat) := by
  obtain ⟨h1, h2, c⟩ := hI
  rw [show ((i : Int)).toNat = i by omega, show i + (x.2.1 - 1).toNat = i + x.2.1.toNat - 1 by omega] at he
  rw [show ((i : Int)).toNat = i by omega, show (x.1 + 1).toNat = x.1.toNat + 1 by omega, show i + (x.2.1 + 1).toNat = i + x.2.1.toNat + 1 by omega]
  exact c.keep (by omega) he
theorem Cmp.skipI {x : Int × Int × List α} {i : Nat} (hI : 1 ≤ x.1 ∧ 1 ≤ x.2.1 ∧ Cmp l x.2.2 x.1.toNat (i + x.2.1.toNat)) (hj : x.2.1 < ((l.length - ((i : Int)).toNat : Nat) : Int)) (he : x.2.2.getD (((i : Int)).toNat + x.2.1.toNat) d = x.2.2.getD (((i : Int)).toNat + (x.2.1 - 1).toNat) d) :
    Cmp l x.2.2 x.1.toNat (i + (x.2.1 + 1).toNat) := by
  obtain ⟨h1, h2, c⟩ := hI
  rw [show ((i : Int)).toNat = i by omega, show i + (x.2.1 - 1).toNat = i + x.2.1.toNat - 1 by omega] at he
  rw [show i + (x.2.1 + 1).toNat = i + x.2.1.toNat + 1 by omega]
  exact c.skip (by omega) he
theorem comp_all {i : Nat} (h : 1 ≤ i ∧ i ≤ l.length ∧ comp (l.take i) = l.take i) (hi : ¬ (i : Int) < (l.length : Nat)) : comp l = l := by
  have := h.2.2
  rwa [show i = l.length by omega, List.take_length] at this
end
abbrev Hd := Int × Int
abbrev Pd := Hd × Hd
def ltH (x y : Hd) : Bool := decide (x.1 < y.1 ∨ x.1 = y.1 ∧ x.2 < y.2)
def ltP (x y : Pd) : Bool := ltH x.1 y.1 || (decide (x.1 = y.1) && ltH x.2 y.2)
theorem ordH : Ord ltH := by
  refine ⟨fun x => by simp [ltH], fun x y z h1 h2 => ?_, fun x y => ?_⟩
  · simp only [ltH, decide_eq_true_eq] at *; omega
  · obtain ⟨a, b⟩ := x
    obtain ⟨c, d⟩ := y
    simp only [ltH, decide_eq_true_eq, Prod.mk.injEq]; omega
theorem ordP : Ord ltP := by
  refine ⟨fun x => by simp [ltP, ordH.irr], fun x y z h1 h2 => ?_, fun x y => ?_⟩
  · simp only [ltP, Bool.or_eq_true, Bool.and_eq_true, decide_eq_true_eq] at *
    rcases h1 with h1 | ⟨e1, h1⟩ <;> rcases h2 with h2 | ⟨e2, h2⟩
    · exact .inl (ordH.tr _ _ _ h1 h2)
    · exact .inl (e2 ▸ h1)
    · exact .inl (e1 ▸ h2)
    · exact .inr ⟨e1.trans e2, ordH.tr _ _ _ h1 h2⟩
  · obtain ⟨a, b⟩ := x
    obtain ⟨c, d⟩ := y
    simp only [ltP, Bool.or_eq_true, Bool.and_eq_true, decide_eq_true_eq]
    rcases ordH.tri a c with h | h | h
    · exact .inl (.inl h)
    · subst h
      rcases ordH.tri b d with h | h | h
      · exact .inl (.inr ⟨rfl, h⟩)
      · subst h; exact .inr (.inl rfl)
      · exact .inr (.inr (.inr ⟨rfl, h⟩))
    · exact .inr (.inr (.inl h))
def cmpI (a b : Int) : Int := if a < b then -1 else if b < a then 1 else 0
def cmpH (a b : Hd) : Int := if cmpI a.1 b.1 = 0 then cmpI a.2 b.2 else cmpI a.1 b.1
def cmpP (a b : Pd) : Int := if cmpH a.1 b.1 = 0 then cmpH a.2 b.2 else cmpH a.1 b.1
theorem cmpI_neg (a b : Int) : cmpI a b < 0 ↔ a < b := by unfold cmpI; split <;> (try split) <;> omega
theorem cmpI_zero (a b : Int) : cmpI a b = 0 ↔ a = b := by unfold cmpI; split <;> (try split) <;> omega
theorem cmpH_zero (a b : Hd) : cmpH a b = 0 ↔ a = b := by
  obtain ⟨a1, a2⟩ := a; obtain ⟨b1, b2⟩ := b
  simp only [cmpH, Prod.mk.injEq]
  have h1 := cmpI_zero a1 b1; have h2 := cmpI_zero a2 b2
  split
  · rename_i h; rw [h2]; exact ⟨fun e => ⟨h1.1 h, e⟩, fun e => e.2⟩
  · rename_i h; exact ⟨fun e => absurd e h, fun e => absurd (h1.2 e.1) h⟩
theorem cmpH_neg (a b : Hd) : cmpH a b < 0 ↔ ltH a b = true := by
  have h1 := cmpI_zero a.1 b.1; have h2 := cmpI_neg a.2 b.2; have h3 := cmpI_neg a.1 b.1
  simp only [cmpH, ltH, decide_eq_true_eq]
  split
  · rename_i h; rw [h2]; have := h1.1 h; omega
  · rename_i h; rw [h3]; have : ¬ a.1 = b.1 := fun e => h (h1.2 e); omega
theorem cmpP_neg (a b : Pd) : cmpP a b < 0 ↔ ltP a b = true := by
  have h1 := cmpH_zero a.1 b.1; have h2 := cmpH_neg a.2 b.2; have h3 := cmpH_neg a.1 b.1
  simp only [cmpP, ltP, Bool.or_eq_true, Bool.and_eq_true, decide_eq_true_eq]
  split
  · rename_i h
    have e := h1.1 h
    rw [h2]
    exact ⟨fun h => .inr ⟨e, h⟩, fun h => h.elim (fun h => by rw [e, ordH.irr] at h; cases h) (·.2)⟩
  · rename_i h
    rw [h3]
    exact ⟨.inl, fun h' => h'.elim id fun h' => absurd (h1.2 h'.1) h⟩
theorem swo_of {α : Type} {lt : α → α → Bool} (ho : Ord lt) {cf : α → α → Int} (h : ∀ x y, cf x y < 0 ↔ lt x y = true) : SWO (ltOf cf) := by
  have e : ∀ x y, ltOf cf x y = lt x y := fun x y => by
    rw [Bool.eq_iff_iff, ← h]
    simp [ltOf]
  refine ⟨fun x => by rw [e]; exact ho.irr x, fun x y z h1 h2 => ?_, fun x y z h1 h2 => ?_⟩
  · rw [e] at *
    exact ho.tr _ _ _ h1 h2
  · rw [e] at *
    cases h3 : lt x z with
    | false => rfl
    | true =>
      rcases ho.tri x y with h4 | rfl | h4
      · rw [h4] at h1; cases h1
      · rw [h3] at h2; cases h2
      · rw [ho.tr _ _ _ h4 h3] at h2; cases h2
theorem pair_of {α : Type} {lt : α → α → Bool} {cf : α → α → Int} (h : ∀ x y, cf x y < 0 ↔ lt x y = true) {l : List α} (hl : l.Pairwise fun a b => ¬ cf b a < 0) : l.Pairwise fun x y => lt y x = false :=
  hl.imp fun {x y} hxy => by
    cases h1 : lt y x with
    | false => rfl
    | true => exact absurd ((h y x).2 h1) hxy
end Go.Px

/- Shorter slices; sorting; a map that is cut down while one goes over it. Nothing of any one program stands here. -/
namespace Go.Zz
open Go.Px Go.RowKit
open Go.ChangeMaps (setBlock)
set_option linter.unusedVariables false
set_option linter.unusedSimpArgs false
set_option linter.unusedSectionVars false

/-! ### Contracts whose end is told otherwise -/
theorem Does.post_mono {Γ : Ctx} {f : FuncId} {S : Spec} (post' : S.X → Hp) (h : Does Γ f S) (hp : ∀ x En V w, S.cond x → HpOk Γ En V S.n1 (S.post x) w → HpOk Γ En V S.n1 (post' x) w) : Does Γ f { S with post := post' } := by
  refine ⟨h.1, h.2.1, h.2.2.1, fun V w hw => ?_⟩
  obtain ⟨R, hR, hb⟩ := h.2.2.2 V w hw
  refine ⟨R, hR, fun v w' hr => ?_⟩
  obtain ⟨x, V', h1, h2, h3, h4, h5⟩ := hb v w' hr
  exact ⟨x, V', h1, h2, h3, h4, hp x _ _ _ h1 h5⟩
theorem Does.ret {Γ : Ctx} {f : FuncId} {args : List SV} {H : Hp} {n0 : Nat} {r r' : SV} (h : Does Γ f (Sp0 args H n0 r)) (he : ∀ ρ, r.den Γ.Δ ρ = r'.den Γ.Δ ρ) (hb : r'.bd n0) : Does Γ f (Sp0 args H n0 r') := by
  refine ⟨h.1, h.2.1, h.2.2.1, fun V w hw => ?_⟩
  obtain ⟨R, hR, hq⟩ := h.2.2.2 V w hw
  refine ⟨R, hR, fun v w' hr => ?_⟩
  obtain ⟨x, V', h1, h2, h3, h4, h5⟩ := hq v w' hr
  exact ⟨x, V', h1, h2.trans (he _), hb, h4, h5⟩
theorem Does.fix {Γ : Ctx} {f : FuncId} {S : Spec} (h : Does Γ f S) (x0 : S.X) (hx : ∀ x, S.cond x → x = x0) : Does Γ f ⟨S.args, S.H, S.n0, S.n1, Unit, fun _ => True, fun _ => S.ret x0, fun _ => S.post x0⟩ := by
  refine ⟨h.1, h.2.1, h.2.2.1, fun V w hw => ?_⟩
  obtain ⟨R, hR, hb⟩ := h.2.2.2 V w hw
  refine ⟨R, hR, fun v w' hr => ?_⟩
  obtain ⟨x, V', h1, h2, h3, h4, h5⟩ := hb v w' hr
  obtain rfl := hx x h1
  exact ⟨(), V', trivial, h2, h3, h4, h5⟩
theorem HpOk.shrink {Γ : Ctx} {En : Ent} {V : Val} {nx c : Nat} {H : Hp} {w : World} {α : Type} {en : Enc α} {e : TypeId} {l1 l2 : List α} {k : Nat} (h : HpOk Γ En V nx H w) (hc : lk H c = some (.arr α en e (l1 ++ l2) k)) : HpOk Γ En V nx (setH H c (.arr α en e l1 k)) w := by
  obtain ⟨⟨h1, h2⟩, h3⟩ := h.hr.ok c _ hc
  have hfl : (flat en.val l1).length = l1.length * en.sz := flat_len en.len l1
  refine h.set hc (Keep.refl _ _) ⟨⟨hfl, ?_⟩, fun i => ?_⟩ trivial
  · rcases h2 with ⟨q1, q2⟩ | ⟨g, cap, cur, q1, q2, q3, q4, q5, q6, q7⟩
    · simp only [Value.slice.injEq] at q1
      obtain ⟨q1, q3, rfl⟩ := q1
      have : l1.length = 0 := by rw [List.length_append] at q3; omega
      exact .inl ⟨by rw [q1, this], this⟩
    · simp only [Value.slice.injEq] at q1
      obtain ⟨q1, q8, rfl⟩ := q1
      refine .inr ⟨g, k, cur, by rw [q1], q2, q3, by rw [List.length_append] at q4; omega, q5, q6, ?_⟩
      have := congrArg (List.take (l1.length * en.sz)) q7
      rw [List.take_take, flat_app, List.take_left' hfl, Nat.min_eq_left (by rw [List.length_append]; exact Nat.mul_le_mul_right _ (Nat.le_add_right _ _))] at this
      exact this
  · rw [h3 i]
    cases V.ρ c <;> simp [Value.ownBlock]

/-! ### Sorting -/
theorem sort_does {Γ : Ctx} {ρ : Go.Shelf.Ren} {α : Type} [Inhabited α] {en : Enc α} (L : Go.Proofs.SlLaysF0.n6 Γ.P ρ) (aE : ∀ w, (isAgg (ρ.t 24)).run Γ.P w = .ok true w) (zE : ∀ w, (Go.sizeOf (ρ.t 24)).run Γ.P w = .ok en.sz w)
    {lt : α → α → Bool} (ho : Ord lt) {cf : α → α → Int} (hcf : ∀ x y, cf x y < 0 ↔ lt x y = true) {g : Nat} (hc : ∀ x y, DoesC { Γ with errs := [] } g (Sp0 [.agg (en.get x), .agg (en.get y)] [] 0 (.int .i64 (cf x y)))) {f : FuncId} (hf : f = ρ.f 6) (hen : enters Γ.P f)
    (l : List α) (k e : Nat) (hlen : l.length < 4611686018427387904) :
    Does Γ f ⟨[.sl 0 l.length k, .fn g []], [(0, .arr α en e l k)], 1, 1, List α, fun l' => l'.Perm l ∧ l'.Pairwise fun x y => lt y x = false, fun _ => .tup [], fun l' => [(0, .arr α en e l' k)]⟩ := by
  subst hf
  refine ⟨Nat.le_refl _, by simp [SV.bdL, SV.bd], hbB_ok rfl, fun V w hp => ?_⟩
  obtain ⟨hown, hβ⟩ := hp.hr.ok 0 _ rfl
  have hcall := sortFunc_own L aE zE en.len en.one (swo_of ho hcf) (run_callFunc (hc default default).2.2.2.1) (fun x y w => ((hc x y).two w).mono fun ex w' he => by
    obtain ⟨v, rfl, hv, hk⟩ := he
    exact ⟨v, rfl, by rw [hv, SV.den], hk⟩) hown hlen
  have e0 : (SV.denL Γ.Δ V.ρ [SV.sl 0 l.length k, SV.fn g []]).toArray = #[.slice (V.ρ 0) l.length k, .func (.func g) #[] #[]] := by simp [SV.denL, SV.den]
  refine ⟨_, .inl ⟨hen, by rw [e0]; exact hcall⟩, fun v w' hr => ?_⟩
  obtain ⟨rfl, l', hperm, hpw, hx, hk⟩ := hr
  have hl := hperm.length_eq
  refine ⟨l', V, ⟨hperm, pair_of hcf hpw⟩, by simp [SV.den, SV.denL], by simp [SV.bd, SV.bdL], fun _ _ => rfl, ?_⟩
  have := hp.set (c := 0) (ch' := .arr α en e l' k) rfl (hk.mono fun i _ hi => (hβ i).2 hi) ⟨by rw [hl]; exact hx, fun i => by rw [hl]; exact hβ i⟩ trivial
  exact this

/-! ### Going over a map that is cut down -/
section
variable {κ ν : Type} [DecidableEq κ]
theorem KeyT.inj {P : Program} {k : TypeId} {fk : κ → Value} (K : KeyT P k fk) {x y : κ} (h : fk x = fk y) : x = y := by
  obtain ⟨w⟩ : Nonempty World := ⟨default⟩
  have e : MapEntry := { key := fk x, val := fk x, born := 0 }
  by_cases hxy : x = y
  · exact hxy
  · exfalso
    have h1 := K.find w x [{ key := fk x, val := fk x, born := 0 }] [x] rfl
    have h2 := K.find w x [{ key := fk x, val := fk x, born := 0 }] [y] (by simp [h])
    rw [h1] at h2
    simp [List.findIdx?_cons, Ne.symm hxy] at h2
theorem filter_erase {β : Type} {p : β → Bool} : ∀ {l : List β} {i : Nat} {x : β}, l[i]? = some x → p x = false → (l.eraseIdx i).filter p = l.filter p
  | [], i, x, h, _ => by simp at h
  | y :: r, 0, x, h, hp => by
    simp only [List.getElem?_cons_zero, Option.some.injEq] at h
    subst h
    simp [List.filter_cons, hp]
  | y :: r, i + 1, x, h, hp => by
    simp only [List.getElem?_cons_succ] at h
    simp only [List.eraseIdx_cons_succ, List.filter_cons, filter_erase h hp]
theorem IterC.cut {P : Program} {t k e : TypeId} {ty : TypeId} {w : World} {B r : Nat} {fk : κ → Value} {fv : ν → Value} {L left : List (κ × ν)} {x : κ} {v : ν} (K : KeyT P k fk) (ht : P.underlying t = some (.map k e)) (h : IterC w B r fk fv L left (some (x, v))) :
    ∃ w', (Builtin.delete_ #[t, k] ty #[.map (some B), fk x]).run P w = .ok (.tuple #[]) w' ∧ IterC w' B r fk fv (Go.Px.delK L x) left none ∧ Keep (fun i => i = B) w w' := by
  obtain ⟨es, clock, since, s0, e0, hB, hr, he0, hp, hek, hev⟩ := h.cu x v rfl
  obtain ⟨es2, clock2, since2, c2, seen, hB2, hr2, hold, hs1, hs2, hp2, hleft, he⟩ := h.it.it
  rw [hB] at hB2; rw [hr] at hr2
  simp only [Option.some.injEq, Obj.map.injEq, Obj.mapIter.injEq] at hB2 hr2
  obtain ⟨rfl, rfl⟩ := hB2
  obtain ⟨_, rfl, rfl, rfl⟩ := hr2
  have hnd := h.it.map.nd
  obtain ⟨es1, clock1, hB1, he1, _, hc⟩ := h.it.map.ex
  rw [hB] at hB1
  simp only [Option.some.injEq, Obj.map.injEq] at hB1
  obtain ⟨rfl, rfl⟩ := hB1
  have h1 := K.find w x es.toList (L.map (·.1)) (keys_of he)
  rw [ent_at he] at h1
  obtain ⟨j, hj⟩ := List.getElem?_of_mem he0
  have hLj : ∃ q, L[j]? = some q ∧ q.1 = x := by
    have := congrArg (fun l => l[j]?) he
    simp only [List.getElem?_map, hj, Option.map_some] at this
    cases hq : L[j]? with
    | none => rw [hq] at this; cases this
    | some q =>
      rw [hq] at this
      simp only [Option.map_some, Option.some.injEq, Prod.mk.injEq] at this
      exact ⟨q, rfl, KeyT.inj K (this.1.symm.trans hek)⟩
  obtain ⟨q0, hq0, hqx⟩ := hLj
  cases hrr : (((L.map (·.1)).findIdx? fun y => decide (y = x)).bind fun i => (L[i]?).map fun p => (i, fv p.2)) with
  | none =>
    have h3 := nospot hrr
    rw [hasK_iff.2 (List.mem_map.2 ⟨q0, List.mem_of_getElem? hq0, hqx⟩)] at h3
    cases h3
  | some q =>
    rw [hrr] at h1
    obtain ⟨v0, hl, hv0⟩ := spot hrr
    have hnd' := List.pairwise_map.1 hnd
    have hjq : j = q.1 := by
      rcases Nat.lt_trichotomy j q.1 with hlt | e | hlt
      · exfalso
        have := (List.pairwise_iff_getElem.1 hnd') j q.1 (List.getElem?_eq_some_iff.1 hq0).1 (List.getElem?_eq_some_iff.1 hl).1 hlt
        rw [(List.getElem?_eq_some_iff.1 hq0).2, (List.getElem?_eq_some_iff.1 hl).2] at this
        exact this hqx
      · exact e
      · exfalso
        have := (List.pairwise_iff_getElem.1 hnd') q.1 j (List.getElem?_eq_some_iff.1 hl).1 (List.getElem?_eq_some_iff.1 hq0).1 hlt
        rw [(List.getElem?_eq_some_iff.1 hq0).2, (List.getElem?_eq_some_iff.1 hl).2] at this
        exact this hqx.symm
    subst hjq
    have hjs : q.1 < es.size := by have := (List.getElem?_eq_some_iff.1 hj).1; simpa using this
    have hsub : (es.eraseIdxIfInBounds q.1).toList = es.toList.eraseIdx q.1 := by
      unfold Array.eraseIdxIfInBounds
      rw [dif_pos hjs]
      simp
    have e1 : Go.Px.delK L x = L.eraseIdx q.1 := by
      refine ChangeMaps.filter_eq_eraseIdx (fun p : κ × ν => decide (p.1 = x)) L q.1 (x, v0) hl (by simp) ?_
      refine hnd'.imp fun {a b} hab hh => ?_
      simp only [decide_eq_true_eq] at hh
      exact hab (hh.1.trans hh.2.symm)
    have hs : (es.toList.eraseIdx q.1).Sublist es.toList := List.eraseIdx_sublist _ _
    have he' : (es.eraseIdxIfInBounds q.1).toList.map (fun e => (e.key, e.val)) = (Go.Px.delK L x).map (fun p => (fk p.1, fv p.2)) := by rw [hsub, e1, ChangeMaps.map_eraseIdx, he, ← ChangeMaps.map_eraseIdx]
    have hp' : ((es.eraseIdxIfInBounds q.1).toList.map (·.born)).Pairwise (· < ·) := by rw [hsub]; exact hp.sublist (hs.map _)
    have hm : ∀ e' ∈ (es.eraseIdxIfInBounds q.1).toList, e' ∈ es.toList := fun e' he' => hs.subset (by rw [hsub] at he'; exact he')
    obtain ⟨h4, h5⟩ := MapAt.setAt (L' := Go.Px.delK L x) h.it.map (es' := es.eraseIdxIfInBounds q.1) (clock' := clock) he' hp' (fun e' he' => hc e' (hm e' he')) (delK_nd hnd x)
    have hBl : B < w.heap.size := h.it.map.lt
    have hseen : (s0.push e0.born).contains e0.born = true := by simp
    have hfil : (es.eraseIdxIfInBounds q.1).toList.filter (fun e => !(s0.push e0.born).contains e.born) = es.toList.filter (fun e => !(s0.push e0.born).contains e.born) := by
      rw [hsub]; exact filter_erase hj (by simp)
    refine ⟨_, by simp [Builtin.delete_, run_underlying ht, MapKept.run_getObj_map hB, K.chk w _ x, h1, MapKept.run_setObj_map _ hB, Result.andThen], ⟨⟨h4, h.it.ne, ?_, ?_⟩, fun x v h => by cases h⟩, h5⟩
    · refine ⟨es.eraseIdxIfInBounds q.1, clock, since, clock, s0.push e0.born, by simp [hBl], (h5.block r h.it.lt h.it.ne).trans hr, fun y hy => hold y (hm y hy), hs1, hs2, hp', by rw [hfil]; exact hleft, he'⟩
    · -- what is left has not the key
      have hnx : ∀ p ∈ left, ¬ p.1 = x := fun p hpl hpx => by
        obtain ⟨i, hi⟩ := List.getElem?_of_mem hpl
        have := congrArg (fun l => l[i]?) hleft
        simp only [List.getElem?_map, hi, Option.map_some] at this
        obtain ⟨y, hy, hyp⟩ := Option.map_eq_some_iff.1 this
        simp only [Prod.mk.injEq] at hyp
        obtain ⟨hym, hyn⟩ := List.mem_filter.1 (List.mem_of_getElem? hy)
        obtain ⟨i2, hi2⟩ := List.getElem?_of_mem hym
        -- its place is the same one
        have h6 := congrArg (fun l => l[i2]?) he
        simp only [List.getElem?_map, hi2, Option.map_some] at h6
        obtain ⟨q2, hq2, hq3⟩ := Option.map_eq_some_iff.1 h6.symm
        simp only [Prod.mk.injEq] at hq3
        have hx2 : q2.1 = x := KeyT.inj K (by rw [hq3.1, hyp.1, hpx])
        have : i2 = q.1 := by
          rcases Nat.lt_trichotomy i2 q.1 with hlt | e | hlt
          · exfalso
            have := (List.pairwise_iff_getElem.1 hnd') i2 q.1 (List.getElem?_eq_some_iff.1 hq2).1 (List.getElem?_eq_some_iff.1 hl).1 hlt
            rw [(List.getElem?_eq_some_iff.1 hq2).2, (List.getElem?_eq_some_iff.1 hl).2] at this
            exact this hx2
          · exact e
          · exfalso
            have := (List.pairwise_iff_getElem.1 hnd') q.1 i2 (List.getElem?_eq_some_iff.1 hl).1 (List.getElem?_eq_some_iff.1 hq2).1 hlt
            rw [(List.getElem?_eq_some_iff.1 hq2).2, (List.getElem?_eq_some_iff.1 hl).2] at this
            exact this hx2.symm
        rw [this, hj] at hi2
        obtain rfl := Option.some.inj hi2
        rw [hseen] at hyn; cases hyn
      have : left = left.filter fun p => !decide (p.1 = x) := (List.filter_eq_self.2 fun p hp => by simp [hnx p hp]).symm
      rw [this]
      exact h.it.sub.filter _
variable {Γ : Ctx} {sv : Operand → SV} {nx : Nat} {H : Hp} {K : SV → Nat → Hp → Prop} {t k e : TypeId} {ke : VE κ} {ve : VE ν} {z : ν}
/-- What has come just now is taken away. -/
theorem itercut_rule (M : MapTy Γ.P t k e ke ve z) {X Y : Operand} {ga : Option Addr} {left L : List (κ × ν)} {x : κ} {v : ν} (ci c : Nat) (hX : sv X = .mp c) (hY : ke.of (sv Y) = some x) (hc : lk H c = some (.pr (isA ga))) (hH : lk H ci = some (.pr (iterPr ke ve ga L left (some (x, v)))))
    (k1 : setK H ci (.pr (iterPr ke ve ga (Go.Px.delK L x) left none)) fun H => K (.tup []) nx H) : OpGoal Γ sv nx H (.call { callee := .builtin .delete, args := #[X, Y], argTypes := #[t, k] }) K := by
  refine ⟨fun En V w oper hop h0 hb => ?_⟩
  obtain ⟨r, g, h1, h2, hβ, hI⟩ := h0.hr.ok ci _ hH
  obtain ⟨hρ, _⟩ := h0.hr.ok c _ hc
  have e1 : (SV.mp c).den Γ.Δ V.ρ = .map (some g) := by
    have : V.ρ c = some ⟨g, 0, none⟩ := hρ.trans h2
    simp [SV.den, this]
  obtain ⟨w', hr, hI', hk⟩ := hI.cut (ty := oper.type) M.key M.u
  rw [setK_eq] at k1
  refine ⟨V, _, nx, _, w', _, .inl rfl, ?_, Nat.le_refl _, fun _ _ => rfl, by simp only [SV.bd, SV.bdL], h0.set (ch' := .pr (iterPr ke ve ga (Go.Px.delK L x) left none)) hH (hk.mono fun i _ hi => (hβ i).2 (.inl hi)) ⟨r, g, h1, h2, hβ, hI'⟩ trivial, k1⟩
  simp [execOp, hop, resolve, invoke, builtin, hX, e1, ke.of_ok hY, hr, SV.den, SV.denL]
/-- A truth value is looked up: both answers are gone through. -/
theorem lookupB_rule (M : MapTy Γ.P t k e ke veB false) {X Y : Operand} (c : Nat) (L : List (κ × Bool)) (x : κ) (hX : sv X = .mp c) (hY : ke.of (sv Y) = some x) (hH : lk H c = some (.pr (mapPr ke veB L)))
    (k1 : (Go.Px.getK L x).getD false = true → K .tt nx H) (k2 : (Go.Px.getK L x).getD false = false → K .ff nx H) : OpGoal Γ sv nx H (.lookup t X Y false) K := by
  refine ⟨fun En V w oper hop h0 hb => ?_⟩
  obtain ⟨g, e1, _, _, hm⟩ := mp_at h0 hH
  have hz' : (zeroValue e).run Γ.P w = .ok (veB.val false) w := by
    obtain ⟨i, hi, hz⟩ := Option.bind_eq_some_iff.1 M.zero
    simp [zeroValue, typeInfo, hi, hz]
  have hr := hm.lookup M.key M.u hz' x false
  cases hq : (Go.Px.getK L x).getD false with
  | true =>
    refine ⟨V, .tt, nx, H, w, _, .inl rfl, ?_, Nat.le_refl _, fun _ _ => rfl, by simp only [SV.bd], h0, k1 hq⟩
    rw [hq] at hr
    simp [execOp, hop, hX, e1, ke.of_ok hY, hr, SV.den, veB]
  | false =>
    refine ⟨V, .ff, nx, H, w, _, .inl rfl, ?_, Nat.le_refl _, fun _ _ => rfl, by simp only [SV.bd], h0, k2 hq⟩
    rw [hq] at hr
    simp [execOp, hop, hX, e1, ke.of_ok hY, hr, SV.den, veB]
end
end Go.Zz

/- A map of things behind pointers, seen as the map alone beside its things; contracts that say less. Nothing of any one program stands here. -/
namespace Go.Zz
open Go.Px Go.RowKit
set_option linter.unusedVariables false
set_option linter.unusedSimpArgs false
set_option linter.unusedSectionVars false
section
variable {κ ν : Type} [DecidableEq κ]
/-- The things of a map, without the map. -/
def restPr (el : ν → Pr) (L : List (κ × ν)) (p : κ → Nat) : Pr where
  ok a B w := ∃ Bs : κ → Nat → Prop, a = none ∧ (∀ x ∈ L, (el x.2).ok (some ⟨p x.1, 0, none⟩) (Bs x.1) w) ∧ (∀ x ∈ L, ∀ y ∈ L, x.1 ≠ y.1 → ∀ i, Bs x.1 i → ¬ Bs y.1 i) ∧ ∀ i, B i ↔ ∃ x ∈ L, Bs x.1 i
  stab := by
    rintro a B w w' F ⟨Bs, h1, h2, h3, h4⟩ hk hn
    exact ⟨Bs, h1, fun x hx => (el x.2).stab (h2 x hx) hk fun i hi => hn i ((h4 i).2 ⟨x, hx, hi⟩), h3, h4⟩
  lt := by
    rintro a B w i ⟨Bs, h1, h2, h3, h4⟩ hi
    obtain ⟨x, hx, hb⟩ := (h4 i).1 hi
    exact (el x.2).lt (h2 x hx) hb
theorem call_split {Γ : Ctx} {f : FuncId} {args : List SV} {nx : Nat} {H : Hp} {K : SV → Nat → Hp → Prop} {ke : VE κ} {el : ν → Pr} (ve : VE (Option Nat)) (hve : ve.val = pV) (c : Nat) (L : List (κ × ν)) (hH : lk H c = some (.pr (mObj ke el L)))
    (h : ∀ p : κ → Nat, setK H c (.pr (mapPr ke ve (L.map fun x => (x.1, some (p x.1))))) fun H => litK (nx + 1) fun n' => CallGoal Γ f args n' ((nx, .pr (restPr el L p)) :: H) K) : CallGoal Γ f args nx H K := by
  refine ⟨fun En V w hp hn hb => ?_⟩
  obtain ⟨g, p, Bs, h1, h2⟩ := hp.hr.ok c _ hH
  have hg := h p
  rw [setK_eq, litK_eq] at hg
  have hlk0 : ∀ d ch, lk [(0, Ch.pr (restPr el L p))] d = some ch → d = 0 ∧ ch = .pr (restPr el L p) := fun d ch hd => by
    rw [lk_cons] at hd
    split at hd
    · rename_i e; exact ⟨e, (Option.some.inj hd).symm⟩
    · simp [lk] at hd
  obtain ⟨V', r1, r2, r3⟩ := hp.open (k := 1) (T := [(0, .pr (restPr el L p))]) (VT := ⟨fun _ => none, fun _ i => ∃ x ∈ L, Bs x.1 i⟩) (En0 := En) (B1 := fun i => i = g) (ch1 := .pr (mapPr ke ve (L.map fun x => (x.1, some (p x.1))))) hH
    (hbB_ok rfl) (ndB_nd rfl) (fun d ch hd => by
      obtain ⟨rfl, rfl⟩ := hlk0 d ch hd
      exact ⟨rfl, Bs, rfl, fun x hx => (h2.el x hx id).1, fun x hx y hy => h2.ap x hx y hy id id, fun i => Iff.rfl⟩)
    (fun d d' hd hd' hne => by
      obtain ⟨ch, hd⟩ := Option.isSome_iff_exists.1 hd
      obtain ⟨ch', hd'⟩ := Option.isSome_iff_exists.1 hd'
      exact absurd ((hlk0 d ch hd).1.trans (hlk0 d' ch' hd').1.symm) hne)
    (fun d hd i ⟨x, hx, hi⟩ => ⟨(h2.fp i).2 (.inr ⟨x, hx, id, hi⟩), fun e => (h2.el x hx id).2 (e ▸ hi)⟩) (fun i hi => (h2.fp i).2 (.inl hi)) trivial
    (fun V' s1 s2 s3 => ⟨g, (s1 c (hp.hb c _ hH).1).trans h1, fun i => by rw [s3], by rw [hve]; exact h2.map⟩)
  obtain ⟨R, hR, hk⟩ := hg.h En V' w r3 (Nat.le_trans hn (Nat.le_succ _)) (bdL_mono (Nat.le_succ _) args hb)
  rw [denL_congr r1 args hb] at hR
  refine ⟨R, hR, fun v w' hr => ?_⟩
  obtain ⟨V2, sv, nx2, H2, q1, q2, q3, q4, q5, q6⟩ := hk v w' hr
  exact ⟨V2, sv, nx2, H2, q1, Nat.le_trans (Nat.le_succ _) q2, fun d hd => (q3 d (Nat.lt_succ_of_lt hd)).trans (r1 d hd), q4, q5, q6⟩
end
/-- What a function leaves is told by less. -/
theorem Does.weak {Γ : Ctx} {f : FuncId} {args : List SV} {H : Hp} {n0 n1 : Nat} {ret : SV} {post : Hp} {X : Type} (x : X) {cond : X → Prop} {post' : X → Hp} (h : Does Γ f ⟨args, H, n0, n1, Unit, fun _ => True, fun _ => ret, fun _ => post⟩) (hc : cond x) (hp : post' x = post) :
    Does Γ f ⟨args, H, n0, n1, X, cond, fun _ => ret, post'⟩ := by
  refine ⟨h.1, h.2.1, h.2.2.1, fun V w hw => ?_⟩
  obtain ⟨R, hR, hq⟩ := h.2.2.2 V w hw
  refine ⟨R, hR, fun v w' hr => ?_⟩
  obtain ⟨_, V', h1, h2, h3, h4, h5⟩ := hq v w' hr
  exact ⟨x, V', hc, h2, h3, h4, by show HpOk Γ _ V' n1 (post' x) w'; rw [hp]; exact h5⟩
/-! ### A loop's next round may be told otherwise first -/
structure NextGoal (Γ : Ctx) (s : St) (Q : St → Prop) : Prop where
  h : ∀ En V w, HpOk Γ En V s.nx s.H w → ∃ V' nx' H', s.nx ≤ nx' ∧ (∀ d, d < s.nx → V'.ρ d = V.ρ d) ∧ HpOk Γ En V' nx' H' w ∧ Q ⟨s.env, nx', H'⟩
theorem StOk.conv1 {Γ : Ctx} {n nx nx' : Nat} {En : Ent} {V V' : Val} {a : Act} {w : World} {env : Ev} {H H' : Hp} (hs : StOk Γ n En V a w ⟨env, nx, H⟩) (hle : nx ≤ nx') (h1 : ∀ d, d < nx → V'.ρ d = V.ρ d) (h2 : HpOk Γ En V' nx' H' w) : StOk Γ n En V' a w ⟨env, nx', H'⟩ := by
  refine ⟨hs.dfr, hs.size, fun t v hv => ?_, h2, fun c hcn => ?_, Nat.le_trans hs.n0 hle⟩
  · obtain ⟨q1, q2⟩ := hs.env t v hv
    exact ⟨by rw [q1, den_congr (fun d hd => (h1 d hd).symm) v q2], bd_mono hle v q2⟩
  · rw [h1 c (Nat.lt_of_lt_of_le hcn hs.n0)]; exact hs.old c hcn
theorem Cv.refl {Γ : Ctx} {nx : Nat} {H : Hp} : Cv Γ nx H nx H := ⟨Nat.le_refl _, fun En V w h => ⟨V, fun _ _ => rfl, h⟩⟩
theorem Cv.trans {Γ : Ctx} {nx nx1 nx2 : Nat} {H H1 H2 : Hp} (h : Cv Γ nx H nx1 H1) (h' : Cv Γ nx1 H1 nx2 H2) : Cv Γ nx H nx2 H2 :=
  ⟨Nat.le_trans h.le h'.le, fun En V w hp => by
    obtain ⟨V1, q1, q2⟩ := h.h En V w hp
    obtain ⟨V2, q3, q4⟩ := h'.h En V1 w q2
    exact ⟨V2, fun d hd => (q3 d (Nat.lt_of_lt_of_le hd h.le)).trans (q1 d hd), q4⟩⟩
section
variable {Γ : Ctx} {n n0 nx nx' : Nat} {js : List Nat} {env : Ev} {H H' : Hp} {Q : St → Prop}
theorem next_go {s : St} (h : Q s) : NextGoal Γ s Q := ⟨fun En V w hp => ⟨V, s.nx, s.H, Nat.le_refl _, fun _ _ => rfl, hp, h⟩⟩
theorem next_conv (hc : Cv Γ nx H nx' H') (h : NextGoal Γ ⟨env, nx', H'⟩ Q) : NextGoal Γ ⟨env, nx, H⟩ Q := by
  refine ⟨fun En V w hp => ?_⟩
  obtain ⟨V1, q1, q2⟩ := hc.h En V w hp
  obtain ⟨V2, n2, H2, p1, p2, p3, p4⟩ := h.h En V1 w q2
  exact ⟨V2, n2, H2, Nat.le_trans hc.le p1, fun d hd => (p2 d (Nat.lt_of_lt_of_le hd hc.le)).trans (q1 d hd), p3, p4⟩
theorem loop_at2 (r : Nat) (hΓ : Γ.Ok) {c : Code} {s : St} {Q : Exit → St → Prop} (hr0 : headOf c = some r) (js : List Nat) {X : Type} (pe : X → Ev) (ph : X → Hp) (gone : List Nat) (I : X → Prop) (m : X → Nat)
    (h0 : ∃ x0, updK s (defsC c) (pe x0) (ph x0) gone fun t => LeS n0 t s (I x0))
    (hr : ∀ x, I x → updK s (defsC c) (pe x) (ph x) gone fun t => vc Γ n n0 js c t fun e s' => match e with
      | .normal => NextGoal Γ s' fun s'' => ∃ x', updK s (defsC c) (pe x') (ph x') gone fun t' => LeS n0 t' s'' (I x' ∧ m x' < m x)
      | e => Q e s') : LoopGoal Γ n n0 c s Q := by
  refine ⟨fun En V a w he hs => ?_⟩
  obtain ⟨x0, h0⟩ := h0
  rw [updK_eq] at h0
  obtain ⟨hI, V0, hs0⟩ := LeS_ok h0 hs he
  refine wp_loop_ghost (fun k a w => ∃ x V, m x = k ∧ I x ∧ StOk Γ n En V a w (updS s (defsC c) (pe x) (ph x) gone)) (m x0) ⟨x0, V0, rfl, hI, hs0⟩ fun k a w hk => ?_
  obtain ⟨x, V, rfl, hI, hs⟩ := hk
  have hx := hr x hI
  rw [updK_eq] at hx
  refine wp_mono (vc_ok hΓ he c hx hs) fun e a' w' hq => ?_
  obtain ⟨V', s', hs', hq⟩ := hq
  cases e with
  | normal =>
    obtain ⟨V1, n2, H2, p1, p2, p3, x', hq⟩ := hq.h En V' w' hs'.hp
    rw [updK_eq] at hq
    have hs1 := StOk.conv1 (env := s'.env) hs' p1 p2 p3
    obtain ⟨⟨h1, h2⟩, V2, hs2⟩ := LeS_ok hq hs1 he
    exact ⟨m x', h2, x', V2, rfl, h1, hs2⟩
  | _ => exact ⟨V', s', hs', hq⟩
/-- The end of a slice of one's own is let go. -/
theorem cv_shrink {α : Type} {en : Enc α} {e : TypeId} {l1 l2 l : List α} {k : Nat} (c : Nat) (hc : lk H c = some (.arr α en e l k)) (hl : l = l1 ++ l2) : Cv Γ nx H nx (setH H c (.arr α en e l1 k)) := by
  subst hl
  exact ⟨Nat.le_refl _, fun En V w hp => ⟨V, fun _ _ => rfl, hp.shrink hc⟩⟩
end
section
variable {κ ν : Type} [DecidableEq κ] {Γ Γ0 : Ctx} {n n0 nx c : Nat} {js : List Nat} {env : Ev} {H : Hp} {ke : VE κ} {tm : ν → Hp} {L : List (κ × ν)} {x : κ}
theorem next_close {Q : St → Prop} (hΔ : Γ0.Δ = Γ.Δ) (v : ν) (σ : List Nat) (c : Nat) (hH : lk H c = some (.hole (mObjH ke (fun v => grp Γ0 (tm v)) L x) [.ptr (sg σ 0) 0])) (hs : hsub (sg σ) H (tm v)) (hck : chkClose (tm v) σ c = true) (hx : hasK L x = true)
    (h : delAllK H (ownIds (sg σ) (tm v)) fun H => setK H c (.pr (mObj ke (fun v => grp Γ0 (tm v)) (Go.Px.putK L x v))) fun H => NextGoal Γ ⟨env, nx, H⟩ Q) : NextGoal Γ ⟨env, nx, H⟩ Q := by
  rw [delAllK_eq, setK_eq] at h
  exact next_conv (put_back hΔ hH hx hs hck) h
theorem next_shrink {Q : St → Prop} {α : Type} {en : Enc α} {e : TypeId} {l : List α} {k : Nat} (c : Nat) (l1 l2 : List α) (hc : lk H c = some (.arr α en e l k)) (hl : l = l1 ++ l2) (h : setK H c (.arr α en e l1 k) fun H => NextGoal Γ ⟨env, nx, H⟩ Q) : NextGoal Γ ⟨env, nx, H⟩ Q := by
  rw [setK_eq] at h
  exact next_conv (cv_shrink c hc hl) h
theorem here_shrink {y : Code} {Q : Exit → St → Prop} {α : Type} {en : Enc α} {e : TypeId} {l : List α} {k : Nat} (c : Nat) (l1 l2 : List α) (hc : lk H c = some (.arr α en e l k)) (hl : l = l1 ++ l2) (h : setK H c (.arr α en e l1 k) fun H => HereGoal Γ n n0 js y ⟨env, nx, H⟩ Q) : HereGoal Γ n n0 js y ⟨env, nx, H⟩ Q := by
  rw [setK_eq] at h
  exact here_conv (cv_shrink c hc hl) h
end
end Go.Zz

/- Contracts out of other contracts: a call's goal is a contract; what a function leaves is told otherwise; a map put together with its things again. Nothing of any one program stands here. -/
namespace Go.Zz
open Go.Px Go.RowKit
set_option linter.unusedVariables false
set_option linter.unusedSimpArgs false
set_option linter.unusedSectionVars false
theorem Does.of_goal {Γ : Ctx} {f : FuncId} {args : List SV} {H : Hp} {n0 n1 : Nat} {X : Type} {cond : X → Prop} {ret : X → SV} {post : X → Hp} (hn : n0 ≤ n1) (hb : SV.bdL n0 args) (hB : HB n0 H)
    (h : CallGoal Γ f args n0 H fun sv nx2 H2 => ∃ x, cond x ∧ ret x = sv ∧ Cv Γ nx2 H2 n1 (post x)) : Does Γ f ⟨args, H, n0, n1, X, cond, ret, post⟩ := by
  refine ⟨hn, hb, hB, fun V w hw => ?_⟩
  obtain ⟨R, hR, hk⟩ := h.h _ V w hw (Nat.le_refl _) hb
  refine ⟨R, hR, fun v w' hr => ?_⟩
  obtain ⟨V2, sv, nx2, H2, q1, q2, q3, q4, q5, x, h1, rfl, h3⟩ := hk v w' hr
  obtain ⟨V3, r1, r2⟩ := h3.h _ V2 w' q5
  exact ⟨x, V3, h1, by rw [q1]; exact (den_congr (fun d hd => (r1 d hd).symm) _ q4), bd_mono h3.le _ q4, fun d hd => (r1 d (Nat.lt_of_lt_of_le hd q2)).trans (q3 d hd), r2⟩
theorem Does.post_cv {Γ : Ctx} {f : FuncId} {S : Spec} (n1 : Nat) (post' : S.X → Hp) (h : Does Γ f S) (hp : ∀ x, S.cond x → Cv Γ S.n1 (S.post x) n1 (post' x)) (hn : S.n1 ≤ n1) : Does Γ f ⟨S.args, S.H, S.n0, n1, S.X, S.cond, S.ret, post'⟩ := by
  refine ⟨Nat.le_trans h.1 hn, h.2.1, h.2.2.1, fun V w hw => ?_⟩
  obtain ⟨R, hR, hb⟩ := h.2.2.2 V w hw
  refine ⟨R, hR, fun v w' hr => ?_⟩
  obtain ⟨x, V', h1, h2, h3, h4, h5⟩ := hb v w' hr
  obtain ⟨V3, r1, r2⟩ := (hp x h1).h _ V' w' h5
  exact ⟨x, V3, h1, by rw [h2]; exact den_congr (fun d hd => (r1 d hd).symm) _ h3, bd_mono hn _ h3, fun d hd => (r1 d (Nat.lt_of_lt_of_le hd h.1)).trans (h4 d hd), r2⟩
section
variable {κ ν : Type} [DecidableEq κ] {Γ : Ctx} {nx c r : Nat} {H : Hp}
/-- A map and its things are put together. -/
theorem cv_merge {ke : VE κ} {el : ν → Pr} {ve : VE (Option Nat)} {L : List (κ × ν)} {p : κ → Nat} (hve : ve.val = pV) (hc : lk H c = some (.pr (mapPr ke ve (L.map fun x => (x.1, some (p x.1)))))) (hr : lk H r = some (.pr (restPr el L p))) (hne : c ≠ r) :
    Cv Γ nx H nx (setH (delAll H [r]) c (.pr (mObj ke el L))) := by
  refine ⟨Nat.le_refl _, fun En V w hp => ?_⟩
  have hid : ownIds (sg [r]) [(0, Ch.pr (restPr el L p))] = [r] := rfl
  have hs : hsub (sg [r]) H [(0, Ch.pr (restPr el L p))] := ⟨hr, trivial⟩
  have key := hp.close (σ := [r]) (n0 := 1) (T := [(0, Ch.pr (restPr el L p))]) (ch1 := .pr (mObj ke el L)) hc hs (hbB_ok rfl) (ndB_nd rfl) (by rw [hid]; simp [hne]) trivial fun V' e1 e2 => ?_
  · rw [hid] at key; exact key
  obtain ⟨g, h1, h2, h3⟩ := hp.hr.ok c _ hc
  obtain ⟨Bs, h4, h5, h6, h7⟩ := hp.hr.ok r _ hr
  rw [hid] at e2
  have hg : ∀ x ∈ L, ¬ Bs x.1 g := fun x hx hb => hp.apart c r (by rw [hc]; rfl) (by rw [hr]; rfl) hne g ((h2 g).2 rfl) ((h7 g).2 ⟨x, hx, hb⟩)
  refine ⟨g, p, Bs, by rw [e1]; exact h1, by rw [← hve]; exact h3, fun x hx _ => ⟨h5 x hx, hg x hx⟩, fun x hx y hy _ _ => h6 x hx y hy, fun i => ?_⟩
  rw [e2]
  simp only [List.mem_singleton, exists_eq_left]
  rw [h2 i, h7 i]
  exact ⟨fun o => o.imp id fun ⟨x, hx, hb⟩ => ⟨x, hx, id, hb⟩, fun o => o.imp id fun ⟨x, hx, _, hb⟩ => ⟨x, hx, hb⟩⟩
end
end Go.Zz
