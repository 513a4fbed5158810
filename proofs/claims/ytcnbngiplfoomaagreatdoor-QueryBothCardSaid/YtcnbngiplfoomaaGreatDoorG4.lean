/- A part of the proof: texts put together. -/
import Derived.Test.YtcnbngiplfoomaaGreatDoorG1
import Derived.Shelf.SlSortCmp.WholeK
import Derived.Shelf.SlSortCmp.NoneTotal
import Derived.Test.YtcnbngiplfoomaaGreatDoorG3
import Derived.WideKeyEntry
namespace Go.Px
set_option linter.unusedVariables false
set_option linter.unusedSimpArgs false
set_option linter.unusedSectionVars false
open Go.RowKit Go.Sort Go.Proofs Go.Shelf
theorem Keep.grown {w w' : World} (h : Keep Nn w w') : ∃ q os', w' = Go.Sort.grow (w.drewN q) os' := by
  refine ⟨w'.drawn - w.drawn, w'.heap.extract w.heap.size, ?_⟩
  have hh : w'.heap = w.heap ++ w'.heap.extract w.heap.size := by
    refine Array.ext_getElem? fun i => ?_
    rcases Nat.lt_or_ge i w.heap.size with hi | hi
    · rw [Array.getElem?_append_left hi]
      exact h.block i hi (fun e => e)
    · rw [Array.getElem?_append_right hi, Array.getElem?_extract]
      have h1 : w.heap.size + (i - w.heap.size) = i := by omega
      rw [h1]
      split
      · rfl
      · rename_i h2
        exact Array.getElem?_eq_none (by omega)
  have hd : w.drawn + (w'.drawn - w.drawn) = w'.drawn := Nat.add_sub_cancel' h.drawn
  obtain ⟨hp, tp, dr, os, ou⟩ := w'
  obtain ⟨hp0, tp0, dr0, os0, ou0⟩ := w
  have e1 := h.os; have e2 := h.tape; have e3 := h.output
  simp only at e1 e2 e3 hh hd
  subst e1 e2 e3
  simp only [Go.Sort.grow, World.drewN, hd]
  rw [← hh]
theorem cmpLays_of {P : Program} {α : Type} [Inhabited α] {g k : Nat} {enc : α → List Value} {cf : α → α → Int} (hc : ∀ x y w, Calls P g #[.agg (enc x).toArray, .agg (enc y).toArray] w (Ret fun v w' => v = .int .i64 (cf x y) ∧ Keep Nn w w')) (blk off size : Nat) (w : World) :
    CmpLays P g #[] enc k cf blk off size w := fun m os dk hs x y => by
  refine (hc x y _).mono fun e w' he => ?_
  obtain ⟨v, rfl, rfl, hk⟩ := he
  obtain ⟨q, os', hw⟩ := hk.grown
  exact ⟨rfl, q, os', hw⟩
theorem flatK_flat {α : Type} [Inhabited α] {enc : α → List Value} {k : Nat} (hk : ∀ x, (enc x).length = k) (l : List α) : flatK enc k l.toArray = (flat enc l).toArray := by
  apply Array.ext'
  refine List.ext_getElem? fun j => ?_
  have hl : (flat enc l).length = l.length * k := flat_len hk l
  rcases Nat.lt_or_ge j (l.length * k) with hj | hj
  · have hk0 : 0 < k := by
      rcases Nat.eq_zero_or_pos k with h0 | h0
      · rw [h0] at hj; simp at hj
      · exact h0
    have hd : j / k < l.length := Nat.div_lt_of_lt_mul (by rw [Nat.mul_comm]; exact hj)
    have hm : j % k < k := Nat.mod_lt _ hk0
    have e : (flat enc l)[j]? = (enc (l[j / k]))[j % k]? := by
      have h1 := flat_get (f := enc) hk (l := l) (i := j / k) (k := j % k) (x := l[j / k]) (List.getElem?_eq_getElem hd) hm
      rw [← h1]
      congr 1
      rw [Nat.mul_comm]
      exact (Nat.div_add_mod j k).symm
    rw [e]
    have hs : (flatK enc k l.toArray).toList[j]? = some ((enc l.toArray[j / k]!)[j % k]!) := by simp [flatK, hj]
    rw [hs]
    have hlen : j % k < (enc (l[j / k])).length := by rw [hk]; exact hm
    simp [hd, hlen]
  · rw [List.getElem?_eq_none (by simp [flatK]; exact hj), List.getElem?_eq_none (by rw [hl]; exact hj)]
theorem perm_of {α : Type} [Inhabited α] {l : List α} {d : Array α} (h : PermIn 0 l.toArray.size l.toArray d) : d.toList.Perm l := by
  have h1 := h.2.2
  have hs := h.1
  simp only [List.size_toArray] at h1 hs
  have e1 : (d.extract 0 l.length) = d := by rw [← hs]; exact Array.extract_size
  have e2 : (l.toArray.extract 0 l.length).toList = l := by simp
  rw [e1, e2] at h1
  exact h1
theorem sorted_of {α : Type} [Inhabited α] {cf : α → α → Int} {d : Array α} (h : SortedIn (ltOf cf) 0 d.size d) : d.toList.Pairwise fun a b => ¬ cf b a < 0 := by
  rw [List.pairwise_iff_getElem]
  intro i j hi hj hij
  simp only [Array.length_toList] at hi hj
  have h1 := h i j (Nat.zero_le _) hij hj
  simp only [ltOf, decide_eq_false_iff_not] at h1
  simpa [hi, hj] using h1
theorem sortFunc_some {P : Program} {ρ : Ren} {α : Type} [Inhabited α] (L : SlLaysF0.n6 P ρ) {k : Nat} (aE : ∀ w, (isAgg (ρ.t 24)).run P w = .ok true w) (zE : ∀ w, (Go.sizeOf (ρ.t 24)).run P w = .ok k w) {enc : α → List Value} (hk : ∀ x, (enc x).length = k) (h1 : ∀ x, ∀ v ∈ enc x, v.oneCell' = true)
    {cf : α → α → Int} (hO : SWO (ltOf cf)) {g : Nat} (eg : ∀ args w, (callFunc g args).run P w = .ok (.enter g args) w)
    (hc : ∀ x y w, Calls P g #[.agg (enc x).toArray, .agg (enc y).toArray] w (Ret fun v w' => v = .int .i64 (cf x y) ∧ Keep Nn w w')) {w : World} {base e B c : Nat} {l : List α} (hown : w.ownsRow base e k (.slice (some ⟨B, 0, none⟩) l.length c) l.length (flat enc l)) (hlt : l.length < 4611686018427387904) :
    Calls P (ρ.f 6) #[.slice (some ⟨B, 0, none⟩) l.length c, .func (.func g) #[] #[]] w (Ret fun v w' => v = .tuple #[] ∧ ∃ l', l'.Perm l ∧ (l'.Pairwise fun a b => ¬ cf b a < 0) ∧
      w'.ownsRow base e k (.slice (some ⟨B, 0, none⟩) l.length c) l.length (flat enc l') ∧ Keep (fun i => i = B) w w') := by
  rcases hown.2 with ⟨h2, _⟩ | ⟨B', cap, cur, h2, h3, h4, h5, h6, h7, h8⟩
  · simp at h2
  simp only [Value.slice.injEq, Option.some.injEq, Addr.mk.injEq, and_true, true_and] at h2
  obtain ⟨rfl, rfl⟩ := h2
  have hB : B < w.heap.size := by
    rcases Nat.lt_or_ge B w.heap.size with h | h
    · exact h
    · rw [Array.getElem?_eq_none h] at h4; cases h4
  have hlen : l.length * k ≤ cur.size := by rw [h7]; exact Nat.mul_le_mul_right _ h5
  have hH : HoldsK enc k w B 0 l.toArray := by
    intro j hj
    rw [flatK_flat hk] at hj ⊢
    simp only [List.size_toArray, flat_len hk] at hj
    have hget : cur[j]? = (flat enc l)[j]? := by
      rw [← h8, List.getElem?_take, if_pos hj]
      simp
    have hjl : j < (flat enc l).length := by rw [flat_len hk]; exact hj
    constructor
    · simp [World.cell?, h4, hget, hjl]
    · simp only [World.frozen?, h4]
      simp
  have hcon := AnyQ.slices_SortFunc L k aE zE enc hk h1 cf hO g #[] B 0 c l.toArray w eg (cmpLays_of hc B 0 l.toArray.size w) hH hB (by simpa using hlt)
  refine hcon.mono fun ex w' he => ?_
  obtain ⟨rfl, d', n, os, hp, hs, rfl⟩ := he
  have hds : d'.size = l.length := by have := hp.1; simpa using this
  have hd : d' = d'.toList.toArray := by simp
  have hfk : flatK enc k d' = (flat enc d'.toList).toArray := by rw [hd, flatK_flat hk]
  refine ⟨.tuple #[], rfl, rfl, d'.toList, perm_of hp, sorted_of (by simpa [hds] using hs), ?_, ?_⟩
  · have hl' : (flat enc d'.toList).length = l.length * k := by rw [flat_len hk]; simp [hds]
    refine ⟨hl', .inr ⟨B, c, putCells id 0 (flatK enc k d') cur, rfl, h3, ?_, h5, h6, by simp [putCells, h7], ?_⟩⟩
    · simp only [sortWorldK, putRowK, putRow, mapBlock, Go.Sort.grow, Go.Sort.ahead]
      rw [Array.getElem?_append_left (by simpa using hB)]
      simp [Array.getElem?_modify, h4, onCells]
    · refine List.ext_getElem? fun j => ?_
      rw [List.getElem?_take]
      split
      · rename_i hj
        have hjc : j < cur.size := Nat.lt_of_lt_of_le hj hlen
        have hjl : j < (flat enc d'.toList).length := by rw [hl']; exact hj
        rw [hfk]
        simp [putCells, hjc, hjl]
      · rename_i hj
        exact (List.getElem?_eq_none (by rw [hl']; omega)).symm
  · refine ⟨rfl, rfl, rfl, ?_, ?_, fun i hi hn => ?_⟩
    · simp [sortWorldK, putRowK, putRow, mapBlock, Go.Sort.grow, Go.Sort.ahead]
    · simp [sortWorldK, putRowK, putRow, mapBlock, Go.Sort.grow, Go.Sort.ahead]
    · simp only [sortWorldK, putRowK, putRow, mapBlock, Go.Sort.grow, Go.Sort.ahead]
      rw [Array.getElem?_append_left (by simpa using hi)]
      rw [Array.getElem?_modify]
      rw [if_neg (fun e => hn e.symm)]
theorem sortFunc_own {P : Program} {ρ : Ren} {α : Type} [Inhabited α] (L : SlLaysF0.n6 P ρ) {k : Nat} (aE : ∀ w, (isAgg (ρ.t 24)).run P w = .ok true w) (zE : ∀ w, (Go.sizeOf (ρ.t 24)).run P w = .ok k w) {enc : α → List Value} (hk : ∀ x, (enc x).length = k) (h1 : ∀ x, ∀ v ∈ enc x, v.oneCell' = true)
    {cf : α → α → Int} (hO : SWO (ltOf cf)) {g : Nat} (eg : ∀ args w, (callFunc g args).run P w = .ok (.enter g args) w)
    (hc : ∀ x y w, Calls P g #[.agg (enc x).toArray, .agg (enc y).toArray] w (Ret fun v w' => v = .int .i64 (cf x y) ∧ Keep Nn w w')) {w : World} {base e c : Nat} {av : Option Addr} {l : List α} (hown : w.ownsRow base e k (.slice av l.length c) l.length (flat enc l)) (hlt : l.length < 4611686018427387904) :
    Calls P (ρ.f 6) #[.slice av l.length c, .func (.func g) #[] #[]] w (Ret fun v w' => v = .tuple #[] ∧ ∃ l', l'.Perm l ∧ (l'.Pairwise fun a b => ¬ cf b a < 0) ∧
      w'.ownsRow base e k (.slice av l.length c) l.length (flat enc l') ∧ Keep (fun i => Value.ownBlock (.slice av l.length c) = some i) w w') := by
  rcases hown.2 with ⟨h2, h3⟩ | ⟨B, cap, cur, h2, _⟩
  · simp only [Value.slice.injEq] at h2
    obtain ⟨rfl, hl0, rfl⟩ := h2
    have hl : l = [] := List.eq_nil_of_length_eq_zero hl0
    subst hl
    refine (AnyF.slices_SortFunc_none L none 0 (.func (.func g) #[] #[]) w).mono fun ex w' he => ?_
    obtain ⟨rfl, rfl⟩ := he
    exact ⟨_, rfl, rfl, [], List.Perm.refl _, List.Pairwise.nil, hown, Keep.refl _ _⟩
  · simp only [Value.slice.injEq] at h2
    obtain ⟨rfl, _, rfl⟩ := h2
    refine (sortFunc_some L aE zE hk h1 hO eg hc hown hlt).mono fun ex w' he => ?_
    obtain ⟨v, rfl, rfl, l', hp, hs, hx, hkk⟩ := he
    exact ⟨_, rfl, rfl, l', hp, hs, hx, hkk.mono fun i _ hi => by rw [hi]; rfl⟩
end Go.Px
namespace Go.Px
set_option linter.unusedVariables false
set_option linter.unusedSimpArgs false
set_option linter.unusedSectionVars false
open Go.Sort Go.Proofs Go.Shelf
theorem snoc_ind {α : Type} {m : List α → Prop} (h0 : m []) (h1 : ∀ l x, m l → m (l ++ [x])) (l : List α) : m l := by
  have h : ∀ r : List α, m r.reverse := fun r => by
    induction r with
    | nil => exact h0
    | cons x r ih => rw [List.reverse_cons]; exact h1 _ _ ih
  simpa using h l.reverse
theorem drop_cons {α : Type} {l : List α} {i : Nat} {d : α} (h : i < l.length) : l.drop i = l.getD i d :: l.drop (i + 1) := by
  rw [List.drop_eq_getElem_cons h]
  simp [List.getD_eq_getElem?_getD, h]
theorem take_snoc {α : Type} {l : List α} {i : Nat} {d : α} (h : i < l.length) : l.take (i + 1) = l.take i ++ [l.getD i d] := by
  rw [List.take_add_one]
  simp [List.getD_eq_getElem?_getD, h]
def dropP {α : Type} (p : α → Bool) (l : List α) : List α := l.filter fun x => !p x
theorem dropP_none {α : Type} {p : α → Bool} {l : List α} (h : ∀ x ∈ l, p x = false) : dropP p l = l := List.filter_eq_self.2 fun x hx => by simp [h x hx]
structure Cut {α : Type} (p : α → Bool) (l ll : List α) (i j : Nat) : Prop where
  len : ll.length = l.length
  kept : ll.take i = dropP p (l.take j)
  rest : ll.drop j = l.drop j
  le : i < j
  jl : j ≤ l.length
theorem Cut.start {α : Type} {p : α → Bool} {l : List α} {i : Nat} {d : α} (h : i < l.length) (hp : p (l.getD i d) = true) (hn : ∀ x ∈ l.take i, p x = false) : Cut p l l i (i + 1) := by
  refine ⟨rfl, ?_, rfl, by omega, h⟩
  rw [take_snoc (d := d) h]
  unfold dropP
  rw [List.filter_append, List.filter_cons, hp]
  simp only [Bool.not_true, Bool.false_eq_true, if_false, List.filter_nil, List.append_nil]
  exact (dropP_none hn).symm
theorem getD_of_drop {α : Type} {l ll : List α} {j : Nat} {d : α} (h : ll.drop j = l.drop j) : ll.getD j d = l.getD j d := by
  have h1 : (ll.drop j)[0]? = (l.drop j)[0]? := by rw [h]
  simp only [List.getElem?_drop, Nat.add_zero] at h1
  simp [List.getD_eq_getElem?_getD, h1]
theorem drop_next {α : Type} {l ll : List α} {j : Nat} (h : ll.drop j = l.drop j) : ll.drop (j + 1) = l.drop (j + 1) := by
  rw [← List.drop_drop, h, List.drop_drop]
theorem Cut.skip {α : Type} {p : α → Bool} {l ll : List α} {i j : Nat} {d : α} (h : Cut p l ll i j) (hj : j < l.length) (hp : p (ll.getD j d) = true) : Cut p l ll i (j + 1) := by
  refine ⟨h.len, ?_, drop_next h.rest, by have := h.le; omega, hj⟩
  rw [getD_of_drop h.rest] at hp
  rw [h.kept, take_snoc (d := d) hj]
  unfold dropP
  rw [List.filter_append, List.filter_cons, hp]
  simp
theorem Cut.keep {α : Type} {p : α → Bool} {l ll : List α} {i j : Nat} {d : α} (h : Cut p l ll i j) (hj : j < l.length) (hp : p (ll.getD j d) = false) : Cut p l (ll.set i (ll.getD j d)) (i + 1) (j + 1) := by
  have hle := h.le
  have hlen := h.len
  refine ⟨by simpa using h.len, ?_, ?_, by omega, hj⟩
  · have e : (ll.set i (ll.getD j d)).take (i + 1) = ll.take i ++ [ll.getD j d] := by
      rw [take_snoc (d := d) (by simp; omega), List.take_set_of_le (Nat.le_refl _)]
      congr 2
      simp [List.getD_eq_getElem?_getD, show i < ll.length by omega]
    rw [e, h.kept, getD_of_drop h.rest, take_snoc (d := d) hj]
    rw [getD_of_drop h.rest] at hp
    unfold dropP
    rw [List.filter_append, List.filter_cons, hp]
    simp
  · rw [List.drop_set_of_lt (by omega)]
    exact drop_next h.rest
theorem Cut.done {α : Type} {p : α → Bool} {l ll : List α} {i j : Nat} (h : Cut p l ll i j) (hj : l.length ≤ j) (r : List α) : (ll.take i ++ r).take i = dropP p l := by
  have hle := h.le
  have hlen := h.len
  have hjl := h.jl
  rw [List.take_append_of_le_length (by rw [List.length_take]; omega), List.take_take, Nat.min_self, h.kept, List.take_of_length_le hj]
theorem Cut.lenEq {α : Type} {p : α → Bool} {l ll : List α} {i j : Nat} (h : Cut p l ll i j) (hj : l.length ≤ j) : i = (dropP p l).length := by
  have hle := h.le
  have hlen := h.len
  have hjl := h.jl
  have h1 := congrArg List.length h.kept
  rw [List.take_of_length_le hj, List.length_take] at h1
  omega
structure Ord {α : Type} (lt : α → α → Bool) : Prop where
  irr : ∀ x, lt x x = false
  tr : ∀ x y z, lt x y = true → lt y z = true → lt x z = true
  tri : ∀ x y, lt x y = true ∨ x = y ∨ lt y x = true
section
variable {α : Type} [DecidableEq α] {lt : α → α → Bool}
def Rises (lt : α → α → Bool) (l : List α) : Prop := l.Pairwise fun x y => lt x y = true
theorem Ord.ne (h : Ord lt) {x y : α} (hxy : lt x y = true) : x ≠ y := by
  rintro rfl
  rw [h.irr] at hxy
  cases hxy
theorem Ord.asym (h : Ord lt) {x y : α} (hxy : lt x y = true) : lt y x = false := by
  cases hyx : lt y x with
  | false => rfl
  | true =>
    have := h.tr _ _ _ hxy hyx
    rw [h.irr] at this
    cases this
theorem Rises.nodup (h : Ord lt) {l : List α} (hl : Rises lt l) : l.Nodup := hl.imp fun {x y} hxy => h.ne hxy
theorem Rises.ext (h : Ord lt) {l m : List α} (hl : Rises lt l) (hm : Rises lt m) (hmem : ∀ x, x ∈ l ↔ x ∈ m) : l = m :=
  List.Perm.eq_of_pairwise (le := fun x y : α => lt x y = true) (fun x y _ _ h1 h2 => by rw [h.asym h1] at h2; cases h2) hl hm ((List.perm_ext_iff_of_nodup (hl.nodup h) (hm.nodup h)).2 hmem)
def putS (lt : α → α → Bool) (l : List α) (x : α) : List α := if x ∈ l then l else l.takeWhile (fun y => lt y x) ++ x :: l.dropWhile (fun y => lt y x)
theorem mem_putS (l : List α) (x y : α) : y ∈ putS lt l x ↔ y ∈ l ∨ y = x := by
  unfold putS
  split
  · rename_i h
    constructor
    · exact .inl
    · rintro (h1 | rfl)
      · exact h1
      · exact h
  · have e : y ∈ l ↔ y ∈ l.takeWhile (fun y => lt y x) ∨ y ∈ l.dropWhile (fun y => lt y x) := by
      conv => lhs; rw [← List.takeWhile_append_dropWhile (p := fun y => lt y x) (l := l)]
      exact List.mem_append
    rw [e, List.mem_append, List.mem_cons]
    constructor
    · rintro (h1 | rfl | h1)
      · exact .inl (.inl h1)
      · exact .inr rfl
      · exact .inl (.inr h1)
    · rintro ((h1 | h1) | rfl)
      · exact .inl h1
      · exact .inr (.inr h1)
      · exact .inr (.inl rfl)
theorem mem_takeWhile {p : α → Bool} : ∀ {l : List α} {x : α}, x ∈ l.takeWhile p → p x = true
  | [], x, h => by simp at h
  | y :: r, x, h => by
    rw [List.takeWhile_cons] at h
    split at h
    · rename_i hy
      rcases List.mem_cons.1 h with rfl | h
      · exact hy
      · exact mem_takeWhile h
    · simp at h
theorem dropWhile_ge (h : Ord lt) {x : α} : ∀ {l : List α}, Rises lt l → ∀ y ∈ l.dropWhile (fun y => lt y x), lt y x = false
  | [], _, y, hy => by simp at hy
  | z :: r, hl, y, hy => by
    rw [List.dropWhile_cons] at hy
    have hl' := List.pairwise_cons.1 hl
    split at hy
    · exact dropWhile_ge h hl'.2 y hy
    · rename_i hz
      have hz : lt z x = false := by simpa using hz
      rcases List.mem_cons.1 hy with rfl | hy
      · exact hz
      · cases hyx : lt y x with
        | false => rfl
        | true => rw [h.tr _ _ _ (hl'.1 y hy) hyx] at hz; cases hz
theorem putS_rises (h : Ord lt) {l : List α} (hl : Rises lt l) (x : α) : Rises lt (putS lt l x) := by
  unfold putS
  split
  · exact hl
  · rename_i hx
    have h1 := hl.sublist (List.takeWhile_sublist (p := fun y => lt y x))
    have h2 := hl.sublist (List.dropWhile_sublist (p := fun y => lt y x))
    have h3 : ∀ y ∈ l.dropWhile (fun y => lt y x), lt x y = true := fun y hy => by
      have h4 := dropWhile_ge h hl y hy
      rcases h.tri y x with h5 | rfl | h5
      · rw [h5] at h4; cases h4
      · exact absurd ((List.dropWhile_sublist _).subset hy) hx
      · exact h5
    refine List.pairwise_append.2 ⟨h1, List.pairwise_cons.2 ⟨h3, h2⟩, fun y hy z hz => ?_⟩
    have h4 := mem_takeWhile (p := fun y => lt y x) hy
    rcases List.mem_cons.1 hz with rfl | hz
    · exact h4
    · exact h.tr _ _ _ h4 (h3 z hz)
def ordS (lt : α → α → Bool) (l : List α) : List α := l.foldl (putS lt) []
theorem ordS_snoc (l : List α) (x : α) : ordS lt (l ++ [x]) = putS lt (ordS lt l) x := by simp [ordS]
theorem ordS_rises (h : Ord lt) (l : List α) : Rises lt (ordS lt l) :=
  snoc_ind (m := fun l => Rises lt (ordS lt l)) List.Pairwise.nil (fun l x ih => by rw [ordS_snoc]; exact putS_rises h ih x) l
theorem mem_ordS (l : List α) (x : α) : x ∈ ordS lt l ↔ x ∈ l :=
  snoc_ind (m := fun l => x ∈ ordS lt l ↔ x ∈ l) (by simp [ordS]) (fun l y ih => by rw [ordS_snoc, mem_putS, ih, List.mem_append, List.mem_singleton]) l
theorem putS_len (l : List α) (x : α) : (putS lt l x).length ≤ l.length + 1 := by
  unfold putS
  split
  · omega
  · have h := congrArg List.length (List.takeWhile_append_dropWhile (p := fun y => lt y x) (l := l))
    simp only [List.length_append, List.length_cons] at h ⊢
    omega
theorem ordS_len (l : List α) : (ordS lt l).length ≤ l.length :=
  snoc_ind (m := fun l => (ordS lt l).length ≤ l.length) (by simp [ordS]) (fun l x ih => by
    have := putS_len (lt := lt) (ordS lt l) x
    rw [ordS_snoc, List.length_append, List.length_singleton]
    omega) l
def comp : List α → List α
  | [] => []
  | [x] => [x]
  | x :: y :: r => if x = y then comp (y :: r) else x :: comp (y :: r)
theorem mem_comp : ∀ (l : List α) (x : α), x ∈ comp l ↔ x ∈ l
  | [], x => by simp [comp]
  | [y], x => by simp [comp]
  | y :: z :: r, x => by
    simp only [comp]
    split
    · rename_i e
      subst e
      rw [mem_comp (y :: r) x]
      simp
    · rw [List.mem_cons, mem_comp (z :: r) x, List.mem_cons (a := x) (b := y)]
theorem comp_rises (h : Ord lt) : ∀ (l : List α), (l.Pairwise fun x y => lt y x = false) → Rises lt (comp l)
  | [], _ => List.Pairwise.nil
  | [y], _ => by simp [comp, Rises]
  | y :: z :: r, hl => by
    have hl' := List.pairwise_cons.1 hl
    simp only [comp]
    split
    · exact comp_rises h _ hl'.2
    · rename_i hne
      refine List.pairwise_cons.2 ⟨fun u hu => ?_, comp_rises h _ hl'.2⟩
      have hu' : u ∈ z :: r := (mem_comp _ u).1 hu
      have h1 := hl'.1 u hu'
      rcases h.tri y u with h2 | rfl | h2
      · exact h2
      · 
        exfalso
        have hyz := hl'.1 z (by simp)
        rcases List.mem_cons.1 hu' with rfl | hr
        · exact hne rfl
        · have hzy := (List.pairwise_cons.1 hl'.2).1 y hr
          rcases h.tri y z with h3 | h3 | h3
          · rw [h3] at hzy; cases hzy
          · exact hne h3
          · rw [h3] at hyz; cases hyz
      · rw [h2] at h1; cases h1
theorem comp_ordS (h : Ord lt) {l l' : List α} (hp : l'.Perm l) (hs : l'.Pairwise fun x y => lt y x = false) : comp l' = ordS lt l :=
  Rises.ext h (comp_rises h l' hs) (ordS_rises h l) fun x => by rw [mem_comp, mem_ordS, hp.mem_iff]
end
section
variable {α : Type} [DecidableEq α] {lt : α → α → Bool}
def pos (lt : α → α → Bool) (l : List α) (t : α) : Nat := (l.takeWhile fun y => lt y t).length
theorem pos_unique : ∀ {l : List α} {t d : α} {i : Nat}, i ≤ l.length → (∀ j, j < i → lt (l.getD j d) t = true) → (i < l.length → lt (l.getD i d) t = false) → i = pos lt l t
  | [], t, d, i, hi, _, _ => by simp at hi; subst hi; rfl
  | y :: r, t, d, 0, _, _, h2 => by
    have := h2 (by simp)
    simp at this
    simp [pos, this]
  | y :: r, t, d, i + 1, hi, h1, h2 => by
    have h0 := h1 0 (by omega)
    simp at h0
    have ih := pos_unique (l := r) (t := t) (d := d) (i := i) (by simpa using hi) (fun j hj => by simpa using h1 (j + 1) (by omega)) (fun h => by simpa using h2 (by simpa using h))
    simp only [pos] at ih ⊢
    rw [List.takeWhile_cons, if_pos h0, List.length_cons, ← ih]
end
section
variable {α : Type} [DecidableEq α]
theorem comp_snoc2 : ∀ (l : List α) (y x : α), comp (l ++ [y] ++ [x]) = if y = x then comp (l ++ [y]) else comp (l ++ [y]) ++ [x]
  | [], y, x => by by_cases h : y = x <;> simp [comp, h]
  | [a], y, x => by by_cases h : a = y <;> by_cases h2 : y = x <;> simp_all [comp]
  | a :: b :: r, y, x => by
    have ih := comp_snoc2 (b :: r) y x
    simp only [List.cons_append, List.nil_append, comp] at ih ⊢
    split
    · exact ih
    · rw [ih]
      split <;> simp
theorem comp_take {l : List α} {j : Nat} {d : α} (h0 : 0 < j) (h : j < l.length) : comp (l.take (j + 1)) = if l.getD (j - 1) d = l.getD j d then comp (l.take j) else comp (l.take j) ++ [l.getD j d] := by
  have e1 : l.take (j + 1) = l.take j ++ [l.getD j d] := take_snoc h
  have e2 : l.take j = l.take (j - 1) ++ [l.getD (j - 1) d] := by
    have := take_snoc (l := l) (i := j - 1) (d := d) (by omega)
    rwa [show j - 1 + 1 = j by omega] at this
  rw [e1]
  conv => lhs; rw [e2]
  conv => rhs; rw [e2]
  exact comp_snoc2 _ _ _
theorem comp_one (l : List α) (h : l.length < 2) : comp l = l := by
  match l, h with
  | [], _ => rfl
  | [x], _ => rfl
structure Cmp (l ll : List α) (k j : Nat) : Prop where
  len : ll.length = l.length
  kept : ll.take k = comp (l.take j)
  rest : ll.drop k = l.drop k
  k1 : 1 ≤ k
  le : k < j
  jl : j ≤ l.length
theorem Cmp.start {l : List α} {k : Nat} {d : α} (h1 : 1 ≤ k) (h : k < l.length) (hc : comp (l.take k) = l.take k) (he : l.getD k d = l.getD (k - 1) d) : Cmp l l k (k + 1) := by
  refine ⟨rfl, ?_, rfl, h1, by omega, h⟩
  rw [comp_take (d := d) (by omega) h, if_pos he.symm, hc]
theorem comp_go {l : List α} {k : Nat} {d : α} (h1 : 1 ≤ k) (h : k < l.length) (hc : comp (l.take k) = l.take k) (he : l.getD k d ≠ l.getD (k - 1) d) : comp (l.take (k + 1)) = l.take (k + 1) := by
  rw [comp_take (d := d) (by omega) h, if_neg (fun e => he e.symm), hc, take_snoc (d := d) h]
theorem Cmp.at_ {l ll : List α} {k j i : Nat} {d : α} (h : Cmp l ll k j) (hi : k ≤ i) : ll.getD i d = l.getD i d := by
  have h1 : (ll.drop k)[i - k]? = (l.drop k)[i - k]? := by rw [h.rest]
  simp only [List.getElem?_drop, show k + (i - k) = i by omega] at h1
  simp [List.getD_eq_getElem?_getD, h1]
theorem Cmp.skip {l ll : List α} {k j : Nat} {d : α} (h : Cmp l ll k j) (hj : j < l.length) (he : ll.getD j d = ll.getD (j - 1) d) : Cmp l ll k (j + 1) := by
  have hk := h.le
  have hk1 := h.k1
  rw [h.at_ (by omega), h.at_ (by omega)] at he
  exact ⟨h.len, by rw [comp_take (d := d) (by omega) hj, if_pos he.symm]; exact h.kept, h.rest, h.k1, by omega, hj⟩
theorem Cmp.keep {l ll : List α} {k j : Nat} {d : α} (h : Cmp l ll k j) (hj : j < l.length) (he : ll.getD j d ≠ ll.getD (j - 1) d) : Cmp l (ll.set k (ll.getD j d)) (k + 1) (j + 1) := by
  have hk := h.le
  have hk1 := h.k1
  have hl := h.len
  have e2 : ll.getD j d = l.getD j d := h.at_ (by omega)
  rw [h.at_ (by omega), h.at_ (by omega)] at he
  refine ⟨by simpa using h.len, ?_, ?_, by omega, by omega, hj⟩
  · have e : (ll.set k (ll.getD j d)).take (k + 1) = ll.take k ++ [ll.getD j d] := by
      rw [take_snoc (d := d) (by simp; omega), List.take_set_of_le (Nat.le_refl _)]
      congr 2
      simp [List.getD_eq_getElem?_getD, show k < ll.length by omega]
    rw [e, h.kept, e2, comp_take (d := d) (by omega) hj, if_neg (fun e => he e.symm)]
  · rw [List.drop_set_of_lt (by omega)]
    exact drop_next h.rest
theorem Cmp.done {l ll : List α} {k j : Nat} (h : Cmp l ll k j) (hj : l.length ≤ j) (r : List α) : (ll.take k ++ r).take k = comp l := by
  have hle := h.le
  have hlen := h.len
  have hjl := h.jl
  rw [List.take_append_of_le_length (by rw [List.length_take]; omega), List.take_take, Nat.min_self, h.kept, List.take_of_length_le hj]
theorem Cmp.lenEq {l ll : List α} {k j : Nat} (h : Cmp l ll k j) (hj : l.length ≤ j) : k = (comp l).length := by
  have hle := h.le
  have hlen := h.len
  have hjl := h.jl
  have h1 := congrArg List.length h.kept
  rw [List.take_of_length_le hj, List.length_take] at h1
  omega
end
section
variable {α : Type} [DecidableEq α] {l : List α} {d : α}
theorem Cmp.startI {i : Nat} (h : 1 ≤ i ∧ i ≤ l.length ∧ comp (l.take i) = l.take i) (hi : (i : Int) < (l.length : Nat)) (he : l.getD ((i : Int)).toNat d = l.getD ((i : Int) - 1).toNat d) : Cmp l l ((i : Int)).toNat (i + (1 : Int).toNat) := by
  rw [show ((i : Int)).toNat = i by omega] at he ⊢
  rw [show ((i : Int) - 1).toNat = i - 1 by omega] at he
  exact Cmp.start h.1 (by omega) h.2.2 he
theorem comp_goI {i : Nat} (h : 1 ≤ i ∧ i ≤ l.length ∧ comp (l.take i) = l.take i) (hi : (i : Int) < (l.length : Nat)) (he : l.getD ((i : Int)).toNat d ≠ l.getD ((i : Int) - 1).toNat d) : comp (l.take (i + 1)) = l.take (i + 1) := by
  rw [show ((i : Int)).toNat = i by omega, show ((i : Int) - 1).toNat = i - 1 by omega] at he
  exact comp_go h.1 (by omega) h.2.2 he
theorem Cmp.keepI {x : Int × Int × List α} {i : Nat} (hI : 1 ≤ x.1 ∧ 1 ≤ x.2.1 ∧ Cmp l x.2.2 x.1.toNat (i + x.2.1.toNat)) (hj : x.2.1 < ((l.length - ((i : Int)).toNat : Nat) : Int)) (he : x.2.2.getD (((i : Int)).toNat + x.2.1.toNat) d ≠ x.2.2.getD (((i : Int)).toNat + (x.2.1 - 1).toNat) d) :
    Cmp l (x.2.2.set x.1.toNat (x.2.2.getD (((i : Int)).toNat + x.2.1.toNat) d)) (x.1 + 1).toNat (i + (x.2.1 + 1).toNat) := by
  obtain ⟨h1, h2, c⟩ := hI
  rw [show ((i : Int)).toNat = i by omega, show i + (x.2.1 - 1).toNat = i + x.2.1.toNat - 1 by omega] at he
  rw [show ((i : Int)).toNat = i by omega, show (x.1 + 1).toNat = x.1.toNat + 1 by omega, show i + (x.2.1 + 1).toNat = i + x.2.1.toNat + 1 by omega]
  exact c.keep (by omega) he
theorem Cmp.skipI {x : Int × Int × List α} {i : Nat} (hI : 1 ≤ x.1 ∧ 1 ≤ x.2.1 ∧ Cmp l x.2.2 x.1.toNat (i + x.2.1.toNat)) (hj : x.2.1 < ((l.length - ((i : Int)).toNat : Nat) : Int)) (he : x.2.2.getD (((i : Int)).toNat + x.2.1.toNat) d = x.2.2.getD (((i : Int)).toNat + (x.2.1 - 1).toNat) d) :
    Cmp l x.2.2 x.1.toNat (i + (x.2.1 + 1).toNat) := by
  obtain ⟨h1, h2, c⟩ := hI
  rw [show ((i : Int)).toNat = i by omega, show i + (x.2.1 - 1).toNat = i + x.2.1.toNat - 1 by omega] at he
  rw [show i + (x.2.1 + 1).toNat = i + x.2.1.toNat + 1 by omega]
  exact c.skip (by omega) he
theorem comp_all {i : Nat} (h : 1 ≤ i ∧ i ≤ l.length ∧ comp (l.take i) = l.take i) (hi : ¬ (i : Int) < (l.length : Nat)) : comp l = l := by
  have := h.2.2
  rwa [show i = l.length by omega, List.take_length] at this
end
abbrev Hd := Int × Int
def ltH (x y : Hd) : Bool := decide (x.1 < y.1 ∨ x.1 = y.1 ∧ x.2 < y.2)
theorem ordH : Ord ltH := by
  refine ⟨fun x => by simp [ltH], fun x y z h1 h2 => ?_, fun x y => ?_⟩
  · simp only [ltH, decide_eq_true_eq] at *; omega
  · obtain ⟨a, b⟩ := x
    obtain ⟨c, d⟩ := y
    simp only [ltH, decide_eq_true_eq, Prod.mk.injEq]; omega
def cmpI (a b : Int) : Int := if a < b then -1 else if b < a then 1 else 0
def cmpH (a b : Hd) : Int := if cmpI a.1 b.1 = 0 then cmpI a.2 b.2 else cmpI a.1 b.1
theorem cmpI_neg (a b : Int) : cmpI a b < 0 ↔ a < b := by unfold cmpI; split <;> (try split) <;> omega
theorem cmpI_zero (a b : Int) : cmpI a b = 0 ↔ a = b := by unfold cmpI; split <;> (try split) <;> omega
theorem cmpH_neg (a b : Hd) : cmpH a b < 0 ↔ ltH a b = true := by
  have h1 := cmpI_zero a.1 b.1; have h2 := cmpI_neg a.2 b.2; have h3 := cmpI_neg a.1 b.1
  simp only [cmpH, ltH, decide_eq_true_eq]
  split
  · rename_i h; rw [h2]; have := h1.1 h; omega
  · rename_i h; rw [h3]; have : ¬ a.1 = b.1 := fun e => h (h1.2 e); omega
theorem swo_of {α : Type} {lt : α → α → Bool} (ho : Ord lt) {cf : α → α → Int} (h : ∀ x y, cf x y < 0 ↔ lt x y = true) : SWO (ltOf cf) := by
  have e : ∀ x y, ltOf cf x y = lt x y := fun x y => by
    rw [Bool.eq_iff_iff, ← h]
    simp [ltOf]
  refine ⟨fun x => by rw [e]; exact ho.irr x, fun x y z h1 h2 => ?_, fun x y z h1 h2 => ?_⟩
  · rw [e] at *
    exact ho.tr _ _ _ h1 h2
  · rw [e] at *
    cases h3 : lt x z with
    | false => rfl
    | true =>
      rcases ho.tri x y with h4 | rfl | h4
      · rw [h4] at h1; cases h1
      · rw [h3] at h2; cases h2
      · rw [ho.tr _ _ _ h4 h3] at h2; cases h2
theorem pair_of {α : Type} {lt : α → α → Bool} {cf : α → α → Int} (h : ∀ x y, cf x y < 0 ↔ lt x y = true) {l : List α} (hl : l.Pairwise fun a b => ¬ cf b a < 0) : l.Pairwise fun x y => lt y x = false :=
  hl.imp fun {x y} hxy => by
    cases h1 : lt y x with
    | false => rfl
    | true => exact absurd ((h y x).2 h1) hxy
end Go.Px
namespace Go.Zz
open Go.Px Go.RowKit
open Go.ChangeMaps (setBlock)
set_option linter.unusedVariables false
set_option linter.unusedSimpArgs false
set_option linter.unusedSectionVars false
theorem Does.post_mono {Γ : Ctx} {f : FuncId} {S : Spec} (post' : S.X → Hp) (h : Does Γ f S) (hp : ∀ x En V w, S.cond x → HpOk Γ En V S.n1 (S.post x) w → HpOk Γ En V S.n1 (post' x) w) : Does Γ f { S with post := post' } := by
  refine ⟨h.1, h.2.1, h.2.2.1, fun V w hw => ?_⟩
  obtain ⟨R, hR, hb⟩ := h.2.2.2 V w hw
  refine ⟨R, hR, fun v w' hr => ?_⟩
  obtain ⟨x, V', h1, h2, h3, h4, h5⟩ := hb v w' hr
  exact ⟨x, V', h1, h2, h3, h4, hp x _ _ _ h1 h5⟩
theorem Does.ret {Γ : Ctx} {f : FuncId} {args : List SV} {H : Hp} {n0 : Nat} {r r' : SV} (h : Does Γ f (Sp0 args H n0 r)) (he : ∀ ρ, r.den Γ.Δ ρ = r'.den Γ.Δ ρ) (hb : r'.bd n0) : Does Γ f (Sp0 args H n0 r') := by
  refine ⟨h.1, h.2.1, h.2.2.1, fun V w hw => ?_⟩
  obtain ⟨R, hR, hq⟩ := h.2.2.2 V w hw
  refine ⟨R, hR, fun v w' hr => ?_⟩
  obtain ⟨x, V', h1, h2, h3, h4, h5⟩ := hq v w' hr
  exact ⟨x, V', h1, h2.trans (he _), hb, h4, h5⟩
theorem HpOk.shrink {Γ : Ctx} {En : Ent} {V : Val} {nx c : Nat} {H : Hp} {w : World} {α : Type} {en : Enc α} {e : TypeId} {l1 l2 : List α} {k : Nat} (h : HpOk Γ En V nx H w) (hc : lk H c = some (.arr α en e (l1 ++ l2) k)) : HpOk Γ En V nx (setH H c (.arr α en e l1 k)) w := by
  obtain ⟨⟨h1, h2⟩, h3⟩ := h.hr.ok c _ hc
  have hfl : (flat en.val l1).length = l1.length * en.sz := flat_len en.len l1
  refine h.set hc (Keep.refl _ _) ⟨⟨hfl, ?_⟩, fun i => ?_⟩ trivial
  · rcases h2 with ⟨q1, q2⟩ | ⟨g, cap, cur, q1, q2, q3, q4, q5, q6, q7⟩
    · simp only [Value.slice.injEq] at q1
      obtain ⟨q1, q3, rfl⟩ := q1
      have : l1.length = 0 := by rw [List.length_append] at q3; omega
      exact .inl ⟨by rw [q1, this], this⟩
    · simp only [Value.slice.injEq] at q1
      obtain ⟨q1, q8, rfl⟩ := q1
      refine .inr ⟨g, k, cur, by rw [q1], q2, q3, by rw [List.length_append] at q4; omega, q5, q6, ?_⟩
      have := congrArg (List.take (l1.length * en.sz)) q7
      rw [List.take_take, flat_app, List.take_left' hfl, Nat.min_eq_left (by rw [List.length_append]; exact Nat.mul_le_mul_right _ (Nat.le_add_right _ _))] at this
      exact this
  · rw [h3 i]
    cases V.ρ c <;> simp [Value.ownBlock]
theorem sort_does {Γ : Ctx} {ρ : Go.Shelf.Ren} {α : Type} [Inhabited α] {en : Enc α} (L : Go.Proofs.SlLaysF0.n6 Γ.P ρ) (aE : ∀ w, (isAgg (ρ.t 24)).run Γ.P w = .ok true w) (zE : ∀ w, (Go.sizeOf (ρ.t 24)).run Γ.P w = .ok en.sz w)
    {lt : α → α → Bool} (ho : Ord lt) {cf : α → α → Int} (hcf : ∀ x y, cf x y < 0 ↔ lt x y = true) {g : Nat} (hc : ∀ x y, DoesC { Γ with errs := [] } g (Sp0 [.agg (en.get x), .agg (en.get y)] [] 0 (.int .i64 (cf x y)))) {f : FuncId} (hf : f = ρ.f 6) (hen : enters Γ.P f)
    (l : List α) (k e : Nat) (hlen : l.length < 4611686018427387904) :
    Does Γ f ⟨[.sl 0 l.length k, .fn g []], [(0, .arr α en e l k)], 1, 1, List α, fun l' => l'.Perm l ∧ l'.Pairwise fun x y => lt y x = false, fun _ => .tup [], fun l' => [(0, .arr α en e l' k)]⟩ := by
  subst hf
  refine ⟨Nat.le_refl _, by simp [SV.bdL, SV.bd], hbB_ok rfl, fun V w hp => ?_⟩
  obtain ⟨hown, hβ⟩ := hp.hr.ok 0 _ rfl
  have hcall := sortFunc_own L aE zE en.len en.one (swo_of ho hcf) (run_callFunc (hc default default).2.2.2.1) (fun x y w => ((hc x y).two w).mono fun ex w' he => by
    obtain ⟨v, rfl, hv, hk⟩ := he
    exact ⟨v, rfl, by rw [hv, SV.den], hk⟩) hown hlen
  have e0 : (SV.denL Γ.Δ V.ρ [SV.sl 0 l.length k, SV.fn g []]).toArray = #[.slice (V.ρ 0) l.length k, .func (.func g) #[] #[]] := by simp [SV.denL, SV.den]
  refine ⟨_, .inl ⟨hen, by rw [e0]; exact hcall⟩, fun v w' hr => ?_⟩
  obtain ⟨rfl, l', hperm, hpw, hx, hk⟩ := hr
  have hl := hperm.length_eq
  refine ⟨l', V, ⟨hperm, pair_of hcf hpw⟩, by simp [SV.den, SV.denL], by simp [SV.bd, SV.bdL], fun _ _ => rfl, ?_⟩
  have := hp.set (c := 0) (ch' := .arr α en e l' k) rfl (hk.mono fun i _ hi => (hβ i).2 hi) ⟨by rw [hl]; exact hx, fun i => by rw [hl]; exact hβ i⟩ trivial
  exact this
section
variable {κ ν : Type} [DecidableEq κ]
theorem KeyT.inj {P : Program} {k : TypeId} {fk : κ → Value} (K : KeyT P k fk) {x y : κ} (h : fk x = fk y) : x = y := by
  obtain ⟨w⟩ : Nonempty World := ⟨default⟩
  have e : MapEntry := { key := fk x, val := fk x, born := 0 }
  by_cases hxy : x = y
  · exact hxy
  · exfalso
    have h1 := K.find w x [{ key := fk x, val := fk x, born := 0 }] [x] rfl
    have h2 := K.find w x [{ key := fk x, val := fk x, born := 0 }] [y] (by simp [h])
    rw [h1] at h2
    simp [List.findIdx?_cons, Ne.symm hxy] at h2
variable {Γ : Ctx} {sv : Operand → SV} {nx : Nat} {H : Hp} {K : SV → Nat → Hp → Prop} {t k e : TypeId} {ke : VE κ} {ve : VE ν} {z : ν}
end
end Go.Zz
namespace Go.Zz
open Go.Px Go.RowKit
set_option linter.unusedVariables false
set_option linter.unusedSimpArgs false
set_option linter.unusedSectionVars false
section
variable {κ ν : Type} [DecidableEq κ]
def restPr (el : ν → Pr) (L : List (κ × ν)) (p : κ → Nat) : Pr where
  ok a B w := ∃ Bs : κ → Nat → Prop, a = none ∧ (∀ x ∈ L, (el x.2).ok (some ⟨p x.1, 0, none⟩) (Bs x.1) w) ∧ (∀ x ∈ L, ∀ y ∈ L, x.1 ≠ y.1 → ∀ i, Bs x.1 i → ¬ Bs y.1 i) ∧ ∀ i, B i ↔ ∃ x ∈ L, Bs x.1 i
  stab := by
    rintro a B w w' F ⟨Bs, h1, h2, h3, h4⟩ hk hn
    exact ⟨Bs, h1, fun x hx => (el x.2).stab (h2 x hx) hk fun i hi => hn i ((h4 i).2 ⟨x, hx, hi⟩), h3, h4⟩
  lt := by
    rintro a B w i ⟨Bs, h1, h2, h3, h4⟩ hi
    obtain ⟨x, hx, hb⟩ := (h4 i).1 hi
    exact (el x.2).lt (h2 x hx) hb
end
structure NextGoal (Γ : Ctx) (s : St) (Q : St → Prop) : Prop where
  h : ∀ En V w, HpOk Γ En V s.nx s.H w → ∃ V' nx' H', s.nx ≤ nx' ∧ (∀ d, d < s.nx → V'.ρ d = V.ρ d) ∧ HpOk Γ En V' nx' H' w ∧ Q ⟨s.env, nx', H'⟩
theorem StOk.conv1 {Γ : Ctx} {n nx nx' : Nat} {En : Ent} {V V' : Val} {a : Act} {w : World} {env : Ev} {H H' : Hp} (hs : StOk Γ n En V a w ⟨env, nx, H⟩) (hle : nx ≤ nx') (h1 : ∀ d, d < nx → V'.ρ d = V.ρ d) (h2 : HpOk Γ En V' nx' H' w) : StOk Γ n En V' a w ⟨env, nx', H'⟩ := by
  refine ⟨hs.dfr, hs.size, fun t v hv => ?_, h2, fun c hcn => ?_, Nat.le_trans hs.n0 hle⟩
  · obtain ⟨q1, q2⟩ := hs.env t v hv
    exact ⟨by rw [q1, den_congr (fun d hd => (h1 d hd).symm) v q2], bd_mono hle v q2⟩
  · rw [h1 c (Nat.lt_of_lt_of_le hcn hs.n0)]; exact hs.old c hcn
theorem Cv.refl {Γ : Ctx} {nx : Nat} {H : Hp} : Cv Γ nx H nx H := ⟨Nat.le_refl _, fun En V w h => ⟨V, fun _ _ => rfl, h⟩⟩
theorem Cv.trans {Γ : Ctx} {nx nx1 nx2 : Nat} {H H1 H2 : Hp} (h : Cv Γ nx H nx1 H1) (h' : Cv Γ nx1 H1 nx2 H2) : Cv Γ nx H nx2 H2 :=
  ⟨Nat.le_trans h.le h'.le, fun En V w hp => by
    obtain ⟨V1, q1, q2⟩ := h.h En V w hp
    obtain ⟨V2, q3, q4⟩ := h'.h En V1 w q2
    exact ⟨V2, fun d hd => (q3 d (Nat.lt_of_lt_of_le hd h.le)).trans (q1 d hd), q4⟩⟩
section
variable {Γ : Ctx} {n n0 nx nx' : Nat} {js : List Nat} {env : Ev} {H H' : Hp} {Q : St → Prop}
theorem next_go {s : St} (h : Q s) : NextGoal Γ s Q := ⟨fun En V w hp => ⟨V, s.nx, s.H, Nat.le_refl _, fun _ _ => rfl, hp, h⟩⟩
theorem loop_at2 (r : Nat) (hΓ : Γ.Ok) {c : Code} {s : St} {Q : Exit → St → Prop} (hr0 : headOf c = some r) (js : List Nat) {X : Type} (pe : X → Ev) (ph : X → Hp) (gone : List Nat) (I : X → Prop) (m : X → Nat)
    (h0 : ∃ x0, updK s (defsC c) (pe x0) (ph x0) gone fun t => LeS n0 t s (I x0))
    (hr : ∀ x, I x → updK s (defsC c) (pe x) (ph x) gone fun t => vc Γ n n0 js c t fun e s' => match e with
      | .normal => NextGoal Γ s' fun s'' => ∃ x', updK s (defsC c) (pe x') (ph x') gone fun t' => LeS n0 t' s'' (I x' ∧ m x' < m x)
      | e => Q e s') : LoopGoal Γ n n0 c s Q := by
  refine ⟨fun En V a w he hs => ?_⟩
  obtain ⟨x0, h0⟩ := h0
  rw [updK_eq] at h0
  obtain ⟨hI, V0, hs0⟩ := LeS_ok h0 hs he
  refine wp_loop_ghost (fun k a w => ∃ x V, m x = k ∧ I x ∧ StOk Γ n En V a w (updS s (defsC c) (pe x) (ph x) gone)) (m x0) ⟨x0, V0, rfl, hI, hs0⟩ fun k a w hk => ?_
  obtain ⟨x, V, rfl, hI, hs⟩ := hk
  have hx := hr x hI
  rw [updK_eq] at hx
  refine wp_mono (vc_ok hΓ he c hx hs) fun e a' w' hq => ?_
  obtain ⟨V', s', hs', hq⟩ := hq
  cases e with
  | normal =>
    obtain ⟨V1, n2, H2, p1, p2, p3, x', hq⟩ := hq.h En V' w' hs'.hp
    rw [updK_eq] at hq
    have hs1 := StOk.conv1 (env := s'.env) hs' p1 p2 p3
    obtain ⟨⟨h1, h2⟩, V2, hs2⟩ := LeS_ok hq hs1 he
    exact ⟨m x', h2, x', V2, rfl, h1, hs2⟩
  | _ => exact ⟨V', s', hs', hq⟩
end
end Go.Zz
namespace Go.Zz
open Go.Px Go.RowKit
set_option linter.unusedVariables false
set_option linter.unusedSimpArgs false
set_option linter.unusedSectionVars false
def exPr {X : Type} (p : X → Prop) (Φ : X → Pr) : Pr where
  ok a B w := ∃ x, p x ∧ (Φ x).ok a B w
  stab := by rintro a B w w' F ⟨x, h1, h2⟩ hk hn; exact ⟨x, h1, (Φ x).stab h2 hk hn⟩
  lt := by rintro a B w i ⟨x, h1, h2⟩ hi; exact (Φ x).lt h2 hi
def Placed (Φ : Pr) : Prop := ∀ a B w, Φ.ok a B w → ∃ g, a = some ⟨g, 0, none⟩
theorem placed_ex {X : Type} {p : X → Prop} {Φ : X → Pr} (h : ∀ x, Placed (Φ x)) : Placed (exPr p Φ) := by rintro a B w ⟨x, _, h2⟩; exact h x a B w h2
theorem placed_grp {Γ : Ctx} {t : TypeId} {vs : List SV} {T : Hp} : Placed (grp Γ ((0, .cells t vs) :: T)) := by
  rintro a B w ⟨En, V, h1, h2, _⟩
  obtain ⟨g, q1, _⟩ := (h2 0 _ rfl).2
  exact ⟨g, by rw [← h1]; exact q1⟩
structure Conv (Γ : Ctx) (G : Nat → Hp → Prop) : Prop where
  up : ∀ {nx H}, (∀ En V w, HpOk Γ En V nx H w → ∃ V' nx' H', nx ≤ nx' ∧ (∀ d, d < nx → V'.ρ d = V.ρ d) ∧ HpOk Γ En V' nx' H' w ∧ G nx' H') → G nx H
section
variable {Γ : Ctx} {n n0 nx nx' : Nat} {js : List Nat} {x y : Code} {s : St} {Q : Exit → St → Prop} {env : Ev} {H H' : Hp}
theorem hereG : Conv Γ (fun nx H => HereGoal Γ n n0 js y ⟨env, nx, H⟩ Q) := ⟨fun {nx H} h => ⟨fun En V a w he hs => by
  obtain ⟨V', nx', H', h1, h2, h3, h4⟩ := h En V w hs.hp
  exact h4.h En V' a w he (hs.conv1 h1 h2 h3)⟩⟩
theorem drawG {l : List Oper} : Conv Γ (fun nx H => DrawGoal Γ n n0 l ⟨env, nx, H⟩ Q) := ⟨fun {nx H} h => ⟨fun id En V a w he hs => by
  obtain ⟨V', nx', H', h1, h2, h3, h4⟩ := h En V w hs.hp
  exact h4.h id En V' a w he (hs.conv1 h1 h2 h3)⟩⟩
theorem nextG {Q : St → Prop} : Conv Γ (fun nx H => NextGoal Γ ⟨env, nx, H⟩ Q) := ⟨fun {nx H} h => ⟨fun En V w hp => by
  obtain ⟨V', nx', H', h1, h2, h3, h4⟩ := h En V w hp
  obtain ⟨V2, n2, H2, p1, p2, p3, p4⟩ := h4.h En V' w h3
  exact ⟨V2, n2, H2, Nat.le_trans h1 p1, fun d hd => (p2 d (Nat.lt_of_lt_of_le hd h1)).trans (h2 d hd), p3, p4⟩⟩⟩
theorem callG {f : FuncId} {args : List SV} {K : SV → Nat → Hp → Prop} : Conv Γ (fun nx H => CallGoal Γ f args nx H K) := ⟨fun {nx H} h => ⟨fun En V w hp hn hb => by
  obtain ⟨V', nx', H', h1, h2, h3, h4⟩ := h En V w hp
  obtain ⟨R, hR, hk⟩ := h4.h En V' w h3 (Nat.le_trans hn h1) (bdL_mono h1 args hb)
  rw [denL_congr h2 args hb] at hR
  refine ⟨R, hR, fun v w' hr => ?_⟩
  obtain ⟨V2, sv, nx2, H2, q1, q2, q3, q4, q5, q6⟩ := hk v w' hr
  exact ⟨V2, sv, nx2, H2, q1, Nat.le_trans h1 q2, fun d hd => (q3 d (Nat.lt_of_lt_of_le hd h1)).trans (h2 d hd), q4, q5, q6⟩⟩⟩
structure RetGoal (Γ : Ctx) (S : Spec) (l : List SV) (nx : Nat) (H : Hp) : Prop where
  h : ∀ En V w, HpOk Γ En V nx H w → SV.bdL nx l → S.n0 ≤ nx → ∃ x V', S.cond x ∧ (resS l).den Γ.Δ V.ρ = (S.ret x).den Γ.Δ V'.ρ ∧ (S.ret x).bd S.n1 ∧ (∀ d, d < S.n0 → V'.ρ d = V.ρ d) ∧ HpOk Γ En V' S.n1 (S.post x) w
theorem resS_bd {m : Nat} {l : List SV} (h : SV.bdL m l) : (resS l).bd m := by
  match l, h with
  | [], _ => simp [resS, SV.bd, SV.bdL]
  | [v], h => simp only [SV.bdL] at h; exact h.1
  | v :: u :: r, h => simpa [resS, SV.bd] using h
theorem retG {S : Spec} {l : List SV} (hb : SV.bdL nx l) (h : ∀ En V w, HpOk Γ En V nx H w → ∃ V' nx' H', nx ≤ nx' ∧ (∀ d, d < nx → V'.ρ d = V.ρ d) ∧ HpOk Γ En V' nx' H' w ∧ RetGoal Γ S l nx' H') : RetGoal Γ S l nx H := ⟨fun En V w hp hb hn => by
  obtain ⟨V', nx', H', h1, h2, h3, h4⟩ := h En V w hp
  obtain ⟨x, V2, q1, q2, q3, q4, q5⟩ := h4.h En V' w h3 (bdL_mono h1 l hb) (Nat.le_trans hn h1)
  exact ⟨x, V2, q1, by rw [← q2]; exact (den_congr (fun d hd => (h2 d hd).symm) _ (resS_bd hb)), q3, fun d hd => (q4 d hd).trans (h2 d (Nat.lt_of_lt_of_le hd hn)), q5⟩⟩
theorem retG' {S : Spec} {l : List SV} : Conv Γ (fun nx H => RetGoal Γ S l nx H) := ⟨fun {nx H} h => ⟨fun En V w hp hb hn => (retG hb h).h En V w hp hb hn⟩⟩
theorem ret_done {S : Spec} {l : List SV} (hn : Nat.ble S.n0 S.n1 = true) (h : ∃ x, mt S.n0 S.n1 (S.ret x) (resS l) [] fun τ => mtH S.n0 S.n1 (S.post x) H τ (S.cond x)) : RetGoal Γ S l nx H := by
  have hn := Nat.le_of_ble_eq_true hn
  obtain ⟨x, h3⟩ := h
  refine ⟨fun En V w hp hb hn0 => ?_⟩
  obtain ⟨τ1, e1, e2, e3, e4, e5⟩ := mt_ok (Δ := Γ.Δ) hn _ _ [] _ ⟨fun c y h => by simp [lk] at h⟩ h3
  obtain ⟨τ2, g1, g2, g3, g4⟩ := mtH_ok (Γ := Γ) hn e2 e3
  have hag := ag_of V g2
  exact ⟨x, V.img S.n0 τ2, g3, (e5 _ _ (hag.sub g1)).symm, e4, fun d hd => hag.old d hd, g4 _ _ _ _ hp⟩
def RetKG (Γ : Ctx) (S : Spec) (rs : List ResultVar) : Exit → St → Prop
  | .normal, ⟨env, nx, H⟩ => resK Γ H env rs fun l => RetGoal Γ S l nx H
  | .ret, ⟨env, nx, H⟩ => resK Γ H env rs fun l => RetGoal Γ S l nx H
  | _, _ => Stuck "an exit" (.ready 0)
structure EntryGoal (Γ : Ctx) (f : FuncId) (S : Spec) (nx : Nat) (H : Hp) : Prop where
  h : ∀ V0 V w, HpOk Γ (entOf V0 w S.H S.n0) V nx H w → S.n0 ≤ nx → (∀ d, d < S.n0 → V.ρ d = V0.ρ d) → SV.bdL S.n0 S.args → Calls Γ.P f (SV.denL Γ.Δ V0.ρ S.args).toArray w (Ret fun v w' => ∃ x V', S.cond x ∧ v = (S.ret x).den Γ.Δ V'.ρ ∧ (S.ret x).bd S.n1 ∧ (∀ d, d < S.n0 → V'.ρ d = V0.ρ d) ∧ HpOk Γ (entOf V0 w S.H S.n0) V' S.n1 (S.post x) w')
theorem entryG {f : FuncId} {S : Spec} : Conv Γ (EntryGoal Γ f S) := ⟨fun {nx H} h => ⟨fun V0 V w hp hn hV hb => by
  obtain ⟨V', nx', H', h1, h2, h3, h4⟩ := h _ V w hp
  exact h4.h V0 V' w h3 (Nat.le_trans hn h1) (fun d hd => (h2 d (Nat.lt_of_lt_of_le hd hn)).trans (hV d hd)) hb⟩⟩
def chkFn0 (S : Spec) : Bool := Nat.ble S.n0 S.n1 && SV.bdLB S.n0 S.args && hbB S.n0 S.H
theorem fn_start {f : FuncId} {fn : Func} {c : Code} {S : Spec} (hf : Γ.P.funcs[f]? = some fn) (hb : fn.body = some c) (hnm : (fn.name == "runtime.NumGoroutine") = false) (hck : chkFn0 S = true) (h : EntryGoal Γ f S S.n0 S.H) : DoesC Γ f S := by
  simp only [chkFn0, Bool.and_eq_true] at hck
  exact ⟨Nat.le_of_ble_eq_true hck.1.1, bdLB_ok _ hck.1.2, hbB_ok hck.2, ⟨fn, hf, hnm, by rw [hb]; rfl⟩, fun V w hp => h.h V V w hp (Nat.le_refl _) (fun _ _ => rfl) (bdLB_ok _ hck.1.2)⟩
theorem entry_go (hΓ : Γ.Ok) {f : FuncId} {fn : Func} {c : Code} {S : Spec} (n n0 : Nat) (js : List Nat) (hf : Γ.P.funcs[f]? = some fn) (hb : fn.body = some c) (hnt : fn.ntmps = n) (hn0 : S.n0 = n0) (hck : Nat.ble S.args.length n = true)
    (h : vc Γ n n0 js c ⟨argE 0 S.args, nx, H⟩ (RetKG Γ S fn.results.toList)) : EntryGoal Γ f S nx H := by
  subst hnt
  subst hn0
  have hle := Nat.le_of_ble_eq_true hck
  refine ⟨fun V0 V w hp hnx hV hbd => ?_⟩
  refine calls_of_wp hf hb ?_
  have e0 : SV.denL Γ.Δ V0.ρ S.args = SV.denL Γ.Δ V.ρ S.args := denL_congr (fun d hd => (hV d hd).symm) _ hbd
  have hs : StOk Γ fn.ntmps (entOf V0 w S.H S.n0) V { tmps := (SV.denL Γ.Δ V0.ρ S.args).toArray ++ Array.replicate (fn.ntmps - (SV.denL Γ.Δ V0.ρ S.args).toArray.size) undef, defers := [] } w ⟨argE 0 S.args, nx, H⟩ := by
    refine ⟨rfl, by simp [denL_len]; omega, fun t v hv => ?_, hp, fun c hc => hV c hc, hnx⟩
    obtain ⟨_, h2⟩ := argE_get hv
    simp only [Nat.sub_zero] at h2
    refine ⟨?_, bd_mono hnx v (bdL_mem.1 hbd v (List.mem_of_getElem? h2))⟩
    have hlt : t < (SV.denL Γ.Δ V0.ρ S.args).toArray.size := by simp [denL_len]; exact (List.getElem?_eq_some_iff.1 h2).1
    show ((SV.denL Γ.Δ V0.ρ S.args).toArray ++ Array.replicate _ undef)[t]? = _
    rw [Array.getElem?_append_left hlt, e0]
    simp [denL_get, h2]
  refine wp_mono (vc_ok hΓ (En := entOf V0 w S.H S.n0) rfl c h hs) fun e a w' hq => ?_
  obtain ⟨V', ⟨env, nx, H⟩, hs', hq⟩ := hq
  have fin : resK Γ H env fn.results.toList (fun l => RetGoal Γ S l nx H) → bodyPost Γ.P fn (Ret fun v w' => ∃ x V', S.cond x ∧ v = (S.ret x).den Γ.Δ V'.ρ ∧ (S.ret x).bd S.n1 ∧ (∀ d, d < S.n0 → V'.ρ d = V0.ρ d) ∧ HpOk Γ (entOf V0 w S.H S.n0) V' S.n1 (S.post x) w') .ret a w' := fun hq => by
    obtain ⟨l, h3, h4, h5⟩ := results_ok hΓ hs' hq
    obtain ⟨x, V2, q1, q2, q3, q4, q5⟩ := h3.h _ V' w' hs'.hp h4 hs'.n0
    refine ⟨hs'.dfr, _, h5, _, rfl, x, V2, q1, q2, q3, fun d hd => ?_, q5⟩
    rw [q4 d hd]
    exact hs'.old d hd
  cases e with
  | normal => exact fin hq
  | ret => exact fin hq
  | _ => exact (hq : Stuck _ _).no.elim
variable {G : Nat → Hp → Prop} {c : Nat}
theorem Conv.cv (hG : Conv Γ G) (hc : Cv Γ nx H nx' H') (h : G nx' H') : G nx H := hG.up fun En V w hp => by
  obtain ⟨V', h1, h2⟩ := hc.h En V w hp
  exact ⟨V', nx', H', hc.le, h1, h2, h⟩
theorem Conv.ex (hG : Conv Γ G) (c : Nat) {X : Type} {p : X → Prop} {Φ : X → Pr} (hH : lk H c = some (.pr (exPr p Φ))) (h : ∀ x, p x → setK H c (.pr (Φ x)) fun H => G nx H) : G nx H := hG.up fun En V w hp => by
  obtain ⟨x, h1, h2⟩ := hp.hr.ok c _ hH
  have h3 := h x h1
  rw [setK_eq] at h3
  exact ⟨V, nx, _, Nat.le_refl _, fun _ _ => rfl, hp.set (ch' := .pr (Φ x)) hH (Keep.refl _ _) h2 trivial, h3⟩
theorem Conv.imp (hG : Conv Γ G) (c : Nat) {Φ Ψ : Pr} (hH : lk H c = some (.pr Φ)) (hi : ∀ a B w, Φ.ok a B w → Ψ.ok a B w) (h : setK H c (.pr Ψ) fun H => G nx H) : G nx H := hG.up fun En V w hp => by
  rw [setK_eq] at h
  exact ⟨V, nx, _, Nat.le_refl _, fun _ _ => rfl, hp.set (ch' := .pr Ψ) hH (Keep.refl _ _) (hi _ _ _ (hp.hr.ok c _ hH)) trivial, h⟩
theorem Conv.hide (hG : Conv Γ G) (c : Nat) {X : Type} {p : X → Prop} {Φ : X → Pr} (x : X) (hx : p x) (hH : lk H c = some (.pr (Φ x))) (h : setK H c (.pr (exPr p Φ)) fun H => G nx H) : G nx H :=
  hG.imp (Φ := Φ x) (Ψ := exPr p Φ) c hH (fun a B w hk => ⟨x, hx, hk⟩) h
theorem Conv.drop (hG : Conv Γ G) (c : Nat) (h : delK H c fun H => G nx H) : G nx H := hG.up fun En V w hp => by
  rw [delK_eq] at h
  refine ⟨V, nx, _, Nat.le_refl _, fun _ _ => rfl, ?_, h⟩
  refine hp.step (F := Nn) (fun d => d = c) (fun _ => False) (Keep.refl _ _) (fun i _ hf => hf.elim) (Nat.le_refl _) (fun _ _ => rfl) (fun d ch hd hn => ?_) (fun _ _ _ hn => hn.elim) (fun _ _ hn => hn.elim)
  rw [lk_del] at hd
  split at hd
  · cases hd
  · rename_i e; exact ⟨e, hd, rfl⟩
theorem Ch.okRen2 {En : Ent} {V V' : Val} {a b k : Nat} {w : World} {ch : Ch} {f : Nat → Nat} (ho : own1 ch = true) (h : ch.ok Γ En V a w) (hb : ch.bd k) (hρ : ∀ d, d < k → V'.ρ (f d) = V.ρ d) (hab : V'.ρ b = V.ρ a) (hβ : V'.β b = V.β a) : (ch.ren f).ok Γ En V' b w := by
  cases ch with
  | cells t vs =>
    obtain ⟨g, q1, q2, q3, q4⟩ := h
    have e : SV.denL Γ.Δ V'.ρ (SV.renL f vs) = SV.denL Γ.Δ V.ρ vs := by rw [denL_ren]; exact denL_congr hρ vs hb
    exact ⟨g, hab.trans q1, by rw [hβ]; exact q2, by rw [e]; exact q3, by rw [e]; exact q4⟩
  | arr α e t l kk => simp only [Ch.ren, Ch.ok, hab, hβ] at h ⊢; exact h
  | ro α e l kk => cases ho
  | fo Ψ => cases ho
  | pr Ψ => simp only [Ch.ren, Ch.ok, hab, hβ] at h ⊢; exact h
  | hole Ψ vs =>
    have e : SV.denL Γ.Δ V'.ρ (SV.renL f vs) = SV.denL Γ.Δ V.ρ vs := by rw [denL_ren]; exact denL_congr hρ vs hb
    simp only [Ch.ren, Ch.ok, hab, hβ, e] at h ⊢; exact h
def chkOpen (k : Nat) (ch : Ch) (T : Hp) : Bool := Nat.blt 0 k && hbB k ((0, ch) :: T) && ndB (keys ((0, ch) :: T)) && ownB ((0, ch) :: T)
theorem Conv.open_ (hG : Conv Γ G) (c : Nat) {Γ0 : Ctx} (hΔ : Γ0.Δ = Γ.Δ) {ch : Ch} {T : Hp} (k : Nat) (hH : lk H c = some (.pr (grp Γ0 ((0, ch) :: T)))) (hck : chkOpen k ch T = true)
    (h : setK H c (ch.ren fun d => nx + d) fun H => addK (fun d => nx + d) T H fun H => litK (nx + k) fun n => G n H) : G nx H := hG.up fun En V w hp => by
  rw [setK_eq, addK_eq, litK_eq] at h
  simp only [chkOpen, Bool.and_eq_true] at hck
  obtain ⟨⟨⟨hk0, hB⟩, hnd⟩, hown⟩ := hck
  have hk0 : 0 < k := by simpa [Nat.blt_eq] using hk0
  have hB := hbB_ok hB
  have hnd := ndB_nd hnd
  have hnd' : (keys T).Nodup := (List.nodup_cons.1 hnd).2
  have h0T : ∀ d ch', lk T d = some ch' → d ≠ 0 := fun d ch' hd e => by
    subst e
    exact (List.nodup_cons.1 hnd).1 (keys_mem (lk_mem hd))
  have hup : ∀ {d ch'}, lk T d = some ch' → lk ((0, ch) :: T) d = some ch' := fun {d ch'} hd => by
    rw [lk_cons, if_neg (fun e => h0T d ch' hd e)]; exact hd
  obtain ⟨En0, VT, h1, h2, h3, h4⟩ := hp.hr.ok c _ hH
  have h1 : VT.ρ 0 = V.ρ c := h1
  obtain ⟨V', r1, r2, r3⟩ := hp.open (k := k) (T := T) (VT := VT) (En0 := En) (B1 := VT.β 0) (ch1 := ch.ren fun d => nx + d) hH (fun d ch' hd => hB d ch' (hup hd)) hnd'
    (fun d ch' hd => by
      obtain ⟨q1, q2⟩ := h2 d ch' (hup hd)
      exact ⟨q1, Ch.okΔ hΔ (Ch.okEn q1 q2)⟩)
    (fun d d' hd hd' hne => by
      obtain ⟨ch1, hd⟩ := Option.isSome_iff_exists.1 hd
      obtain ⟨ch2, hd'⟩ := Option.isSome_iff_exists.1 hd'
      exact h3 d d' (by rw [hup hd]; rfl) (by rw [hup hd']; rfl) hne)
    (fun d hd i hi => by
      obtain ⟨ch1, hd⟩ := Option.isSome_iff_exists.1 hd
      exact ⟨(h4 i).2 ⟨d, by rw [hup hd]; rfl, hi⟩, fun h0 => h3 0 d rfl (by rw [hup hd]; rfl) (fun e => h0T d ch1 hd e.symm) i h0 hi⟩)
    (fun i hi => (h4 i).2 ⟨0, rfl, hi⟩) (Ch.bdRen (fun d hd => by omega) (hB 0 ch rfl).2)
    (fun V' s1 s2 s3 => by
      obtain ⟨q1, q2⟩ := h2 0 ch rfl
      exact Ch.okRen2 q1 (Ch.okΔ hΔ (Ch.okEn q1 q2)) (hB 0 ch rfl).2 (fun d hd => s2 d) ((s1 c (hp.hb c _ hH).1).trans h1.symm) s3)
  exact ⟨V', nx + k, _, Nat.le_add_right _ _, r1, r3, h⟩
def chkShut (ch : Ch) (T : Hp) (σ : List Nat) : Bool := hbB σ.length ((0, ch) :: T) && ndB (keys ((0, ch) :: T)) && ndB (ownIds (sg σ) T) && !memB (ownIds (sg σ) T) (sg σ 0) && ownB ((0, ch) :: T)
theorem Conv.shut (hG : Conv Γ G) {Γ0 : Ctx} (hΔ : Γ0.Δ = Γ.Δ) (ch : Ch) (T : Hp) (σ : List Nat) (hs : hsub (sg σ) H ((0, ch) :: T)) (hck : chkShut ch T σ = true)
    (h : delAllK H (ownIds (sg σ) T) fun H => setK H (sg σ 0) (.pr (grp Γ0 ((0, ch) :: T))) fun H => G nx H) : G nx H := hG.up fun En V w hp => by
  rw [delAllK_eq, setK_eq] at h
  simp only [chkShut, Bool.and_eq_true, Bool.not_eq_true'] at hck
  obtain ⟨⟨⟨⟨hB, hnd⟩, hno⟩, hnc⟩, hown⟩ := hck
  have hB := hbB_ok hB
  have hnd := ndB_nd hnd
  have hno := ndB_nd hno
  have hnc : sg σ 0 ∉ ownIds (sg σ) T := fun hm => by rw [memB_iff.2 hm] at hnc; cases hnc
  have h0T : ∀ d ch', lk T d = some ch' → d ≠ 0 := fun d ch' hd e => by
    subst e
    exact (List.nodup_cons.1 hnd).1 (keys_mem (lk_mem hd))
  have hup : ∀ {d ch'}, lk T d = some ch' → lk ((0, ch) :: T) d = some ch' := fun {d ch'} hd => by
    rw [lk_cons, if_neg (fun e => h0T d ch' hd e)]; exact hd
  have here : ∀ d ch', lk ((0, ch) :: T) d = some ch' → own1 ch' = true ∧ lk H (sg σ d) = some (ch'.ren (sg σ)) := fun d ch' hd => by
    have ho := ownB_ok hown d ch' hd
    have h4 := hsub_mem hs (lk_mem hd)
    refine ⟨ho, ?_⟩
    cases ch' with
    | ro α e l k => cases ho
    | fo Ψ => cases ho
    | _ => exact h4
  have hid : ∀ {d ch'}, lk T d = some ch' → sg σ d ∈ ownIds (sg σ) T := fun {d ch'} hd => ownIds_mem.2 ⟨d, ch', lk_mem hd, (here d ch' (hup hd)).1, rfl⟩
  have key := hp.close (σ := σ) (n0 := σ.length) (T := T) (ch1 := .pr (grp Γ0 ((0, ch) :: T))) (here 0 ch rfl).2 hs.2 (fun d ch' hd => hB d ch' (hup hd)) hno hnc trivial fun V' e1 e2 => ?_
  · obtain ⟨V', r1, r2⟩ := key
    exact ⟨V', nx, _, Nat.le_refl _, r1, r2, h⟩
  · refine ⟨En, ⟨fun d => V.ρ (sg σ d), fun d => V.β (sg σ d)⟩, by rw [e1], fun d ch' hd => ?_, fun d d' hd hd' hne i hi hi' => ?_, fun i => ?_⟩
    · obtain ⟨q1, q2⟩ := here d ch' hd
      exact ⟨q1, Ch.okΔ hΔ.symm (Ch.okUnren q1 (hp.hr.ok _ _ q2))⟩
    · obtain ⟨ch1, hd⟩ := Option.isSome_iff_exists.1 hd
      obtain ⟨ch2, hd'⟩ := Option.isSome_iff_exists.1 hd'
      refine hp.apart _ _ (by rw [(here d ch1 hd).2]; rfl) (by rw [(here d' ch2 hd').2]; rfl) (fun e => ?_) i hi hi'
      rw [lk_cons] at hd hd'
      split at hd
      · rename_i e0
        split at hd'
        · rename_i e0'; exact hne (e0.trans e0'.symm)
        · subst e0; exact hnc (e ▸ hid hd')
      · split at hd'
        · rename_i e0'; subst e0'; exact hnc (e ▸ hid hd)
        · exact own_inj hno (lk_mem hd) (lk_mem hd') (here d ch1 (hup hd)).1 (here d' ch2 (hup hd')).1 e hne
    · rw [e2]
      constructor
      · rintro (hi | ⟨t, ht, hi⟩)
        · exact ⟨0, rfl, hi⟩
        · obtain ⟨t0, ch2, q1, q2, rfl⟩ := ownIds_mem.1 ht
          have q3 := lk_of_mem (List.nodup_cons.1 hnd).2 q1
          exact ⟨t0, by rw [hup q3]; rfl, hi⟩
      · rintro ⟨d, hd, hi⟩
        obtain ⟨ch1, hd⟩ := Option.isSome_iff_exists.1 hd
        rw [lk_cons] at hd
        split at hd
        · rename_i e0; subst e0; exact .inl hi
        · exact .inr ⟨_, hid hd, hi⟩
end
end Go.Zz
namespace Go.Zz
open Go.Px Go.RowKit
set_option linter.unusedVariables false
set_option linter.unusedSimpArgs false
set_option linter.unusedSectionVars false
structure Retell (Γ : Ctx) (v : SV) (K : SV → Nat → Hp → Prop) (nx : Nat) (H : Hp) : Prop where
  h : ∀ En V w, HpOk Γ En V nx H w → v.bd nx → ∃ V' v' nx' H', nx ≤ nx' ∧ (∀ d, d < nx → V'.ρ d = V.ρ d) ∧ v'.bd nx' ∧ HpOk Γ En V' nx' H' w ∧ v.den Γ.Δ V.ρ = v'.den Γ.Δ V'.ρ ∧ (v = .raw undef → v' = .raw undef) ∧ K v' nx' H'
section
variable {Γ : Ctx} {n n0 nx nx' : Nat} {js : List Nat} {x y : Code} {s : St} {Q : Exit → St → Prop} {env : Ev} {H H' : Hp} {v : SV} {K : SV → Nat → Hp → Prop} {f : FuncId} {args : List SV} {sv : Operand → SV} {o : Op}
theorem retellG : Conv Γ (fun nx H => Retell Γ v K nx H) := ⟨fun {nx H} h => ⟨fun En V w hp hb => by
  obtain ⟨V', nx', H', h1, h2, h3, h4⟩ := h En V w hp
  obtain ⟨V2, v2, n2, H2, q1, q2, q3, q4, q5, q6, q7⟩ := h4.h En V' w h3 (bd_mono h1 v hb)
  exact ⟨V2, v2, n2, H2, Nat.le_trans h1 q1, fun d hd => (q2 d (Nat.lt_of_lt_of_le hd h1)).trans (h2 d hd), q3, q4, (den_congr (fun d hd => (h2 d hd).symm) v hb).trans q5, q6, q7⟩⟩⟩
theorem retell_done (h : K v nx H) : Retell Γ v K nx H := ⟨fun En V w hp hb => ⟨V, v, nx, H, Nat.le_refl _, fun _ _ => rfl, hb, hp, rfl, id, h⟩⟩
theorem retell_to (v' : SV) (hb : v.bd nx → v'.bd nx) (hne : v = .raw undef → v' = .raw undef) (he : ∀ En V w, HpOk Γ En V nx H w → v.den Γ.Δ V.ρ = v'.den Γ.Δ V.ρ) (h : Retell Γ v' K nx H) : Retell Γ v K nx H := ⟨fun En V w hp hbv => by
  obtain ⟨V2, v2, n2, H2, q1, q2, q3, q4, q5, q6, q7⟩ := h.h En V w hp (hb hbv)
  exact ⟨V2, v2, n2, H2, q1, q2, q3, q4, (he En V w hp).trans q5, fun e => q6 (hne e), q7⟩⟩
theorem op_retell (h : OpGoal Γ sv nx H o fun v n H => Retell Γ v K n H) : OpGoal Γ sv nx H o K := ⟨fun En V w oper hop hp hb => by
  obtain ⟨V', v, n1, H1, w', nxt, h1, h2, h3, h4, h5, h6, h7⟩ := h.h En V w oper hop hp hb
  obtain ⟨V2, v2, n2, H2, q1, q2, q3, q4, q5, q6, q7⟩ := h7.h En V' w' h6 h5
  refine ⟨V2, v2, n2, H2, w', nxt, ?_, h2, Nat.le_trans h3 q1, fun d hd => (q2 d (Nat.lt_of_lt_of_le hd h3)).trans (h4 d hd), q3, q4, q7⟩
  rcases h1 with h1 | ⟨h1, h8⟩
  · exact .inl (by rw [h1, q5])
  · exact .inr ⟨h1, q6 h8⟩⟩
theorem call_retell (h : CallGoal Γ f args nx H fun v n H => Retell Γ v K n H) : CallGoal Γ f args nx H K := ⟨fun En V w hp hn hb => by
  obtain ⟨R, hR, hk⟩ := h.h En V w hp hn hb
  refine ⟨R, hR, fun u w' hr => ?_⟩
  obtain ⟨V', sv, n1, H1, h1, h2, h3, h4, h5, h6⟩ := hk u w' hr
  obtain ⟨V2, v2, n2, H2, q1, q2, q3, q4, q5, q6, q7⟩ := h6.h En V' w' h5 h4
  exact ⟨V2, v2, n2, H2, h1.trans q5, Nat.le_trans h2 q1, fun d hd => (q2 d (Nat.lt_of_lt_of_le hd h2)).trans (h3 d hd), q3, q4, q7⟩⟩
theorem call_args (args' : List SV) (hb : SV.bdL nx args → SV.bdL nx args') (he : ∀ En V w, HpOk Γ En V nx H w → SV.denL Γ.Δ V.ρ args = SV.denL Γ.Δ V.ρ args') (h : CallGoal Γ f args' nx H K) : CallGoal Γ f args nx H K := ⟨fun En V w hp hn hba => by
  obtain ⟨R, hR, hk⟩ := h.h En V w hp hn (hb hba)
  rw [← he En V w hp] at hR
  exact ⟨R, hR, hk⟩⟩
theorem here_set (t : Nat) (v' : SV) {v : SV} (hv : lk env t = some v) (hb : v.bd nx → v'.bd nx) (he : ∀ En V w, HpOk Γ En V nx H w → v.den Γ.Δ V.ρ = v'.den Γ.Δ V.ρ) (h : HereGoal Γ n n0 js y ⟨(t, v') :: env, nx, H⟩ Q) : HereGoal Γ n n0 js y ⟨env, nx, H⟩ Q := ⟨fun En V a w hn hs => by
  refine h.h En V a w hn ⟨hs.dfr, hs.size, fun u x hx => ?_, hs.hp, hs.old, hs.n0⟩
  rw [lk_cons] at hx
  split at hx
  · rename_i e
    obtain rfl := Option.some.inj hx
    obtain ⟨q1, q2⟩ := hs.env t v hv
    subst e
    exact ⟨by rw [q1, he En V w hs.hp], hb q2⟩
  · exact hs.env u x hx⟩
def valIs (u : Value) : PrV where
  ok l a B w := l = [u] ∧ ∀ i, ¬ B i
  stab h _ _ := h
  lt h hi := absurd hi (h.2 _)
theorem says {c : Nat} {u : Value} {s : SV} (hH : lk H c = some (.hole (valIs u) [s])) {En : Ent} {V : Val} {w : World} (hp : HpOk Γ En V nx H w) : s.den Γ.Δ V.ρ = u := by
  have := (hp.hr.ok c _ hH).1
  simpa [SV.denL] using this
variable {G : Nat → Hp → Prop}
theorem HpOk.note {En : Ent} {V : Val} {w : World} (h : HpOk Γ En V nx H w) (a : Option Addr) (ch : Ch) (hok : ch.ok Γ En (V.upd nx a fun _ => False) nx w) (hb : ch.bd (nx + 1)) : HpOk Γ En (V.upd nx a fun _ => False) (nx + 1) ((nx, ch) :: H) w :=
  h.add (Keep.refl _ _) a _ ch hok hb (fun i hi => hi.elim)
theorem Conv.cast (hG : Conv Γ G) (c : Nat) {ch : Ch} (ch' : Ch) (hH : lk H c = some ch) (he : ch = ch') (h : setK H c ch' fun H => G nx H) : G nx H := by
  subst he
  exact hG.up fun En V w hp => by
    rw [setK_eq] at h
    exact ⟨V, nx, _, Nat.le_refl _, fun _ _ => rfl, hp.set hH (Keep.refl _ _) (hp.hr.ok c _ hH) (hp.hb c _ hH).2, h⟩
end
section
variable {Γ : Ctx} {nx : Nat} {H : Hp} {G : Nat → Hp → Prop}
theorem Conv.cells_ (hG : Conv Γ G) (c : Nat) {t : TypeId} {vs : List SV} (vs' : List SV) (hH : lk H c = some (.cells t vs)) (hb : SV.bdLB nx vs' = true) (he : ∀ En V w, HpOk Γ En V nx H w → SV.denL Γ.Δ V.ρ vs = SV.denL Γ.Δ V.ρ vs') (h : setK H c (.cells t vs') fun H => G nx H) : G nx H := hG.up fun En V w hp => by
  rw [setK_eq] at h
  obtain ⟨g, q1, q2, q3, q4⟩ := hp.hr.ok c _ hH
  have e := he En V w hp
  exact ⟨V, nx, _, Nat.le_refl _, fun _ _ => rfl, hp.set (ch' := .cells t vs') hH (Keep.refl _ _) ⟨g, q1, q2, by rw [← e]; exact q3, by rw [← e]; exact q4⟩ (bdLB_ok _ hb), h⟩
theorem Conv.nilArr (hG : Conv Γ G) {α : Type} (e : Enc α) (t : TypeId) (h : litK (nx + 1) fun n => litK (n + 1) fun n' => G n' ((n, .hole (valIs (.slice none 0 0)) [.sl nx 0 0]) :: (nx, .arr α e t [] 0) :: H)) : G nx H := hG.up fun En V w hp => by
  simp only [litK_eq] at h
  have r3 := hp.note none (.arr α e t [] 0) ⟨by simp [Val.upd]; exact World.ownsRow_nil w 0 t e.sz, fun i => by simp [Val.upd, Value.ownBlock]⟩ trivial
  refine ⟨(V.upd nx none fun _ => False).upd (nx + 1) none fun _ => False, nx + 1 + 1, _, Nat.le_trans (Nat.le_succ _) (Nat.le_succ _), fun d hd => ?_, r3.note none (.hole (valIs (.slice none 0 0)) [.sl nx 0 0]) ⟨?_, fun i hi => by simp [Val.upd] at hi⟩ (by simp only [Ch.bd, SV.bdL, SV.bd, and_true]; omega), h⟩
  · rw [upd_ρ d (by omega), upd_ρ d hd]
  · simp only [SV.denL, SV.den, upd_ρ nx (Nat.lt_succ_self _)]
    simp [Val.upd]
end
section
variable {κ ν : Type} [DecidableEq κ] {Γ : Ctx} {nx : Nat} {H : Hp} {G : Nat → Hp → Prop} {el : ν → Pr} {L : List (κ × ν)} {p : κ → Nat} {x : κ} {v : ν}
def restH (el : ν → Pr) (L : List (κ × ν)) (p : κ → Nat) (x : κ) : PrV where
  ok l a B w := l = [pV (some (p x))] ∧ ∃ Bs : κ → Nat → Prop, a = none ∧ (∀ y ∈ L, y.1 ≠ x → (el y.2).ok (some ⟨p y.1, 0, none⟩) (Bs y.1) w) ∧ (∀ y ∈ L, ∀ z ∈ L, y.1 ≠ x → z.1 ≠ x → y.1 ≠ z.1 → ∀ i, Bs y.1 i → ¬ Bs z.1 i) ∧ ∀ i, B i ↔ ∃ y ∈ L, y.1 ≠ x ∧ Bs y.1 i
  stab := by
    rintro l a B w w' F ⟨h0, Bs, h1, h2, h3, h4⟩ hk hn
    exact ⟨h0, Bs, h1, fun y hy hne => (el y.2).stab (h2 y hy hne) hk fun i hi => hn i ((h4 i).2 ⟨y, hy, hne, hi⟩), h3, h4⟩
  lt := by
    rintro l a B w i ⟨h0, Bs, h1, h2, h3, h4⟩ hi
    obtain ⟨y, hy, hne, hb⟩ := (h4 i).1 hi
    exact (el y.2).lt (h2 y hy hne) hb
theorem rest_ptr {r m : Nat} (hH : lk H r = some (.hole (restH el L p x) [.ptr m 0])) {En : Ent} {V : Val} {w : World} (hp : HpOk Γ En V nx H w) : (SV.ptr m 0).den Γ.Δ V.ρ = pV (some (p x)) := by
  have := (hp.hr.ok r _ hH).1
  simpa [SV.denL] using this
theorem Conv.restOut (hG : Conv Γ G) (r : Nat) (L : List (κ × ν)) (p : κ → Nat) (x : κ) (v : ν) (hH : lk H r = some (.pr (restPr el L p))) (hv : getK L x = some v)
    (h : setK H r (.hole (restH el L p x) [.ptr nx 0]) fun H => litK (nx + 1) fun n => G n ((nx, .pr (el v)) :: H)) : G nx H := hG.up fun En V w hp => by
  rw [setK_eq, litK_eq] at h
  obtain ⟨Bs, h1, h2, h3, h4⟩ := hp.hr.ok r _ hH
  have hm := mem_getK hv
  have hlk0 : ∀ d ch, lk [(0, Ch.pr (el v))] d = some ch → d = 0 ∧ ch = .pr (el v) := fun d ch hd => by
    rw [lk_cons] at hd
    split at hd
    · rename_i e; exact ⟨e, (Option.some.inj hd).symm⟩
    · simp [lk] at hd
  obtain ⟨V', r1, r2, r3⟩ := hp.open (k := 1) (T := [(0, .pr (el v))]) (VT := ⟨fun _ => some ⟨p x, 0, none⟩, fun _ => Bs x⟩) (En0 := En) (B1 := fun i => ∃ y ∈ L, y.1 ≠ x ∧ Bs y.1 i) (ch1 := .hole (restH el L p x) [.ptr nx 0]) hH
    (hbB_ok rfl) (ndB_nd rfl) (fun d ch hd => by
      obtain ⟨rfl, rfl⟩ := hlk0 d ch hd
      exact ⟨rfl, h2 _ hm⟩)
    (fun d d' hd hd' hne => by
      obtain ⟨ch, hd⟩ := Option.isSome_iff_exists.1 hd
      obtain ⟨ch', hd'⟩ := Option.isSome_iff_exists.1 hd'
      exact absurd ((hlk0 d ch hd).1.trans (hlk0 d' ch' hd').1.symm) hne)
    (fun d hd i hi => ⟨(h4 i).2 ⟨_, hm, hi⟩, fun ⟨y, hy, hne, hb⟩ => h3 _ hm y hy (fun e => hne e.symm) i hi hb⟩)
    (fun i ⟨y, hy, hne, hb⟩ => (h4 i).2 ⟨y, hy, hb⟩) (by simp only [Ch.bd, SV.bdL, SV.bd, and_true]; omega)
    (fun V' s1 s2 s3 => by
      refine ⟨?_, Bs, (s1 r (hp.hb r _ hH).1).trans h1, fun y hy _ => h2 y hy, fun y hy z hz _ _ hne => h3 y hy z hz hne, fun i => by rw [s3]⟩
      have q := s2 0
      simp only [Nat.add_zero] at q
      simp only [SV.denL, SV.den, q, sa, Option.getD_some, addA, pV])
  exact ⟨V', nx + 1, _, Nat.le_succ _, r1, r3, h⟩
theorem Conv.restIn (hG : Conv Γ G) (r m : Nat) (v : ν) (hH : lk H r = some (.hole (restH el L p x) [.ptr m 0])) (hm : lk H m = some (.pr (el v))) (hne : Nat.beq r m = false) (hp : Placed (el v)) (hx : hasK L x = true)
    (h : delK H m fun H => setK H r (.pr (restPr el (Go.Px.putK L x v) p)) fun H => G nx H) : G nx H := hG.up fun En V w hk => by
  rw [delK_eq, setK_eq] at h
  have hne : r ≠ m := beqF hne
  have hid : ownIds (sg [m]) [(0, Ch.pr (el v))] = [m] := rfl
  have hs : hsub (sg [m]) H [(0, Ch.pr (el v))] := ⟨hm, trivial⟩
  have key := hk.close (σ := [m]) (n0 := 1) (T := [(0, Ch.pr (el v))]) (ch1 := .pr (restPr el (Go.Px.putK L x v) p)) hH hs (hbB_ok rfl) (ndB_nd rfl) (by rw [hid]; simp [hne]) trivial fun V' e1 e2 => ?_
  · rw [hid] at key
    obtain ⟨V', q1, q2⟩ := key
    exact ⟨V', nx, _, Nat.le_refl _, q1, q2, h⟩
  obtain ⟨h0, Bs, h1, h2, h3, h4⟩ := hk.hr.ok r _ hH
  have hv := hk.hr.ok m _ hm
  obtain ⟨g, hg⟩ := hp _ _ _ hv
  have hgx : g = p x := by
    have := h0
    simp only [SV.denL, SV.den, hg, sa, Option.getD_some, addA, pV, List.cons.injEq, and_true, Value.pointer.injEq, Option.some.injEq, Addr.mk.injEq] at this
    exact this
  subst hgx
  rw [hid] at e2
  have hap : ∀ i, V.β m i → ¬ V.β r i := fun i h1 h2 => hk.apart r m (by rw [hH]; rfl) (by rw [hm]; rfl) hne i h2 h1
  have hmem : ∀ {y}, y ∈ Go.Px.putK L x v → ¬ y.1 = x → y ∈ L := fun {y} hy hn => ((mem_putK hx).1 hy).elim (fun e => absurd (congrArg Prod.fst e) hn) (·.1)
  refine ⟨fun k i => (k = x ∧ V.β m i) ∨ (¬ k = x ∧ Bs k i), by rw [e1]; exact h1, fun y hy => ?_, fun y hy z hz hyz i => ?_, fun i => ?_⟩
  · by_cases e : y.1 = x
    · rcases (mem_putK hx).1 hy with rfl | ⟨_, h6⟩
      · have : (fun i => (x = x ∧ V.β m i) ∨ (¬ x = x ∧ Bs x i)) = V.β m := by funext i; simp
        show (el v).ok (some ⟨p x, 0, none⟩) (fun i => (x = x ∧ V.β m i) ∨ (¬ x = x ∧ Bs x i)) w
        rw [this, ← hg]; exact hv
      · exact absurd e h6
    · have : (fun i => (y.1 = x ∧ V.β m i) ∨ (¬ y.1 = x ∧ Bs y.1 i)) = Bs y.1 := by funext i; simp [e]
      show (el y.2).ok _ (fun i => (y.1 = x ∧ V.β m i) ∨ (¬ y.1 = x ∧ Bs y.1 i)) w
      rw [this]; exact h2 y (hmem hy e) e
  · rintro (⟨e1, q1⟩ | ⟨e1, q1⟩) (⟨e2, q2⟩ | ⟨e2, q2⟩)
    · exact hyz (e1.trans e2.symm)
    · exact hap i q1 ((h4 i).2 ⟨z, hmem hz e2, e2, q2⟩)
    · exact hap i q2 ((h4 i).2 ⟨y, hmem hy e1, e1, q1⟩)
    · exact h3 y (hmem hy e1) z (hmem hz e2) e1 e2 hyz i q1 q2
  · rw [e2]
    simp only [List.mem_singleton, exists_eq_left]
    constructor
    · rintro (hi | hi)
      · obtain ⟨y, hy, hn, hb⟩ := (h4 i).1 hi
        exact ⟨y, (mem_putK hx).2 (.inr ⟨hy, hn⟩), .inr ⟨hn, hb⟩⟩
      · exact ⟨(x, v), (mem_putK hx).2 (.inl rfl), .inl ⟨rfl, hi⟩⟩
    · rintro ⟨y, hy, ⟨e, hb⟩ | ⟨e, hb⟩⟩
      · exact .inr hb
      · exact .inl ((h4 i).2 ⟨y, hmem hy e, e, hb⟩)
def atP (p : κ → Nat) (x : κ) (g : Nat) : κ → Nat := fun y => if y = x then g else p y
theorem Conv.restNew (hG : Conv Γ G) (r m : Nat) (x : κ) (v : ν) (hH : lk H r = some (.pr (restPr el L p))) {Φ : Pr} (hm : lk H m = some (.pr Φ)) (hpl : Placed Φ) (hx : hasK L x = false)
    (h : ∀ g, setK H r (.hole (restH el (Go.Px.putK L x v) (atP p x g) x) [.ptr m 0]) fun H => G nx H) : G nx H := hG.up fun En V w hp => by
  obtain ⟨g, hg⟩ := hpl _ _ _ (hp.hr.ok m _ hm)
  have h := h g
  rw [setK_eq] at h
  obtain ⟨Bs, h1, h2, h3, h4⟩ := hp.hr.ok r _ hH
  have hmem : ∀ {y}, y ∈ Go.Px.putK L x v → ¬ y.1 = x → y ∈ L := fun {y} hy hn => by
    unfold Go.Px.putK at hy
    rw [hx, if_neg (by simp)] at hy
    rcases List.mem_append.1 hy with h1 | h1
    · exact h1
    · obtain rfl := List.mem_singleton.1 h1; exact absurd rfl hn
  have hmem' : ∀ {y}, y ∈ L → y ∈ Go.Px.putK L x v ∧ ¬ y.1 = x := fun {y} hy => by
    refine ⟨?_, fun e => by rw [← Bool.not_eq_true] at hx; exact hx (hasK_iff.2 (List.mem_map.2 ⟨y, hy, e⟩))⟩
    unfold Go.Px.putK
    rw [hx, if_neg (by simp)]
    exact List.mem_append.2 (.inl hy)
  refine ⟨V, nx, _, Nat.le_refl _, fun _ _ => rfl, hp.set (ch' := .hole (restH el (Go.Px.putK L x v) (atP p x g) x) [.ptr m 0]) hH (Keep.refl _ _) ⟨?_, Bs, h1, fun y hy hn => ?_, fun y hy z hz hn hn' hne => h3 y (hmem hy hn) z (hmem hz hn') hne, fun i => ?_⟩ (by simp only [Ch.bd, SV.bdL, SV.bd, and_true]; exact (hp.hb m _ hm).1), h⟩
  · simp only [SV.denL, SV.den, hg, sa, Option.getD_some, addA, pV, atP, if_pos]
  · have := h2 y (hmem hy hn)
    simp only [atP, if_neg hn]; exact this
  · rw [h4 i]
    exact ⟨fun ⟨y, hy, hb⟩ => ⟨y, (hmem' hy).1, (hmem' hy).2, hb⟩, fun ⟨y, hy, hn, hb⟩ => ⟨y, hmem hy hn, hb⟩⟩
theorem Conv.restNil (hG : Conv Γ G) (el : ν → Pr) (p : κ → Nat) (h : litK (nx + 1) fun n => G n ((nx, .pr (restPr el ([] : List (κ × ν)) p)) :: H)) : G nx H := hG.up fun En V w hp => by
  rw [litK_eq] at h
  refine ⟨V.upd nx none fun _ => False, nx + 1, _, Nat.le_succ _, upd_ρ, hp.note none (.pr (restPr el [] p)) ⟨fun _ _ => False, by simp [Val.upd], (fun x hx => by cases hx), (fun x hx => by cases hx), fun i => by simp [Val.upd]⟩ trivial, h⟩
end
abbrev PRow (α : Type) := Option Addr × Nat × List α
def PRow.val {α : Type} (q : PRow α) : Value := .slice q.1 q.2.2.length q.2.1
section
variable {α : Type} {e : Enc α} {t : TypeId} {Q : List (PRow α)} {Γ : Ctx} {nx : Nat} {H : Hp} {G : Nat → Hp → Prop}
def poolX (e : Enc α) (t : TypeId) (Q : List (PRow α)) (ou : Nat → Prop) : Pr where
  ok a B w := a = none ∧ (∀ i q, Q[i]? = some q → ¬ ou i → w.ownsRow 0 t e.sz q.val q.2.2.length (flat e.val q.2.2)) ∧ (∀ i j q r, Q[i]? = some q → Q[j]? = some r → ¬ ou i → ¬ ou j → i ≠ j → ∀ b, q.val.ownBlock = some b → r.val.ownBlock ≠ some b) ∧ ∀ b, B b ↔ ∃ i q, Q[i]? = some q ∧ ¬ ou i ∧ q.val.ownBlock = some b
  stab := by
    rintro a B w w' F ⟨h1, h2, h3, h4⟩ hk hn
    exact ⟨h1, fun i q hq ho => own_of_block (h2 i q hq ho) fun b hb => hk.block b ((h2 i q hq ho).lt b hb).2 (hn b ((h4 b).2 ⟨i, q, hq, ho, hb⟩)), h3, h4⟩
  lt := by
    rintro a B w b ⟨h1, h2, h3, h4⟩ hi
    obtain ⟨i, q, hq, ho, hb⟩ := (h4 b).1 hi
    exact ((h2 i q hq ho).lt b hb).2
abbrev poolPr (e : Enc α) (t : TypeId) (Q : List (PRow α)) : Pr := poolX e t Q fun _ => False
theorem Conv.poolAdd (hG : Conv Γ G) (c m : Nat) {l : List α} {k : Nat} (hH : lk H c = some (.pr (poolPr e t Q))) (hm : lk H m = some (.arr α e t l k)) (hne : Nat.beq c m = false)
    (h : ∀ a : Option Addr, delK H m fun H => setK H c (.pr (poolPr e t (Q ++ [(a, k, l)]))) fun H => litK (nx + 1) fun n => G n ((nx, .hole (valIs (.slice a l.length k)) [.sl m l.length k]) :: H)) : G nx H := hG.up fun En V w hk => by
  have h := h (V.ρ m)
  rw [delK_eq, setK_eq, litK_eq] at h
  have hne : c ≠ m := beqF hne
  have hid : ownIds (sg [m]) [(0, Ch.arr α e t l k)] = [m] := rfl
  have hs : hsub (sg [m]) H [(0, Ch.arr α e t l k)] := ⟨hm, trivial⟩
  have key := hk.close (σ := [m]) (n0 := 1) (T := [(0, Ch.arr α e t l k)]) (ch1 := .pr (poolPr e t (Q ++ [(V.ρ m, k, l)]))) hH hs (hbB_ok rfl) (ndB_nd rfl) (by rw [hid]; simp [hne]) trivial fun V' e1 e2 => ?_
  · rw [hid] at key
    obtain ⟨V', q1, q2⟩ := key
    have hmn := (hk.hb m _ hm).1
    refine ⟨V'.upd nx none fun _ => False, nx + 1, _, Nat.le_succ _, fun d hd => (upd_ρ d hd).trans (q1 d hd), q2.note none (.hole (valIs (.slice (V.ρ m) l.length k)) [.sl m l.length k]) ⟨?_, fun i hi => by simp [Val.upd] at hi⟩ (by simp only [Ch.bd, SV.bdL, SV.bd, and_true]; omega), h⟩
    simp only [SV.denL, SV.den, upd_ρ m hmn, q1 m hmn]
  obtain ⟨h1, h2, h3, h4⟩ := hk.hr.ok c _ hH
  obtain ⟨g1, g2⟩ := hk.hr.ok m _ hm
  rw [hid] at e2
  have hap : ∀ b, V.β m b → ¬ V.β c b := fun b h1 h2 => hk.apart c m (by rw [hH]; rfl) (by rw [hm]; rfl) hne b h2 h1
  have hat : ∀ {j r}, (Q ++ [(V.ρ m, k, l)])[j]? = some r → (Q[j]? = some r ∧ j < Q.length) ∨ (j = Q.length ∧ r = (V.ρ m, k, l)) := fun {j r} hr => by
    rcases Nat.lt_or_ge j Q.length with hj | hj
    · rw [List.getElem?_append_left hj] at hr; exact .inl ⟨hr, hj⟩
    · rw [List.getElem?_append_right hj] at hr
      have : j - Q.length = 0 := by
        rcases Nat.eq_zero_or_pos (j - Q.length) with h | h
        · exact h
        · rw [List.getElem?_eq_none (by simp; omega)] at hr; cases hr
      rw [this] at hr
      exact .inr ⟨by omega, (Option.some.inj hr).symm⟩
  refine ⟨by rw [e1]; exact h1, fun j r hr _ => ?_, fun j j' r r' hr hr' _ _ hjk b hb hb' => ?_, fun b => ?_⟩
  · rcases hat hr with ⟨hr, _⟩ | ⟨_, rfl⟩
    · exact h2 j r hr id
    · exact g1
  · rcases hat hr with ⟨hr, q1⟩ | ⟨q1, rfl⟩
    · rcases hat hr' with ⟨hr', q2⟩ | ⟨q2, rfl⟩
      · exact h3 j j' r r' hr hr' id id hjk b hb hb'
      · exact hap b ((g2 b).2 hb') ((h4 b).2 ⟨j, r, hr, id, hb⟩)
    · rcases hat hr' with ⟨hr', q2⟩ | ⟨q2, rfl⟩
      · exact hap b ((g2 b).2 hb) ((h4 b).2 ⟨j', r', hr', id, hb'⟩)
      · omega
  · rw [e2]
    simp only [List.mem_singleton, exists_eq_left]
    constructor
    · rintro (hb | hb)
      · obtain ⟨j, r, hr, hn, hb⟩ := (h4 b).1 hb
        exact ⟨j, r, by rw [List.getElem?_append_left (List.getElem?_eq_some_iff.1 hr).1]; exact hr, id, hb⟩
      · exact ⟨Q.length, (V.ρ m, k, l), by simp, id, (g2 b).1 hb⟩
    · rintro ⟨j, r, hr, _, hb⟩
      rcases hat hr with ⟨hr, _⟩ | ⟨_, rfl⟩
      · exact .inl ((h4 b).2 ⟨j, r, hr, id, hb⟩)
      · exact .inr ((g2 b).2 hb)
theorem Conv.poolNil (hG : Conv Γ G) (e : Enc α) (t : TypeId) (h : litK (nx + 1) fun n => G n ((nx, .pr (poolPr e t [])) :: H)) : G nx H := hG.up fun En V w hp => by
  rw [litK_eq] at h
  refine ⟨V.upd nx none fun _ => False, nx + 1, _, Nat.le_succ _, upd_ρ, hp.note none (.pr (poolPr e t [])) ⟨by simp [Val.upd], fun i q hq => by simp at hq, fun i j q r hq => by simp at hq, fun b => by simp [Val.upd]⟩ trivial, h⟩
def roPool (e : Enc α) (Q : List (PRow α)) : PrF where
  ok _ F w := ∀ q ∈ Q, Arr w e.sz q.1 q.2.2.length q.2.1 (flat e.val q.2.2) ∧ (0 < q.2.2.length → ∀ A, q.1 = some A → ¬ F A.block ∧ A.block < w.heap.size)
  carry := by
    intro a F F' w w' h hk hF q hq
    obtain ⟨h1, h2⟩ := h q hq
    refine ⟨?_, fun hl A hA => ⟨fun hf => ?_, Nat.lt_of_lt_of_le (h2 hl A hA).2 hk.size⟩⟩
    · rcases Nat.eq_zero_or_pos q.2.2.length with h0 | h0
      · have hl : q.2.2 = [] := List.eq_nil_of_length_eq_zero h0
        exact ⟨h1.len, h1.some_, h1.none_, h1.le, fun j u hu => by rw [hl] at hu; simp [flat] at hu⟩
      · exact h1.keep hk fun A hA => (h2 h0 A hA).1
    · rcases hF _ hf with h3 | h3
      · exact (h2 hl A hA).1 h3
      · have := (h2 hl A hA).2; omega
theorem lends_pool : Lends (poolPr e t Q) (roPool e Q) := fun a B F w h hB q hq => by
  obtain ⟨h1, h2, h3, h4⟩ := h
  obtain ⟨i, hi⟩ := List.getElem?_of_mem hq
  have ho := h2 i q hi id
  refine ⟨own_arr ho, fun hl A hA => ?_⟩
  have hb : q.val.ownBlock = some A.block := by simp [PRow.val, hA, Value.ownBlock]
  exact ⟨hB _ ((h4 _).2 ⟨i, q, hi, id, hb⟩), (ho.lt _ hb).2⟩
theorem Conv.foOut (hG : Conv Γ G) (c i : Nat) (q : PRow α) (hH : lk H c = some (.fo (roPool e Q))) (hq : Q[i]? = some q)
    (h : litK (nx + 1) fun n => litK (n + 1) fun n' => G n' ((n, .hole (valIs q.val) [.sl nx q.2.2.length q.2.1]) :: (nx, .ro α e q.2.2 q.2.1) :: H)) : G nx H := hG.up fun En V w hp => by
  simp only [litK_eq] at h
  obtain ⟨h1, h2⟩ := hp.hr.ok c _ hH
  obtain ⟨g1, g2⟩ := h1 q (List.mem_of_getElem? hq)
  have r3 := hp.note q.1 (.ro α e q.2.2 q.2.1) ⟨by simpa [Val.upd] using g1, fun i hi => by simp [Val.upd] at hi, fun hl A hA => g2 hl A (by simpa [Val.upd] using hA)⟩ trivial
  refine ⟨(V.upd nx q.1 fun _ => False).upd (nx + 1) none fun _ => False, nx + 1 + 1, _, Nat.le_trans (Nat.le_succ _) (Nat.le_succ _), fun d hd => ?_, r3.note none (.hole (valIs q.val) [.sl nx q.2.2.length q.2.1]) ⟨?_, fun i hi => by simp [Val.upd] at hi⟩ (by simp only [Ch.bd, SV.bdL, SV.bd, and_true]; omega), h⟩
  · rw [upd_ρ d (by omega), upd_ρ d hd]
  · simp only [SV.denL, SV.den, upd_ρ nx (Nat.lt_succ_self _), PRow.val]
    simp [Val.upd]
end
section
variable {κ ν : Type} [DecidableEq κ] {Γ : Ctx} {sv : Operand → SV} {nx : Nat} {H : Hp} {K : SV → Nat → Hp → Prop} {t k e : TypeId} {ke : VE κ} {ve : VE ν} {z : ν}
theorem mapset_ruleS (M : MapTy Γ.P t k e ke ve z) {X Y Z : Operand} (c : Nat) (L : List (κ × ν)) (x : κ) (v : ν) (hX : sv X = .mp c) (hY : ke.of (sv Y) = some x) (hZ : ∀ En V w, HpOk Γ En V nx H w → (sv Z).den Γ.Δ V.ρ = ve.val v) (hH : lk H c = some (.pr (mapPr ke ve L)))
    (k1 : setK H c (.pr (mapPr ke ve (Go.Px.putK L x v))) fun H => K (.raw undef) nx H) : OpGoal Γ sv nx H (.mapUpdate t X Y Z) K := by
  refine ⟨fun En V w oper hop h0 hb => ?_⟩
  obtain ⟨g, e1, hβ, hρ, hm⟩ := mp_at h0 hH
  obtain ⟨w', hr, hm', hk⟩ := hm.update M.key M.u x v
  rw [setK_eq] at k1
  refine ⟨V, _, nx, _, w', .skip, .inr ⟨rfl, rfl⟩, ?_, Nat.le_refl _, fun _ _ => rfl, by simp only [SV.bd], upd_core h0 hH hβ hρ hm' hk, k1⟩
  simp [execOp, hop, hX, e1, ke.of_ok hY, hZ En V w h0, hr]
end
end Go.Zz
namespace Go.Px
set_option linter.unusedVariables false
set_option linter.unusedSimpArgs false
set_option linter.unusedSectionVars false
theorem take_nextI {α : Type} {l : List α} {i : Int} {d : α} (h : 0 ≤ i ∧ i < (l.length : Int)) : l.take (i + 1).toNat = l.take i.toNat ++ [l.getD i.toNat d] := by
  rw [show (i + 1).toNat = i.toNat + 1 by omega, take_snoc (d := d) (by omega)]
structure V3 where
  k : Int
  a : Int
  b : Int
  deriving DecidableEq, Inhabited
def vkind (v : V3) : Bool := decide (0 ≤ v.k ∧ v.k ≤ 9)
def vrange (v : V3) : Bool :=
  if v.k = 0 ∨ v.k = 2 then decide (-1048576 ≤ v.a ∧ v.a ≤ 1048576 ∧ -1048576 ≤ v.b ∧ v.b ≤ 1048576)
  else if v.k = 1 then decide (0 ≤ v.a ∧ v.a ≤ 1048576 ∧ 0 ≤ v.b ∧ v.b ≤ 1048576)
  else if v.k = 3 then decide (v.a = 0 ∧ v.b = 0)
  else if v.k = 4 then decide (0 ≤ v.a ∧ v.a ≤ 255 ∧ v.b = 0)
  else if v.k = 5 then decide (0 ≤ v.a ∧ v.a ≤ 1048576 ∧ v.b = 0)
  else decide (-4194304 ≤ v.a ∧ v.a ≤ 4194304 ∧ -4194304 ≤ v.b ∧ v.b ≤ 4194304)
def vcheck (v : V3) : Int := if vkind v then (if vrange v then 0 else 1) else 5
theorem vcheck_eq (k x y : Int) : vcheck ⟨k, x, y⟩ =
    if ¬ (0 ≤ k ∧ k ≤ 9) then 5
    else if k = 0 ∨ k = 2 then (if -1048576 ≤ x ∧ x ≤ 1048576 ∧ -1048576 ≤ y ∧ y ≤ 1048576 then 0 else 1)
    else if k = 1 then (if 0 ≤ x ∧ x ≤ 1048576 ∧ 0 ≤ y ∧ y ≤ 1048576 then 0 else 1)
    else if k = 3 then (if x = 0 ∧ y = 0 then 0 else 1)
    else if k = 4 then (if 0 ≤ x ∧ x ≤ 255 ∧ y = 0 then 0 else 1)
    else if k = 5 then (if 0 ≤ x ∧ x ≤ 1048576 ∧ y = 0 then 0 else 1)
    else (if -4194304 ≤ x ∧ x ≤ 4194304 ∧ -4194304 ≤ y ∧ y ≤ 4194304 then 0 else 1) := by
  unfold vcheck vkind vrange
  by_cases h9 : 0 ≤ k ∧ k ≤ 9
  · by_cases h0 : k = 0 ∨ k = 2
    · simp [h9, h0]
    · by_cases h1 : k = 1
      · simp [h1]
      · by_cases h3 : k = 3
        · simp [h3]
        · by_cases h4 : k = 4
          · simp [h4]
          · by_cases h5 : k = 5
            · simp [h5]
            · simp [h9, h0, h1, h3, h4, h5]
  · simp [h9]
def firstBad : List V3 → Int
  | [] => 0
  | v :: r => if vcheck v = 0 then firstBad r else vcheck v
def byKinds (l : List V3) (n : Nat) : List V3 := (List.range n).flatMap fun k : Nat => l.filter fun v => v.k == (k : Int)
def v0 : V3 := ⟨0, 0, 0⟩
theorem firstBad_step {l : List V3} {i : Nat} {d : V3} (h : i < l.length) : firstBad (l.drop i) = if vcheck (l.getD i d) = 0 then firstBad (l.drop (i + 1)) else vcheck (l.getD i d) := by
  rw [drop_cons (d := d) h]
  rfl
theorem vcheck_vals (v : V3) : vcheck v = 0 ∨ vcheck v = 1 ∨ vcheck v = 5 := by unfold vcheck; split <;> (try split) <;> simp
theorem firstBad_all : ∀ {l : List V3}, firstBad l = 0 → ∀ v ∈ l, vcheck v = 0
  | [], _, v, h => by simp at h
  | x :: r, h0, v, h => by
    simp only [firstBad] at h0
    split at h0
    · rename_i hx
      rcases List.mem_cons.1 h with rfl | h
      · exact hx
      · exact firstBad_all h0 v h
    · rename_i hx; exact absurd h0 hx
def rightV (l : List V3) : Bool := decide (∀ j, j < l.length → vcheck (l.getD j v0) = 0 ∧ (0 < j → (l.getD (j - 1) v0).k < (l.getD j v0).k))
def noDup (l : List V3) : Bool := decide ((l.map (·.k)).Nodup)
theorem noDup_iff {l : List V3} : noDup l = true ↔ (l.map (·.k)).Nodup := by simp [noDup]
theorem byKinds_succ (l : List V3) (n : Nat) : byKinds l (n + 1) = byKinds l n ++ l.filter fun v => v.k == (n : Int) := by
  simp [byKinds, List.range_succ, List.flatMap_append]
theorem mem_byKinds {l : List V3} {v : V3} : ∀ {n : Nat}, v ∈ byKinds l n ↔ v ∈ l ∧ 0 ≤ v.k ∧ v.k < n
  | 0 => by
    simp only [byKinds, List.range_zero, List.flatMap_nil, List.not_mem_nil, false_iff]
    omega
  | n + 1 => by
    rw [byKinds_succ, List.mem_append, mem_byKinds, List.mem_filter, beq_iff_eq]
    constructor
    · rintro (⟨h1, h2, h3⟩ | ⟨h1, h2⟩)
      · exact ⟨h1, h2, by omega⟩
      · exact ⟨h1, by omega, by omega⟩
    · rintro ⟨h1, h2, h3⟩
      by_cases h : v.k = n
      · exact .inr ⟨h1, h⟩
      · exact .inl ⟨h1, h2, by omega⟩
theorem filter_split (p q r : V3 → Bool) (h : ∀ v, p v = (q v || r v)) (h2 : ∀ v, q v = true → r v = false) : ∀ l : List V3, (l.filter q ++ l.filter r).Perm (l.filter p)
  | [] => List.Perm.refl _
  | x :: l => by
    have ih := filter_split p q r h h2 l
    have hx := h x
    cases hq : q x with
    | true =>
      have hr := h2 x hq
      rw [hq] at hx
      simp only [List.filter_cons, hq, hr, hx, Bool.true_or, if_true, Bool.false_eq_true, if_false, List.cons_append]
      exact ih.cons _
    | false =>
      rw [hq, Bool.false_or] at hx
      cases hr : r x with
      | true =>
        rw [hr] at hx
        simp only [List.filter_cons, hq, hr, hx, if_true, Bool.false_eq_true, if_false]
        exact List.perm_middle.trans (ih.cons _)
      | false =>
        rw [hr] at hx
        simp only [List.filter_cons, hq, hr, hx, Bool.false_eq_true, if_false]
        exact ih
theorem byKinds_perm (l : List V3) : ∀ n : Nat, (byKinds l n).Perm (l.filter fun v => decide (0 ≤ v.k ∧ v.k < n))
  | 0 => by
    have h : (l.filter fun v : V3 => decide (0 ≤ v.k ∧ v.k < ((0 : Nat) : Int))) = [] := by
      rw [List.filter_eq_nil_iff]
      intro v _
      simp only [decide_eq_true_eq]
      omega
    rw [h]
    exact List.Perm.refl _
  | n + 1 => by
    rw [byKinds_succ]
    refine ((byKinds_perm l n).append_right _).trans ?_
    refine filter_split _ _ _ (fun v => ?_) (fun v hv => ?_) l
    · rw [Bool.eq_iff_iff]
      simp only [decide_eq_true_eq, Bool.or_eq_true, beq_iff_eq]
      omega
    · simp only [decide_eq_true_eq] at hv
      simp
      omega
theorem byKinds_sorted {l : List V3} (h : (l.map (·.k)).Nodup) : ∀ n : Nat, (byKinds l n).Pairwise fun x y => x.k < y.k
  | 0 => by simp [byKinds]
  | n + 1 => by
    rw [byKinds_succ, List.pairwise_append]
    refine ⟨byKinds_sorted h n, ?_, fun x hx y hy => ?_⟩
    · have h1 : (l.Pairwise fun x y => x.k ≠ y.k) := by
        have := h
        rw [List.Nodup, List.pairwise_map] at this
        exact this
      have h2 := h1.filter (fun v => v.k == (n : Int))
      refine h2.imp_of_mem fun {x y} hx hy hxy => ?_
      have hx := (List.mem_filter.1 hx).2
      have hy := (List.mem_filter.1 hy).2
      simp only [beq_iff_eq] at hx hy
      exact absurd (hx.trans hy.symm) hxy
    · have hx := (mem_byKinds.1 hx).2.2
      have hy := (List.mem_filter.1 hy).2
      simp only [beq_iff_eq] at hy
      omega
theorem kinds_of {l : List V3} (h : firstBad l = 0) : ∀ v ∈ l, 0 ≤ v.k ∧ v.k ≤ 9 := fun v hv => by
  have h1 := firstBad_all h v hv
  unfold vcheck at h1
  split at h1
  · rename_i h2
    simpa [vkind] using h2
  · omega
theorem byKinds_all {l : List V3} (h : firstBad l = 0) : (byKinds l 10).Perm l := by
  refine (byKinds_perm l 10).trans ?_
  rw [List.filter_eq_self.2 fun v hv => ?_]
  have := kinds_of h v hv
  simp
  omega
theorem strict_of {ls : List V3} (hs : ls.Pairwise fun x y => x.k ≤ y.k) (hn : (ls.map (·.k)).Nodup) : ls.Pairwise fun x y => x.k < y.k := by
  have h1 : (ls.Pairwise fun x y => x.k ≠ y.k) := by
    have := hn
    rw [List.Nodup, List.pairwise_map] at this
    exact this
  exact (hs.and h1).imp fun {x y} h => by omega
theorem sorted_eq {l ls : List V3} (hp : ls.Perm l) (hs : ls.Pairwise fun x y => x.k ≤ y.k) (h0 : firstBad l = 0) (hn : noDup l = true) : ls = byKinds l 10 := by
  rw [noDup_iff] at hn
  have hn2 : (ls.map (·.k)).Nodup := (hp.map _).nodup_iff.2 hn
  exact List.Perm.eq_of_pairwise (le := fun x y : V3 => x.k < y.k) (fun x y _ _ h1 h2 => by omega) (strict_of hs hn2) (byKinds_sorted hn 10) (hp.trans (byKinds_all h0).symm)
theorem right_strict {ls : List V3} (h : rightV ls = true) : ls.Pairwise fun x y => x.k < y.k := by
  simp only [rightV, decide_eq_true_eq] at h
  rw [List.pairwise_iff_getElem]
  intro i j hi hj hij
  have key : ∀ m, i + m + 1 < ls.length → (ls.getD i v0).k < (ls.getD (i + m + 1) v0).k := by
    intro m
    induction m with
    | zero => intro hm; simpa using (h (i + 1) hm).2 (by omega)
    | succ m ih =>
      intro hm
      have h1 := ih (by omega)
      have h2 := (h (i + (m + 1) + 1) hm).2 (by omega)
      rw [show i + (m + 1) + 1 - 1 = i + m + 1 by omega] at h2
      omega
  have h2 := key (j - i - 1) (by omega)
  rw [show i + (j - i - 1) + 1 = j by omega] at h2
  simpa [List.getD_eq_getElem?_getD, hi, hj] using h2
theorem right_of {ls : List V3} (h0 : firstBad ls = 0) (hs : ls.Pairwise fun x y => x.k < y.k) : rightV ls = true := by
  simp only [rightV, decide_eq_true_eq]
  intro j hj
  have hm : ls.getD j v0 ∈ ls := by simp [List.getD_eq_getElem?_getD, hj]
  refine ⟨firstBad_all h0 _ hm, fun hj0 => ?_⟩
  have hj' : j - 1 < ls.length := by omega
  have h1 := (List.pairwise_iff_getElem.1 hs) (j - 1) j hj' hj (by omega)
  simpa [List.getD_eq_getElem?_getD, hj, hj'] using h1
theorem firstBad_perm {l ls : List V3} (hp : ls.Perm l) (h0 : firstBad l = 0) : firstBad ls = 0 := by
  have key : ∀ r : List V3, (∀ v ∈ r, vcheck v = 0) → firstBad r = 0 := by
    intro r
    induction r with
    | nil => intro _; rfl
    | cons x r ih => intro h; simp only [firstBad]; rw [if_pos (h x (by simp))]; exact ih fun v hv => h v (by simp [hv])
  exact key ls fun v hv => firstBad_all h0 v (hp.mem_iff.1 hv)
def findV (l : List V3) (k : Int) : V3 := (l.find? fun v => v.k == k).getD v0
def hasV (l : List V3) (k : Int) : Bool := (l.find? fun v => v.k == k).isSome
theorem find_next {l : List V3} {i : Nat} {k : Int} {d : V3} (h : (l.drop i).find? (fun v => v.k == k) = l.find? fun v => v.k == k) (hi : i < l.length) (hk : ¬ (l.getD i d).k = k) : (l.drop (i + 1)).find? (fun v => v.k == k) = l.find? fun v => v.k == k := by
  rw [drop_cons (d := d) hi, List.find?_cons] at h
  have : ((l.getD i d).k == k) = false := by simpa using hk
  rw [this] at h
  exact h
def upTo (l : List V3) (kk i : Int) : List V3 := byKinds l kk.toNat ++ (l.take i.toNat).filter fun v => v.k == kk
def cntTo (l : List V3) (kk i : Int) : Int := ((l.take i.toNat).filter fun v => v.k == kk).length
theorem byKinds_len (l : List V3) (n : Nat) : (byKinds l n).length ≤ l.length := by
  rw [(byKinds_perm l n).length_eq]
  exact List.length_filter_le ..
theorem upTo_len (l : List V3) (kk i : Int) : (upTo l kk i).length ≤ l.length + l.length := by
  have h1 := byKinds_len l kk.toNat
  have h2 : ((l.take i.toNat).filter fun v => v.k == kk).length ≤ (l.take i.toNat).length := List.length_filter_le ..
  rw [List.length_take] at h2
  simp only [upTo, List.length_append]
  omega
theorem cntTo_le (l : List V3) (kk i : Int) : 0 ≤ cntTo l kk i ∧ cntTo l kk i ≤ l.length := by
  have h2 : ((l.take i.toNat).filter fun v => v.k == kk).length ≤ (l.take i.toNat).length := List.length_filter_le ..
  rw [List.length_take] at h2
  simp only [cntTo]
  omega
theorem take_next {l : List V3} {i : Int} {d : V3} (h : 0 ≤ i ∧ i < (l.length : Int)) : l.take (i + 1).toNat = l.take i.toNat ++ [l.getD i.toNat d] := by
  rw [show (i + 1).toNat = i.toNat + 1 by omega]
  exact take_snoc (by omega)
theorem upTo_in {l : List V3} {kk i : Int} {d : V3} (h : 0 ≤ i ∧ i < (l.length : Int)) (hk : (l.getD i.toNat d).k = kk) : upTo l kk (i + 1) = upTo l kk i ++ [l.getD i.toNat d] := by
  have hb : ((l.getD i.toNat d).k == kk) = true := by simpa using hk
  unfold upTo
  rw [take_next (d := d) h, List.filter_append, List.filter_cons, if_pos hb, List.filter_nil, List.append_assoc]
theorem upTo_out {l : List V3} {kk i : Int} {d : V3} (h : 0 ≤ i ∧ i < (l.length : Int)) (hk : ¬ (l.getD i.toNat d).k = kk) : upTo l kk (i + 1) = upTo l kk i := by
  have hb : ¬ ((l.getD i.toNat d).k == kk) = true := by simpa using hk
  unfold upTo
  rw [take_next (d := d) h, List.filter_append, List.filter_cons, if_neg hb, List.filter_nil, List.append_nil]
theorem cntTo_in {l : List V3} {kk i : Int} {d : V3} (h : 0 ≤ i ∧ i < (l.length : Int)) (hk : (l.getD i.toNat d).k = kk) : cntTo l kk (i + 1) = cntTo l kk i + 1 := by
  have hb : ((l.getD i.toNat d).k == kk) = true := by simpa using hk
  unfold cntTo
  rw [take_next (d := d) h, List.filter_append, List.filter_cons, if_pos hb, List.filter_nil, List.length_append, List.length_singleton]
  omega
theorem cntTo_out {l : List V3} {kk i : Int} {d : V3} (h : 0 ≤ i ∧ i < (l.length : Int)) (hk : ¬ (l.getD i.toNat d).k = kk) : cntTo l kk (i + 1) = cntTo l kk i := by
  have hb : ¬ ((l.getD i.toNat d).k == kk) = true := by simpa using hk
  unfold cntTo
  rw [take_next (d := d) h, List.filter_append, List.filter_cons, if_neg hb, List.filter_nil, List.append_nil]
theorem upTo_zero (l : List V3) (kk : Int) : upTo l kk 0 = byKinds l kk.toNat := by simp [upTo]
theorem upTo_end {l : List V3} {kk i : Int} (h : (l.length : Int) ≤ i) (hk : 0 ≤ kk) : byKinds l (kk + 1).toNat = upTo l kk i := by
  rw [show (kk + 1).toNat = kk.toNat + 1 by omega, byKinds_succ]
  unfold upTo
  rw [List.take_of_length_le (by omega), show ((kk.toNat : Nat) : Int) = kk by omega]
theorem cntTo_end {l : List V3} {kk i : Int} (h : (l.length : Int) ≤ i) : cntTo l kk i = ((l.map (·.k)).count kk : Nat) := by
  unfold cntTo
  rw [List.take_of_length_le (by omega)]
  congr 1
  rw [List.count_eq_countP, List.countP_map, List.countP_eq_length_filter]
  rfl
theorem count_one {l : List V3} (hn : noDup l = true) (kk : Int) : (l.map (·.k)).count kk ≤ 1 := List.nodup_iff_count.1 (noDup_iff.1 hn) kk
theorem noDup_of {l : List V3} (h0 : firstBad l = 0) (h : ∀ kk : Int, 0 ≤ kk → kk < 10 → (l.map (·.k)).count kk ≤ 1) : noDup l = true := by
  rw [noDup_iff, List.nodup_iff_count]
  intro kk
  by_cases hk : kk ∈ l.map (·.k)
  · obtain ⟨v, hv, rfl⟩ := List.mem_map.1 hk
    have := kinds_of h0 v hv
    exact h _ this.1 (by omega)
  · rw [List.count_eq_zero_of_not_mem hk]
    omega
theorem list_eq_getD {α : Type} {l m : List α} (d : α) (hn : l.length = m.length) (h : ∀ j, j < l.length → l.getD j d = m.getD j d) : l = m := by
  refine List.ext_getElem hn fun i h1 h2 => ?_
  have := h i h1
  simpa [List.getD_eq_getElem?_getD, h1, h2] using this
def sameL {α : Type} [DecidableEq α] (l m : List α) : Bool := decide (l = m)
section
variable {α : Type} [DecidableEq α] {l m : List α}
theorem sameL_len (h : ¬ (l.length : Int) = (m.length : Int)) : sameL l m = false := by
  simp only [sameL, decide_eq_false_iff_not]
  rintro rfl
  exact h rfl
theorem sameL_at {j : Nat} (d : α) (h : l.getD j d ≠ m.getD j d) : sameL l m = false := by
  simp only [sameL, decide_eq_false_iff_not]
  rintro rfl
  exact h rfl
theorem sameL_all (d : α) (hn : l.length = m.length) (h : ∀ j, j < l.length → l.getD j d = m.getD j d) : sameL l m = true := by
  simp only [sameL, decide_eq_true_eq]
  exact list_eq_getD _ hn h
end
theorem same_next {α : Type} {l m : List α} {i : Int} (d : α) (h0 : 0 ≤ i) (h : ∀ j, j < i.toNat → l.getD j d = m.getD j d) (hi : l.getD i.toNat d = m.getD i.toNat d) : ∀ j, j < (i + 1).toNat → l.getD j d = m.getD j d := fun j hj => by
  rcases Nat.lt_or_ge j i.toNat with h1 | h1
  · exact h j h1
  · obtain rfl : j = i.toNat := by omega
    exact hi
theorem v3_eq {x y : V3} (h : x.k = y.k ∧ x.a = y.a ∧ x.b = y.b) : x = y := by
  cases x; cases y; simp_all
theorem v3_ne {x y : V3} (h : ¬ (x.k = y.k ∧ x.a = y.a ∧ x.b = y.b)) : x ≠ y := by
  rintro rfl; exact h ⟨rfl, rfl, rfl⟩
theorem rright_eq {l : List V3} (h0 : firstBad l = 0) (hn : noDup l = true) : sameL l (byKinds l 10) = rightV l := by
  rw [Bool.eq_iff_iff]
  simp only [sameL, decide_eq_true_eq]
  constructor
  · intro h
    have hs := byKinds_sorted (noDup_iff.1 hn) 10
    rw [← h] at hs
    exact right_of h0 hs
  · intro h
    exact sorted_eq (List.Perm.refl _) ((right_strict h).imp fun {x y} h => by omega) h0 hn
theorem rightV_bad {l : List V3} (h : firstBad l ≠ 0) : rightV l = false := by
  simp only [rightV, decide_eq_false_iff_not]
  intro hr
  apply h
  have key : ∀ r : List V3, (∀ v ∈ r, vcheck v = 0) → firstBad r = 0 := by
    intro r
    induction r with
    | nil => intro _; rfl
    | cons x r ih => intro h; simp only [firstBad]; rw [if_pos (h x (by simp))]; exact ih fun v hv => h v (by simp [hv])
  refine key l fun v hv => ?_
  obtain ⟨j, hj, rfl⟩ := List.getElem_of_mem hv
  have := (hr j hj).1
  simpa [List.getD_eq_getElem?_getD, hj] using this
theorem rightV_dup {l : List V3} (h : noDup l = false) : rightV l = false := by
  cases hr : rightV l with
  | false => rfl
  | true =>
    have h1 := right_strict hr
    have h2 : (l.map (·.k)).Nodup := by
      rw [List.Nodup, List.pairwise_map]
      exact h1.imp fun {x y} h => by omega
    rw [noDup_iff.2 h2] at h
    cases h
def bitN (k : Int) : Nat := 2 ^ k.toNat
def maskN (l : List V3) : Nat := l.foldl (fun m v => m ||| bitN v.k) 0
theorem bits_u64 : IntKind.u64.bits = 64 := rfl
theorem ofInt_nat {a : Nat} (ha : a < 2 ^ 64) : (BitVec.ofInt IntKind.u64.bits (a : Int)).toNat = a := by
  show (BitVec.ofInt 64 (a : Int)).toNat = a
  rw [BitVec.ofInt_natCast, BitVec.toNat_ofNat]
  exact Nat.mod_eq_of_lt ha
theorem wrap_nat {a : Nat} (ha : a < 2 ^ 64) : IntKind.u64.wrap (a : Int) = a := by
  rw [IntKind.wrap_u64]
  omega
theorem or_u64 {a b : Nat} (ha : a < 2 ^ 64) (hb : b < 2 ^ 64) :
    Value.int .u64 (IntKind.u64.wrap ((BitVec.ofInt IntKind.u64.bits (a : Int) ||| (BitVec.ofInt IntKind.u64.bits (b : Int)) : BitVec IntKind.u64.bits).toNat : Int)) = .int .u64 ((a ||| b : Nat) : Int) := by
  rw [BitVec.toNat_or, ofInt_nat ha, ofInt_nat hb, wrap_nat (Nat.or_lt_two_pow ha hb)]
theorem and_u64 {a b : Nat} (ha : a < 2 ^ 64) (hb : b < 2 ^ 64) :
    Value.int .u64 (IntKind.u64.wrap ((BitVec.ofInt IntKind.u64.bits (a : Int) &&& (BitVec.ofInt IntKind.u64.bits (b : Int)) : BitVec IntKind.u64.bits).toNat : Int)) = .int .u64 ((a &&& b : Nat) : Int) := by
  rw [BitVec.toNat_and, ofInt_nat ha, ofInt_nat hb, wrap_nat (Nat.lt_of_le_of_lt Nat.and_le_left ha)]
def lessN (a b : Nat) : Nat := a &&& (2 ^ 64 - 1 - b)
theorem andNot_u64 {a b : Nat} (ha : a < 2 ^ 64) (hb : b < 2 ^ 64) :
    Value.int .u64 (IntKind.u64.wrap ((BitVec.ofInt IntKind.u64.bits (a : Int) &&& ~~~(BitVec.ofInt IntKind.u64.bits (b : Int)) : BitVec IntKind.u64.bits).toNat : Int)) = .int .u64 ((lessN a b : Nat) : Int) := by
  rw [BitVec.toNat_and, BitVec.toNat_not, ofInt_nat ha, ofInt_nat hb, bits_u64, wrap_nat (Nat.lt_of_le_of_lt Nat.and_le_left ha)]
  rfl
theorem bitN_lt {k : Int} (h : 0 ≤ k ∧ k ≤ 9) : bitN k < 2 ^ 10 := Nat.pow_lt_pow_right (by omega) (by omega)
theorem bitN_lt' {k : Int} (h : 0 ≤ k ∧ k ≤ 9) : bitN k < 2 ^ 64 := Nat.lt_of_lt_of_le (bitN_lt h) (by decide)
theorem bitN_pos (k : Int) : 0 < bitN k := Nat.two_pow_pos _
theorem maskN_snoc (l : List V3) (v : V3) : maskN (l ++ [v]) = maskN l ||| bitN v.k := by simp [maskN]
theorem maskN_lt {l : List V3} : (∀ v ∈ l, 0 ≤ v.k ∧ v.k ≤ 9) → maskN l < 2 ^ 10 := by
  refine snoc_ind (m := fun l => (∀ v ∈ l, 0 ≤ v.k ∧ v.k ≤ 9) → maskN l < 2 ^ 10) (fun _ => by decide) (fun l v ih h => ?_) l
  rw [maskN_snoc]
  exact Nat.or_lt_two_pow (ih fun u hu => h u (by simp [hu])) (bitN_lt (h v (by simp)))
theorem maskN_next {l : List V3} {i : Int} (h : 0 ≤ i ∧ i < (l.length : Int)) : maskN (l.take (i + 1).toNat) = maskN (l.take i.toNat) ||| bitN (l.getD i.toNat ⟨0, 0, 0⟩).k := by
  rw [show (i + 1).toNat = i.toNat + 1 by omega, take_snoc (d := ⟨0, 0, 0⟩) (by omega), maskN_snoc]
theorem kinds_take {l : List V3} (h : ∀ v ∈ l, 0 ≤ v.k ∧ v.k ≤ 9) (n : Nat) : ∀ v ∈ l.take n, 0 ≤ v.k ∧ v.k ≤ 9 := fun v hv => h v (List.mem_of_mem_take hv)
theorem kinds_at {l : List V3} (h : ∀ v ∈ l, 0 ≤ v.k ∧ v.k ≤ 9) {i : Int} (hi : 0 ≤ i ∧ i < (l.length : Int)) : 0 ≤ (l.getD i.toNat ⟨0, 0, 0⟩).k ∧ (l.getD i.toNat ⟨0, 0, 0⟩).k ≤ 9 := by
  refine h _ ?_
  have hj : i.toNat < l.length := by omega
  simp [List.getD_eq_getElem?_getD, hj]
theorem maskN_lt64 {l : List V3} (h : ∀ v ∈ l, 0 ≤ v.k ∧ v.k ≤ 9) : maskN l < 2 ^ 64 := Nat.lt_of_lt_of_le (maskN_lt h) (by decide)
theorem maskN_bit (l : List V3) (i : Nat) : (maskN l).testBit i = l.any fun v => v.k.toNat == i := by
  refine snoc_ind (m := fun l => (maskN l).testBit i = l.any fun v => v.k.toNat == i) (by simp [maskN]) (fun l v ih => ?_) l
  rw [maskN_snoc, Nat.testBit_or, ih, List.any_append]
  simp only [List.any_cons, List.any_nil, Bool.or_false, bitN, Nat.testBit_two_pow]
  congr 1
def dropV (l : List V3) (k : Int) : List V3 := dropP (fun v => v.k == k) l
theorem mem_dropV {l : List V3} {kk : Int} {v : V3} : v ∈ dropV l kk ↔ v ∈ l ∧ v.k ≠ kk := by simp [dropV, dropP]
def putL (l : List V3) (v : V3) : List V3 := dropV l v.k ++ [v]
theorem firstBad_of {r : List V3} (h : ∀ v ∈ r, vcheck v = 0) : firstBad r = 0 := by
  induction r with
  | nil => rfl
  | cons x r ih => simp only [firstBad]; rw [if_pos (h x (by simp))]; exact ih fun v hv => h v (by simp [hv])
theorem putL_bad {l : List V3} {v : V3} (h0 : firstBad l = 0) (hv : vcheck v = 0) : firstBad (putL l v) = 0 := by
  refine firstBad_of fun u hu => ?_
  simp only [putL, List.mem_append, List.mem_singleton] at hu
  rcases hu with hu | rfl
  · exact firstBad_all h0 u (mem_dropV.1 hu).1
  · exact hv
theorem dropV_nd {l : List V3} (hn : noDup l = true) (kk : Int) : noDup (dropV l kk) = true := by
  rw [noDup_iff] at hn ⊢
  exact hn.sublist ((List.filter_sublist (l := l)).map _)
theorem putL_nd {l : List V3} {v : V3} (hn : noDup l = true) : noDup (putL l v) = true := by
  have h1 := noDup_iff.1 (dropV_nd hn v.k)
  rw [noDup_iff]
  simp only [putL, List.map_append, List.map_cons, List.map_nil]
  rw [List.nodup_append]
  refine ⟨h1, by simp, fun a ha b hb => ?_⟩
  obtain ⟨u, hu, rfl⟩ := List.mem_map.1 ha
  obtain rfl : b = v.k := by simpa using hb
  exact (mem_dropV.1 hu).2
theorem rightV_parts {l : List V3} (h : rightV l = true) : firstBad l = 0 ∧ noDup l = true := by
  have h1 := right_strict h
  have h2 : firstBad l = 0 := by
    by_cases h0 : firstBad l = 0
    · exact h0
    · rw [rightV_bad h0] at h; cases h
  refine ⟨h2, noDup_iff.2 ?_⟩
  rw [List.Nodup, List.pairwise_map]
  exact h1.imp fun {x y} h => by omega
section
variable {l : List V3} {v : V3} (hr : rightV l = true) (hv : vcheck v = 0)
include hr hv
theorem put_mem (u : V3) : u ∈ byKinds (putL l v) 10 ↔ u ∈ dropV l v.k ∨ u = v := by
  have h1 := rightV_parts hr
  rw [(byKinds_all (putL_bad h1.1 hv)).mem_iff]
  simp [putL]
theorem put_strict : (byKinds (putL l v) 10).Pairwise fun x y => x.k < y.k := byKinds_sorted (noDup_iff.1 (putL_nd (rightV_parts hr).2)) 10
theorem put_bad : firstBad (byKinds (putL l v) 10) = 0 := firstBad_perm (byKinds_all (putL_bad (rightV_parts hr).1 hv)) (putL_bad (rightV_parts hr).1 hv)
theorem put_right : rightV (byKinds (putL l v) 10) = true := right_of (put_bad hr hv) (put_strict hr hv)
theorem any_mask {r : List V3} {i : Nat} : (r.any fun u => u.k.toNat == i) = true ↔ ∃ u ∈ r, u.k.toNat = i := by simp
theorem put_mask : maskN (byKinds (putL l v) 10) = maskN l ||| bitN v.k := by
  refine Nat.eq_of_testBit_eq fun i => ?_
  rw [Nat.testBit_or, maskN_bit, maskN_bit, bitN, Nat.testBit_two_pow, Bool.eq_iff_iff, Bool.or_eq_true, any_mask hr hv, any_mask hr hv, decide_eq_true_eq]
  constructor
  · rintro ⟨u, hu, hi⟩
    rcases (put_mem hr hv u).1 hu with h2 | rfl
    · exact .inl ⟨u, (mem_dropV.1 h2).1, hi⟩
    · exact .inr hi
  · rintro (⟨u, hu, hi⟩ | hi)
    · by_cases hk : u.k = v.k
      · exact ⟨v, (put_mem hr hv v).2 (.inr rfl), by rw [← hk]; exact hi⟩
      · exact ⟨u, (put_mem hr hv u).2 (.inl (mem_dropV.2 ⟨hu, hk⟩)), hi⟩
    · exact ⟨v, (put_mem hr hv v).2 (.inr rfl), hi⟩
end
def okK (k : Int) : Bool := decide (0 ≤ k ∧ k ≤ 9)
def kindsOk (l : List Int) : Bool := l.all okK
def maskI (l : List Int) : Nat := l.foldl (fun m k => m ||| bitN k) 0
theorem maskI_snoc (l : List Int) (k : Int) : maskI (l ++ [k]) = maskI l ||| bitN k := by simp [maskI]
theorem maskI_lt {l : List Int} : kindsOk l = true → maskI l < 2 ^ 10 := by
  refine snoc_ind (m := fun l => kindsOk l = true → maskI l < 2 ^ 10) (fun _ => by decide) (fun l k ih h => ?_) l
  unfold kindsOk at h ih
  rw [List.all_append, Bool.and_eq_true, List.all_cons, List.all_nil, Bool.and_true] at h
  rw [maskI_snoc]
  exact Nat.or_lt_two_pow (ih h.1) (bitN_lt (of_decide_eq_true h.2))
theorem maskI_lt64 {l : List Int} (h : kindsOk l = true) : maskI l < 2 ^ 64 := Nat.lt_of_lt_of_le (maskI_lt h) (by decide)
def fitsN (b a c : Nat) : Bool := lessN a b == 0 && b &&& c == 0
end Go.Px
namespace Go.Px
set_option linter.unusedVariables false
set_option linter.unusedSimpArgs false
set_option linter.unusedSectionVars false
abbrev Rw := List V3
abbrev Ey := Hd × Rw
abbrev TL := List (Int × List Ey)
abbrev PL := List (Hd × Int × Int)
def mkI (r : Rw) : Int := (maskN r : Nat)
def ltE (x y : Ey) : Bool := ltH x.1 y.1
section
variable {κ ν : Type} [DecidableEq κ] {L : List (κ × ν)} {x y : κ} {v : ν}
theorem kmem_of (h : getK L x = some v) : (x, v) ∈ L := by
  unfold getK at h
  obtain ⟨p, hp, rfl⟩ := Option.map_eq_some_iff.1 h
  have e : p.1 = x := by simpa using List.find?_some hp
  rw [← e]; exact List.mem_of_find?_eq_some hp
theorem kget (hn : (L.map (·.1)).Nodup) : getK L x = some v ↔ (x, v) ∈ L := by
  refine ⟨kmem_of, fun h => ?_⟩
  induction L with
  | nil => cases h
  | cons p r ih =>
    unfold getK
    rw [List.find?_cons]
    rw [List.map_cons, List.nodup_cons] at hn
    by_cases e : p.1 = x
    · rw [decide_eq_true e]
      rcases List.mem_cons.1 h with rfl | h
      · rfl
      · exact absurd (e ▸ List.mem_map.2 ⟨_, h, rfl⟩) hn.1
    · rw [decide_eq_false e]
      rcases List.mem_cons.1 h with rfl | h
      · exact absurd rfl e
      · exact ih hn.2 h
theorem kmem_put (hx : hasK L x = true) {z : κ × ν} : z ∈ putK L x v ↔ z = (x, v) ∨ (z ∈ L ∧ ¬ z.1 = x) := by
  unfold putK
  rw [if_pos hx, List.mem_map]
  constructor
  · rintro ⟨p, hp, rfl⟩
    by_cases e : p.1 = x
    · rw [if_pos e]; exact .inl rfl
    · rw [if_neg e]; exact .inr ⟨hp, e⟩
  · rintro (rfl | ⟨hz, hn⟩)
    · obtain ⟨p, hp, e⟩ := List.mem_map.1 (hasK_iff.1 hx)
      exact ⟨p, hp, by rw [if_pos e]⟩
    · exact ⟨z, hz, by rw [if_neg hn]⟩
theorem kmem_new (hx : hasK L x = false) {z : κ × ν} : z ∈ putK L x v ↔ z = (x, v) ∨ (z ∈ L ∧ ¬ z.1 = x) := by
  unfold putK
  rw [hx, if_neg (by simp), List.mem_append, List.mem_singleton]
  constructor
  · rintro (h | h)
    · exact .inr ⟨h, fun e => by rw [← Bool.not_eq_true] at hx; exact hx (hasK_iff.2 (List.mem_map.2 ⟨z, h, e⟩))⟩
    · exact .inl h
  · rintro (h | h)
    · exact .inr h
    · exact .inl h.1
theorem kmem_putA {z : κ × ν} : z ∈ putK L x v ↔ z = (x, v) ∨ (z ∈ L ∧ ¬ z.1 = x) := by
  cases hx : hasK L x with
  | true => exact kmem_put hx
  | false => exact kmem_new hx
theorem knd_put (hn : (L.map (·.1)).Nodup) : ((putK L x v).map (·.1)).Nodup := putK_nd hn x v
theorem khas : hasK L x = true ↔ ∃ v, getK L x = some v := by
  unfold hasK getK
  rw [List.any_eq_true]
  constructor
  · rintro ⟨p, hp, e⟩
    cases hf : L.find? fun p => decide (p.1 = x) with
    | none => exact absurd e (List.find?_eq_none.1 hf p hp)
    | some q => exact ⟨q.2, rfl⟩
  · rintro ⟨v, hv⟩
    obtain ⟨p, hp, _⟩ := Option.map_eq_some_iff.1 hv
    have q := List.find?_some hp
    exact ⟨p, List.mem_of_find?_eq_some hp, q⟩
theorem khasF : hasK L x = false ↔ getK L x = none := by
  rw [← Bool.not_eq_true, khas]
  cases getK L x <;> simp
end
structure SInv (T : TL) (P : PL) (R : List Ey) : Prop where
  tnd : (T.map (·.1)).Nodup
  pnd : (P.map (·.1)).Nodup
  ris : Rises ltE R
  ne : ∀ m es, (m, es) ∈ T → es ≠ []
  mask : ∀ m es, (m, es) ∈ T → ∀ e ∈ es, mkI e.2 = m
  row : ∀ e ∈ R, rightV e.2 = true
  at_ : ∀ h m i, (h, m, i) ∈ P ↔ ∃ es r, (m, es) ∈ T ∧ 0 ≤ i ∧ es[i.toNat]? = some (h, r)
  mem : ∀ e, e ∈ R ↔ ∃ m es, (m, es) ∈ T ∧ e ∈ es
theorem SInv.nil : SInv [] [] [] :=
  ⟨.nil, .nil, .nil, (fun _ _ h => by cases h), (fun _ _ h => by cases h), (fun _ h => by cases h), (fun h m i => ⟨(fun q => by cases q), fun ⟨_, _, q, _⟩ => by cases q⟩), fun e => ⟨(fun q => by cases q), fun ⟨_, _, q, _⟩ => by cases q⟩⟩
def insR (R : List Ey) (e : Ey) : List Ey := R.filter (fun y => ltE y e) ++ e :: R.filter (fun y => !ltE y e)
def delR (R : List Ey) (h : Hd) : List Ey := R.filter fun e => !decide (e.1 = h)
def setR (R : List Ey) (h : Hd) (r : Rw) : List Ey := R.map fun e => if e.1 = h then (h, r) else e
theorem mem_insR {R : List Ey} {e x : Ey} : x ∈ insR R e ↔ x ∈ R ∨ x = e := by
  unfold insR
  rw [List.mem_append, List.mem_cons, List.mem_filter, List.mem_filter]
  constructor
  · rintro (h | h | h)
    · exact .inl h.1
    · exact .inr h
    · exact .inl h.1
  · rintro (h | h)
    · cases hl : ltE x e
      · exact .inr (.inr ⟨h, rfl⟩)
      · exact .inl ⟨h, rfl⟩
    · exact .inr (.inl h)
theorem insR_len (R : List Ey) (e : Ey) : (insR R e).length = R.length + 1 := by
  unfold insR
  rw [List.length_append, List.length_cons]
  have : ∀ l : List Ey, (l.filter fun y => ltE y e).length + (l.filter fun y => !ltE y e).length = l.length := fun l => by
    induction l with
    | nil => rfl
    | cons y r ih => simp only [List.filter_cons, List.length_cons]; cases ltE y e <;> simp <;> omega
  have := this R; omega
theorem insR_ris {R : List Ey} {e : Ey} (h : Rises ltE R) (hn : ∀ x ∈ R, x.1 ≠ e.1) : Rises ltE (insR R e) := by
  unfold insR Rises
  rw [List.pairwise_append]
  refine ⟨h.filter _, ?_, fun x hx y hy => ?_⟩
  · rw [List.pairwise_cons]
    refine ⟨fun y hy => ?_, h.filter _⟩
    obtain ⟨q1, q2⟩ := List.mem_filter.1 hy
    rcases ordH.tri e.1 y.1 with h1 | h1 | h1
    · exact h1
    · exact absurd h1.symm (hn y q1)
    · unfold ltE at q2; rw [h1] at q2; cases q2
  · obtain ⟨q1, q2⟩ := List.mem_filter.1 hx
    rcases List.mem_cons.1 hy with rfl | hy
    · exact q2
    · obtain ⟨q3, q4⟩ := List.mem_filter.1 hy
      rcases ordH.tri e.1 y.1 with h1 | h1 | h1
      · exact ordH.tr _ _ _ q2 h1
      · exact absurd h1.symm (hn y q3)
      · unfold ltE at q4; rw [h1] at q4; cases q4
section
variable {T : TL} {P : PL} {R : List Ey} {h : Hd} {r : Rw} {m i : Int} {es : List Ey}
theorem SInv.key (s : SInv T P R) {a b : Ey} (ha : a ∈ R) (hb : b ∈ R) (e : a.1 = b.1) : a = b := by
  have key : ∀ l : List Ey, Rises ltE l → a ∈ l → b ∈ l → a = b := fun l hl ha hb => by
    induction l with
    | nil => cases ha
    | cons y r ih =>
      obtain ⟨q1, q2⟩ := List.pairwise_cons.1 hl
      rcases List.mem_cons.1 ha with h1 | h1 <;> rcases List.mem_cons.1 hb with h2 | h2
      · rw [h1, h2]
      · have := q1 b h2; unfold ltE at this; rw [← h1, e, ordH.irr] at this; cases this
      · have := q1 a h1; unfold ltE at this; rw [← h2, e, ordH.irr] at this; cases this
      · exact ih q2 h1 h2
  exact key R s.ris ha hb
theorem SInv.rnd (s : SInv T P R) : (R.map (·.1)).Nodup := by
  have : (R.map (·.1)).Pairwise fun x y => ltH x y = true := List.Pairwise.map _ (fun _ _ h => h) s.ris
  exact Rises.nodup ordH this
theorem SInv.placed (s : SInv T P R) (hR : (h, r) ∈ R) : ∃ m i es, (h, m, i) ∈ P ∧ (m, es) ∈ T ∧ 0 ≤ i ∧ es[i.toNat]? = some (h, r) := by
  obtain ⟨m, es, h1, h2⟩ := (s.mem _).1 hR
  obtain ⟨k, hk⟩ := List.getElem?_of_mem h2
  exact ⟨m, (k : Int), es, (s.at_ _ _ _).2 ⟨es, r, h1, Int.natCast_nonneg _, by simpa using hk⟩, h1, Int.natCast_nonneg _, by simpa using hk⟩
theorem SInv.has (s : SInv T P R) : hasK P h = hasK R h := by
  rw [Bool.eq_iff_iff, hasK_iff, hasK_iff, List.mem_map, List.mem_map]
  constructor
  · rintro ⟨⟨h', m, i⟩, q, rfl⟩
    obtain ⟨es, r, h1, h2, h3⟩ := (s.at_ _ _ _).1 q
    exact ⟨(h', r), (s.mem _).2 ⟨m, es, h1, List.mem_of_getElem? h3⟩, rfl⟩
  · rintro ⟨⟨h', r⟩, q, rfl⟩
    obtain ⟨m, i, es, h1, _⟩ := s.placed q
    exact ⟨_, h1, rfl⟩
theorem SInv.find (s : SInv T P R) (hP : getK P h = some (m, i)) : ∃ es r, getK T m = some es ∧ 0 ≤ i ∧ es[i.toNat]? = some (h, r) ∧ (h, r) ∈ R ∧ getK R h = some r ∧ mkI r = m ∧ rightV r = true := by
  obtain ⟨es, r, h1, h2, h3⟩ := (s.at_ _ _ _).1 (kmem_of hP)
  have h4 : (h, r) ∈ R := (s.mem _).2 ⟨m, es, h1, List.mem_of_getElem? h3⟩
  exact ⟨es, r, (kget s.tnd).2 h1, h2, h3, h4, (kget s.rnd).2 h4, s.mask m es h1 _ (List.mem_of_getElem? h3), s.row _ h4⟩
theorem SInv.one (s : SInv T P R) {m' j : Int} {es' : List Ey} {r' : Rw} (h1 : (m, es) ∈ T) (h2 : 0 ≤ i) (h3 : es[i.toNat]? = some (h, r)) (h1' : (m', es') ∈ T) (h2' : 0 ≤ j) (h3' : es'[j.toNat]? = some (h, r')) : m = m' ∧ i = j ∧ es = es' ∧ r = r' := by
  have q1 := (kget s.pnd).2 ((s.at_ _ _ _).2 ⟨es, r, h1, h2, h3⟩)
  have q2 := (kget s.pnd).2 ((s.at_ _ _ _).2 ⟨es', r', h1', h2', h3'⟩)
  rw [q1] at q2
  simp only [Option.some.injEq, Prod.mk.injEq] at q2
  obtain ⟨rfl, rfl⟩ := q2
  have q3 := (kget s.tnd).2 h1
  rw [(kget s.tnd).2 h1'] at q3
  obtain rfl := Option.some.inj q3
  rw [h3] at h3'
  simp only [Option.some.injEq, Prod.mk.injEq, true_and] at h3'
  exact ⟨rfl, rfl, rfl, h3'⟩
theorem nodup_lens {α : Type} {a b : List α} (ha : a.Nodup) (hb : b.Nodup) (h : ∀ x, x ∈ a ↔ x ∈ b) : a.length = b.length := ((List.perm_ext_iff_of_nodup ha hb).2 h).length_eq
theorem SInv.count (s : SInv T P R) : P.length = R.length := by
  have := nodup_lens s.pnd s.rnd fun x => by rw [← hasK_iff, ← hasK_iff, s.has]
  simpa using this
def masksR (R : List Ey) : List Int := ((List.range 1024).map fun m : Nat => (m : Int)).filter fun m => R.any fun e => decide (mkI e.2 = m)
theorem mkI_bd {r : Rw} (hr : rightV r = true) : 0 ≤ mkI r ∧ mkI r < 1024 := by
  have := maskN_lt (l := r) (kinds_of (rightV_parts hr).1)
  unfold mkI; omega
theorem mem_masksR (hr : ∀ e ∈ R, rightV e.2 = true) : m ∈ masksR R ↔ ∃ e ∈ R, mkI e.2 = m := by
  unfold masksR
  simp only [List.mem_filter, List.mem_map, List.mem_range, List.any_eq_true, decide_eq_true_eq]
  constructor
  · exact fun h => h.2
  · rintro ⟨e, he, rfl⟩
    have := mkI_bd (hr e he)
    exact ⟨⟨(mkI e.2).toNat, by omega, by omega⟩, e, he, rfl⟩
theorem masksR_nd (R : List Ey) : (masksR R).Nodup := List.Pairwise.filter _ (List.Pairwise.map _ (fun a b h e => h (Int.ofNat.inj e)) (List.nodup_range (n := 1024)))
theorem SInv.hasT (s : SInv T P R) (m : Int) : hasK T m = true ↔ ∃ e ∈ R, mkI e.2 = m := by
  rw [hasK_iff, List.mem_map]
  constructor
  · rintro ⟨⟨m, es⟩, q, rfl⟩
    obtain ⟨e, r, h⟩ := List.exists_cons_of_ne_nil (s.ne _ _ q)
    exact ⟨e, (s.mem _).2 ⟨m, es, q, h ▸ List.mem_cons_self ..⟩, s.mask m es q e (h ▸ List.mem_cons_self ..)⟩
  · rintro ⟨e, he, rfl⟩
    obtain ⟨m, es, h1, h2⟩ := (s.mem _).1 he
    exact ⟨_, h1, (s.mask m es h1 e h2).symm⟩
theorem SInv.tables (s : SInv T P R) : T.length = (masksR R).length := by
  have := nodup_lens s.tnd (masksR_nd R) fun x => by rw [← hasK_iff, s.hasT, mem_masksR s.row]
  simpa using this
theorem SInv.fresh (s : SInv T P R) (hn : hasK R h = false) : ∀ m es, (m, es) ∈ T → ∀ e ∈ es, e.1 ≠ h := fun m es h1 e h2 q => by
  have : (e : Ey) ∈ R := (s.mem _).2 ⟨m, es, h1, h2⟩
  rw [← Bool.not_eq_true, hasK_iff] at hn
  exact hn (List.mem_map.2 ⟨e, this, q⟩)
def rowsAt (T : TL) (m : Int) : List Ey := (getK T m).getD []
theorem rowsAt_in (hn : (T.map (·.1)).Nodup) (hm : (m, es) ∈ T) : rowsAt T m = es := by unfold rowsAt; rw [(kget hn).2 hm]; rfl
theorem rowsAt_of {e : Ey} (he : e ∈ rowsAt T m) : (m, rowsAt T m) ∈ T := by
  unfold rowsAt at he ⊢
  cases hg : getK T m with
  | none => rw [hg] at he; cases he
  | some es => exact kmem_of hg
theorem SInv.ins (s : SInv T P R) (hn : hasK R h = false) (hr : rightV r = true) : SInv (putK T (mkI r) (rowsAt T (mkI r) ++ [(h, r)])) (putK P h (mkI r, ((rowsAt T (mkI r)).length : Int))) (insR R (h, r)) := by
  have hT : ∀ {m' es'}, (m', es') ∈ putK T (mkI r) (rowsAt T (mkI r) ++ [(h, r)]) ↔ (m' = mkI r ∧ es' = rowsAt T (mkI r) ++ [(h, r)]) ∨ ((m', es') ∈ T ∧ ¬ m' = mkI r) := fun {m' es'} => by
    rw [kmem_putA]; simp only [Prod.mk.injEq]
  have hfr := s.fresh hn
  refine ⟨knd_put s.tnd, knd_put s.pnd, insR_ris s.ris fun x hx e => ?_, fun m es q => ?_, fun m es q e he => ?_, fun e he => ?_, fun h' m i => ?_, fun e => ?_⟩
  · rw [← Bool.not_eq_true, hasK_iff] at hn
    exact hn (List.mem_map.2 ⟨x, hx, e⟩)
  · rcases hT.1 q with ⟨_, rfl⟩ | ⟨q, _⟩
    · simp
    · exact s.ne m es q
  · rcases hT.1 q with ⟨rfl, rfl⟩ | ⟨q, _⟩
    · rcases List.mem_append.1 he with he | he
      · exact s.mask _ _ (rowsAt_of he) e he
      · obtain rfl := List.mem_singleton.1 he; rfl
    · exact s.mask m es q e he
  · rcases mem_insR.1 he with he | rfl
    · exact s.row e he
    · exact hr
  · rw [kmem_putA]
    simp only [Prod.mk.injEq]
    constructor
    · rintro (⟨rfl, rfl, rfl⟩ | ⟨q, hne⟩)
      · exact ⟨_, r, hT.2 (.inl ⟨rfl, rfl⟩), Int.natCast_nonneg _, by simp⟩
      · obtain ⟨es, r', h1, h2, h3⟩ := (s.at_ _ _ _).1 q
        by_cases e : m = mkI r
        · subst e
          refine ⟨_, r', hT.2 (.inl ⟨rfl, rfl⟩), h2, ?_⟩
          rw [rowsAt_in s.tnd h1, List.getElem?_append_left (List.getElem?_eq_some_iff.1 h3).1]; exact h3
        · exact ⟨es, r', hT.2 (.inr ⟨h1, e⟩), h2, h3⟩
    · rintro ⟨es, r', q, h2, h3⟩
      rcases hT.1 q with ⟨rfl, rfl⟩ | ⟨q, hne⟩
      · rcases Nat.lt_or_ge i.toNat (rowsAt T (mkI r)).length with hi | hi
        · rw [List.getElem?_append_left hi] at h3
          have h4 := rowsAt_of (List.mem_of_getElem? h3)
          exact .inr ⟨(s.at_ _ _ _).2 ⟨_, r', h4, h2, h3⟩, hfr _ _ h4 _ (List.mem_of_getElem? h3)⟩
        · rw [List.getElem?_append_right hi] at h3
          have h5 : i.toNat - (rowsAt T (mkI r)).length = 0 := by
            rcases Nat.eq_zero_or_pos (i.toNat - (rowsAt T (mkI r)).length) with h | h
            · exact h
            · rw [List.getElem?_eq_none (by simp; omega)] at h3; cases h3
          rw [h5] at h3
          simp only [List.getElem?_cons_zero, Option.some.injEq, Prod.mk.injEq] at h3
          exact .inl ⟨h3.1.symm, rfl, by omega⟩
      · exact .inr ⟨(s.at_ _ _ _).2 ⟨es, r', q, h2, h3⟩, hfr _ _ q _ (List.mem_of_getElem? h3)⟩
  · rw [mem_insR, s.mem]
    constructor
    · rintro (⟨m, es, h1, h2⟩ | rfl)
      · by_cases e0 : m = mkI r
        · subst e0
          exact ⟨_, _, hT.2 (.inl ⟨rfl, rfl⟩), List.mem_append.2 (.inl (by rw [rowsAt_in s.tnd h1]; exact h2))⟩
        · exact ⟨m, es, hT.2 (.inr ⟨h1, e0⟩), h2⟩
      · exact ⟨_, _, hT.2 (.inl ⟨rfl, rfl⟩), List.mem_append.2 (.inr (List.mem_singleton.2 rfl))⟩
    · rintro ⟨m, es, q, h2⟩
      rcases hT.1 q with ⟨rfl, rfl⟩ | ⟨q, _⟩
      · rcases List.mem_append.1 h2 with h2 | h2
        · exact .inl ⟨_, _, rowsAt_of h2, h2⟩
        · exact .inr (List.mem_singleton.1 h2)
      · exact .inl ⟨m, es, q, h2⟩
theorem SInv.set (s : SInv T P R) (hP : getK P h = some (m, i)) (hes : getK T m = some es) {r' : Rw} (hm : mkI r' = m) (hr : rightV r' = true) : SInv (putK T m (es.set i.toNat (h, r'))) P (setR R h r') := by
  obtain ⟨es0, r, q1, q2, q3, q4, q5, q6, q7⟩ := s.find hP
  rw [hes] at q1
  obtain rfl := Option.some.inj q1
  have hin := kmem_of hes
  have hi := (List.getElem?_eq_some_iff.1 q3).1
  have hT : ∀ {m' es'}, (m', es') ∈ putK T m (es.set i.toNat (h, r')) ↔ (m' = m ∧ es' = es.set i.toNat (h, r')) ∨ ((m', es') ∈ T ∧ ¬ m' = m) := fun {m' es'} => by
    rw [kmem_putA]; simp only [Prod.mk.injEq]
  have hset : ∀ j x, (es.set i.toNat (h, r'))[j]? = some x ↔ (j = i.toNat ∧ x = (h, r')) ∨ (j ≠ i.toNat ∧ es[j]? = some x) := fun j x => by
    rw [List.getElem?_set]
    by_cases e : i.toNat = j
    · subst e; rw [if_pos rfl, if_pos hi]; simp [eq_comm]
    · rw [if_neg e]; simp [Ne.symm e]
  refine ⟨knd_put s.tnd, s.pnd, ?_, fun m' es' q => ?_, fun m' es' q e he => ?_, fun e he => ?_, fun h' m' j => ?_, fun e => ?_⟩
  · unfold setR
    refine List.Pairwise.map _ (fun a b hab => ?_) s.ris
    have e1 : ∀ a : Ey, (if a.1 = h then (h, r') else a).1 = a.1 := fun a => by split <;> simp_all
    unfold ltE at *
    rw [e1, e1]; exact hab
  · rcases hT.1 q with ⟨_, rfl⟩ | ⟨q, _⟩
    · intro e; have := congrArg List.length e; simp at this; rw [this] at hi; simp at hi
    · exact s.ne _ _ q
  · rcases hT.1 q with ⟨rfl, rfl⟩ | ⟨q, _⟩
    · rcases List.mem_or_eq_of_mem_set he with he | rfl
      · exact s.mask _ _ hin e he
      · exact hm
    · exact s.mask _ _ q e he
  · unfold setR at he
    obtain ⟨x, hx, rfl⟩ := List.mem_map.1 he
    split
    · exact hr
    · exact s.row x hx
  · rw [s.at_]
    constructor
    · rintro ⟨es', r0, h1, h2, h3⟩
      by_cases e : m' = m
      · subst e
        have e2 : es' = es := by have := (kget s.tnd).2 h1; rw [hes] at this; exact (Option.some.inj this).symm
        subst e2
        by_cases ej : j.toNat = i.toNat
        · refine ⟨_, r', hT.2 (.inl ⟨rfl, rfl⟩), h2, (hset _ _).2 (.inl ⟨ej, ?_⟩)⟩
          rw [ej, q3] at h3
          simp only [Option.some.injEq, Prod.mk.injEq] at h3
          rw [h3.1]
        · exact ⟨_, r0, hT.2 (.inl ⟨rfl, rfl⟩), h2, (hset _ _).2 (.inr ⟨ej, h3⟩)⟩
      · exact ⟨es', r0, hT.2 (.inr ⟨h1, e⟩), h2, h3⟩
    · rintro ⟨es', r0, q, h2, h3⟩
      rcases hT.1 q with ⟨rfl, rfl⟩ | ⟨q, _⟩
      · rcases (hset _ _).1 h3 with ⟨ej, hx⟩ | ⟨ej, hx⟩
        · simp only [Prod.mk.injEq] at hx
          exact ⟨es, r, hin, h2, by rw [ej, hx.1]; exact q3⟩
        · exact ⟨es, r0, hin, h2, hx⟩
      · exact ⟨es', r0, q, h2, h3⟩
  · unfold setR
    rw [List.mem_map]
    constructor
    · rintro ⟨x, hx, rfl⟩
      split
      · exact ⟨m, _, hT.2 (.inl ⟨rfl, rfl⟩), List.mem_of_getElem? ((hset i.toNat _).2 (.inl ⟨rfl, rfl⟩))⟩
      · rename_i hne
        obtain ⟨m', es', h1, h2⟩ := (s.mem _).1 hx
        by_cases e : m' = m
        · subst e
          have e2 : es' = es := by have := (kget s.tnd).2 h1; rw [hes] at this; exact (Option.some.inj this).symm
          subst e2
          obtain ⟨j, hj⟩ := List.getElem?_of_mem h2
          exact ⟨m', _, hT.2 (.inl ⟨rfl, rfl⟩), List.mem_of_getElem? ((hset j _).2 (.inr ⟨fun ej => hne (by rw [ej, q3] at hj; exact (congrArg Prod.fst (Option.some.inj hj)).symm), hj⟩))⟩
        · exact ⟨m', es', hT.2 (.inr ⟨h1, e⟩), h2⟩
    · rintro ⟨m', es', q, h2⟩
      rcases hT.1 q with ⟨rfl, rfl⟩ | ⟨q, hne⟩
      · obtain ⟨j, hj⟩ := List.getElem?_of_mem h2
        rcases (hset _ _).1 hj with ⟨_, hx⟩ | ⟨ej, hx⟩
        · exact ⟨(h, r), q4, by rw [if_pos rfl, hx]⟩
        · refine ⟨e, (s.mem _).2 ⟨m', es, hin, List.mem_of_getElem? hx⟩, if_neg fun eh => ej ?_⟩
          have hx' : es[j]? = some (h, e.2) := by rw [hx, ← eh]
          have := (s.one hin (Int.natCast_nonneg j) (by simpa using hx') hin q2 q3).2.1
          omega
      · refine ⟨e, (s.mem _).2 ⟨m', es', q, h2⟩, if_neg fun eh => hne ?_⟩
        obtain ⟨j, hj⟩ := List.getElem?_of_mem h2
        have hj' : es'[j]? = some (h, e.2) := by rw [hj, ← eh]
        exact (s.one q (Int.natCast_nonneg j) (by simpa using hj') hin q2 q3).1
def dE : Ey := ((0, 0), [])
end
end Go.Px
namespace Go.Zz
open Go.Px Go.RowKit
set_option linter.unusedVariables false
set_option linter.unusedSimpArgs false
set_option linter.unusedSectionVars false
def encU : Enc Int where
  sz := 1
  get x := [.int .u64 x]
  put x o v := match o, v with
    | 0, .int .u64 n => some n
    | _, _ => none
  of l := match l with
    | [.int .u64 n] => some n
    | _ => none
  d := 0
  val x := [.int .u64 x]
  len _ := rfl
  den_get Δ ρ x := by simp only [SV.denL, SV.den]
  one x u hu := by simp at hu; subst hu; rfl
  bd x := by simp only [SV.bdL, SV.bd, and_self]
  put_ok := by
    intro Δ ρ x o v y h
    split at h
    · simp only [Option.some.injEq] at h; subst h; exact ⟨by decide, by simp [SV.den]⟩
    · cases h
  of_ok := by
    intro Δ ρ vs y h
    split at h
    · simp only [Option.some.injEq] at h; subst h; simp [SV.denL, SV.den]
    · cases h
def enc8 : Enc Int where
  sz := 1
  get x := [.int .u8 x]
  put x o v := match o, v with
    | 0, .int .u8 n => some n
    | _, _ => none
  of l := match l with
    | [.int .u8 n] => some n
    | _ => none
  d := 0
  val x := [.int .u8 x]
  len _ := rfl
  den_get Δ ρ x := by simp only [SV.denL, SV.den]
  one x u hu := by simp at hu; subst hu; rfl
  bd x := by simp only [SV.bdL, SV.bd, and_self]
  put_ok := by
    intro Δ ρ x o v y h
    split at h
    · simp only [Option.some.injEq] at h; subst h; exact ⟨by decide, by simp [SV.den]⟩
    · cases h
  of_ok := by
    intro Δ ρ vs y h
    split at h
    · simp only [Option.some.injEq] at h; subst h; simp [SV.denL, SV.den]
    · cases h
abbrev Hdr := Option Addr × Nat × Nat
def encS : Enc Hdr where
  sz := 1
  get x := [.raw (.slice x.1 x.2.1 x.2.2)]
  put x o v := match o, v with
    | 0, .raw (.slice a n k) => some (a, n, k)
    | 0, .nils => some (none, 0, 0)
    | _, _ => none
  of l := match l with
    | [.raw (.slice a n k)] => some (a, n, k)
    | [.nils] => some (none, 0, 0)
    | _ => none
  d := (none, 0, 0)
  val x := [.slice x.1 x.2.1 x.2.2]
  len _ := rfl
  den_get Δ ρ x := by simp only [SV.denL, SV.den]
  one x u hu := by simp at hu; subst hu; rfl
  bd x := by simp only [SV.bdL, SV.bd, and_self]
  put_ok := by
    intro Δ ρ x o v y h
    split at h
    · simp only [Option.some.injEq] at h; subst h; exact ⟨by decide, by simp [SV.den]⟩
    · simp only [Option.some.injEq] at h; subst h; exact ⟨by decide, by simp [SV.den]⟩
    · cases h
  of_ok := by
    intro Δ ρ vs y h
    split at h
    · simp only [Option.some.injEq] at h; subst h; simp [SV.denL, SV.den]
    · simp only [Option.some.injEq] at h; subst h; simp [SV.denL, SV.den]
    · cases h
def encV : Enc V3 := Enc.iso (Zz.encP Zz.encI (Zz.encP Zz.encI Zz.encI)) (fun v => (v.k, v.a, v.b)) (fun p => ⟨p.1, p.2.1, p.2.2⟩) (fun _ => rfl)
abbrev encE : Enc ((Int × Int) × Hdr) := Zz.encP (Zz.encP Zz.encI Zz.encI) encS
def veU : VE Int where
  sv x := .int .u64 x
  val x := .int .u64 x
  of v := match v with
    | .int .u64 n => some n
    | _ => none
  den Δ ρ x := by simp only [SV.den]
  bd x := by simp only [SV.bd]
  of_ok := by
    intro Δ ρ v x h
    split at h
    · obtain rfl := Option.some.inj h; simp only [SV.den]
    · cases h
def veP : VE (Option Nat) where
  sv x := .raw (pV x)
  val x := pV x
  of _ := none
  den Δ ρ x := by simp only [SV.den]
  bd x := by simp only [SV.bd]
  of_ok h := by cases h
def vePl : VE (Option Nat × Int) where
  sv x := .agg [.raw (pV x.1), .int .i64 x.2]
  val x := .agg #[pV x.1, .int .i64 x.2]
  of _ := none
  den Δ ρ x := by simp only [SV.den, SV.denL]
  bd x := by simp only [SV.bd, SV.bdL, and_self]
  of_ok h := by cases h
end Go.Zz
namespace Go.Zz
open Go.Px Go.RowKit
set_option linter.unusedVariables false
set_option linter.unusedSimpArgs false
set_option linter.unusedSectionVars false
theorem findNow_int {ik : IntKind} (x : Int) : ∀ (es : List MapEntry) (ks : List Int) (i0 : Nat), es.map (·.key) = ks.map (fun n => Value.int ik n) → Instr.findNow (.int ik) (.int ik x) es i0 = some ((ks.findIdx? fun y => decide (y = x)).bind fun i => (es[i]?).map fun e => (i0 + i, e.val))
  | [], [], i0, _ => by simp [Instr.findNow]
  | [], _ :: _, _, h => by simp at h
  | _ :: _, [], _, h => by simp at h
  | e :: es, y :: ks, i0, h => by
    simp only [List.map_cons, List.cons.injEq] at h
    have ih := findNow_int (ik := ik) x es ks (i0 + 1) h.2
    rw [List.findIdx?_cons]
    unfold Instr.findNow
    rw [h.1]
    by_cases e1 : y = x
    · subst e1
      simp [Instr.sameNow]
    · have e2 : (x == y) = false := by simp; exact fun e => e1 e.symm
      simp only [Instr.sameNow, if_pos, e2]
      rw [ih, decide_eq_false e1]
      simp only [Bool.false_eq_true, if_false, Option.bind_map]
      congr 1
      cases ks.findIdx? fun y => decide (y = x) with
      | none => rfl
      | some i => simp [Nat.add_assoc, Nat.add_comm 1 i]
theorem KeyT.int {P : Program} {k : TypeId} {ik : IntKind} (hu : P.underlying k = some (.int ik)) : KeyT P k (fun n : Int => Value.int ik n) where
  find := fun w x es ks h => by
    simp only [Instr.findKey, Sem.run_bind, run_underlying hu, Result.andThen_ok, findNow_int x es ks 0 h, Sem.run_pure, Nat.zero_add]
  chk := fun w em x => by
    unfold Instr.checkKey
    simp [Sem.run_bind, run_underlying hu]
  stay := fun w x => by simp [Instr.keyThatStays, Instr.sameBits]
def ptrL {κ : Type} (ks : List κ) (p : κ → Nat) : List (κ × Option Nat) := ks.map fun k => (k, some (p k))
section
variable {κ ν : Type} [DecidableEq κ] {ks : List κ} {p : κ → Nat} {x : κ} {g : Nat}
theorem ptrL_keys : (ptrL ks p).map (·.1) = ks := by unfold ptrL; rw [List.map_map]; exact (List.map_congr_left fun _ _ => rfl).trans (List.map_id _)
theorem ptrL_get (h : x ∈ ks) : getK (ptrL ks p) x = some (some (p x)) := by
  induction ks with
  | nil => cases h
  | cons k r ih =>
    unfold ptrL getK
    rw [List.map_cons, List.find?_cons]
    by_cases e : k = x
    · subst e; simp
    · rw [decide_eq_false e]
      exact ih ((List.mem_cons.1 h).resolve_left fun q => e q.symm)
theorem ptrL_has : hasK (ptrL ks p) x = true ↔ x ∈ ks := by rw [hasK_iff, ptrL_keys]
theorem ptrL_none (h : ¬ x ∈ ks) : hasK (ptrL ks p) x = false := by rw [← Bool.not_eq_true]; exact fun q => h (ptrL_has.1 q)
theorem ptrL_at (h : ¬ x ∈ ks) : Go.Px.putK (ptrL ks p) x (some g) = ptrL (ks ++ [x]) (atP p x g) := by
  unfold Go.Px.putK
  rw [if_neg (by rw [ptrL_has]; exact h)]
  unfold ptrL
  rw [List.map_append]
  congr 1
  · exact List.map_congr_left fun k hk => by rw [show atP p x g k = p k from if_neg fun e : k = x => h (e ▸ hk)]
  · simp [atP]
theorem ptrL_same (h : x ∈ ks) : Go.Px.putK (ptrL ks p) x (some (p x)) = ptrL ks p := by
  unfold Go.Px.putK
  rw [if_pos (ptrL_has.2 h)]
  unfold ptrL
  rw [List.map_map]
  refine List.map_congr_left fun k hk => ?_
  simp only [Function.comp]
  split
  · rename_i e; rw [e]
  · rfl
theorem rest_el {el el' : ν → Pr} {L : List (κ × ν)} {p : κ → Nat} (he : ∀ y ∈ L, ∀ a B w, (el y.2).ok a B w → (el' y.2).ok a B w) (a : Option Addr) (B : Nat → Prop) (w : World) (hk : (restPr el L p).ok a B w) : (restPr el' L p).ok a B w := by
  obtain ⟨Bs, h1, h2, h3, h4⟩ := hk
  exact ⟨Bs, h1, fun y hy => he y hy _ _ _ (h2 y hy), h3, h4⟩
end
section
variable {κ ν : Type} [DecidableEq κ] {Γ : Ctx} {sv : Operand → SV} {nx : Nat} {H : Hp} {K : SV → Nat → Hp → Prop} {t k e : TypeId} {ke : VE κ} {ve : VE ν} {z : ν}
theorem lookupG_rule (M : MapTy Γ.P t k e ke ve z) {X Y : Operand} (c : Nat) (L : List (κ × ν)) (x : κ) (v : ν) (hX : sv X = .mp c) (hY : ke.of (sv Y) = some x) (hH : lk H c = some (.pr (mapPr ke ve L))) (hg : getK L x = some v)
    (k1 : kval (ve.sv v) fun v => K v nx H) : OpGoal Γ sv nx H (.lookup t X Y false) K := by
  refine lookup_rule M c L x hX hY hH ?_
  rw [hg]; exact k1
end
end Go.Zz
namespace Go.Zz
open Go.Px Go.RowKit
set_option linter.unusedVariables false
set_option linter.unusedSimpArgs false
set_option linter.unusedSectionVars false
section
variable {κ ν : Type} [DecidableEq κ] {fk : κ → Value} {fv : ν → Value} {w w' : World} {B : Nat} {L : List (κ × ν)} {x : κ} {P : Program} {t k e : TypeId} {st : Nat}
structure EntAt (w : World) (B : Nat) (fk : κ → Value) (fv : ν → Value) (L : List (κ × ν)) (x : κ) (st : Nat) : Prop where
  ex : ∃ (L1 : List (κ × ν)) (es : Array MapEntry) (clock : Nat) (q : Nat × Value) (e0 : MapEntry), MapAt w B fk fv L1 ∧ (∀ v, Go.Px.putK L1 x v = Go.Px.putK L x v) ∧ w.heap[B]? = some (.map es clock) ∧ es.toList.map (fun e => (e.key, e.val)) = L1.map (fun p => (fk p.1, fv p.2)) ∧
    (es.toList.map (·.born)).Pairwise (· < ·) ∧ (((L1.map (·.1)).findIdx? fun y => decide (y = x)).bind fun i => (L1[i]?).map fun p => (i, fv p.2)) = some q ∧ es.toList[q.1]? = some e0 ∧ e0.born = st ∧ e0.key = fk x
theorem EntAt.lt (h : EntAt w B fk fv L x st) : B < w.heap.size := by
  obtain ⟨L1, es, clock, q, e0, h1, _⟩ := h.ex; exact h1.lt
theorem EntAt.keep {F : Nat → Prop} (h : EntAt w B fk fv L x st) (hk : Keep F w w') (hn : ¬ F B) : EntAt w' B fk fv L x st := by
  have hlt := h.lt
  obtain ⟨L1, es, clock, q, e0, h1, h2, h3, h4⟩ := h.ex
  exact ⟨L1, es, clock, q, e0, h1.keep hk hn, h2, (hk.block B hlt hn).trans h3, h4⟩
theorem putK_two (L : List (κ × ν)) (x : κ) (u v : ν) : Go.Px.putK (Go.Px.putK L x u) x v = Go.Px.putK L x v := by
  cases hx : hasK L x with
  | true =>
    have h2 : hasK (Go.Px.putK L x u) x = true := hasK_iff.2 (List.mem_map.2 ⟨(x, u), (mem_putK hx).2 (.inl rfl), rfl⟩)
    unfold Go.Px.putK at h2 ⊢
    rw [hx, if_pos rfl] at h2 ⊢
    rw [h2, if_pos rfl, if_pos rfl, List.map_map]
    refine List.map_congr_left fun p hp => ?_
    simp only [Function.comp]
    by_cases e : p.1 = x <;> simp [e]
  | false =>
    have e1 : Go.Px.putK L x u = L ++ [(x, u)] := by unfold Go.Px.putK; rw [hx, if_neg (by simp)]
    have e2 : Go.Px.putK L x v = L ++ [(x, v)] := by unfold Go.Px.putK; rw [hx, if_neg (by simp)]
    have h2 : hasK (L ++ [(x, u)]) x = true := hasK_iff.2 (List.mem_map.2 ⟨(x, u), List.mem_append.2 (.inr (List.mem_singleton.2 rfl)), rfl⟩)
    rw [e1, e2]
    unfold Go.Px.putK
    rw [h2, if_pos rfl, List.map_append]
    congr 1
    · refine (List.map_congr_left fun p hp => ?_).trans (List.map_id L)
      rw [if_neg fun e => ?_]
      · rfl
      · rw [← Bool.not_eq_true] at hx; exact hx (hasK_iff.2 (List.mem_map.2 ⟨p, hp, e⟩))
    · simp
theorem getK_of {q : Nat × Value} (hr : (((L.map (·.1)).findIdx? fun y => decide (y = x)).bind fun i => (L[i]?).map fun p => (i, fv p.2)) = some q) : ∃ v, getK L x = some v ∧ fv v = q.2 := by
  have h2 := idx_get (fv := fv) L x
  rw [hr] at h2
  cases hg : getK L x with
  | none => rw [hg] at h2; cases h2
  | some v => rw [hg] at h2; exact ⟨v, rfl, (Option.some.inj h2).symm⟩
theorem getK_no (hr : (((L.map (·.1)).findIdx? fun y => decide (y = x)).bind fun i => (L[i]?).map fun p => (i, fv p.2)) = none) : getK L x = none := by
  have h2 := idx_get (fv := fv) L x
  rw [hr] at h2
  cases hg : getK L x with
  | none => rfl
  | some v => rw [hg] at h2; cases h2
theorem MapAt.entry (K : KeyT P k fk) (h : MapAt w B fk fv L) (ht : P.underlying t = some (.map k e)) {z : ν} (hz : (zeroValue e).run P w = .ok (fv z) w) (x : κ) :
    ∃ w' st, (Instr.mapEntry t (.map (some B)) (fk x)).run P w = .ok (.tuple #[fv ((getK L x).getD z), .int .i64 ((st : Nat) : Int)]) w' ∧ EntAt w' B fk fv L x st ∧ Keep (fun i => i = B) w w' := by
  obtain ⟨es, clock, hb, he, hp, hc⟩ := h.ex
  have h1 := K.find w x es.toList (L.map (·.1)) (keys_of he)
  rw [ent_at he] at h1
  cases hr : (((L.map (·.1)).findIdx? fun y => decide (y = x)).bind fun i => (L[i]?).map fun p => (i, fv p.2)) with
  | none =>
    rw [hr] at h1
    have h3 := nospot hr
    have hl : es.toList.length = L.length := by have := congrArg List.length he; simpa using this
    have e1 : Go.Px.putK L x z = L ++ [(x, z)] := by unfold Go.Px.putK; rw [h3, if_neg (by simp)]
    have hpw : ((es.push ⟨fk x, fv z, clock⟩).toList.map (·.born)).Pairwise (· < ·) := by
      simp only [Array.toList_push, List.map_append, List.map_cons, List.map_nil]
      refine List.pairwise_append.2 ⟨hp, by simp, fun a ha b hb => ?_⟩
      obtain rfl := List.mem_singleton.1 hb
      obtain ⟨e0, he0, rfl⟩ := List.mem_map.1 ha
      exact hc e0 he0
    have hmap : (es.push ⟨fk x, fv z, clock⟩).toList.map (fun e => (e.key, e.val)) = (Go.Px.putK L x z).map (fun p => (fk p.1, fv p.2)) := by rw [e1]; simp [he]
    have h4 := MapAt.setAt (L' := Go.Px.putK L x z) h (es' := es.push ⟨fk x, fv z, clock⟩) (clock' := clock + 1) hmap hpw (fun e0 he0 => by
      simp only [Array.toList_push, List.mem_append, List.mem_singleton] at he0
      rcases he0 with he0 | rfl
      · have := hc e0 he0; omega
      · exact Nat.lt_succ_self _) (putK_nd h.nd x z)
    refine ⟨_, clock, by simp [Instr.mapEntry, run_underlying ht, MapKept.run_getObj_map hb, K.chk w false x, h1, hz, MapKept.run_setObj_map _ hb, Result.andThen, getK_no hr, goInt], ⟨Go.Px.putK L x z, es.push ⟨fk x, fv z, clock⟩, clock + 1, ?_⟩, h4.2⟩
    have hlt := h.lt
    cases hr2 : ((((Go.Px.putK L x z).map (·.1)).findIdx? fun y => decide (y = x)).bind fun i => ((Go.Px.putK L x z)[i]?).map fun p => (i, fv p.2)) with
    | none =>
      have := nospot hr2
      rw [e1, ← Bool.not_eq_true] at this
      exact absurd (hasK_iff.2 (List.mem_map.2 ⟨(x, z), List.mem_append.2 (.inr (List.mem_singleton.2 rfl)), rfl⟩)) this
    | some q =>
      obtain ⟨v, hv, hq⟩ := spot hr2
      have hqn : q.1 = L.length := by
        refine Classical.byContradiction fun hne => ?_
        have h5 : (Go.Px.putK L x z)[L.length]? = some (x, z) := by rw [e1]; simp
        exact other_ne (putK_nd h.nd x z) hv h5 hne rfl
      refine ⟨q, ⟨fk x, fv z, clock⟩, h4.1, putK_two L x z, by simp [hlt], hmap, hpw, rfl, ?_, rfl, rfl⟩
      rw [hqn, ← hl]; simp
  | some q =>
    rw [hr] at h1
    obtain ⟨v0, hl, hv0⟩ := spot hr
    obtain ⟨v1, hg, hv1⟩ := getK_of hr
    have hm := congrArg (fun l => l[q.1]?) he
    simp only [List.getElem?_map, hl, Option.map_some] at hm
    obtain ⟨e0, he0, hm0⟩ := Option.map_eq_some_iff.1 hm
    simp only [Prod.mk.injEq] at hm0
    have hj : es[q.1]? = some e0 := by simpa using he0
    have hsame : es.modify q.1 (fun e => { e with key := fk x }) = es := by
      apply Array.ext'
      rw [Array.toList_modify]
      refine List.ext_getElem? fun j => ?_
      rw [List.getElem?_modify]
      by_cases hjq : q.1 = j
      · subst hjq; rw [he0]; simp [← hm0.1]
      · simp [hjq]
    have h4 := MapAt.setAt (L' := L) h (es' := es) (clock' := clock) he hp hc h.nd
    have hlt := h.lt
    refine ⟨_, e0.born, by simp [Instr.mapEntry, run_underlying ht, MapKept.run_getObj_map hb, K.chk w false x, h1, hj, hm0.1, K.stay w x, hsame, MapKept.run_setObj_map _ hb, Result.andThen, hg, hv1, goInt], ⟨L, es, clock, q, e0, h4.1, fun _ => rfl, by simp [hlt], he, hp, hr, he0, rfl, hm0.1⟩, h4.2⟩
theorem EntAt.store (K : KeyT P k fk) (h : EntAt w B fk fv L x st) (ht : P.underlying t = some (.map k e)) (v : ν) :
    ∃ w', (Instr.entryStore t (.map (some B)) (.int .i64 ((st : Nat) : Int)) (fv v)).run P w = .ok () w' ∧ MapAt w' B fk fv (Go.Px.putK L x v) ∧ Keep (fun i => i = B) w w' := by
  obtain ⟨L1, es, clock, q, e0, hM, hpt, hb, he, hp, hr, he0, rfl, hke⟩ := h.ex
  obtain ⟨w', hrun, hM', hk⟩ := hM.update K ht x v
  rw [hpt] at hM'
  refine ⟨w', ?_, hM', hk⟩
  have h1 := K.find w x es.toList (L1.map (·.1)) (keys_of he)
  rw [ent_at he, hr] at h1
  have hj : es[q.1]? = some e0 := by simpa using he0
  have hu : (Instr.mapUpdate t (.map (some B)) (fk x) (fv v)).run P w = .ok () { w with heap := w.heap.setIfInBounds B (.map (es.modify q.1 (fun e' => { e' with key := fk x, val := fv v })) clock) } := by
    simp [Instr.mapUpdate, run_underlying ht, MapKept.run_getObj_map hb, K.chk w false x, h1, hj, hke, K.stay w x, MapKept.run_setObj_map _ hb, Result.andThen]
  rw [hu] at hrun
  have hw : { w with heap := w.heap.setIfInBounds B (.map (es.modify q.1 (fun e' => { e' with key := fk x, val := fv v })) clock) } = w' := by
    injection hrun
  subst hw
  have hidx : es.findIdx? (fun e => ((e.born : Nat) : Int) == ((e0.born : Nat) : Int)) = some q.1 := by
    rw [Go.WideElems.findIdx_arr]
    exact Go.WideElems.findIdx_born (List.Pairwise.imp (fun h => Nat.ne_of_lt h) hp) he0
  have hmod : es.modify q.1 (fun e => { e with val := fv v }) = es.modify q.1 (fun e' => { e' with key := fk x, val := fv v }) := by
    apply Array.ext'
    rw [Array.toList_modify, Array.toList_modify]
    refine List.ext_getElem? fun j => ?_
    rw [List.getElem?_modify, List.getElem?_modify]
    by_cases hjq : q.1 = j
    · subst hjq; rw [he0]; simp [← hke]
    · simp [hjq]
  simp [Instr.entryStore, MapKept.run_getObj_map hb, asInt, asIntOf, hidx, hmod, MapKept.run_setObj_map _ hb, Result.andThen]
def entPr (ke : VE κ) (ve : VE ν) (L : List (κ × ν)) (x : κ) (st : Nat) : Pr where
  ok a B w := ∃ g, a = some ⟨g, 0, none⟩ ∧ (∀ i, B i ↔ i = g) ∧ EntAt w g ke.val ve.val L x st
  stab := by
    rintro a B w w' F ⟨g, h1, h2, h3⟩ hk hn
    exact ⟨g, h1, h2, h3.keep hk (hn g ((h2 g).2 rfl))⟩
  lt := by
    rintro a B w i ⟨g, h1, h2, h3⟩ hi
    rw [(h2 i).1 hi]; exact h3.lt
variable {Γ : Ctx} {sv : Operand → SV} {nx : Nat} {H : Hp} {K : SV → Nat → Hp → Prop} {ke : VE κ} {ve : VE ν} {z : ν}
theorem mapent_rule (M : MapTy Γ.P t k e ke ve z) {X Y : Operand} (c : Nat) (L : List (κ × ν)) (x : κ) (hX : sv X = .mp c) (hY : ke.of (sv Y) = some x) (hH : lk H c = some (.pr (mapPr ke ve L)))
    (k1 : ∀ st : Nat, setK H c (.pr (entPr ke ve L x st)) fun H => K (.tup [ve.sv ((getK L x).getD z), .int .i64 ((st : Nat) : Int)]) nx H) : OpGoal Γ sv nx H (.mapEntry t X Y) K := by
  refine ⟨fun En V w oper hop h0 hb => ?_⟩
  obtain ⟨g, e1, hβ, hρ, hm⟩ := mp_at h0 hH
  have hz' : (zeroValue e).run Γ.P w = .ok (ve.val z) w := by
    obtain ⟨i, hi, hz⟩ := Option.bind_eq_some_iff.1 M.zero
    simp [zeroValue, typeInfo, hi, hz]
  obtain ⟨w', st, hr, hm', hk⟩ := MapAt.entry M.key hm M.u hz' x
  have k1 := k1 st
  rw [setK_eq] at k1
  refine ⟨V, _, nx, _, w', _, .inl rfl, ?_, Nat.le_refl _, fun _ _ => rfl, ?_, h0.set (ch' := .pr (entPr ke ve L x st)) hH (hk.mono fun i _ hi => (hβ i).2 hi) ⟨g, hρ, hβ, hm'⟩ trivial, k1⟩
  · simp [execOp, hop, hX, e1, ke.of_ok hY, hr, SV.den, SV.denL, ve.den]
  · simp only [SV.bd, SV.bdL, and_true]; exact bd_mono (Nat.zero_le nx) _ (ve.bd _)
theorem entstore_rule (M : MapTy Γ.P t k e ke ve z) {X Y Z : Operand} {L : List (κ × ν)} {x : κ} {st : Nat} (c : Nat) (v : ν) (hX : sv X = .mp c) (hY : sv Y = .int .i64 ((st : Nat) : Int)) (hZ : ∀ En V w, HpOk Γ En V nx H w → (sv Z).den Γ.Δ V.ρ = ve.val v) (hH : lk H c = some (.pr (entPr ke ve L x st)))
    (k1 : setK H c (.pr (mapPr ke ve (Go.Px.putK L x v))) fun H => K (.raw undef) nx H) : OpGoal Γ sv nx H (.entryStore t X Y Z) K := by
  refine ⟨fun En V w oper hop h0 hb => ?_⟩
  obtain ⟨g, hρ, hβ, hm⟩ := h0.hr.ok c _ hH
  have e1 : (SV.mp c).den Γ.Δ V.ρ = .map (some g) := by simp [SV.den, hρ]
  obtain ⟨w', hr, hm', hk⟩ := hm.store M.key M.u v
  rw [setK_eq] at k1
  refine ⟨V, _, nx, _, w', .skip, .inr ⟨rfl, rfl⟩, ?_, Nat.le_refl _, fun _ _ => rfl, by simp only [SV.bd], h0.set (ch' := .pr (mapPr ke ve (Go.Px.putK L x v))) hH (hk.mono fun i _ hi => (hβ i).2 hi) ⟨g, hρ, hβ, hm'⟩ trivial, k1⟩
  simp [execOp, hop, hX, hY, e1, hZ En V w h0, SV.den, hr]
end
end Go.Zz
namespace Go.Zz
open Go.Px Go.RowKit
set_option linter.unusedVariables false
set_option linter.unusedSimpArgs false
set_option linter.unusedSectionVars false
def keepE : Ev → List Nat → List Nat → Ev
  | [], _, _ => []
  | (r, v) :: l, ks, ds => bif memB ds r then keepE l ks ds else bif memB ks r then (r, v) :: keepE l ks (r :: ds) else keepE l ks ds
def keepEKR : Ev → List Nat → List Nat → (Ev → Prop) → Prop
  | [], _, _, K => K []
  | (r, v) :: l, ks, ds, K => bif memB ds r then keepEKR l ks ds K else bif memB ks r then keepEKR l ks (r :: ds) fun e => K ((r, v) :: e) else keepEKR l ks ds K
def keepEKRS : { f // f = @keepEKR } := by delta keepEKR; exact ⟨_, rfl⟩
def keepEK := keepEKRS.val
theorem keepEK_R : @keepEK = @keepEKR := keepEKRS.2
theorem keepEK_eq : ∀ (l : Ev) (ks ds : List Nat) (K : Ev → Prop), keepEK l ks ds K = K (keepE l ks ds)
  | [], ks, ds, K => rfl
  | (r, v) :: l, ks, ds, K => by
    (simp only [keepEK_R, keepEKR]; (try simp only [← keepEK_R]); simp only [keepE])
    cases memB ds r
    · cases memB ks r
      · simp only [cond_false, keepEK_eq l]
      · simp only [cond_false, cond_true, keepEK_eq l]
    · simp only [cond_true, keepEK_eq l]
def updP (s : St) (ks : List Nat) (pe : Ev) (ph : Hp) (gone : List Nat) : St := ⟨pe ++ keepE s.env ks (keysE pe), s.nx + 16, ph ++ dropH s.H (gone ++ keys ph)⟩
def updPK (s : St) (ks : List Nat) (pe : Ev) (ph : Hp) (gone : List Nat) (K : St → Prop) : Prop :=
  match s with
  | ⟨env, nx, H⟩ => keepEK env ks (keysE pe) fun e => appK' pe e fun e => dropHK H (gone ++ keys ph) fun h => appK' ph h fun h => litK (nx + 16) fun n' => K ⟨e, n', h⟩
theorem updPK_eq (s : St) (ks : List Nat) (pe : Ev) (ph : Hp) (gone : List Nat) (K : St → Prop) : updPK s ks pe ph gone K = K (updP s ks pe ph gone) := by
  simp only [updPK, updP, keepEK_eq, appK'_eq, dropHK_eq, litK_eq]
theorem join_keep (r : Nat) (ks : List Nat) {Γ : Ctx} {n n0 : Nat} (hΓ : Γ.Ok) {js : List Nat} {x y : Code} {s : St} {Q : Exit → St → Prop} (hr0 : headOf y = some r) {X : Type} (pe : X → Ev) (ph : X → Hp) (gone : List Nat) (I : X → Prop)
    (h1 : vc Γ n n0 js x s fun e s' => match e with
      | .normal => ∃ z, updPK s ks (pe z) (ph z) gone fun t => LeS n0 t s' (I z)
      | e => Q e s')
    (h2 : ∀ z, I z → updPK s ks (pe z) (ph z) gone fun t => vc Γ n n0 js y t Q) : JoinGoal Γ n n0 js x y s Q := by
  refine ⟨fun En V a w he hs => ?_⟩
  refine wp_seq (wp_mono (vc_ok hΓ he x h1 hs) fun e a' w' hq => ?_)
  obtain ⟨V', s', hs', hq⟩ := hq
  cases e with
  | normal =>
    obtain ⟨z, hq⟩ := hq
    rw [updPK_eq] at hq
    obtain ⟨hI, V2, hs2⟩ := LeS_ok hq hs' he
    have := h2 z hI
    rw [updPK_eq] at this
    exact vc_ok hΓ he y this hs2
  | _ => exact ⟨V', s', hs', hq⟩
theorem loop_keep (r : Nat) (ks : List Nat) {Γ : Ctx} {n n0 : Nat} (hΓ : Γ.Ok) {c : Code} {s : St} {Q : Exit → St → Prop} (hr0 : headOf c = some r) (js : List Nat) {X : Type} (pe : X → Ev) (ph : X → Hp) (gone : List Nat) (I : X → Prop) (m : X → Nat)
    (h0 : ∃ x0, updPK s ks (pe x0) (ph x0) gone fun t => LeS n0 t s (I x0))
    (hr : ∀ x, I x → updPK s ks (pe x) (ph x) gone fun t => vc Γ n n0 js c t fun e s' => match e with
      | .normal => NextGoal Γ s' fun s'' => ∃ x', updPK s ks (pe x') (ph x') gone fun t' => LeS n0 t' s'' (I x' ∧ m x' < m x)
      | e => Q e s') : LoopGoal Γ n n0 c s Q := by
  refine ⟨fun En V a w he hs => ?_⟩
  obtain ⟨x0, h0⟩ := h0
  rw [updPK_eq] at h0
  obtain ⟨hI, V0, hs0⟩ := LeS_ok h0 hs he
  refine wp_loop_ghost (fun k a w => ∃ x V, m x = k ∧ I x ∧ StOk Γ n En V a w (updP s ks (pe x) (ph x) gone)) (m x0) ⟨x0, V0, rfl, hI, hs0⟩ fun k a w hk => ?_
  obtain ⟨x, V, rfl, hI, hs⟩ := hk
  have hx := hr x hI
  rw [updPK_eq] at hx
  refine wp_mono (vc_ok hΓ he c hx hs) fun e a' w' hq => ?_
  obtain ⟨V', s', hs', hq⟩ := hq
  cases e with
  | normal =>
    obtain ⟨V1, n2, H2, p1, p2, p3, x', hq⟩ := hq.h En V' w' hs'.hp
    rw [updPK_eq] at hq
    have hs1 := StOk.conv1 (env := s'.env) hs' p1 p2 p3
    obtain ⟨⟨h1, h2⟩, V2, hs2⟩ := LeS_ok hq hs1 he
    exact ⟨m x', h2, x', V2, rfl, h1, hs2⟩
  | _ => exact ⟨V', s', hs', hq⟩
theorem here_at (r : Nat) {Γ : Ctx} {n n0 : Nat} {js : List Nat} {y : Code} {s : St} {Q : Exit → St → Prop} (hr0 : headOf y = some r) (h : HereGoal Γ n n0 js y s Q) : HereGoal Γ n n0 js y s Q := h
theorem Does.to {Γ : Ctx} {f : FuncId} {args : List SV} {H : Hp} {n0 n1 : Nat} {X X' : Type} {cond : X → Prop} {ret : X → SV} {post : X → Hp} {cond' : X' → Prop} {ret' : X' → SV} {post' : X' → Hp} (h : Does Γ f ⟨args, H, n0, n1, X, cond, ret, post⟩)
    (hi : ∀ x (V : Val), cond x → (ret x).bd n1 → ∃ x', cond' x' ∧ (ret' x').bd n1 ∧ (ret x).den Γ.Δ V.ρ = (ret' x').den Γ.Δ V.ρ ∧ ∀ En w, HpOk Γ En V n1 (post x) w → HpOk Γ En V n1 (post' x') w) : Does Γ f ⟨args, H, n0, n1, X', cond', ret', post'⟩ := by
  obtain ⟨h1, h2, h3, h4⟩ := h
  refine ⟨h1, h2, h3, fun V w hp => ?_⟩
  obtain ⟨R, hR, hk⟩ := h4 V w hp
  refine ⟨R, hR, fun v w' hr => ?_⟩
  obtain ⟨x, V', q1, q2, q3, q4, q5⟩ := hk v w' hr
  obtain ⟨x', p1, p2, p3, p4⟩ := hi x V' q1 q3
  exact ⟨x', V', p1, q2.trans p3, p2, q4, p4 _ _ q5⟩
theorem HpOk.less {Γ : Ctx} {En : Ent} {V : Val} {nx : Nat} {H : Hp} {w : World} (hp : HpOk Γ En V nx H w) (c : Nat) : HpOk Γ En V nx (delH H c) w := by
  refine hp.step (F := Nn) (fun d => d = c) (fun _ => False) (Keep.refl _ _) (fun i _ hf => hf.elim) (Nat.le_refl _) (fun _ _ => rfl) (fun d ch hd hn => ?_) (fun _ _ _ hn => hn.elim) (fun _ _ hn => hn.elim)
  rw [lk_del] at hd
  split at hd
  · cases hd
  · rename_i e; exact ⟨e, hd, rfl⟩
end Go.Zz
namespace Go.Zz
open Go.Px Go.RowKit Go.WideShapes Go.ChangeShapes
set_option linter.unusedVariables false
set_option linter.unusedSimpArgs false
set_option linter.unusedSectionVars false
section
variable {Qv : List (PRow V3)} {i j : Nat} {r : Rw}
def headsV (Qv : List (PRow V3)) : List Hdr := Qv.map fun q => (q.1, q.2.2.length, q.2.1)
def rowQ (Qv : List (PRow V3)) (i : Nat) : PRow V3 := Qv.getD i (none, 0, [])
theorem heads_len : (headsV Qv).length = Qv.length := List.length_map _
theorem heads_at : (headsV Qv).getD i encS.d = ((rowQ Qv i).1, (rowQ Qv i).2.2.length, (rowQ Qv i).2.1) := by
  unfold headsV rowQ
  rw [List.getD_eq_getElem?_getD, List.getD_eq_getElem?_getD, List.getElem?_map]
  cases Qv[i]? <;> rfl
theorem rowQ_get (h : i < Qv.length) : Qv[i]? = some (rowQ Qv i) := by
  unfold rowQ; rw [List.getD_eq_getElem?_getD, List.getElem?_eq_getElem h]; rfl
theorem head_den {Δ : Env0} {ρ : Rho} (q : PRow V3) : (SV.raw (.slice ((headsV Qv).getD i encS.d).1 ((headsV Qv).getD i encS.d).2.1 ((headsV Qv).getD i encS.d).2.2)).den Δ ρ = (rowQ Qv i).val := by
  simp only [SV.den]; rw [heads_at]; rfl
end
section
variable {H : Type} {enc : TypeId × Value → H} {P : Program} {W : World} {base : Nat} {spare : Nat → Bool} {held : Bool}
theorem v3_cells (x : List Value) (h : OkCs [some .i64, some .i64, some .i64] x) : ∃ y : V3, x = encV.val y ∧ True := by
  obtain ⟨_, _, rfl, ⟨x1, rfl, _⟩, h1⟩ := h.cons
  obtain ⟨_, _, rfl, ⟨x2, rfl, _⟩, h2⟩ := h1.cons
  obtain ⟨_, _, rfl, ⟨x3, rfl, _⟩, h3⟩ := h2.cons
  obtain rfl := h3.nil
  exact ⟨⟨x1, x2, x3⟩, rfl, trivial⟩
theorem rd_row {e e2 : TypeId} (he : P.underlying e = some (.slice e2)) (hc2 : P.cellsOf e2 = 3) (hs : shapeB P 8 e2 [some .i64, some .i64, some .i64] = true) : Rd enc P W base spare held e 1 fun x => ∃ q : PRow V3, x = encS.val (q.1, q.2.2.length, q.2.1) ∧ Arr W 3 q.1 q.2.2.length q.2.1 (flat encV.val q.2.2) :=
  (Rd.slice he hc2 rfl (Rd.plain rfl hs)).mono fun cs _ hx => by
    obtain ⟨a, l, c, rfl, h1, _⟩ := OkSl.told hx (f := encV.val) (R := fun _ => True) fun x _ h => v3_cells x h
    exact ⟨(a, c, l), rfl, h1⟩
theorem rd_rows {t e e2 : TypeId} (ht : P.underlying t = some (.slice e)) (he : P.underlying e = some (.slice e2)) (hc1 : P.cellsOf e = 1) (hc2 : P.cellsOf e2 = 3) (hs : shapeB P 8 e2 [some .i64, some .i64, some .i64] = true) :
    Rd enc P W base spare held t 1 fun x => ∃ (av : Option Addr) (Qv : List (PRow V3)) (c : Nat), x = [.slice av Qv.length c] ∧ Arr W 1 av Qv.length c (flat encS.val (headsV Qv)) ∧ ∀ q ∈ Qv, Arr W 3 q.1 q.2.2.length q.2.1 (flat encV.val q.2.2) :=
  (Rd.slice ht hc1 rfl (rd_row he hc2 hs)).mono fun cs _ hx => by
    obtain ⟨a, l, c, rfl, h1, h2⟩ := OkSl.told hx (f := fun q : PRow V3 => encS.val (q.1, q.2.2.length, q.2.1)) (R := fun q => Arr W 3 q.1 q.2.2.length q.2.1 (flat encV.val q.2.2)) fun x _ h => h
    refine ⟨a, l, c, rfl, ?_, h2⟩
    have e : flat encS.val (headsV l) = flat (fun q : PRow V3 => encS.val (q.1, q.2.2.length, q.2.1)) l := by
      unfold flat headsV; rw [List.flatMap_map]
    rw [e]; exact h1
theorem open_rowsV {r : Reach} {b0 : Nat} {t e e2 : TypeId} {v : Value} {d : DataW H} {p : List MemPlace} (ht : P.underlying t = some (.slice e)) (he : P.underlying e = some (.slice e2)) (hc1 : P.cellsOf e = 1) (hc2 : P.cellsOf e2 = 3) (hs : shapeB P 8 e2 [some .i64, some .i64, some .i64] = true)
    (hval : Value.okWide P W r b0 t v) (h : DataW.Trod enc P W base spare held t v d p) : ∃ (av : Option Addr) (Qv : List (PRow V3)) (c : Nat), v = .slice av Qv.length c ∧ Arr W 1 av Qv.length c (flat encS.val (headsV Qv)) ∧ ∀ q ∈ Qv, Arr W 3 q.1 q.2.2.length q.2.1 (flat encV.val q.2.2) := by
  obtain ⟨a, len, cap, rfl⟩ := okWide_slice ht hval
  obtain ⟨av, Qv, c, h1, h2, h3⟩ := (rd_rows ht he hc1 hc2 hs).arg (by simp [Value.cells]) h
  simp only [Value.cells, List.cons.injEq, and_true, Value.slice.injEq] at h1
  obtain ⟨rfl, rfl, rfl⟩ := h1
  exact ⟨a, Qv, cap, rfl, h2, h3⟩
theorem bd_u64 {n : Int} (h : (Lit.int .u64 n).wf = true) : 0 ≤ n ∧ n ≤ 18446744073709551615 := by
  simp only [Lit.wf, Bool.and_eq_true, decide_eq_true_eq] at h
  exact h
theorem errs_sub {gs gs' : List Nat} {tp : TypeId} {E : Nat → Addr} (h : Errs gs W tp E) (hs : ∀ g ∈ gs', gs.contains g = true) : Errs gs' W tp E :=
  have hs' : ∀ g, gs'.contains g = true → gs.contains g = true := fun g hg => hs g (by simpa using hg)
  ⟨fun g hg => h.1 g (hs' g hg), fun g hg => h.2 g (hs' g hg), fun g h1 hg hh e => h.3 g h1 (hs' g hg) (hs' h1 hh) e⟩
theorem rows_fo {Qv : List (PRow V3)} (h : ∀ q ∈ Qv, Arr W 3 q.1 q.2.2.length q.2.1 (flat encV.val q.2.2)) (a : Option Addr) : (roPool encV Qv).ok a (fun _ => False) W := fun q hq =>
  ⟨h q hq, fun hl A hA => ⟨id, arr_lt (h q hq) (by decide) hl hA⟩⟩
end
end Go.Zz
namespace Go.Zz
open Go.Px Go.RowKit
theorem laid_tail {P : Program} {W : World} {x : String × DataW Unit} {r : List (String × DataW Unit)} (hno : (x :: r).filter (fun x => x.2.handleName?.isSome) = []) (h : laidMetH P (x :: r) W) :
    laidMetH P r W ∧ ∃ g t cs fuel p, P.globalNamed x.1 = some g ∧ (P.globals[g]?).map (·.type) = some t ∧ W.var? P x.1 = some cs ∧ DataW.trod (fun _ => ()) P W 0 (fun _ => true) false fuel t cs.toList = some (x.2, p) := by
  have hno2 : r.filter (fun x => x.2.handleName?.isSome) = [] := by
    rw [List.filter_cons] at hno
    split at hno
    · cases hno
    · exact hno
  unfold laidMetH at h ⊢
  rw [hno] at h
  rw [hno2]
  obtain ⟨ps, hv, hnd, hrows⟩ := h
  obtain ⟨g, t, cs, fuel, p, q, h1, h2, h3, h4, h5, rfl⟩ := hv
  exact ⟨⟨q, h5, (List.nodup_append.1 hnd).2.1, fun b off hm => hrows b off (List.mem_append.2 (.inr hm))⟩, g, t, cs, fuel, p, h1, h2, h3, h4⟩
theorem tab_of {P : Program} {W : World} {cs : List Value} {fuel n : Nat} {t e : TypeId} {tab : List Nat} {p : List MemPlace} (ht : P.underlying t = some (.array n e)) (he : P.underlying e = some (.int .u8)) (hc : P.cellsOf e = 1) (hn : tab.length = n)
    (h : DataW.trod (H := Unit) (fun _ => ()) P W 0 (fun _ => true) false fuel t cs = some (.agg (tab.map fun j : Nat => .lit (.int .u8 (j : Int))), p)) : ∀ j, j < tab.length → cs[j]? = some (.int .u8 ((tab.getD j 0 : Nat) : Int)) := by
  obtain ⟨xs, m, rfl, hx, hl, hxn, hel⟩ := DataW.trod_array ht h
  intro j hj
  have h1 := hel j (by omega)
  rw [hc, Nat.mul_one] at h1
  have hjx : j < xs.length := by omega
  rw [List.getElem?_eq_getElem hjx] at h1
  obtain ⟨k, h2, h3, _⟩ := DataW.trod_int he h1
  have h4 : (tab.map fun j : Nat => (DataW.lit (.int .u8 (j : Int)) : DataW Unit)) = xs.map (·.1) := by
    have := congrArg Prod.fst hx
    injection this
  have h5 := congrArg (fun l => l[j]?) h4
  simp only [List.getElem?_map, List.getElem?_eq_getElem hjx, List.getElem?_eq_getElem hj, Option.map_some, Option.some.injEq, h3, DataW.lit.injEq, Lit.int.injEq, true_and] at h5
  have h6 := congrArg (fun l => l[0]?) h2
  simp only [List.getElem?_take, List.getElem?_drop, Nat.add_zero, List.getElem?_cons_zero] at h6
  rw [if_pos (by omega)] at h6
  rw [h6, List.getD_eq_getElem?_getD, List.getElem?_eq_getElem hj]
  simp only [Option.getD_some]
  rw [h5]
end Go.Zz
