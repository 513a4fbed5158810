/- Plain words for layer 6, continued: a row without a kind, a row with a component. -/
import Derived.Test.YthofalkkdpjdlaaDoorXp6e
import Derived.Test.YthofalkkdpjdlaaDoorXp6d
namespace Go.Px
set_option linter.unusedVariables false
set_option linter.unusedSimpArgs false

/-- The first place where something holds, or -1. -/
def idxF {α : Type} (p : α → Bool) (l : List α) : Int := match l.findIdx? p with | some i => (i : Int) | none => -1
theorem idxF_here {α : Type} {p : α → Bool} {l : List α} {i : Nat} {d : α} (h : i < l.length) (hp : p (l.getD i d) = true) (hn : ∀ j, j < i → p (l.getD j d) = false) : idxF p l = i := by
  have h1 : l.findIdx? p = some i := by
    rw [List.findIdx?_eq_some_iff_getElem]
    refine ⟨h, by simpa [List.getD_eq_getElem?_getD, h] using hp, fun j hj => ?_⟩
    have hjl : j < l.length := by omega
    have := hn j hj
    simpa [List.getD_eq_getElem?_getD, hjl] using this
  simp [idxF, h1]
theorem idxF_none {α : Type} {p : α → Bool} {l : List α} {d : α} (hn : ∀ j, j < l.length → p (l.getD j d) = false) : idxF p l = -1 := by
  have h1 : l.findIdx? p = none := by
    rw [List.findIdx?_eq_none_iff]
    intro x hx
    obtain ⟨j, hj, rfl⟩ := List.getElem_of_mem hx
    have := hn j hj
    simpa [List.getD_eq_getElem?_getD, hj] using this
  simp [idxF, h1]
theorem no_next {α : Type} {p : α → Bool} {l : List α} {i : Int} {d : α} (h0 : 0 ≤ i) (h : ∀ j, j < i.toNat → p (l.getD j d) = false) (hi : p (l.getD i.toNat d) = false) : ∀ j, j < (i + 1).toNat → p (l.getD j d) = false := fun j hj => by
  rcases Nat.lt_or_ge j i.toNat with h1 | h1
  · exact h j h1
  · obtain rfl : j = i.toNat := by omega
    exact hi
/-- What idxF tells. -/
theorem idxF_spec {α : Type} (p : α → Bool) (d : α) (l : List α) : (idxF p l = -1 ∧ ∀ x ∈ l, p x = false) ∨ ∃ i : Nat, idxF p l = i ∧ i < l.length ∧ p (l.getD i d) = true ∧ ∀ x ∈ l.take i, p x = false := by
  unfold idxF
  cases h : l.findIdx? p with
  | none => exact .inl ⟨rfl, fun x hx => by have := List.findIdx?_eq_none_iff.1 h x hx; exact this⟩
  | some i =>
    obtain ⟨h1, h2, h3⟩ := List.findIdx?_eq_some_iff_getElem.1 h
    refine .inr ⟨i, rfl, h1, by simpa [List.getD_eq_getElem?_getD, h1] using h2, fun x hx => ?_⟩
    obtain ⟨j, hj, rfl⟩ := List.getElem_of_mem hx
    have hj' : j < i := by rw [List.length_take] at hj; omega
    have := h3 j hj'
    simpa using this
/-- The list without those of which p holds. -/
def dropP {α : Type} (p : α → Bool) (l : List α) : List α := l.filter fun x => !p x
theorem dropP_none {α : Type} {p : α → Bool} {l : List α} (h : ∀ x ∈ l, p x = false) : dropP p l = l := List.filter_eq_self.2 fun x hx => by simp [h x hx]
theorem dropP_snoc {α : Type} (p : α → Bool) (l : List α) (x : α) : dropP p (l ++ [x]) = dropP p l ++ (if p x = true then [] else [x]) := by
  unfold dropP
  rw [List.filter_append, List.filter_cons, List.filter_nil]
  cases p x <;> simp
theorem dropP_len {α : Type} (p : α → Bool) (l : List α) : (dropP p l).length ≤ l.length := List.length_filter_le ..
/-- The walk of a list that is cut in place: the first i are what has been kept of the first j. -/
structure Cut {α : Type} (p : α → Bool) (l ll : List α) (i j : Nat) : Prop where
  len : ll.length = l.length
  kept : ll.take i = dropP p (l.take j)
  rest : ll.drop j = l.drop j
  le : i < j
  jl : j ≤ l.length
theorem Cut.start {α : Type} {p : α → Bool} {l : List α} {i : Nat} {d : α} (h : i < l.length) (hp : p (l.getD i d) = true) (hn : ∀ x ∈ l.take i, p x = false) : Cut p l l i (i + 1) := by
  refine ⟨rfl, ?_, rfl, by omega, h⟩
  rw [take_snoc (d := d) h]
  unfold dropP
  rw [List.filter_append, List.filter_cons, hp]
  simp only [Bool.not_true, Bool.false_eq_true, if_false, List.filter_nil, List.append_nil]
  exact (dropP_none hn).symm
theorem getD_of_drop {α : Type} {l ll : List α} {j : Nat} {d : α} (h : ll.drop j = l.drop j) : ll.getD j d = l.getD j d := by
  have h1 : (ll.drop j)[0]? = (l.drop j)[0]? := by rw [h]
  simp only [List.getElem?_drop, Nat.add_zero] at h1
  simp [List.getD_eq_getElem?_getD, h1]
theorem drop_next {α : Type} {l ll : List α} {j : Nat} (h : ll.drop j = l.drop j) : ll.drop (j + 1) = l.drop (j + 1) := by
  rw [← List.drop_drop, h, List.drop_drop]
theorem Cut.skip {α : Type} {p : α → Bool} {l ll : List α} {i j : Nat} {d : α} (h : Cut p l ll i j) (hj : j < l.length) (hp : p (ll.getD j d) = true) : Cut p l ll i (j + 1) := by
  refine ⟨h.len, ?_, drop_next h.rest, by have := h.le; omega, hj⟩
  rw [getD_of_drop h.rest] at hp
  rw [h.kept, take_snoc (d := d) hj]
  unfold dropP
  rw [List.filter_append, List.filter_cons, hp]
  simp
theorem Cut.keep {α : Type} {p : α → Bool} {l ll : List α} {i j : Nat} {d : α} (h : Cut p l ll i j) (hj : j < l.length) (hp : p (ll.getD j d) = false) : Cut p l (ll.set i (ll.getD j d)) (i + 1) (j + 1) := by
  have hle := h.le
  have hlen := h.len
  refine ⟨by simpa using h.len, ?_, ?_, by omega, hj⟩
  · have e : (ll.set i (ll.getD j d)).take (i + 1) = ll.take i ++ [ll.getD j d] := by
      rw [take_snoc (d := d) (by simp; omega), List.take_set_of_le (Nat.le_refl _)]
      congr 2
      simp [List.getD_eq_getElem?_getD, show i < ll.length by omega]
    rw [e, h.kept, getD_of_drop h.rest, take_snoc (d := d) hj]
    rw [getD_of_drop h.rest] at hp
    unfold dropP
    rw [List.filter_append, List.filter_cons, hp]
    simp
  · rw [List.drop_set_of_lt (by omega)]
    exact drop_next h.rest
theorem Cut.done {α : Type} {p : α → Bool} {l ll : List α} {i j : Nat} (h : Cut p l ll i j) (hj : l.length ≤ j) (r : List α) : (ll.take i ++ r).take i = dropP p l := by
  have hle := h.le
  have hlen := h.len
  have hjl := h.jl
  rw [List.take_append_of_le_length (by rw [List.length_take]; omega), List.take_take, Nat.min_self, h.kept, List.take_of_length_le hj]

theorem Cut.lenEq {α : Type} {p : α → Bool} {l ll : List α} {i j : Nat} (h : Cut p l ll i j) (hj : l.length ≤ j) : i = (dropP p l).length := by
  have hle := h.le
  have hlen := h.len
  have hjl := h.jl
  have h1 := congrArg List.length h.kept
  rw [List.take_of_length_le hj, List.length_take] at h1
  omega
/-- A row without a kind. -/
def dropV (l : List V3) (k : Int) : List V3 := dropP (fun v => v.k == k) l
theorem dropV_zero (kk : Int) : dropV [] kk = [] := rfl
theorem dropV_in {l : List V3} {kk i : Int} (h : 0 ≤ i ∧ i < (l.length : Int)) (hk : ¬ (l.getD i.toNat ⟨0, 0, 0⟩).k = kk) : dropV (l.take (i + 1).toNat) kk = dropV (l.take i.toNat) kk ++ [l.getD i.toNat ⟨0, 0, 0⟩] := by
  rw [take_next (d := ⟨0, 0, 0⟩) h]
  unfold dropV
  rw [dropP_snoc, if_neg (by simpa using hk)]
theorem dropV_out {l : List V3} {kk i : Int} (h : 0 ≤ i ∧ i < (l.length : Int)) (hk : (l.getD i.toNat ⟨0, 0, 0⟩).k = kk) : dropV (l.take (i + 1).toNat) kk = dropV (l.take i.toNat) kk := by
  rw [take_next (d := ⟨0, 0, 0⟩) h]
  unfold dropV
  rw [dropP_snoc, if_pos (by simpa using hk), List.append_nil]
theorem dropV_len (l : List V3) (kk : Int) : (dropV l kk).length ≤ l.length := dropP_len _ _
theorem mem_dropV {l : List V3} {kk : Int} {v : V3} : v ∈ dropV l kk ↔ v ∈ l ∧ v.k ≠ kk := by simp [dropV, dropP]
/-- A row with a component, yet in no order. -/
def putL (l : List V3) (v : V3) : List V3 := dropV l v.k ++ [v]
theorem firstBad_of {r : List V3} (h : ∀ v ∈ r, vcheck v = 0) : firstBad r = 0 := by
  induction r with
  | nil => rfl
  | cons x r ih => simp only [firstBad]; rw [if_pos (h x (by simp))]; exact ih fun v hv => h v (by simp [hv])
theorem putL_bad {l : List V3} {v : V3} (h0 : firstBad l = 0) (hv : vcheck v = 0) : firstBad (putL l v) = 0 := by
  refine firstBad_of fun u hu => ?_
  simp only [putL, List.mem_append, List.mem_singleton] at hu
  rcases hu with hu | rfl
  · exact firstBad_all h0 u (mem_dropV.1 hu).1
  · exact hv
theorem dropV_nd {l : List V3} (hn : noDup l = true) (kk : Int) : noDup (dropV l kk) = true := by
  rw [noDup_iff] at hn ⊢
  exact hn.sublist ((List.filter_sublist (l := l)).map _)
theorem putL_nd {l : List V3} {v : V3} (hn : noDup l = true) : noDup (putL l v) = true := by
  have h1 := noDup_iff.1 (dropV_nd hn v.k)
  rw [noDup_iff]
  simp only [putL, List.map_append, List.map_cons, List.map_nil]
  rw [List.nodup_append]
  refine ⟨h1, by simp, fun a ha b hb => ?_⟩
  obtain ⟨u, hu, rfl⟩ := List.mem_map.1 ha
  obtain rfl : b = v.k := by simpa using hb
  exact (mem_dropV.1 hu).2
end Go.Px
