/- Texts put together: Xp6, Xp6b, Xp6c, Xp6e, Xp6d, Xp6f. -/
import Derived.Test.YthofalkkdpjdlaaDoorX9
namespace Go.Px
set_option linter.unusedVariables false
set_option linter.unusedSimpArgs false

/-- A component: its kind and its two numbers. -/
structure V3 where
  k : Int
  a : Int
  b : Int
  deriving DecidableEq, Inhabited

def fI (x : Int) : List Value := [.int .i64 x]
def fB (x : Bool) : List Value := [.bool x]
def fV (x : V3) : List Value := [.int .i64 x.k, .int .i64 x.a, .int .i64 x.b]
theorem fI_one (x : Int) : ∀ u ∈ fI x, u.oneCell' = true := by intro u hu; simp [fI] at hu; subst hu; rfl
theorem fB_one (x : Bool) : ∀ u ∈ fB x, u.oneCell' = true := by intro u hu; simp [fB] at hu; subst hu; rfl
theorem fV_one (x : V3) : ∀ u ∈ fV x, u.oneCell' = true := by intro u hu; simp [fV] at hu; rcases hu with rfl | rfl | rfl <;> rfl

/-- A component's check: 0: it is right; 5: no such kind; 1: out of range. -/
def vkind (v : V3) : Bool := decide (0 ≤ v.k ∧ v.k ≤ 9)
def vrange (v : V3) : Bool :=
  if v.k = 0 ∨ v.k = 2 then decide (-1048576 ≤ v.a ∧ v.a ≤ 1048576 ∧ -1048576 ≤ v.b ∧ v.b ≤ 1048576)
  else if v.k = 1 then decide (0 ≤ v.a ∧ v.a ≤ 1048576 ∧ 0 ≤ v.b ∧ v.b ≤ 1048576)
  else if v.k = 3 then decide (v.a = 0 ∧ v.b = 0)
  else if v.k = 4 then decide (0 ≤ v.a ∧ v.a ≤ 255 ∧ v.b = 0)
  else if v.k = 5 then decide (0 ≤ v.a ∧ v.a ≤ 1048576 ∧ v.b = 0)
  else decide (-4194304 ≤ v.a ∧ v.a ≤ 4194304 ∧ -4194304 ≤ v.b ∧ v.b ≤ 4194304)
def vcheck (v : V3) : Int := if vkind v then (if vrange v then 0 else 1) else 5
theorem vcheck_eq (k x y : Int) : vcheck ⟨k, x, y⟩ =
    if ¬ (0 ≤ k ∧ k ≤ 9) then 5
    else if k = 0 ∨ k = 2 then (if -1048576 ≤ x ∧ x ≤ 1048576 ∧ -1048576 ≤ y ∧ y ≤ 1048576 then 0 else 1)
    else if k = 1 then (if 0 ≤ x ∧ x ≤ 1048576 ∧ 0 ≤ y ∧ y ≤ 1048576 then 0 else 1)
    else if k = 3 then (if x = 0 ∧ y = 0 then 0 else 1)
    else if k = 4 then (if 0 ≤ x ∧ x ≤ 255 ∧ y = 0 then 0 else 1)
    else if k = 5 then (if 0 ≤ x ∧ x ≤ 1048576 ∧ y = 0 then 0 else 1)
    else (if -4194304 ≤ x ∧ x ≤ 4194304 ∧ -4194304 ≤ y ∧ y ≤ 4194304 then 0 else 1) := by
  unfold vcheck vkind vrange
  by_cases h9 : 0 ≤ k ∧ k ≤ 9
  · by_cases h0 : k = 0 ∨ k = 2
    · simp [h9, h0]
    · by_cases h1 : k = 1
      · simp [h1]
      · by_cases h3 : k = 3
        · simp [h3]
        · by_cases h4 : k = 4
          · simp [h4]
          · by_cases h5 : k = 5
            · simp [h5]
            · simp [h9, h0, h1, h3, h4, h5]
  · simp [h9]
/-- The first check that fails. -/
def firstBad : List V3 → Int
  | [] => 0
  | v :: r => if vcheck v = 0 then firstBad r else vcheck v
/-- The components in the order of their kinds. -/
def byKinds (l : List V3) (n : Nat) : List V3 := (List.range n).flatMap fun k : Nat => l.filter fun v => v.k == (k : Int)

def v0 : V3 := ⟨0, 0, 0⟩
theorem drop_cons {α : Type} {l : List α} {i : Nat} {d : α} (h : i < l.length) : l.drop i = l.getD i d :: l.drop (i + 1) := by
  rw [List.drop_eq_getElem_cons h]
  simp [List.getD_eq_getElem?_getD, h]
theorem take_snoc {α : Type} {l : List α} {i : Nat} {d : α} (h : i < l.length) : l.take (i + 1) = l.take i ++ [l.getD i d] := by
  rw [List.take_add_one]
  simp [List.getD_eq_getElem?_getD, h]
theorem firstBad_step {l : List V3} {i : Nat} {d : V3} (h : i < l.length) : firstBad (l.drop i) = if vcheck (l.getD i d) = 0 then firstBad (l.drop (i + 1)) else vcheck (l.getD i d) := by
  rw [drop_cons (d := d) h]
  rfl
theorem vcheck_vals (v : V3) : vcheck v = 0 ∨ vcheck v = 1 ∨ vcheck v = 5 := by unfold vcheck; split <;> (try split) <;> simp
theorem vcheck_kind {v : V3} (h : vkind v = false) : vcheck v = 5 := by simp [vcheck, h]
theorem vcheck_range {v : V3} (h : vkind v = true) (h2 : vrange v = false) : vcheck v = 1 := by simp [vcheck, h, h2]
theorem vcheck_ok {v : V3} (h : vkind v = true) (h2 : vrange v = true) : vcheck v = 0 := by simp [vcheck, h, h2]
theorem firstBad_vals : ∀ l, firstBad l = 0 ∨ firstBad l = 1 ∨ firstBad l = 5
  | [] => .inl rfl
  | v :: r => by
    rcases vcheck_vals v with h | h | h <;> simp only [firstBad, h] <;> first | (simp; exact firstBad_vals r) | simp
theorem firstBad_all : ∀ {l : List V3}, firstBad l = 0 → ∀ v ∈ l, vcheck v = 0
  | [], _, v, h => by simp at h
  | x :: r, h0, v, h => by
    simp only [firstBad] at h0
    split at h0
    · rename_i hx
      rcases List.mem_cons.1 h with rfl | h
      · exact hx
      · exact firstBad_all h0 v h
    · rename_i hx; exact absurd h0 hx
/-- Is a row right? -/
def rightV (l : List V3) : Bool := decide (∀ j, j < l.length → vcheck (l.getD j v0) = 0 ∧ (0 < j → (l.getD (j - 1) v0).k < (l.getD j v0).k))
end Go.Px

namespace Go.Px
set_option linter.unusedVariables false
set_option linter.unusedSimpArgs false
/-- No two of one kind? -/
def noDup (l : List V3) : Bool := decide ((l.map (·.k)).Nodup)
theorem noDup_iff {l : List V3} : noDup l = true ↔ (l.map (·.k)).Nodup := by simp [noDup]

theorem byKinds_succ (l : List V3) (n : Nat) : byKinds l (n + 1) = byKinds l n ++ l.filter fun v => v.k == (n : Int) := by
  simp [byKinds, List.range_succ, List.flatMap_append]
theorem mem_byKinds {l : List V3} {v : V3} : ∀ {n : Nat}, v ∈ byKinds l n ↔ v ∈ l ∧ 0 ≤ v.k ∧ v.k < n
  | 0 => by
    simp only [byKinds, List.range_zero, List.flatMap_nil, List.not_mem_nil, false_iff]
    omega
  | n + 1 => by
    rw [byKinds_succ, List.mem_append, mem_byKinds, List.mem_filter, beq_iff_eq]
    constructor
    · rintro (⟨h1, h2, h3⟩ | ⟨h1, h2⟩)
      · exact ⟨h1, h2, by omega⟩
      · exact ⟨h1, by omega, by omega⟩
    · rintro ⟨h1, h2, h3⟩
      by_cases h : v.k = n
      · exact .inr ⟨h1, h⟩
      · exact .inl ⟨h1, h2, by omega⟩
theorem filter_split (p q r : V3 → Bool) (h : ∀ v, p v = (q v || r v)) (h2 : ∀ v, q v = true → r v = false) : ∀ l : List V3, (l.filter q ++ l.filter r).Perm (l.filter p)
  | [] => List.Perm.refl _
  | x :: l => by
    have ih := filter_split p q r h h2 l
    have hx := h x
    cases hq : q x with
    | true =>
      have hr := h2 x hq
      rw [hq] at hx
      simp only [List.filter_cons, hq, hr, hx, Bool.true_or, if_true, Bool.false_eq_true, if_false, List.cons_append]
      exact ih.cons _
    | false =>
      rw [hq, Bool.false_or] at hx
      cases hr : r x with
      | true =>
        rw [hr] at hx
        simp only [List.filter_cons, hq, hr, hx, if_true, Bool.false_eq_true, if_false]
        exact List.perm_middle.trans (ih.cons _)
      | false =>
        rw [hr] at hx
        simp only [List.filter_cons, hq, hr, hx, Bool.false_eq_true, if_false]
        exact ih
theorem byKinds_perm (l : List V3) : ∀ n : Nat, (byKinds l n).Perm (l.filter fun v => decide (0 ≤ v.k ∧ v.k < n))
  | 0 => by
    have h : (l.filter fun v : V3 => decide (0 ≤ v.k ∧ v.k < ((0 : Nat) : Int))) = [] := by
      rw [List.filter_eq_nil_iff]
      intro v _
      simp only [decide_eq_true_eq]
      omega
    rw [h]
    exact List.Perm.refl _
  | n + 1 => by
    rw [byKinds_succ]
    refine ((byKinds_perm l n).append_right _).trans ?_
    refine filter_split _ _ _ (fun v => ?_) (fun v hv => ?_) l
    · rw [Bool.eq_iff_iff]
      simp only [decide_eq_true_eq, Bool.or_eq_true, beq_iff_eq]
      omega
    · simp only [decide_eq_true_eq] at hv
      simp
      omega
theorem byKinds_sorted {l : List V3} (h : (l.map (·.k)).Nodup) : ∀ n : Nat, (byKinds l n).Pairwise fun x y => x.k < y.k
  | 0 => by simp [byKinds]
  | n + 1 => by
    rw [byKinds_succ, List.pairwise_append]
    refine ⟨byKinds_sorted h n, ?_, fun x hx y hy => ?_⟩
    · have h1 : (l.Pairwise fun x y => x.k ≠ y.k) := by
        have := h
        rw [List.Nodup, List.pairwise_map] at this
        exact this
      have h2 := h1.filter (fun v => v.k == (n : Int))
      refine h2.imp_of_mem fun {x y} hx hy hxy => ?_
      have hx := (List.mem_filter.1 hx).2
      have hy := (List.mem_filter.1 hy).2
      simp only [beq_iff_eq] at hx hy
      exact absurd (hx.trans hy.symm) hxy
    · have hx := (mem_byKinds.1 hx).2.2
      have hy := (List.mem_filter.1 hy).2
      simp only [beq_iff_eq] at hy
      omega
theorem kinds_of {l : List V3} (h : firstBad l = 0) : ∀ v ∈ l, 0 ≤ v.k ∧ v.k ≤ 9 := fun v hv => by
  have h1 := firstBad_all h v hv
  unfold vcheck at h1
  split at h1
  · rename_i h2
    simpa [vkind] using h2
  · omega
theorem byKinds_all {l : List V3} (h : firstBad l = 0) : (byKinds l 10).Perm l := by
  refine (byKinds_perm l 10).trans ?_
  rw [List.filter_eq_self.2 fun v hv => ?_]
  have := kinds_of h v hv
  simp
  omega
theorem strict_of {ls : List V3} (hs : ls.Pairwise fun x y => x.k ≤ y.k) (hn : (ls.map (·.k)).Nodup) : ls.Pairwise fun x y => x.k < y.k := by
  have h1 : (ls.Pairwise fun x y => x.k ≠ y.k) := by
    have := hn
    rw [List.Nodup, List.pairwise_map] at this
    exact this
  exact (hs.and h1).imp fun {x y} h => by omega
theorem sorted_eq {l ls : List V3} (hp : ls.Perm l) (hs : ls.Pairwise fun x y => x.k ≤ y.k) (h0 : firstBad l = 0) (hn : noDup l = true) : ls = byKinds l 10 := by
  rw [noDup_iff] at hn
  have hn2 : (ls.map (·.k)).Nodup := (hp.map _).nodup_iff.2 hn
  exact List.Perm.eq_of_pairwise (le := fun x y : V3 => x.k < y.k) (fun x y _ _ h1 h2 => by omega) (strict_of hs hn2) (byKinds_sorted hn 10) (hp.trans (byKinds_all h0).symm)
theorem right_strict {ls : List V3} (h : rightV ls = true) : ls.Pairwise fun x y => x.k < y.k := by
  simp only [rightV, decide_eq_true_eq] at h
  rw [List.pairwise_iff_getElem]
  intro i j hi hj hij
  have key : ∀ m, i + m + 1 < ls.length → (ls.getD i v0).k < (ls.getD (i + m + 1) v0).k := by
    intro m
    induction m with
    | zero => intro hm; simpa using (h (i + 1) hm).2 (by omega)
    | succ m ih =>
      intro hm
      have h1 := ih (by omega)
      have h2 := (h (i + (m + 1) + 1) hm).2 (by omega)
      rw [show i + (m + 1) + 1 - 1 = i + m + 1 by omega] at h2
      omega
  have h2 := key (j - i - 1) (by omega)
  rw [show i + (j - i - 1) + 1 = j by omega] at h2
  simpa [List.getD_eq_getElem?_getD, hi, hj] using h2
theorem right_of {ls : List V3} (h0 : firstBad ls = 0) (hs : ls.Pairwise fun x y => x.k < y.k) : rightV ls = true := by
  simp only [rightV, decide_eq_true_eq]
  intro j hj
  have hm : ls.getD j v0 ∈ ls := by simp [List.getD_eq_getElem?_getD, hj]
  refine ⟨firstBad_all h0 _ hm, fun hj0 => ?_⟩
  have hj' : j - 1 < ls.length := by omega
  have h1 := (List.pairwise_iff_getElem.1 hs) (j - 1) j hj' hj (by omega)
  simpa [List.getD_eq_getElem?_getD, hj, hj'] using h1
theorem firstBad_perm {l ls : List V3} (hp : ls.Perm l) (h0 : firstBad l = 0) : firstBad ls = 0 := by
  have key : ∀ r : List V3, (∀ v ∈ r, vcheck v = 0) → firstBad r = 0 := by
    intro r
    induction r with
    | nil => intro _; rfl
    | cons x r ih => intro h; simp only [firstBad]; rw [if_pos (h x (by simp))]; exact ih fun v hv => h v (by simp [hv])
  exact key ls fun v hv => firstBad_all h0 v (hp.mem_iff.1 hv)
theorem sorted_right {l ls : List V3} (hp : ls.Perm l) (hs : ls.Pairwise fun x y => x.k ≤ y.k) (h0 : firstBad l = 0) : rightV ls = noDup l := by
  cases hn : noDup l with
  | true =>
    rw [noDup_iff] at hn
    exact right_of (firstBad_perm hp h0) (strict_of hs ((hp.map _).nodup_iff.2 hn))
  | false =>
    cases hr : rightV ls with
    | false => rfl
    | true =>
      have h1 := right_strict hr
      have h2 : (ls.map (·.k)).Nodup := by
        rw [List.Nodup, List.pairwise_map]
        exact h1.imp fun {x y} h => by omega
      have h3 := noDup_iff.2 ((hp.map _).nodup_iff.1 h2)
      rw [hn] at h3
      cases h3
end Go.Px

namespace Go.Px
set_option linter.unusedVariables false
set_option linter.unusedSimpArgs false
/-- A row's component of a kind, or the one of no fields. -/
def findV (l : List V3) (k : Int) : V3 := (l.find? fun v => v.k == k).getD v0
def hasV (l : List V3) (k : Int) : Bool := (l.find? fun v => v.k == k).isSome
theorem find_next {l : List V3} {i : Nat} {k : Int} {d : V3} (h : (l.drop i).find? (fun v => v.k == k) = l.find? fun v => v.k == k) (hi : i < l.length) (hk : ¬ (l.getD i d).k = k) : (l.drop (i + 1)).find? (fun v => v.k == k) = l.find? fun v => v.k == k := by
  rw [drop_cons (d := d) hi, List.find?_cons] at h
  have : ((l.getD i d).k == k) = false := by simpa using hk
  rw [this] at h
  exact h
theorem find_here {l : List V3} {i : Nat} {k : Int} {d : V3} (h : (l.drop i).find? (fun v => v.k == k) = l.find? fun v => v.k == k) (hi : i < l.length) (hk : (l.getD i d).k = k) : findV l k = l.getD i d ∧ hasV l k = true := by
  rw [drop_cons (d := d) hi, List.find?_cons] at h
  have : ((l.getD i d).k == k) = true := by simpa using hk
  rw [this] at h
  simp only at h
  simp [findV, hasV, ← h]
theorem find_none {l : List V3} {i : Nat} {k : Int} (h : (l.drop i).find? (fun v => v.k == k) = l.find? fun v => v.k == k) (hi : l.length ≤ i) : findV l k = v0 ∧ hasV l k = false := by
  rw [List.drop_eq_nil_of_le hi] at h
  simp only [List.find?_nil] at h
  simp [findV, hasV, ← h]
end Go.Px

namespace Go.Px
set_option linter.unusedVariables false
set_option linter.unusedSimpArgs false

theorem list_eq_getD {α : Type} {l m : List α} (d : α) (hn : l.length = m.length) (h : ∀ j, j < l.length → l.getD j d = m.getD j d) : l = m := by
  refine List.ext_getElem hn fun i h1 h2 => ?_
  have := h i h1
  simpa [List.getD_eq_getElem?_getD, h1, h2] using this
/-- Are two lists the same? -/
def sameL {α : Type} [DecidableEq α] (l m : List α) : Bool := decide (l = m)
section
variable {α : Type} [DecidableEq α] {l m : List α}
theorem sameL_len (h : ¬ (l.length : Int) = (m.length : Int)) : sameL l m = false := by
  simp only [sameL, decide_eq_false_iff_not]
  rintro rfl
  exact h rfl
theorem sameL_at {j : Nat} (d : α) (h : l.getD j d ≠ m.getD j d) : sameL l m = false := by
  simp only [sameL, decide_eq_false_iff_not]
  rintro rfl
  exact h rfl
theorem sameL_all (d : α) (hn : l.length = m.length) (h : ∀ j, j < l.length → l.getD j d = m.getD j d) : sameL l m = true := by
  simp only [sameL, decide_eq_true_eq]
  exact list_eq_getD _ hn h
theorem sameL_refl (l : List α) : sameL l l = true := by simp [sameL]
end
theorem same_next {α : Type} {l m : List α} {i : Int} (d : α) (h0 : 0 ≤ i) (h : ∀ j, j < i.toNat → l.getD j d = m.getD j d) (hi : l.getD i.toNat d = m.getD i.toNat d) : ∀ j, j < (i + 1).toNat → l.getD j d = m.getD j d := fun j hj => by
  rcases Nat.lt_or_ge j i.toNat with h1 | h1
  · exact h j h1
  · obtain rfl : j = i.toNat := by omega
    exact hi
theorem v3_eq {x y : V3} (h : x.k = y.k ∧ x.a = y.a ∧ x.b = y.b) : x = y := by
  cases x; cases y; simp_all
theorem v3_ne {x y : V3} (h : ¬ (x.k = y.k ∧ x.a = y.a ∧ x.b = y.b)) : x ≠ y := by
  rintro rfl; exact h ⟨rfl, rfl, rfl⟩

theorem v3_neB {x y : V3} (h : (!((x.k == y.k) && ((x.a == y.a) && (x.b == y.b)))) = true) : x ≠ y := by
  rintro rfl; simp at h
theorem v3_eqB {x y : V3} (h : (!((x.k == y.k) && ((x.a == y.a) && (x.b == y.b)))) = false) : x = y := by
  cases x; cases y; simp_all
/-- Is a row right, by the document: it is the row that it makes. -/
theorem rright_eq {l : List V3} (h0 : firstBad l = 0) (hn : noDup l = true) : sameL l (byKinds l 10) = rightV l := by
  rw [Bool.eq_iff_iff]
  simp only [sameL, decide_eq_true_eq]
  constructor
  · intro h
    have hs := byKinds_sorted (noDup_iff.1 hn) 10
    rw [← h] at hs
    exact right_of h0 hs
  · intro h
    exact sorted_eq (List.Perm.refl _) ((right_strict h).imp fun {x y} h => by omega) h0 hn
theorem rightV_bad {l : List V3} (h : firstBad l ≠ 0) : rightV l = false := by
  simp only [rightV, decide_eq_false_iff_not]
  intro hr
  apply h
  have key : ∀ r : List V3, (∀ v ∈ r, vcheck v = 0) → firstBad r = 0 := by
    intro r
    induction r with
    | nil => intro _; rfl
    | cons x r ih => intro h; simp only [firstBad]; rw [if_pos (h x (by simp))]; exact ih fun v hv => h v (by simp [hv])
  refine key l fun v hv => ?_
  obtain ⟨j, hj, rfl⟩ := List.getElem_of_mem hv
  have := (hr j hj).1
  simpa [List.getD_eq_getElem?_getD, hj] using this
theorem rightV_dup {l : List V3} (h : noDup l = false) : rightV l = false := by
  cases hr : rightV l with
  | false => rfl
  | true =>
    have h1 := right_strict hr
    have h2 : (l.map (·.k)).Nodup := by
      rw [List.Nodup, List.pairwise_map]
      exact h1.imp fun {x y} h => by omega
    rw [noDup_iff.2 h2] at h
    cases h

theorem snoc_ind {α : Type} {m : List α → Prop} (h0 : m []) (h1 : ∀ l x, m l → m (l ++ [x])) (l : List α) : m l := by
  have h : ∀ r : List α, m r.reverse := fun r => by
    induction r with
    | nil => exact h0
    | cons x r ih => rw [List.reverse_cons]; exact h1 _ _ ih
  simpa using h l.reverse
/-- A kind's bit; a row's mask. -/
def bitN (k : Int) : Nat := 2 ^ k.toNat
def maskN (l : List V3) : Nat := l.foldl (fun m v => m ||| bitN v.k) 0
theorem bits_u64 : IntKind.u64.bits = 64 := rfl
theorem ofInt_nat {a : Nat} (ha : a < 2 ^ 64) : (BitVec.ofInt IntKind.u64.bits (a : Int)).toNat = a := by
  show (BitVec.ofInt 64 (a : Int)).toNat = a
  rw [BitVec.ofInt_natCast, BitVec.toNat_ofNat]
  exact Nat.mod_eq_of_lt ha
theorem wrap_nat {a : Nat} (ha : a < 2 ^ 64) : IntKind.u64.wrap (a : Int) = a := by
  rw [IntKind.wrap_u64]
  omega
theorem or_u64 {a b : Nat} (ha : a < 2 ^ 64) (hb : b < 2 ^ 64) :
    Value.int .u64 (IntKind.u64.wrap ((BitVec.ofInt IntKind.u64.bits (a : Int) ||| (BitVec.ofInt IntKind.u64.bits (b : Int)) : BitVec IntKind.u64.bits).toNat : Int)) = .int .u64 ((a ||| b : Nat) : Int) := by
  rw [BitVec.toNat_or, ofInt_nat ha, ofInt_nat hb, wrap_nat (Nat.or_lt_two_pow ha hb)]
theorem or_u64_0 {b : Nat} (hb : b < 2 ^ 64) :
    Value.int .u64 (IntKind.u64.wrap ((BitVec.ofInt IntKind.u64.bits 0 ||| (BitVec.ofInt IntKind.u64.bits (b : Int)) : BitVec IntKind.u64.bits).toNat : Int)) = .int .u64 ((b : Nat) : Int) := by
  have := or_u64 (a := 0) (b := b) (by decide) hb
  simpa using this
theorem and_u64 {a b : Nat} (ha : a < 2 ^ 64) (hb : b < 2 ^ 64) :
    Value.int .u64 (IntKind.u64.wrap ((BitVec.ofInt IntKind.u64.bits (a : Int) &&& (BitVec.ofInt IntKind.u64.bits (b : Int)) : BitVec IntKind.u64.bits).toNat : Int)) = .int .u64 ((a &&& b : Nat) : Int) := by
  rw [BitVec.toNat_and, ofInt_nat ha, ofInt_nat hb, wrap_nat (Nat.lt_of_le_of_lt Nat.and_le_left ha)]
/-- What is in one and not in the other. -/
def lessN (a b : Nat) : Nat := a &&& (2 ^ 64 - 1 - b)
theorem andNot_u64 {a b : Nat} (ha : a < 2 ^ 64) (hb : b < 2 ^ 64) :
    Value.int .u64 (IntKind.u64.wrap ((BitVec.ofInt IntKind.u64.bits (a : Int) &&& ~~~(BitVec.ofInt IntKind.u64.bits (b : Int)) : BitVec IntKind.u64.bits).toNat : Int)) = .int .u64 ((lessN a b : Nat) : Int) := by
  rw [BitVec.toNat_and, BitVec.toNat_not, ofInt_nat ha, ofInt_nat hb, bits_u64, wrap_nat (Nat.lt_of_le_of_lt Nat.and_le_left ha)]
  rfl
theorem lessN_lt {a b : Nat} (ha : a < 2 ^ 64) : lessN a b < 2 ^ 64 := Nat.lt_of_le_of_lt Nat.and_le_left ha
theorem testBit_less {a b i : Nat} (hb : b < 2 ^ 64) (hi : i < 64) : (lessN a b).testBit i = (a.testBit i && !b.testBit i) := by
  unfold lessN
  rw [Nat.testBit_and, show 2 ^ 64 - 1 - b = 2 ^ 64 - (b + 1) by omega, Nat.testBit_two_pow_sub_succ hb]
  simp [hi]
theorem bitN_lt {k : Int} (h : 0 ≤ k ∧ k ≤ 9) : bitN k < 2 ^ 10 := Nat.pow_lt_pow_right (by omega) (by omega)
theorem bitN_lt' {k : Int} (h : 0 ≤ k ∧ k ≤ 9) : bitN k < 2 ^ 64 := Nat.lt_of_lt_of_le (bitN_lt h) (by decide)
theorem bitN_pos (k : Int) : 0 < bitN k := Nat.two_pow_pos _
theorem shl_bit {k : Int} (h : 0 ≤ k ∧ k ≤ 9) : Value.int .u64 (IntKind.u64.wrap (1 * 2 ^ (min k.toNat IntKind.u64.bits))) = .int .u64 ((bitN k : Nat) : Int) := by
  have h1 : min k.toNat IntKind.u64.bits = k.toNat := by show min k.toNat 64 = k.toNat; omega
  rw [h1, show (1 * 2 ^ k.toNat : Int) = ((bitN k : Nat) : Int) by simp [bitN], wrap_nat (bitN_lt' h)]
theorem maskN_snoc (l : List V3) (v : V3) : maskN (l ++ [v]) = maskN l ||| bitN v.k := by simp [maskN]
theorem maskN_lt {l : List V3} : (∀ v ∈ l, 0 ≤ v.k ∧ v.k ≤ 9) → maskN l < 2 ^ 10 := by
  refine snoc_ind (m := fun l => (∀ v ∈ l, 0 ≤ v.k ∧ v.k ≤ 9) → maskN l < 2 ^ 10) (fun _ => by decide) (fun l v ih h => ?_) l
  rw [maskN_snoc]
  exact Nat.or_lt_two_pow (ih fun u hu => h u (by simp [hu])) (bitN_lt (h v (by simp)))
theorem maskN_next {l : List V3} {i : Int} (h : 0 ≤ i ∧ i < (l.length : Int)) : maskN (l.take (i + 1).toNat) = maskN (l.take i.toNat) ||| bitN (l.getD i.toNat ⟨0, 0, 0⟩).k := by
  rw [show (i + 1).toNat = i.toNat + 1 by omega, take_snoc (d := ⟨0, 0, 0⟩) (by omega), maskN_snoc]
theorem kinds_take {l : List V3} (h : ∀ v ∈ l, 0 ≤ v.k ∧ v.k ≤ 9) (n : Nat) : ∀ v ∈ l.take n, 0 ≤ v.k ∧ v.k ≤ 9 := fun v hv => h v (List.mem_of_mem_take hv)
theorem kinds_at {l : List V3} (h : ∀ v ∈ l, 0 ≤ v.k ∧ v.k ≤ 9) {i : Int} (hi : 0 ≤ i ∧ i < (l.length : Int)) : 0 ≤ (l.getD i.toNat ⟨0, 0, 0⟩).k ∧ (l.getD i.toNat ⟨0, 0, 0⟩).k ≤ 9 := by
  refine h _ ?_
  have hj : i.toNat < l.length := by omega
  simp [List.getD_eq_getElem?_getD, hj]
theorem kinds_byKinds {l : List V3} (h : firstBad l = 0) : ∀ v ∈ byKinds l 10, 0 ≤ v.k ∧ v.k ≤ 9 := fun v hv => kinds_of h v (mem_byKinds.1 hv).1
theorem maskN_lt64 {l : List V3} (h : ∀ v ∈ l, 0 ≤ v.k ∧ v.k ≤ 9) : maskN l < 2 ^ 64 := Nat.lt_of_lt_of_le (maskN_lt h) (by decide)
/-- A mask has a bit just if the row has a component of the kind. -/
theorem maskN_bit (l : List V3) (i : Nat) : (maskN l).testBit i = l.any fun v => v.k.toNat == i := by
  refine snoc_ind (m := fun l => (maskN l).testBit i = l.any fun v => v.k.toNat == i) (by simp [maskN]) (fun l v ih => ?_) l
  rw [maskN_snoc, Nat.testBit_or, ih, List.any_append]
  simp only [List.any_cons, List.any_nil, Bool.or_false, bitN, Nat.testBit_two_pow]
  congr 1
end Go.Px

namespace Go.Px
set_option linter.unusedVariables false
set_option linter.unusedSimpArgs false
/-- What has been taken up: all of the lesser kinds, and of this kind what stands among the first i. -/
def upTo (l : List V3) (kk i : Int) : List V3 := byKinds l kk.toNat ++ (l.take i.toNat).filter fun v => v.k == kk
def cntTo (l : List V3) (kk i : Int) : Int := ((l.take i.toNat).filter fun v => v.k == kk).length
theorem byKinds_len (l : List V3) (n : Nat) : (byKinds l n).length ≤ l.length := by
  rw [(byKinds_perm l n).length_eq]
  exact List.length_filter_le ..
theorem upTo_len (l : List V3) (kk i : Int) : (upTo l kk i).length ≤ l.length + l.length := by
  have h1 := byKinds_len l kk.toNat
  have h2 : ((l.take i.toNat).filter fun v => v.k == kk).length ≤ (l.take i.toNat).length := List.length_filter_le ..
  rw [List.length_take] at h2
  simp only [upTo, List.length_append]
  omega
theorem cntTo_le (l : List V3) (kk i : Int) : 0 ≤ cntTo l kk i ∧ cntTo l kk i ≤ l.length := by
  have h2 : ((l.take i.toNat).filter fun v => v.k == kk).length ≤ (l.take i.toNat).length := List.length_filter_le ..
  rw [List.length_take] at h2
  simp only [cntTo]
  omega
theorem take_next {l : List V3} {i : Int} {d : V3} (h : 0 ≤ i ∧ i < (l.length : Int)) : l.take (i + 1).toNat = l.take i.toNat ++ [l.getD i.toNat d] := by
  rw [show (i + 1).toNat = i.toNat + 1 by omega]
  exact take_snoc (by omega)
theorem upTo_in {l : List V3} {kk i : Int} {d : V3} (h : 0 ≤ i ∧ i < (l.length : Int)) (hk : (l.getD i.toNat d).k = kk) : upTo l kk (i + 1) = upTo l kk i ++ [l.getD i.toNat d] := by
  have hb : ((l.getD i.toNat d).k == kk) = true := by simpa using hk
  unfold upTo
  rw [take_next (d := d) h, List.filter_append, List.filter_cons, if_pos hb, List.filter_nil, List.append_assoc]
theorem upTo_out {l : List V3} {kk i : Int} {d : V3} (h : 0 ≤ i ∧ i < (l.length : Int)) (hk : ¬ (l.getD i.toNat d).k = kk) : upTo l kk (i + 1) = upTo l kk i := by
  have hb : ¬ ((l.getD i.toNat d).k == kk) = true := by simpa using hk
  unfold upTo
  rw [take_next (d := d) h, List.filter_append, List.filter_cons, if_neg hb, List.filter_nil, List.append_nil]
theorem cntTo_in {l : List V3} {kk i : Int} {d : V3} (h : 0 ≤ i ∧ i < (l.length : Int)) (hk : (l.getD i.toNat d).k = kk) : cntTo l kk (i + 1) = cntTo l kk i + 1 := by
  have hb : ((l.getD i.toNat d).k == kk) = true := by simpa using hk
  unfold cntTo
  rw [take_next (d := d) h, List.filter_append, List.filter_cons, if_pos hb, List.filter_nil, List.length_append, List.length_singleton]
  omega
theorem cntTo_out {l : List V3} {kk i : Int} {d : V3} (h : 0 ≤ i ∧ i < (l.length : Int)) (hk : ¬ (l.getD i.toNat d).k = kk) : cntTo l kk (i + 1) = cntTo l kk i := by
  have hb : ¬ ((l.getD i.toNat d).k == kk) = true := by simpa using hk
  unfold cntTo
  rw [take_next (d := d) h, List.filter_append, List.filter_cons, if_neg hb, List.filter_nil, List.append_nil]
theorem upTo_zero (l : List V3) (kk : Int) : upTo l kk 0 = byKinds l kk.toNat := by simp [upTo]
theorem cntTo_zero (l : List V3) (kk : Int) : cntTo l kk 0 = 0 := by simp [cntTo]
theorem upTo_end {l : List V3} {kk i : Int} (h : (l.length : Int) ≤ i) (hk : 0 ≤ kk) : byKinds l (kk + 1).toNat = upTo l kk i := by
  rw [show (kk + 1).toNat = kk.toNat + 1 by omega, byKinds_succ]
  unfold upTo
  rw [List.take_of_length_le (by omega), show ((kk.toNat : Nat) : Int) = kk by omega]
theorem cntTo_end {l : List V3} {kk i : Int} (h : (l.length : Int) ≤ i) : cntTo l kk i = ((l.map (·.k)).count kk : Nat) := by
  unfold cntTo
  rw [List.take_of_length_le (by omega)]
  congr 1
  rw [List.count_eq_countP, List.countP_map, List.countP_eq_length_filter]
  rfl
theorem count_one {l : List V3} (hn : noDup l = true) (kk : Int) : (l.map (·.k)).count kk ≤ 1 := List.nodup_iff_count.1 (noDup_iff.1 hn) kk
theorem noDup_of {l : List V3} (h0 : firstBad l = 0) (h : ∀ kk : Int, 0 ≤ kk → kk < 10 → (l.map (·.k)).count kk ≤ 1) : noDup l = true := by
  rw [noDup_iff, List.nodup_iff_count]
  intro kk
  by_cases hk : kk ∈ l.map (·.k)
  · obtain ⟨v, hv, rfl⟩ := List.mem_map.1 hk
    have := kinds_of h0 v hv
    exact h _ this.1 (by omega)
  · rw [List.count_eq_zero_of_not_mem hk]
    omega
end Go.Px

namespace Go.Px
set_option linter.unusedVariables false
set_option linter.unusedSimpArgs false

/-- The first place where something holds, or -1. -/
def idxF {α : Type} (p : α → Bool) (l : List α) : Int := match l.findIdx? p with | some i => (i : Int) | none => -1
theorem idxF_here {α : Type} {p : α → Bool} {l : List α} {i : Nat} {d : α} (h : i < l.length) (hp : p (l.getD i d) = true) (hn : ∀ j, j < i → p (l.getD j d) = false) : idxF p l = i := by
  have h1 : l.findIdx? p = some i := by
    rw [List.findIdx?_eq_some_iff_getElem]
    refine ⟨h, by simpa [List.getD_eq_getElem?_getD, h] using hp, fun j hj => ?_⟩
    have hjl : j < l.length := by omega
    have := hn j hj
    simpa [List.getD_eq_getElem?_getD, hjl] using this
  simp [idxF, h1]
theorem idxF_none {α : Type} {p : α → Bool} {l : List α} {d : α} (hn : ∀ j, j < l.length → p (l.getD j d) = false) : idxF p l = -1 := by
  have h1 : l.findIdx? p = none := by
    rw [List.findIdx?_eq_none_iff]
    intro x hx
    obtain ⟨j, hj, rfl⟩ := List.getElem_of_mem hx
    have := hn j hj
    simpa [List.getD_eq_getElem?_getD, hj] using this
  simp [idxF, h1]
theorem no_next {α : Type} {p : α → Bool} {l : List α} {i : Int} {d : α} (h0 : 0 ≤ i) (h : ∀ j, j < i.toNat → p (l.getD j d) = false) (hi : p (l.getD i.toNat d) = false) : ∀ j, j < (i + 1).toNat → p (l.getD j d) = false := fun j hj => by
  rcases Nat.lt_or_ge j i.toNat with h1 | h1
  · exact h j h1
  · obtain rfl : j = i.toNat := by omega
    exact hi
/-- What idxF tells. -/
theorem idxF_spec {α : Type} (p : α → Bool) (d : α) (l : List α) : (idxF p l = -1 ∧ ∀ x ∈ l, p x = false) ∨ ∃ i : Nat, idxF p l = i ∧ i < l.length ∧ p (l.getD i d) = true ∧ ∀ x ∈ l.take i, p x = false := by
  unfold idxF
  cases h : l.findIdx? p with
  | none => exact .inl ⟨rfl, fun x hx => by have := List.findIdx?_eq_none_iff.1 h x hx; exact this⟩
  | some i =>
    obtain ⟨h1, h2, h3⟩ := List.findIdx?_eq_some_iff_getElem.1 h
    refine .inr ⟨i, rfl, h1, by simpa [List.getD_eq_getElem?_getD, h1] using h2, fun x hx => ?_⟩
    obtain ⟨j, hj, rfl⟩ := List.getElem_of_mem hx
    have hj' : j < i := by rw [List.length_take] at hj; omega
    have := h3 j hj'
    simpa using this
/-- The list without those of which p holds. -/
def dropP {α : Type} (p : α → Bool) (l : List α) : List α := l.filter fun x => !p x
theorem dropP_none {α : Type} {p : α → Bool} {l : List α} (h : ∀ x ∈ l, p x = false) : dropP p l = l := List.filter_eq_self.2 fun x hx => by simp [h x hx]
theorem dropP_snoc {α : Type} (p : α → Bool) (l : List α) (x : α) : dropP p (l ++ [x]) = dropP p l ++ (if p x = true then [] else [x]) := by
  unfold dropP
  rw [List.filter_append, List.filter_cons, List.filter_nil]
  cases p x <;> simp
theorem dropP_len {α : Type} (p : α → Bool) (l : List α) : (dropP p l).length ≤ l.length := List.length_filter_le ..
/-- The walk of a list that is cut in place: the first i are what has been kept of the first j. -/
structure Cut {α : Type} (p : α → Bool) (l ll : List α) (i j : Nat) : Prop where
  len : ll.length = l.length
  kept : ll.take i = dropP p (l.take j)
  rest : ll.drop j = l.drop j
  le : i < j
  jl : j ≤ l.length
theorem Cut.start {α : Type} {p : α → Bool} {l : List α} {i : Nat} {d : α} (h : i < l.length) (hp : p (l.getD i d) = true) (hn : ∀ x ∈ l.take i, p x = false) : Cut p l l i (i + 1) := by
  refine ⟨rfl, ?_, rfl, by omega, h⟩
  rw [take_snoc (d := d) h]
  unfold dropP
  rw [List.filter_append, List.filter_cons, hp]
  simp only [Bool.not_true, Bool.false_eq_true, if_false, List.filter_nil, List.append_nil]
  exact (dropP_none hn).symm
theorem getD_of_drop {α : Type} {l ll : List α} {j : Nat} {d : α} (h : ll.drop j = l.drop j) : ll.getD j d = l.getD j d := by
  have h1 : (ll.drop j)[0]? = (l.drop j)[0]? := by rw [h]
  simp only [List.getElem?_drop, Nat.add_zero] at h1
  simp [List.getD_eq_getElem?_getD, h1]
theorem drop_next {α : Type} {l ll : List α} {j : Nat} (h : ll.drop j = l.drop j) : ll.drop (j + 1) = l.drop (j + 1) := by
  rw [← List.drop_drop, h, List.drop_drop]
theorem Cut.skip {α : Type} {p : α → Bool} {l ll : List α} {i j : Nat} {d : α} (h : Cut p l ll i j) (hj : j < l.length) (hp : p (ll.getD j d) = true) : Cut p l ll i (j + 1) := by
  refine ⟨h.len, ?_, drop_next h.rest, by have := h.le; omega, hj⟩
  rw [getD_of_drop h.rest] at hp
  rw [h.kept, take_snoc (d := d) hj]
  unfold dropP
  rw [List.filter_append, List.filter_cons, hp]
  simp
theorem Cut.keep {α : Type} {p : α → Bool} {l ll : List α} {i j : Nat} {d : α} (h : Cut p l ll i j) (hj : j < l.length) (hp : p (ll.getD j d) = false) : Cut p l (ll.set i (ll.getD j d)) (i + 1) (j + 1) := by
  have hle := h.le
  have hlen := h.len
  refine ⟨by simpa using h.len, ?_, ?_, by omega, hj⟩
  · have e : (ll.set i (ll.getD j d)).take (i + 1) = ll.take i ++ [ll.getD j d] := by
      rw [take_snoc (d := d) (by simp; omega), List.take_set_of_le (Nat.le_refl _)]
      congr 2
      simp [List.getD_eq_getElem?_getD, show i < ll.length by omega]
    rw [e, h.kept, getD_of_drop h.rest, take_snoc (d := d) hj]
    rw [getD_of_drop h.rest] at hp
    unfold dropP
    rw [List.filter_append, List.filter_cons, hp]
    simp
  · rw [List.drop_set_of_lt (by omega)]
    exact drop_next h.rest
theorem Cut.done {α : Type} {p : α → Bool} {l ll : List α} {i j : Nat} (h : Cut p l ll i j) (hj : l.length ≤ j) (r : List α) : (ll.take i ++ r).take i = dropP p l := by
  have hle := h.le
  have hlen := h.len
  have hjl := h.jl
  rw [List.take_append_of_le_length (by rw [List.length_take]; omega), List.take_take, Nat.min_self, h.kept, List.take_of_length_le hj]

theorem Cut.lenEq {α : Type} {p : α → Bool} {l ll : List α} {i j : Nat} (h : Cut p l ll i j) (hj : l.length ≤ j) : i = (dropP p l).length := by
  have hle := h.le
  have hlen := h.len
  have hjl := h.jl
  have h1 := congrArg List.length h.kept
  rw [List.take_of_length_le hj, List.length_take] at h1
  omega
/-- A row without a kind. -/
def dropV (l : List V3) (k : Int) : List V3 := dropP (fun v => v.k == k) l
theorem dropV_zero (kk : Int) : dropV [] kk = [] := rfl
theorem dropV_in {l : List V3} {kk i : Int} (h : 0 ≤ i ∧ i < (l.length : Int)) (hk : ¬ (l.getD i.toNat ⟨0, 0, 0⟩).k = kk) : dropV (l.take (i + 1).toNat) kk = dropV (l.take i.toNat) kk ++ [l.getD i.toNat ⟨0, 0, 0⟩] := by
  rw [take_next (d := ⟨0, 0, 0⟩) h]
  unfold dropV
  rw [dropP_snoc, if_neg (by simpa using hk)]
theorem dropV_out {l : List V3} {kk i : Int} (h : 0 ≤ i ∧ i < (l.length : Int)) (hk : (l.getD i.toNat ⟨0, 0, 0⟩).k = kk) : dropV (l.take (i + 1).toNat) kk = dropV (l.take i.toNat) kk := by
  rw [take_next (d := ⟨0, 0, 0⟩) h]
  unfold dropV
  rw [dropP_snoc, if_pos (by simpa using hk), List.append_nil]
theorem dropV_len (l : List V3) (kk : Int) : (dropV l kk).length ≤ l.length := dropP_len _ _
theorem mem_dropV {l : List V3} {kk : Int} {v : V3} : v ∈ dropV l kk ↔ v ∈ l ∧ v.k ≠ kk := by simp [dropV, dropP]
/-- A row with a component, yet in no order. -/
def putL (l : List V3) (v : V3) : List V3 := dropV l v.k ++ [v]
theorem firstBad_of {r : List V3} (h : ∀ v ∈ r, vcheck v = 0) : firstBad r = 0 := by
  induction r with
  | nil => rfl
  | cons x r ih => simp only [firstBad]; rw [if_pos (h x (by simp))]; exact ih fun v hv => h v (by simp [hv])
theorem putL_bad {l : List V3} {v : V3} (h0 : firstBad l = 0) (hv : vcheck v = 0) : firstBad (putL l v) = 0 := by
  refine firstBad_of fun u hu => ?_
  simp only [putL, List.mem_append, List.mem_singleton] at hu
  rcases hu with hu | rfl
  · exact firstBad_all h0 u (mem_dropV.1 hu).1
  · exact hv
theorem dropV_nd {l : List V3} (hn : noDup l = true) (kk : Int) : noDup (dropV l kk) = true := by
  rw [noDup_iff] at hn ⊢
  exact hn.sublist ((List.filter_sublist (l := l)).map _)
theorem putL_nd {l : List V3} {v : V3} (hn : noDup l = true) : noDup (putL l v) = true := by
  have h1 := noDup_iff.1 (dropV_nd hn v.k)
  rw [noDup_iff]
  simp only [putL, List.map_append, List.map_cons, List.map_nil]
  rw [List.nodup_append]
  refine ⟨h1, by simp, fun a ha b hb => ?_⟩
  obtain ⟨u, hu, rfl⟩ := List.mem_map.1 ha
  obtain rfl : b = v.k := by simpa using hb
  exact (mem_dropV.1 hu).2
end Go.Px
