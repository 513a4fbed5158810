/- Plain words for layer 6, continued: rows in the order of their kinds. -/
import Derived.Test.YthofalkkdpjdlaaDoorXp6
namespace Go.Px
set_option linter.unusedVariables false
set_option linter.unusedSimpArgs false
/-- No two of one kind? -/
def noDup (l : List V3) : Bool := decide ((l.map (·.k)).Nodup)
theorem noDup_iff {l : List V3} : noDup l = true ↔ (l.map (·.k)).Nodup := by simp [noDup]

theorem byKinds_succ (l : List V3) (n : Nat) : byKinds l (n + 1) = byKinds l n ++ l.filter fun v => v.k == (n : Int) := by
  simp [byKinds, List.range_succ, List.flatMap_append]
theorem mem_byKinds {l : List V3} {v : V3} : ∀ {n : Nat}, v ∈ byKinds l n ↔ v ∈ l ∧ 0 ≤ v.k ∧ v.k < n
  | 0 => by
    simp only [byKinds, List.range_zero, List.flatMap_nil, List.not_mem_nil, false_iff]
    omega
  | n + 1 => by
    rw [byKinds_succ, List.mem_append, mem_byKinds, List.mem_filter, beq_iff_eq]
    constructor
    · rintro (⟨h1, h2, h3⟩ | ⟨h1, h2⟩)
      · exact ⟨h1, h2, by omega⟩
      · exact ⟨h1, by omega, by omega⟩
    · rintro ⟨h1, h2, h3⟩
      by_cases h : v.k = n
      · exact .inr ⟨h1, h⟩
      · exact .inl ⟨h1, h2, by omega⟩
theorem filter_split (p q r : V3 → Bool) (h : ∀ v, p v = (q v || r v)) (h2 : ∀ v, q v = true → r v = false) : ∀ l : List V3, (l.filter q ++ l.filter r).Perm (l.filter p)
  | [] => List.Perm.refl _
  | x :: l => by
    have ih := filter_split p q r h h2 l
    have hx := h x
    cases hq : q x with
    | true =>
      have hr := h2 x hq
      rw [hq] at hx
      simp only [List.filter_cons, hq, hr, hx, Bool.true_or, if_true, Bool.false_eq_true, if_false, List.cons_append]
      exact ih.cons _
    | false =>
      rw [hq, Bool.false_or] at hx
      cases hr : r x with
      | true =>
        rw [hr] at hx
        simp only [List.filter_cons, hq, hr, hx, if_true, Bool.false_eq_true, if_false]
        exact List.perm_middle.trans (ih.cons _)
      | false =>
        rw [hr] at hx
        simp only [List.filter_cons, hq, hr, hx, Bool.false_eq_true, if_false]
        exact ih
theorem byKinds_perm (l : List V3) : ∀ n : Nat, (byKinds l n).Perm (l.filter fun v => decide (0 ≤ v.k ∧ v.k < n))
  | 0 => by
    have h : (l.filter fun v : V3 => decide (0 ≤ v.k ∧ v.k < ((0 : Nat) : Int))) = [] := by
      rw [List.filter_eq_nil_iff]
      intro v _
      simp only [decide_eq_true_eq]
      omega
    rw [h]
    exact List.Perm.refl _
  | n + 1 => by
    rw [byKinds_succ]
    refine ((byKinds_perm l n).append_right _).trans ?_
    refine filter_split _ _ _ (fun v => ?_) (fun v hv => ?_) l
    · rw [Bool.eq_iff_iff]
      simp only [decide_eq_true_eq, Bool.or_eq_true, beq_iff_eq]
      omega
    · simp only [decide_eq_true_eq] at hv
      simp
      omega
theorem byKinds_sorted {l : List V3} (h : (l.map (·.k)).Nodup) : ∀ n : Nat, (byKinds l n).Pairwise fun x y => x.k < y.k
  | 0 => by simp [byKinds]
  | n + 1 => by
    rw [byKinds_succ, List.pairwise_append]
    refine ⟨byKinds_sorted h n, ?_, fun x hx y hy => ?_⟩
    · have h1 : (l.Pairwise fun x y => x.k ≠ y.k) := by
        have := h
        rw [List.Nodup, List.pairwise_map] at this
        exact this
      have h2 := h1.filter (fun v => v.k == (n : Int))
      refine h2.imp_of_mem fun {x y} hx hy hxy => ?_
      have hx := (List.mem_filter.1 hx).2
      have hy := (List.mem_filter.1 hy).2
      simp only [beq_iff_eq] at hx hy
      exact absurd (hx.trans hy.symm) hxy
    · have hx := (mem_byKinds.1 hx).2.2
      have hy := (List.mem_filter.1 hy).2
      simp only [beq_iff_eq] at hy
      omega
theorem kinds_of {l : List V3} (h : firstBad l = 0) : ∀ v ∈ l, 0 ≤ v.k ∧ v.k ≤ 9 := fun v hv => by
  have h1 := firstBad_all h v hv
  unfold vcheck at h1
  split at h1
  · rename_i h2
    simpa [vkind] using h2
  · omega
theorem byKinds_all {l : List V3} (h : firstBad l = 0) : (byKinds l 10).Perm l := by
  refine (byKinds_perm l 10).trans ?_
  rw [List.filter_eq_self.2 fun v hv => ?_]
  have := kinds_of h v hv
  simp
  omega
theorem strict_of {ls : List V3} (hs : ls.Pairwise fun x y => x.k ≤ y.k) (hn : (ls.map (·.k)).Nodup) : ls.Pairwise fun x y => x.k < y.k := by
  have h1 : (ls.Pairwise fun x y => x.k ≠ y.k) := by
    have := hn
    rw [List.Nodup, List.pairwise_map] at this
    exact this
  exact (hs.and h1).imp fun {x y} h => by omega
theorem sorted_eq {l ls : List V3} (hp : ls.Perm l) (hs : ls.Pairwise fun x y => x.k ≤ y.k) (h0 : firstBad l = 0) (hn : noDup l = true) : ls = byKinds l 10 := by
  rw [noDup_iff] at hn
  have hn2 : (ls.map (·.k)).Nodup := (hp.map _).nodup_iff.2 hn
  exact List.Perm.eq_of_pairwise (le := fun x y : V3 => x.k < y.k) (fun x y _ _ h1 h2 => by omega) (strict_of hs hn2) (byKinds_sorted hn 10) (hp.trans (byKinds_all h0).symm)
theorem right_strict {ls : List V3} (h : rightV ls = true) : ls.Pairwise fun x y => x.k < y.k := by
  simp only [rightV, decide_eq_true_eq] at h
  rw [List.pairwise_iff_getElem]
  intro i j hi hj hij
  have key : ∀ m, i + m + 1 < ls.length → (ls.getD i v0).k < (ls.getD (i + m + 1) v0).k := by
    intro m
    induction m with
    | zero => intro hm; simpa using (h (i + 1) hm).2 (by omega)
    | succ m ih =>
      intro hm
      have h1 := ih (by omega)
      have h2 := (h (i + (m + 1) + 1) hm).2 (by omega)
      rw [show i + (m + 1) + 1 - 1 = i + m + 1 by omega] at h2
      omega
  have h2 := key (j - i - 1) (by omega)
  rw [show i + (j - i - 1) + 1 = j by omega] at h2
  simpa [List.getD_eq_getElem?_getD, hi, hj] using h2
theorem right_of {ls : List V3} (h0 : firstBad ls = 0) (hs : ls.Pairwise fun x y => x.k < y.k) : rightV ls = true := by
  simp only [rightV, decide_eq_true_eq]
  intro j hj
  have hm : ls.getD j v0 ∈ ls := by simp [List.getD_eq_getElem?_getD, hj]
  refine ⟨firstBad_all h0 _ hm, fun hj0 => ?_⟩
  have hj' : j - 1 < ls.length := by omega
  have h1 := (List.pairwise_iff_getElem.1 hs) (j - 1) j hj' hj (by omega)
  simpa [List.getD_eq_getElem?_getD, hj, hj'] using h1
theorem firstBad_perm {l ls : List V3} (hp : ls.Perm l) (h0 : firstBad l = 0) : firstBad ls = 0 := by
  have key : ∀ r : List V3, (∀ v ∈ r, vcheck v = 0) → firstBad r = 0 := by
    intro r
    induction r with
    | nil => intro _; rfl
    | cons x r ih => intro h; simp only [firstBad]; rw [if_pos (h x (by simp))]; exact ih fun v hv => h v (by simp [hv])
  exact key ls fun v hv => firstBad_all h0 v (hp.mem_iff.1 hv)
theorem sorted_right {l ls : List V3} (hp : ls.Perm l) (hs : ls.Pairwise fun x y => x.k ≤ y.k) (h0 : firstBad l = 0) : rightV ls = noDup l := by
  cases hn : noDup l with
  | true =>
    rw [noDup_iff] at hn
    exact right_of (firstBad_perm hp h0) (strict_of hs ((hp.map _).nodup_iff.2 hn))
  | false =>
    cases hr : rightV ls with
    | false => rfl
    | true =>
      have h1 := right_strict hr
      have h2 : (ls.map (·.k)).Nodup := by
        rw [List.Nodup, List.pairwise_map]
        exact h1.imp fun {x y} h => by omega
      have h3 := noDup_iff.2 ((hp.map _).nodup_iff.1 h2)
      rw [hn] at h3
      cases h3
end Go.Px
