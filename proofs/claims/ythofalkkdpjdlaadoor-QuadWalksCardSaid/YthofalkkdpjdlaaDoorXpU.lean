/- Plain words for layer 12: which boxes a walk meets. -/
import Derived.Test.YthofalkkdpjdlaaDoorXpT
namespace Go.Px
set_option linter.unusedVariables false
set_option linter.unusedSimpArgs false
set_option linter.unusedSectionVars false
def kids (c : C3) : List C3 := [⟨c.d + 1, 2 * c.x, 2 * c.y⟩, ⟨c.d + 1, 2 * c.x + 1, 2 * c.y⟩, ⟨c.d + 1, 2 * c.x, 2 * c.y + 1⟩, ⟨c.d + 1, 2 * c.x + 1, 2 * c.y + 1⟩]
theorem mem_kids {c y : C3} : y ∈ kids c ↔ upC y = c := by
  obtain ⟨d, x, z⟩ := c
  obtain ⟨d', x', z'⟩ := y
  simp only [kids, upC, List.mem_cons, List.not_mem_nil, or_false, C3.mk.injEq]
  omega
theorem kids_d {c k : C3} (h : k ∈ kids c) : k.d = c.d + 1 := by
  have := mem_kids.1 h
  subst this
  show k.d = k.d - 1 + 1
  omega
theorem kids_ok {c k : C3} (h : okC c = true) (hd : c.d < 8) (hk : k ∈ kids c) : okC k = true := by
  have h1 := okC_iff.1 h
  have h2 := mem_kids.1 hk
  subst h2
  have e : (upC k).d = k.d - 1 := rfl
  have ex : (upC k).x = k.x / 2 := rfl
  have ey : (upC k).y = k.y / 2 := rfl
  rw [e, ex, ey] at h1
  rw [e] at hd
  refine okC_iff.2 ⟨by omega, ?_⟩
  have h3 : (2 : Int) ^ k.d.toNat = 2 * 2 ^ (k.d - 1).toNat := by
    rw [show k.d.toNat = (k.d - 1).toNat + 1 by omega, Int.pow_succ, Int.mul_comm]
  rw [h3]
  omega
/-- Have all been entered, up to one? -/
def goodTo (e : C3 → Bool) : List C3 → C3 → Bool
  | [], _ => false
  | z :: r, c => e z && (decide (z = c) || goodTo e r c)
theorem goodTo_mem {e : C3 → Bool} : ∀ {l : List C3} {c : C3}, goodTo e l c = true → c ∈ l
  | [], _, h => by cases h
  | z :: r, c, h => by
    simp only [goodTo, Bool.and_eq_true, Bool.or_eq_true, decide_eq_true_eq] at h
    rcases h.2 with rfl | h2
    · exact List.mem_cons_self ..
    · exact List.mem_cons_of_mem _ (goodTo_mem h2)
theorem chain_depth {y : C3} (h : okC y = true) : ∀ z ∈ chain y, ∀ z' ∈ chain y, z.d = z'.d → z = z' := by
  refine chain_ind (m := fun y => ∀ z ∈ chain y, ∀ z' ∈ chain y, z.d = z'.d → z = z') (fun y hy h0 z hz z' hz' _ => ?_) (fun y hy h0 ih z hz z' hz' hd => ?_) y h
  · rw [chain_zero h0] at hz hz'
    rw [List.mem_singleton.1 hz, List.mem_singleton.1 hz']
  · rw [chain_step hy h0] at hz hz'
    have e : (upC y).d = y.d - 1 := rfl
    rcases List.mem_cons.1 hz with rfl | hz
    · rcases List.mem_cons.1 hz' with rfl | hz'
      · rfl
      · have := (chain_ok (okC_up hy h0) z' hz').2
        omega
    · rcases List.mem_cons.1 hz' with rfl | hz'
      · have := (chain_ok (okC_up hy h0) z hz).2
        omega
      · exact ih z hz z' hz' hd
theorem goodTo_step (e : C3 → Bool) {c : C3} (hc : 0 ≤ c.d) {y : C3} (hy : okC y = true) : goodTo e (chain y) c = (e c && (decide (y = c) || (kids c).any fun k => goodTo e (chain y) k)) := by
  refine chain_ind (m := fun y => goodTo e (chain y) c = (e c && (decide (y = c) || (kids c).any fun k => goodTo e (chain y) k))) (fun y hy h0 => ?_) (fun y hy h0 ih => ?_) y hy
  · rw [chain_zero h0]
    have hno : ((kids c).any fun k => goodTo e [y] k) = false := by
      rw [List.any_eq_false]
      intro k hk hg
      have h1 := List.mem_singleton.1 (goodTo_mem hg)
      have h2 := kids_d hk
      rw [h1] at h2
      omega
    rw [hno, Bool.or_false]
    simp only [goodTo, Bool.or_false]
    by_cases h1 : y = c
    · subst h1; rfl
    · simp [h1]
  · rw [chain_step hy h0]
    by_cases h1 : y = c
    · subst h1
      simp [goodTo]
    · have e1 : ((kids c).any fun k => goodTo e (y :: chain (upC y)) k) = (e y && (decide (upC y = c) || (kids c).any fun k => goodTo e (chain (upC y)) k)) := by
        have e2 : decide (upC y = c) = (kids c).any fun k => decide (y = k) := by
          rw [Bool.eq_iff_iff, decide_eq_true_iff, ← mem_kids, List.any_eq_true]
          constructor
          · exact fun h => ⟨y, h, by simp⟩
          · rintro ⟨k, hk, he⟩
            rw [of_decide_eq_true he]
            exact hk
        rw [e2]
        generalize kids c = l
        induction l with
        | nil => simp
        | cons k l ih2 =>
          simp only [List.any_cons, goodTo] at ih2 ⊢
          rw [ih2]
          cases e y <;> cases decide (y = k) <;> cases goodTo e (chain (upC y)) k <;> cases l.any (fun k => decide (y = k)) <;> cases l.any (fun k => goodTo e (chain (upC y)) k) <;> rfl
      rw [e1, decide_eq_false h1]
      simp only [goodTo, decide_eq_false h1, Bool.false_or]
      rw [ih]
      cases e y <;> cases e c <;> rfl
theorem perm_or {α : Type} {p q : α → Bool} {l : List α} (h : ∀ x ∈ l, ¬ (p x = true ∧ q x = true)) : (l.filter fun x => p x || q x).Perm (l.filter p ++ l.filter q) := by
  induction l with
  | nil => exact List.Perm.refl _
  | cons x r ih =>
    have ih' := ih fun y hy => h y (List.mem_cons_of_mem _ hy)
    have hx := h x (List.mem_cons_self ..)
    simp only [List.filter_cons]
    cases hp : p x with
    | true =>
      cases hq : q x with
      | true => exact absurd ⟨hp, hq⟩ hx
      | false => simpa using ih'
    | false =>
      cases hq : q x with
      | true => simpa using (ih'.cons x).trans List.perm_middle.symm
      | false => simpa using ih'
theorem perm_any {α β : Type} {g : α → β → Bool} {l : List α} : ∀ {ks : List β}, ks.Nodup → (∀ x ∈ l, ∀ k ∈ ks, ∀ k' ∈ ks, g x k = true → g x k' = true → k = k') → (l.filter fun x => ks.any fun k => g x k).Perm (ks.flatMap fun k => l.filter fun x => g x k)
  | [], _, _ => by simp
  | k :: ks, hd, h => by
    have hd' := List.nodup_cons.1 hd
    rw [List.flatMap_cons]
    refine (perm_or (p := fun x => g x k) (q := fun x => ks.any fun k => g x k) fun x hx hh => ?_).trans ((perm_any hd'.2 fun x hx k1 h1 k2 h2 => h x hx k1 (List.mem_cons_of_mem _ h1) k2 (List.mem_cons_of_mem _ h2)).append_left _)
    obtain ⟨k', hk', hg⟩ := List.any_eq_true.1 hh.2
    have := h x hx k (List.mem_cons_self ..) k' (List.mem_cons_of_mem _ hk') hh.1 hg
    subst this
    exact hd'.1 hk'
/-- What a walk meets from a cell on. -/
def subW (e : C3 → Bool) (bs : List (H2 × B4)) (c : C3) : List (H2 × B4) := bs.filter fun x => goodTo e (chain (cellB x.2)) c
def ownW (bs : List (H2 × B4)) (c : C3) : List (H2 × B4) := bs.filter fun x => decide (cellB x.2 = c)
theorem kids_nd (c : C3) : (kids c).Nodup := by
  obtain ⟨d, x, y⟩ := c
  simp only [kids, List.nodup_cons, List.mem_cons, List.not_mem_nil, or_false, C3.mk.injEq, List.nodup_nil, not_false_eq_true, and_true, true_and]
  omega
theorem subW_no {e : C3 → Bool} {bs : List (H2 × B4)} (hok : ∀ x ∈ bs, okC (cellB x.2) = true) {c : C3} (hc : 0 ≤ c.d) (he : e c = false) : subW e bs c = [] := by
  unfold subW
  rw [List.filter_eq_nil_iff]
  intro x hx hg
  rw [goodTo_step e hc (hok x hx), he] at hg
  cases hg
theorem subW_none {e : C3 → Bool} {bs : List (H2 × B4)} {c : C3} (h : ∀ x ∈ bs, ¬ c ∈ chain (cellB x.2)) : subW e bs c = [] := by
  unfold subW
  rw [List.filter_eq_nil_iff]
  exact fun x hx hg => h x hx (goodTo_mem hg)
theorem subW_yes {e : C3 → Bool} {bs : List (H2 × B4)} (hok : ∀ x ∈ bs, okC (cellB x.2) = true) {c : C3} (hc : 0 ≤ c.d) (he : e c = true) : (subW e bs c).Perm (ownW bs c ++ (kids c).flatMap (subW e bs)) := by
  have h1 : subW e bs c = bs.filter fun x => decide (cellB x.2 = c) || (kids c).any fun k => goodTo e (chain (cellB x.2)) k := by
    unfold subW
    refine List.filter_congr fun x hx => ?_
    rw [goodTo_step e hc (hok x hx), he, Bool.true_and]
  rw [h1]
  refine (perm_or fun x hx hh => ?_).trans ((perm_any (kids_nd c) fun x hx k hk k' hk' hg hg' => ?_).append_left _)
  · obtain ⟨k, hk, hg⟩ := List.any_eq_true.1 hh.2
    have h2 := (chain_ok (hok x hx) k (goodTo_mem hg)).2
    have h3 := kids_d hk
    rw [of_decide_eq_true hh.1] at h2
    omega
  · exact chain_depth (hok x hx) k (goodTo_mem hg) k' (goodTo_mem hg') ((kids_d hk).trans (kids_d hk').symm)
theorem subW_deep {e : C3 → Bool} {bs : List (H2 × B4)} (hok : ∀ x ∈ bs, okC (cellB x.2) = true) {c : C3} (hd : c.d = 8) : (kids c).flatMap (subW e bs) = [] := by
  rw [List.flatMap_eq_nil_iff]
  intro k hk
  refine subW_none fun x hx hm => ?_
  have h1 := okC_iff.1 (chain_ok (hok x hx) k hm).1
  have h2 := kids_d hk
  omega
/-! ### How long a walk may be -/
def wgt (c : C3) : Nat := 5 ^ (9 - c.d).toNat
def wgtS (S : List C3) : Nat := (S.map wgt).sum
theorem wgt_kids {c : C3} (h : 0 ≤ c.d ∧ c.d < 8) : wgtS (kids c) < wgt c := by
  have h1 : ∀ k ∈ kids c, wgt k = 5 ^ (8 - c.d).toNat := fun k hk => by
    unfold wgt
    rw [kids_d hk]
    congr 1
    omega
  have h2 : wgtS (kids c) = 4 * 5 ^ (8 - c.d).toNat := by
    unfold wgtS
    rw [List.map_congr_left h1]
    simp [kids]
    omega
  have h3 : wgt c = 5 * 5 ^ (8 - c.d).toNat := by
    unfold wgt
    rw [show (9 - c.d).toNat = (8 - c.d).toNat + 1 by omega, Nat.pow_succ, Nat.mul_comm]
  have h4 : 0 < 5 ^ (8 - c.d).toNat := Nat.pow_pos (by omega)
  omega
theorem wgt_pos (c : C3) : 0 < wgt c := Nat.pow_pos (by omega)
theorem wgtS_app (S T : List C3) : wgtS (S ++ T) = wgtS S + wgtS T := by simp [wgtS]
theorem wgtS_one (c : C3) : wgtS [c] = wgt c := by simp [wgtS]
theorem wgtS_len (S : List C3) : S.length ≤ wgtS S := by
  induction S with
  | nil => simp
  | cons c r ih =>
    have := wgt_pos c
    simp only [wgtS, List.map_cons, List.sum_cons, List.length_cons] at *
    omega
end Go.Px
