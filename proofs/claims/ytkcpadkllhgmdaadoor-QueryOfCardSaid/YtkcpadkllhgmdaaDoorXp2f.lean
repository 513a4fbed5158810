/- Plain words for layer 2, continued: one more step of the document's lists. -/
import Derived.Test.YtkcpadkllhgmdaaDoorXp2e
namespace Go.Px
set_option linter.unusedVariables false
set_option linter.unusedSimpArgs false
theorem nrmP_swap {p : P4} (h : ltH p.b p.a = true) : nrmP p = ⟨p.b, p.a⟩ := if_pos h
theorem nrmP_keep {p : P4} (h : ltH p.b p.a = false) : nrmP p = p := if_neg (by rw [h]; exact Bool.false_ne_true)
theorem eqc_pT {x y : P4} (h : x.a.i = y.a.i ∧ x.a.g = y.a.g ∧ x.b.i = y.b.i ∧ x.b.g = y.b.g) : x = y := eqc_pair h
theorem ordP_skip {l : List P4} {i : Int} (d : P4) (h : 0 ≤ i ∧ i < (l.length : Int)) (hx : (l.getD i.toNat d).a = (l.getD i.toNat d).b) : ordS ltP (nrmL (l.take (i + 1).toNat)) = ordS ltP (nrmL (l.take i.toNat)) := by rw [nrmL_out d h hx]
theorem ordP_in {l : List P4} {i kk : Int} (d : P4) (h : 0 ≤ i ∧ i < (l.length : Int)) (hx : ¬ (l.getD i.toNat d).a = (l.getD i.toNat d).b) (hp : kk.toNat = pos ltP (ordS ltP (nrmL (l.take i.toNat))) (nrmP (l.getD i.toNat d))) (hk : 0 ≤ kk ∧ kk < ((ordS ltP (nrmL (l.take i.toNat))).length : Int))
    (he : (ordS ltP (nrmL (l.take i.toNat))).getD kk.toNat d = nrmP (l.getD i.toNat d)) : ordS ltP (nrmL (l.take (i + 1).toNat)) = ordS ltP (nrmL (l.take i.toNat)) := by
  rw [nrmL_in d h hx, ordS_snoc, putS_in]
  rw [pos_mem ordP (ordS_rises ordP _) _ d, ← hp]
  exact ⟨by omega, he⟩
theorem ordP_out {l : List P4} {i kk : Int} (d : P4) (h : 0 ≤ i ∧ i < (l.length : Int)) (hx : ¬ (l.getD i.toNat d).a = (l.getD i.toNat d).b) (hp : kk.toNat = pos ltP (ordS ltP (nrmL (l.take i.toNat))) (nrmP (l.getD i.toNat d))) (hk : 0 ≤ kk)
    (he : ¬ (kk < ((ordS ltP (nrmL (l.take i.toNat))).length : Int)) ∨ (ordS ltP (nrmL (l.take i.toNat))).getD kk.toNat d ≠ nrmP (l.getD i.toNat d)) :
    ordS ltP (nrmL (l.take (i + 1).toNat)) = (ordS ltP (nrmL (l.take i.toNat))).take kk.toNat ++ ([nrmP (l.getD i.toNat d)] ++ (ordS ltP (nrmL (l.take i.toNat))).drop kk.toNat) := by
  rw [nrmL_in d h hx, ordS_snoc, putS_cut hp, List.append_assoc]
  refine decide_eq_false fun hm => ?_
  have h1 := (pos_mem ordP (ordS_rises ordP _) _ d).1 hm
  rw [← hp] at h1
  rcases he with he | he
  · exact he (by omega)
  · exact he h1.2
theorem ordI_in {l : List Int} {i kk : Int} (h : 0 ≤ i ∧ i < (l.length : Int)) (hp : kk.toNat = pos ltI (ordS ltI (l.take i.toNat)) (l.getD i.toNat 0)) (hk : 0 ≤ kk ∧ kk < ((ordS ltI (l.take i.toNat)).length : Int)) (he : (ordS ltI (l.take i.toNat)).getD kk.toNat 0 = l.getD i.toNat 0) :
    ordS ltI (l.take (i + 1).toNat) = ordS ltI (l.take i.toNat) := by
  rw [ordS_next 0 h, putS_in]
  rw [pos_mem ordI (ordS_rises ordI _) _ 0, ← hp]
  exact ⟨by omega, he⟩
theorem ordI_out {l : List Int} {i kk : Int} (h : 0 ≤ i ∧ i < (l.length : Int)) (hp : kk.toNat = pos ltI (ordS ltI (l.take i.toNat)) (l.getD i.toNat 0)) (hk : 0 ≤ kk)
    (he : ¬ (kk < ((ordS ltI (l.take i.toNat)).length : Int)) ∨ ¬ (ordS ltI (l.take i.toNat)).getD kk.toNat 0 = l.getD i.toNat 0) :
    ordS ltI (l.take (i + 1).toNat) = (ordS ltI (l.take i.toNat)).take kk.toNat ++ ([l.getD i.toNat 0] ++ (ordS ltI (l.take i.toNat)).drop kk.toNat) := by
  rw [ordS_next 0 h, putS_cut hp, List.append_assoc]
  refine decide_eq_false fun hm => ?_
  have h1 := (pos_mem ordI (ordS_rises ordI _) _ 0).1 hm
  rw [← hp] at h1
  rcases he with he | he
  · exact he (by omega)
  · exact he h1.2
theorem or_pair {x y : P4} {p : Prop} (h : p ∨ ¬ (x.a.i = y.a.i ∧ x.a.g = y.a.g ∧ x.b.i = y.b.i ∧ x.b.g = y.b.g)) : p ∨ x ≠ y := h.imp id nec_pair
end Go.Px
