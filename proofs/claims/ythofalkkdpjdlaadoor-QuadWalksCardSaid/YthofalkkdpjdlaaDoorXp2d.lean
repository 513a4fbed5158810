/- Plain words for layer 2, continued: how the walks' tests read. -/
import Derived.Test.YthofalkkdpjdlaaDoorXp2s
namespace Go.Px
theorem cmpN_lt (x y : Int) : cmpN x y < 0 ↔ ltI x y = true := by rw [cmpN_neg]; simp [ltI]
theorem eqc_int {x y : Int} (h : x = y) : x = y := h
theorem nec_int {x y : Int} (h : ¬ x = y) : x ≠ y := h
theorem nec_hand {x y : H2} (h : ¬ (x.i = y.i ∧ x.g = y.g)) : x ≠ y := fun e => h (by rw [e]; exact ⟨rfl, rfl⟩)
theorem nec_pair {x y : P4} (h : ¬ (x.a.i = y.a.i ∧ x.a.g = y.a.g ∧ x.b.i = y.b.i ∧ x.b.g = y.b.g)) : x ≠ y := fun e => h (by rw [e]; exact ⟨rfl, rfl, rfl, rfl⟩)
theorem eqc_hand {x y : H2} (h : x.i = y.i ∧ x.g = y.g) : x = y := h2_ext h.1 h.2
theorem eqc_pair {x y : P4} (h : x.a.i = y.a.i ∧ x.a.g = y.a.g ∧ x.b.i = y.b.i ∧ x.b.g = y.b.g) : x = y := p4_ext (h2_ext h.1 h.2.1) (h2_ext h.2.2.1 h.2.2.2)
theorem h2_neB {x y : H2} (h : (!((x.i == y.i) && (x.g == y.g))) = true) : x ≠ y := by
  rintro rfl; simp at h
theorem h2_eqB {x y : H2} (h : (!((x.i == y.i) && (x.g == y.g))) = false) : x = y := by
  cases x; cases y; simp_all
theorem p4_neB {x y : P4} (h : (!((x.a.i == y.a.i) && ((x.a.g == y.a.g) && ((x.b.i == y.b.i) && (x.b.g == y.b.g))))) = true) : x ≠ y := by
  rintro rfl; simp at h
theorem p4_eqB {x y : P4} (h : (!((x.a.i == y.a.i) && ((x.a.g == y.a.g) && ((x.b.i == y.b.i) && (x.b.g == y.b.g))))) = false) : x = y := by
  simp at h
  exact eqc_pair h
theorem shrOne {n : Int} (h : 0 ≤ n) : Value.int .u64 (Int.fdiv n (2 ^ (min (1 : Int).toNat IntKind.u64.bits))) = Value.int .u64 (n / 2) := by
  congr 1
  show Int.fdiv n 2 = n / 2
  exact Int.fdiv_eq_ediv_of_nonneg n (by decide)
/-- Does a thing stand in a list? -/
def inS {α : Type} [DecidableEq α] (l : List α) (t : α) : Bool := decide (t ∈ l)
section
variable {α : Type} [DecidableEq α] {lt : α → α → Bool}
theorem half_out (ho : Ord lt) {l : List α} {t : α} {i : Int} (hl : Rises lt l) (hi : i = (pos lt l t : Nat)) (h : ¬ i < (l.length : Int)) (d : α) : inS l t = false := by
  simp only [inS, decide_eq_false_iff_not]
  intro hm
  have := ((pos_mem ho hl t d).1 hm).1
  omega
theorem half_in (ho : Ord lt) {l : List α} {t d : α} {i : Int} (hl : Rises lt l) (hi : i = (pos lt l t : Nat)) (h : i < (l.length : Int)) : inS l t = decide (l.getD i.toNat d = t) := by
  subst hi
  simp only [inS, Int.toNat_natCast]
  rw [decide_eq_decide, pos_mem ho hl t d]
  constructor
  · exact fun h => h.2
  · exact fun h2 => ⟨by omega, h2⟩
theorem putS_lenOut {l : List α} {x : α} (h : ¬ x ∈ l) : l.length + 1 = (putS lt l x).length := by
  rw [putS_out h]
  have := pos_le (lt := lt) l x
  simp only [List.length_append, List.length_cons, List.length_take, List.length_drop]
  omega
end
theorem half_inH {l : List H2} {t d : H2} {i : Int} (hl : Rises ltH l) (hi : i = (pos ltH l t : Nat)) (h : i < (l.length : Int)) : (cmpH (l.getD i.toNat d) t == 0) = inS l t := by
  rw [half_in ordH hl hi h (d := d), Bool.eq_iff_iff]
  simp only [beq_iff_eq, decide_eq_true_eq]
  exact cmpH_zero _ _
theorem half_inI {l : List Int} {t d : Int} {i : Int} (hl : Rises ltI l) (hi : i = (pos ltI l t : Nat)) (h : i < (l.length : Int)) : (l.getD i.toNat d == t) = inS l t := by
  rw [half_in ordI hl hi h (d := d), Bool.eq_iff_iff]
  simp
end Go.Px
