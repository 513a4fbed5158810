/- Plain words for layers 3 and 6: what cells are of. -/
import Derived.Test.YtkcpadkllhgmdaaDoorXJ
import Derived.Test.YtkcpadkllhgmdaaDoorXp6
namespace Go.Px
theorem fV_dec (cs : List Value) (h : OkCs [some .i64, some .i64, some .i64] cs) : ∃ x, cs = fV x ∧ True := by
  obtain ⟨_, _, rfl, ⟨x, rfl, _⟩, h1⟩ := h.cons
  obtain ⟨_, _, rfl, ⟨y, rfl, _⟩, h2⟩ := h1.cons
  obtain ⟨_, _, rfl, ⟨z, rfl, _⟩, h3⟩ := h2.cons
  obtain rfl := h3.nil
  exact ⟨⟨x, y, z⟩, rfl, trivial⟩
theorem fI_dec (cs : List Value) (h : OkCs [some .i64] cs) : ∃ x, cs = fI x ∧ (-9223372036854775808 ≤ x ∧ x ≤ 9223372036854775807) := by
  obtain ⟨_, _, rfl, ⟨x, rfl, hw⟩, h1⟩ := h.cons
  obtain rfl := h1.nil
  exact ⟨x, rfl, bd_i64 hw⟩
end Go.Px
