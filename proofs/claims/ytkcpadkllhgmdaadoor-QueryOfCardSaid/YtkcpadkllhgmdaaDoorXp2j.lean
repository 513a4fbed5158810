/- Plain words for layer 2: what cells are of. -/
import Derived.Test.YtkcpadkllhgmdaaDoorXJ
import Derived.Test.YtkcpadkllhgmdaaDoorXp2
namespace Go.Px
theorem fH_dec (cs : List Value) (h : OkCs [some .i64, some .i64] cs) : ∃ x, cs = fH x ∧ True := by
  obtain ⟨_, _, rfl, ⟨x, rfl, _⟩, h1⟩ := h.cons
  obtain ⟨_, _, rfl, ⟨y, rfl, _⟩, h2⟩ := h1.cons
  obtain rfl := h2.nil
  exact ⟨⟨x, y⟩, rfl, trivial⟩
theorem fP_dec (cs : List Value) (h : OkCs [some .i64, some .i64, some .i64, some .i64] cs) : ∃ x, cs = fP x ∧ True := by
  obtain ⟨_, _, rfl, ⟨x, rfl, _⟩, h1⟩ := h.cons
  obtain ⟨_, _, rfl, ⟨y, rfl, _⟩, h2⟩ := h1.cons
  obtain ⟨_, _, rfl, ⟨z, rfl, _⟩, h3⟩ := h2.cons
  obtain ⟨_, _, rfl, ⟨u, rfl, _⟩, h4⟩ := h3.cons
  obtain rfl := h4.nil
  exact ⟨⟨⟨x, y⟩, ⟨z, u⟩⟩, rfl, trivial⟩
theorem fN_dec (cs : List Value) (h : OkCs [some .i64] cs) : ∃ x, cs = fI x ∧ True := by
  obtain ⟨_, _, rfl, ⟨x, rfl, hw⟩, h1⟩ := h.cons
  obtain rfl := h1.nil
  exact ⟨x, rfl, trivial⟩
end Go.Px
