/- Plain words for layer 12: what cells are of. -/
import Derived.Test.YthofalkkdpjdlaaDoorXJ
import Derived.Test.YthofalkkdpjdlaaDoorXpC
namespace Go.Px
theorem fB4_dec (cs : List Value) (h : OkCs [some .i64, some .i64, some .i64, some .i64] cs) : ∃ x, cs = fB4 x ∧ True := by
  obtain ⟨_, _, rfl, ⟨x, rfl, _⟩, h1⟩ := h.cons
  obtain ⟨_, _, rfl, ⟨y, rfl, _⟩, h2⟩ := h1.cons
  obtain ⟨_, _, rfl, ⟨z, rfl, _⟩, h3⟩ := h2.cons
  obtain ⟨_, _, rfl, ⟨u, rfl, _⟩, h4⟩ := h3.cons
  obtain rfl := h4.nil
  exact ⟨⟨x, y, z, u⟩, rfl, trivial⟩
end Go.Px
