/- Plain words for layer 2, continued: what slices.SortFunc asks of an order. -/
import Derived.Test.YthofalkkdpjdlaaDoorXS
import Derived.Test.YthofalkkdpjdlaaDoorXp2c
namespace Go.Px
open Go.Sort Go.Lib Go.Proofs Go.Shelf
theorem swo_of {α : Type} {lt : α → α → Bool} (ho : Ord lt) {cf : α → α → Int} (h : ∀ x y, cf x y < 0 ↔ lt x y = true) : SWO (ltOf cf) := by
  have e : ∀ x y, ltOf cf x y = lt x y := fun x y => by
    rw [Bool.eq_iff_iff, ← h]
    simp [ltOf]
  refine ⟨fun x => by rw [e]; exact ho.irr x, fun x y z h1 h2 => ?_, fun x y z h1 h2 => ?_⟩
  · rw [e] at *
    exact ho.tr _ _ _ h1 h2
  · rw [e] at *
    cases h3 : lt x z with
    | false => rfl
    | true =>
      rcases ho.tri x y with h4 | rfl | h4
      · rw [h4] at h1; cases h1
      · rw [h3] at h2; cases h2
      · rw [ho.tr _ _ _ h4 h3] at h2; cases h2
theorem pair_of {α : Type} {lt : α → α → Bool} {cf : α → α → Int} (h : ∀ x y, cf x y < 0 ↔ lt x y = true) {l : List α} (hl : l.Pairwise fun a b => ¬ cf b a < 0) : l.Pairwise fun x y => lt y x = false :=
  hl.imp fun {x y} hxy => by
    cases h1 : lt y x with
    | false => rfl
    | true => exact absurd ((h y x).2 h1) hxy
end Go.Px
