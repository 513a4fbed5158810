/- layer 12: keys of maps -/
import Derived.Test.YthofalkkdpjdlaaDoorR2
import Derived.Test.YthofalkkdpjdlaaDoorXpC
namespace Go.Proofs.YthofalkkdpjdlaaDoor
open Go.Px
set_option linter.unusedVariables false
set_option linter.unusedSimpArgs false

theorem keyC : KeyT Tryd.prog 29 vC := KeyT.wide (by rw [Tryd.underlying29]) (fun w x y => by
    have h := eqVal_sound (P := Tryd.prog) (w := w) Op.maxDepth 29 (vC x) (vC y) (((x.d == y.d) && ((x.x == y.x) && ((x.y == y.y) && true)))) (by kernel_rfl)
    have e : (((x.d == y.d) && ((x.x == y.x) && ((x.y == y.y) && true)))) = decide (x = y) := by
      rw [Bool.eq_iff_iff]
      cases x; cases y
      simp
    rw [e] at h
    exact h) (fun w em x => by kernel_rfl) (fun w x => by simp [Instr.keyThatStays, Instr.sameBits, vC])

theorem keyH : KeyT Tryd.prog 39 vH := KeyT.wide (by rw [Tryd.underlying39]) (fun w x y => by
    have h := eqVal_sound (P := Tryd.prog) (w := w) Op.maxDepth 39 (vH x) (vH y) (((x.i == y.i) && ((x.g == y.g) && true))) (by kernel_rfl)
    have e : (((x.i == y.i) && ((x.g == y.g) && true))) = decide (x = y) := by
      rw [Bool.eq_iff_iff]
      cases x; cases y
      simp
    rw [e] at h
    exact h) (fun w em x => by kernel_rfl) (fun w x => by simp [Instr.keyThatStays, Instr.sameBits, vH])
end Go.Proofs.YthofalkkdpjdlaaDoor
