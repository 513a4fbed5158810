/- Plain words for layer 12: which cell a box has. -/
import Derived.Test.YthofalkkdpjdlaaDoorXp0
namespace Go.Px
set_option linter.unusedVariables false
set_option linter.unusedSimpArgs false
set_option linter.unusedSectionVars false

theorem side_quo {d : Int} (h : 0 ≤ d ∧ d ≤ 7) : Value.int .i64 (IntKind.i64.wrap (Int.tdiv (side d) 2)) = .int .i64 (side (d + 1)) := by
  refine depth_int (p := fun d => d ≤ 7 → Value.int .i64 (IntKind.i64.wrap (Int.tdiv (side d) 2)) = .int .i64 (side (d + 1))) ?_ ?_ ?_ ?_ ?_ ?_ ?_ ?_ ?_ (d := d) (by omega) h.2 <;> (intro h; first | rfl | omega)
/-- The greater side. -/
def bsize (x0 y0 x1 y1 : Int) : Int := if (x1 - x0) < (y1 - y0) then (y1 - y0) else (x1 - x0)
theorem bsize_spec (x0 y0 x1 y1 : Int) : x1 - x0 ≤ bsize x0 y0 x1 y1 ∧ y1 - y0 ≤ bsize x0 y0 x1 y1 ∧ (bsize x0 y0 x1 y1 = x1 - x0 ∨ bsize x0 y0 x1 y1 = y1 - y0) := by unfold bsize; split <;> omega
/-- The depth of a box of so great a side. -/
def depthOf (m : Int) : Int :=
  if m ≤ 16384 then 8 else if m ≤ 32768 then 7 else if m ≤ 65536 then 6 else if m ≤ 131072 then 5 else if m ≤ 262144 then 4 else if m ≤ 524288 then 3 else if m ≤ 1048576 then 2 else if m ≤ 2097152 then 1 else 0
/-- Which column (or row) a number lies in. -/
def colOf (n d : Int) : Int := if 2 ^ d.toNat - 1 < (n + 2097152) / side d then 2 ^ d.toNat - 1 else (n + 2097152) / side d

theorem depthOf_bd (m : Int) : 0 ≤ depthOf m ∧ depthOf m ≤ 8 := by unfold depthOf; repeat' split <;> omega
theorem depthOf_iff {m k : Int} (hm : m ≤ 4194304) (hk : 0 ≤ k ∧ k ≤ 8) : m ≤ side k ↔ k ≤ depthOf m := by
  have key : ∀ k, (0 ≤ k ∧ k ≤ 8) → (m ≤ side k ↔ k ≤ depthOf m) := by
    intro k hk
    refine depth_int (p := fun k => m ≤ side k ↔ k ≤ depthOf m) ?_ ?_ ?_ ?_ ?_ ?_ ?_ ?_ ?_ hk <;>
      (unfold depthOf
       simp only [side, show (0 : Int).toNat = 0 from rfl, show (1 : Int).toNat = 1 from rfl, show (2 : Int).toNat = 2 from rfl, show (3 : Int).toNat = 3 from rfl, show (4 : Int).toNat = 4 from rfl,
         show (5 : Int).toNat = 5 from rfl, show (6 : Int).toNat = 6 from rfl, show (7 : Int).toNat = 7 from rfl, show (8 : Int).toNat = 8 from rfl, show (4194304 : Int) / 2 ^ 0 = 4194304 from rfl, show (4194304 : Int) / 2 ^ 1 = 2097152 from rfl,
         show (4194304 : Int) / 2 ^ 2 = 1048576 from rfl, show (4194304 : Int) / 2 ^ 3 = 524288 from rfl, show (4194304 : Int) / 2 ^ 4 = 262144 from rfl, show (4194304 : Int) / 2 ^ 5 = 131072 from rfl,
         show (4194304 : Int) / 2 ^ 6 = 65536 from rfl, show (4194304 : Int) / 2 ^ 7 = 32768 from rfl, show (4194304 : Int) / 2 ^ 8 = 16384 from rfl]
       repeat' split
       all_goals omega)
  exact key k hk
theorem depthOf_done {m k : Int} (hm : m ≤ 4194304) (hk : 0 ≤ k ∧ k ≤ 8) (h1 : k ≤ depthOf m) (h2 : ¬ (k < 8 ∧ m ≤ side (k + 1))) : depthOf m = k := by
  have hb := depthOf_bd m
  by_cases h8 : k < 8
  · have h3 : ¬ k + 1 ≤ depthOf m := fun h => h2 ⟨h8, (depthOf_iff hm ⟨by omega, by omega⟩).2 h⟩
    omega
  · omega
theorem mulk_bd {d k : Int} (hd : 0 ≤ d ∧ d ≤ 8) (h0 : 0 ≤ k) (h : k + 1 < 2 ^ d.toNat) : 0 ≤ (k + 1) * side d ∧ (k + 1) * side d ≤ 4194304 := by
  have := mul_side (d := d) (x := k + 1) hd ⟨by omega, by omega⟩
  have := side_bd hd
  omega
theorem col_done {n d k : Int} (hd : 0 ≤ d ∧ d ≤ 8) (h0 : 0 ≤ k) (hk : k ≤ 2 ^ d.toNat - 1) (h1 : k * side d ≤ n + 2097152) (h2 : ¬ (k + 1 < 2 ^ d.toNat ∧ -2097152 + (k + 1) * side d ≤ n)) : colOf n d = k := by
  have hs := side_bd hd
  have hp : 0 < side d := by omega
  have h3 : k ≤ (n + 2097152) / side d := (Int.le_ediv_iff_mul_le hp).2 h1
  unfold colOf
  by_cases h4 : k + 1 < 2 ^ d.toNat
  · have h5 : n + 2097152 < (k + 1) * side d := by
      have := fun h => h2 ⟨h4, h⟩
      omega
    have h6 : (n + 2097152) / side d < k + 1 := (Int.ediv_lt_iff_lt_mul hp).2 h5
    rw [if_neg (by omega)]
    omega
  · split <;> omega
theorem col_bd {n d : Int} (hd : 0 ≤ d ∧ d ≤ 8) (h : -2097152 ≤ n) : 0 ≤ colOf n d ∧ colOf n d ≤ 2 ^ d.toNat - 1 := by
  have hs := side_bd hd
  have hp := pow_bd hd
  have h2 : 0 ≤ (n + 2097152) / side d := Int.ediv_nonneg (by omega) (by omega)
  unfold colOf
  split <;> omega
theorem half_bd {a b m : Int} (h : -m ≤ a ∧ a ≤ m ∧ -m ≤ b ∧ b ≤ m) : -m ≤ (a + b) / 2 ∧ (a + b) / 2 ≤ m := by omega
theorem inside_world {x0 y0 x1 y1 : Int} (h : boxRight x0 y0 x1 y1 = true) : boxInside x0 y0 x1 y1 (-2097152) (-2097152) 2097152 2097152 = inWorld x0 y0 x1 y1 := by
  rw [Bool.eq_iff_iff]
  rw [boxRight_iff] at h
  simp only [boxInside, boxRight, inWorld, Bool.and_eq_true, decide_eq_true_eq]
  omega
theorem inWorld_iff {x0 y0 x1 y1 : Int} : inWorld x0 y0 x1 y1 = true ↔ (-2097152 ≤ x0 ∧ x0 ≤ 2097152 ∧ -2097152 ≤ y0 ∧ y0 ≤ 2097152 ∧ -2097152 ≤ x1 ∧ x1 ≤ 2097152 ∧ -2097152 ≤ y1 ∧ y1 ≤ 2097152) := by simp [inWorld]
/-- A box lies in its cell's loose box: along one side. -/
theorem in_loose {a b m : Int} (hb : -2097152 ≤ a ∧ a ≤ b ∧ b ≤ 2097152) (hm : b - a ≤ m ∧ m ≤ 4194304) :
    colOf ((a + b) / 2) (depthOf m) * side (depthOf m) - 2097152 - side (depthOf m) / 2 ≤ a ∧ b ≤ colOf ((a + b) / 2) (depthOf m) * side (depthOf m) - 2097152 + side (depthOf m) + side (depthOf m) / 2 := by
  have hd := depthOf_bd m
  have hs := side_bd hd
  have h1 : m ≤ side (depthOf m) := (depthOf_iff hm.2 hd).2 (Int.le_refl _)
  generalize hc : (a + b) / 2 = c
  have hp : 0 < side (depthOf m) := by omega
  have hm2 := Int.mul_ediv_add_emod (c + 2097152) (side (depthOf m))
  have hm3 := Int.emod_nonneg (c + 2097152) (show side (depthOf m) ≠ 0 by omega)
  have hm4 := Int.emod_lt_of_pos (c + 2097152) hp
  rw [Int.mul_comm] at hm2
  have heven : side (depthOf m) / 2 * 2 = side (depthOf m) := by
    refine depth_int (p := fun d => side d / 2 * 2 = side d) ?_ ?_ ?_ ?_ ?_ ?_ ?_ ?_ ?_ hd <;> decide
  have htop : (2 ^ (depthOf m).toNat - 1) * side (depthOf m) = 4194304 - side (depthOf m) := by
    refine depth_int (p := fun d => (2 ^ d.toNat - 1) * side d = 4194304 - side d) ?_ ?_ ?_ ?_ ?_ ?_ ?_ ?_ ?_ hd <;> decide
  unfold colOf
  split
  · rename_i hlt
    have h5 : 2 ^ (depthOf m).toNat ≤ (c + 2097152) / side (depthOf m) := by omega
    have h6 : 2 ^ (depthOf m).toNat * side (depthOf m) ≤ (c + 2097152) / side (depthOf m) * side (depthOf m) := Int.mul_le_mul_of_nonneg_right h5 (by omega)
    have h7 : (2 ^ (depthOf m).toNat - 1) * side (depthOf m) = 2 ^ (depthOf m).toNat * side (depthOf m) - side (depthOf m) := by rw [Int.sub_mul, Int.one_mul]
    omega
  · omega
def upOk (d x y : Int) : Bool := cellRight d x y && !(d == 0)
theorem side_up {d : Int} (h : 1 ≤ d ∧ d ≤ 8) : side (d - 1) = 2 * side d ∧ side d / 2 * 2 = side d ∧ 0 < side d := by
  have key : ∀ k : Int, (0 ≤ k ∧ k ≤ 8) → (1 ≤ k → side (k - 1) = 2 * side k ∧ side k / 2 * 2 = side k ∧ 0 < side k) := by
    intro k hk
    refine depth_int (p := fun k => 1 ≤ k → side (k - 1) = 2 * side k ∧ side k / 2 * 2 = side k ∧ 0 < side k) ?_ ?_ ?_ ?_ ?_ ?_ ?_ ?_ ?_ hk <;> first | (intro _; exact ⟨by decide, by decide, by decide⟩) | (intro h; omega)
  exact key d (by omega) h.1
theorem cellRight_up {d x y : Int} (h : cellRight d x y = true) (h0 : d ≠ 0) : cellRight (d - 1) (x / 2) (y / 2) = true := by
  rw [cellRight_iff] at *
  have hp : (2 : Int) ^ d.toNat = 2 * 2 ^ (d - 1).toNat := by
    rw [show d.toNat = (d - 1).toNat + 1 by omega, Int.pow_succ]
    omega
  omega
/-- A cell's loose box lies in its parent's: along one side. -/
theorem up_loose {d x : Int} (hd : 1 ≤ d ∧ d ≤ 8) :
    x / 2 * side (d - 1) - side (d - 1) / 2 ≤ x * side d - side d / 2 ∧ x * side d + side d + side d / 2 ≤ x / 2 * side (d - 1) + side (d - 1) + side (d - 1) / 2 := by
  obtain ⟨h1, h2, h3⟩ := side_up hd
  rw [h1]
  have e1 : x / 2 * (2 * side d) = 2 * (x / 2) * side d := by rw [← Int.mul_assoc, Int.mul_comm (x / 2) 2]
  have hx : x = 2 * (x / 2) + x % 2 := by omega
  have e2 : x * side d = 2 * (x / 2) * side d + x % 2 * side d := by rw [← Int.add_mul, ← hx]
  have h5 : x % 2 = 0 ∨ x % 2 = 1 := by omega
  rcases h5 with h5 | h5 <;> (rw [h5] at e2; omega)
theorem cell_of {x0 y0 x1 y1 : Int} (hw : inWorld x0 y0 x1 y1 = true) :
    cellRight (depthOf (bsize x0 y0 x1 y1)) (colOf ((x0 + x1) / 2) (depthOf (bsize x0 y0 x1 y1))) (colOf ((y0 + y1) / 2) (depthOf (bsize x0 y0 x1 y1))) = true := by
  rw [inWorld_iff] at hw
  have hd := depthOf_bd (bsize x0 y0 x1 y1)
  have hx := col_bd (n := (x0 + x1) / 2) hd (by omega)
  have hy := col_bd (n := (y0 + y1) / 2) hd (by omega)
  rw [cellRight_iff]
  omega
end Go.Px
