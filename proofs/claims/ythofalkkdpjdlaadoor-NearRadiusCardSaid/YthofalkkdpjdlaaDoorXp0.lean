/- Plain words for layers 1 and 12: numbers, points, boxes, cells. -/
import Derived.Test.YthofalkkdpjdlaaDoorX5
namespace Go.Px
set_option linter.unusedVariables false
set_option linter.unusedSimpArgs false
set_option linter.unusedSectionVars false

def within (n m : Int) : Bool := decide (-m ≤ n ∧ n ≤ m)
def reach (x y : Int) : Bool := decide (-4194304 ≤ x ∧ x ≤ 4194304 ∧ -4194304 ≤ y ∧ y ≤ 4194304)
def boxRight (x0 y0 x1 y1 : Int) : Bool :=
  decide (x0 ≤ x1 ∧ y0 ≤ y1 ∧ -4194304 ≤ x0 ∧ x0 ≤ 4194304 ∧ -4194304 ≤ y0 ∧ y0 ≤ 4194304 ∧ -4194304 ≤ x1 ∧ x1 ≤ 4194304 ∧ -4194304 ≤ y1 ∧ y1 ≤ 4194304)
def boxHas (x0 y0 x1 y1 px py : Int) : Bool := boxRight x0 y0 x1 y1 && decide (x0 ≤ px ∧ px ≤ x1 ∧ y0 ≤ py ∧ py ≤ y1)
def boxInside (a0 b0 a1 b1 x0 y0 x1 y1 : Int) : Bool := boxRight a0 b0 a1 b1 && boxRight x0 y0 x1 y1 && decide (x0 ≤ a0 ∧ a1 ≤ x1 ∧ y0 ≤ b0 ∧ b1 ≤ y1)
/-- Does a box lie in the world? -/
def inWorld (x0 y0 x1 y1 : Int) : Bool := decide (-2097152 ≤ x0 ∧ x0 ≤ 2097152 ∧ -2097152 ≤ y0 ∧ y0 ≤ 2097152 ∧ -2097152 ≤ x1 ∧ x1 ≤ 2097152 ∧ -2097152 ≤ y1 ∧ y1 ≤ 2097152)
def cellRight (d x y : Int) : Bool := decide (0 ≤ d ∧ d ≤ 8 ∧ 0 ≤ x ∧ x ≤ 2 ^ d.toNat - 1 ∧ 0 ≤ y ∧ y ≤ 2 ^ d.toNat - 1)
/-- A cell's side. -/
def side (d : Int) : Int := 4194304 / 2 ^ d.toNat

theorem boxRight_iff {x0 y0 x1 y1 : Int} : boxRight x0 y0 x1 y1 = true ↔
    (x0 ≤ x1 ∧ y0 ≤ y1 ∧ -4194304 ≤ x0 ∧ x0 ≤ 4194304 ∧ -4194304 ≤ y0 ∧ y0 ≤ 4194304 ∧ -4194304 ≤ x1 ∧ x1 ≤ 4194304 ∧ -4194304 ≤ y1 ∧ y1 ≤ 4194304) := by simp [boxRight]
theorem cellRight_iff {d x y : Int} : cellRight d x y = true ↔ (0 ≤ d ∧ d ≤ 8 ∧ 0 ≤ x ∧ x ≤ 2 ^ d.toNat - 1 ∧ 0 ≤ y ∧ y ≤ 2 ^ d.toNat - 1) := by simp [cellRight]

/-- What holds of each depth. -/
theorem depth_cases {p : Nat → Prop} (h0 : p 0) (h1 : p 1) (h2 : p 2) (h3 : p 3) (h4 : p 4) (h5 : p 5) (h6 : p 6) (h7 : p 7) (h8 : p 8) {n : Nat} (h : n ≤ 8) : p n := by
  match n, h with
  | 0, _ => exact h0
  | 1, _ => exact h1
  | 2, _ => exact h2
  | 3, _ => exact h3
  | 4, _ => exact h4
  | 5, _ => exact h5
  | 6, _ => exact h6
  | 7, _ => exact h7
  | 8, _ => exact h8
theorem depth_int {p : Int → Prop} (h0 : p 0) (h1 : p 1) (h2 : p 2) (h3 : p 3) (h4 : p 4) (h5 : p 5) (h6 : p 6) (h7 : p 7) (h8 : p 8) {d : Int} (h : 0 ≤ d ∧ d ≤ 8) : p d := by
  obtain ⟨n, rfl⟩ := Int.eq_ofNat_of_zero_le h.1
  obtain ⟨_, h⟩ := h
  exact depth_cases (p := fun n => p (n : Int)) h0 h1 h2 h3 h4 h5 h6 h7 h8 (by omega)

theorem shl_one {d : Int} (h : 0 ≤ d ∧ d ≤ 8) : Value.int .i64 (IntKind.i64.wrap (1 * 2 ^ (min d.toNat IntKind.i64.bits))) = .int .i64 (2 ^ d.toNat) := by
  refine depth_int (p := fun d => Value.int .i64 (IntKind.i64.wrap (1 * 2 ^ (min d.toNat IntKind.i64.bits))) = .int .i64 (2 ^ d.toNat)) ?_ ?_ ?_ ?_ ?_ ?_ ?_ ?_ ?_ h <;> rfl
theorem shr_side {d : Int} (h : 0 ≤ d ∧ d ≤ 8) : Value.int .i64 (Int.fdiv 4194304 (2 ^ (min d.toNat IntKind.i64.bits))) = .int .i64 (side d) := by
  refine depth_int (p := fun d => Value.int .i64 (Int.fdiv 4194304 (2 ^ (min d.toNat IntKind.i64.bits))) = .int .i64 (side d)) ?_ ?_ ?_ ?_ ?_ ?_ ?_ ?_ ?_ h <;> rfl
theorem pow_bd {d : Int} (h : 0 ≤ d ∧ d ≤ 8) : 1 ≤ (2 : Int) ^ d.toNat ∧ (2 : Int) ^ d.toNat ≤ 256 := by
  refine depth_int (p := fun d => 1 ≤ (2 : Int) ^ d.toNat ∧ (2 : Int) ^ d.toNat ≤ 256) ?_ ?_ ?_ ?_ ?_ ?_ ?_ ?_ ?_ h <;> decide
theorem side_bd {d : Int} (h : 0 ≤ d ∧ d ≤ 8) : 16384 ≤ side d ∧ side d ≤ 4194304 := by
  refine depth_int (p := fun d => 16384 ≤ side d ∧ side d ≤ 4194304) ?_ ?_ ?_ ?_ ?_ ?_ ?_ ?_ ?_ h <;> decide
/-- The cell's place in the world. -/
theorem mul_side {d x : Int} (h : 0 ≤ d ∧ d ≤ 8) (hx : 0 ≤ x ∧ x ≤ 2 ^ d.toNat - 1) : 0 ≤ x * side d ∧ x * side d ≤ 4194304 - side d := by
  refine depth_int (p := fun d => 0 ≤ x ∧ x ≤ 2 ^ d.toNat - 1 → 0 ≤ x * side d ∧ x * side d ≤ 4194304 - side d) ?_ ?_ ?_ ?_ ?_ ?_ ?_ ?_ ?_ h hx <;> (intro hx; simp [side] at hx ⊢; omega)
theorem quo2 {e : Int} (h : 0 ≤ e ∧ e ≤ 9223372036854775807) : Value.int .i64 (IntKind.i64.wrap (Int.tdiv e 2)) = .int .i64 (e / 2) := by
  rw [Int.tdiv_eq_ediv_of_nonneg h.1, wr (by omega)]
theorem quoN {e f : Int} (h : 0 ≤ e ∧ e ≤ 9223372036854775807 ∧ 0 < f) : Value.int .i64 (IntKind.i64.wrap (Int.tdiv e f)) = .int .i64 (e / f) := by
  have h1 : e / f ≤ e := Int.ediv_le_self _ h.1
  have h2 : 0 ≤ e / f := Int.ediv_nonneg h.1 (by omega)
  rw [Int.tdiv_eq_ediv_of_nonneg h.1, wr (by omega)]
theorem shr1 (e : Int) : Value.int .i64 (Int.fdiv e (2 ^ (min (1 : Int).toNat IntKind.i64.bits))) = .int .i64 (e / 2) := by
  show Value.int .i64 (Int.fdiv e 2) = _
  rw [Int.fdiv_eq_ediv_of_nonneg _ (by decide)]

/-! ### The package's errors -/
/-- Those of the package's errors that are told of. -/
structure Errs (L : List Nat) (w : World) (t : TypeId) (E : Nat → Addr) : Prop where
  cell : ∀ g, L.contains g = true → w.cell? ⟨g, 0, none⟩ = some (.iface t (.pointer (some (E g))))
  blk : ∀ g, L.contains g = true → ∃ c u, w.heap[(E g).block]? = some (.cells c u (0, 0))
  inj : ∀ g h, L.contains g = true → L.contains h = true → E g = E h → g = h
theorem Errs.keep {L : List Nat} {w w' : World} {t : TypeId} {E : Nat → Addr} {F : Nat → Prop} (h : Errs L w t E) (hk : Keep F w w') (hn : ∀ k, F k → False) : Errs L w' t E :=
  ⟨fun g hg => hk.cell (h.cell g hg) (fun h => hn _ h), fun g hg => let ⟨c, u, hb⟩ := h.blk g hg; ⟨c, u, hk.obj hb (fun h => hn _ h)⟩, h.inj⟩
theorem Errs.keepOld {L : List Nat} {w0 w W : World} {t : TypeId} {E : Nat → Addr} {F : Nat → Prop} (h : Errs L w0 t E) (hk : Keep Nn w0 w) (hk2 : Keep F w W) (hF : ∀ i, F i → w0.heap.size ≤ i) : Errs L W t E :=
  h.keep (hk.then hk2 (fun i hi h => by have := hF i h; omega)) fun _ h => h
theorem in10 {g : Nat} (h : g < 10) : ([0, 1, 2, 3, 4, 5, 6, 7, 8, 9] : List Nat).contains g = true := by simp; omega
end Go.Px
