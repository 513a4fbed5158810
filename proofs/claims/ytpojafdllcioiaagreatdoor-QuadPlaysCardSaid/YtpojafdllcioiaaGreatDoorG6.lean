/- A part of the proof: texts put together. -/
import Derived.Test.YtpojafdllcioiaaGreatDoorProg
import Derived.Test.YtpojafdllcioiaaGreatDoorG4
import Derived.Test.YtpojafdllcioiaaGreatDoorG5
import Derived.Test.YtpojafdllcioiaaGreatDoorG2
import Derived.Test.YtpojafdllcioiaaGreatDoorRows
import Derived.Test.YtpojafdllcioiaaGreatDoorG1
set_option linter.unusedSectionVars false
set_option linter.unusedSimpArgs false
set_option linter.unusedVariables false
/- The types that the program's operations name, and what is known of them. -/
namespace Go.Proofs.YtpojafdllcioiaaGreatDoor
open Go.Zz Go.Px
set_option linter.unusedVariables false
set_option maxRecDepth 10000
noncomputable def tb : List (Nat × TI) := [(3, ⟨1, 8, false, [.int .i64 0], .int .i64⟩),
 (55, ⟨3, 24, true, [.int .i64 0, .int .i64 0, .int .i64 0], .struct [(0, 3), (1, 3), (2, 3)]⟩),
 (28, ⟨2, 16, true, [.int .i64 0, .int .i64 0], .struct [(0, 3), (1, 3)]⟩),
 (47, ⟨1, 24, false, [.nils], .slice 28⟩),
 (30, ⟨4, 32, true, [.int .i64 0, .int .i64 0, .int .i64 0, .int .i64 0], .struct [(0, 3), (1, 3), (2, 3), (3, 3)]⟩),
 (82, ⟨1, 24, false, [.nils], .slice 55⟩),
 (89, ⟨2, 16, true, [.int .i64 0, .int .i64 0], .struct [(0, 3), (1, 3)]⟩),
 (39, ⟨1, 16, false, [.nili], .iface⟩),
 (34, ⟨3, 24, true, [.int .i64 0, .int .i64 0, .int .i64 0], .struct [(0, 3), (1, 3), (2, 3)]⟩),
 (43, ⟨6, 48, true, [.int .i64 0, .int .i64 0, .int .i64 0, .int .i64 0, .int .i64 0, .int .i64 0], .struct [(0, 28), (2, 30)]⟩),
 (26, ⟨1, 24, false, [.nils], .slice 43⟩),
 (158, ⟨1, 8, false, [.int .u64 0], .int .u64⟩),
 (105, ⟨1, 8, false, [.nilf], .func⟩),
 (112, ⟨1, 8, false, [.nilf], .func⟩),
 (62, ⟨1, 8, false, [.nilm], .map 55 58⟩),
 (63, ⟨1, 8, false, [.nilm], .map 28 55⟩),
 (65, ⟨2, 16, true, [.nilm, .nilm], .struct [(0, 62), (1, 63)]⟩),
 (162, ⟨1, 8, false, [.nilp], .ptr⟩),
 (32, ⟨11, 88, true, (List.replicate 11 (.int .i64 0)), .struct [(0, 3), (1, 28), (3, 30), (7, 30)]⟩),
 (117, ⟨1, 8, false, [.int .u64 0], .int .u64⟩),
 (24, ⟨1, 8, false, [.nilp], .ptr⟩),
 (84, ⟨1, 24, false, [.nils], .slice 34⟩),
 (61, ⟨2, 16, true, [.nilm, .int .i64 0], .struct [(0, 59), (1, 3)]⟩),
 (59, ⟨1, 8, false, [.nilm], .map 28 30⟩),
 (152, ⟨1, 8, false, [.int .u64 0], .int .u64⟩),
 (102, ⟨12, 96, true, (List.replicate 12 (.int .i64 0)), .array 4 55⟩),
 (150, ⟨1, 4, false, [.int .u32 0], .int .u32⟩),
 (133, ⟨1, 24, false, [.nils], .slice 3⟩),
 (68, ⟨1, 24, false, [.nils], .slice 39⟩),
 (142, ⟨1, 8, false, [.int .i64 0], .int .i64⟩),
 (5, ⟨1, 1, false, [.int .u8 0], .int .u8⟩),
 (22, ⟨1, 24, false, [.nils], .slice 32⟩),
 (4, ⟨1, 1, false, [.ff], .bool⟩),
 (109, ⟨1, 8, false, [.nilf], .func⟩),
 (115, ⟨1, 8, false, [.nilf], .func⟩),
 (76, ⟨1, 8, false, [.nilf], .func⟩),
 (77, ⟨1, 8, false, [.nilf], .func⟩),
 (20, ⟨1, 16, false, [.nili], .iface⟩),
 (170, ⟨1, 8, false, [.nilp], .ptr⟩),
 (58, ⟨1, 8, false, [.nilp], .ptr⟩)]
noncomputable def encs : List (Nat × EncA) := [(3, ⟨Int, Zz.encI⟩), (4, ⟨Bool, Zz.encB⟩), (28, ⟨(Int × Int), Zz.encP Zz.encI Zz.encI⟩), (89, ⟨(Int × Int), Zz.encP Zz.encI Zz.encI⟩), (30, ⟨(Int × Int × Int × Int), Zz.encP Zz.encI (Zz.encP Zz.encI (Zz.encP Zz.encI Zz.encI))⟩), (43, ⟨((Int × Int) × Int × Int × Int × Int), Zz.encP (Zz.encP Zz.encI Zz.encI) (Zz.encP Zz.encI (Zz.encP Zz.encI (Zz.encP Zz.encI Zz.encI)))⟩), (55, ⟨(Int × Int × Int), Zz.encP Zz.encI (Zz.encP Zz.encI Zz.encI)⟩), (34, ⟨(Int × Int × Int), Zz.encP Zz.encI (Zz.encP Zz.encI Zz.encI)⟩), (32, ⟨(Int × (Int × Int) × (Int × Int × Int × Int) × (Int × Int × Int × Int)), Zz.encP Zz.encI (Zz.encP (Zz.encP Zz.encI Zz.encI) (Zz.encP (Zz.encP Zz.encI (Zz.encP Zz.encI (Zz.encP Zz.encI Zz.encI))) (Zz.encP Zz.encI (Zz.encP Zz.encI (Zz.encP Zz.encI Zz.encI)))))⟩)]
noncomputable def eqs : List (Nat × List LK) := [(28, [.int .i64, .int .i64]), (30, [.int .i64, .int .i64, .int .i64, .int .i64]), (34, [.int .i64, .int .i64, .int .i64]), (55, [.int .i64, .int .i64, .int .i64])]
noncomputable def Gm (E : Nat → Addr) : Ctx := { P := Tryz.prog, Δ := ⟨E, 170⟩, tb := tb, errs := [0, 2, 6], encs := encs, eqs := eqs }
theorem tbOk (Δ : Env0) : AllTb (TiOk Tryz.prog Δ) tb := ⟨TiOk.of (by kernel_rfl) (by rw [Tryz.underlying3]; rfl) Tryz.underlying3 rfl rfl rfl, 
 ⟨TiOk.of (by kernel_rfl) (by rw [Tryz.underlying55]; rfl) ⟨_, ⟨Tryz.underlying55, by kernel_rfl⟩, by kernel_rfl⟩ rfl rfl rfl, 
 ⟨TiOk.of (by kernel_rfl) (by rw [Tryz.underlying28]; rfl) ⟨_, ⟨Tryz.underlying28, by kernel_rfl⟩, by kernel_rfl⟩ rfl rfl rfl, 
 ⟨TiOk.of (by kernel_rfl) (by rw [Tryz.underlying47]; rfl) Tryz.underlying47 rfl rfl rfl, 
 ⟨TiOk.of (by kernel_rfl) (by rw [Tryz.underlying30]; rfl) ⟨_, ⟨Tryz.underlying30, by kernel_rfl⟩, by kernel_rfl⟩ rfl rfl rfl, 
 ⟨TiOk.of (by kernel_rfl) (by rw [Tryz.underlying82]; rfl) Tryz.underlying82 rfl rfl rfl, 
 ⟨TiOk.of (by kernel_rfl) (by rw [Tryz.underlying89]; rfl) ⟨_, ⟨Tryz.underlying89, by kernel_rfl⟩, by kernel_rfl⟩ rfl rfl rfl, 
 ⟨TiOk.of (by kernel_rfl) (by rw [Tryz.underlying39]; rfl) ⟨_, Tryz.underlying39⟩ rfl rfl rfl, 
 ⟨TiOk.of (by kernel_rfl) (by rw [Tryz.underlying34]; rfl) ⟨_, ⟨Tryz.underlying34, by kernel_rfl⟩, by kernel_rfl⟩ rfl rfl rfl, 
 ⟨TiOk.of (by kernel_rfl) (by rw [Tryz.underlying43]; rfl) ⟨_, ⟨Tryz.underlying43, by kernel_rfl⟩, by kernel_rfl⟩ rfl rfl rfl, 
 ⟨TiOk.of (by kernel_rfl) (by rw [Tryz.underlying26]; rfl) Tryz.underlying26 rfl rfl rfl, 
 ⟨TiOk.of (by kernel_rfl) (by rw [Tryz.underlying158]; rfl) Tryz.underlying158 rfl rfl rfl, 
 ⟨TiOk.of (by kernel_rfl) (by rw [Tryz.underlying105]; rfl) ⟨_, _, _, Tryz.underlying105⟩ rfl rfl rfl, 
 ⟨TiOk.of (by kernel_rfl) (by rw [Tryz.underlying112]; rfl) ⟨_, _, _, Tryz.underlying112⟩ rfl rfl rfl, 
 ⟨TiOk.of (by kernel_rfl) (by rw [Tryz.underlying62]; rfl) Tryz.underlying62 rfl rfl rfl, 
 ⟨TiOk.of (by kernel_rfl) (by rw [Tryz.underlying63]; rfl) Tryz.underlying63 rfl rfl rfl, 
 ⟨TiOk.of (by kernel_rfl) (by rw [Tryz.underlying65]; rfl) ⟨_, ⟨Tryz.underlying65, by kernel_rfl⟩, by kernel_rfl⟩ rfl rfl rfl, 
 ⟨TiOk.of (by kernel_rfl) (by rw [Tryz.underlying162]; rfl) ⟨_, Tryz.underlying162⟩ rfl rfl rfl, 
 ⟨TiOk.of (by kernel_rfl) (by rw [Tryz.underlying32]; rfl) ⟨_, ⟨Tryz.underlying32, by kernel_rfl⟩, by kernel_rfl⟩ rfl rfl rfl, 
 ⟨TiOk.of (by kernel_rfl) (by rw [Tryz.underlying117]; rfl) Tryz.underlying117 rfl rfl rfl, 
 ⟨TiOk.of (by kernel_rfl) (by rw [Tryz.underlying24]; rfl) ⟨_, Tryz.underlying24⟩ rfl rfl rfl, 
 ⟨TiOk.of (by kernel_rfl) (by rw [Tryz.underlying84]; rfl) Tryz.underlying84 rfl rfl rfl, 
 ⟨TiOk.of (by kernel_rfl) (by rw [Tryz.underlying61]; rfl) ⟨_, ⟨Tryz.underlying61, by kernel_rfl⟩, by kernel_rfl⟩ rfl rfl rfl, 
 ⟨TiOk.of (by kernel_rfl) (by rw [Tryz.underlying59]; rfl) Tryz.underlying59 rfl rfl rfl, 
 ⟨TiOk.of (by kernel_rfl) (by rw [Tryz.underlying152]; rfl) Tryz.underlying152 rfl rfl rfl, 
 ⟨TiOk.of (by kernel_rfl) (by rw [Tryz.underlying102]; rfl) Tryz.underlying102 rfl rfl rfl, 
 ⟨TiOk.of (by kernel_rfl) (by rw [Tryz.underlying150]; rfl) Tryz.underlying150 rfl rfl rfl, 
 ⟨TiOk.of (by kernel_rfl) (by rw [Tryz.underlying133]; rfl) Tryz.underlying133 rfl rfl rfl, 
 ⟨TiOk.of (by kernel_rfl) (by rw [Tryz.underlying68]; rfl) Tryz.underlying68 rfl rfl rfl, 
 ⟨TiOk.of (by kernel_rfl) (by rw [Tryz.underlying142]; rfl) Tryz.underlying142 rfl rfl rfl, 
 ⟨TiOk.of (by kernel_rfl) (by rw [Tryz.underlying5]; rfl) Tryz.underlying5 rfl rfl rfl, 
 ⟨TiOk.of (by kernel_rfl) (by rw [Tryz.underlying22]; rfl) Tryz.underlying22 rfl rfl rfl, 
 ⟨TiOk.of (by kernel_rfl) (by rw [Tryz.underlying4]; rfl) Tryz.underlying4 rfl rfl rfl, 
 ⟨TiOk.of (by kernel_rfl) (by rw [Tryz.underlying109]; rfl) ⟨_, _, _, Tryz.underlying109⟩ rfl rfl rfl, 
 ⟨TiOk.of (by kernel_rfl) (by rw [Tryz.underlying115]; rfl) ⟨_, _, _, Tryz.underlying115⟩ rfl rfl rfl, 
 ⟨TiOk.of (by kernel_rfl) (by rw [Tryz.underlying76]; rfl) ⟨_, _, _, Tryz.underlying76⟩ rfl rfl rfl, 
 ⟨TiOk.of (by kernel_rfl) (by rw [Tryz.underlying77]; rfl) ⟨_, _, _, Tryz.underlying77⟩ rfl rfl rfl, 
 ⟨TiOk.of (by kernel_rfl) (by rw [Tryz.underlying20]; rfl) ⟨_, Tryz.underlying20⟩ rfl rfl rfl, 
 ⟨TiOk.of (by kernel_rfl) (by rw [Tryz.underlying170]; rfl) ⟨_, Tryz.underlying170⟩ rfl rfl rfl, 
 ⟨TiOk.of (by kernel_rfl) (by rw [Tryz.underlying58]; rfl) ⟨_, Tryz.underlying58⟩ rfl rfl rfl, trivial⟩⟩⟩⟩⟩⟩⟩⟩⟩⟩⟩⟩⟩⟩⟩⟩⟩⟩⟩⟩⟩⟩⟩⟩⟩⟩⟩⟩⟩⟩⟩⟩⟩⟩⟩⟩⟩⟩⟩⟩
theorem eqv28 (x0 : Int) (x1 : Int) (y0 : Int) (y1 : Int) : eqVal Tryz.prog Op.maxDepth 28 (.agg #[.int .i64 x0, .int .i64 x1]) (.agg #[.int .i64 y0, .int .i64 y1]) = some (leavesB [.int .i64 x0, .int .i64 x1] [.int .i64 y0, .int .i64 y1]) := by kernel_rfl
theorem okVs28 {l : List Value} (h : okVs [.int .i64, .int .i64] l) : ∃ x0 x1, l = [.int .i64 x0, .int .i64 x1] := by
  match l, h with
  | [_, _], ⟨⟨x0, rfl⟩, ⟨x1, rfl⟩, _⟩ => exact ⟨x0, x1, rfl⟩
theorem eqOk28 : EqOk Tryz.prog 28 [.int .i64, .int .i64] := ⟨by kernel_rfl, fun xs ys hx hy w => by
  obtain ⟨x0, x1, rfl⟩ := okVs28 hx
  obtain ⟨y0, y1, rfl⟩ := okVs28 hy
  exact eqVal_sound _ _ _ _ _ (eqv28 _ _ _ _)⟩
theorem eqv30 (x0 : Int) (x1 : Int) (x2 : Int) (x3 : Int) (y0 : Int) (y1 : Int) (y2 : Int) (y3 : Int) : eqVal Tryz.prog Op.maxDepth 30 (.agg #[.int .i64 x0, .int .i64 x1, .int .i64 x2, .int .i64 x3]) (.agg #[.int .i64 y0, .int .i64 y1, .int .i64 y2, .int .i64 y3]) = some (leavesB [.int .i64 x0, .int .i64 x1, .int .i64 x2, .int .i64 x3] [.int .i64 y0, .int .i64 y1, .int .i64 y2, .int .i64 y3]) := by kernel_rfl
theorem okVs30 {l : List Value} (h : okVs [.int .i64, .int .i64, .int .i64, .int .i64] l) : ∃ x0 x1 x2 x3, l = [.int .i64 x0, .int .i64 x1, .int .i64 x2, .int .i64 x3] := by
  match l, h with
  | [_, _, _, _], ⟨⟨x0, rfl⟩, ⟨x1, rfl⟩, ⟨x2, rfl⟩, ⟨x3, rfl⟩, _⟩ => exact ⟨x0, x1, x2, x3, rfl⟩
theorem eqOk30 : EqOk Tryz.prog 30 [.int .i64, .int .i64, .int .i64, .int .i64] := ⟨by kernel_rfl, fun xs ys hx hy w => by
  obtain ⟨x0, x1, x2, x3, rfl⟩ := okVs30 hx
  obtain ⟨y0, y1, y2, y3, rfl⟩ := okVs30 hy
  exact eqVal_sound _ _ _ _ _ (eqv30 _ _ _ _ _ _ _ _)⟩
theorem eqv34 (x0 : Int) (x1 : Int) (x2 : Int) (y0 : Int) (y1 : Int) (y2 : Int) : eqVal Tryz.prog Op.maxDepth 34 (.agg #[.int .i64 x0, .int .i64 x1, .int .i64 x2]) (.agg #[.int .i64 y0, .int .i64 y1, .int .i64 y2]) = some (leavesB [.int .i64 x0, .int .i64 x1, .int .i64 x2] [.int .i64 y0, .int .i64 y1, .int .i64 y2]) := by kernel_rfl
theorem okVs34 {l : List Value} (h : okVs [.int .i64, .int .i64, .int .i64] l) : ∃ x0 x1 x2, l = [.int .i64 x0, .int .i64 x1, .int .i64 x2] := by
  match l, h with
  | [_, _, _], ⟨⟨x0, rfl⟩, ⟨x1, rfl⟩, ⟨x2, rfl⟩, _⟩ => exact ⟨x0, x1, x2, rfl⟩
theorem eqOk34 : EqOk Tryz.prog 34 [.int .i64, .int .i64, .int .i64] := ⟨by kernel_rfl, fun xs ys hx hy w => by
  obtain ⟨x0, x1, x2, rfl⟩ := okVs34 hx
  obtain ⟨y0, y1, y2, rfl⟩ := okVs34 hy
  exact eqVal_sound _ _ _ _ _ (eqv34 _ _ _ _ _ _)⟩
theorem eqv55 (x0 : Int) (x1 : Int) (x2 : Int) (y0 : Int) (y1 : Int) (y2 : Int) : eqVal Tryz.prog Op.maxDepth 55 (.agg #[.int .i64 x0, .int .i64 x1, .int .i64 x2]) (.agg #[.int .i64 y0, .int .i64 y1, .int .i64 y2]) = some (leavesB [.int .i64 x0, .int .i64 x1, .int .i64 x2] [.int .i64 y0, .int .i64 y1, .int .i64 y2]) := by kernel_rfl
theorem okVs55 {l : List Value} (h : okVs [.int .i64, .int .i64, .int .i64] l) : ∃ x0 x1 x2, l = [.int .i64 x0, .int .i64 x1, .int .i64 x2] := by
  match l, h with
  | [_, _, _], ⟨⟨x0, rfl⟩, ⟨x1, rfl⟩, ⟨x2, rfl⟩, _⟩ => exact ⟨x0, x1, x2, rfl⟩
theorem eqOk55 : EqOk Tryz.prog 55 [.int .i64, .int .i64, .int .i64] := ⟨by kernel_rfl, fun xs ys hx hy w => by
  obtain ⟨x0, x1, x2, rfl⟩ := okVs55 hx
  obtain ⟨y0, y1, y2, rfl⟩ := okVs55 hy
  exact eqVal_sound _ _ _ _ _ (eqv55 _ _ _ _ _ _)⟩
theorem eqsOk : AllTb (EqOk Tryz.prog) eqs := ⟨eqOk28, ⟨eqOk30, ⟨eqOk34, ⟨eqOk55, trivial⟩⟩⟩⟩
theorem gmOk (E : Nat → Addr) : (Gm E).Ok := ⟨(tbOk _).lk, eqsOk.lk, by kernel_rfl⟩
end Go.Proofs.YtpojafdllcioiaaGreatDoor

namespace Go.Proofs.YtpojafdllcioiaaGreatDoor
open Go.Zz Go.Px
set_option linter.unusedVariables false
set_option linter.unusedSectionVars false
set_option linter.unusedSimpArgs false
set_option maxRecDepth 10000
noncomputable def Ge (E : Nat → Addr) : Ctx := { Gm E with errs := [] }
theorem geOk (E : Nat → Addr) : (Ge E).Ok := (gmOk E).noErrs
def inR (m n : Int) : Prop := -m ≤ n ∧ n ≤ m
instance (m n : Int) : Decidable (inR m n) := inferInstanceAs (Decidable (-m ≤ n ∧ n ≤ m))
def reachP (p : Int × Int) : Prop := (-4194304 ≤ p.1 ∧ p.1 ≤ 4194304) ∧ (-4194304 ≤ p.2 ∧ p.2 ≤ 4194304)
instance (p : Int × Int) : Decidable (reachP p) := by unfold reachP; infer_instance
def rightP (b : Int × Int × Int × Int) : Prop := b.1 ≤ b.2.2.1 ∧ b.2.1 ≤ b.2.2.2 ∧ reachP (b.1, b.2.1) ∧ reachP (b.2.2.1, b.2.2.2)
instance (b : Int × Int × Int × Int) : Decidable (rightP b) := by unfold rightP; infer_instance
def spanP (s : (Int × Int) × Int × Int) : Prop := s.2.1 ≤ s.2.2 ∧ reachP s.2
instance (s : (Int × Int) × Int × Int) : Decidable (spanP s) := by unfold spanP; infer_instance
def ltE (e f : Int × Bool × Int × Int) : Bool := decide (e.1 < f.1 ∨ e.1 = f.1 ∧ ((e.2.1 = false ∧ f.2.1 = true) ∨ e.2.1 = f.2.1 ∧ ltH e.2.2 f.2.2 = true))
def ordPair (a b : Int × Int) : (Int × Int) × (Int × Int) := if a = b then ((0, 0), (0, 0)) else if ltH b a = true then (b, a) else (a, b)
theorem ordPair_lt {a b : Int × Int} (h : ¬(a.1 = b.1 ∧ a.2 = b.2)) (h1 : ltH b a = true) : ordPair a b = (b, a) := by
  unfold ordPair; rw [if_neg (fun e => h (by rw [e]; exact ⟨rfl, rfl⟩)), if_pos h1]
theorem ordPair_ge {a b : Int × Int} (h : ¬(a.1 = b.1 ∧ a.2 = b.2)) (h1 : ltH b a = false) : ordPair a b = (a, b) := by
  unfold ordPair; rw [if_neg (fun e => h (by rw [e]; exact ⟨rfl, rfl⟩)), if_neg (by rw [h1]; simp)]
def meetP (a b : Int × Int × Int × Int) : Prop := a.1 ≤ b.2.2.1 ∧ b.1 ≤ a.2.2.1 ∧ a.2.1 ≤ b.2.2.2 ∧ b.2.1 ≤ a.2.2.2
instance (a b : Int × Int × Int × Int) : Decidable (meetP a b) := by unfold meetP; infer_instance
set_option maxHeartbeats 4000000 in
theorem within_z (E : Nat → Addr) (n m : Int) (h : 0 ≤ m ∧ m ≤ 4611686018427387904) : Does (Gm E) 61 (Sp0 [.int .i64 n, .int .i64 m] [] 0 (.dc (-m ≤ n ∧ n ≤ m) inferInstance)) := by
  refine fn_intro (gmOk E) 14 0 [] Tryz.func61 rfl rfl rfl rfl rfl ?_
  repeat' first | (intro h; first | (exfalso; omega; done) | skip) | (refine And.intro ?_ ?_) | exact True.intro | (refine @Exists.intro Unit _ () ?_) | (refine @Exists.intro (_ = _) _ rfl ?_)
  all_goals first | omega | rfl | skip

set_option maxHeartbeats 4000000 in
theorem reach_z (E : Nat → Addr) (p : Int × Int) : Does (Gm E) 47 (Sp0 [.agg [.int .i64 p.1, .int .i64 p.2]] [] 0 (.dc (reachP p) inferInstance)) := by
  refine fn_intro (gmOk E) 11 0 [] Tryz.func47 rfl rfl rfl rfl rfl ?_
  repeat' first | (intro h; first | (exfalso; omega; done) | skip) | (refine And.intro ?_ ?_) | exact True.intro | (refine @Exists.intro Unit _ () ?_) | (refine @Exists.intro (_ = _) _ rfl ?_) | (change CallGoal _ _ _ _ _ _; first | (refine call0 (within_z E _ _ (by omega)) [] rfl True.intro rfl ?_))
  all_goals first | omega | (simp only [reachP] at *; omega) | skip

set_option maxHeartbeats 4000000 in
theorem corners_z (E : Nat → Addr) (b : Int × Int × Int × Int) : Does (Gm E) 46 (Sp0 [.agg [.int .i64 b.1, .int .i64 b.2.1, .int .i64 b.2.2.1, .int .i64 b.2.2.2]] [] 0 (.tup [.agg [.int .i64 (b.1,b.2.1).1, .int .i64 (b.1,b.2.1).2], .agg [.int .i64 (b.2.2.1,b.2.2.2).1, .int .i64 (b.2.2.1,b.2.2.2).2]])) := by
  refine fn_intro (gmOk E) 14 0 [] Tryz.func46 rfl rfl rfl rfl rfl ?_
  repeat' first | (intro h; first | (exfalso; omega; done) | skip) | (refine And.intro ?_ ?_) | exact True.intro | (refine @Exists.intro Unit _ () ?_) | (refine @Exists.intro (_ = _) _ rfl ?_) | (change DrawGoal _ _ _ _ _ _; first | (change DrawGoal _ _ _ ({ dst := some 4, op := _, type := _, pos := _, after := _, guard := _ } :: _) _ _; refine draw_tree (gmOk E) [0] (.leaf [(0, true), (1, true), (2, true), (3, true), (4, true), (5, true), (6, true), (7, true), (8, true), (9, true), (10, false), (11, false)]) (by kernel_rfl) ?_))
  all_goals first | omega | rfl | skip

set_option maxHeartbeats 4000000 in
theorem right_z (E : Nat → Addr) (b : Int × Int × Int × Int) : Does (Gm E) 25 (Sp0 [.agg [.int .i64 b.1, .int .i64 b.2.1, .int .i64 b.2.2.1, .int .i64 b.2.2.2]] [] 0 (.dc (rightP b) inferInstance)) := by
  refine fn_intro (gmOk E) 30 0 [] Tryz.func25 rfl rfl rfl rfl rfl ?_
  repeat' first | (intro h; first | (exfalso; omega; done) | skip) | (refine And.intro ?_ ?_) | exact True.intro | (refine @Exists.intro Unit _ () ?_) | (refine @Exists.intro (_ = _) _ rfl ?_) | (change CallGoal _ _ _ _ _ _; first | (refine call0 (corners_z E b) [] rfl True.intro rfl ?_) | (refine call0 (reach_z E (b.1, b.2.1)) [] rfl True.intro rfl ?_) | (refine call0 (reach_z E (b.2.2.1, b.2.2.2)) [] rfl True.intro rfl ?_))
  all_goals first | omega | (simp only [rightP, reachP] at *; omega) | skip

set_option maxHeartbeats 4000000 in
theorem isnan_e (E : Nat → Addr) (n : Int) : DoesC (Ge E) 69 (Sp0 [.int .i64 n] [] 0 .ff) := by
  refine fn_calls (geOk E) 6 0 [] Tryz.func69 rfl rfl rfl rfl rfl ?_
  repeat' first | (intro h; first | (exfalso; omega; done) | skip) | (refine And.intro ?_ ?_) | exact True.intro | (refine @Exists.intro Unit _ () ?_) | (refine @Exists.intro (_ = _) _ rfl ?_)
  all_goals first | omega | rfl | skip

set_option maxHeartbeats 4000000 in
theorem cmp_e (E : Nat → Addr) (a b : Int) : DoesC (Ge E) 57 (Sp0 [.int .i64 a, .int .i64 b] [] 0 (.int .i64 (cmpI a b))) := by
  refine fn_calls (geOk E) 20 0 [] Tryz.func57 rfl rfl rfl rfl rfl ?_
  repeat' first | (intro h; first | (exfalso; omega; done) | skip) | (refine And.intro ?_ ?_) | exact True.intro | (refine @Exists.intro Unit _ () ?_) | (refine @Exists.intro (_ = _) _ rfl ?_) | (change CallGoal _ _ _ _ _ _; first | (refine call0 (isnan_e E _).does [] rfl True.intro rfl ?_))
  all_goals first | omega | (simp only [cmpI]; repeat (split <;> try omega)) | skip

set_option maxHeartbeats 4000000 in
theorem or_e (E : Nat → Addr) (a b : Int) : DoesC (Ge E) 56 (Sp0 [.sl 0 2 2] [(0, .ro Int Zz.encI [a, b] 2)] 1 (.int .i64 (if a = 0 then b else a))) := by
  refine fn_calls (geOk E) 18 1 [] Tryz.func56 rfl rfl rfl rfl rfl ?_
  repeat' first | (intro h; first | (exfalso; omega; done) | skip) | (refine And.intro ?_ ?_) | exact True.intro | (refine @Exists.intro Unit _ () ?_) | (refine @Exists.intro (_ = _) _ rfl ?_) | (change LoopGoal _ _ _ _ _ _; refine loop_rounds (geOk E) [] 3 ?_)
  all_goals first | rfl | omega | (simp; done) | (simp_all; done) | skip

set_option maxHeartbeats 4000000 in
theorem cmpH_e (E : Nat → Addr) (a b : Int × Int) : DoesC (Ge E) 51 (Sp0 [.agg [.int .i64 a.1, .int .i64 a.2], .agg [.int .i64 b.1, .int .i64 b.2]] [] 0 (.int .i64 (cmpH a b))) := by
  refine fn_calls (geOk E) 17 0 [] Tryz.func51 rfl rfl rfl rfl rfl ?_
  repeat' first | (intro h; first | (exfalso; omega; done) | skip) | (refine And.intro ?_ ?_) | exact True.intro | (refine @Exists.intro Unit _ () ?_) | (refine @Exists.intro (_ = _) _ rfl ?_) | (change DrawGoal _ _ _ _ _ _; first | (change DrawGoal _ _ _ ({ dst := some 5, op := _, type := _, pos := _, after := _, guard := _ } :: _) _ _; refine draw_tree (geOk E) [0, 1] (.leaf [(0, true), (1, true), (2, true), (3, true), (5, true), (6, true), (7, true), (8, true), (4, false), (9, false), (10, false), (11, false), (12, true)]) (by kernel_rfl) ?_)) | (change CallGoal _ _ _ _ _ _; first | (refine call0 (cmp_e E _ _).does [] rfl True.intro rfl ?_) | (refine call0 (or_e E _ _).does [2] rfl (And.intro rfl True.intro) rfl ?_))
  all_goals first | omega | rfl | skip

theorem cmpH_z (E : Nat → Addr) (a b : Int × Int) : Does (Gm E) 51 (Sp0 [.agg [.int .i64 a.1, .int .i64 a.2], .agg [.int .i64 b.1, .int .i64 b.2]] [] 0 (.int .i64 (cmpH a b))) := Does.more (Γ := Gm E) (cmpH_e E a b).does
set_option maxHeartbeats 4000000 in
theorem ref02less_z (E : Nat → Addr) (a b : Int × Int) : Does (Gm E) 65 (Sp0 [.agg [.int .i64 a.1, .int .i64 a.2], .agg [.int .i64 b.1, .int .i64 b.2]] [] 0 (.bl (ltH a b))) := by
  refine fn_intro (gmOk E) 24 0 [] Tryz.func65 rfl rfl rfl rfl rfl ?_
  repeat' first | (intro h; first | (exfalso; omega; done) | skip) | (refine And.intro ?_ ?_) | exact True.intro | (refine @Exists.intro Unit _ () ?_) | (refine @Exists.intro (_ = _) _ rfl ?_)
  all_goals first | omega | rfl | (simp only [ltH]; simp; omega) | skip

set_option maxHeartbeats 4000000 in
theorem in_z (E : Nat → Addr) (n m : Int) (h : 0 ≤ m ∧ m ≤ 4611686018427387904) : Does (Gm E) 19 (Sp0 [.int .i64 n, .int .i64 m] [] 0 (.dc (-m ≤ n ∧ n ≤ m) inferInstance)) := by
  refine fn_intro (gmOk E) 14 0 [] Tryz.func19 rfl rfl rfl rfl rfl ?_
  repeat' first | (intro h; first | (exfalso; omega; done) | skip) | (refine And.intro ?_ ?_) | exact True.intro | (refine @Exists.intro Unit _ () ?_) | (refine @Exists.intro (_ = _) _ rfl ?_)
  all_goals first | omega | rfl | skip

set_option maxHeartbeats 4000000 in
theorem ref01right_z (E : Nat → Addr) (b : Int × Int × Int × Int) : Does (Gm E) 14 (Sp0 [.agg [.int .i64 b.1, .int .i64 b.2.1, .int .i64 b.2.2.1, .int .i64 b.2.2.2]] [] 0 (.dc (rightP b) inferInstance)) := by
  refine fn_intro (gmOk E) 35 0 [] Tryz.func14 rfl rfl rfl rfl rfl ?_
  repeat' first | (intro h; first | (exfalso; omega; done) | skip) | (refine And.intro ?_ ?_) | exact True.intro | (refine @Exists.intro Unit _ () ?_) | (refine @Exists.intro (_ = _) _ rfl ?_) | (change CallGoal _ _ _ _ _ _; first | (refine call0 (in_z E _ _ (by omega)) [] rfl True.intro rfl ?_))
  all_goals first | omega | (simp only [rightP, reachP] at *; omega) | skip

set_option maxHeartbeats 4000000 in
theorem meets_z (E : Nat → Addr) (a b : Int × Int × Int × Int) : Does (Gm E) 32 (Sp0 [.agg [.int .i64 a.1, .int .i64 a.2.1, .int .i64 a.2.2.1, .int .i64 a.2.2.2], .agg [.int .i64 b.1, .int .i64 b.2.1, .int .i64 b.2.2.1, .int .i64 b.2.2.2]] [] 0 (.dc (meetP a b) inferInstance)) := by
  refine fn_intro (gmOk E) 32 0 [] Tryz.func32 rfl rfl rfl rfl rfl ?_
  repeat' first | (intro h; first | (exfalso; omega; done) | skip) | (refine And.intro ?_ ?_) | exact True.intro | (refine @Exists.intro Unit _ () ?_) | (refine @Exists.intro (_ = _) _ rfl ?_)
  all_goals first | omega | (simp only [meetP]; omega) | skip

set_option maxHeartbeats 4000000 in
theorem gone_z (E : Nat → Addr) (a b : Int) : Does (Gm E) 12 (Sp0 [.int .i64 a, .int .i64 b] [] 0 (.int .i64 (if a = b then 3 else 0))) := by
  refine fn_intro (gmOk E) 8 0 [] Tryz.func12 rfl rfl rfl rfl rfl ?_
  repeat' first | (intro h; first | (exfalso; omega; done) | skip) | (refine And.intro ?_ ?_) | exact True.intro | (refine @Exists.intro Unit _ () ?_) | (refine @Exists.intro (_ = _) _ rfl ?_)
  all_goals first | omega | (split <;> omega) | (simp_all; done) | skip

end Go.Proofs.YtpojafdllcioiaaGreatDoor

namespace Go.Proofs.YtpojafdllcioiaaGreatDoor
open Go.Zz Go.Px
open Go.Qd (okC okC_iff upC cellB okB chain cnt1 cntL)
set_option linter.unusedVariables false
set_option linter.unusedSectionVars false
set_option linter.unusedSimpArgs false
set_option maxRecDepth 10000
theorem pw {d : Int} (h : 0 ≤ d ∧ d ≤ 8) : 1 * 2 ^ (min d.toNat IntKind.i64.bits) = (2 : Int) ^ d.toNat := by
  rw [show min d.toNat IntKind.i64.bits = d.toNat from Nat.min_eq_left (by have : IntKind.i64.bits = 64 := rfl; omega), Int.one_mul]
theorem sd {d : Int} (h : 0 ≤ d ∧ d ≤ 8) : (4194304 : Int).fdiv (2 ^ (min d.toNat IntKind.i64.bits)) = side d := by
  have e := pw h
  rw [Int.one_mul] at e
  rw [e, Int.fdiv_eq_ediv_of_nonneg _ (by have := (pow_bd h).1; omega)]; rfl
theorem okC_ff {c : Int × Int × Int} (h : c.1 < 0 ∨ 8 < c.1) : okC c = false := by
  cases e : okC c with
  | false => rfl
  | true => have := okC_iff.1 e; omega
theorem okC_dc {c : Int × Int × Int} (h : ¬ (c.1 < 0 ∨ 8 < c.1)) {P : Prop} {d : Decidable P} (hP : P ↔ ((0 ≤ c.2.1 ∧ c.2.1 ≤ 1 * 2 ^ (min c.1.toNat IntKind.i64.bits) - 1) ∧ 0 ≤ c.2.2) ∧ c.2.2 ≤ 1 * 2 ^ (min c.1.toNat IntKind.i64.bits) - 1) : @decide P d = okC c := by
  rw [Bool.eq_iff_iff, decide_eq_true_iff, hP, okC_iff, pw (by omega)]
  omega
theorem right_iff {b : Int × Int × Int × Int} : boxRight b.1 b.2.1 b.2.2.1 b.2.2.2 = true ↔ rightP b := by
  rw [boxRight_iff]; unfold rightP reachP; omega
theorem upC_z {c : Int × Int × Int} (h : okC c = true) : c.2.1.tdiv 2 = c.2.1 / 2 ∧ c.2.2.tdiv 2 = c.2.2 / 2 := by
  have := okC_iff.1 h
  exact ⟨Int.tdiv_eq_ediv_of_nonneg (by omega), Int.tdiv_eq_ediv_of_nonneg (by omega)⟩
theorem half {x : Int} : x.fdiv (2 ^ (min (Int.toNat 1) IntKind.i64.bits)) = x / 2 := by
  rw [show (2 : Int) ^ (min (Int.toNat 1) IntKind.i64.bits) = 2 from rfl, Int.fdiv_eq_ediv_of_nonneg _ (by omega)]
set_option maxHeartbeats 1000000 in
theorem cright_z (E : Nat → Addr) (c : Int × Int × Int) : Does (Gm E) 49 (Sp0 [.agg [.int .i64 c.1, .int .i64 c.2.1, .int .i64 c.2.2]] [] 0 (.bl (okC c))) := by
  refine fn_intro (gmOk E) 36 0 [] Tryz.func49 rfl rfl rfl rfl rfl ?_
  repeat' first | (intro h; first | (exfalso; omega; done) | skip) | (refine And.intro ?_ ?_) | exact True.intro | (refine @Exists.intro Unit _ () ?_) | (refine @Exists.intro (_ = _) _ rfl ?_)
  all_goals first | omega | exact (okC_ff ‹_›).symm | exact okC_dc ‹_› Iff.rfl | (have q := pw (d := c.1) (by omega); have q2 := pow_bd (d := c.1) (by omega); omega)

set_option maxHeartbeats 1000000 in
theorem up_ok (E : Nat → Addr) (c : Int × Int × Int) (h : okC c = true ∧ ¬ c.1 = 0) : Does (Gm E) 45 (Sp0 [.agg [.int .i64 c.1, .int .i64 c.2.1, .int .i64 c.2.2]] [] 0 (.tup [.agg [.int .i64 (upC c).1, .int .i64 (upC c).2.1, .int .i64 (upC c).2.2], .tt])) := by
  obtain ⟨h1, h2⟩ := h
  refine fn_intro (gmOk E) 23 0 [] Tryz.func45 rfl rfl rfl rfl rfl ?_
  repeat' first | (intro h; first | (exfalso; omega; done) | (exfalso; exact h.elim (fun q => by rw [h1] at q; cases q) h2; done) | skip) | (refine And.intro ?_ ?_) | exact True.intro | (refine @Exists.intro Unit _ () ?_) | (refine @Exists.intro (_ = _) _ rfl ?_) | (change CallGoal _ _ _ _ _ _; first | (refine call0 (cright_z E c) [] rfl True.intro rfl ?_))
  all_goals first | rfl | omega | exact (upC_z h1).1.symm | exact (upC_z h1).2.symm | exact (upC_z h1).1 | exact (upC_z h1).2 | (have q := okC_iff.1 h1; have q1 := (upC_z h1).1; have q2 := (upC_z h1).2; have q3 := pow_bd (d := c.1) (by omega); omega)

set_option maxHeartbeats 1000000 in
theorem up_no (E : Nat → Addr) (c : Int × Int × Int) (h : c.1 = 0) : Does (Gm E) 45 (Sp0 [.agg [.int .i64 c.1, .int .i64 c.2.1, .int .i64 c.2.2]] [] 0 (.tup [.agg [.int .i64 0, .int .i64 0, .int .i64 0], .ff])) := by
  rename c.1 = 0 => h1
  refine fn_intro (gmOk E) 23 0 [] Tryz.func45 rfl rfl rfl rfl rfl ?_
  repeat' first | (intro h; first | (exfalso; omega; done) | (exfalso; exact h (.inr h1); done) | skip) | (refine And.intro ?_ ?_) | exact True.intro | (refine @Exists.intro Unit _ () ?_) | (refine @Exists.intro (_ = _) _ rfl ?_) | (change CallGoal _ _ _ _ _ _; first | (refine call0 (cright_z E c) [] rfl True.intro rfl ?_))
  all_goals first | rfl | omega

set_option maxHeartbeats 1000000 in
theorem side_z (E : Nat → Addr) (d : Int) (h : 0 ≤ d ∧ d ≤ 8) : Does (Gm E) 42 (Sp0 [.int .i64 d] [] 0 (.int .i64 (side d))) := by
  refine fn_intro (gmOk E) 5 0 [] Tryz.func42 rfl rfl rfl rfl rfl ?_
  repeat' first | (intro h; first | (exfalso; omega; done) | skip) | (refine And.intro ?_ ?_) | exact True.intro | (refine @Exists.intro Unit _ () ?_) | (refine @Exists.intro (_ = _) _ rfl ?_)
  all_goals first | rfl | omega | exact sd h | exact (sd h).symm

set_option maxHeartbeats 1000000 in
theorem world_z (E : Nat → Addr)  : Does (Gm E) 41 (Sp0 [] [] 0 (.agg [.int .i64 ((-2097152, -2097152, 2097152, 2097152) : Int × Int × Int × Int).1, .int .i64 ((-2097152, -2097152, 2097152, 2097152) : Int × Int × Int × Int).2.1, .int .i64 ((-2097152, -2097152, 2097152, 2097152) : Int × Int × Int × Int).2.2.1, .int .i64 ((-2097152, -2097152, 2097152, 2097152) : Int × Int × Int × Int).2.2.2])) := by
  refine fn_intro (gmOk E) 2 0 [] Tryz.func41 rfl rfl rfl rfl rfl ?_
  repeat' first | (intro h; first | (exfalso; omega; done) | skip) | (refine And.intro ?_ ?_) | exact True.intro | (refine @Exists.intro Unit _ () ?_) | (refine @Exists.intro (_ = _) _ rfl ?_)
  all_goals first | rfl | omega

set_option maxHeartbeats 1000000 in
theorem has_z (E : Nat → Addr) (b : Int × Int × Int × Int) (p : Int × Int) : Does (Gm E) 60 (Sp0 [.agg [.int .i64 b.1, .int .i64 b.2.1, .int .i64 b.2.2.1, .int .i64 b.2.2.2], .agg [.int .i64 p.1, .int .i64 p.2]] [] 0 (.bl (boxHas b.1 b.2.1 b.2.2.1 b.2.2.2 p.1 p.2))) := by
  refine fn_intro (gmOk E) 35 0 [] Tryz.func60 rfl rfl rfl rfl rfl ?_
  repeat' first | (intro h; first | (exfalso; omega; done) | skip) | (refine And.intro ?_ ?_) | exact True.intro | (refine @Exists.intro Unit _ () ?_) | (refine @Exists.intro (_ = _) _ rfl ?_) | (change CallGoal _ _ _ _ _ _; first | (refine call0 (right_z E b) [] rfl True.intro rfl ?_))
  all_goals first | rfl | omega | (unfold boxHas; rw [Bool.eq_iff_iff, Bool.and_eq_true, right_iff, decide_eq_true_iff, decide_eq_true_iff]; exact ⟨fun q => ⟨q.1.1.1.1, q.1.1.1.2, q.1.1.2, q.1.2, q.2⟩, fun q => ⟨⟨⟨⟨q.1, q.2.1⟩, q.2.2.1⟩, q.2.2.2.1⟩, q.2.2.2.2⟩⟩)

set_option maxHeartbeats 1000000 in
theorem centre_ok (E : Nat → Addr) (b : Int × Int × Int × Int) (h : rightP b) : Does (Gm E) 39 (Sp0 [.agg [.int .i64 b.1, .int .i64 b.2.1, .int .i64 b.2.2.1, .int .i64 b.2.2.2]] [] 0 (.tup [.agg [.int .i64 ((b.1 + b.2.2.1) / 2), .int .i64 ((b.2.1 + b.2.2.2) / 2)], .nili])) := by
  rename rightP b => h1
  refine fn_intro (gmOk E) 22 0 [] Tryz.func39 rfl rfl rfl rfl rfl ?_
  repeat' first | (intro h; first | (exfalso; omega; done) | (exfalso; exact h h1; done) | skip) | (refine And.intro ?_ ?_) | exact True.intro | (refine @Exists.intro Unit _ () ?_) | (refine @Exists.intro (_ = _) _ rfl ?_) | (change CallGoal _ _ _ _ _ _; first | (refine call0 (right_z E b) [] rfl True.intro rfl ?_))
  all_goals first | rfl | omega | exact half | exact half.symm | (unfold rightP reachP at h1; omega)

set_option maxHeartbeats 1000000 in
theorem centre_no (E : Nat → Addr) (b : Int × Int × Int × Int) (h : ¬ rightP b) : Does (Gm E) 39 (Sp0 [.agg [.int .i64 b.1, .int .i64 b.2.1, .int .i64 b.2.2.1, .int .i64 b.2.2.2]] [] 0 (.tup [.agg [.int .i64 0, .int .i64 0], .err 6])) := by
  rename ¬ rightP b => h1
  refine fn_intro (gmOk E) 22 0 [] Tryz.func39 rfl rfl rfl rfl rfl ?_
  repeat' first | (intro h; first | (exfalso; omega; done) | (exfalso; first | exact h1 h | exact h1 (Classical.not_not.1 h); done) | skip) | (refine And.intro ?_ ?_) | exact True.intro | (refine @Exists.intro Unit _ () ?_) | (refine @Exists.intro (_ = _) _ rfl ?_) | (change DrawGoal _ _ _ _ _ _; first | (change DrawGoal _ _ _ ({ dst := some 7, op := _, type := _, pos := _, after := _, guard := _ } :: _) _ _; refine draw_tree (gmOk E) [0, 1] (.leaf [(0, true), (1, true), (2, false), (3, true)]) (by kernel_rfl) ?_)) | (change CallGoal _ _ _ _ _ _; first | (refine call0 (right_z E b) [] rfl True.intro rfl ?_))
  all_goals first | rfl | omega

end Go.Proofs.YtpojafdllcioiaaGreatDoor

namespace Go.Proofs.YtpojafdllcioiaaGreatDoor
open Go.Zz Go.Px
open Go.Qd (okC okC_iff upC cellB okB okC_cell chain cnt1 cntL)
set_option linter.unusedVariables false
set_option linter.unusedSectionVars false
set_option linter.unusedSimpArgs false
set_option maxRecDepth 10000
theorem ins1 {a b : Int × Int × Int × Int} (h : rightP a) (h1 : boxHas b.1 b.2.1 b.2.2.1 b.2.2.2 a.1 a.2.1 = true) : boxHas b.1 b.2.1 b.2.2.1 b.2.2.2 a.2.2.1 a.2.2.2 = boxInside a.1 a.2.1 a.2.2.1 a.2.2.2 b.1 b.2.1 b.2.2.1 b.2.2.2 := by
  rw [Bool.eq_iff_iff]
  have h := right_iff.2 h
  simp only [boxInside, boxHas, Bool.and_eq_true, decide_eq_true_eq] at *
  exact ⟨fun q => ⟨⟨h, q.1⟩, by omega⟩, fun q => ⟨q.1.2, by have := (boxRight_iff.1 h); omega⟩⟩
theorem ins2 {a b : Int × Int × Int × Int} (h : rightP a) (h1 : ¬ boxHas b.1 b.2.1 b.2.2.1 b.2.2.2 a.1 a.2.1 = true) : false = boxInside a.1 a.2.1 a.2.2.1 a.2.2.2 b.1 b.2.1 b.2.2.1 b.2.2.2 := by
  cases e : boxInside a.1 a.2.1 a.2.2.1 a.2.2.2 b.1 b.2.1 b.2.2.1 b.2.2.2 with
  | false => rfl
  | true =>
    have h := right_iff.2 h
    simp only [boxInside, boxHas, Bool.and_eq_true, decide_eq_true_eq] at *
    exact absurd ⟨e.1.2, by have := (boxRight_iff.1 h); omega⟩ h1
theorem ins3 {a b : Int × Int × Int × Int} (h : ¬ rightP a) : false = boxInside a.1 a.2.1 a.2.2.1 a.2.2.2 b.1 b.2.1 b.2.2.1 b.2.2.2 := by
  cases e : boxInside a.1 a.2.1 a.2.2.1 a.2.2.2 b.1 b.2.1 b.2.2.1 b.2.2.2 with
  | false => rfl
  | true =>
    simp only [boxInside, Bool.and_eq_true, decide_eq_true_eq] at e
    exact absurd (right_iff.1 e.1.1) h
theorem quo_bd {n d : Int} (hd : 0 ≤ d ∧ d ≤ 8) (hn : -2097152 ≤ n ∧ n ≤ 2097152) : (n + 2097152).tdiv (side d) = (n + 2097152) / side d ∧ 0 ≤ (n + 2097152) / side d ∧ (n + 2097152) / side d ≤ 4194304 := by
  have hs := side_bd hd
  refine ⟨Int.tdiv_eq_ediv_of_nonneg (by omega), Int.ediv_nonneg (by omega) (by omega), ?_⟩
  have := Int.ediv_le_self (a := n + 2097152) (side d) (by omega)
  omega
theorem col_min {n d : Int} (hd : 0 ≤ d ∧ d ≤ 8) (hn : -2097152 ≤ n ∧ n ≤ 2097152) : min ((n + 2097152).tdiv (side d)) (1 * 2 ^ (min d.toNat IntKind.i64.bits) - 1) = colOf n d := by
  rw [(quo_bd hd hn).1, pw hd]
  unfold colOf
  rw [Int.min_def]
  split <;> split <;> omega
theorem dep_done {b : Int × Int × Int × Int} {z : Int} (h : okB b = true) (hz : 0 ≤ z ∧ z ≤ 8 ∧ z ≤ depthOf (bsize b.1 b.2.1 b.2.2.1 b.2.2.2)) (hn : ¬ z < 8 ∨ ¬ max (b.2.2.1 - b.1) (b.2.2.2 - b.2.1) ≤ side (z + 1)) : depthOf (bsize b.1 b.2.1 b.2.2.1 b.2.2.2) = z := by
  have h0 := Bool.and_eq_true_iff.1 h
  have h4 := inWorld_iff.1 h0.2
  have h5 := bsize_spec b.1 b.2.1 b.2.2.1 b.2.2.2
  refine depthOf_done (by omega) ⟨hz.1, hz.2.1⟩ hz.2.2 fun q => ?_
  rw [Int.max_def] at hn
  rcases hn with hn | hn
  · exact hn q.1
  · split at hn <;> omega
theorem dep_more {b : Int × Int × Int × Int} {z : Int} (h : okB b = true) (hz : 0 ≤ z) (h8 : z < 8) (hn : max (b.2.2.1 - b.1) (b.2.2.2 - b.2.1) ≤ side (z + 1)) : z + 1 ≤ depthOf (bsize b.1 b.2.1 b.2.2.1 b.2.2.2) := by
  have h0 := Bool.and_eq_true_iff.1 h
  have h4 := inWorld_iff.1 h0.2
  have h5 := bsize_spec b.1 b.2.1 b.2.2.1 b.2.2.2
  refine (depthOf_iff (by omega) ⟨by omega, by omega⟩).1 ?_
  rw [Int.max_def] at hn
  split at hn <;> omega
set_option maxHeartbeats 1000000 in
theorem inside_z (E : Nat → Addr) (a b : Int × Int × Int × Int) : Does (Gm E) 40 (Sp0 [.agg [.int .i64 a.1, .int .i64 a.2.1, .int .i64 a.2.2.1, .int .i64 a.2.2.2], .agg [.int .i64 b.1, .int .i64 b.2.1, .int .i64 b.2.2.1, .int .i64 b.2.2.2]] [] 0 (.bl (boxInside a.1 a.2.1 a.2.2.1 a.2.2.2 b.1 b.2.1 b.2.2.1 b.2.2.2))) := by
  refine fn_intro (gmOk E) 24 0 [] Tryz.func40 rfl rfl rfl rfl rfl ?_
  repeat' first | (intro h; first | (exfalso; omega; done) | skip) | (refine And.intro ?_ ?_) | exact True.intro | (refine @Exists.intro Unit _ () ?_) | (refine @Exists.intro (_ = _) _ rfl ?_) | (change CallGoal _ _ _ _ _ _; first | (refine call0 (corners_z E a) [] rfl True.intro rfl ?_) | (refine call0 (right_z E a) [] rfl True.intro rfl ?_) | (refine call0 (has_z E b (a.1, a.2.1)) [] rfl True.intro rfl ?_) | (refine call0 (has_z E b (a.2.2.1, a.2.2.2)) [] rfl True.intro rfl ?_))
  all_goals first | rfl | omega | exact ins1 ‹_› ‹_› | exact ins2 ‹_› ‹_› | exact ins3 ‹_› | (unfold boxInside boxHas; rw [Bool.eq_iff_iff, decide_eq_true_iff, ← right_iff]; simp only [boxRight, Bool.and_eq_true, decide_eq_true_eq]; omega)

set_option maxHeartbeats 1000000 in
theorem of_form (E : Nat → Addr) (b : Int × Int × Int × Int) (h : ¬ rightP b) : Does (Gm E) 18 (Sp0 [.agg [.int .i64 b.1, .int .i64 b.2.1, .int .i64 b.2.2.1, .int .i64 b.2.2.2]] [] 0 (.tup [.agg [.int .i64 0, .int .i64 0, .int .i64 0], .err 6])) := by
  rename ¬ rightP b => h1
  refine fn_intro (gmOk E) 76 0 [] Tryz.func18 rfl rfl rfl rfl rfl ?_
  repeat' first | (intro h; first | (exfalso; omega; done) | skip) | (refine And.intro ?_ ?_) | exact True.intro | (refine @Exists.intro Unit _ () ?_) | (refine @Exists.intro (_ = _) _ rfl ?_) | (change DrawGoal _ _ _ _ _ _; first | (change DrawGoal _ _ _ ({ dst := some 16, op := _, type := _, pos := _, after := _, guard := _ } :: _) _ _; refine draw_tree (gmOk E) [0, 1, 2] (.leaf [(0, true), (1, true), (2, false), (3, true)]) (by kernel_rfl) ?_)) | (change CallGoal _ _ _ _ _ _; first | (refine call0 (centre_no E b h1) [] rfl True.intro rfl ?_))
  all_goals first | rfl | omega

set_option maxHeartbeats 1000000 in
theorem of_range (E : Nat → Addr) (b : Int × Int × Int × Int) (h : rightP b ∧ inWorld b.1 b.2.1 b.2.2.1 b.2.2.2 = false) : Does (Gm E) 18 (Sp0 [.agg [.int .i64 b.1, .int .i64 b.2.1, .int .i64 b.2.2.1, .int .i64 b.2.2.2]] [] 0 (.tup [.agg [.int .i64 0, .int .i64 0, .int .i64 0], .err 0])) := by
  obtain ⟨h1, h2⟩ := h; have h3 := inside_world (right_iff.2 h1)
  refine fn_intro (gmOk E) 76 0 [] Tryz.func18 rfl rfl rfl rfl rfl ?_
  repeat' first | (intro h; first | (exfalso; omega; done) | (exfalso; first | (rw [h3, h2] at h; cases h); done) | skip) | (refine And.intro ?_ ?_) | exact True.intro | (refine @Exists.intro Unit _ () ?_) | (refine @Exists.intro (_ = _) _ rfl ?_) | (change DrawGoal _ _ _ _ _ _; first | (change DrawGoal _ _ _ ({ dst := some 19, op := _, type := _, pos := _, after := _, guard := _ } :: _) _ _; refine draw_tree (gmOk E) [0, 1, 2] (.leaf [(0, true), (1, false), (2, false), (3, true), (4, true)]) (by kernel_rfl) ?_) | (change DrawGoal _ _ _ ({ dst := some 23, op := _, type := _, pos := _, after := _, guard := _ } :: _) _ _; refine draw_tree (gmOk E) [0, 1, 2] (.leaf [(0, true), (1, true), (2, false), (3, true)]) (by kernel_rfl) ?_)) | (change CallGoal _ _ _ _ _ _; first | (refine call0 (centre_ok E b h1) [] rfl True.intro rfl ?_) | (refine call0 (world_z E) [] rfl True.intro rfl ?_) | (refine call0 (inside_z E b (-2097152, -2097152, 2097152, 2097152)) [] rfl True.intro rfl ?_))
  all_goals first | rfl | omega

set_option maxHeartbeats 2000000 in
theorem of_ok (E : Nat → Addr) (b : Int × Int × Int × Int) (h : okB b = true) : Does (Gm E) 18 (Sp0 [.agg [.int .i64 b.1, .int .i64 b.2.1, .int .i64 b.2.2.1, .int .i64 b.2.2.2]] [] 0 (.tup [.agg [.int .i64 (cellB b).1, .int .i64 (cellB b).2.1, .int .i64 (cellB b).2.2], .nili])) := by
  have h0 := Bool.and_eq_true_iff.1 h; have h1 := right_iff.1 h0.1; have h2 := h0.2; have h3 := inside_world h0.1; have h4 := inWorld_iff.1 h2; have h5 := bsize_spec b.1 b.2.1 b.2.2.1 b.2.2.2; rename okB b = true => hk
  refine fn_intro (gmOk E) 76 0 [] Tryz.func18 rfl rfl rfl rfl rfl ?_
  repeat' first | (change DrawGoal _ _ _ _ _ _; first | (change DrawGoal _ _ _ ({ dst := some 55, op := _, type := _, pos := _, after := _, guard := _ } :: _) _ _; refine draw_rule3 (gmOk E) [(0, true), (1, true), (2, true), (3, true), (4, true), (7, true), (5, false), (6, true), (8, true)] [0, 1, 2, 3, 4, 5, 6, 7, 8] [0, 1, 2, 3] [] [(9, true), (10, false)] (by kernel_rfl) ?_) | (change DrawGoal _ _ _ ({ dst := some 65, op := _, type := _, pos := _, after := _, guard := _ } :: _) _ _; refine draw_rule3 (gmOk E) [(0, true), (1, true), (2, true), (3, true), (4, true), (7, true), (5, false), (6, true), (8, true)] [0, 1, 2, 3, 4, 5, 6, 7, 8] [0, 1, 2, 3] [] [(9, true), (10, false)] (by kernel_rfl) ?_)) | (intro h; first | (exfalso; omega; done) | (exfalso; first | (rw [h3, h2] at h; cases h); done) | skip) | (refine And.intro ?_ ?_) | exact True.intro | (refine @Exists.intro Unit _ () ?_) | (refine @Exists.intro (_ = _) _ rfl ?_) | (change LoopGoal _ _ _ _ _ _; refine loop_at 7 (gmOk E) rfl [] (X := Int) (fun z => []) (fun z => [(3, .cells 55 [.int .i64 z, .int .i64 0, .int .i64 0])]) [] (fun z => 0 ≤ z ∧ z ≤ 8 ∧ z ≤ depthOf (bsize b.1 b.2.1 b.2.2.1 b.2.2.2)) (fun z => 8 - z.toNat) ⟨0, ?_⟩ (fun z hZ => ?_)) | (change @Exists (Int) (fun _ => updK _ _ _ _ _ _); refine @Exists.intro (Int) _ ((?_)) ?_; rotate_left 1) | (change DrawGoal _ _ _ _ _ _; first | (change DrawGoal _ _ _ ({ dst := some 19, op := _, type := _, pos := _, after := _, guard := _ } :: _) _ _; refine draw_tree (gmOk E) [0, 1, 2] (.leaf [(0, true), (1, false), (2, false), (3, true), (4, true)]) (by kernel_rfl) ?_) | (change DrawGoal _ _ _ ({ dst := some 26, op := _, type := _, pos := _, after := _, guard := _ } :: _) _ _; refine draw_tree (gmOk E) [0, 1, 2, 3] (.leaf [(0, true), (1, true), (2, true), (3, true), (4, true), (5, true), (6, true), (8, true), (9, true), (10, true), (11, true), (12, true), (13, true), (14, true), (15, true), (16, true), (17, true), (18, true), (7, false), (19, true), (20, true)]) (by kernel_rfl) ?_)) | (change CallGoal _ _ _ _ _ _; first | (refine call0 (centre_ok E b h1) [] rfl True.intro rfl ?_) | (refine call0 (world_z E) [] rfl True.intro rfl ?_) | (refine call0 (inside_z E b (-2097152, -2097152, 2097152, 2097152)) [] rfl True.intro rfl ?_) | (refine call0 (side_z E _ ⟨?_, ?_⟩) [] rfl True.intro rfl ?_))
  all_goals first
| (dsimp only; first | rfl | omega)
| rfl
| omega
| exact (depthOf_bd _).1
| exact dep_more hk hZ.1 ‹z < 8› h
| (have q := side_bd (d := z) (by omega); omega)
| (have q := pw (d := z) (by omega); have q2 := pow_bd (d := z) (by omega); omega)
| (have q := quo_bd (d := z) (n := (b.1 + b.2.2.1) / 2) (by omega) (by omega); have q2 := quo_bd (d := z) (n := (b.2.1 + b.2.2.2) / 2) (by omega) (by omega); omega)
| (show z = depthOf _; rw [dep_done hk hZ (by first | exact .inl ‹¬ z < 8› | exact .inr ‹¬ _ ≤ side _›)])
| (rw [col_min (by omega) (by omega)]; show colOf _ z = colOf _ (depthOf _); rw [dep_done hk hZ (by first | exact .inl ‹¬ z < 8› | exact .inr ‹¬ _ ≤ side _›)])

end Go.Proofs.YtpojafdllcioiaaGreatDoor

namespace Go.Proofs.YtpojafdllcioiaaGreatDoor
open Go.Zz Go.Px
open Go.Qd (okC okC_iff upC cellB okB okC_cell chain cnt1 cntL)
set_option linter.unusedVariables false
set_option linter.unusedSectionVars false
set_option linter.unusedSimpArgs false
set_option maxRecDepth 10000
theorem pos_quo {a : Int} (h : 0 ≤ a) : a.tdiv 2 = a / 2 := Int.tdiv_eq_ediv_of_nonneg h
theorem neg_half {n : Int} (h : n < 0) : -((1 - n).tdiv 2) = n / 2 := by rw [pos_quo (by omega)]; omega
theorem side_next {d : Int} (h : 0 ≤ d ∧ d ≤ 7) : (side d).tdiv 2 = side (d + 1) := by
  refine depth_int (p := fun d => d ≤ 7 → (side d).tdiv 2 = side (d + 1)) ?_ ?_ ?_ ?_ ?_ ?_ ?_ ?_ ?_ (d := d) (by omega) h.2 <;> (intro h; first | rfl | omega)
theorem dep_step {m k x : Int} (hm : m ≤ 4194304) (hk : 1 ≤ k ∧ k ≤ 8) (hx : x = if k - 1 ≤ depthOf m then k - 1 else depthOf m) : (m ≤ side k → k = if k + 1 - 1 ≤ depthOf m then k + 1 - 1 else depthOf m) ∧ (¬ m ≤ side k → x = if k + 1 - 1 ≤ depthOf m then k + 1 - 1 else depthOf m) := by
  have h := depthOf_iff (m := m) (k := k) hm (by omega)
  subst hx
  constructor
  · intro q; have := h.1 q; rw [if_pos (by omega)]; omega
  · intro q; have : ¬ k ≤ depthOf m := fun e => q (h.2 e)
    split <;> split <;> omega
theorem dep_end {m k x : Int} (hk : 1 ≤ k ∧ k ≤ 9) (h9 : ¬ k ≤ 8) (hx : x = if k - 1 ≤ depthOf m then k - 1 else depthOf m) : x = depthOf m := by
  have := depthOf_bd m; subst hx; split <;> omega
theorem big_iff {b : Int × Int × Int × Int} {s : Int} : bsize b.1 b.2.1 b.2.2.1 b.2.2.2 ≤ s ↔ b.2.2.1 - b.1 ≤ s ∧ b.2.2.2 - b.2.1 ≤ s := by
  have h5 := bsize_spec b.1 b.2.1 b.2.2.1 b.2.2.2; omega
set_option maxHeartbeats 1000000 in
theorem rhalf_z (E : Nat → Addr) (n : Int) (h : -4611686018427387904 ≤ n ∧ n ≤ 4611686018427387904) : Does (Gm E) 22 (Sp0 [.int .i64 n] [] 0 (.int .i64 (n / 2))) := by
  refine fn_intro (gmOk E) 11 0 [] Tryz.func22 rfl rfl rfl rfl rfl ?_
  repeat' first | (intro h; first | (exfalso; omega; done) | skip) | (refine And.intro ?_ ?_) | exact True.intro | (refine @Exists.intro Unit _ () ?_) | (refine @Exists.intro (_ = _) _ rfl ?_)
  all_goals first | rfl | omega | exact neg_half ‹_› | exact (neg_half ‹_›).symm | exact pos_quo (by omega) | exact (pos_quo (by omega)).symm | (have q := pos_quo (a := 1 - n) (by omega); omega) | (have q := pos_quo (a := n) (by omega); omega)

set_option maxHeartbeats 1000000 in
theorem rside_z (E : Nat → Addr) (d : Int) (h : 0 ≤ d ∧ d ≤ 8) : Does (Gm E) 20 (Sp0 [.int .i64 d] [] 0 (.int .i64 (side d))) := by
  refine fn_intro (gmOk E) 13 0 [] Tryz.func20 rfl rfl rfl rfl rfl ?_
  repeat' first | (intro h; first | (exfalso; omega; done) | skip) | (refine And.intro ?_ ?_) | exact True.intro | (refine @Exists.intro Unit _ () ?_) | (refine @Exists.intro (_ = _) _ rfl ?_) | (change LoopGoal _ _ _ _ _ _; refine loop_at 3 (gmOk E) rfl [] (X := Int) (fun z => [(3, .int .i64 (side z)), (4, .int .i64 z)]) (fun z => []) [] (fun z => 0 ≤ z ∧ z ≤ d) (fun z => d.toNat - z.toNat) ⟨0, ?_⟩ (fun z hZ => ?_)) | (change @Exists (Int) (fun _ => updK _ _ _ _ _ _); refine @Exists.intro (Int) _ (z + 1) ?_)
  all_goals first | rfl | omega | exact side_next (by omega) | exact (side_next (by omega)).symm | (rw [show z = d by omega]) | (have q := side_next (d := z) (by omega); have q2 := side_bd (d := z + 1) (by omega); omega)

set_option maxHeartbeats 1000000 in
theorem rcol_z (E : Nat → Addr) (n d : Int) (h : (0 ≤ d ∧ d ≤ 8) ∧ -2097152 ≤ n ∧ n ≤ 2097152) : Does (Gm E) 21 (Sp0 [.int .i64 n, .int .i64 d] [] 0 (.int .i64 (colOf n d))) := by
  obtain ⟨hd, hn⟩ := h; have hp := pow_bd hd; have hs := side_bd hd; have hw := pw hd
  refine fn_intro (gmOk E) 26 0 [] Tryz.func21 rfl rfl rfl rfl rfl ?_
  repeat' first | (intro h; first | (exfalso; omega; done) | skip) | (refine And.intro ?_ ?_) | exact True.intro | (refine @Exists.intro Unit _ () ?_) | (refine @Exists.intro (_ = _) _ rfl ?_) | (change LoopGoal _ _ _ _ _ _; refine loop_at 3 (gmOk E) rfl [] (X := Int) (fun z => [(6, .int .i64 z)]) (fun z => []) [] (fun z => 0 ≤ z ∧ z ≤ 2 ^ d.toNat - 1 ∧ z * side d ≤ n + 2097152) (fun z => 256 - z.toNat) ⟨0, ?_⟩ (fun z hZ => ?_)) | (change @Exists (Int) (fun _ => updK _ _ _ _ _ _); refine @Exists.intro (Int) _ (z + 1) ?_) | (change CallGoal _ _ _ _ _ _; first | (refine call0 (rside_z E d hd) [] rfl True.intro rfl ?_))
  all_goals first
| rfl
| omega
| (have q := mulk_bd hd hZ.1 (by omega); omega)
| (rw [Int.zero_mul]; omega)
| exact (col_done hd hZ.1 hZ.2.1 hZ.2.2 (fun q => by first | (rw [hw] at *; omega) | omega)).symm
| exact col_done hd hZ.1 hZ.2.1 hZ.2.2 (fun q => by first | (rw [hw] at *; omega) | omega)

set_option maxHeartbeats 1000000 in
theorem rof_form (E : Nat → Addr) (b : Int × Int × Int × Int) (h : ¬ rightP b) : Does (Gm E) 6 (Sp0 [.agg [.int .i64 b.1, .int .i64 b.2.1, .int .i64 b.2.2.1, .int .i64 b.2.2.2]] [] 0 (.tup [.agg [.int .i64 0, .int .i64 0, .int .i64 0], .int .i64 7])) := by
  rename ¬ rightP b => h1
  refine fn_intro (gmOk E) 74 0 [] Tryz.func6 rfl rfl rfl rfl rfl ?_
  repeat' first | (intro h; first | (exfalso; omega; done) | (exfalso; first | exact h1 h | exact h1 (Classical.not_not.1 h); done) | skip) | (refine And.intro ?_ ?_) | exact True.intro | (refine @Exists.intro Unit _ () ?_) | (refine @Exists.intro (_ = _) _ rfl ?_) | (change CallGoal _ _ _ _ _ _; first | (refine call0 (ref01right_z E b) [] rfl True.intro rfl ?_))
  all_goals first | rfl | omega

theorem in_no {b : Int × Int × Int × Int} (h : inWorld b.1 b.2.1 b.2.2.1 b.2.2.2 = false) (h1 : -2097152 ≤ b.1 ∧ b.1 ≤ 2097152) (h2 : -2097152 ≤ b.2.1 ∧ b.2.1 ≤ 2097152) (h3 : -2097152 ≤ b.2.2.1 ∧ b.2.2.1 ≤ 2097152) (h4 : -2097152 ≤ b.2.2.2 ∧ b.2.2.2 ≤ 2097152) : False := by
  rw [inWorld_iff.2 (by omega)] at h; cases h
theorem in_not {b : Int × Int × Int × Int} (h : inWorld b.1 b.2.1 b.2.2.1 b.2.2.2 = false) : ¬ ((-2097152 ≤ b.1 ∧ b.1 ≤ 2097152) ∧ (-2097152 ≤ b.2.1 ∧ b.2.1 ≤ 2097152) ∧ (-2097152 ≤ b.2.2.1 ∧ b.2.2.1 ≤ 2097152) ∧ (-2097152 ≤ b.2.2.2 ∧ b.2.2.2 ≤ 2097152)) := fun ⟨h1, h2, h3, h4⟩ => in_no h h1 h2 h3 h4
set_option maxHeartbeats 1000000 in
theorem rof_range (E : Nat → Addr) (b : Int × Int × Int × Int) (h : rightP b ∧ inWorld b.1 b.2.1 b.2.2.1 b.2.2.2 = false) : Does (Gm E) 6 (Sp0 [.agg [.int .i64 b.1, .int .i64 b.2.1, .int .i64 b.2.2.1, .int .i64 b.2.2.2]] [] 0 (.tup [.agg [.int .i64 0, .int .i64 0, .int .i64 0], .int .i64 1])) := by
  obtain ⟨h1, h2⟩ := h; have h3 := in_not h2
  refine fn_intro (gmOk E) 74 0 [] Tryz.func6 rfl rfl rfl rfl rfl ?_
  repeat' first | (intro h; first | (exfalso; omega; done) | (exfalso; first | exact h h1 | (apply h3; (try simp only [not_or, Classical.not_not, not_and] at *); omega); done) | skip) | (refine And.intro ?_ ?_) | exact True.intro | (refine @Exists.intro Unit _ () ?_) | (refine @Exists.intro (_ = _) _ rfl ?_) | (change CallGoal _ _ _ _ _ _; first | (refine call0 (ref01right_z E b) [] rfl True.intro rfl ?_) | (refine call0 (in_z E b.1 2097152 (by omega)) [] rfl True.intro rfl ?_) | (refine call0 (in_z E b.2.1 2097152 (by omega)) [] rfl True.intro rfl ?_) | (refine call0 (in_z E b.2.2.1 2097152 (by omega)) [] rfl True.intro rfl ?_) | (refine call0 (in_z E b.2.2.2 2097152 (by omega)) [] rfl True.intro rfl ?_))
  all_goals first | rfl | omega

set_option maxHeartbeats 2000000 in
theorem rof_ok (E : Nat → Addr) (b : Int × Int × Int × Int) (h : okB b = true) : Does (Gm E) 6 (Sp0 [.agg [.int .i64 b.1, .int .i64 b.2.1, .int .i64 b.2.2.1, .int .i64 b.2.2.2]] [] 0 (.tup [.agg [.int .i64 (cellB b).1, .int .i64 (cellB b).2.1, .int .i64 (cellB b).2.2], .int .i64 0])) := by
  have h0 := Bool.and_eq_true_iff.1 h; have h1 := right_iff.1 h0.1; have h2 := h0.2; have h4 := inWorld_iff.1 h2; have h5 := bsize_spec b.1 b.2.1 b.2.2.1 b.2.2.2; have h6 : (bsize b.1 b.2.1 b.2.2.1 b.2.2.2) ≤ 4194304 := (by omega); rename okB b = true => hk
  refine fn_intro (gmOk E) 74 0 [] Tryz.func6 rfl rfl rfl rfl rfl ?_
  repeat' first | (intro h; first | (exfalso; omega; done) | (exfalso; first | exact h h1 | omega; done) | skip) | (refine And.intro ?_ ?_) | exact True.intro | (refine @Exists.intro Unit _ () ?_) | (refine @Exists.intro (_ = _) _ rfl ?_) | (change LoopGoal _ _ _ _ _ _; refine loop_at 7 (gmOk E) rfl [] (X := (Int × Int)) (fun x => [(5, .int .i64 x.1), (4, .int .i64 x.2)]) (fun x => []) [] (fun x => 1 ≤ x.1 ∧ x.1 ≤ 9 ∧ x.2 = if x.1 - 1 ≤ depthOf (bsize b.1 b.2.1 b.2.2.1 b.2.2.2) then x.1 - 1 else depthOf (bsize b.1 b.2.1 b.2.2.1 b.2.2.2)) (fun x => 9 - x.1.toNat) ⟨(1, 0), ?_⟩ (fun x hZ => ?_)) | (change @Exists ((Int × Int)) (fun _ => updK _ _ _ _ _ _); refine @Exists.intro ((Int × Int)) _ ((?_, ?_)) ?_; rotate_left 2) | (change DrawGoal _ _ _ _ _ _; first | (change DrawGoal _ _ _ ({ dst := some 37, op := _, type := _, pos := _, after := _, guard := _ } :: _) _ _; refine draw_tree (gmOk E) [0] (.leaf [(0, true), (2, true), (3, true), (4, true), (5, true), (6, true), (1, false), (7, true), (8, true), (9, true), (11, true), (12, true), (13, true), (14, true), (15, true), (10, false), (16, true), (17, true)]) (by kernel_rfl) ?_) | (change DrawGoal _ _ _ ({ dst := some 56, op := _, type := _, pos := _, after := _, guard := _ } :: _) _ _; refine draw_tree (gmOk E) [0] (.leaf [(0, true), (1, true), (2, true), (3, true), (4, true), (5, true), (7, true), (9, true), (10, true), (11, true), (12, true), (13, true), (15, true), (6, false), (8, false), (14, false), (16, false), (17, true), (18, false), (19, true)]) (by kernel_rfl) ?_)) | (change CallGoal _ _ _ _ _ _; first | (refine call0 (ref01right_z E b) [] rfl True.intro rfl ?_) | (refine call0 (in_z E b.1 2097152 (by omega)) [] rfl True.intro rfl ?_) | (refine call0 (in_z E b.2.1 2097152 (by omega)) [] rfl True.intro rfl ?_) | (refine call0 (in_z E b.2.2.1 2097152 (by omega)) [] rfl True.intro rfl ?_) | (refine call0 (in_z E b.2.2.2 2097152 (by omega)) [] rfl True.intro rfl ?_) | (refine call0 (rside_z E x.1 ⟨?_, ?_⟩) [] rfl True.intro rfl ?_) | (refine call0 (rhalf_z E (b.1 + b.2.2.1) ⟨?_, ?_⟩) [] rfl True.intro rfl ?_) | (refine call0 (rhalf_z E (b.2.1 + b.2.2.2) ⟨?_, ?_⟩) [] rfl True.intro rfl ?_) | (refine call0 (rcol_z E ((b.1 + b.2.2.1) / 2) x.2 ⟨⟨?_, ?_⟩, ?_, ?_⟩) [] rfl True.intro rfl ?_) | (refine call0 (rcol_z E ((b.2.1 + b.2.2.2) / 2) x.2 ⟨⟨?_, ?_⟩, ?_, ?_⟩) [] rfl True.intro rfl ?_))
  all_goals first
| (dsimp only; first | rfl | omega)
| rfl
| omega
| (have q := side_bd (d := x.1) (by omega); omega)
| (have q := depthOf_bd (bsize b.1 b.2.1 b.2.2.1 b.2.2.2); rw [if_pos (by omega)]; omega)
| exact (dep_step h6 ⟨hZ.1, ‹_›⟩ hZ.2.2).1 (big_iff.2 ⟨‹_›, h⟩)
| exact (dep_step h6 ⟨hZ.1, ‹_›⟩ hZ.2.2).2 (fun e => h (big_iff.1 e).2)
| exact (dep_step h6 ⟨hZ.1, ‹_›⟩ hZ.2.2).2 (fun e => h (big_iff.1 e).1)
| (have e : x.2 = depthOf (bsize b.1 b.2.1 b.2.2.1 b.2.2.2) := dep_end ⟨hZ.1, hZ.2.1⟩ ‹_› hZ.2.2; have q := depthOf_bd (bsize b.1 b.2.1 b.2.2.1 b.2.2.2); rw [e]; first | rfl | omega)
| (have e : x.2 = depthOf (bsize b.1 b.2.1 b.2.2.1 b.2.2.2) := dep_end ⟨hZ.1, hZ.2.1⟩ ‹_› hZ.2.2; have q := depthOf_bd (bsize b.1 b.2.1 b.2.2.1 b.2.2.2); omega)

end Go.Proofs.YtpojafdllcioiaaGreatDoor

/- errors.Is, of the package's errors -/
namespace Go.Proofs.YtpojafdllcioiaaGreatDoor
open Go.Px
set_option linter.unusedVariables false
set_option linter.unusedSimpArgs false
theorem enters2 : enters Tryz.prog 2 := ⟨_, Tryz.func2, by kernel_rfl, rfl⟩
theorem enters3 : enters Tryz.prog 3 := ⟨_, Tryz.func3, by kernel_rfl, rfl⟩
theorem enters4 : enters Tryz.prog 4 := ⟨_, Tryz.func4, by kernel_rfl, rfl⟩
theorem enters5 : enters Tryz.prog 5 := ⟨_, Tryz.func5, by kernel_rfl, rfl⟩
theorem enters6 : enters Tryz.prog 6 := ⟨_, Tryz.func6, by kernel_rfl, rfl⟩
theorem enters7 : enters Tryz.prog 7 := ⟨_, Tryz.func7, by kernel_rfl, rfl⟩
theorem enters8 : enters Tryz.prog 8 := ⟨_, Tryz.func8, by kernel_rfl, rfl⟩
theorem enters9 : enters Tryz.prog 9 := ⟨_, Tryz.func9, by kernel_rfl, rfl⟩
theorem enters10 : enters Tryz.prog 10 := ⟨_, Tryz.func10, by kernel_rfl, rfl⟩
theorem enters11 : enters Tryz.prog 11 := ⟨_, Tryz.func11, by kernel_rfl, rfl⟩
theorem enters12 : enters Tryz.prog 12 := ⟨_, Tryz.func12, by kernel_rfl, rfl⟩
theorem enters13 : enters Tryz.prog 13 := ⟨_, Tryz.func13, by kernel_rfl, rfl⟩
theorem enters14 : enters Tryz.prog 14 := ⟨_, Tryz.func14, by kernel_rfl, rfl⟩
theorem enters15 : enters Tryz.prog 15 := ⟨_, Tryz.func15, by kernel_rfl, rfl⟩
theorem enters16 : enters Tryz.prog 16 := ⟨_, Tryz.func16, by kernel_rfl, rfl⟩
theorem enters17 : enters Tryz.prog 17 := ⟨_, Tryz.func17, by kernel_rfl, rfl⟩
theorem enters18 : enters Tryz.prog 18 := ⟨_, Tryz.func18, by kernel_rfl, rfl⟩
theorem enters19 : enters Tryz.prog 19 := ⟨_, Tryz.func19, by kernel_rfl, rfl⟩
theorem enters20 : enters Tryz.prog 20 := ⟨_, Tryz.func20, by kernel_rfl, rfl⟩
theorem enters21 : enters Tryz.prog 21 := ⟨_, Tryz.func21, by kernel_rfl, rfl⟩
theorem enters22 : enters Tryz.prog 22 := ⟨_, Tryz.func22, by kernel_rfl, rfl⟩
theorem enters23 : enters Tryz.prog 23 := ⟨_, Tryz.func23, by kernel_rfl, rfl⟩
theorem enters24 : enters Tryz.prog 24 := ⟨_, Tryz.func24, by kernel_rfl, rfl⟩
theorem enters25 : enters Tryz.prog 25 := ⟨_, Tryz.func25, by kernel_rfl, rfl⟩
theorem enters26 : enters Tryz.prog 26 := ⟨_, Tryz.func26, by kernel_rfl, rfl⟩
theorem enters27 : enters Tryz.prog 27 := ⟨_, Tryz.func27, by kernel_rfl, rfl⟩
theorem enters28 : enters Tryz.prog 28 := ⟨_, Tryz.func28, by kernel_rfl, rfl⟩
theorem enters29 : enters Tryz.prog 29 := ⟨_, Tryz.func29, by kernel_rfl, rfl⟩
theorem enters30 : enters Tryz.prog 30 := ⟨_, Tryz.func30, by kernel_rfl, rfl⟩
theorem enters31 : enters Tryz.prog 31 := ⟨_, Tryz.func31, by kernel_rfl, rfl⟩
theorem enters32 : enters Tryz.prog 32 := ⟨_, Tryz.func32, by kernel_rfl, rfl⟩
theorem enters33 : enters Tryz.prog 33 := ⟨_, Tryz.func33, by kernel_rfl, rfl⟩
theorem enters34 : enters Tryz.prog 34 := ⟨_, Tryz.func34, by kernel_rfl, rfl⟩
theorem enters35 : enters Tryz.prog 35 := ⟨_, Tryz.func35, by kernel_rfl, rfl⟩
theorem enters36 : enters Tryz.prog 36 := ⟨_, Tryz.func36, by kernel_rfl, rfl⟩
theorem enters37 : enters Tryz.prog 37 := ⟨_, Tryz.func37, by kernel_rfl, rfl⟩
theorem enters38 : enters Tryz.prog 38 := ⟨_, Tryz.func38, by kernel_rfl, rfl⟩
theorem enters39 : enters Tryz.prog 39 := ⟨_, Tryz.func39, by kernel_rfl, rfl⟩
theorem enters40 : enters Tryz.prog 40 := ⟨_, Tryz.func40, by kernel_rfl, rfl⟩
theorem enters41 : enters Tryz.prog 41 := ⟨_, Tryz.func41, by kernel_rfl, rfl⟩
theorem enters42 : enters Tryz.prog 42 := ⟨_, Tryz.func42, by kernel_rfl, rfl⟩
theorem enters44 : enters Tryz.prog 44 := ⟨_, Tryz.func44, by kernel_rfl, rfl⟩
theorem enters45 : enters Tryz.prog 45 := ⟨_, Tryz.func45, by kernel_rfl, rfl⟩
theorem enters46 : enters Tryz.prog 46 := ⟨_, Tryz.func46, by kernel_rfl, rfl⟩
theorem enters47 : enters Tryz.prog 47 := ⟨_, Tryz.func47, by kernel_rfl, rfl⟩
theorem enters48 : enters Tryz.prog 48 := ⟨_, Tryz.func48, by kernel_rfl, rfl⟩
theorem enters49 : enters Tryz.prog 49 := ⟨_, Tryz.func49, by kernel_rfl, rfl⟩
theorem enters50 : enters Tryz.prog 50 := ⟨_, Tryz.func50, by kernel_rfl, rfl⟩
theorem enters51 : enters Tryz.prog 51 := ⟨_, Tryz.func51, by kernel_rfl, rfl⟩
theorem enters52 : enters Tryz.prog 52 := ⟨_, Tryz.func52, by kernel_rfl, rfl⟩
theorem enters53 : enters Tryz.prog 53 := ⟨_, Tryz.func53, by kernel_rfl, rfl⟩
theorem enters54 : enters Tryz.prog 54 := ⟨_, Tryz.func54, by kernel_rfl, rfl⟩
theorem enters55 : enters Tryz.prog 55 := ⟨_, Tryz.func55, by kernel_rfl, rfl⟩
theorem enters56 : enters Tryz.prog 56 := ⟨_, Tryz.func56, by kernel_rfl, rfl⟩
theorem enters57 : enters Tryz.prog 57 := ⟨_, Tryz.func57, by kernel_rfl, rfl⟩
theorem enters58 : enters Tryz.prog 58 := ⟨_, Tryz.func58, by kernel_rfl, rfl⟩
theorem enters59 : enters Tryz.prog 59 := ⟨_, Tryz.func59, by kernel_rfl, rfl⟩
theorem enters60 : enters Tryz.prog 60 := ⟨_, Tryz.func60, by kernel_rfl, rfl⟩
theorem enters61 : enters Tryz.prog 61 := ⟨_, Tryz.func61, by kernel_rfl, rfl⟩
theorem enters62 : enters Tryz.prog 62 := ⟨_, Tryz.func62, by kernel_rfl, rfl⟩
theorem enters63 : enters Tryz.prog 63 := ⟨_, Tryz.func63, by kernel_rfl, rfl⟩
theorem enters64 : enters Tryz.prog 64 := ⟨_, Tryz.func64, by kernel_rfl, rfl⟩
theorem enters65 : enters Tryz.prog 65 := ⟨_, Tryz.func65, by kernel_rfl, rfl⟩
theorem enters66 : enters Tryz.prog 66 := ⟨_, Tryz.func66, by kernel_rfl, rfl⟩
theorem enters67 : enters Tryz.prog 67 := ⟨_, Tryz.func67, by kernel_rfl, rfl⟩
theorem enters68 : enters Tryz.prog 68 := ⟨_, Tryz.func68, by kernel_rfl, rfl⟩
theorem enters69 : enters Tryz.prog 69 := ⟨_, Tryz.func69, by kernel_rfl, rfl⟩
theorem enters70 : enters Tryz.prog 70 := ⟨_, Tryz.func70, by kernel_rfl, rfl⟩
theorem enters71 : enters Tryz.prog 71 := ⟨_, Tryz.func71, by kernel_rfl, rfl⟩
theorem enters72 : enters Tryz.prog 72 := ⟨_, Tryz.func72, by kernel_rfl, rfl⟩
theorem enters73 : enters Tryz.prog 73 := ⟨_, Tryz.func73, by kernel_rfl, rfl⟩
theorem enters74 : enters Tryz.prog 74 := ⟨_, Tryz.func74, by kernel_rfl, rfl⟩
theorem enters75 : enters Tryz.prog 75 := ⟨_, Tryz.func75, by kernel_rfl, rfl⟩
theorem enters76 : enters Tryz.prog 76 := ⟨_, Tryz.func76, by kernel_rfl, rfl⟩
theorem enters77 : enters Tryz.prog 77 := ⟨_, Tryz.func77, by kernel_rfl, rfl⟩
theorem enters78 : enters Tryz.prog 78 := ⟨_, Tryz.func78, by kernel_rfl, rfl⟩
theorem enters79 : enters Tryz.prog 79 := ⟨_, Tryz.func79, by kernel_rfl, rfl⟩
theorem enters80 : enters Tryz.prog 80 := ⟨_, Tryz.func80, by kernel_rfl, rfl⟩
theorem enters81 : enters Tryz.prog 81 := ⟨_, Tryz.func81, by kernel_rfl, rfl⟩
theorem enters82 : enters Tryz.prog 82 := ⟨_, Tryz.func82, by kernel_rfl, rfl⟩
theorem enters83 : enters Tryz.prog 83 := ⟨_, Tryz.func83, by kernel_rfl, rfl⟩
theorem enters84 : enters Tryz.prog 84 := ⟨_, Tryz.func84, by kernel_rfl, rfl⟩
theorem enters85 : enters Tryz.prog 85 := ⟨_, Tryz.func85, by kernel_rfl, rfl⟩
theorem enters86 : enters Tryz.prog 86 := ⟨_, Tryz.func86, by kernel_rfl, rfl⟩
theorem enters87 : enters Tryz.prog 87 := ⟨_, Tryz.func87, by kernel_rfl, rfl⟩
theorem enters88 : enters Tryz.prog 88 := ⟨_, Tryz.func88, by kernel_rfl, rfl⟩
theorem enters89 : enters Tryz.prog 89 := ⟨_, Tryz.func89, by kernel_rfl, rfl⟩
theorem enters90 : enters Tryz.prog 90 := ⟨_, Tryz.func90, by kernel_rfl, rfl⟩
theorem enters91 : enters Tryz.prog 91 := ⟨_, Tryz.func91, by kernel_rfl, rfl⟩
theorem enters92 : enters Tryz.prog 92 := ⟨_, Tryz.func92, by kernel_rfl, rfl⟩
theorem enters93 : enters Tryz.prog 93 := ⟨_, Tryz.func93, by kernel_rfl, rfl⟩
theorem enters94 : enters Tryz.prog 94 := ⟨_, Tryz.func94, by kernel_rfl, rfl⟩
theorem enters95 : enters Tryz.prog 95 := ⟨_, Tryz.func95, by kernel_rfl, rfl⟩
theorem enters96 : enters Tryz.prog 96 := ⟨_, Tryz.func96, by kernel_rfl, rfl⟩
theorem enters97 : enters Tryz.prog 97 := ⟨_, Tryz.func97, by kernel_rfl, rfl⟩
theorem enters98 : enters Tryz.prog 98 := ⟨_, Tryz.func98, by kernel_rfl, rfl⟩
theorem enters99 : enters Tryz.prog 99 := ⟨_, Tryz.func99, by kernel_rfl, rfl⟩
theorem enters100 : enters Tryz.prog 100 := ⟨_, Tryz.func100, by kernel_rfl, rfl⟩
theorem enters101 : enters Tryz.prog 101 := ⟨_, Tryz.func101, by kernel_rfl, rfl⟩
theorem enters102 : enters Tryz.prog 102 := ⟨_, Tryz.func102, by kernel_rfl, rfl⟩
theorem enters103 : enters Tryz.prog 103 := ⟨_, Tryz.func103, by kernel_rfl, rfl⟩
theorem enters134 : enters Tryz.prog 134 := ⟨_, Tryz.func134, by kernel_rfl, rfl⟩

theorem esComp : (Tryz.prog.info? 170).map (·.comparable) = some true := by kernel_rfl
theorem esSize : (Tryz.prog.info? 194).map (·.size) = some 1 := by kernel_rfl
theorem isTypeOf (v : Value) (w : World) : (Extern.ReflectliteType.typeOf #[.iface 170 v]).run Tryz.prog w = .ok (.iface 120 (.agg #[.pointer (some ⟨10, 170, none⟩)])) w := by kernel_rfl
theorem isComparable (w : World) : ((Extern.ReflectliteType.method fun t => do Extern.Rtype.noPackHeld "Comparable" t; pure (.bool (← typeInfo t).comparable)) #[.agg #[.pointer (some ⟨10, 170, none⟩)]]).run Tryz.prog w = .ok (.bool true) w := by kernel_rfl
theorem isMethod (v : Value) (w : World) : (Go.method (Tryz.prog.types.size + Made.depth) 120 v "Comparable").run Tryz.prog w = .ok (122, v) w := by kernel_rfl
theorem callTypeOf (v : Value) (w : World) : (callFunc 43 #[.iface 170 v]).run Tryz.prog w = .ok (.value (.iface 120 (.agg #[.pointer (some ⟨10, 170, none⟩)]))) w := by
  rw [@run_callFunc_extern Tryz.prog 43 _ Extern.ReflectliteType.typeOf Tryz.func43 (by kernel_rfl) (by kernel_rfl) (by kernel_rfl) (by kernel_rfl), isTypeOf]
  rfl
theorem callComparable (w : World) : (callFunc 122 #[.agg #[.pointer (some ⟨10, 170, none⟩)]]).run Tryz.prog w = .ok (.value (.bool true)) w := by
  rw [@run_callFunc_extern Tryz.prog 122 _ (Extern.ReflectliteType.method fun t => do Extern.Rtype.noPackHeld "Comparable" t; pure (.bool (← typeInfo t).comparable)) Tryz.func122 (by kernel_rfl) (by kernel_rfl) (by kernel_rfl) (by kernel_rfl)]
  rw [isComparable]
  rfl
theorem esLacks122 (v : Value) (w : World) : (Instr.typeAssert (.iface 170 v) 39 122 true).run Tryz.prog w = .ok (.tuple #[.nilIface, .bool false]) w := run_assert_lacks Tryz.underlying122 (by kernel_rfl) (by kernel_rfl) v w
theorem esLacks125 (v : Value) (w : World) : (Instr.typeAssert (.iface 170 v) 39 125 true).run Tryz.prog w = .ok (.tuple #[.nilIface, .bool false]) w := run_assert_lacks Tryz.underlying125 (by kernel_rfl) (by kernel_rfl) v w
theorem esLacks127 (v : Value) (w : World) : (Instr.typeAssert (.iface 170 v) 39 127 true).run Tryz.prog w = .ok (.tuple #[.nilIface, .bool false]) w := run_assert_lacks Tryz.underlying127 (by kernel_rfl) (by kernel_rfl) v w
theorem eqlErrs {L : List Nat} {w : World} {E : Nat → Addr} (hG : Errs L w 170 E) {g h : Nat} (hg : L.contains g = true) (hh : L.contains h = true) : (Go.binOp .eql 39 (.iface 170 (.pointer (some (E g)))) (.iface 170 (.pointer (some (E h))))).run Tryz.prog w = .ok (.bool (g == h)) w := by
  obtain ⟨i, hi, hcmp⟩ := Option.map_eq_some_iff.1 esComp
  obtain ⟨j, hj, hjs⟩ := Option.map_eq_some_iff.1 esSize
  by_cases e : g = h
  · subst e
    rw [run_eql_iface_ptr_same (P := Tryz.prog) w (E g) Tryz.underlying39 Tryz.underlying170 hi hcmp hj]
    simp
  · obtain ⟨ca, ta, ha⟩ := hG.blk g hg
    obtain ⟨cb, tb, hb⟩ := hG.blk h hh
    rw [run_eql_iface_ptr_other (P := Tryz.prog) w Tryz.underlying39 Tryz.underlying170 hi hcmp hj (by rw [hjs]; decide) (fun h1 => e (hG.inj _ _ hg hh h1)) ha hb]
    simp [e]

set_option maxRecDepth 10000 in
set_option maxHeartbeats 1600000 in
theorem is_any (E : Nat → Addr) (g h : Nat) (w : World) (hg : ([0, 1, 2, 3, 4, 5, 6, 7, 8, 9] : List Nat).contains g = true) (hh : ([0, 1, 2, 3, 4, 5, 6, 7, 8, 9] : List Nat).contains h = true) (hG : Errs [0, 1, 2, 3, 4, 5, 6, 7, 8, 9] w 170 E) :
    Calls Tryz.prog 44 #[.iface 170 (.pointer (some (E g))), .iface 170 (.pointer (some (E h))), bV true] w (Ret fun v w' => v = .bool (g == h) ∧ Keep Nn w w') := by
 refine sxenter (n := 54) (args := [.iface 170 (.pointer (some (E g))), .iface 170 (.pointer (some (E h))), bV true]) Tryz.func44 rfl rfl rfl fun a hf => ?_
 replace hf : Fr 54 [(0, .val (.iface 170 (.pointer (some (E g))))), (1, .val (.iface 170 (.pointer (some (E h))))), (2, eB true)] a := hf
 have hM : MemOk [] w := MemOk.nil w
 have hk0 : Keep Nn w w := Keep.refl _ _
 refine wp_seq_k (fun K1 hK1 => ?_)
 refine wp_region_lit ?_
 refine q0 hf hM [0, 1, 2] [{}] (nw := []) An ?_
 clear hf; intro a hf
 refine wpList_nil ?_
 refine hK1 _ _ ?_
 refine wp_block ?_
 have hf := (hf.prune [0, 1, 2]).to (env' := [(0, .val (.iface 170 (.pointer (some (E g))))), (1, .val (.iface 170 (.pointer (some (E h))))), (2, eB true)]) (by kernel_rfl)
 refine sxloop (fun zm a w1 => zm = 0 ∧ Fr 54 [(0, .val (.iface 170 (.pointer (some (E g))))), (1, .val (.iface 170 (.pointer (some (E h))))), (2, eB true)] a ∧ MemOk [] w1 ∧ Keep Nn w w1) _ ⟨rfl, hf.conv (Ac rfl (Ac rfl (Ao rfl))), hM, hk0⟩ ?_
 clear hf hM hk0
 rintro _ a w1 ⟨rfl, hf, hM, hk0⟩ L1 hL1
 refine wp_block ?_
 refine wp_seq_k (fun K2 hK2 => ?_)
 refine wp_seq_k (fun K3 hK3 => ?_)
 refine wp_region_lit ?_
 refine q0 hf hM [0, 1, 2] [{}, {}, {}, {}] (nw := [(17, .val (.iface 170 (.pointer (some (E h))))), (16, .val (.iface 170 (.pointer (some (E g))))), (15, eB true)]) (ob := [true = true, true = true]) (Ac rfl (Ao rfl)) ?_
 clear hf; intro a hf
 refine sxvalg hf rfl rfl rfl rfl rfl (v := bV (g == h)) (ob := []) (by kernel_rfl) An (ox_eql rfl rfl rfl (eqlErrs (hG.keep hk0 (fun _ h => h)) hg hh)) ?_
 clear hf; intro a hf
 refine q0 hf hM [18, 17, 16, 0, 1, 2] [{}] (nw := [(19, eB (g == h))]) An ?_
 clear hf; intro a hf
 refine wpList_nil ?_
 refine hK3 _ _ ?_
 refine qc hf (b := (g == h)) (fun hc1r => ?_) (fun hc1r => ?_)
 · have hc1 := hc1r
   try simp only [Bool.or_eq_true, Bool.and_eq_true, Bool.not_eq_true', Bool.not_eq_false', Bool.or_eq_false_iff, Bool.and_eq_false_iff, decide_eq_true_eq, decide_eq_false_iff_not, beq_iff_eq, bne_iff_ne, beq_eq_false_iff_ne, bne_eq_false_iff_eq, Bool.and_true, Bool.true_and, ne_eq] at hc1
   refine wp_seq_k (fun K4 hK4 => ?_)
   refine wp_region_lit ?_
   refine q0 hf hM [] [{}] (nw := [(6, eB true)]) An ?_
   clear hf; intro a hf
   refine wpList_nil ?_
   refine hK4 _ _ ?_
   refine wp_ret ?_
   refine qr (fn := Tryz.f44) hf hM [] (l := [bV true]) (ob := []) An ?_
   show (bV true : Value) = .bool (g == h) ∧ Keep Nn w w1
   refine ⟨?_, hk0⟩
   simp_all
 · have hc1 := hc1r
   try simp only [Bool.or_eq_true, Bool.and_eq_true, Bool.not_eq_true', Bool.not_eq_false', Bool.or_eq_false_iff, Bool.and_eq_false_iff, decide_eq_true_eq, decide_eq_false_iff_not, beq_iff_eq, bne_iff_ne, beq_eq_false_iff_ne, bne_eq_false_iff_eq, Bool.and_true, Bool.true_and, ne_eq] at hc1
   refine wp_skip ?_
   refine hK2 _ _ ?_
   refine wp_seq_k (fun K5 hK5 => ?_)
   refine wp_seq_k (fun K6 hK6 => ?_)
   refine wp_region_lit ?_
   refine q0 hf hM [18, 17, 16, 0, 1, 2] [{}] (nw := [(21, .val (.iface 170 (.pointer (some (E g)))))]) An ?_
   clear hf; intro a hf
   refine sxval hf rfl rfl rfl rfl (v := .tuple #[.nilIface, bV false]) (ob := []) (by kernel_rfl) An (ox_assert rfl rfl (esLacks122 _ _)) ?_
   clear hf; intro a hf
   refine q0 hf hM [18, 17, 16, 0, 1, 2] [{}, {}, {}, {}, {}] (nw := [(8, eB false), (7, .val (.nilIface))]) An ?_
   clear hf; intro a hf
   refine wpList_nil ?_
   refine hK6 _ _ ?_
   refine wp_seq_k (fun K7 hK7 => ?_)
   refine wp_region_lit ?_
   refine q0 hf hM [18, 17, 16, 0, 1, 2] [{}, {}, { g := .off }, { g := .off }] (nw := [(28, .val (undef)), (27, .val (undef)), (26, eB false)]) (ob := [false = !true, false = !true]) (Ac rfl (Ao rfl)) ?_
   clear hf; intro a hf
   refine q0 hf hM [28, 27, 18, 17, 16, 0, 1, 2] [{ g := .off }, {}] (nw := [(30, eB false), (29, .val (undef))]) (ob := [false = !true]) (Ao rfl) ?_
   clear hf; intro a hf
   refine wpList_nil ?_
   refine hK7 _ _ ?_
   refine sxcond hf (b := false) (by kernel_rfl) (fun h => by cases h) (fun _ => ?_)
   refine wp_skip ?_
   refine hK5 _ _ ?_
   refine wp_seq_k (fun K8 hK8 => ?_)
   refine wp_region_lit ?_
   refine q0 hf hM [29, 28, 27, 18, 17, 16, 1, 2] [{}] (nw := [(31, .val (.iface 170 (.pointer (some (E g)))))]) An ?_
   clear hf; intro a hf
   refine wpList_nil ?_
   refine hK8 _ _ ?_
   refine wp_block ?_
   refine wp_seq_k (fun K9 hK9 => ?_)
   refine wp_region_lit ?_
   refine sxval hf rfl rfl rfl rfl (v := .tuple #[.nilIface, bV false]) (ob := []) (by kernel_rfl) An (ox_assert rfl rfl (esLacks125 _ _)) ?_
   clear hf; intro a hf
   refine q0 hf hM [31, 29, 28, 27, 18, 17, 16, 1, 2] [{}, {}] (nw := [(34, .val (.nilIface)), (33, eB false)]) An ?_
   clear hf; intro a hf
   refine wpList_nil ?_
   refine hK9 _ _ ?_
   refine sxcond hf (b := false) (by kernel_rfl) (fun h => by cases h) (fun _ => ?_)
   refine wp_seq_k (fun K10 hK10 => ?_)
   refine wp_region_lit ?_
   refine sxval hf rfl rfl rfl rfl (v := .tuple #[.nilIface, bV false]) (ob := []) (by kernel_rfl) An (ox_assert rfl rfl (esLacks127 _ _)) ?_
   clear hf; intro a hf
   refine q0 hf hM [31, 1, 2] [{}, {}] (nw := [(41, .val (.nilIface)), (40, eB false)]) An ?_
   clear hf; intro a hf
   refine wpList_nil ?_
   refine hK10 _ _ ?_
   refine sxcond hf (b := false) (by kernel_rfl) (fun h => by cases h) (fun _ => ?_)
   refine wp_seq_k (fun K11 hK11 => ?_)
   refine wp_region_lit ?_
   refine q0 hf hM [] [{}] (nw := []) An ?_
   clear hf; intro a hf
   refine wpList_nil ?_
   refine hK11 _ _ ?_
   refine wp_seq_k (fun K12 hK12 => ?_)
   refine wp_region_lit ?_
   refine q0 hf hM [] [{}] (nw := [(6, eB false)]) An ?_
   clear hf; intro a hf
   refine wpList_nil ?_
   refine hK12 _ _ ?_
   refine wp_ret ?_
   refine qr (fn := Tryz.f44) hf hM [] (l := [bV false]) (ob := []) An ?_
   show (bV false : Value) = .bool (g == h) ∧ Keep Nn w w1
   refine ⟨?_, hk0⟩
   simp_all

set_option maxRecDepth 10000 in
set_option maxHeartbeats 1600000 in
theorem Is_any (E : Nat → Addr) (g h : Nat) (w : World) (hg : ([0, 1, 2, 3, 4, 5, 6, 7, 8, 9] : List Nat).contains g = true) (hh : ([0, 1, 2, 3, 4, 5, 6, 7, 8, 9] : List Nat).contains h = true) (hG : Errs [0, 1, 2, 3, 4, 5, 6, 7, 8, 9] w 170 E) :
    Calls Tryz.prog 23 #[.iface 170 (.pointer (some (E g))), .iface 170 (.pointer (some (E h)))] w (Ret fun v w' => v = .bool (g == h) ∧ Keep Nn w w') := by
 refine sxenter (n := 22) (args := [.iface 170 (.pointer (some (E g))), .iface 170 (.pointer (some (E h)))]) Tryz.func23 rfl rfl rfl fun a hf => ?_
 replace hf : Fr 22 [(0, .val (.iface 170 (.pointer (some (E g))))), (1, .val (.iface 170 (.pointer (some (E h)))))] a := hf
 have hM : MemOk [] w := MemOk.nil w
 have hk0 : Keep Nn w w := Keep.refl _ _
 refine wp_seq_k (fun K1 hK1 => ?_)
 refine wp_region_lit ?_
 refine q0 hf hM [0, 1] [{}] (nw := []) An ?_
 clear hf; intro a hf
 refine wpList_nil ?_
 refine hK1 _ _ ?_
 refine wp_seq_k (fun K2 hK2 => ?_)
 refine wp_seq_k (fun K3 hK3 => ?_)
 refine wp_region_lit ?_
 refine q0 hf hM [0, 1] [{}, {}, {}, {}, {}, {}] (nw := [(11, eB false)]) (ob := [false = false, false = false]) (Ac rfl (Ao rfl)) ?_
 clear hf; intro a hf
 refine wpList_nil ?_
 refine hK3 _ _ ?_
 refine sxcond hf (b := false) (by kernel_rfl) (fun h => by cases h) (fun _ => ?_)
 refine wp_skip ?_
 refine hK2 _ _ ?_
 refine wp_seq_k (fun K4 hK4 => ?_)
 refine wp_region_lit ?_
 refine q0 hf hM [0, 1] [{}] (nw := [(15, .val (.iface 170 (.pointer (some (E h)))))]) An ?_
 clear hf; intro a hf
 refine sxval hf rfl rfl rfl rfl (v := .iface 120 (.agg #[pV 10 170])) (ob := []) (by kernel_rfl) An (ox_callx rfl rfl rfl rfl (callTypeOf _ _)) ?_
 clear hf; intro a hf
 refine sxval hf rfl rfl rfl rfl (v := bV true) (ob := []) (by kernel_rfl) An (ox_invoke rfl rfl rfl rfl (isMethod _ _) (callComparable _)) ?_
 clear hf; intro a hf
 refine q0 hf hM [0, 1] [{}] (nw := [(5, eB true)]) An ?_
 clear hf; intro a hf
 refine wpList_nil ?_
 refine hK4 _ _ ?_
 refine wp_seq_k (fun K5 hK5 => ?_)
 refine wp_region_lit ?_
 refine q0 hf hM [] [{}, {}, {}] (nw := [(20, eB true), (19, .val (.iface 170 (.pointer (some (E h))))), (18, .val (.iface 170 (.pointer (some (E g)))))]) An ?_
 clear hf; intro a hf
 refine sxcall hf rfl rfl rfl rfl (g := 44) (vs := [.iface 170 (.pointer (some (E g))), .iface 170 (.pointer (some (E h))), bV true]) (ob := []) (by as_aux_lemma => kernel_rfl) An enters44 (is_any E g h w  hg hh (hG.keep hk0 (fun _ h => h))) ?_
 clear hf; rintro _ w1 a ⟨rfl, hk⟩ hf
 have hM := hM.keepNn hk
 have hk0 := hk0.trans hk.nn
 clear hk
 refine q0 hf hM [] [{}] (nw := [(4, eB (g == h))]) An ?_
 clear hf; intro a hf
 refine wpList_nil ?_
 refine hK5 _ _ ?_
 refine wp_ret ?_
 refine qr (fn := Tryz.f23) hf hM [] (l := [bV (g == h)]) (ob := []) An ?_
 show (bV (g == h) : Value) = .bool (g == h) ∧ Keep Nn w w1
 exact ⟨rfl, hk0⟩

set_option maxRecDepth 10000 in
set_option maxHeartbeats 1600000 in
theorem Is_nil (v : Value) (w : World) :
    Calls Tryz.prog 23 #[.nilIface, .iface 170 v] w (Ret fun v w' => v = .bool false ∧ Keep Nn w w') := by
 refine sxenter (n := 22) (args := [.nilIface, .iface 170 v]) Tryz.func23 rfl rfl rfl fun a hf => ?_
 replace hf : Fr 22 [(0, .val (.nilIface)), (1, .val (.iface 170 v))] a := hf
 have hM : MemOk [] w := MemOk.nil w
 have hk0 : Keep Nn w w := Keep.refl _ _
 refine wp_seq_k (fun K1 hK1 => ?_)
 refine wp_region_lit ?_
 refine q0 hf hM [0, 1] [{}] (nw := []) An ?_
 clear hf; intro a hf
 refine wpList_nil ?_
 refine hK1 _ _ ?_
 refine wp_seq_k (fun K2 hK2 => ?_)
 refine wp_seq_k (fun K3 hK3 => ?_)
 refine wp_region_lit ?_
 refine q0 hf hM [0, 1] [{}, {}, {}, { g := .off }, { g := .off }, {}] (nw := [(11, eB true)]) (ob := [true = !false, true = !false]) (Ac rfl (Ao rfl)) ?_
 clear hf; intro a hf
 refine wpList_nil ?_
 refine hK3 _ _ ?_
 refine sxcond hf (b := true) (by kernel_rfl) (fun _ => ?_) (fun h => by cases h)
 refine wp_seq_k (fun K4 hK4 => ?_)
 refine wp_region_lit ?_
 refine q0 hf hM [] [{}, {}, {}, {}] (nw := [(4, eB false)]) An ?_
 clear hf; intro a hf
 refine wpList_nil ?_
 refine hK4 _ _ ?_
 refine wp_ret ?_
 refine qr (fn := Tryz.f23) hf hM [] (l := [bV false]) (ob := []) An ?_
 show (bV false : Value) = .bool false ∧ Keep Nn w w
 exact ⟨rfl, hk0⟩
end Go.Proofs.YtpojafdllcioiaaGreatDoor

namespace Go.Proofs.YtpojafdllcioiaaGreatDoor
open Go.Zz Go.Px
open Go.Qd (okC okC_iff upC cellB okB okC_cell chain cnt1 cntL)
set_option linter.unusedVariables false
set_option linter.unusedSectionVars false
set_option linter.unusedSimpArgs false
set_option maxRecDepth 10000
abbrev E10 : List Nat := [0, 1, 2, 3, 4, 5, 6, 7, 8, 9]
noncomputable def Gt (E : Nat → Addr) : Ctx := { Gm E with errs := E10 }
theorem gtOk (E : Nat → Addr) : (Gt E).Ok := ⟨(gmOk E).tb, (gmOk E).eqs, (gmOk E).mixed⟩
theorem liftT {E : Nat → Addr} {f : FuncId} {S : Zz.Spec} (h : Does (Gm E) f S) : Does (Gt E) f S :=
  Does.lift (Γ := Gt E) (L := [0, 2, 6]) (fun g hg => by
    have : g = 0 ∨ g = 2 ∨ g = 6 := by simpa using hg
    rcases this with rfl | rfl | rfl <;> rfl) h
theorem is_z (E : Nat → Addr) (g h : Nat) (hg : E10.contains g = true) (hh : E10.contains h = true) {r : SV} (hr : r = .tt ∧ g = h ∨ r = .ff ∧ g ≠ h) : Does (Gt E) 23 (Sp0 [.err g, .err h] [] 0 r) := by
  refine Does.of_calls enters23 (by simp [SV.bdL, SV.bd]) (fun c ch hc => by simp [lk] at hc) (by rcases hr with ⟨rfl, _⟩ | ⟨rfl, _⟩ <;> simp [SV.bd]) fun V w hp => ?_
  refine Calls.mono (Is_any E g h w hg hh hp.hr.errs) fun e W2 he => ?_
  obtain ⟨v, rfl, q1, q2⟩ := he
  refine ⟨v, rfl, ?_, q2⟩
  rw [q1]
  rcases hr with ⟨rfl, e⟩ | ⟨rfl, e⟩
  · subst e; simp [SV.den]
  · rw [show (g == h) = false by simpa using e]; rfl
set_option maxHeartbeats 4000000 in
theorem num_nil (E : Nat → Addr)  : Does (Gt E) 7 (Sp0 [.nili] [] 0 (.int .i64 0)) := by
  refine fn_intro (gtOk E) 32 0 [] Tryz.func7 rfl rfl rfl rfl rfl ?_
  repeat' first | (intro h; first | (exfalso; omega; done) | skip) | (refine And.intro ?_ ?_) | exact True.intro | (refine @Exists.intro Unit _ () ?_) | (refine @Exists.intro (_ = _) _ rfl ?_)
  all_goals first | rfl | omega | decide

set_option maxHeartbeats 1000000 in
theorem num_range (E : Nat → Addr)  : Does (Gt E) 7 (Sp0 [.err 0] [] 0 (.int .i64 1)) := by
  refine fn_intro (gtOk E) 32 0 [] Tryz.func7 rfl rfl rfl rfl rfl ?_
  repeat' first | (change LoopGoal _ _ _ _ _ _; refine loop_rounds (gtOk E) [] 2 ?_) | (intro h; first | (exfalso; omega; done) | (exfalso; exact h (by decide); done) | skip) | (refine And.intro ?_ ?_) | exact True.intro | (refine @Exists.intro Unit _ () ?_) | (refine @Exists.intro (_ = _) _ rfl ?_) | (change CallGoal _ _ _ _ _ _; first | (refine call0 (is_z E 0 0 rfl rfl (.inl ⟨rfl, rfl⟩)) [] rfl True.intro rfl ?_))
  all_goals first | rfl | omega | decide

set_option maxHeartbeats 1000000 in
theorem num_none (E : Nat → Addr)  : Does (Gt E) 7 (Sp0 [.err 2] [] 0 (.int .i64 3)) := by
  refine fn_intro (gtOk E) 32 0 [] Tryz.func7 rfl rfl rfl rfl rfl ?_
  repeat' first | (change LoopGoal _ _ _ _ _ _; refine loop_rounds (gtOk E) [] 4 ?_) | (intro h; first | (exfalso; omega; done) | (exfalso; exact h (by decide); done) | skip) | (refine And.intro ?_ ?_) | exact True.intro | (refine @Exists.intro Unit _ () ?_) | (refine @Exists.intro (_ = _) _ rfl ?_) | (change CallGoal _ _ _ _ _ _; first | (refine call0 (is_z E 2 0 rfl rfl (.inr ⟨rfl, by decide⟩)) [] rfl True.intro rfl ?_) | (refine call0 (is_z E 2 1 rfl rfl (.inr ⟨rfl, by decide⟩)) [] rfl True.intro rfl ?_) | (refine call0 (is_z E 2 2 rfl rfl (.inl ⟨rfl, rfl⟩)) [] rfl True.intro rfl ?_))
  all_goals first | rfl | omega | decide

set_option maxHeartbeats 1000000 in
theorem num_form (E : Nat → Addr)  : Does (Gt E) 7 (Sp0 [.err 6] [] 0 (.int .i64 7)) := by
  refine fn_intro (gtOk E) 32 0 [] Tryz.func7 rfl rfl rfl rfl rfl ?_
  repeat' first | (change LoopGoal _ _ _ _ _ _; refine loop_rounds (gtOk E) [] 8 ?_) | (intro h; first | (exfalso; omega; done) | (exfalso; exact h (by decide); done) | skip) | (refine And.intro ?_ ?_) | exact True.intro | (refine @Exists.intro Unit _ () ?_) | (refine @Exists.intro (_ = _) _ rfl ?_) | (change CallGoal _ _ _ _ _ _; first | (refine call0 (is_z E 6 0 rfl rfl (.inr ⟨rfl, by decide⟩)) [] rfl True.intro rfl ?_) | (refine call0 (is_z E 6 1 rfl rfl (.inr ⟨rfl, by decide⟩)) [] rfl True.intro rfl ?_) | (refine call0 (is_z E 6 2 rfl rfl (.inr ⟨rfl, by decide⟩)) [] rfl True.intro rfl ?_) | (refine call0 (is_z E 6 3 rfl rfl (.inr ⟨rfl, by decide⟩)) [] rfl True.intro rfl ?_) | (refine call0 (is_z E 6 4 rfl rfl (.inr ⟨rfl, by decide⟩)) [] rfl True.intro rfl ?_) | (refine call0 (is_z E 6 5 rfl rfl (.inr ⟨rfl, by decide⟩)) [] rfl True.intro rfl ?_) | (refine call0 (is_z E 6 6 rfl rfl (.inl ⟨rfl, rfl⟩)) [] rfl True.intro rfl ?_))
  all_goals first | rfl | omega | decide

end Go.Proofs.YtpojafdllcioiaaGreatDoor

namespace Go.Proofs.YtpojafdllcioiaaGreatDoor
open Go.Zz Go.Px
open Go.Qd (okC okC_iff upC cellB okB okC_cell chain cnt1 cntL)
set_option linter.unusedVariables false
set_option linter.unusedSectionVars false
set_option linter.unusedSimpArgs false
set_option maxRecDepth 10000
theorem keyC : KeyT Tryz.prog 55 (Enc.ag (Zz.encP Zz.encI (Zz.encP Zz.encI Zz.encI))).val := KeyT.wide (by rw [Tryz.underlying55]) (fun w x y => by
    have h := eqVal_sound (P := Tryz.prog) (w := w) Op.maxDepth 55 _ _ _ (eqv55 x.1 x.2.1 x.2.2 y.1 y.2.1 y.2.2)
    have e : leavesB [.int .i64 x.1, .int .i64 x.2.1, .int .i64 x.2.2] [.int .i64 y.1, .int .i64 y.2.1, .int .i64 y.2.2] = decide (x = y) := by
      obtain ⟨a1, a2, a3⟩ := x; obtain ⟨b1, b2, b3⟩ := y
      rw [Bool.eq_iff_iff]
      simp [leavesB, leafB]
    rw [e] at h
    exact h) (fun w em x => by kernel_rfl) (fun w x => by simp [Instr.keyThatStays, Instr.sameBits, Enc.ag, Zz.encP, Zz.encI])
theorem keyH : KeyT Tryz.prog 28 (Enc.ag (Zz.encP Zz.encI Zz.encI)).val := KeyT.wide (by rw [Tryz.underlying28]) (fun w x y => by
    have h := eqVal_sound (P := Tryz.prog) (w := w) Op.maxDepth 28 _ _ _ (eqv28 x.1 x.2 y.1 y.2)
    have e : leavesB [.int .i64 x.1, .int .i64 x.2] [.int .i64 y.1, .int .i64 y.2] = decide (x = y) := by
      obtain ⟨a1, a2⟩ := x; obtain ⟨b1, b2⟩ := y
      rw [Bool.eq_iff_iff]
      simp [leavesB, leafB]
    rw [e] at h
    exact h) (fun w em x => by kernel_rfl) (fun w x => by simp [Instr.keyThatStays, Instr.sameBits, Enc.ag, Zz.encP, Zz.encI])
abbrev NV := Go.Qd.NV
abbrev NM := Go.Qd.NM
abbrev CM := List ((Int × Int) × Int × Int × Int)
theorem mapN : MapTyO Tryz.prog 62 55 58 (Enc.ag (Zz.encP Zz.encI (Zz.encP Zz.encI Zz.encI))) := ⟨Tryz.underlying62, keyC, by kernel_rfl⟩
theorem mapB : MapTy Tryz.prog 59 28 30 (Enc.ag (Zz.encP Zz.encI Zz.encI)) (Enc.ag (Zz.encP Zz.encI (Zz.encP Zz.encI (Zz.encP Zz.encI Zz.encI)))) (0, 0, 0, 0) := ⟨Tryz.underlying59, keyH, by kernel_rfl⟩
theorem mapC : MapTy Tryz.prog 63 28 55 (Enc.ag (Zz.encP Zz.encI Zz.encI)) (Enc.ag (Zz.encP Zz.encI (Zz.encP Zz.encI Zz.encI))) (0, 0, 0) := ⟨Tryz.underlying63, keyH, by kernel_rfl⟩
/-- A node. -/
def ndT (v : NV) : Hp := [(0, .cells 61 [.mp 1, .int .i64 v.2]), (1, .pr (mapPr (Enc.ag (Zz.encP Zz.encI Zz.encI)) (Enc.ag (Zz.encP Zz.encI (Zz.encP Zz.encI (Zz.encP Zz.encI Zz.encI)))) v.1))]
theorem cnt_put {N : NM} {z : Int × Int × Int} {v : NV} {k : Int} (hv : Go.Px.getK N z = some v) (h : ¬ (v.2 + k = 0 ∧ 0 < z.1)) : Go.Px.putK N z (v.1, v.2 + k) = cnt1 k N z := by
  unfold cnt1; rw [hv]; simp only [Option.getD_some]; rw [if_neg h]
theorem cnt_del {N : NM} {z : Int × Int × Int} {v : NV} {k : Int} (hv : Go.Px.getK N z = some v) (h : v.2 + k = 0 ∧ 0 < z.1) : Go.Px.delK N z = cnt1 k N z := by
  unfold cnt1; rw [hv]; simp only [Option.getD_some]; rw [if_pos h]
theorem has_none {N : NM} {z : Int × Int × Int} (hv : hasK N z = false) : Go.Px.getK N z = none := Go.Qd.get_not (by rw [hv]; simp)
theorem put_two {N : NM} {z : Int × Int × Int} (hv : hasK N z = false) (u v : NV) : Go.Px.putK (Go.Px.putK N z u) z v = Go.Px.putK N z v := by
  have hn : ∀ p ∈ N, ¬ p.1 = z := fun p hp e => by rw [← Bool.not_eq_true] at hv; exact hv (hasK_iff.2 (List.mem_map.2 ⟨p, hp, e⟩))
  have e1 : ∀ w, Go.Px.putK N z w = N ++ [(z, w)] := fun w => by unfold Go.Px.putK; rw [hv]; rfl
  have h2 : hasK (N ++ [(z, u)]) z = true := by simp [hasK]
  rw [e1 u, e1 v]
  unfold Go.Px.putK
  rw [h2, if_pos rfl, List.map_append]
  congr 1
  · refine (List.map_congr_left fun p hp => if_neg (hn p hp)).trans (List.map_id _)
  · simp
theorem del_two {N : NM} {z : Int × Int × Int} (hv : hasK N z = false) (u : NV) : Go.Px.delK (Go.Px.putK N z u) z = Go.Px.delK N z := by
  have e1 : Go.Px.putK N z u = N ++ [(z, u)] := by unfold Go.Px.putK; rw [hv]; rfl
  rw [e1]; unfold Go.Px.delK; rw [List.filter_append]; simp
theorem cnt_new {N : NM} {z : Int × Int × Int} {k : Int} (hv : hasK N z = false) (h : ¬ ((0 : Int) + k = 0 ∧ 0 < z.1)) : Go.Px.putK (Go.Px.putK N z ([], 0)) z ([], 0 + k) = cnt1 k N z := by
  rw [put_two hv]; unfold cnt1; rw [has_none hv]; simp only [Option.getD_none]; rw [if_neg h]
theorem cnt_newdel {N : NM} {z : Int × Int × Int} {k : Int} (hv : hasK N z = false) (h : (0 : Int) + k = 0 ∧ 0 < z.1) : Go.Px.delK (Go.Px.putK N z ([], 0)) z = cnt1 k N z := by
  rw [del_two hv]; unfold cnt1; rw [has_none hv]; simp only [Option.getD_none]; rw [if_pos h]
theorem has_putK (N : NM) (z : Int × Int × Int) (v : NV) : hasK (Go.Px.putK N z v) z = true := by rw [Go.Qd.has_put]; simp
theorem get_hasK {N : NM} {z : Int × Int × Int} {v : NV} (h : Go.Px.getK N z = some v) : hasK N z = true := by rw [hasK_get, h]; rfl
/-- All counts are small. -/
structure CB (N : NM) (m : Int) : Prop where
  h : ∀ z v, Go.Px.getK N z = some v → -m ≤ v.2 ∧ v.2 ≤ m
theorem CB.cnt {N : NM} {m k : Int} (h : CB N m) (hm : 0 ≤ m) (hk : -1 ≤ k ∧ k ≤ 1) (hn : (N.map (·.1)).Nodup) (z : Int × Int × Int) : CB (cnt1 k N z) (m + 1) := by
  refine ⟨fun y v hv => ?_⟩
  have h0 : -m ≤ ((Go.Px.getK N z).getD ([], 0)).2 ∧ ((Go.Px.getK N z).getD ([], 0)).2 ≤ m := by
    cases hg : Go.Px.getK N z with
    | none => simp only [Option.getD_none]; omega
    | some u => exact h.h z u hg
  unfold cnt1 at hv
  split at hv
  · have hm2 := (Go.Qd.del_mem.1 ((Go.Qd.get_mem (delK_nd hn z)).1 hv)).1
    have := h.h y v ((Go.Qd.get_mem hn).2 hm2); omega
  · rw [getK_put] at hv
    split at hv
    · obtain rfl := Option.some.inj hv; dsimp only; omega
    · have := h.h y v hv; omega
theorem cnt_nd {N : NM} {k : Int} (hn : (N.map (·.1)).Nodup) (z : Int × Int × Int) : ((cnt1 k N z).map (·.1)).Nodup := by
  unfold cnt1; split
  · exact delK_nd hn z
  · exact putK_nd hn z _
/-- Where counting stands. -/
structure Cn (k : Int) (N0 : NM) (z0 : Int × Int × Int) (N : NM) (z : Int × Int × Int) (more : Bool) : Prop where
  go : more = true → okC z = true ∧ cntL k N0 (chain z0) = cntL k N (chain z) ∧ CB N (1000009 - z.1) ∧ (N.map (·.1)).Nodup
  no : more = false → N = cntL k N0 (chain z0)
theorem Cn.start {k : Int} {N : NM} {z : Int × Int × Int} (h : okC z = true) (hb : CB N 1000000) (hn : (N.map (·.1)).Nodup) : Cn k N z N z true :=
  ⟨fun _ => ⟨h, rfl, ⟨fun y v hv => by have := hb.h y v hv; have := Go.Qd.okC_iff.1 h; omega⟩, hn⟩, fun h => by cases h⟩
theorem Cn.up {k : Int} {N0 N N' : NM} {z0 z : Int × Int × Int} {m : Bool} (h : Cn k N0 z0 N z m) (hm : m = true) (hk : -1 ≤ k ∧ k ≤ 1) (h0 : ¬ z.1 = 0) (e : N' = cnt1 k N z) : Cn k N0 z0 N' (upC z) true := by
  obtain ⟨h1, h2, h3, h4⟩ := h.go hm
  subst e
  have hz := Go.Qd.okC_iff.1 h1
  refine ⟨fun _ => ⟨Go.Qd.okC_up h1 h0, ?_, ⟨fun y v hv => ?_⟩, cnt_nd h4 z⟩, fun h => by cases h⟩
  · rw [h2, Go.Qd.chain_step h1 h0]; rfl
  · have := (h3.cnt (by omega) hk h4 z).h y v hv
    have e : (upC z).1 = z.1 - 1 := rfl
    omega
theorem Cn.top {k : Int} {N0 N N' : NM} {z0 z y : Int × Int × Int} {m : Bool} (h : Cn k N0 z0 N z m) (hm : m = true) (h0 : z.1 = 0) (e : N' = cnt1 k N z) : Cn k N0 z0 N' y false := by
  obtain ⟨h1, h2, h3, h4⟩ := h.go hm
  subst e
  refine ⟨fun h => (by cases h), fun _ => ?_⟩
  rw [h2, Go.Qd.chain_zero h0]; rfl
set_option maxHeartbeats 2000000 in
theorem count_z (E : Nat → Addr) (N : NM) (C : CM) (z0 : Int × Int × Int) (k : Int) (h : okC z0 = true ∧ CB N 1000000 ∧ (N.map (·.1)).Nodup ∧ -1 ≤ k ∧ k ≤ 1) : Does (Gm E) 24 ⟨[.ptr 0 0, .agg [.int .i64 z0.1, .int .i64 z0.2.1, .int .i64 z0.2.2], .int .i64 k], [(0, .cells 65 [.mp 1, .mp 2]), (1, .pr (mObj (Enc.ag (Zz.encP Zz.encI (Zz.encP Zz.encI Zz.encI))) (fun v => grp (Gm E) (ndT v)) N)), (2, .pr (mapPr (Enc.ag (Zz.encP Zz.encI Zz.encI)) (Enc.ag (Zz.encP Zz.encI (Zz.encP Zz.encI Zz.encI))) C))], 3, 3, Unit, fun _ => True, fun _ => .tup [], fun _ => [(0, .cells 65 [.mp 1, .mp 2]), (1, .pr (mObj (Enc.ag (Zz.encP Zz.encI (Zz.encP Zz.encI Zz.encI))) (fun v => grp (Gm E) (ndT v)) (cntL k N (chain z0)))), (2, .pr (mapPr (Enc.ag (Zz.encP Zz.encI Zz.encI)) (Enc.ag (Zz.encP Zz.encI (Zz.encP Zz.encI Zz.encI))) C))]⟩ := by
  obtain ⟨h1, h2, h3, hk⟩ := h
  refine fn_intro (gmOk E) 58 3 [3] Tryz.func24 rfl rfl rfl rfl rfl ?_
  repeat' first | (change CallGoal _ _ _ _ _ _; first | (change CallGoal _ 45 _ _ _ _; first | (refine call0 (up_ok E x.1 ⟨(hI.go ‹x.2.1 = true›).1, hz⟩) [] rfl True.intro rfl ?_) | (refine call0 (up_no E x.1 hz) [] rfl True.intro rfl ?_) | ((fail_if_success (have _ := hz)); refine Or.elim (Classical.em (x.1.1 = 0)) (fun hz => ?_) (fun hz => ?_)))) | (change JoinGoal _ _ _ _ _ _ _ _; refine join_stop (gmOk E) ?_) | (change HereGoal _ _ _ _ _ _ _; first | (refine here_close (Γ0 := Gm E) (tm := ndT) rfl (_, _) [20, 21] 1 rfl (And.intro rfl (And.intro rfl True.intro)) rfl ?_ ?_) | (refine here_close (Γ0 := Gm E) (tm := ndT) rfl (_, _) [21, 20] 1 rfl (And.intro rfl (And.intro rfl True.intro)) rfl ?_ ?_) | (refine here_go (gmOk E) ?_)) | (intro h; first | (exfalso; omega; done) | skip) | (refine And.intro ?_ ?_) | exact True.intro | (refine @Exists.intro Unit _ () ?_) | (refine @Exists.intro (_ = _) _ rfl ?_) | (change OpGoal _ _ _ _ (.lookup 62 _ _ true) _; refine lookupO_rule mapN rfl 1 x.2.2 x.1 2 (fun _ => rfl) rfl rfl rfl ?_ ?_) | (change OpGoal _ _ _ _ (.makeMap 59 _) _; refine mapnew_rule (Enc.ag (Zz.encP Zz.encI Zz.encI)) (Enc.ag (Zz.encP Zz.encI (Zz.encP Zz.encI (Zz.encP Zz.encI Zz.encI)))) ?_) | (change OpGoal _ _ _ _ (.mapUpdate 62 _ _ _) _; refine enterO_rule mapN 1 x.2.2 x.1 ([], 0) rfl rfl rfl rfl rfl ?_ ?_) | (change OpGoal _ _ _ _ (.call { callee := .builtin .delete, args := _, argTypes := _ }) _; refine eraseH_rule mapN 1 _ x.1 rfl rfl rfl ?_) | (change LoopGoal _ _ _ _ _ _; refine loop_at 2 (gmOk E) rfl [3] (X := ((Int × Int × Int) × Bool × NM)) (fun x => [(6, .bl x.2.1)]) (fun x => [(3, .cells 55 [.int .i64 x.1.1, .int .i64 x.1.2.1, .int .i64 x.1.2.2]), (1, .pr (mObj (Enc.ag (Zz.encP Zz.encI (Zz.encP Zz.encI Zz.encI))) (fun v => grp (Gm E) (ndT v)) x.2.2))]) [] (fun x => Cn k N z0 x.2.2 x.1 x.2.1) (fun x => if x.2.1 then x.1.1.toNat + 1 else 0) ⟨(z0, true, N), ?_⟩ (fun x hI => ?_)) | (change @Exists (((Int × Int × Int) × Bool × NM)) (fun _ => updK _ _ _ _ _ _); refine @Exists.intro (((Int × Int × Int) × Bool × NM)) _ (((?_, ?_, ?_), ?_, ?_)) ?_; rotate_left 5) | (change DrawGoal _ _ _ _ _ _; first | (change DrawGoal _ _ _ ({ dst := some 16, op := _, type := _, pos := _, after := _, guard := _ } :: _) _ _; refine draw_tree (gmOk E) [0, 3] (.leaf [(0, true), (1, true), (2, true), (3, true), (4, true), (5, false), (6, true), (7, true), (8, true), (9, true), (10, true)]) (by kernel_rfl) ?_) | (change DrawGoal _ _ _ ({ dst := some 29, op := _, type := _, pos := _, after := _, guard := _ } :: _) _ _; refine draw_tree (gmOk E) [0, 3] (.leaf [(0, true), (1, true), (2, true), (3, true), (4, true), (5, true), (6, false)]) (by kernel_rfl) ?_) | (change DrawGoal _ _ _ ({ dst := some 53, op := _, type := _, pos := _, after := _, guard := _ } :: _) _ _; refine draw_tree (gmOk E) [0, 3] (.leaf [(0, true), (1, true), (2, true), (3, true), (4, true), (5, false)]) (by kernel_rfl) ?_))
  all_goals first
| (dsimp only; first | rfl | omega)
| rfl
| omega
| assumption
| exact Cn.start h1 h2 h3
| exact has_putK _ _ _
| exact get_hasK ‹_›
| exact congrArg (fun q => Ch.pr (mObj _ _ q)) (hI.no ‹_›)
| (have q := (hI.go ‹x.2.1 = true›).2.2.1.h _ _ ‹Go.Px.getK _ _ = some _›; have q2 := Go.Qd.okC_iff.1 (hI.go ‹x.2.1 = true›).1; omega)
| exact hI.top ‹x.2.1 = true› hz (cnt_put ‹_› ‹_›)
| exact hI.top ‹x.2.1 = true› hz (cnt_del ‹_› ‹_›)
| exact hI.top ‹x.2.1 = true› hz (cnt_new ‹_› ‹_›)
| exact hI.top ‹x.2.1 = true› hz (cnt_newdel ‹_› ‹_›)
| exact hI.up ‹x.2.1 = true› hk hz (cnt_put ‹_› ‹_›)
| exact hI.up ‹x.2.1 = true› hk hz (cnt_del ‹_› ‹_›)
| exact hI.up ‹x.2.1 = true› hk hz (cnt_new ‹_› ‹_›)
| exact hI.up ‹x.2.1 = true› hk hz (cnt_newdel ‹_› ‹_›)
| (have q := Go.Qd.okC_iff.1 (hI.go ‹x.2.1 = true›).1; rw [if_pos ‹x.2.1 = true›]; first | (rw [if_pos rfl]; show (x.1.1 - 1).toNat + 1 < _; omega) | (rw [if_neg (by simp)]; omega))

end Go.Proofs.YtpojafdllcioiaaGreatDoor

namespace Go.Proofs.YtpojafdllcioiaaGreatDoor
open Go.Zz Go.Px
open Go.Qd (okC okC_iff upC cellB okB okC_cell chain cnt1 cntL)
set_option linter.unusedVariables false
set_option linter.unusedSectionVars false
set_option linter.unusedSimpArgs false
set_option maxRecDepth 10000
set_option maxHeartbeats 1000000 in
theorem new_z (E : Nat → Addr)  : Does (Gm E) 5 ⟨[], [], 0, 3, Unit, fun _ => True, fun _ => .ptr 0 0, fun _ => [(0, .cells 65 [.mp 1, .mp 2]), (1, .pr (mObj (Enc.ag (Zz.encP Zz.encI (Zz.encP Zz.encI Zz.encI))) (fun v => grp (Gm E) (ndT v)) [((0, 0, 0), ([], 0))])), (2, .pr (mapPr (Enc.ag (Zz.encP Zz.encI Zz.encI)) (Enc.ag (Zz.encP Zz.encI (Zz.encP Zz.encI Zz.encI))) []))]⟩ := by
  refine fn_intro (gmOk E) 10 0 [] Tryz.func5 rfl rfl rfl rfl rfl ?_
  repeat' first | (intro h; first | (exfalso; omega; done) | skip) | (refine And.intro ?_ ?_) | exact True.intro | (refine @Exists.intro Unit _ () ?_) | (refine @Exists.intro (_ = _) _ rfl ?_) | (change OpGoal _ _ _ _ (.makeMap 62 _) _; refine mapnewO_rule (Enc.ag (Zz.encP Zz.encI (Zz.encP Zz.encI Zz.encI))) (fun v => grp (Gm E) (ndT v)) ?_) | (change OpGoal _ _ _ _ (.makeMap 59 _) _; refine mapnew_rule (Enc.ag (Zz.encP Zz.encI Zz.encI)) (Enc.ag (Zz.encP Zz.encI (Zz.encP Zz.encI (Zz.encP Zz.encI Zz.encI)))) ?_) | (change OpGoal _ _ _ _ (.insert _ _ _ _) _; refine insO_rule mapN 0 [] (0, 0, 0) ([], 0) rfl rfl rfl rfl rfl rfl ?_) | (change OpGoal _ _ _ _ (.makeMap 63 _) _; refine mapnew_close (Γ0 := Gm E) (tm := ndT) rfl (Enc.ag (Zz.encP Zz.encI Zz.encI)) (Enc.ag (Zz.encP Zz.encI (Zz.encP Zz.encI Zz.encI))) (_, _) [2, 1] 0 rfl (And.intro rfl (And.intro rfl True.intro)) rfl rfl ?_)
  all_goals first
| (dsimp only; first | rfl | omega)
| rfl
| omega
| assumption
| exact has_putK _ _ _
| exact get_hasK ‹_›

set_option maxHeartbeats 1000000 in
theorem drop_none (E : Nat → Addr) (N : NM) (C : CM) (hh : Int × Int) (h : hasK C hh = false) : Does (Gm E) 11 ⟨[.ptr 0 0, .agg [.int .i64 hh.1, .int .i64 hh.2]], [(0, .cells 65 [.mp 1, .mp 2]), (1, .pr (mObj (Enc.ag (Zz.encP Zz.encI (Zz.encP Zz.encI Zz.encI))) (fun v => grp (Gm E) (ndT v)) N)), (2, .pr (mapPr (Enc.ag (Zz.encP Zz.encI Zz.encI)) (Enc.ag (Zz.encP Zz.encI (Zz.encP Zz.encI Zz.encI))) C))], 3, 3, Unit, fun _ => True, fun _ => .err 2, fun _ => [(0, .cells 65 [.mp 1, .mp 2]), (1, .pr (mObj (Enc.ag (Zz.encP Zz.encI (Zz.encP Zz.encI Zz.encI))) (fun v => grp (Gm E) (ndT v)) N)), (2, .pr (mapPr (Enc.ag (Zz.encP Zz.encI Zz.encI)) (Enc.ag (Zz.encP Zz.encI (Zz.encP Zz.encI Zz.encI))) C))]⟩ := by
  refine fn_intro (gmOk E) 37 3 [] Tryz.func11 rfl rfl rfl rfl rfl ?_
  repeat' first | (intro h; first | (exfalso; omega; done) | skip) | (refine And.intro ?_ ?_) | exact True.intro | (refine @Exists.intro Unit _ () ?_) | (refine @Exists.intro (_ = _) _ rfl ?_) | (change OpGoal _ _ _ _ (.lookup 63 _ _ true) _; refine lookupN_rule mapC 2 _ hh rfl rfl rfl h ?_) | (change DrawGoal _ _ _ _ _ _; first | (change DrawGoal _ _ _ ({ dst := some 8, op := _, type := _, pos := _, after := _, guard := _ } :: _) _ _; refine draw_tree (gmOk E) [0, 3] (.alt [(0, true), (1, true), (2, true), (3, true), (4, true)] (.leaf [(5, false), (6, true), (7, true), (8, true), (9, false), (10, false), (11, true)]) (.leaf [(9, false), (5, false), (6, true), (7, true), (8, true), (10, false), (11, true)])) (by kernel_rfl) ?_))
  all_goals first
| (dsimp only; first | rfl | omega)
| rfl
| omega
| assumption
| exact has_putK _ _ _
| exact get_hasK ‹_›

theorem CB.put {N : NM} {m : Int} (h : CB N m) {z : Int × Int × Int} {v : NV} (hv : -m ≤ v.2 ∧ v.2 ≤ m) : CB (Go.Px.putK N z v) m := ⟨fun y u hu => by
  rw [getK_put] at hu
  split at hu
  · obtain rfl := Option.some.inj hu; exact hv
  · exact h.h y u hu⟩
set_option maxHeartbeats 2000000 in
theorem drop_some (E : Nat → Addr) (N : NM) (C : CM) (hh : Int × Int) (z0 : Int × Int × Int) (v : NV) (h : Go.Px.getK C hh = some z0 ∧ Go.Px.getK N z0 = some v ∧ okC z0 = true ∧ CB N 1000000 ∧ (N.map (·.1)).Nodup) : Does (Gm E) 11 ⟨[.ptr 0 0, .agg [.int .i64 hh.1, .int .i64 hh.2]], [(0, .cells 65 [.mp 1, .mp 2]), (1, .pr (mObj (Enc.ag (Zz.encP Zz.encI (Zz.encP Zz.encI Zz.encI))) (fun v => grp (Gm E) (ndT v)) N)), (2, .pr (mapPr (Enc.ag (Zz.encP Zz.encI Zz.encI)) (Enc.ag (Zz.encP Zz.encI (Zz.encP Zz.encI Zz.encI))) C))], 3, 3, Unit, fun _ => True, fun _ => .nili, fun _ => [(0, .cells 65 [.mp 1, .mp 2]), (1, .pr (mObj (Enc.ag (Zz.encP Zz.encI (Zz.encP Zz.encI Zz.encI))) (fun v => grp (Gm E) (ndT v)) (cntL (-1) (Go.Px.putK N z0 (Go.Px.delK v.1 hh, v.2)) (chain z0)))), (2, .pr (mapPr (Enc.ag (Zz.encP Zz.encI Zz.encI)) (Enc.ag (Zz.encP Zz.encI (Zz.encP Zz.encI Zz.encI))) (Go.Px.delK C hh)))]⟩ := by
  obtain ⟨h1, h2, h3, h4, h5⟩ := h
  refine fn_intro (gmOk E) 37 3 [5] Tryz.func11 rfl rfl rfl rfl rfl ?_
  repeat' first | (change CallGoal _ _ _ _ _ _; first | (change CallGoal _ 24 _ _ _ _; first | (refine call_rule (count_z E (Go.Px.putK N z0 (Go.Px.delK v.1 hh, v.2)) (Go.Px.delK C hh) z0 (-1) ⟨h3, h4.put (h4.h z0 v h2), putK_nd h5 _ _, by omega, by omega⟩) [0, 1, 2] rfl (And.intro rfl (And.intro rfl (And.intro rfl True.intro))) rfl (fun y1 hy1 => ?_)))) | (change JoinGoal _ _ _ _ _ _ _ _; refine join_stop (gmOk E) ?_) | (change HereGoal _ _ _ _ _ _ _; first | (refine here_close (Γ0 := Gm E) (tm := ndT) rfl (Go.Px.delK v.1 hh, v.2) [5, 6] 1 rfl (And.intro rfl (And.intro rfl True.intro)) rfl ?_ ?_) | (refine here_go (gmOk E) ?_)) | (change DrawGoal _ _ _ ({ dst := some 19, op := _, type := _, pos := _, after := _, guard := _ } :: _) _ _; refine draw_openV (Γ0 := Gm E) (tm := ndT) rfl 1 N z0 v 2 rfl rfl h2 ?_) | (intro h; first | (exfalso; omega; done) | skip) | (refine And.intro ?_ ?_) | exact True.intro | (refine @Exists.intro Unit _ () ?_) | (refine @Exists.intro (_ = _) _ rfl ?_) | (change OpGoal _ _ _ _ (.lookup 63 _ _ true) _; refine lookupY_rule mapC 2 _ hh z0 rfl rfl rfl h1 ?_) | (change OpGoal _ _ _ _ (.lookup 62 _ _ false) _; refine lookupH_rule mapN 1 _ _ rfl rfl rfl (get_hasK h2) ?_) | (change OpGoal _ _ _ _ (.call { callee := .builtin .delete, args := _, argTypes := _ }) _; first | (refine mapdel_rule mapB 6 _ hh rfl rfl rfl ?_) | (refine mapdel_rule mapC 2 _ hh rfl rfl rfl ?_)) | (change DrawGoal _ _ _ _ _ _; first | (change DrawGoal _ _ _ ({ dst := some 8, op := _, type := _, pos := _, after := _, guard := _ } :: _) _ _; refine draw_tree (gmOk E) [0, 3] (.alt [(0, true), (1, true), (2, true), (3, true), (4, true)] (.leaf [(5, false), (6, true), (7, true), (8, true), (9, false), (10, false), (11, true)]) (.leaf [(9, false), (5, false), (6, true), (7, true), (8, true), (10, false), (11, true)])) (by kernel_rfl) ?_) | (change DrawGoal _ _ _ ({ dst := some 19, op := _, type := _, pos := _, after := _, guard := _ } :: _) _ _; refine draw_tree (gmOk E) [0, 3, 4, 5] (.leaf [(0, true), (1, true), (2, true), (3, true), (4, true), (9, true), (5, false), (6, true), (7, true), (8, false), (10, false)]) (by kernel_rfl) ?_) | (change DrawGoal _ _ _ ({ dst := some 29, op := _, type := _, pos := _, after := _, guard := _ } :: _) _ _; refine draw_tree (gmOk E) [0, 3] (.leaf [(0, true), (1, true), (2, true), (3, true), (4, true), (5, false)]) (by kernel_rfl) ?_))
  all_goals first
| (dsimp only; first | rfl | omega)
| rfl
| omega
| assumption
| exact has_putK _ _ _
| exact get_hasK ‹_›

theorem cell_eq {a b : Int × Int × Int} (h : a.1 = b.1 ∧ a.2.1 = b.2.1 ∧ a.2.2 = b.2.2) : a = b := by obtain ⟨a1, a2, a3⟩ := a; obtain ⟨b1, b2, b3⟩ := b; simp only at h; rw [h.1, h.2.1, h.2.2]
set_option maxHeartbeats 3000000 in
theorem put_new (E : Nat → Addr) (N : NM) (C : CM) (hh : Int × Int) (b : Int × Int × Int × Int) (v : NV) (h : hasK C hh = false ∧ okB b = true ∧ CB N 1000000 ∧ (N.map (·.1)).Nodup ∧ Go.Px.getK (cntL 1 N (chain (cellB b))) (cellB b) = some v) : Does (Gm E) 8 ⟨[.ptr 0 0, .agg [.int .i64 hh.1, .int .i64 hh.2], .agg [.int .i64 b.1, .int .i64 b.2.1, .int .i64 b.2.2.1, .int .i64 b.2.2.2]], [(0, .cells 65 [.mp 1, .mp 2]), (1, .pr (mObj (Enc.ag (Zz.encP Zz.encI (Zz.encP Zz.encI Zz.encI))) (fun v => grp (Gm E) (ndT v)) N)), (2, .pr (mapPr (Enc.ag (Zz.encP Zz.encI Zz.encI)) (Enc.ag (Zz.encP Zz.encI (Zz.encP Zz.encI Zz.encI))) C))], 3, 3, Unit, fun _ => True, fun _ => .nili, fun _ => [(0, .cells 65 [.mp 1, .mp 2]), (1, .pr (mObj (Enc.ag (Zz.encP Zz.encI (Zz.encP Zz.encI Zz.encI))) (fun v => grp (Gm E) (ndT v)) (Go.Px.putK (cntL 1 N (chain (cellB b))) (cellB b) (Go.Px.putK v.1 hh b, v.2)))), (2, .pr (mapPr (Enc.ag (Zz.encP Zz.encI Zz.encI)) (Enc.ag (Zz.encP Zz.encI (Zz.encP Zz.encI Zz.encI))) (Go.Px.putK C hh (cellB b))))]⟩ := by
  obtain ⟨h1, hb, h4, h5, h6⟩ := h
  refine fn_intro (gmOk E) 58 3 [10] Tryz.func8 rfl rfl rfl rfl rfl ?_
  repeat' first | (change CallGoal _ _ _ _ _ _; first | (change CallGoal _ 18 _ _ _ _; first | (refine call0 (of_ok E b hb) [] rfl True.intro rfl ?_)) | (change CallGoal _ 11 _ _ _ _; first | (refine call_rule (drop_none E N C hh h1) [0, 1, 2] rfl (And.intro rfl (And.intro rfl (And.intro rfl True.intro))) rfl (fun y1 hy1 => ?_))) | (change CallGoal _ 24 _ _ _ _; first | (refine call_rule (count_z E N C (cellB b) 1 ⟨okC_cell hb, h4, h5, by omega, by omega⟩) [0, 1, 2] rfl (And.intro rfl (And.intro rfl (And.intro rfl True.intro))) rfl (fun y2 hy2 => ?_)))) | (change JoinGoal _ _ _ _ _ _ _ _; refine join_stop (gmOk E) ?_) | (change HereGoal _ _ _ _ _ _ _; first | (refine here_close (Γ0 := Gm E) (tm := ndT) rfl (Go.Px.putK v.1 hh b, v.2) [7, 8] 1 rfl (And.intro rfl (And.intro rfl True.intro)) rfl ?_ ?_) | (refine here_go (gmOk E) ?_)) | (change DrawGoal _ _ _ ({ dst := some 47, op := _, type := _, pos := _, after := _, guard := _ } :: _) _ _; refine draw_openV (Γ0 := Gm E) (tm := ndT) rfl 1 (cntL 1 N (chain (cellB b))) (cellB b) v 2 rfl rfl h6 ?_) | (intro h; first | (exfalso; omega; done) | skip) | (refine And.intro ?_ ?_) | exact True.intro | (refine @Exists.intro Unit _ () ?_) | (refine @Exists.intro (_ = _) _ rfl ?_) | (change OpGoal _ _ _ _ (.lookup 63 _ _ true) _; refine lookupN_rule mapC 2 _ hh rfl rfl rfl h1 ?_) | (change OpGoal _ _ _ _ (.lookup 62 _ _ false) _; refine lookupH_rule mapN 1 _ _ rfl rfl rfl (get_hasK h6) ?_) | (change OpGoal _ _ _ _ (.mapUpdate _ _ _ _) _; first | (refine mapset_rule mapC 2 _ hh (cellB b) rfl rfl rfl rfl ?_) | (refine mapset_rule mapB 8 _ hh b rfl rfl rfl rfl ?_)) | (change DrawGoal _ _ _ _ _ _; first | (change DrawGoal _ _ _ ({ dst := some 20, op := _, type := _, pos := _, after := _, guard := _ } :: _) _ _; refine draw_tree (gmOk E) [0, 3, 4, 5] (.alt [(0, true), (1, true), (2, true), (3, true), (4, true)] (.leaf [(5, false), (6, true), (7, true), (8, true), (9, false), (10, false), (11, true)]) (.leaf [(9, false), (5, false), (6, true), (7, true), (8, true), (10, false), (11, true)])) (by kernel_rfl) ?_) | (change DrawGoal _ _ _ ({ dst := some 41, op := _, type := _, pos := _, after := _, guard := _ } :: _) _ _; refine draw_tree (gmOk E) [0, 3, 4, 5, 6] (.leaf [(0, true), (1, true), (2, true), (3, true), (4, true), (5, true), (6, false)]) (by kernel_rfl) ?_) | (change DrawGoal _ _ _ ({ dst := some 47, op := _, type := _, pos := _, after := _, guard := _ } :: _) _ _; refine draw_tree (gmOk E) [0, 3, 4, 5, 6, 7] (.leaf [(0, true), (1, true), (2, true), (3, true), (4, true), (9, true), (10, true), (5, false), (6, true), (7, true), (8, false), (11, false)]) (by kernel_rfl) ?_))
  all_goals first
| (dsimp only; first | rfl | omega)
| rfl
| omega
| assumption
| exact has_putK _ _ _
| exact get_hasK ‹_›

set_option maxHeartbeats 3000000 in
theorem put_same (E : Nat → Addr) (N : NM) (C : CM) (hh : Int × Int) (b : Int × Int × Int × Int) (v : NV) (h : Go.Px.getK C hh = some (cellB b) ∧ okB b = true ∧ Go.Px.getK N (cellB b) = some v) : Does (Gm E) 8 ⟨[.ptr 0 0, .agg [.int .i64 hh.1, .int .i64 hh.2], .agg [.int .i64 b.1, .int .i64 b.2.1, .int .i64 b.2.2.1, .int .i64 b.2.2.2]], [(0, .cells 65 [.mp 1, .mp 2]), (1, .pr (mObj (Enc.ag (Zz.encP Zz.encI (Zz.encP Zz.encI Zz.encI))) (fun v => grp (Gm E) (ndT v)) N)), (2, .pr (mapPr (Enc.ag (Zz.encP Zz.encI Zz.encI)) (Enc.ag (Zz.encP Zz.encI (Zz.encP Zz.encI Zz.encI))) C))], 3, 3, Unit, fun _ => True, fun _ => .nili, fun _ => [(0, .cells 65 [.mp 1, .mp 2]), (1, .pr (mObj (Enc.ag (Zz.encP Zz.encI (Zz.encP Zz.encI Zz.encI))) (fun v => grp (Gm E) (ndT v)) (Go.Px.putK N (cellB b) (Go.Px.putK v.1 hh b, v.2)))), (2, .pr (mapPr (Enc.ag (Zz.encP Zz.encI Zz.encI)) (Enc.ag (Zz.encP Zz.encI (Zz.encP Zz.encI Zz.encI))) (Go.Px.putK C hh (cellB b))))]⟩ := by
  obtain ⟨h1, hb, h6⟩ := h
  refine fn_intro (gmOk E) 58 3 [10] Tryz.func8 rfl rfl rfl rfl rfl ?_
  repeat' first | (change CallGoal _ _ _ _ _ _; first | (change CallGoal _ 18 _ _ _ _; first | (refine call0 (of_ok E b hb) [] rfl True.intro rfl ?_))) | (change JoinGoal _ _ _ _ _ _ _ _; refine join_stop (gmOk E) ?_) | (change HereGoal _ _ _ _ _ _ _; first | (refine here_close (Γ0 := Gm E) (tm := ndT) rfl (Go.Px.putK v.1 hh b, v.2) [7, 8] 1 rfl (And.intro rfl (And.intro rfl True.intro)) rfl ?_ ?_) | (refine here_go (gmOk E) ?_)) | (change DrawGoal _ _ _ ({ dst := some 47, op := _, type := _, pos := _, after := _, guard := _ } :: _) _ _; refine draw_openV (Γ0 := Gm E) (tm := ndT) rfl 1 N (cellB b) v 2 rfl rfl h6 ?_) | (intro h; first | (exfalso; omega; done) | (exfalso; first | exact h ⟨rfl, rfl, rfl⟩ | exact h rfl; done) | skip) | (refine And.intro ?_ ?_) | exact True.intro | (refine @Exists.intro Unit _ () ?_) | (refine @Exists.intro (_ = _) _ rfl ?_) | (change OpGoal _ _ _ _ (.lookup 63 _ _ true) _; refine lookupY_rule mapC 2 _ hh (cellB b) rfl rfl rfl h1 ?_) | (change OpGoal _ _ _ _ (.lookup 62 _ _ false) _; refine lookupH_rule mapN 1 _ _ rfl rfl rfl (get_hasK h6) ?_) | (change OpGoal _ _ _ _ (.mapUpdate _ _ _ _) _; first | (refine mapset_rule mapC 2 _ hh (cellB b) rfl rfl rfl rfl ?_) | (refine mapset_rule mapB 8 _ hh b rfl rfl rfl rfl ?_)) | (change DrawGoal _ _ _ _ _ _; first | (change DrawGoal _ _ _ ({ dst := some 20, op := _, type := _, pos := _, after := _, guard := _ } :: _) _ _; refine draw_tree (gmOk E) [0, 3, 4, 5] (.alt [(0, true), (1, true), (2, true), (3, true), (4, true)] (.leaf [(5, false), (6, true), (7, true), (8, true), (9, false), (10, false), (11, true)]) (.leaf [(9, false), (5, false), (6, true), (7, true), (8, true), (10, false), (11, true)])) (by kernel_rfl) ?_) | (change DrawGoal _ _ _ ({ dst := some 41, op := _, type := _, pos := _, after := _, guard := _ } :: _) _ _; refine draw_tree (gmOk E) [0, 3, 4, 5, 6] (.leaf [(0, true), (1, true), (2, true), (3, true), (4, true), (5, true), (6, false)]) (by kernel_rfl) ?_) | (change DrawGoal _ _ _ ({ dst := some 47, op := _, type := _, pos := _, after := _, guard := _ } :: _) _ _; refine draw_tree (gmOk E) [0, 3, 4, 5, 6, 7] (.leaf [(0, true), (1, true), (2, true), (3, true), (4, true), (9, true), (10, true), (5, false), (6, true), (7, true), (8, false), (11, false)]) (by kernel_rfl) ?_))
  all_goals first
| (dsimp only; first | rfl | omega)
| rfl
| omega
| assumption
| exact has_putK _ _ _
| exact get_hasK ‹_›

set_option maxHeartbeats 3000000 in
theorem put_moved (E : Nat → Addr) (N : NM) (C : CM) (hh : Int × Int) (b : Int × Int × Int × Int) (z0 : Int × Int × Int) (u v : NV) (h : Go.Px.getK C hh = some z0 ∧ okB b = true ∧ okC z0 = true ∧ CB N 1000000 ∧ (N.map (·.1)).Nodup ∧ Go.Px.getK N z0 = some u ∧ CB (cntL (-1) (Go.Px.putK N z0 (Go.Px.delK u.1 hh, u.2)) (chain z0)) 1000000 ∧ ((cntL (-1) (Go.Px.putK N z0 (Go.Px.delK u.1 hh, u.2)) (chain z0)).map (·.1)).Nodup ∧ Go.Px.getK (cntL 1 (cntL (-1) (Go.Px.putK N z0 (Go.Px.delK u.1 hh, u.2)) (chain z0)) (chain (cellB b))) (cellB b) = some v ∧ ¬ z0 = cellB b) : Does (Gm E) 8 ⟨[.ptr 0 0, .agg [.int .i64 hh.1, .int .i64 hh.2], .agg [.int .i64 b.1, .int .i64 b.2.1, .int .i64 b.2.2.1, .int .i64 b.2.2.2]], [(0, .cells 65 [.mp 1, .mp 2]), (1, .pr (mObj (Enc.ag (Zz.encP Zz.encI (Zz.encP Zz.encI Zz.encI))) (fun v => grp (Gm E) (ndT v)) N)), (2, .pr (mapPr (Enc.ag (Zz.encP Zz.encI Zz.encI)) (Enc.ag (Zz.encP Zz.encI (Zz.encP Zz.encI Zz.encI))) C))], 3, 3, Unit, fun _ => True, fun _ => .nili, fun _ => [(0, .cells 65 [.mp 1, .mp 2]), (1, .pr (mObj (Enc.ag (Zz.encP Zz.encI (Zz.encP Zz.encI Zz.encI))) (fun v => grp (Gm E) (ndT v)) (Go.Px.putK (cntL 1 (cntL (-1) (Go.Px.putK N z0 (Go.Px.delK u.1 hh, u.2)) (chain z0)) (chain (cellB b))) (cellB b) (Go.Px.putK v.1 hh b, v.2)))), (2, .pr (mapPr (Enc.ag (Zz.encP Zz.encI Zz.encI)) (Enc.ag (Zz.encP Zz.encI (Zz.encP Zz.encI Zz.encI))) (Go.Px.putK (Go.Px.delK C hh) hh (cellB b))))]⟩ := by
  obtain ⟨h1, hb, h3, h4, h5, h7, h8, h9, h6, hne⟩ := h
  refine fn_intro (gmOk E) 58 3 [10] Tryz.func8 rfl rfl rfl rfl rfl ?_
  repeat' first | (change CallGoal _ _ _ _ _ _; first | (change CallGoal _ 18 _ _ _ _; first | (refine call0 (of_ok E b hb) [] rfl True.intro rfl ?_)) | (change CallGoal _ 11 _ _ _ _; first | (refine call_rule (drop_some E N C hh z0 u ⟨h1, h7, h3, h4, h5⟩) [0, 1, 2] rfl (And.intro rfl (And.intro rfl (And.intro rfl True.intro))) rfl (fun y1 hy1 => ?_))) | (change CallGoal _ 24 _ _ _ _; first | (refine call_rule (count_z E (cntL (-1) (Go.Px.putK N z0 (Go.Px.delK u.1 hh, u.2)) (chain z0)) (Go.Px.delK C hh) (cellB b) 1 ⟨okC_cell hb, h8, h9, by omega, by omega⟩) [0, 1, 2] rfl (And.intro rfl (And.intro rfl (And.intro rfl True.intro))) rfl (fun y2 hy2 => ?_)))) | (change JoinGoal _ _ _ _ _ _ _ _; refine join_stop (gmOk E) ?_) | (change HereGoal _ _ _ _ _ _ _; first | (refine here_close (Γ0 := Gm E) (tm := ndT) rfl (Go.Px.putK v.1 hh b, v.2) [7, 8] 1 rfl (And.intro rfl (And.intro rfl True.intro)) rfl ?_ ?_) | (refine here_go (gmOk E) ?_)) | (change DrawGoal _ _ _ ({ dst := some 47, op := _, type := _, pos := _, after := _, guard := _ } :: _) _ _; refine draw_openV (Γ0 := Gm E) (tm := ndT) rfl 1 (cntL 1 (cntL (-1) (Go.Px.putK N z0 (Go.Px.delK u.1 hh, u.2)) (chain z0)) (chain (cellB b))) (cellB b) v 2 rfl rfl h6 ?_) | (intro h; first | (exfalso; omega; done) | (exfalso; exact hne (cell_eq (Classical.not_not.1 h)); done) | skip) | (refine And.intro ?_ ?_) | exact True.intro | (refine @Exists.intro Unit _ () ?_) | (refine @Exists.intro (_ = _) _ rfl ?_) | (change OpGoal _ _ _ _ (.lookup 63 _ _ true) _; refine lookupY_rule mapC 2 _ hh z0 rfl rfl rfl h1 ?_) | (change OpGoal _ _ _ _ (.lookup 62 _ _ false) _; refine lookupH_rule mapN 1 _ _ rfl rfl rfl (get_hasK h6) ?_) | (change OpGoal _ _ _ _ (.mapUpdate _ _ _ _) _; first | (refine mapset_rule mapC 2 _ hh (cellB b) rfl rfl rfl rfl ?_) | (refine mapset_rule mapB 8 _ hh b rfl rfl rfl rfl ?_)) | (change DrawGoal _ _ _ _ _ _; first | (change DrawGoal _ _ _ ({ dst := some 20, op := _, type := _, pos := _, after := _, guard := _ } :: _) _ _; refine draw_tree (gmOk E) [0, 3, 4, 5] (.alt [(0, true), (1, true), (2, true), (3, true), (4, true)] (.leaf [(5, false), (6, true), (7, true), (8, true), (9, false), (10, false), (11, true)]) (.leaf [(9, false), (5, false), (6, true), (7, true), (8, true), (10, false), (11, true)])) (by kernel_rfl) ?_) | (change DrawGoal _ _ _ ({ dst := some 41, op := _, type := _, pos := _, after := _, guard := _ } :: _) _ _; refine draw_tree (gmOk E) [0, 3, 4, 5, 6] (.leaf [(0, true), (1, true), (2, true), (3, true), (4, true), (5, true), (6, false)]) (by kernel_rfl) ?_) | (change DrawGoal _ _ _ ({ dst := some 47, op := _, type := _, pos := _, after := _, guard := _ } :: _) _ _; refine draw_tree (gmOk E) [0, 3, 4, 5, 6, 7] (.leaf [(0, true), (1, true), (2, true), (3, true), (4, true), (9, true), (10, true), (5, false), (6, true), (7, true), (8, false), (11, false)]) (by kernel_rfl) ?_))
  all_goals first
| (dsimp only; first | rfl | omega)
| rfl
| omega
| assumption
| exact has_putK _ _ _
| exact get_hasK ‹_›

end Go.Proofs.YtpojafdllcioiaaGreatDoor
