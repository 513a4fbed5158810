/- A part of the proof: texts put together. -/
import Derived.Test.YtpojafdllcioiaaDoorProg
import Derived.Test.YtpojafdllcioiaaDoorG4
import Derived.Test.YtpojafdllcioiaaDoorG5
import Derived.Test.YtpojafdllcioiaaDoorG2
set_option linter.unusedSectionVars false
set_option linter.unusedSimpArgs false
set_option linter.unusedVariables false
/- The types that the program's operations name, and what is known of them. -/
namespace Go.Proofs.YtpojafdllcioiaaDoor
open Go.Zz Go.Px
set_option linter.unusedVariables false
set_option maxRecDepth 10000
noncomputable def tb : List (Nat × TI) := [(3, ⟨1, 8, false, [.int .i64 0], .int .i64⟩),
 (29, ⟨2, 16, true, [.int .i64 0, .int .i64 0], .struct [(0, 3), (1, 3)]⟩),
 (82, ⟨3, 24, true, [.int .i64 0, .int .i64 0, .int .i64 0], .struct [(0, 3), (1, 3), (2, 3)]⟩),
 (41, ⟨4, 32, true, [.int .i64 0, .int .i64 0, .int .i64 0, .int .i64 0], .struct [(0, 29), (2, 29)]⟩),
 (34, ⟨1, 24, false, [.nils], .slice 41⟩),
 (27, ⟨4, 32, true, [.int .i64 0, .int .i64 0, .int .i64 0, .int .i64 0], .struct [(0, 3), (1, 3), (2, 3), (3, 3)]⟩),
 (79, ⟨1, 24, false, [.nils], .slice 29⟩),
 (76, ⟨1, 24, false, [.nils], .slice 82⟩),
 (31, ⟨1, 16, false, [.nili], .iface⟩),
 (57, ⟨1, 24, false, [.nils], .slice 64⟩),
 (64, ⟨4, 32, true, [.int .i64 0, .ff, .int .i64 0, .int .i64 0], .struct [(0, 3), (1, 4), (2, 29)]⟩),
 (97, ⟨2, 16, true, [.int .i64 0, .int .i64 0], .struct [(0, 3), (1, 3)]⟩),
 (51, ⟨4, 32, true, [.int .i64 0, .int .i64 0, .int .i64 0, .int .i64 0], .struct [(0, 29), (2, 3), (3, 3)]⟩),
 (22, ⟨1, 24, false, [.nils], .slice 27⟩),
 (37, ⟨1, 8, false, [.nilp], .ptr⟩),
 (93, ⟨2, 32, true, [.nilm, .nils], .struct [(0, 91), (1, 57)]⟩),
 (202, ⟨1, 8, false, [.int .u64 0], .int .u64⟩),
 (42, ⟨1, 8, false, [.int .u64 0], .int .u64⟩),
 (70, ⟨6, 48, true, [.int .i64 0, .int .i64 0, .int .i64 0, .int .i64 0, .int .i64 0, .int .i64 0], .struct [(0, 29), (2, 27)]⟩),
 (47, ⟨1, 24, false, [.nils], .slice 51⟩),
 (24, ⟨1, 8, false, [.nilp], .ptr⟩),
 (49, ⟨7, 56, true, (List.replicate 7 (.int .i64 0)), .struct [(0, 3), (1, 29), (3, 27)]⟩),
 (66, ⟨1, 24, false, [.nils], .slice 70⟩),
 (206, ⟨1, 8, false, [.nilp], .ptr⟩),
 (63, ⟨4, 32, true, [.int .i64 0, .ff, .int .i64 0, .int .i64 0], .struct [(0, 3), (1, 4), (2, 29)]⟩),
 (91, ⟨1, 8, false, [.nilm], .map 41 4⟩),
 (129, ⟨1, 8, false, [.nilf], .func⟩),
 (164, ⟨1, 8, false, [.nilf], .func⟩),
 (170, ⟨1, 8, false, [.nilf], .func⟩),
 (118, ⟨1, 8, false, [.nilm], .map 82 114⟩),
 (4, ⟨1, 1, false, [.ff], .bool⟩),
 (74, ⟨1, 8, false, [.nilp], .ptr⟩),
 (119, ⟨1, 8, false, [.nilm], .map 29 82⟩),
 (59, ⟨1, 24, false, [.nils], .slice 63⟩),
 (121, ⟨2, 16, true, [.nilm, .nilm], .struct [(0, 118), (1, 119)]⟩),
 (88, ⟨2, 16, true, [.nilp, .nilp], .struct [(0, 37), (1, 37)]⟩),
 (117, ⟨2, 16, true, [.nilm, .int .i64 0], .struct [(0, 115), (1, 3)]⟩),
 (115, ⟨1, 8, false, [.nilm], .map 29 27⟩),
 (161, ⟨1, 24, false, [.nils], .slice 3⟩),
 (199, ⟨1, 8, false, [.int .u64 0], .int .u64⟩),
 (167, ⟨12, 96, true, (List.replicate 12 (.int .i64 0)), .array 4 82⟩),
 (197, ⟨1, 4, false, [.int .u32 0], .int .u32⟩),
 (46, ⟨1, 24, false, [.nils], .slice 49⟩),
 (189, ⟨1, 8, false, [.int .i64 0], .int .i64⟩),
 (100, ⟨1, 24, false, [.nils], .slice 31⟩),
 (5, ⟨1, 1, false, [.int .u8 0], .int .u8⟩),
 (126, ⟨1, 8, false, [.nilf], .func⟩),
 (94, ⟨1, 8, false, [.nilf], .func⟩),
 (103, ⟨1, 8, false, [.nilf], .func⟩),
 (133, ⟨1, 8, false, [.nilf], .func⟩),
 (105, ⟨1, 8, false, [.nilf], .func⟩),
 (138, ⟨1, 8, false, [.nilf], .func⟩),
 (139, ⟨1, 8, false, [.nilf], .func⟩),
 (20, ⟨1, 16, false, [.nili], .iface⟩),
 (227, ⟨1, 8, false, [.nilp], .ptr⟩),
 (114, ⟨1, 8, false, [.nilp], .ptr⟩)]
noncomputable def encs : List (Nat × EncA) := [(3, ⟨Int, Zz.encI⟩), (4, ⟨Bool, Zz.encB⟩), (29, ⟨(Int × Int), Zz.encP Zz.encI Zz.encI⟩), (97, ⟨(Int × Int), Zz.encP Zz.encI Zz.encI⟩), (41, ⟨((Int × Int) × (Int × Int)), Zz.encP (Zz.encP Zz.encI Zz.encI) (Zz.encP Zz.encI Zz.encI)⟩), (27, ⟨(Int × Int × Int × Int), Zz.encP Zz.encI (Zz.encP Zz.encI (Zz.encP Zz.encI Zz.encI))⟩), (64, ⟨(Int × Bool × Int × Int), Zz.encP Zz.encI (Zz.encP Zz.encB (Zz.encP Zz.encI Zz.encI))⟩), (63, ⟨(Int × Bool × Int × Int), Zz.encP Zz.encI (Zz.encP Zz.encB (Zz.encP Zz.encI Zz.encI))⟩), (51, ⟨((Int × Int) × Int × Int), Zz.encP (Zz.encP Zz.encI Zz.encI) (Zz.encP Zz.encI Zz.encI)⟩), (70, ⟨((Int × Int) × Int × Int × Int × Int), Zz.encP (Zz.encP Zz.encI Zz.encI) (Zz.encP Zz.encI (Zz.encP Zz.encI (Zz.encP Zz.encI Zz.encI)))⟩), (82, ⟨(Int × Int × Int), Zz.encP Zz.encI (Zz.encP Zz.encI Zz.encI)⟩), (49, ⟨(Int × (Int × Int) × Int × Int × Int × Int), Zz.encP Zz.encI (Zz.encP (Zz.encP Zz.encI Zz.encI) (Zz.encP Zz.encI (Zz.encP Zz.encI (Zz.encP Zz.encI Zz.encI))))⟩)]
noncomputable def eqs : List (Nat × List LK) := [(29, [.int .i64, .int .i64]), (41, [.int .i64, .int .i64, .int .i64, .int .i64]), (63, [.int .i64, .bool, .int .i64, .int .i64]), (64, [.int .i64, .bool, .int .i64, .int .i64]), (82, [.int .i64, .int .i64, .int .i64])]
noncomputable def Gm (E : Nat → Addr) : Ctx := { P := Tryd.prog, Δ := ⟨E, 227⟩, tb := tb, errs := [1, 3, 0], encs := encs, eqs := eqs }
theorem tbOk (Δ : Env0) : AllTb (TiOk Tryd.prog Δ) tb := ⟨TiOk.of (by kernel_rfl) (by rw [Tryd.underlying3]; rfl) Tryd.underlying3 rfl rfl rfl, 
 ⟨TiOk.of (by kernel_rfl) (by rw [Tryd.underlying29]; rfl) ⟨_, ⟨Tryd.underlying29, by kernel_rfl⟩, by kernel_rfl⟩ rfl rfl rfl, 
 ⟨TiOk.of (by kernel_rfl) (by rw [Tryd.underlying82]; rfl) ⟨_, ⟨Tryd.underlying82, by kernel_rfl⟩, by kernel_rfl⟩ rfl rfl rfl, 
 ⟨TiOk.of (by kernel_rfl) (by rw [Tryd.underlying41]; rfl) ⟨_, ⟨Tryd.underlying41, by kernel_rfl⟩, by kernel_rfl⟩ rfl rfl rfl, 
 ⟨TiOk.of (by kernel_rfl) (by rw [Tryd.underlying34]; rfl) Tryd.underlying34 rfl rfl rfl, 
 ⟨TiOk.of (by kernel_rfl) (by rw [Tryd.underlying27]; rfl) ⟨_, ⟨Tryd.underlying27, by kernel_rfl⟩, by kernel_rfl⟩ rfl rfl rfl, 
 ⟨TiOk.of (by kernel_rfl) (by rw [Tryd.underlying79]; rfl) Tryd.underlying79 rfl rfl rfl, 
 ⟨TiOk.of (by kernel_rfl) (by rw [Tryd.underlying76]; rfl) Tryd.underlying76 rfl rfl rfl, 
 ⟨TiOk.of (by kernel_rfl) (by rw [Tryd.underlying31]; rfl) ⟨_, Tryd.underlying31⟩ rfl rfl rfl, 
 ⟨TiOk.of (by kernel_rfl) (by rw [Tryd.underlying57]; rfl) Tryd.underlying57 rfl rfl rfl, 
 ⟨TiOk.of (by kernel_rfl) (by rw [Tryd.underlying64]; rfl) ⟨_, ⟨Tryd.underlying64, by kernel_rfl⟩, by kernel_rfl⟩ rfl rfl rfl, 
 ⟨TiOk.of (by kernel_rfl) (by rw [Tryd.underlying97]; rfl) ⟨_, ⟨Tryd.underlying97, by kernel_rfl⟩, by kernel_rfl⟩ rfl rfl rfl, 
 ⟨TiOk.of (by kernel_rfl) (by rw [Tryd.underlying51]; rfl) ⟨_, ⟨Tryd.underlying51, by kernel_rfl⟩, by kernel_rfl⟩ rfl rfl rfl, 
 ⟨TiOk.of (by kernel_rfl) (by rw [Tryd.underlying22]; rfl) Tryd.underlying22 rfl rfl rfl, 
 ⟨TiOk.of (by kernel_rfl) (by rw [Tryd.underlying37]; rfl) ⟨_, Tryd.underlying37⟩ rfl rfl rfl, 
 ⟨TiOk.of (by kernel_rfl) (by rw [Tryd.underlying93]; rfl) ⟨_, ⟨Tryd.underlying93, by kernel_rfl⟩, by kernel_rfl⟩ rfl rfl rfl, 
 ⟨TiOk.of (by kernel_rfl) (by rw [Tryd.underlying202]; rfl) Tryd.underlying202 rfl rfl rfl, 
 ⟨TiOk.of (by kernel_rfl) (by rw [Tryd.underlying42]; rfl) Tryd.underlying42 rfl rfl rfl, 
 ⟨TiOk.of (by kernel_rfl) (by rw [Tryd.underlying70]; rfl) ⟨_, ⟨Tryd.underlying70, by kernel_rfl⟩, by kernel_rfl⟩ rfl rfl rfl, 
 ⟨TiOk.of (by kernel_rfl) (by rw [Tryd.underlying47]; rfl) Tryd.underlying47 rfl rfl rfl, 
 ⟨TiOk.of (by kernel_rfl) (by rw [Tryd.underlying24]; rfl) ⟨_, Tryd.underlying24⟩ rfl rfl rfl, 
 ⟨TiOk.of (by kernel_rfl) (by rw [Tryd.underlying49]; rfl) ⟨_, ⟨Tryd.underlying49, by kernel_rfl⟩, by kernel_rfl⟩ rfl rfl rfl, 
 ⟨TiOk.of (by kernel_rfl) (by rw [Tryd.underlying66]; rfl) Tryd.underlying66 rfl rfl rfl, 
 ⟨TiOk.of (by kernel_rfl) (by rw [Tryd.underlying206]; rfl) ⟨_, Tryd.underlying206⟩ rfl rfl rfl, 
 ⟨TiOk.of (by kernel_rfl) (by rw [Tryd.underlying63]; rfl) ⟨_, ⟨Tryd.underlying63, by kernel_rfl⟩, by kernel_rfl⟩ rfl rfl rfl, 
 ⟨TiOk.of (by kernel_rfl) (by rw [Tryd.underlying91]; rfl) Tryd.underlying91 rfl rfl rfl, 
 ⟨TiOk.of (by kernel_rfl) (by rw [Tryd.underlying129]; rfl) ⟨_, _, _, Tryd.underlying129⟩ rfl rfl rfl, 
 ⟨TiOk.of (by kernel_rfl) (by rw [Tryd.underlying164]; rfl) ⟨_, _, _, Tryd.underlying164⟩ rfl rfl rfl, 
 ⟨TiOk.of (by kernel_rfl) (by rw [Tryd.underlying170]; rfl) ⟨_, _, _, Tryd.underlying170⟩ rfl rfl rfl, 
 ⟨TiOk.of (by kernel_rfl) (by rw [Tryd.underlying118]; rfl) Tryd.underlying118 rfl rfl rfl, 
 ⟨TiOk.of (by kernel_rfl) (by rw [Tryd.underlying4]; rfl) Tryd.underlying4 rfl rfl rfl, 
 ⟨TiOk.of (by kernel_rfl) (by rw [Tryd.underlying74]; rfl) ⟨_, Tryd.underlying74⟩ rfl rfl rfl, 
 ⟨TiOk.of (by kernel_rfl) (by rw [Tryd.underlying119]; rfl) Tryd.underlying119 rfl rfl rfl, 
 ⟨TiOk.of (by kernel_rfl) (by rw [Tryd.underlying59]; rfl) Tryd.underlying59 rfl rfl rfl, 
 ⟨TiOk.of (by kernel_rfl) (by rw [Tryd.underlying121]; rfl) ⟨_, ⟨Tryd.underlying121, by kernel_rfl⟩, by kernel_rfl⟩ rfl rfl rfl, 
 ⟨TiOk.of (by kernel_rfl) (by rw [Tryd.underlying88]; rfl) ⟨_, ⟨Tryd.underlying88, by kernel_rfl⟩, by kernel_rfl⟩ rfl rfl rfl, 
 ⟨TiOk.of (by kernel_rfl) (by rw [Tryd.underlying117]; rfl) ⟨_, ⟨Tryd.underlying117, by kernel_rfl⟩, by kernel_rfl⟩ rfl rfl rfl, 
 ⟨TiOk.of (by kernel_rfl) (by rw [Tryd.underlying115]; rfl) Tryd.underlying115 rfl rfl rfl, 
 ⟨TiOk.of (by kernel_rfl) (by rw [Tryd.underlying161]; rfl) Tryd.underlying161 rfl rfl rfl, 
 ⟨TiOk.of (by kernel_rfl) (by rw [Tryd.underlying199]; rfl) Tryd.underlying199 rfl rfl rfl, 
 ⟨TiOk.of (by kernel_rfl) (by rw [Tryd.underlying167]; rfl) Tryd.underlying167 rfl rfl rfl, 
 ⟨TiOk.of (by kernel_rfl) (by rw [Tryd.underlying197]; rfl) Tryd.underlying197 rfl rfl rfl, 
 ⟨TiOk.of (by kernel_rfl) (by rw [Tryd.underlying46]; rfl) Tryd.underlying46 rfl rfl rfl, 
 ⟨TiOk.of (by kernel_rfl) (by rw [Tryd.underlying189]; rfl) Tryd.underlying189 rfl rfl rfl, 
 ⟨TiOk.of (by kernel_rfl) (by rw [Tryd.underlying100]; rfl) Tryd.underlying100 rfl rfl rfl, 
 ⟨TiOk.of (by kernel_rfl) (by rw [Tryd.underlying5]; rfl) Tryd.underlying5 rfl rfl rfl, 
 ⟨TiOk.of (by kernel_rfl) (by rw [Tryd.underlying126]; rfl) ⟨_, _, _, Tryd.underlying126⟩ rfl rfl rfl, 
 ⟨TiOk.of (by kernel_rfl) (by rw [Tryd.underlying94]; rfl) ⟨_, _, _, Tryd.underlying94⟩ rfl rfl rfl, 
 ⟨TiOk.of (by kernel_rfl) (by rw [Tryd.underlying103]; rfl) ⟨_, _, _, Tryd.underlying103⟩ rfl rfl rfl, 
 ⟨TiOk.of (by kernel_rfl) (by rw [Tryd.underlying133]; rfl) ⟨_, _, _, Tryd.underlying133⟩ rfl rfl rfl, 
 ⟨TiOk.of (by kernel_rfl) (by rw [Tryd.underlying105]; rfl) ⟨_, _, _, Tryd.underlying105⟩ rfl rfl rfl, 
 ⟨TiOk.of (by kernel_rfl) (by rw [Tryd.underlying138]; rfl) ⟨_, _, _, Tryd.underlying138⟩ rfl rfl rfl, 
 ⟨TiOk.of (by kernel_rfl) (by rw [Tryd.underlying139]; rfl) ⟨_, _, _, Tryd.underlying139⟩ rfl rfl rfl, 
 ⟨TiOk.of (by kernel_rfl) (by rw [Tryd.underlying20]; rfl) ⟨_, Tryd.underlying20⟩ rfl rfl rfl, 
 ⟨TiOk.of (by kernel_rfl) (by rw [Tryd.underlying227]; rfl) ⟨_, Tryd.underlying227⟩ rfl rfl rfl, 
 ⟨TiOk.of (by kernel_rfl) (by rw [Tryd.underlying114]; rfl) ⟨_, Tryd.underlying114⟩ rfl rfl rfl, trivial⟩⟩⟩⟩⟩⟩⟩⟩⟩⟩⟩⟩⟩⟩⟩⟩⟩⟩⟩⟩⟩⟩⟩⟩⟩⟩⟩⟩⟩⟩⟩⟩⟩⟩⟩⟩⟩⟩⟩⟩⟩⟩⟩⟩⟩⟩⟩⟩⟩⟩⟩⟩⟩⟩⟩⟩
theorem eqv29 (x0 : Int) (x1 : Int) (y0 : Int) (y1 : Int) : eqVal Tryd.prog Op.maxDepth 29 (.agg #[.int .i64 x0, .int .i64 x1]) (.agg #[.int .i64 y0, .int .i64 y1]) = some (leavesB [.int .i64 x0, .int .i64 x1] [.int .i64 y0, .int .i64 y1]) := by kernel_rfl
theorem okVs29 {l : List Value} (h : okVs [.int .i64, .int .i64] l) : ∃ x0 x1, l = [.int .i64 x0, .int .i64 x1] := by
  match l, h with
  | [_, _], ⟨⟨x0, rfl⟩, ⟨x1, rfl⟩, _⟩ => exact ⟨x0, x1, rfl⟩
theorem eqOk29 : EqOk Tryd.prog 29 [.int .i64, .int .i64] := ⟨by kernel_rfl, fun xs ys hx hy w => by
  obtain ⟨x0, x1, rfl⟩ := okVs29 hx
  obtain ⟨y0, y1, rfl⟩ := okVs29 hy
  exact eqVal_sound _ _ _ _ _ (eqv29 _ _ _ _)⟩
theorem eqv41 (x0 : Int) (x1 : Int) (x2 : Int) (x3 : Int) (y0 : Int) (y1 : Int) (y2 : Int) (y3 : Int) : eqVal Tryd.prog Op.maxDepth 41 (.agg #[.int .i64 x0, .int .i64 x1, .int .i64 x2, .int .i64 x3]) (.agg #[.int .i64 y0, .int .i64 y1, .int .i64 y2, .int .i64 y3]) = some (leavesB [.int .i64 x0, .int .i64 x1, .int .i64 x2, .int .i64 x3] [.int .i64 y0, .int .i64 y1, .int .i64 y2, .int .i64 y3]) := by
  have e : (((x0 == y0) && ((x1 == y1) && true)) && (((x2 == y2) && ((x3 == y3) && true)) && true)) = leavesB [.int .i64 x0, .int .i64 x1, .int .i64 x2, .int .i64 x3] [.int .i64 y0, .int .i64 y1, .int .i64 y2, .int .i64 y3] := by simp only [leavesB, leafB, Bool.and_assoc, Bool.and_true, Bool.true_and]
  have k : eqVal Tryd.prog Op.maxDepth 41 (.agg #[.int .i64 x0, .int .i64 x1, .int .i64 x2, .int .i64 x3]) (.agg #[.int .i64 y0, .int .i64 y1, .int .i64 y2, .int .i64 y3]) = some (((x0 == y0) && ((x1 == y1) && true)) && (((x2 == y2) && ((x3 == y3) && true)) && true)) := by kernel_rfl
  exact k.trans (congrArg some e)
theorem okVs41 {l : List Value} (h : okVs [.int .i64, .int .i64, .int .i64, .int .i64] l) : ∃ x0 x1 x2 x3, l = [.int .i64 x0, .int .i64 x1, .int .i64 x2, .int .i64 x3] := by
  match l, h with
  | [_, _, _, _], ⟨⟨x0, rfl⟩, ⟨x1, rfl⟩, ⟨x2, rfl⟩, ⟨x3, rfl⟩, _⟩ => exact ⟨x0, x1, x2, x3, rfl⟩
theorem eqOk41 : EqOk Tryd.prog 41 [.int .i64, .int .i64, .int .i64, .int .i64] := ⟨by kernel_rfl, fun xs ys hx hy w => by
  obtain ⟨x0, x1, x2, x3, rfl⟩ := okVs41 hx
  obtain ⟨y0, y1, y2, y3, rfl⟩ := okVs41 hy
  exact eqVal_sound _ _ _ _ _ (eqv41 _ _ _ _ _ _ _ _)⟩
theorem eqv63 (x0 : Int) (x1 : Bool) (x2 : Int) (x3 : Int) (y0 : Int) (y1 : Bool) (y2 : Int) (y3 : Int) : eqVal Tryd.prog Op.maxDepth 63 (.agg #[.int .i64 x0, .bool x1, .int .i64 x2, .int .i64 x3]) (.agg #[.int .i64 y0, .bool y1, .int .i64 y2, .int .i64 y3]) = some (leavesB [.int .i64 x0, .bool x1, .int .i64 x2, .int .i64 x3] [.int .i64 y0, .bool y1, .int .i64 y2, .int .i64 y3]) := by
  have e : ((x0 == y0) && ((x1 == y1) && (((x2 == y2) && ((x3 == y3) && true)) && true))) = leavesB [.int .i64 x0, .bool x1, .int .i64 x2, .int .i64 x3] [.int .i64 y0, .bool y1, .int .i64 y2, .int .i64 y3] := by simp only [leavesB, leafB, Bool.and_assoc, Bool.and_true, Bool.true_and]
  have k : eqVal Tryd.prog Op.maxDepth 63 (.agg #[.int .i64 x0, .bool x1, .int .i64 x2, .int .i64 x3]) (.agg #[.int .i64 y0, .bool y1, .int .i64 y2, .int .i64 y3]) = some ((x0 == y0) && ((x1 == y1) && (((x2 == y2) && ((x3 == y3) && true)) && true))) := by kernel_rfl
  exact k.trans (congrArg some e)
theorem okVs63 {l : List Value} (h : okVs [.int .i64, .bool, .int .i64, .int .i64] l) : ∃ x0 x1 x2 x3, l = [.int .i64 x0, .bool x1, .int .i64 x2, .int .i64 x3] := by
  match l, h with
  | [_, _, _, _], ⟨⟨x0, rfl⟩, ⟨x1, rfl⟩, ⟨x2, rfl⟩, ⟨x3, rfl⟩, _⟩ => exact ⟨x0, x1, x2, x3, rfl⟩
theorem eqOk63 : EqOk Tryd.prog 63 [.int .i64, .bool, .int .i64, .int .i64] := ⟨by kernel_rfl, fun xs ys hx hy w => by
  obtain ⟨x0, x1, x2, x3, rfl⟩ := okVs63 hx
  obtain ⟨y0, y1, y2, y3, rfl⟩ := okVs63 hy
  exact eqVal_sound _ _ _ _ _ (eqv63 _ _ _ _ _ _ _ _)⟩
theorem eqv64 (x0 : Int) (x1 : Bool) (x2 : Int) (x3 : Int) (y0 : Int) (y1 : Bool) (y2 : Int) (y3 : Int) : eqVal Tryd.prog Op.maxDepth 64 (.agg #[.int .i64 x0, .bool x1, .int .i64 x2, .int .i64 x3]) (.agg #[.int .i64 y0, .bool y1, .int .i64 y2, .int .i64 y3]) = some (leavesB [.int .i64 x0, .bool x1, .int .i64 x2, .int .i64 x3] [.int .i64 y0, .bool y1, .int .i64 y2, .int .i64 y3]) := by
  have e : ((x0 == y0) && ((x1 == y1) && (((x2 == y2) && ((x3 == y3) && true)) && true))) = leavesB [.int .i64 x0, .bool x1, .int .i64 x2, .int .i64 x3] [.int .i64 y0, .bool y1, .int .i64 y2, .int .i64 y3] := by simp only [leavesB, leafB, Bool.and_assoc, Bool.and_true, Bool.true_and]
  have k : eqVal Tryd.prog Op.maxDepth 64 (.agg #[.int .i64 x0, .bool x1, .int .i64 x2, .int .i64 x3]) (.agg #[.int .i64 y0, .bool y1, .int .i64 y2, .int .i64 y3]) = some ((x0 == y0) && ((x1 == y1) && (((x2 == y2) && ((x3 == y3) && true)) && true))) := by kernel_rfl
  exact k.trans (congrArg some e)
theorem okVs64 {l : List Value} (h : okVs [.int .i64, .bool, .int .i64, .int .i64] l) : ∃ x0 x1 x2 x3, l = [.int .i64 x0, .bool x1, .int .i64 x2, .int .i64 x3] := by
  match l, h with
  | [_, _, _, _], ⟨⟨x0, rfl⟩, ⟨x1, rfl⟩, ⟨x2, rfl⟩, ⟨x3, rfl⟩, _⟩ => exact ⟨x0, x1, x2, x3, rfl⟩
theorem eqOk64 : EqOk Tryd.prog 64 [.int .i64, .bool, .int .i64, .int .i64] := ⟨by kernel_rfl, fun xs ys hx hy w => by
  obtain ⟨x0, x1, x2, x3, rfl⟩ := okVs64 hx
  obtain ⟨y0, y1, y2, y3, rfl⟩ := okVs64 hy
  exact eqVal_sound _ _ _ _ _ (eqv64 _ _ _ _ _ _ _ _)⟩
theorem eqv82 (x0 : Int) (x1 : Int) (x2 : Int) (y0 : Int) (y1 : Int) (y2 : Int) : eqVal Tryd.prog Op.maxDepth 82 (.agg #[.int .i64 x0, .int .i64 x1, .int .i64 x2]) (.agg #[.int .i64 y0, .int .i64 y1, .int .i64 y2]) = some (leavesB [.int .i64 x0, .int .i64 x1, .int .i64 x2] [.int .i64 y0, .int .i64 y1, .int .i64 y2]) := by kernel_rfl
theorem okVs82 {l : List Value} (h : okVs [.int .i64, .int .i64, .int .i64] l) : ∃ x0 x1 x2, l = [.int .i64 x0, .int .i64 x1, .int .i64 x2] := by
  match l, h with
  | [_, _, _], ⟨⟨x0, rfl⟩, ⟨x1, rfl⟩, ⟨x2, rfl⟩, _⟩ => exact ⟨x0, x1, x2, rfl⟩
theorem eqOk82 : EqOk Tryd.prog 82 [.int .i64, .int .i64, .int .i64] := ⟨by kernel_rfl, fun xs ys hx hy w => by
  obtain ⟨x0, x1, x2, rfl⟩ := okVs82 hx
  obtain ⟨y0, y1, y2, rfl⟩ := okVs82 hy
  exact eqVal_sound _ _ _ _ _ (eqv82 _ _ _ _ _ _)⟩
theorem eqsOk : AllTb (EqOk Tryd.prog) eqs := ⟨eqOk29, ⟨eqOk41, ⟨eqOk63, ⟨eqOk64, ⟨eqOk82, trivial⟩⟩⟩⟩⟩
theorem gmOk (E : Nat → Addr) : (Gm E).Ok := ⟨(tbOk _).lk, eqsOk.lk, by kernel_rfl⟩
end Go.Proofs.YtpojafdllcioiaaDoor

namespace Go.Proofs.YtpojafdllcioiaaDoor
open Go.Zz Go.Px
set_option linter.unusedVariables false
set_option linter.unusedSectionVars false
set_option linter.unusedSimpArgs false
set_option maxRecDepth 10000
noncomputable def Ge (E : Nat → Addr) : Ctx := { Gm E with errs := [] }
theorem geOk (E : Nat → Addr) : (Ge E).Ok := (gmOk E).noErrs
def inR (m n : Int) : Prop := -m ≤ n ∧ n ≤ m
instance (m n : Int) : Decidable (inR m n) := inferInstanceAs (Decidable (-m ≤ n ∧ n ≤ m))
def reachP (p : Int × Int) : Prop := (-4194304 ≤ p.1 ∧ p.1 ≤ 4194304) ∧ (-4194304 ≤ p.2 ∧ p.2 ≤ 4194304)
instance (p : Int × Int) : Decidable (reachP p) := by unfold reachP; infer_instance
def rightP (b : Int × Int × Int × Int) : Prop := b.1 ≤ b.2.2.1 ∧ b.2.1 ≤ b.2.2.2 ∧ reachP (b.1, b.2.1) ∧ reachP (b.2.2.1, b.2.2.2)
instance (b : Int × Int × Int × Int) : Decidable (rightP b) := by unfold rightP; infer_instance
def spanP (s : (Int × Int) × Int × Int) : Prop := s.2.1 ≤ s.2.2 ∧ reachP s.2
instance (s : (Int × Int) × Int × Int) : Decidable (spanP s) := by unfold spanP; infer_instance
def ltE (e f : Int × Bool × Int × Int) : Bool := decide (e.1 < f.1 ∨ e.1 = f.1 ∧ ((e.2.1 = false ∧ f.2.1 = true) ∨ e.2.1 = f.2.1 ∧ ltH e.2.2 f.2.2 = true))
def ordPair (a b : Int × Int) : (Int × Int) × (Int × Int) := if a = b then ((0, 0), (0, 0)) else if ltH b a = true then (b, a) else (a, b)
theorem ordPair_lt {a b : Int × Int} (h : ¬(a.1 = b.1 ∧ a.2 = b.2)) (h1 : ltH b a = true) : ordPair a b = (b, a) := by
  unfold ordPair; rw [if_neg (fun e => h (by rw [e]; exact ⟨rfl, rfl⟩)), if_pos h1]
theorem ordPair_ge {a b : Int × Int} (h : ¬(a.1 = b.1 ∧ a.2 = b.2)) (h1 : ltH b a = false) : ordPair a b = (a, b) := by
  unfold ordPair; rw [if_neg (fun e => h (by rw [e]; exact ⟨rfl, rfl⟩)), if_neg (by rw [h1]; simp)]
def meetP (a b : Int × Int × Int × Int) : Prop := a.1 ≤ b.2.2.1 ∧ b.1 ≤ a.2.2.1 ∧ a.2.1 ≤ b.2.2.2 ∧ b.2.1 ≤ a.2.2.2
instance (a b : Int × Int × Int × Int) : Decidable (meetP a b) := by unfold meetP; infer_instance
set_option maxHeartbeats 4000000 in
theorem within_z (E : Nat → Addr) (n m : Int) (h : 0 ≤ m ∧ m ≤ 4611686018427387904) : Does (Gm E) 81 (Sp0 [.int .i64 n, .int .i64 m] [] 0 (.dc (-m ≤ n ∧ n ≤ m) inferInstance)) := by
  refine fn_intro (gmOk E) 14 0 [] Tryd.func81 rfl rfl rfl rfl rfl ?_
  repeat' first | (intro h; first | (exfalso; omega; done) | skip) | (refine And.intro ?_ ?_) | exact True.intro | (refine @Exists.intro Unit _ () ?_) | (refine @Exists.intro (_ = _) _ rfl ?_)
  all_goals first | omega | rfl | skip

set_option maxHeartbeats 4000000 in
theorem reach_z (E : Nat → Addr) (p : Int × Int) : Does (Gm E) 49 (Sp0 [.agg [.int .i64 p.1, .int .i64 p.2]] [] 0 (.dc (reachP p) inferInstance)) := by
  refine fn_intro (gmOk E) 11 0 [] Tryd.func49 rfl rfl rfl rfl rfl ?_
  repeat' first | (intro h; first | (exfalso; omega; done) | skip) | (refine And.intro ?_ ?_) | exact True.intro | (refine @Exists.intro Unit _ () ?_) | (refine @Exists.intro (_ = _) _ rfl ?_) | (change CallGoal _ _ _ _ _ _; first | (refine call0 (within_z E _ _ (by omega)) [] rfl True.intro rfl ?_))
  all_goals first | omega | (simp only [reachP] at *; omega) | skip

set_option maxHeartbeats 4000000 in
theorem corners_z (E : Nat → Addr) (b : Int × Int × Int × Int) : Does (Gm E) 77 (Sp0 [.agg [.int .i64 b.1, .int .i64 b.2.1, .int .i64 b.2.2.1, .int .i64 b.2.2.2]] [] 0 (.tup [.agg [.int .i64 (b.1,b.2.1).1, .int .i64 (b.1,b.2.1).2], .agg [.int .i64 (b.2.2.1,b.2.2.2).1, .int .i64 (b.2.2.1,b.2.2.2).2]])) := by
  refine fn_intro (gmOk E) 14 0 [] Tryd.func77 rfl rfl rfl rfl rfl ?_
  repeat' first | (intro h; first | (exfalso; omega; done) | skip) | (refine And.intro ?_ ?_) | exact True.intro | (refine @Exists.intro Unit _ () ?_) | (refine @Exists.intro (_ = _) _ rfl ?_) | (change DrawGoal _ _ _ _ _ _; first | (change DrawGoal _ _ _ [_, _, _, _, _, _, _, _, _, _, _, _] _ _; refine draw_tree (gmOk E) [0] (.leaf [(0, true), (1, true), (2, true), (3, true), (4, true), (5, true), (6, true), (7, true), (8, true), (9, true), (10, false), (11, false)]) (by kernel_rfl) ?_))
  all_goals first | omega | rfl | skip

set_option maxHeartbeats 4000000 in
theorem right_z (E : Nat → Addr) (b : Int × Int × Int × Int) : Does (Gm E) 45 (Sp0 [.agg [.int .i64 b.1, .int .i64 b.2.1, .int .i64 b.2.2.1, .int .i64 b.2.2.2]] [] 0 (.dc (rightP b) inferInstance)) := by
  refine fn_intro (gmOk E) 30 0 [] Tryd.func45 rfl rfl rfl rfl rfl ?_
  repeat' first | (intro h; first | (exfalso; omega; done) | skip) | (refine And.intro ?_ ?_) | exact True.intro | (refine @Exists.intro Unit _ () ?_) | (refine @Exists.intro (_ = _) _ rfl ?_) | (change CallGoal _ _ _ _ _ _; first | (refine call0 (corners_z E b) [] rfl True.intro rfl ?_) | (refine call0 (reach_z E (b.1, b.2.1)) [] rfl True.intro rfl ?_) | (refine call0 (reach_z E (b.2.2.1, b.2.2.2)) [] rfl True.intro rfl ?_))
  all_goals first | omega | (simp only [rightP, reachP] at *; omega) | skip

set_option maxHeartbeats 4000000 in
theorem isnan_e (E : Nat → Addr) (n : Int) : DoesC (Ge E) 98 (Sp0 [.int .i64 n] [] 0 .ff) := by
  refine fn_calls (geOk E) 6 0 [] Tryd.func98 rfl rfl rfl rfl rfl ?_
  repeat' first | (intro h; first | (exfalso; omega; done) | skip) | (refine And.intro ?_ ?_) | exact True.intro | (refine @Exists.intro Unit _ () ?_) | (refine @Exists.intro (_ = _) _ rfl ?_)
  all_goals first | omega | rfl | skip

set_option maxHeartbeats 4000000 in
theorem cmp_e (E : Nat → Addr) (a b : Int) : DoesC (Ge E) 68 (Sp0 [.int .i64 a, .int .i64 b] [] 0 (.int .i64 (cmpI a b))) := by
  refine fn_calls (geOk E) 20 0 [] Tryd.func68 rfl rfl rfl rfl rfl ?_
  repeat' first | (intro h; first | (exfalso; omega; done) | skip) | (refine And.intro ?_ ?_) | exact True.intro | (refine @Exists.intro Unit _ () ?_) | (refine @Exists.intro (_ = _) _ rfl ?_) | (change CallGoal _ _ _ _ _ _; first | (refine call0 (isnan_e E _).does [] rfl True.intro rfl ?_))
  all_goals first | omega | (simp only [cmpI]; repeat (split <;> try omega)) | skip

set_option maxHeartbeats 4000000 in
theorem or_e (E : Nat → Addr) (a b : Int) : DoesC (Ge E) 67 (Sp0 [.sl 0 2 2] [(0, .ro Int Zz.encI [a, b] 2)] 1 (.int .i64 (if a = 0 then b else a))) := by
  refine fn_calls (geOk E) 18 1 [] Tryd.func67 rfl rfl rfl rfl rfl ?_
  repeat' first | (intro h; first | (exfalso; omega; done) | skip) | (refine And.intro ?_ ?_) | exact True.intro | (refine @Exists.intro Unit _ () ?_) | (refine @Exists.intro (_ = _) _ rfl ?_) | (change LoopGoal _ _ _ _ _ _; refine loop_rounds (geOk E) [] 3 ?_)
  all_goals first | rfl | omega | (simp; done) | (simp_all; done) | skip

set_option maxHeartbeats 4000000 in
theorem cmpH_e (E : Nat → Addr) (a b : Int × Int) : DoesC (Ge E) 100 (Sp0 [.agg [.int .i64 a.1, .int .i64 a.2], .agg [.int .i64 b.1, .int .i64 b.2]] [] 0 (.int .i64 (cmpH a b))) := by
  refine fn_calls (geOk E) 17 0 [] Tryd.func100 rfl rfl rfl rfl rfl ?_
  repeat' first | (intro h; first | (exfalso; omega; done) | skip) | (refine And.intro ?_ ?_) | exact True.intro | (refine @Exists.intro Unit _ () ?_) | (refine @Exists.intro (_ = _) _ rfl ?_) | (change DrawGoal _ _ _ _ _ _; first | (change DrawGoal _ _ _ [_, _, _, _, _, _, _, _, _, _, _, _, _] _ _; refine draw_tree (geOk E) [0, 1] (.leaf [(0, true), (1, true), (2, true), (3, true), (5, true), (6, true), (7, true), (8, true), (4, false), (9, false), (10, false), (11, false), (12, true)]) (by kernel_rfl) ?_)) | (change CallGoal _ _ _ _ _ _; first | (refine call0 (cmp_e E _ _).does [] rfl True.intro rfl ?_) | (refine call0 (or_e E _ _).does [2] rfl (And.intro rfl True.intro) rfl ?_))
  all_goals first | omega | rfl | skip

set_option maxHeartbeats 4000000 in
theorem cmpP_e (E : Nat → Addr) (a b : (Int × Int) × (Int × Int)) : DoesC (Ge E) 107 (Sp0 [.agg [.int .i64 a.1.1, .int .i64 a.1.2, .int .i64 a.2.1, .int .i64 a.2.2], .agg [.int .i64 b.1.1, .int .i64 b.1.2, .int .i64 b.2.1, .int .i64 b.2.2]] [] 0 (.int .i64 (cmpP a b))) := by
  refine fn_calls (geOk E) 17 0 [] Tryd.func107 rfl rfl rfl rfl rfl ?_
  repeat' first | (intro h; first | (exfalso; omega; done) | skip) | (refine And.intro ?_ ?_) | exact True.intro | (refine @Exists.intro Unit _ () ?_) | (refine @Exists.intro (_ = _) _ rfl ?_) | (change DrawGoal _ _ _ _ _ _; first | (change DrawGoal _ _ _ [_, _, _, _, _, _, _, _, _, _, _, _, _] _ _; refine draw_tree (geOk E) [0, 1] (.leaf [(0, true), (1, true), (2, true), (3, true), (5, true), (6, true), (7, true), (8, true), (4, false), (9, false), (10, false), (11, false), (12, true)]) (by kernel_rfl) ?_)) | (change CallGoal _ _ _ _ _ _; first | (refine call0 (cmpH_e E _ _).does [] rfl True.intro rfl ?_) | (refine call0 (or_e E _ _).does [2] rfl (And.intro rfl True.intro) rfl ?_))
  all_goals first | omega | rfl | skip

theorem cmpH_z (E : Nat → Addr) (a b : Int × Int) : Does (Gm E) 100 (Sp0 [.agg [.int .i64 a.1, .int .i64 a.2], .agg [.int .i64 b.1, .int .i64 b.2]] [] 0 (.int .i64 (cmpH a b))) := Does.more (Γ := Gm E) (cmpH_e E a b).does
set_option maxHeartbeats 4000000 in
theorem less_z (E : Nat → Addr) (a b : Int × Int) : Does (Gm E) 89 (Sp0 [.agg [.int .i64 a.1, .int .i64 a.2], .agg [.int .i64 b.1, .int .i64 b.2]] [] 0 (.bl (ltH a b))) := by
  refine fn_intro (gmOk E) 9 0 [] Tryd.func89 rfl rfl rfl rfl rfl ?_
  repeat' first | (intro h; first | (exfalso; omega; done) | skip) | (refine And.intro ?_ ?_) | exact True.intro | (refine @Exists.intro Unit _ () ?_) | (refine @Exists.intro (_ = _) _ rfl ?_) | (change CallGoal _ _ _ _ _ _; first | (refine call0 (cmpH_z E _ _) [] rfl True.intro rfl ?_))
  all_goals first | omega | (have := cmpH_neg a b; simp_all; done) | skip

set_option maxHeartbeats 4000000 in
theorem ref02less_z (E : Nat → Addr) (a b : Int × Int) : Does (Gm E) 87 (Sp0 [.agg [.int .i64 a.1, .int .i64 a.2], .agg [.int .i64 b.1, .int .i64 b.2]] [] 0 (.bl (ltH a b))) := by
  refine fn_intro (gmOk E) 24 0 [] Tryd.func87 rfl rfl rfl rfl rfl ?_
  repeat' first | (intro h; first | (exfalso; omega; done) | skip) | (refine And.intro ?_ ?_) | exact True.intro | (refine @Exists.intro Unit _ () ?_) | (refine @Exists.intro (_ = _) _ rfl ?_)
  all_goals first | omega | rfl | (simp only [ltH]; simp; omega) | skip

set_option maxHeartbeats 4000000 in
theorem pairless_z (E : Nat → Addr) (a b : (Int × Int) × (Int × Int)) : Does (Gm E) 88 (Sp0 [.agg [.int .i64 a.1.1, .int .i64 a.1.2, .int .i64 a.2.1, .int .i64 a.2.2], .agg [.int .i64 b.1.1, .int .i64 b.1.2, .int .i64 b.2.1, .int .i64 b.2.2]] [] 0 (.bl (ltP a b))) := by
  refine fn_intro (gmOk E) 24 0 [] Tryd.func88 rfl rfl rfl rfl rfl ?_
  repeat' first | (intro h; first | (exfalso; omega; done) | skip) | (refine And.intro ?_ ?_) | exact True.intro | (refine @Exists.intro Unit _ () ?_) | (refine @Exists.intro (_ = _) _ rfl ?_) | (change CallGoal _ _ _ _ _ _; first | (refine call0 (ref02less_z E _ _) [] rfl True.intro rfl ?_))
  all_goals first | omega | rfl | (obtain ⟨⟨a1, a2⟩, a3⟩ := a; obtain ⟨⟨b1, b2⟩, b3⟩ := b; cases h1 : ltH (a1, a2) (b1, b2) <;> simp_all [ltP]; done) | skip

set_option maxHeartbeats 4000000 in
theorem pair_z (E : Nat → Addr) (a b : Int × Int) : Does (Gm E) 61 (Sp0 [.agg [.int .i64 a.1, .int .i64 a.2], .agg [.int .i64 b.1, .int .i64 b.2]] [] 0 (.tup [.agg [.int .i64 (ordPair a b).1.1, .int .i64 (ordPair a b).1.2, .int .i64 (ordPair a b).2.1, .int .i64 (ordPair a b).2.2], .bl (!decide (a = b))])) := by
  refine fn_intro (gmOk E) 20 0 [] Tryd.func61 rfl rfl rfl rfl rfl ?_
  repeat' first | (intro h; first | (exfalso; omega; done) | skip) | (refine And.intro ?_ ?_) | exact True.intro | (refine @Exists.intro Unit _ () ?_) | (refine @Exists.intro (_ = _) _ rfl ?_) | (change CallGoal _ _ _ _ _ _; first | (refine call0 (less_z E _ _) [] rfl True.intro rfl ?_))
  all_goals first | omega | (rw [ordPair_lt ‹_› ‹_›]) | (rw [ordPair_ge ‹_› ‹_›]) | (obtain ⟨a1, a2⟩ := a; obtain ⟨b1, b2⟩ := b; simp_all [ordPair]; done) | (obtain ⟨a1, a2⟩ := a; obtain ⟨b1, b2⟩ := b; simp_all [ordPair]; omega) | skip

set_option maxHeartbeats 4000000 in
theorem in_z (E : Nat → Addr) (n m : Int) (h : 0 ≤ m ∧ m ≤ 4611686018427387904) : Does (Gm E) 51 (Sp0 [.int .i64 n, .int .i64 m] [] 0 (.dc (-m ≤ n ∧ n ≤ m) inferInstance)) := by
  refine fn_intro (gmOk E) 14 0 [] Tryd.func51 rfl rfl rfl rfl rfl ?_
  repeat' first | (intro h; first | (exfalso; omega; done) | skip) | (refine And.intro ?_ ?_) | exact True.intro | (refine @Exists.intro Unit _ () ?_) | (refine @Exists.intro (_ = _) _ rfl ?_)
  all_goals first | omega | rfl | skip

set_option maxHeartbeats 4000000 in
theorem ref01right_z (E : Nat → Addr) (b : Int × Int × Int × Int) : Does (Gm E) 30 (Sp0 [.agg [.int .i64 b.1, .int .i64 b.2.1, .int .i64 b.2.2.1, .int .i64 b.2.2.2]] [] 0 (.dc (rightP b) inferInstance)) := by
  refine fn_intro (gmOk E) 35 0 [] Tryd.func30 rfl rfl rfl rfl rfl ?_
  repeat' first | (intro h; first | (exfalso; omega; done) | skip) | (refine And.intro ?_ ?_) | exact True.intro | (refine @Exists.intro Unit _ () ?_) | (refine @Exists.intro (_ = _) _ rfl ?_) | (change CallGoal _ _ _ _ _ _; first | (refine call0 (in_z E _ _ (by omega)) [] rfl True.intro rfl ?_))
  all_goals first | omega | (simp only [rightP, reachP] at *; omega) | skip

set_option maxHeartbeats 4000000 in
theorem ref11right_z (E : Nat → Addr) (s : (Int × Int) × Int × Int) : Does (Gm E) 20 (Sp0 [.agg [.int .i64 s.1.1, .int .i64 s.1.2, .int .i64 s.2.1, .int .i64 s.2.2]] [] 0 (.dc (spanP s) inferInstance)) := by
  refine fn_intro (gmOk E) 18 0 [] Tryd.func20 rfl rfl rfl rfl rfl ?_
  repeat' first | (intro h; first | (exfalso; omega; done) | skip) | (refine And.intro ?_ ?_) | exact True.intro | (refine @Exists.intro Unit _ () ?_) | (refine @Exists.intro (_ = _) _ rfl ?_) | (change CallGoal _ _ _ _ _ _; first | (refine call0 (in_z E _ _ (by omega)) [] rfl True.intro rfl ?_))
  all_goals first | omega | (simp only [spanP, reachP] at *; omega) | skip

set_option maxHeartbeats 4000000 in
theorem meets_z (E : Nat → Addr) (a b : Int × Int × Int × Int) : Does (Gm E) 60 (Sp0 [.agg [.int .i64 a.1, .int .i64 a.2.1, .int .i64 a.2.2.1, .int .i64 a.2.2.2], .agg [.int .i64 b.1, .int .i64 b.2.1, .int .i64 b.2.2.1, .int .i64 b.2.2.2]] [] 0 (.dc (meetP a b) inferInstance)) := by
  refine fn_intro (gmOk E) 32 0 [] Tryd.func60 rfl rfl rfl rfl rfl ?_
  repeat' first | (intro h; first | (exfalso; omega; done) | skip) | (refine And.intro ?_ ?_) | exact True.intro | (refine @Exists.intro Unit _ () ?_) | (refine @Exists.intro (_ = _) _ rfl ?_)
  all_goals first | omega | (simp only [meetP]; omega) | skip

set_option maxHeartbeats 4000000 in
theorem gone_z (E : Nat → Addr) (a b : Int) : Does (Gm E) 25 (Sp0 [.int .i64 a, .int .i64 b] [] 0 (.int .i64 (if a = b then 3 else 0))) := by
  refine fn_intro (gmOk E) 8 0 [] Tryd.func25 rfl rfl rfl rfl rfl ?_
  repeat' first | (intro h; first | (exfalso; omega; done) | skip) | (refine And.intro ?_ ?_) | exact True.intro | (refine @Exists.intro Unit _ () ?_) | (refine @Exists.intro (_ = _) _ rfl ?_)
  all_goals first | omega | (split <;> omega) | (simp_all; done) | skip

set_option maxHeartbeats 4000000 in
theorem lessE_z (E : Nat → Addr) (a b : Int × Bool × Int × Int) : Does (Gm E) 58 (Sp0 [.agg [.int .i64 a.1, .bl a.2.1, .int .i64 a.2.2.1, .int .i64 a.2.2.2], .agg [.int .i64 b.1, .bl b.2.1, .int .i64 b.2.2.1, .int .i64 b.2.2.2]] [] 0 (.bl (ltE a b))) := by
  refine fn_intro (gmOk E) 28 0 [] Tryd.func58 rfl rfl rfl rfl rfl ?_
  repeat' first | (intro h; first | (exfalso; omega; done) | skip) | (refine And.intro ?_ ?_) | exact True.intro | (refine @Exists.intro Unit _ () ?_) | (refine @Exists.intro (_ = _) _ rfl ?_) | (change CallGoal _ _ _ _ _ _; first | (refine call0 (ref02less_z E _ _) [] rfl True.intro rfl ?_))
  all_goals first | omega | (simp_all [ltE]; done) | (cases h1 : a.2.1 <;> cases h2 : b.2.1 <;> simp_all [ltE]; done) | skip

set_option maxHeartbeats 4000000 in
theorem ahead_z (E : Nat → Addr) (a b : Int × Bool × Int × Int) : Does (Gm E) 82 (Sp0 [.agg [.int .i64 a.1, .bl a.2.1, .int .i64 a.2.2.1, .int .i64 a.2.2.2], .agg [.int .i64 b.1, .bl b.2.1, .int .i64 b.2.2.1, .int .i64 b.2.2.2]] [] 0 (.bl (ltE a b))) := by
  refine fn_intro (gmOk E) 29 0 [] Tryd.func82 rfl rfl rfl rfl rfl ?_
  repeat' first | (intro h; first | (exfalso; omega; done) | skip) | (refine And.intro ?_ ?_) | exact True.intro | (refine @Exists.intro Unit _ () ?_) | (refine @Exists.intro (_ = _) _ rfl ?_) | (change CallGoal _ _ _ _ _ _; first | (refine call0 (less_z E _ _) [] rfl True.intro rfl ?_))
  all_goals first | omega | (simp_all [ltE]; done) | (cases h1 : a.2.1 <;> cases h2 : b.2.1 <;> simp_all [ltE]; done) | skip

end Go.Proofs.YtpojafdllcioiaaDoor

namespace Go.Proofs.YtpojafdllcioiaaDoor
open Go.Zz Go.Px
open Go.Qd (okC okC_iff upC cellB okB chain cnt1 cntL)
set_option linter.unusedVariables false
set_option linter.unusedSectionVars false
set_option linter.unusedSimpArgs false
set_option maxRecDepth 10000
theorem pw {d : Int} (h : 0 ≤ d ∧ d ≤ 8) : 1 * 2 ^ (min d.toNat IntKind.i64.bits) = (2 : Int) ^ d.toNat := by
  rw [show min d.toNat IntKind.i64.bits = d.toNat from Nat.min_eq_left (by have : IntKind.i64.bits = 64 := rfl; omega), Int.one_mul]
theorem sd {d : Int} (h : 0 ≤ d ∧ d ≤ 8) : (4194304 : Int).fdiv (2 ^ (min d.toNat IntKind.i64.bits)) = side d := by
  have e := pw h
  rw [Int.one_mul] at e
  rw [e, Int.fdiv_eq_ediv_of_nonneg _ (by have := (pow_bd h).1; omega)]; rfl
theorem okC_ff {c : Int × Int × Int} (h : c.1 < 0 ∨ 8 < c.1) : okC c = false := by
  cases e : okC c with
  | false => rfl
  | true => have := okC_iff.1 e; omega
theorem okC_dc {c : Int × Int × Int} (h : ¬ (c.1 < 0 ∨ 8 < c.1)) {P : Prop} {d : Decidable P} (hP : P ↔ ((0 ≤ c.2.1 ∧ c.2.1 ≤ 1 * 2 ^ (min c.1.toNat IntKind.i64.bits) - 1) ∧ 0 ≤ c.2.2) ∧ c.2.2 ≤ 1 * 2 ^ (min c.1.toNat IntKind.i64.bits) - 1) : @decide P d = okC c := by
  rw [Bool.eq_iff_iff, decide_eq_true_iff, hP, okC_iff, pw (by omega)]
  omega
theorem right_iff {b : Int × Int × Int × Int} : boxRight b.1 b.2.1 b.2.2.1 b.2.2.2 = true ↔ rightP b := by
  rw [boxRight_iff]; unfold rightP reachP; omega
theorem upC_z {c : Int × Int × Int} (h : okC c = true) : c.2.1.tdiv 2 = c.2.1 / 2 ∧ c.2.2.tdiv 2 = c.2.2 / 2 := by
  have := okC_iff.1 h
  exact ⟨Int.tdiv_eq_ediv_of_nonneg (by omega), Int.tdiv_eq_ediv_of_nonneg (by omega)⟩
theorem half {x : Int} : x.fdiv (2 ^ (min (Int.toNat 1) IntKind.i64.bits)) = x / 2 := by
  rw [show (2 : Int) ^ (min (Int.toNat 1) IntKind.i64.bits) = 2 from rfl, Int.fdiv_eq_ediv_of_nonneg _ (by omega)]
set_option maxHeartbeats 1000000 in
theorem cright_z (E : Nat → Addr) (c : Int × Int × Int) : Does (Gm E) 104 (Sp0 [.agg [.int .i64 c.1, .int .i64 c.2.1, .int .i64 c.2.2]] [] 0 (.bl (okC c))) := by
  refine fn_intro (gmOk E) 36 0 [] Tryd.func104 rfl rfl rfl rfl rfl ?_
  repeat' first | (intro h; first | (exfalso; omega; done) | skip) | (refine And.intro ?_ ?_) | exact True.intro | (refine @Exists.intro Unit _ () ?_) | (refine @Exists.intro (_ = _) _ rfl ?_)
  all_goals first | omega | exact (okC_ff ‹_›).symm | exact okC_dc ‹_› Iff.rfl | (have q := pw (d := c.1) (by omega); have q2 := pow_bd (d := c.1) (by omega); omega)

set_option maxHeartbeats 1000000 in
theorem up_ok (E : Nat → Addr) (c : Int × Int × Int) (h : okC c = true ∧ ¬ c.1 = 0) : Does (Gm E) 94 (Sp0 [.agg [.int .i64 c.1, .int .i64 c.2.1, .int .i64 c.2.2]] [] 0 (.tup [.agg [.int .i64 (upC c).1, .int .i64 (upC c).2.1, .int .i64 (upC c).2.2], .tt])) := by
  obtain ⟨h1, h2⟩ := h
  refine fn_intro (gmOk E) 23 0 [] Tryd.func94 rfl rfl rfl rfl rfl ?_
  repeat' first | (intro h; first | (exfalso; omega; done) | (exfalso; exact h.elim (fun q => by rw [h1] at q; cases q) h2; done) | skip) | (refine And.intro ?_ ?_) | exact True.intro | (refine @Exists.intro Unit _ () ?_) | (refine @Exists.intro (_ = _) _ rfl ?_) | (change CallGoal _ _ _ _ _ _; first | (refine call0 (cright_z E c) [] rfl True.intro rfl ?_))
  all_goals first | rfl | omega | exact (upC_z h1).1.symm | exact (upC_z h1).2.symm | exact (upC_z h1).1 | exact (upC_z h1).2 | (have q := okC_iff.1 h1; have q1 := (upC_z h1).1; have q2 := (upC_z h1).2; have q3 := pow_bd (d := c.1) (by omega); omega)

set_option maxHeartbeats 1000000 in
theorem up_no (E : Nat → Addr) (c : Int × Int × Int) (h : c.1 = 0) : Does (Gm E) 94 (Sp0 [.agg [.int .i64 c.1, .int .i64 c.2.1, .int .i64 c.2.2]] [] 0 (.tup [.agg [.int .i64 0, .int .i64 0, .int .i64 0], .ff])) := by
  rename c.1 = 0 => h1
  refine fn_intro (gmOk E) 23 0 [] Tryd.func94 rfl rfl rfl rfl rfl ?_
  repeat' first | (intro h; first | (exfalso; omega; done) | (exfalso; exact h (.inr h1); done) | skip) | (refine And.intro ?_ ?_) | exact True.intro | (refine @Exists.intro Unit _ () ?_) | (refine @Exists.intro (_ = _) _ rfl ?_) | (change CallGoal _ _ _ _ _ _; first | (refine call0 (cright_z E c) [] rfl True.intro rfl ?_))
  all_goals first | rfl | omega

set_option maxHeartbeats 1000000 in
theorem side_z (E : Nat → Addr) (d : Int) (h : 0 ≤ d ∧ d ≤ 8) : Does (Gm E) 93 (Sp0 [.int .i64 d] [] 0 (.int .i64 (side d))) := by
  refine fn_intro (gmOk E) 5 0 [] Tryd.func93 rfl rfl rfl rfl rfl ?_
  repeat' first | (intro h; first | (exfalso; omega; done) | skip) | (refine And.intro ?_ ?_) | exact True.intro | (refine @Exists.intro Unit _ () ?_) | (refine @Exists.intro (_ = _) _ rfl ?_)
  all_goals first | rfl | omega | exact sd h | exact (sd h).symm

set_option maxHeartbeats 1000000 in
theorem world_z (E : Nat → Addr)  : Does (Gm E) 92 (Sp0 [] [] 0 (.agg [.int .i64 ((-2097152, -2097152, 2097152, 2097152) : Int × Int × Int × Int).1, .int .i64 ((-2097152, -2097152, 2097152, 2097152) : Int × Int × Int × Int).2.1, .int .i64 ((-2097152, -2097152, 2097152, 2097152) : Int × Int × Int × Int).2.2.1, .int .i64 ((-2097152, -2097152, 2097152, 2097152) : Int × Int × Int × Int).2.2.2])) := by
  refine fn_intro (gmOk E) 2 0 [] Tryd.func92 rfl rfl rfl rfl rfl ?_
  repeat' first | (intro h; first | (exfalso; omega; done) | skip) | (refine And.intro ?_ ?_) | exact True.intro | (refine @Exists.intro Unit _ () ?_) | (refine @Exists.intro (_ = _) _ rfl ?_)
  all_goals first | rfl | omega

set_option maxHeartbeats 1000000 in
theorem has_z (E : Nat → Addr) (b : Int × Int × Int × Int) (p : Int × Int) : Does (Gm E) 108 (Sp0 [.agg [.int .i64 b.1, .int .i64 b.2.1, .int .i64 b.2.2.1, .int .i64 b.2.2.2], .agg [.int .i64 p.1, .int .i64 p.2]] [] 0 (.bl (boxHas b.1 b.2.1 b.2.2.1 b.2.2.2 p.1 p.2))) := by
  refine fn_intro (gmOk E) 35 0 [] Tryd.func108 rfl rfl rfl rfl rfl ?_
  repeat' first | (intro h; first | (exfalso; omega; done) | skip) | (refine And.intro ?_ ?_) | exact True.intro | (refine @Exists.intro Unit _ () ?_) | (refine @Exists.intro (_ = _) _ rfl ?_) | (change CallGoal _ _ _ _ _ _; first | (refine call0 (right_z E b) [] rfl True.intro rfl ?_))
  all_goals first | rfl | omega | (unfold boxHas; rw [Bool.eq_iff_iff, Bool.and_eq_true, right_iff, decide_eq_true_iff, decide_eq_true_iff]; exact ⟨fun q => ⟨q.1.1.1.1, q.1.1.1.2, q.1.1.2, q.1.2, q.2⟩, fun q => ⟨⟨⟨⟨q.1, q.2.1⟩, q.2.2.1⟩, q.2.2.2.1⟩, q.2.2.2.2⟩⟩)

set_option maxHeartbeats 1000000 in
theorem centre_ok (E : Nat → Addr) (b : Int × Int × Int × Int) (h : rightP b) : Does (Gm E) 90 (Sp0 [.agg [.int .i64 b.1, .int .i64 b.2.1, .int .i64 b.2.2.1, .int .i64 b.2.2.2]] [] 0 (.tup [.agg [.int .i64 ((b.1 + b.2.2.1) / 2), .int .i64 ((b.2.1 + b.2.2.2) / 2)], .nili])) := by
  rename rightP b => h1
  refine fn_intro (gmOk E) 22 0 [] Tryd.func90 rfl rfl rfl rfl rfl ?_
  repeat' first | (intro h; first | (exfalso; omega; done) | (exfalso; exact h h1; done) | skip) | (refine And.intro ?_ ?_) | exact True.intro | (refine @Exists.intro Unit _ () ?_) | (refine @Exists.intro (_ = _) _ rfl ?_) | (change CallGoal _ _ _ _ _ _; first | (refine call0 (right_z E b) [] rfl True.intro rfl ?_))
  all_goals first | rfl | omega | exact half | exact half.symm | (unfold rightP reachP at h1; omega)

set_option maxHeartbeats 1000000 in
theorem centre_no (E : Nat → Addr) (b : Int × Int × Int × Int) (h : ¬ rightP b) : Does (Gm E) 90 (Sp0 [.agg [.int .i64 b.1, .int .i64 b.2.1, .int .i64 b.2.2.1, .int .i64 b.2.2.2]] [] 0 (.tup [.agg [.int .i64 0, .int .i64 0], .err 0])) := by
  rename ¬ rightP b => h1
  refine fn_intro (gmOk E) 22 0 [] Tryd.func90 rfl rfl rfl rfl rfl ?_
  repeat' first | (intro h; first | (exfalso; omega; done) | (exfalso; first | exact h1 h | exact h1 (Classical.not_not.1 h); done) | skip) | (refine And.intro ?_ ?_) | exact True.intro | (refine @Exists.intro Unit _ () ?_) | (refine @Exists.intro (_ = _) _ rfl ?_) | (change DrawGoal _ _ _ _ _ _; first | (change DrawGoal _ _ _ [_, _, _, _] _ _; refine draw_tree (gmOk E) [0, 1] (.leaf [(0, true), (1, true), (2, false), (3, true)]) (by kernel_rfl) ?_)) | (change CallGoal _ _ _ _ _ _; first | (refine call0 (right_z E b) [] rfl True.intro rfl ?_))
  all_goals first | rfl | omega

end Go.Proofs.YtpojafdllcioiaaDoor

namespace Go.Proofs.YtpojafdllcioiaaDoor
open Go.Zz Go.Px
open Go.Qd (okC okC_iff upC cellB okB okC_cell chain cnt1 cntL)
set_option linter.unusedVariables false
set_option linter.unusedSectionVars false
set_option linter.unusedSimpArgs false
set_option maxRecDepth 10000
theorem ins1 {a b : Int × Int × Int × Int} (h : rightP a) (h1 : boxHas b.1 b.2.1 b.2.2.1 b.2.2.2 a.1 a.2.1 = true) : boxHas b.1 b.2.1 b.2.2.1 b.2.2.2 a.2.2.1 a.2.2.2 = boxInside a.1 a.2.1 a.2.2.1 a.2.2.2 b.1 b.2.1 b.2.2.1 b.2.2.2 := by
  rw [Bool.eq_iff_iff]
  have h := right_iff.2 h
  simp only [boxInside, boxHas, Bool.and_eq_true, decide_eq_true_eq] at *
  exact ⟨fun q => ⟨⟨h, q.1⟩, by omega⟩, fun q => ⟨q.1.2, by have := (boxRight_iff.1 h); omega⟩⟩
theorem ins2 {a b : Int × Int × Int × Int} (h : rightP a) (h1 : ¬ boxHas b.1 b.2.1 b.2.2.1 b.2.2.2 a.1 a.2.1 = true) : false = boxInside a.1 a.2.1 a.2.2.1 a.2.2.2 b.1 b.2.1 b.2.2.1 b.2.2.2 := by
  cases e : boxInside a.1 a.2.1 a.2.2.1 a.2.2.2 b.1 b.2.1 b.2.2.1 b.2.2.2 with
  | false => rfl
  | true =>
    have h := right_iff.2 h
    simp only [boxInside, boxHas, Bool.and_eq_true, decide_eq_true_eq] at *
    exact absurd ⟨e.1.2, by have := (boxRight_iff.1 h); omega⟩ h1
theorem ins3 {a b : Int × Int × Int × Int} (h : ¬ rightP a) : false = boxInside a.1 a.2.1 a.2.2.1 a.2.2.2 b.1 b.2.1 b.2.2.1 b.2.2.2 := by
  cases e : boxInside a.1 a.2.1 a.2.2.1 a.2.2.2 b.1 b.2.1 b.2.2.1 b.2.2.2 with
  | false => rfl
  | true =>
    simp only [boxInside, Bool.and_eq_true, decide_eq_true_eq] at e
    exact absurd (right_iff.1 e.1.1) h
theorem quo_bd {n d : Int} (hd : 0 ≤ d ∧ d ≤ 8) (hn : -2097152 ≤ n ∧ n ≤ 2097152) : (n + 2097152).tdiv (side d) = (n + 2097152) / side d ∧ 0 ≤ (n + 2097152) / side d ∧ (n + 2097152) / side d ≤ 4194304 := by
  have hs := side_bd hd
  refine ⟨Int.tdiv_eq_ediv_of_nonneg (by omega), Int.ediv_nonneg (by omega) (by omega), ?_⟩
  have := Int.ediv_le_self (a := n + 2097152) (side d) (by omega)
  omega
theorem col_min {n d : Int} (hd : 0 ≤ d ∧ d ≤ 8) (hn : -2097152 ≤ n ∧ n ≤ 2097152) : min ((n + 2097152).tdiv (side d)) (1 * 2 ^ (min d.toNat IntKind.i64.bits) - 1) = colOf n d := by
  rw [(quo_bd hd hn).1, pw hd]
  unfold colOf
  rw [Int.min_def]
  split <;> split <;> omega
theorem dep_done {b : Int × Int × Int × Int} {z : Int} (h : okB b = true) (hz : 0 ≤ z ∧ z ≤ 8 ∧ z ≤ depthOf (bsize b.1 b.2.1 b.2.2.1 b.2.2.2)) (hn : ¬ z < 8 ∨ ¬ max (b.2.2.1 - b.1) (b.2.2.2 - b.2.1) ≤ side (z + 1)) : depthOf (bsize b.1 b.2.1 b.2.2.1 b.2.2.2) = z := by
  have h0 := Bool.and_eq_true_iff.1 h
  have h4 := inWorld_iff.1 h0.2
  have h5 := bsize_spec b.1 b.2.1 b.2.2.1 b.2.2.2
  refine depthOf_done (by omega) ⟨hz.1, hz.2.1⟩ hz.2.2 fun q => ?_
  rw [Int.max_def] at hn
  rcases hn with hn | hn
  · exact hn q.1
  · split at hn <;> omega
theorem dep_more {b : Int × Int × Int × Int} {z : Int} (h : okB b = true) (hz : 0 ≤ z) (h8 : z < 8) (hn : max (b.2.2.1 - b.1) (b.2.2.2 - b.2.1) ≤ side (z + 1)) : z + 1 ≤ depthOf (bsize b.1 b.2.1 b.2.2.1 b.2.2.2) := by
  have h0 := Bool.and_eq_true_iff.1 h
  have h4 := inWorld_iff.1 h0.2
  have h5 := bsize_spec b.1 b.2.1 b.2.2.1 b.2.2.2
  refine (depthOf_iff (by omega) ⟨by omega, by omega⟩).1 ?_
  rw [Int.max_def] at hn
  split at hn <;> omega
set_option maxHeartbeats 1000000 in
theorem inside_z (E : Nat → Addr) (a b : Int × Int × Int × Int) : Does (Gm E) 91 (Sp0 [.agg [.int .i64 a.1, .int .i64 a.2.1, .int .i64 a.2.2.1, .int .i64 a.2.2.2], .agg [.int .i64 b.1, .int .i64 b.2.1, .int .i64 b.2.2.1, .int .i64 b.2.2.2]] [] 0 (.bl (boxInside a.1 a.2.1 a.2.2.1 a.2.2.2 b.1 b.2.1 b.2.2.1 b.2.2.2))) := by
  refine fn_intro (gmOk E) 24 0 [] Tryd.func91 rfl rfl rfl rfl rfl ?_
  repeat' first | (intro h; first | (exfalso; omega; done) | skip) | (refine And.intro ?_ ?_) | exact True.intro | (refine @Exists.intro Unit _ () ?_) | (refine @Exists.intro (_ = _) _ rfl ?_) | (change CallGoal _ _ _ _ _ _; first | (refine call0 (corners_z E a) [] rfl True.intro rfl ?_) | (refine call0 (right_z E a) [] rfl True.intro rfl ?_) | (refine call0 (has_z E b (a.1, a.2.1)) [] rfl True.intro rfl ?_) | (refine call0 (has_z E b (a.2.2.1, a.2.2.2)) [] rfl True.intro rfl ?_))
  all_goals first | rfl | omega | exact ins1 ‹_› ‹_› | exact ins2 ‹_› ‹_› | exact ins3 ‹_› | (unfold boxInside boxHas; rw [Bool.eq_iff_iff, decide_eq_true_iff, ← right_iff]; simp only [boxRight, Bool.and_eq_true, decide_eq_true_eq]; omega)

set_option maxHeartbeats 1000000 in
theorem of_form (E : Nat → Addr) (b : Int × Int × Int × Int) (h : ¬ rightP b) : Does (Gm E) 62 (Sp0 [.agg [.int .i64 b.1, .int .i64 b.2.1, .int .i64 b.2.2.1, .int .i64 b.2.2.2]] [] 0 (.tup [.agg [.int .i64 0, .int .i64 0, .int .i64 0], .err 0])) := by
  rename ¬ rightP b => h1
  refine fn_intro (gmOk E) 76 0 [] Tryd.func62 rfl rfl rfl rfl rfl ?_
  repeat' first | (intro h; first | (exfalso; omega; done) | skip) | (refine And.intro ?_ ?_) | exact True.intro | (refine @Exists.intro Unit _ () ?_) | (refine @Exists.intro (_ = _) _ rfl ?_) | (change DrawGoal _ _ _ _ _ _; first | (change DrawGoal _ _ _ [_, _, _, _] _ _; refine draw_tree (gmOk E) [0, 1, 2] (.leaf [(0, true), (1, true), (2, false), (3, true)]) (by kernel_rfl) ?_)) | (change CallGoal _ _ _ _ _ _; first | (refine call0 (centre_no E b h1) [] rfl True.intro rfl ?_))
  all_goals first | rfl | omega

set_option maxHeartbeats 1000000 in
theorem of_range (E : Nat → Addr) (b : Int × Int × Int × Int) (h : rightP b ∧ inWorld b.1 b.2.1 b.2.2.1 b.2.2.2 = false) : Does (Gm E) 62 (Sp0 [.agg [.int .i64 b.1, .int .i64 b.2.1, .int .i64 b.2.2.1, .int .i64 b.2.2.2]] [] 0 (.tup [.agg [.int .i64 0, .int .i64 0, .int .i64 0], .err 1])) := by
  obtain ⟨h1, h2⟩ := h; have h3 := inside_world (right_iff.2 h1)
  refine fn_intro (gmOk E) 76 0 [] Tryd.func62 rfl rfl rfl rfl rfl ?_
  repeat' first | (intro h; first | (exfalso; omega; done) | (exfalso; first | (rw [h3, h2] at h; cases h); done) | skip) | (refine And.intro ?_ ?_) | exact True.intro | (refine @Exists.intro Unit _ () ?_) | (refine @Exists.intro (_ = _) _ rfl ?_) | (change DrawGoal _ _ _ _ _ _; first | (change DrawGoal _ _ _ [_, _, _, _, _] _ _; refine draw_tree (gmOk E) [0, 1, 2] (.leaf [(0, true), (1, false), (2, false), (3, true), (4, true)]) (by kernel_rfl) ?_) | (change DrawGoal _ _ _ [_, _, _, _] _ _; refine draw_tree (gmOk E) [0, 1, 2] (.leaf [(0, true), (1, true), (2, false), (3, true)]) (by kernel_rfl) ?_)) | (change CallGoal _ _ _ _ _ _; first | (refine call0 (centre_ok E b h1) [] rfl True.intro rfl ?_) | (refine call0 (world_z E) [] rfl True.intro rfl ?_) | (refine call0 (inside_z E b (-2097152, -2097152, 2097152, 2097152)) [] rfl True.intro rfl ?_))
  all_goals first | rfl | omega

set_option maxHeartbeats 2000000 in
theorem of_ok (E : Nat → Addr) (b : Int × Int × Int × Int) (h : okB b = true) : Does (Gm E) 62 (Sp0 [.agg [.int .i64 b.1, .int .i64 b.2.1, .int .i64 b.2.2.1, .int .i64 b.2.2.2]] [] 0 (.tup [.agg [.int .i64 (cellB b).1, .int .i64 (cellB b).2.1, .int .i64 (cellB b).2.2], .nili])) := by
  have h0 := Bool.and_eq_true_iff.1 h; have h1 := right_iff.1 h0.1; have h2 := h0.2; have h3 := inside_world h0.1; have h4 := inWorld_iff.1 h2; have h5 := bsize_spec b.1 b.2.1 b.2.2.1 b.2.2.2; rename okB b = true => hk
  refine fn_intro (gmOk E) 76 0 [] Tryd.func62 rfl rfl rfl rfl rfl ?_
  repeat' first | (change DrawGoal _ _ _ _ _ _; first | (change DrawGoal _ _ _ [_, _, _, _, _, _, _, _, _, _, _] _ _; refine draw_rule3 (gmOk E) [(0, true), (1, true), (2, true), (3, true), (4, true), (7, true), (5, false), (6, true), (8, true)] [0, 1, 2, 3, 4, 5, 6, 7, 8] [0, 1, 2, 3] [] [(9, true), (10, false)] (by kernel_rfl) ?_)) | (intro h; first | (exfalso; omega; done) | (exfalso; first | (rw [h3, h2] at h; cases h); done) | skip) | (refine And.intro ?_ ?_) | exact True.intro | (refine @Exists.intro Unit _ () ?_) | (refine @Exists.intro (_ = _) _ rfl ?_) | (change LoopGoal _ _ _ _ _ _; refine loop_at 7 (gmOk E) rfl [] (X := Int) (fun z => []) (fun z => [(3, .cells 82 [.int .i64 z, .int .i64 0, .int .i64 0])]) [] (fun z => 0 ≤ z ∧ z ≤ 8 ∧ z ≤ depthOf (bsize b.1 b.2.1 b.2.2.1 b.2.2.2)) (fun z => 8 - z.toNat) ⟨0, ?_⟩ (fun z hZ => ?_)) | (change @Exists (Int) (fun _ => updK _ _ _ _ _ _); refine @Exists.intro (Int) _ ((?_)) ?_; rotate_left 1) | (change DrawGoal _ _ _ _ _ _; first | (change DrawGoal _ _ _ [_, _, _, _, _] _ _; refine draw_tree (gmOk E) [0, 1, 2] (.leaf [(0, true), (1, false), (2, false), (3, true), (4, true)]) (by kernel_rfl) ?_) | (change DrawGoal _ _ _ [_, _, _, _, _, _, _, _, _, _, _, _, _, _, _, _, _, _, _, _, _] _ _; refine draw_tree (gmOk E) [0, 1, 2, 3] (.leaf [(0, true), (1, true), (2, true), (3, true), (4, true), (5, true), (6, true), (8, true), (9, true), (10, true), (11, true), (12, true), (13, true), (14, true), (15, true), (16, true), (17, true), (18, true), (7, false), (19, true), (20, true)]) (by kernel_rfl) ?_)) | (change CallGoal _ _ _ _ _ _; first | (refine call0 (centre_ok E b h1) [] rfl True.intro rfl ?_) | (refine call0 (world_z E) [] rfl True.intro rfl ?_) | (refine call0 (inside_z E b (-2097152, -2097152, 2097152, 2097152)) [] rfl True.intro rfl ?_) | (refine call0 (side_z E _ ⟨?_, ?_⟩) [] rfl True.intro rfl ?_))
  all_goals first
| (dsimp only; first | rfl | omega)
| rfl
| omega
| exact (depthOf_bd _).1
| exact dep_more hk hZ.1 ‹z < 8› h
| (have q := side_bd (d := z) (by omega); omega)
| (have q := pw (d := z) (by omega); have q2 := pow_bd (d := z) (by omega); omega)
| (have q := quo_bd (d := z) (n := (b.1 + b.2.2.1) / 2) (by omega) (by omega); have q2 := quo_bd (d := z) (n := (b.2.1 + b.2.2.2) / 2) (by omega) (by omega); omega)
| (show z = depthOf _; rw [dep_done hk hZ (by first | exact .inl ‹¬ z < 8› | exact .inr ‹¬ _ ≤ side _›)])
| (rw [col_min (by omega) (by omega)]; show colOf _ z = colOf _ (depthOf _); rw [dep_done hk hZ (by first | exact .inl ‹¬ z < 8› | exact .inr ‹¬ _ ≤ side _›)])

end Go.Proofs.YtpojafdllcioiaaDoor

namespace Go.Proofs.YtpojafdllcioiaaDoor
open Go.Zz Go.Px
open Go.Qd (okC okC_iff upC cellB okB okC_cell chain cnt1 cntL)
set_option linter.unusedVariables false
set_option linter.unusedSectionVars false
set_option linter.unusedSimpArgs false
set_option maxRecDepth 10000
theorem keyC : KeyT Tryd.prog 82 (Enc.ag (Zz.encP Zz.encI (Zz.encP Zz.encI Zz.encI))).val := KeyT.wide (by rw [Tryd.underlying82]) (fun w x y => by
    have h := eqVal_sound (P := Tryd.prog) (w := w) Op.maxDepth 82 _ _ _ (eqv82 x.1 x.2.1 x.2.2 y.1 y.2.1 y.2.2)
    have e : leavesB [.int .i64 x.1, .int .i64 x.2.1, .int .i64 x.2.2] [.int .i64 y.1, .int .i64 y.2.1, .int .i64 y.2.2] = decide (x = y) := by
      obtain ⟨a1, a2, a3⟩ := x; obtain ⟨b1, b2, b3⟩ := y
      rw [Bool.eq_iff_iff]
      simp [leavesB, leafB]
    rw [e] at h
    exact h) (fun w em x => by kernel_rfl) (fun w x => by simp [Instr.keyThatStays, Instr.sameBits, Enc.ag, Zz.encP, Zz.encI])
theorem keyH : KeyT Tryd.prog 29 (Enc.ag (Zz.encP Zz.encI Zz.encI)).val := KeyT.wide (by rw [Tryd.underlying29]) (fun w x y => by
    have h := eqVal_sound (P := Tryd.prog) (w := w) Op.maxDepth 29 _ _ _ (eqv29 x.1 x.2 y.1 y.2)
    have e : leavesB [.int .i64 x.1, .int .i64 x.2] [.int .i64 y.1, .int .i64 y.2] = decide (x = y) := by
      obtain ⟨a1, a2⟩ := x; obtain ⟨b1, b2⟩ := y
      rw [Bool.eq_iff_iff]
      simp [leavesB, leafB]
    rw [e] at h
    exact h) (fun w em x => by kernel_rfl) (fun w x => by simp [Instr.keyThatStays, Instr.sameBits, Enc.ag, Zz.encP, Zz.encI])
abbrev NV := Go.Qd.NV
abbrev NM := Go.Qd.NM
abbrev CM := List ((Int × Int) × Int × Int × Int)
theorem mapN : MapTyO Tryd.prog 118 82 114 (Enc.ag (Zz.encP Zz.encI (Zz.encP Zz.encI Zz.encI))) := ⟨Tryd.underlying118, keyC, by kernel_rfl⟩
theorem mapB : MapTy Tryd.prog 115 29 27 (Enc.ag (Zz.encP Zz.encI Zz.encI)) (Enc.ag (Zz.encP Zz.encI (Zz.encP Zz.encI (Zz.encP Zz.encI Zz.encI)))) (0, 0, 0, 0) := ⟨Tryd.underlying115, keyH, by kernel_rfl⟩
theorem mapC : MapTy Tryd.prog 119 29 82 (Enc.ag (Zz.encP Zz.encI Zz.encI)) (Enc.ag (Zz.encP Zz.encI (Zz.encP Zz.encI Zz.encI))) (0, 0, 0) := ⟨Tryd.underlying119, keyH, by kernel_rfl⟩
/-- A node. -/
def ndT (v : NV) : Hp := [(0, .cells 117 [.mp 1, .int .i64 v.2]), (1, .pr (mapPr (Enc.ag (Zz.encP Zz.encI Zz.encI)) (Enc.ag (Zz.encP Zz.encI (Zz.encP Zz.encI (Zz.encP Zz.encI Zz.encI)))) v.1))]
theorem cnt_put {N : NM} {z : Int × Int × Int} {v : NV} {k : Int} (hv : Go.Px.getK N z = some v) (h : ¬ (v.2 + k = 0 ∧ 0 < z.1)) : Go.Px.putK N z (v.1, v.2 + k) = cnt1 k N z := by
  unfold cnt1; rw [hv]; simp only [Option.getD_some]; rw [if_neg h]
theorem cnt_del {N : NM} {z : Int × Int × Int} {v : NV} {k : Int} (hv : Go.Px.getK N z = some v) (h : v.2 + k = 0 ∧ 0 < z.1) : Go.Px.delK N z = cnt1 k N z := by
  unfold cnt1; rw [hv]; simp only [Option.getD_some]; rw [if_pos h]
theorem has_none {N : NM} {z : Int × Int × Int} (hv : hasK N z = false) : Go.Px.getK N z = none := Go.Qd.get_not (by rw [hv]; simp)
theorem put_two {N : NM} {z : Int × Int × Int} (hv : hasK N z = false) (u v : NV) : Go.Px.putK (Go.Px.putK N z u) z v = Go.Px.putK N z v := by
  have hn : ∀ p ∈ N, ¬ p.1 = z := fun p hp e => by rw [← Bool.not_eq_true] at hv; exact hv (hasK_iff.2 (List.mem_map.2 ⟨p, hp, e⟩))
  have e1 : ∀ w, Go.Px.putK N z w = N ++ [(z, w)] := fun w => by unfold Go.Px.putK; rw [hv]; rfl
  have h2 : hasK (N ++ [(z, u)]) z = true := by simp [hasK]
  rw [e1 u, e1 v]
  unfold Go.Px.putK
  rw [h2, if_pos rfl, List.map_append]
  congr 1
  · refine (List.map_congr_left fun p hp => if_neg (hn p hp)).trans (List.map_id _)
  · simp
theorem del_two {N : NM} {z : Int × Int × Int} (hv : hasK N z = false) (u : NV) : Go.Px.delK (Go.Px.putK N z u) z = Go.Px.delK N z := by
  have e1 : Go.Px.putK N z u = N ++ [(z, u)] := by unfold Go.Px.putK; rw [hv]; rfl
  rw [e1]; unfold Go.Px.delK; rw [List.filter_append]; simp
theorem cnt_new {N : NM} {z : Int × Int × Int} {k : Int} (hv : hasK N z = false) (h : ¬ ((0 : Int) + k = 0 ∧ 0 < z.1)) : Go.Px.putK (Go.Px.putK N z ([], 0)) z ([], 0 + k) = cnt1 k N z := by
  rw [put_two hv]; unfold cnt1; rw [has_none hv]; simp only [Option.getD_none]; rw [if_neg h]
theorem cnt_newdel {N : NM} {z : Int × Int × Int} {k : Int} (hv : hasK N z = false) (h : (0 : Int) + k = 0 ∧ 0 < z.1) : Go.Px.delK (Go.Px.putK N z ([], 0)) z = cnt1 k N z := by
  rw [del_two hv]; unfold cnt1; rw [has_none hv]; simp only [Option.getD_none]; rw [if_pos h]
theorem has_putK (N : NM) (z : Int × Int × Int) (v : NV) : hasK (Go.Px.putK N z v) z = true := by rw [Go.Qd.has_put]; simp
theorem get_hasK {N : NM} {z : Int × Int × Int} {v : NV} (h : Go.Px.getK N z = some v) : hasK N z = true := by rw [hasK_get, h]; rfl
/-- All counts are small. -/
structure CB (N : NM) (m : Int) : Prop where
  h : ∀ z v, Go.Px.getK N z = some v → -m ≤ v.2 ∧ v.2 ≤ m
theorem CB.cnt {N : NM} {m k : Int} (h : CB N m) (hm : 0 ≤ m) (hk : -1 ≤ k ∧ k ≤ 1) (hn : (N.map (·.1)).Nodup) (z : Int × Int × Int) : CB (cnt1 k N z) (m + 1) := by
  refine ⟨fun y v hv => ?_⟩
  have h0 : -m ≤ ((Go.Px.getK N z).getD ([], 0)).2 ∧ ((Go.Px.getK N z).getD ([], 0)).2 ≤ m := by
    cases hg : Go.Px.getK N z with
    | none => simp only [Option.getD_none]; omega
    | some u => exact h.h z u hg
  unfold cnt1 at hv
  split at hv
  · have hm2 := (Go.Qd.del_mem.1 ((Go.Qd.get_mem (delK_nd hn z)).1 hv)).1
    have := h.h y v ((Go.Qd.get_mem hn).2 hm2); omega
  · rw [getK_put] at hv
    split at hv
    · obtain rfl := Option.some.inj hv; dsimp only; omega
    · have := h.h y v hv; omega
theorem cnt_nd {N : NM} {k : Int} (hn : (N.map (·.1)).Nodup) (z : Int × Int × Int) : ((cnt1 k N z).map (·.1)).Nodup := by
  unfold cnt1; split
  · exact delK_nd hn z
  · exact putK_nd hn z _
/-- Where counting stands. -/
structure Cn (k : Int) (N0 : NM) (z0 : Int × Int × Int) (N : NM) (z : Int × Int × Int) (more : Bool) : Prop where
  go : more = true → okC z = true ∧ cntL k N0 (chain z0) = cntL k N (chain z) ∧ CB N (1000009 - z.1) ∧ (N.map (·.1)).Nodup
  no : more = false → N = cntL k N0 (chain z0)
theorem Cn.start {k : Int} {N : NM} {z : Int × Int × Int} (h : okC z = true) (hb : CB N 1000000) (hn : (N.map (·.1)).Nodup) : Cn k N z N z true :=
  ⟨fun _ => ⟨h, rfl, ⟨fun y v hv => by have := hb.h y v hv; have := Go.Qd.okC_iff.1 h; omega⟩, hn⟩, fun h => by cases h⟩
theorem Cn.up {k : Int} {N0 N N' : NM} {z0 z : Int × Int × Int} {m : Bool} (h : Cn k N0 z0 N z m) (hm : m = true) (hk : -1 ≤ k ∧ k ≤ 1) (h0 : ¬ z.1 = 0) (e : N' = cnt1 k N z) : Cn k N0 z0 N' (upC z) true := by
  obtain ⟨h1, h2, h3, h4⟩ := h.go hm
  subst e
  have hz := Go.Qd.okC_iff.1 h1
  refine ⟨fun _ => ⟨Go.Qd.okC_up h1 h0, ?_, ⟨fun y v hv => ?_⟩, cnt_nd h4 z⟩, fun h => by cases h⟩
  · rw [h2, Go.Qd.chain_step h1 h0]; rfl
  · have := (h3.cnt (by omega) hk h4 z).h y v hv
    have e : (upC z).1 = z.1 - 1 := rfl
    omega
theorem Cn.top {k : Int} {N0 N N' : NM} {z0 z y : Int × Int × Int} {m : Bool} (h : Cn k N0 z0 N z m) (hm : m = true) (h0 : z.1 = 0) (e : N' = cnt1 k N z) : Cn k N0 z0 N' y false := by
  obtain ⟨h1, h2, h3, h4⟩ := h.go hm
  subst e
  refine ⟨fun h => (by cases h), fun _ => ?_⟩
  rw [h2, Go.Qd.chain_zero h0]; rfl
set_option maxHeartbeats 2000000 in
theorem count_z (E : Nat → Addr) (N : NM) (C : CM) (z0 : Int × Int × Int) (k : Int) (h : okC z0 = true ∧ CB N 1000000 ∧ (N.map (·.1)).Nodup ∧ -1 ≤ k ∧ k ≤ 1) : Does (Gm E) 63 ⟨[.ptr 0 0, .agg [.int .i64 z0.1, .int .i64 z0.2.1, .int .i64 z0.2.2], .int .i64 k], [(0, .cells 121 [.mp 1, .mp 2]), (1, .pr (mObj (Enc.ag (Zz.encP Zz.encI (Zz.encP Zz.encI Zz.encI))) (fun v => grp (Gm E) (ndT v)) N)), (2, .pr (mapPr (Enc.ag (Zz.encP Zz.encI Zz.encI)) (Enc.ag (Zz.encP Zz.encI (Zz.encP Zz.encI Zz.encI))) C))], 3, 3, Unit, fun _ => True, fun _ => .tup [], fun _ => [(0, .cells 121 [.mp 1, .mp 2]), (1, .pr (mObj (Enc.ag (Zz.encP Zz.encI (Zz.encP Zz.encI Zz.encI))) (fun v => grp (Gm E) (ndT v)) (cntL k N (chain z0)))), (2, .pr (mapPr (Enc.ag (Zz.encP Zz.encI Zz.encI)) (Enc.ag (Zz.encP Zz.encI (Zz.encP Zz.encI Zz.encI))) C))]⟩ := by
  obtain ⟨h1, h2, h3, hk⟩ := h
  refine fn_intro (gmOk E) 58 3 [3] Tryd.func63 rfl rfl rfl rfl rfl ?_
  repeat' first | (change CallGoal _ _ _ _ _ _; first | (change CallGoal _ 94 _ _ _ _; first | (refine call0 (up_ok E x.1 ⟨(hI.go ‹x.2.1 = true›).1, hz⟩) [] rfl True.intro rfl ?_) | (refine call0 (up_no E x.1 hz) [] rfl True.intro rfl ?_) | ((fail_if_success (have _ := hz)); refine Or.elim (Classical.em (x.1.1 = 0)) (fun hz => ?_) (fun hz => ?_)))) | (change JoinGoal _ _ _ _ _ _ _ _; refine join_stop (gmOk E) ?_) | (change HereGoal _ _ _ _ _ _ _; first | (refine here_close (Γ0 := Gm E) (tm := ndT) rfl (_, _) [20, 21] 1 rfl (And.intro rfl (And.intro rfl True.intro)) rfl ?_ ?_) | (refine here_close (Γ0 := Gm E) (tm := ndT) rfl (_, _) [21, 20] 1 rfl (And.intro rfl (And.intro rfl True.intro)) rfl ?_ ?_) | (refine here_go (gmOk E) ?_)) | (intro h; first | (exfalso; omega; done) | skip) | (refine And.intro ?_ ?_) | exact True.intro | (refine @Exists.intro Unit _ () ?_) | (refine @Exists.intro (_ = _) _ rfl ?_) | (change OpGoal _ _ _ _ (.lookup 118 _ _ true) _; refine lookupO_rule mapN rfl 1 x.2.2 x.1 2 (fun _ => rfl) rfl rfl rfl ?_ ?_) | (change OpGoal _ _ _ _ (.makeMap 115 _) _; refine mapnew_rule (Enc.ag (Zz.encP Zz.encI Zz.encI)) (Enc.ag (Zz.encP Zz.encI (Zz.encP Zz.encI (Zz.encP Zz.encI Zz.encI)))) ?_) | (change OpGoal _ _ _ _ (.mapUpdate 118 _ _ _) _; refine enterO_rule mapN 1 x.2.2 x.1 ([], 0) rfl rfl rfl rfl rfl ?_ ?_) | (change OpGoal _ _ _ _ (.call { callee := .builtin .delete, args := _, argTypes := _ }) _; refine eraseH_rule mapN 1 _ x.1 rfl rfl rfl ?_) | (change LoopGoal _ _ _ _ _ _; refine loop_at 2 (gmOk E) rfl [3] (X := ((Int × Int × Int) × Bool × NM)) (fun x => [(6, .bl x.2.1)]) (fun x => [(3, .cells 82 [.int .i64 x.1.1, .int .i64 x.1.2.1, .int .i64 x.1.2.2]), (1, .pr (mObj (Enc.ag (Zz.encP Zz.encI (Zz.encP Zz.encI Zz.encI))) (fun v => grp (Gm E) (ndT v)) x.2.2))]) [] (fun x => Cn k N z0 x.2.2 x.1 x.2.1) (fun x => if x.2.1 then x.1.1.toNat + 1 else 0) ⟨(z0, true, N), ?_⟩ (fun x hI => ?_)) | (change @Exists (((Int × Int × Int) × Bool × NM)) (fun _ => updK _ _ _ _ _ _); refine @Exists.intro (((Int × Int × Int) × Bool × NM)) _ (((?_, ?_, ?_), ?_, ?_)) ?_; rotate_left 5) | (change DrawGoal _ _ _ _ _ _; first | (change DrawGoal _ _ _ [_, _, _, _, _, _, _, _, _, _, _] _ _; refine draw_tree (gmOk E) [0, 3] (.leaf [(0, true), (1, true), (2, true), (3, true), (4, true), (5, false), (6, true), (7, true), (8, true), (9, true), (10, true)]) (by kernel_rfl) ?_) | (change DrawGoal _ _ _ [_, _, _, _, _, _, _] _ _; refine draw_tree (gmOk E) [0, 3] (.leaf [(0, true), (1, true), (2, true), (3, true), (4, true), (5, true), (6, false)]) (by kernel_rfl) ?_) | (change DrawGoal _ _ _ [_, _, _, _, _, _] _ _; refine draw_tree (gmOk E) [0, 3] (.leaf [(0, true), (1, true), (2, true), (3, true), (4, true), (5, false)]) (by kernel_rfl) ?_))
  all_goals first
| (dsimp only; first | rfl | omega)
| rfl
| omega
| assumption
| exact Cn.start h1 h2 h3
| exact has_putK _ _ _
| exact get_hasK ‹_›
| exact congrArg (fun q => Ch.pr (mObj _ _ q)) (hI.no ‹_›)
| (have q := (hI.go ‹x.2.1 = true›).2.2.1.h _ _ ‹Go.Px.getK _ _ = some _›; have q2 := Go.Qd.okC_iff.1 (hI.go ‹x.2.1 = true›).1; omega)
| exact hI.top ‹x.2.1 = true› hz (cnt_put ‹_› ‹_›)
| exact hI.top ‹x.2.1 = true› hz (cnt_del ‹_› ‹_›)
| exact hI.top ‹x.2.1 = true› hz (cnt_new ‹_› ‹_›)
| exact hI.top ‹x.2.1 = true› hz (cnt_newdel ‹_› ‹_›)
| exact hI.up ‹x.2.1 = true› hk hz (cnt_put ‹_› ‹_›)
| exact hI.up ‹x.2.1 = true› hk hz (cnt_del ‹_› ‹_›)
| exact hI.up ‹x.2.1 = true› hk hz (cnt_new ‹_› ‹_›)
| exact hI.up ‹x.2.1 = true› hk hz (cnt_newdel ‹_› ‹_›)
| (have q := Go.Qd.okC_iff.1 (hI.go ‹x.2.1 = true›).1; rw [if_pos ‹x.2.1 = true›]; first | (rw [if_pos rfl]; show (x.1.1 - 1).toNat + 1 < _; omega) | (rw [if_neg (by simp)]; omega))

end Go.Proofs.YtpojafdllcioiaaDoor

namespace Go.Proofs.YtpojafdllcioiaaDoor
open Go.Zz Go.Px
open Go.Qd (okC okC_iff upC cellB okB okC_cell chain cnt1 cntL)
set_option linter.unusedVariables false
set_option linter.unusedSectionVars false
set_option linter.unusedSimpArgs false
set_option maxRecDepth 10000
set_option maxHeartbeats 1000000 in
theorem new_z (E : Nat → Addr)  : Does (Gm E) 36 ⟨[], [], 0, 3, Unit, fun _ => True, fun _ => .ptr 0 0, fun _ => [(0, .cells 121 [.mp 1, .mp 2]), (1, .pr (mObj (Enc.ag (Zz.encP Zz.encI (Zz.encP Zz.encI Zz.encI))) (fun v => grp (Gm E) (ndT v)) [((0, 0, 0), ([], 0))])), (2, .pr (mapPr (Enc.ag (Zz.encP Zz.encI Zz.encI)) (Enc.ag (Zz.encP Zz.encI (Zz.encP Zz.encI Zz.encI))) []))]⟩ := by
  refine fn_intro (gmOk E) 10 0 [] Tryd.func36 rfl rfl rfl rfl rfl ?_
  repeat' first | (intro h; first | (exfalso; omega; done) | skip) | (refine And.intro ?_ ?_) | exact True.intro | (refine @Exists.intro Unit _ () ?_) | (refine @Exists.intro (_ = _) _ rfl ?_) | (change OpGoal _ _ _ _ (.makeMap 118 _) _; refine mapnewO_rule (Enc.ag (Zz.encP Zz.encI (Zz.encP Zz.encI Zz.encI))) (fun v => grp (Gm E) (ndT v)) ?_) | (change OpGoal _ _ _ _ (.makeMap 115 _) _; refine mapnew_rule (Enc.ag (Zz.encP Zz.encI Zz.encI)) (Enc.ag (Zz.encP Zz.encI (Zz.encP Zz.encI (Zz.encP Zz.encI Zz.encI)))) ?_) | (change OpGoal _ _ _ _ (.insert _ _ _ _) _; refine insO_rule mapN 0 [] (0, 0, 0) ([], 0) rfl rfl rfl rfl rfl rfl ?_) | (change OpGoal _ _ _ _ (.makeMap 119 _) _; refine mapnew_close (Γ0 := Gm E) (tm := ndT) rfl (Enc.ag (Zz.encP Zz.encI Zz.encI)) (Enc.ag (Zz.encP Zz.encI (Zz.encP Zz.encI Zz.encI))) (_, _) [2, 1] 0 rfl (And.intro rfl (And.intro rfl True.intro)) rfl rfl ?_)
  all_goals first
| (dsimp only; first | rfl | omega)
| rfl
| omega
| assumption
| exact has_putK _ _ _
| exact get_hasK ‹_›

set_option maxHeartbeats 1000000 in
theorem drop_none (E : Nat → Addr) (N : NM) (C : CM) (hh : Int × Int) (h : hasK C hh = false) : Does (Gm E) 44 ⟨[.ptr 0 0, .agg [.int .i64 hh.1, .int .i64 hh.2]], [(0, .cells 121 [.mp 1, .mp 2]), (1, .pr (mObj (Enc.ag (Zz.encP Zz.encI (Zz.encP Zz.encI Zz.encI))) (fun v => grp (Gm E) (ndT v)) N)), (2, .pr (mapPr (Enc.ag (Zz.encP Zz.encI Zz.encI)) (Enc.ag (Zz.encP Zz.encI (Zz.encP Zz.encI Zz.encI))) C))], 3, 3, Unit, fun _ => True, fun _ => .err 3, fun _ => [(0, .cells 121 [.mp 1, .mp 2]), (1, .pr (mObj (Enc.ag (Zz.encP Zz.encI (Zz.encP Zz.encI Zz.encI))) (fun v => grp (Gm E) (ndT v)) N)), (2, .pr (mapPr (Enc.ag (Zz.encP Zz.encI Zz.encI)) (Enc.ag (Zz.encP Zz.encI (Zz.encP Zz.encI Zz.encI))) C))]⟩ := by
  refine fn_intro (gmOk E) 37 3 [] Tryd.func44 rfl rfl rfl rfl rfl ?_
  repeat' first | (intro h; first | (exfalso; omega; done) | skip) | (refine And.intro ?_ ?_) | exact True.intro | (refine @Exists.intro Unit _ () ?_) | (refine @Exists.intro (_ = _) _ rfl ?_) | (change OpGoal _ _ _ _ (.lookup 119 _ _ true) _; refine lookupN_rule mapC 2 _ hh rfl rfl rfl h ?_) | (change DrawGoal _ _ _ _ _ _; first | (change DrawGoal _ _ _ ({ dst := some 8, op := _, type := _, pos := _, after := _, guard := _ } :: _) _ _; refine draw_tree (gmOk E) [0, 3] (.alt [(0, true), (1, true), (2, true), (3, true), (4, true)] (.leaf [(5, false), (6, true), (7, true), (8, true), (9, false), (10, false), (11, true)]) (.leaf [(9, false), (5, false), (6, true), (7, true), (8, true), (10, false), (11, true)])) (by kernel_rfl) ?_))
  all_goals first
| (dsimp only; first | rfl | omega)
| rfl
| omega
| assumption
| exact has_putK _ _ _
| exact get_hasK ‹_›

theorem CB.put {N : NM} {m : Int} (h : CB N m) {z : Int × Int × Int} {v : NV} (hv : -m ≤ v.2 ∧ v.2 ≤ m) : CB (Go.Px.putK N z v) m := ⟨fun y u hu => by
  rw [getK_put] at hu
  split at hu
  · obtain rfl := Option.some.inj hu; exact hv
  · exact h.h y u hu⟩
set_option maxHeartbeats 2000000 in
theorem drop_some (E : Nat → Addr) (N : NM) (C : CM) (hh : Int × Int) (z0 : Int × Int × Int) (v : NV) (h : Go.Px.getK C hh = some z0 ∧ Go.Px.getK N z0 = some v ∧ okC z0 = true ∧ CB N 1000000 ∧ (N.map (·.1)).Nodup) : Does (Gm E) 44 ⟨[.ptr 0 0, .agg [.int .i64 hh.1, .int .i64 hh.2]], [(0, .cells 121 [.mp 1, .mp 2]), (1, .pr (mObj (Enc.ag (Zz.encP Zz.encI (Zz.encP Zz.encI Zz.encI))) (fun v => grp (Gm E) (ndT v)) N)), (2, .pr (mapPr (Enc.ag (Zz.encP Zz.encI Zz.encI)) (Enc.ag (Zz.encP Zz.encI (Zz.encP Zz.encI Zz.encI))) C))], 3, 3, Unit, fun _ => True, fun _ => .nili, fun _ => [(0, .cells 121 [.mp 1, .mp 2]), (1, .pr (mObj (Enc.ag (Zz.encP Zz.encI (Zz.encP Zz.encI Zz.encI))) (fun v => grp (Gm E) (ndT v)) (cntL (-1) (Go.Px.putK N z0 (Go.Px.delK v.1 hh, v.2)) (chain z0)))), (2, .pr (mapPr (Enc.ag (Zz.encP Zz.encI Zz.encI)) (Enc.ag (Zz.encP Zz.encI (Zz.encP Zz.encI Zz.encI))) (Go.Px.delK C hh)))]⟩ := by
  obtain ⟨h1, h2, h3, h4, h5⟩ := h
  refine fn_intro (gmOk E) 37 3 [5] Tryd.func44 rfl rfl rfl rfl rfl ?_
  repeat' first | (change CallGoal _ _ _ _ _ _; first | (change CallGoal _ 63 _ _ _ _; first | (refine call_rule (count_z E (Go.Px.putK N z0 (Go.Px.delK v.1 hh, v.2)) (Go.Px.delK C hh) z0 (-1) ⟨h3, h4.put (h4.h z0 v h2), putK_nd h5 _ _, by omega, by omega⟩) [0, 1, 2] rfl (And.intro rfl (And.intro rfl (And.intro rfl True.intro))) rfl (fun y1 hy1 => ?_)))) | (change JoinGoal _ _ _ _ _ _ _ _; refine join_stop (gmOk E) ?_) | (change HereGoal _ _ _ _ _ _ _; first | (refine here_close (Γ0 := Gm E) (tm := ndT) rfl (Go.Px.delK v.1 hh, v.2) [5, 6] 1 rfl (And.intro rfl (And.intro rfl True.intro)) rfl ?_ ?_) | (refine here_go (gmOk E) ?_)) | (change DrawGoal _ _ _ ({ dst := some 19, op := _, type := _, pos := _, after := _, guard := _ } :: _) _ _; refine draw_openV (Γ0 := Gm E) (tm := ndT) rfl 1 N z0 v 2 rfl rfl h2 ?_) | (intro h; first | (exfalso; omega; done) | skip) | (refine And.intro ?_ ?_) | exact True.intro | (refine @Exists.intro Unit _ () ?_) | (refine @Exists.intro (_ = _) _ rfl ?_) | (change OpGoal _ _ _ _ (.lookup 119 _ _ true) _; refine lookupY_rule mapC 2 _ hh z0 rfl rfl rfl h1 ?_) | (change OpGoal _ _ _ _ (.lookup 118 _ _ false) _; refine lookupH_rule mapN 1 _ _ rfl rfl rfl (get_hasK h2) ?_) | (change OpGoal _ _ _ _ (.call { callee := .builtin .delete, args := _, argTypes := _ }) _; first | (refine mapdel_rule mapB 6 _ hh rfl rfl rfl ?_) | (refine mapdel_rule mapC 2 _ hh rfl rfl rfl ?_)) | (change DrawGoal _ _ _ _ _ _; first | (change DrawGoal _ _ _ ({ dst := some 8, op := _, type := _, pos := _, after := _, guard := _ } :: _) _ _; refine draw_tree (gmOk E) [0, 3] (.alt [(0, true), (1, true), (2, true), (3, true), (4, true)] (.leaf [(5, false), (6, true), (7, true), (8, true), (9, false), (10, false), (11, true)]) (.leaf [(9, false), (5, false), (6, true), (7, true), (8, true), (10, false), (11, true)])) (by kernel_rfl) ?_) | (change DrawGoal _ _ _ ({ dst := some 19, op := _, type := _, pos := _, after := _, guard := _ } :: _) _ _; refine draw_tree (gmOk E) [0, 3, 4, 5] (.leaf [(0, true), (1, true), (2, true), (3, true), (4, true), (9, true), (5, false), (6, true), (7, true), (8, false), (10, false)]) (by kernel_rfl) ?_) | (change DrawGoal _ _ _ ({ dst := some 29, op := _, type := _, pos := _, after := _, guard := _ } :: _) _ _; refine draw_tree (gmOk E) [0, 3] (.leaf [(0, true), (1, true), (2, true), (3, true), (4, true), (5, false)]) (by kernel_rfl) ?_))
  all_goals first
| (dsimp only; first | rfl | omega)
| rfl
| omega
| assumption
| exact has_putK _ _ _
| exact get_hasK ‹_›

theorem cell_eq {a b : Int × Int × Int} (h : a.1 = b.1 ∧ a.2.1 = b.2.1 ∧ a.2.2 = b.2.2) : a = b := by obtain ⟨a1, a2, a3⟩ := a; obtain ⟨b1, b2, b3⟩ := b; simp only at h; rw [h.1, h.2.1, h.2.2]
set_option maxHeartbeats 3000000 in
theorem put_new (E : Nat → Addr) (N : NM) (C : CM) (hh : Int × Int) (b : Int × Int × Int × Int) (v : NV) (h : hasK C hh = false ∧ okB b = true ∧ CB N 1000000 ∧ (N.map (·.1)).Nodup ∧ Go.Px.getK (cntL 1 N (chain (cellB b))) (cellB b) = some v) : Does (Gm E) 37 ⟨[.ptr 0 0, .agg [.int .i64 hh.1, .int .i64 hh.2], .agg [.int .i64 b.1, .int .i64 b.2.1, .int .i64 b.2.2.1, .int .i64 b.2.2.2]], [(0, .cells 121 [.mp 1, .mp 2]), (1, .pr (mObj (Enc.ag (Zz.encP Zz.encI (Zz.encP Zz.encI Zz.encI))) (fun v => grp (Gm E) (ndT v)) N)), (2, .pr (mapPr (Enc.ag (Zz.encP Zz.encI Zz.encI)) (Enc.ag (Zz.encP Zz.encI (Zz.encP Zz.encI Zz.encI))) C))], 3, 3, Unit, fun _ => True, fun _ => .nili, fun _ => [(0, .cells 121 [.mp 1, .mp 2]), (1, .pr (mObj (Enc.ag (Zz.encP Zz.encI (Zz.encP Zz.encI Zz.encI))) (fun v => grp (Gm E) (ndT v)) (Go.Px.putK (cntL 1 N (chain (cellB b))) (cellB b) (Go.Px.putK v.1 hh b, v.2)))), (2, .pr (mapPr (Enc.ag (Zz.encP Zz.encI Zz.encI)) (Enc.ag (Zz.encP Zz.encI (Zz.encP Zz.encI Zz.encI))) (Go.Px.putK C hh (cellB b))))]⟩ := by
  obtain ⟨h1, hb, h4, h5, h6⟩ := h
  refine fn_intro (gmOk E) 58 3 [10] Tryd.func37 rfl rfl rfl rfl rfl ?_
  repeat' first | (change CallGoal _ _ _ _ _ _; first | (change CallGoal _ 62 _ _ _ _; first | (refine call0 (of_ok E b hb) [] rfl True.intro rfl ?_)) | (change CallGoal _ 44 _ _ _ _; first | (refine call_rule (drop_none E N C hh h1) [0, 1, 2] rfl (And.intro rfl (And.intro rfl (And.intro rfl True.intro))) rfl (fun y1 hy1 => ?_))) | (change CallGoal _ 63 _ _ _ _; first | (refine call_rule (count_z E N C (cellB b) 1 ⟨okC_cell hb, h4, h5, by omega, by omega⟩) [0, 1, 2] rfl (And.intro rfl (And.intro rfl (And.intro rfl True.intro))) rfl (fun y2 hy2 => ?_)))) | (change JoinGoal _ _ _ _ _ _ _ _; refine join_stop (gmOk E) ?_) | (change HereGoal _ _ _ _ _ _ _; first | (refine here_close (Γ0 := Gm E) (tm := ndT) rfl (Go.Px.putK v.1 hh b, v.2) [7, 8] 1 rfl (And.intro rfl (And.intro rfl True.intro)) rfl ?_ ?_) | (refine here_go (gmOk E) ?_)) | (change DrawGoal _ _ _ ({ dst := some 47, op := _, type := _, pos := _, after := _, guard := _ } :: _) _ _; refine draw_openV (Γ0 := Gm E) (tm := ndT) rfl 1 (cntL 1 N (chain (cellB b))) (cellB b) v 2 rfl rfl h6 ?_) | (intro h; first | (exfalso; omega; done) | skip) | (refine And.intro ?_ ?_) | exact True.intro | (refine @Exists.intro Unit _ () ?_) | (refine @Exists.intro (_ = _) _ rfl ?_) | (change OpGoal _ _ _ _ (.lookup 119 _ _ true) _; refine lookupN_rule mapC 2 _ hh rfl rfl rfl h1 ?_) | (change OpGoal _ _ _ _ (.lookup 118 _ _ false) _; refine lookupH_rule mapN 1 _ _ rfl rfl rfl (get_hasK h6) ?_) | (change OpGoal _ _ _ _ (.mapUpdate _ _ _ _) _; first | (refine mapset_rule mapC 2 _ hh (cellB b) rfl rfl rfl rfl ?_) | (refine mapset_rule mapB 8 _ hh b rfl rfl rfl rfl ?_)) | (change DrawGoal _ _ _ _ _ _; first | (change DrawGoal _ _ _ ({ dst := some 20, op := _, type := _, pos := _, after := _, guard := _ } :: _) _ _; refine draw_tree (gmOk E) [0, 3, 4, 5] (.alt [(0, true), (1, true), (2, true), (3, true), (4, true)] (.leaf [(5, false), (6, true), (7, true), (8, true), (9, false), (10, false), (11, true)]) (.leaf [(9, false), (5, false), (6, true), (7, true), (8, true), (10, false), (11, true)])) (by kernel_rfl) ?_) | (change DrawGoal _ _ _ ({ dst := some 41, op := _, type := _, pos := _, after := _, guard := _ } :: _) _ _; refine draw_tree (gmOk E) [0, 3, 4, 5, 6] (.leaf [(0, true), (1, true), (2, true), (3, true), (4, true), (5, true), (6, false)]) (by kernel_rfl) ?_) | (change DrawGoal _ _ _ ({ dst := some 47, op := _, type := _, pos := _, after := _, guard := _ } :: _) _ _; refine draw_tree (gmOk E) [0, 3, 4, 5, 6, 7] (.leaf [(0, true), (1, true), (2, true), (3, true), (4, true), (9, true), (10, true), (5, false), (6, true), (7, true), (8, false), (11, false)]) (by kernel_rfl) ?_))
  all_goals first
| (dsimp only; first | rfl | omega)
| rfl
| omega
| assumption
| exact has_putK _ _ _
| exact get_hasK ‹_›

set_option maxHeartbeats 3000000 in
theorem put_same (E : Nat → Addr) (N : NM) (C : CM) (hh : Int × Int) (b : Int × Int × Int × Int) (v : NV) (h : Go.Px.getK C hh = some (cellB b) ∧ okB b = true ∧ Go.Px.getK N (cellB b) = some v) : Does (Gm E) 37 ⟨[.ptr 0 0, .agg [.int .i64 hh.1, .int .i64 hh.2], .agg [.int .i64 b.1, .int .i64 b.2.1, .int .i64 b.2.2.1, .int .i64 b.2.2.2]], [(0, .cells 121 [.mp 1, .mp 2]), (1, .pr (mObj (Enc.ag (Zz.encP Zz.encI (Zz.encP Zz.encI Zz.encI))) (fun v => grp (Gm E) (ndT v)) N)), (2, .pr (mapPr (Enc.ag (Zz.encP Zz.encI Zz.encI)) (Enc.ag (Zz.encP Zz.encI (Zz.encP Zz.encI Zz.encI))) C))], 3, 3, Unit, fun _ => True, fun _ => .nili, fun _ => [(0, .cells 121 [.mp 1, .mp 2]), (1, .pr (mObj (Enc.ag (Zz.encP Zz.encI (Zz.encP Zz.encI Zz.encI))) (fun v => grp (Gm E) (ndT v)) (Go.Px.putK N (cellB b) (Go.Px.putK v.1 hh b, v.2)))), (2, .pr (mapPr (Enc.ag (Zz.encP Zz.encI Zz.encI)) (Enc.ag (Zz.encP Zz.encI (Zz.encP Zz.encI Zz.encI))) (Go.Px.putK C hh (cellB b))))]⟩ := by
  obtain ⟨h1, hb, h6⟩ := h
  refine fn_intro (gmOk E) 58 3 [10] Tryd.func37 rfl rfl rfl rfl rfl ?_
  repeat' first | (change CallGoal _ _ _ _ _ _; first | (change CallGoal _ 62 _ _ _ _; first | (refine call0 (of_ok E b hb) [] rfl True.intro rfl ?_))) | (change JoinGoal _ _ _ _ _ _ _ _; refine join_stop (gmOk E) ?_) | (change HereGoal _ _ _ _ _ _ _; first | (refine here_close (Γ0 := Gm E) (tm := ndT) rfl (Go.Px.putK v.1 hh b, v.2) [7, 8] 1 rfl (And.intro rfl (And.intro rfl True.intro)) rfl ?_ ?_) | (refine here_go (gmOk E) ?_)) | (change DrawGoal _ _ _ ({ dst := some 47, op := _, type := _, pos := _, after := _, guard := _ } :: _) _ _; refine draw_openV (Γ0 := Gm E) (tm := ndT) rfl 1 N (cellB b) v 2 rfl rfl h6 ?_) | (intro h; first | (exfalso; omega; done) | (exfalso; first | exact h ⟨rfl, rfl, rfl⟩ | exact h rfl; done) | skip) | (refine And.intro ?_ ?_) | exact True.intro | (refine @Exists.intro Unit _ () ?_) | (refine @Exists.intro (_ = _) _ rfl ?_) | (change OpGoal _ _ _ _ (.lookup 119 _ _ true) _; refine lookupY_rule mapC 2 _ hh (cellB b) rfl rfl rfl h1 ?_) | (change OpGoal _ _ _ _ (.lookup 118 _ _ false) _; refine lookupH_rule mapN 1 _ _ rfl rfl rfl (get_hasK h6) ?_) | (change OpGoal _ _ _ _ (.mapUpdate _ _ _ _) _; first | (refine mapset_rule mapC 2 _ hh (cellB b) rfl rfl rfl rfl ?_) | (refine mapset_rule mapB 8 _ hh b rfl rfl rfl rfl ?_)) | (change DrawGoal _ _ _ _ _ _; first | (change DrawGoal _ _ _ ({ dst := some 20, op := _, type := _, pos := _, after := _, guard := _ } :: _) _ _; refine draw_tree (gmOk E) [0, 3, 4, 5] (.alt [(0, true), (1, true), (2, true), (3, true), (4, true)] (.leaf [(5, false), (6, true), (7, true), (8, true), (9, false), (10, false), (11, true)]) (.leaf [(9, false), (5, false), (6, true), (7, true), (8, true), (10, false), (11, true)])) (by kernel_rfl) ?_) | (change DrawGoal _ _ _ ({ dst := some 41, op := _, type := _, pos := _, after := _, guard := _ } :: _) _ _; refine draw_tree (gmOk E) [0, 3, 4, 5, 6] (.leaf [(0, true), (1, true), (2, true), (3, true), (4, true), (5, true), (6, false)]) (by kernel_rfl) ?_) | (change DrawGoal _ _ _ ({ dst := some 47, op := _, type := _, pos := _, after := _, guard := _ } :: _) _ _; refine draw_tree (gmOk E) [0, 3, 4, 5, 6, 7] (.leaf [(0, true), (1, true), (2, true), (3, true), (4, true), (9, true), (10, true), (5, false), (6, true), (7, true), (8, false), (11, false)]) (by kernel_rfl) ?_))
  all_goals first
| (dsimp only; first | rfl | omega)
| rfl
| omega
| assumption
| exact has_putK _ _ _
| exact get_hasK ‹_›

set_option maxHeartbeats 3000000 in
theorem put_moved (E : Nat → Addr) (N : NM) (C : CM) (hh : Int × Int) (b : Int × Int × Int × Int) (z0 : Int × Int × Int) (u v : NV) (h : Go.Px.getK C hh = some z0 ∧ okB b = true ∧ okC z0 = true ∧ CB N 1000000 ∧ (N.map (·.1)).Nodup ∧ Go.Px.getK N z0 = some u ∧ CB (cntL (-1) (Go.Px.putK N z0 (Go.Px.delK u.1 hh, u.2)) (chain z0)) 1000000 ∧ ((cntL (-1) (Go.Px.putK N z0 (Go.Px.delK u.1 hh, u.2)) (chain z0)).map (·.1)).Nodup ∧ Go.Px.getK (cntL 1 (cntL (-1) (Go.Px.putK N z0 (Go.Px.delK u.1 hh, u.2)) (chain z0)) (chain (cellB b))) (cellB b) = some v ∧ ¬ z0 = cellB b) : Does (Gm E) 37 ⟨[.ptr 0 0, .agg [.int .i64 hh.1, .int .i64 hh.2], .agg [.int .i64 b.1, .int .i64 b.2.1, .int .i64 b.2.2.1, .int .i64 b.2.2.2]], [(0, .cells 121 [.mp 1, .mp 2]), (1, .pr (mObj (Enc.ag (Zz.encP Zz.encI (Zz.encP Zz.encI Zz.encI))) (fun v => grp (Gm E) (ndT v)) N)), (2, .pr (mapPr (Enc.ag (Zz.encP Zz.encI Zz.encI)) (Enc.ag (Zz.encP Zz.encI (Zz.encP Zz.encI Zz.encI))) C))], 3, 3, Unit, fun _ => True, fun _ => .nili, fun _ => [(0, .cells 121 [.mp 1, .mp 2]), (1, .pr (mObj (Enc.ag (Zz.encP Zz.encI (Zz.encP Zz.encI Zz.encI))) (fun v => grp (Gm E) (ndT v)) (Go.Px.putK (cntL 1 (cntL (-1) (Go.Px.putK N z0 (Go.Px.delK u.1 hh, u.2)) (chain z0)) (chain (cellB b))) (cellB b) (Go.Px.putK v.1 hh b, v.2)))), (2, .pr (mapPr (Enc.ag (Zz.encP Zz.encI Zz.encI)) (Enc.ag (Zz.encP Zz.encI (Zz.encP Zz.encI Zz.encI))) (Go.Px.putK (Go.Px.delK C hh) hh (cellB b))))]⟩ := by
  obtain ⟨h1, hb, h3, h4, h5, h7, h8, h9, h6, hne⟩ := h
  refine fn_intro (gmOk E) 58 3 [10] Tryd.func37 rfl rfl rfl rfl rfl ?_
  repeat' first | (change CallGoal _ _ _ _ _ _; first | (change CallGoal _ 62 _ _ _ _; first | (refine call0 (of_ok E b hb) [] rfl True.intro rfl ?_)) | (change CallGoal _ 44 _ _ _ _; first | (refine call_rule (drop_some E N C hh z0 u ⟨h1, h7, h3, h4, h5⟩) [0, 1, 2] rfl (And.intro rfl (And.intro rfl (And.intro rfl True.intro))) rfl (fun y1 hy1 => ?_))) | (change CallGoal _ 63 _ _ _ _; first | (refine call_rule (count_z E (cntL (-1) (Go.Px.putK N z0 (Go.Px.delK u.1 hh, u.2)) (chain z0)) (Go.Px.delK C hh) (cellB b) 1 ⟨okC_cell hb, h8, h9, by omega, by omega⟩) [0, 1, 2] rfl (And.intro rfl (And.intro rfl (And.intro rfl True.intro))) rfl (fun y2 hy2 => ?_)))) | (change JoinGoal _ _ _ _ _ _ _ _; refine join_stop (gmOk E) ?_) | (change HereGoal _ _ _ _ _ _ _; first | (refine here_close (Γ0 := Gm E) (tm := ndT) rfl (Go.Px.putK v.1 hh b, v.2) [7, 8] 1 rfl (And.intro rfl (And.intro rfl True.intro)) rfl ?_ ?_) | (refine here_go (gmOk E) ?_)) | (change DrawGoal _ _ _ ({ dst := some 47, op := _, type := _, pos := _, after := _, guard := _ } :: _) _ _; refine draw_openV (Γ0 := Gm E) (tm := ndT) rfl 1 (cntL 1 (cntL (-1) (Go.Px.putK N z0 (Go.Px.delK u.1 hh, u.2)) (chain z0)) (chain (cellB b))) (cellB b) v 2 rfl rfl h6 ?_) | (intro h; first | (exfalso; omega; done) | (exfalso; exact hne (cell_eq (Classical.not_not.1 h)); done) | skip) | (refine And.intro ?_ ?_) | exact True.intro | (refine @Exists.intro Unit _ () ?_) | (refine @Exists.intro (_ = _) _ rfl ?_) | (change OpGoal _ _ _ _ (.lookup 119 _ _ true) _; refine lookupY_rule mapC 2 _ hh z0 rfl rfl rfl h1 ?_) | (change OpGoal _ _ _ _ (.lookup 118 _ _ false) _; refine lookupH_rule mapN 1 _ _ rfl rfl rfl (get_hasK h6) ?_) | (change OpGoal _ _ _ _ (.mapUpdate _ _ _ _) _; first | (refine mapset_rule mapC 2 _ hh (cellB b) rfl rfl rfl rfl ?_) | (refine mapset_rule mapB 8 _ hh b rfl rfl rfl rfl ?_)) | (change DrawGoal _ _ _ _ _ _; first | (change DrawGoal _ _ _ ({ dst := some 20, op := _, type := _, pos := _, after := _, guard := _ } :: _) _ _; refine draw_tree (gmOk E) [0, 3, 4, 5] (.alt [(0, true), (1, true), (2, true), (3, true), (4, true)] (.leaf [(5, false), (6, true), (7, true), (8, true), (9, false), (10, false), (11, true)]) (.leaf [(9, false), (5, false), (6, true), (7, true), (8, true), (10, false), (11, true)])) (by kernel_rfl) ?_) | (change DrawGoal _ _ _ ({ dst := some 41, op := _, type := _, pos := _, after := _, guard := _ } :: _) _ _; refine draw_tree (gmOk E) [0, 3, 4, 5, 6] (.leaf [(0, true), (1, true), (2, true), (3, true), (4, true), (5, true), (6, false)]) (by kernel_rfl) ?_) | (change DrawGoal _ _ _ ({ dst := some 47, op := _, type := _, pos := _, after := _, guard := _ } :: _) _ _; refine draw_tree (gmOk E) [0, 3, 4, 5, 6, 7] (.leaf [(0, true), (1, true), (2, true), (3, true), (4, true), (9, true), (10, true), (5, false), (6, true), (7, true), (8, false), (11, false)]) (by kernel_rfl) ?_))
  all_goals first
| (dsimp only; first | rfl | omega)
| rfl
| omega
| assumption
| exact has_putK _ _ _
| exact get_hasK ‹_›

end Go.Proofs.YtpojafdllcioiaaDoor
