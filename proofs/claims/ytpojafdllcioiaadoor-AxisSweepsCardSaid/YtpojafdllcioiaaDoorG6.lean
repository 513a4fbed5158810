/- A part of the proof: texts put together. -/
import Derived.Test.YtpojafdllcioiaaDoorProg
import Derived.Test.YtpojafdllcioiaaDoorG4
import Derived.Test.YtpojafdllcioiaaDoorG5
set_option linter.unusedSectionVars false
set_option linter.unusedSimpArgs false
set_option linter.unusedVariables false
/- The types that the program's operations name, and what is known of them. -/
namespace Go.Proofs.YtpojafdllcioiaaDoor
open Go.Zz Go.Px
set_option linter.unusedVariables false
set_option maxRecDepth 10000
noncomputable def tb : List (Nat × TI) := [(3, ⟨1, 8, false, [.int .i64 0], .int .i64⟩),
 (29, ⟨2, 16, true, [.int .i64 0, .int .i64 0], .struct [(0, 3), (1, 3)]⟩),
 (82, ⟨3, 24, true, [.int .i64 0, .int .i64 0, .int .i64 0], .struct [(0, 3), (1, 3), (2, 3)]⟩),
 (41, ⟨4, 32, true, [.int .i64 0, .int .i64 0, .int .i64 0, .int .i64 0], .struct [(0, 29), (2, 29)]⟩),
 (34, ⟨1, 24, false, [.nils], .slice 41⟩),
 (27, ⟨4, 32, true, [.int .i64 0, .int .i64 0, .int .i64 0, .int .i64 0], .struct [(0, 3), (1, 3), (2, 3), (3, 3)]⟩),
 (79, ⟨1, 24, false, [.nils], .slice 29⟩),
 (76, ⟨1, 24, false, [.nils], .slice 82⟩),
 (31, ⟨1, 16, false, [.nili], .iface⟩),
 (57, ⟨1, 24, false, [.nils], .slice 64⟩),
 (64, ⟨4, 32, true, [.int .i64 0, .ff, .int .i64 0, .int .i64 0], .struct [(0, 3), (1, 4), (2, 29)]⟩),
 (97, ⟨2, 16, true, [.int .i64 0, .int .i64 0], .struct [(0, 3), (1, 3)]⟩),
 (51, ⟨4, 32, true, [.int .i64 0, .int .i64 0, .int .i64 0, .int .i64 0], .struct [(0, 29), (2, 3), (3, 3)]⟩),
 (22, ⟨1, 24, false, [.nils], .slice 27⟩),
 (37, ⟨1, 8, false, [.nilp], .ptr⟩),
 (93, ⟨2, 32, true, [.nilm, .nils], .struct [(0, 91), (1, 57)]⟩),
 (202, ⟨1, 8, false, [.int .u64 0], .int .u64⟩),
 (42, ⟨1, 8, false, [.int .u64 0], .int .u64⟩),
 (70, ⟨6, 48, true, [.int .i64 0, .int .i64 0, .int .i64 0, .int .i64 0, .int .i64 0, .int .i64 0], .struct [(0, 29), (2, 27)]⟩),
 (47, ⟨1, 24, false, [.nils], .slice 51⟩),
 (24, ⟨1, 8, false, [.nilp], .ptr⟩),
 (49, ⟨7, 56, true, (List.replicate 7 (.int .i64 0)), .struct [(0, 3), (1, 29), (3, 27)]⟩),
 (66, ⟨1, 24, false, [.nils], .slice 70⟩),
 (206, ⟨1, 8, false, [.nilp], .ptr⟩),
 (63, ⟨4, 32, true, [.int .i64 0, .ff, .int .i64 0, .int .i64 0], .struct [(0, 3), (1, 4), (2, 29)]⟩),
 (91, ⟨1, 8, false, [.nilm], .map 41 4⟩),
 (129, ⟨1, 8, false, [.nilf], .func⟩),
 (164, ⟨1, 8, false, [.nilf], .func⟩),
 (170, ⟨1, 8, false, [.nilf], .func⟩),
 (118, ⟨1, 8, false, [.nilm], .map 82 114⟩),
 (4, ⟨1, 1, false, [.ff], .bool⟩),
 (74, ⟨1, 8, false, [.nilp], .ptr⟩),
 (119, ⟨1, 8, false, [.nilm], .map 29 82⟩),
 (59, ⟨1, 24, false, [.nils], .slice 63⟩),
 (121, ⟨2, 16, true, [.nilm, .nilm], .struct [(0, 118), (1, 119)]⟩),
 (88, ⟨2, 16, true, [.nilp, .nilp], .struct [(0, 37), (1, 37)]⟩),
 (117, ⟨2, 16, true, [.nilm, .int .i64 0], .struct [(0, 115), (1, 3)]⟩),
 (115, ⟨1, 8, false, [.nilm], .map 29 27⟩),
 (161, ⟨1, 24, false, [.nils], .slice 3⟩),
 (199, ⟨1, 8, false, [.int .u64 0], .int .u64⟩),
 (167, ⟨12, 96, true, (List.replicate 12 (.int .i64 0)), .array 4 82⟩),
 (197, ⟨1, 4, false, [.int .u32 0], .int .u32⟩),
 (46, ⟨1, 24, false, [.nils], .slice 49⟩),
 (189, ⟨1, 8, false, [.int .i64 0], .int .i64⟩),
 (100, ⟨1, 24, false, [.nils], .slice 31⟩),
 (5, ⟨1, 1, false, [.int .u8 0], .int .u8⟩),
 (126, ⟨1, 8, false, [.nilf], .func⟩),
 (94, ⟨1, 8, false, [.nilf], .func⟩),
 (103, ⟨1, 8, false, [.nilf], .func⟩),
 (133, ⟨1, 8, false, [.nilf], .func⟩),
 (105, ⟨1, 8, false, [.nilf], .func⟩),
 (138, ⟨1, 8, false, [.nilf], .func⟩),
 (139, ⟨1, 8, false, [.nilf], .func⟩),
 (20, ⟨1, 16, false, [.nili], .iface⟩),
 (227, ⟨1, 8, false, [.nilp], .ptr⟩),
 (114, ⟨1, 8, false, [.nilp], .ptr⟩)]
noncomputable def encs : List (Nat × EncA) := [(3, ⟨Int, Zz.encI⟩), (4, ⟨Bool, Zz.encB⟩), (29, ⟨(Int × Int), Zz.encP Zz.encI Zz.encI⟩), (97, ⟨(Int × Int), Zz.encP Zz.encI Zz.encI⟩), (41, ⟨((Int × Int) × (Int × Int)), Zz.encP (Zz.encP Zz.encI Zz.encI) (Zz.encP Zz.encI Zz.encI)⟩), (27, ⟨(Int × Int × Int × Int), Zz.encP Zz.encI (Zz.encP Zz.encI (Zz.encP Zz.encI Zz.encI))⟩), (64, ⟨(Int × Bool × Int × Int), Zz.encP Zz.encI (Zz.encP Zz.encB (Zz.encP Zz.encI Zz.encI))⟩), (63, ⟨(Int × Bool × Int × Int), Zz.encP Zz.encI (Zz.encP Zz.encB (Zz.encP Zz.encI Zz.encI))⟩), (51, ⟨((Int × Int) × Int × Int), Zz.encP (Zz.encP Zz.encI Zz.encI) (Zz.encP Zz.encI Zz.encI)⟩), (70, ⟨((Int × Int) × Int × Int × Int × Int), Zz.encP (Zz.encP Zz.encI Zz.encI) (Zz.encP Zz.encI (Zz.encP Zz.encI (Zz.encP Zz.encI Zz.encI)))⟩), (82, ⟨(Int × Int × Int), Zz.encP Zz.encI (Zz.encP Zz.encI Zz.encI)⟩), (49, ⟨(Int × (Int × Int) × Int × Int × Int × Int), Zz.encP Zz.encI (Zz.encP (Zz.encP Zz.encI Zz.encI) (Zz.encP Zz.encI (Zz.encP Zz.encI (Zz.encP Zz.encI Zz.encI))))⟩)]
noncomputable def eqs : List (Nat × List LK) := [(29, [.int .i64, .int .i64]), (41, [.int .i64, .int .i64, .int .i64, .int .i64]), (63, [.int .i64, .bool, .int .i64, .int .i64]), (64, [.int .i64, .bool, .int .i64, .int .i64]), (82, [.int .i64, .int .i64, .int .i64])]
noncomputable def Gm (E : Nat → Addr) : Ctx := { P := Tryd.prog, Δ := ⟨E, 227⟩, tb := tb, errs := [1, 3, 0], encs := encs, eqs := eqs }
theorem tbOk (Δ : Env0) : AllTb (TiOk Tryd.prog Δ) tb := ⟨TiOk.of (by kernel_rfl) (by rw [Tryd.underlying3]; rfl) Tryd.underlying3 rfl rfl rfl, 
 ⟨TiOk.of (by kernel_rfl) (by rw [Tryd.underlying29]; rfl) ⟨_, ⟨Tryd.underlying29, by kernel_rfl⟩, by kernel_rfl⟩ rfl rfl rfl, 
 ⟨TiOk.of (by kernel_rfl) (by rw [Tryd.underlying82]; rfl) ⟨_, ⟨Tryd.underlying82, by kernel_rfl⟩, by kernel_rfl⟩ rfl rfl rfl, 
 ⟨TiOk.of (by kernel_rfl) (by rw [Tryd.underlying41]; rfl) ⟨_, ⟨Tryd.underlying41, by kernel_rfl⟩, by kernel_rfl⟩ rfl rfl rfl, 
 ⟨TiOk.of (by kernel_rfl) (by rw [Tryd.underlying34]; rfl) Tryd.underlying34 rfl rfl rfl, 
 ⟨TiOk.of (by kernel_rfl) (by rw [Tryd.underlying27]; rfl) ⟨_, ⟨Tryd.underlying27, by kernel_rfl⟩, by kernel_rfl⟩ rfl rfl rfl, 
 ⟨TiOk.of (by kernel_rfl) (by rw [Tryd.underlying79]; rfl) Tryd.underlying79 rfl rfl rfl, 
 ⟨TiOk.of (by kernel_rfl) (by rw [Tryd.underlying76]; rfl) Tryd.underlying76 rfl rfl rfl, 
 ⟨TiOk.of (by kernel_rfl) (by rw [Tryd.underlying31]; rfl) ⟨_, Tryd.underlying31⟩ rfl rfl rfl, 
 ⟨TiOk.of (by kernel_rfl) (by rw [Tryd.underlying57]; rfl) Tryd.underlying57 rfl rfl rfl, 
 ⟨TiOk.of (by kernel_rfl) (by rw [Tryd.underlying64]; rfl) ⟨_, ⟨Tryd.underlying64, by kernel_rfl⟩, by kernel_rfl⟩ rfl rfl rfl, 
 ⟨TiOk.of (by kernel_rfl) (by rw [Tryd.underlying97]; rfl) ⟨_, ⟨Tryd.underlying97, by kernel_rfl⟩, by kernel_rfl⟩ rfl rfl rfl, 
 ⟨TiOk.of (by kernel_rfl) (by rw [Tryd.underlying51]; rfl) ⟨_, ⟨Tryd.underlying51, by kernel_rfl⟩, by kernel_rfl⟩ rfl rfl rfl, 
 ⟨TiOk.of (by kernel_rfl) (by rw [Tryd.underlying22]; rfl) Tryd.underlying22 rfl rfl rfl, 
 ⟨TiOk.of (by kernel_rfl) (by rw [Tryd.underlying37]; rfl) ⟨_, Tryd.underlying37⟩ rfl rfl rfl, 
 ⟨TiOk.of (by kernel_rfl) (by rw [Tryd.underlying93]; rfl) ⟨_, ⟨Tryd.underlying93, by kernel_rfl⟩, by kernel_rfl⟩ rfl rfl rfl, 
 ⟨TiOk.of (by kernel_rfl) (by rw [Tryd.underlying202]; rfl) Tryd.underlying202 rfl rfl rfl, 
 ⟨TiOk.of (by kernel_rfl) (by rw [Tryd.underlying42]; rfl) Tryd.underlying42 rfl rfl rfl, 
 ⟨TiOk.of (by kernel_rfl) (by rw [Tryd.underlying70]; rfl) ⟨_, ⟨Tryd.underlying70, by kernel_rfl⟩, by kernel_rfl⟩ rfl rfl rfl, 
 ⟨TiOk.of (by kernel_rfl) (by rw [Tryd.underlying47]; rfl) Tryd.underlying47 rfl rfl rfl, 
 ⟨TiOk.of (by kernel_rfl) (by rw [Tryd.underlying24]; rfl) ⟨_, Tryd.underlying24⟩ rfl rfl rfl, 
 ⟨TiOk.of (by kernel_rfl) (by rw [Tryd.underlying49]; rfl) ⟨_, ⟨Tryd.underlying49, by kernel_rfl⟩, by kernel_rfl⟩ rfl rfl rfl, 
 ⟨TiOk.of (by kernel_rfl) (by rw [Tryd.underlying66]; rfl) Tryd.underlying66 rfl rfl rfl, 
 ⟨TiOk.of (by kernel_rfl) (by rw [Tryd.underlying206]; rfl) ⟨_, Tryd.underlying206⟩ rfl rfl rfl, 
 ⟨TiOk.of (by kernel_rfl) (by rw [Tryd.underlying63]; rfl) ⟨_, ⟨Tryd.underlying63, by kernel_rfl⟩, by kernel_rfl⟩ rfl rfl rfl, 
 ⟨TiOk.of (by kernel_rfl) (by rw [Tryd.underlying91]; rfl) Tryd.underlying91 rfl rfl rfl, 
 ⟨TiOk.of (by kernel_rfl) (by rw [Tryd.underlying129]; rfl) ⟨_, _, _, Tryd.underlying129⟩ rfl rfl rfl, 
 ⟨TiOk.of (by kernel_rfl) (by rw [Tryd.underlying164]; rfl) ⟨_, _, _, Tryd.underlying164⟩ rfl rfl rfl, 
 ⟨TiOk.of (by kernel_rfl) (by rw [Tryd.underlying170]; rfl) ⟨_, _, _, Tryd.underlying170⟩ rfl rfl rfl, 
 ⟨TiOk.of (by kernel_rfl) (by rw [Tryd.underlying118]; rfl) Tryd.underlying118 rfl rfl rfl, 
 ⟨TiOk.of (by kernel_rfl) (by rw [Tryd.underlying4]; rfl) Tryd.underlying4 rfl rfl rfl, 
 ⟨TiOk.of (by kernel_rfl) (by rw [Tryd.underlying74]; rfl) ⟨_, Tryd.underlying74⟩ rfl rfl rfl, 
 ⟨TiOk.of (by kernel_rfl) (by rw [Tryd.underlying119]; rfl) Tryd.underlying119 rfl rfl rfl, 
 ⟨TiOk.of (by kernel_rfl) (by rw [Tryd.underlying59]; rfl) Tryd.underlying59 rfl rfl rfl, 
 ⟨TiOk.of (by kernel_rfl) (by rw [Tryd.underlying121]; rfl) ⟨_, ⟨Tryd.underlying121, by kernel_rfl⟩, by kernel_rfl⟩ rfl rfl rfl, 
 ⟨TiOk.of (by kernel_rfl) (by rw [Tryd.underlying88]; rfl) ⟨_, ⟨Tryd.underlying88, by kernel_rfl⟩, by kernel_rfl⟩ rfl rfl rfl, 
 ⟨TiOk.of (by kernel_rfl) (by rw [Tryd.underlying117]; rfl) ⟨_, ⟨Tryd.underlying117, by kernel_rfl⟩, by kernel_rfl⟩ rfl rfl rfl, 
 ⟨TiOk.of (by kernel_rfl) (by rw [Tryd.underlying115]; rfl) Tryd.underlying115 rfl rfl rfl, 
 ⟨TiOk.of (by kernel_rfl) (by rw [Tryd.underlying161]; rfl) Tryd.underlying161 rfl rfl rfl, 
 ⟨TiOk.of (by kernel_rfl) (by rw [Tryd.underlying199]; rfl) Tryd.underlying199 rfl rfl rfl, 
 ⟨TiOk.of (by kernel_rfl) (by rw [Tryd.underlying167]; rfl) Tryd.underlying167 rfl rfl rfl, 
 ⟨TiOk.of (by kernel_rfl) (by rw [Tryd.underlying197]; rfl) Tryd.underlying197 rfl rfl rfl, 
 ⟨TiOk.of (by kernel_rfl) (by rw [Tryd.underlying46]; rfl) Tryd.underlying46 rfl rfl rfl, 
 ⟨TiOk.of (by kernel_rfl) (by rw [Tryd.underlying189]; rfl) Tryd.underlying189 rfl rfl rfl, 
 ⟨TiOk.of (by kernel_rfl) (by rw [Tryd.underlying100]; rfl) Tryd.underlying100 rfl rfl rfl, 
 ⟨TiOk.of (by kernel_rfl) (by rw [Tryd.underlying5]; rfl) Tryd.underlying5 rfl rfl rfl, 
 ⟨TiOk.of (by kernel_rfl) (by rw [Tryd.underlying126]; rfl) ⟨_, _, _, Tryd.underlying126⟩ rfl rfl rfl, 
 ⟨TiOk.of (by kernel_rfl) (by rw [Tryd.underlying94]; rfl) ⟨_, _, _, Tryd.underlying94⟩ rfl rfl rfl, 
 ⟨TiOk.of (by kernel_rfl) (by rw [Tryd.underlying103]; rfl) ⟨_, _, _, Tryd.underlying103⟩ rfl rfl rfl, 
 ⟨TiOk.of (by kernel_rfl) (by rw [Tryd.underlying133]; rfl) ⟨_, _, _, Tryd.underlying133⟩ rfl rfl rfl, 
 ⟨TiOk.of (by kernel_rfl) (by rw [Tryd.underlying105]; rfl) ⟨_, _, _, Tryd.underlying105⟩ rfl rfl rfl, 
 ⟨TiOk.of (by kernel_rfl) (by rw [Tryd.underlying138]; rfl) ⟨_, _, _, Tryd.underlying138⟩ rfl rfl rfl, 
 ⟨TiOk.of (by kernel_rfl) (by rw [Tryd.underlying139]; rfl) ⟨_, _, _, Tryd.underlying139⟩ rfl rfl rfl, 
 ⟨TiOk.of (by kernel_rfl) (by rw [Tryd.underlying20]; rfl) ⟨_, Tryd.underlying20⟩ rfl rfl rfl, 
 ⟨TiOk.of (by kernel_rfl) (by rw [Tryd.underlying227]; rfl) ⟨_, Tryd.underlying227⟩ rfl rfl rfl, 
 ⟨TiOk.of (by kernel_rfl) (by rw [Tryd.underlying114]; rfl) ⟨_, Tryd.underlying114⟩ rfl rfl rfl, trivial⟩⟩⟩⟩⟩⟩⟩⟩⟩⟩⟩⟩⟩⟩⟩⟩⟩⟩⟩⟩⟩⟩⟩⟩⟩⟩⟩⟩⟩⟩⟩⟩⟩⟩⟩⟩⟩⟩⟩⟩⟩⟩⟩⟩⟩⟩⟩⟩⟩⟩⟩⟩⟩⟩⟩⟩
theorem eqv29 (x0 : Int) (x1 : Int) (y0 : Int) (y1 : Int) : eqVal Tryd.prog Op.maxDepth 29 (.agg #[.int .i64 x0, .int .i64 x1]) (.agg #[.int .i64 y0, .int .i64 y1]) = some (leavesB [.int .i64 x0, .int .i64 x1] [.int .i64 y0, .int .i64 y1]) := by kernel_rfl
theorem okVs29 {l : List Value} (h : okVs [.int .i64, .int .i64] l) : ∃ x0 x1, l = [.int .i64 x0, .int .i64 x1] := by
  match l, h with
  | [_, _], ⟨⟨x0, rfl⟩, ⟨x1, rfl⟩, _⟩ => exact ⟨x0, x1, rfl⟩
theorem eqOk29 : EqOk Tryd.prog 29 [.int .i64, .int .i64] := ⟨by kernel_rfl, fun xs ys hx hy w => by
  obtain ⟨x0, x1, rfl⟩ := okVs29 hx
  obtain ⟨y0, y1, rfl⟩ := okVs29 hy
  exact eqVal_sound _ _ _ _ _ (eqv29 _ _ _ _)⟩
theorem eqv41 (x0 : Int) (x1 : Int) (x2 : Int) (x3 : Int) (y0 : Int) (y1 : Int) (y2 : Int) (y3 : Int) : eqVal Tryd.prog Op.maxDepth 41 (.agg #[.int .i64 x0, .int .i64 x1, .int .i64 x2, .int .i64 x3]) (.agg #[.int .i64 y0, .int .i64 y1, .int .i64 y2, .int .i64 y3]) = some (leavesB [.int .i64 x0, .int .i64 x1, .int .i64 x2, .int .i64 x3] [.int .i64 y0, .int .i64 y1, .int .i64 y2, .int .i64 y3]) := by
  have e : (((x0 == y0) && ((x1 == y1) && true)) && (((x2 == y2) && ((x3 == y3) && true)) && true)) = leavesB [.int .i64 x0, .int .i64 x1, .int .i64 x2, .int .i64 x3] [.int .i64 y0, .int .i64 y1, .int .i64 y2, .int .i64 y3] := by simp only [leavesB, leafB, Bool.and_assoc, Bool.and_true, Bool.true_and]
  have k : eqVal Tryd.prog Op.maxDepth 41 (.agg #[.int .i64 x0, .int .i64 x1, .int .i64 x2, .int .i64 x3]) (.agg #[.int .i64 y0, .int .i64 y1, .int .i64 y2, .int .i64 y3]) = some (((x0 == y0) && ((x1 == y1) && true)) && (((x2 == y2) && ((x3 == y3) && true)) && true)) := by kernel_rfl
  exact k.trans (congrArg some e)
theorem okVs41 {l : List Value} (h : okVs [.int .i64, .int .i64, .int .i64, .int .i64] l) : ∃ x0 x1 x2 x3, l = [.int .i64 x0, .int .i64 x1, .int .i64 x2, .int .i64 x3] := by
  match l, h with
  | [_, _, _, _], ⟨⟨x0, rfl⟩, ⟨x1, rfl⟩, ⟨x2, rfl⟩, ⟨x3, rfl⟩, _⟩ => exact ⟨x0, x1, x2, x3, rfl⟩
theorem eqOk41 : EqOk Tryd.prog 41 [.int .i64, .int .i64, .int .i64, .int .i64] := ⟨by kernel_rfl, fun xs ys hx hy w => by
  obtain ⟨x0, x1, x2, x3, rfl⟩ := okVs41 hx
  obtain ⟨y0, y1, y2, y3, rfl⟩ := okVs41 hy
  exact eqVal_sound _ _ _ _ _ (eqv41 _ _ _ _ _ _ _ _)⟩
theorem eqv63 (x0 : Int) (x1 : Bool) (x2 : Int) (x3 : Int) (y0 : Int) (y1 : Bool) (y2 : Int) (y3 : Int) : eqVal Tryd.prog Op.maxDepth 63 (.agg #[.int .i64 x0, .bool x1, .int .i64 x2, .int .i64 x3]) (.agg #[.int .i64 y0, .bool y1, .int .i64 y2, .int .i64 y3]) = some (leavesB [.int .i64 x0, .bool x1, .int .i64 x2, .int .i64 x3] [.int .i64 y0, .bool y1, .int .i64 y2, .int .i64 y3]) := by
  have e : ((x0 == y0) && ((x1 == y1) && (((x2 == y2) && ((x3 == y3) && true)) && true))) = leavesB [.int .i64 x0, .bool x1, .int .i64 x2, .int .i64 x3] [.int .i64 y0, .bool y1, .int .i64 y2, .int .i64 y3] := by simp only [leavesB, leafB, Bool.and_assoc, Bool.and_true, Bool.true_and]
  have k : eqVal Tryd.prog Op.maxDepth 63 (.agg #[.int .i64 x0, .bool x1, .int .i64 x2, .int .i64 x3]) (.agg #[.int .i64 y0, .bool y1, .int .i64 y2, .int .i64 y3]) = some ((x0 == y0) && ((x1 == y1) && (((x2 == y2) && ((x3 == y3) && true)) && true))) := by kernel_rfl
  exact k.trans (congrArg some e)
theorem okVs63 {l : List Value} (h : okVs [.int .i64, .bool, .int .i64, .int .i64] l) : ∃ x0 x1 x2 x3, l = [.int .i64 x0, .bool x1, .int .i64 x2, .int .i64 x3] := by
  match l, h with
  | [_, _, _, _], ⟨⟨x0, rfl⟩, ⟨x1, rfl⟩, ⟨x2, rfl⟩, ⟨x3, rfl⟩, _⟩ => exact ⟨x0, x1, x2, x3, rfl⟩
theorem eqOk63 : EqOk Tryd.prog 63 [.int .i64, .bool, .int .i64, .int .i64] := ⟨by kernel_rfl, fun xs ys hx hy w => by
  obtain ⟨x0, x1, x2, x3, rfl⟩ := okVs63 hx
  obtain ⟨y0, y1, y2, y3, rfl⟩ := okVs63 hy
  exact eqVal_sound _ _ _ _ _ (eqv63 _ _ _ _ _ _ _ _)⟩
theorem eqv64 (x0 : Int) (x1 : Bool) (x2 : Int) (x3 : Int) (y0 : Int) (y1 : Bool) (y2 : Int) (y3 : Int) : eqVal Tryd.prog Op.maxDepth 64 (.agg #[.int .i64 x0, .bool x1, .int .i64 x2, .int .i64 x3]) (.agg #[.int .i64 y0, .bool y1, .int .i64 y2, .int .i64 y3]) = some (leavesB [.int .i64 x0, .bool x1, .int .i64 x2, .int .i64 x3] [.int .i64 y0, .bool y1, .int .i64 y2, .int .i64 y3]) := by
  have e : ((x0 == y0) && ((x1 == y1) && (((x2 == y2) && ((x3 == y3) && true)) && true))) = leavesB [.int .i64 x0, .bool x1, .int .i64 x2, .int .i64 x3] [.int .i64 y0, .bool y1, .int .i64 y2, .int .i64 y3] := by simp only [leavesB, leafB, Bool.and_assoc, Bool.and_true, Bool.true_and]
  have k : eqVal Tryd.prog Op.maxDepth 64 (.agg #[.int .i64 x0, .bool x1, .int .i64 x2, .int .i64 x3]) (.agg #[.int .i64 y0, .bool y1, .int .i64 y2, .int .i64 y3]) = some ((x0 == y0) && ((x1 == y1) && (((x2 == y2) && ((x3 == y3) && true)) && true))) := by kernel_rfl
  exact k.trans (congrArg some e)
theorem okVs64 {l : List Value} (h : okVs [.int .i64, .bool, .int .i64, .int .i64] l) : ∃ x0 x1 x2 x3, l = [.int .i64 x0, .bool x1, .int .i64 x2, .int .i64 x3] := by
  match l, h with
  | [_, _, _, _], ⟨⟨x0, rfl⟩, ⟨x1, rfl⟩, ⟨x2, rfl⟩, ⟨x3, rfl⟩, _⟩ => exact ⟨x0, x1, x2, x3, rfl⟩
theorem eqOk64 : EqOk Tryd.prog 64 [.int .i64, .bool, .int .i64, .int .i64] := ⟨by kernel_rfl, fun xs ys hx hy w => by
  obtain ⟨x0, x1, x2, x3, rfl⟩ := okVs64 hx
  obtain ⟨y0, y1, y2, y3, rfl⟩ := okVs64 hy
  exact eqVal_sound _ _ _ _ _ (eqv64 _ _ _ _ _ _ _ _)⟩
theorem eqv82 (x0 : Int) (x1 : Int) (x2 : Int) (y0 : Int) (y1 : Int) (y2 : Int) : eqVal Tryd.prog Op.maxDepth 82 (.agg #[.int .i64 x0, .int .i64 x1, .int .i64 x2]) (.agg #[.int .i64 y0, .int .i64 y1, .int .i64 y2]) = some (leavesB [.int .i64 x0, .int .i64 x1, .int .i64 x2] [.int .i64 y0, .int .i64 y1, .int .i64 y2]) := by kernel_rfl
theorem okVs82 {l : List Value} (h : okVs [.int .i64, .int .i64, .int .i64] l) : ∃ x0 x1 x2, l = [.int .i64 x0, .int .i64 x1, .int .i64 x2] := by
  match l, h with
  | [_, _, _], ⟨⟨x0, rfl⟩, ⟨x1, rfl⟩, ⟨x2, rfl⟩, _⟩ => exact ⟨x0, x1, x2, rfl⟩
theorem eqOk82 : EqOk Tryd.prog 82 [.int .i64, .int .i64, .int .i64] := ⟨by kernel_rfl, fun xs ys hx hy w => by
  obtain ⟨x0, x1, x2, rfl⟩ := okVs82 hx
  obtain ⟨y0, y1, y2, rfl⟩ := okVs82 hy
  exact eqVal_sound _ _ _ _ _ (eqv82 _ _ _ _ _ _)⟩
theorem eqsOk : AllTb (EqOk Tryd.prog) eqs := ⟨eqOk29, ⟨eqOk41, ⟨eqOk63, ⟨eqOk64, ⟨eqOk82, trivial⟩⟩⟩⟩⟩
theorem gmOk (E : Nat → Addr) : (Gm E).Ok := ⟨(tbOk _).lk, eqsOk.lk, by kernel_rfl⟩
end Go.Proofs.YtpojafdllcioiaaDoor

namespace Go.Proofs.YtpojafdllcioiaaDoor
open Go.Zz Go.Px
set_option linter.unusedVariables false
set_option linter.unusedSectionVars false
set_option linter.unusedSimpArgs false
set_option maxRecDepth 10000
noncomputable def Ge (E : Nat → Addr) : Ctx := { Gm E with errs := [] }
theorem geOk (E : Nat → Addr) : (Ge E).Ok := (gmOk E).noErrs
def inR (m n : Int) : Prop := -m ≤ n ∧ n ≤ m
instance (m n : Int) : Decidable (inR m n) := inferInstanceAs (Decidable (-m ≤ n ∧ n ≤ m))
def reachP (p : Int × Int) : Prop := (-4194304 ≤ p.1 ∧ p.1 ≤ 4194304) ∧ (-4194304 ≤ p.2 ∧ p.2 ≤ 4194304)
instance (p : Int × Int) : Decidable (reachP p) := by unfold reachP; infer_instance
def rightP (b : Int × Int × Int × Int) : Prop := b.1 ≤ b.2.2.1 ∧ b.2.1 ≤ b.2.2.2 ∧ reachP (b.1, b.2.1) ∧ reachP (b.2.2.1, b.2.2.2)
instance (b : Int × Int × Int × Int) : Decidable (rightP b) := by unfold rightP; infer_instance
def spanP (s : (Int × Int) × Int × Int) : Prop := s.2.1 ≤ s.2.2 ∧ reachP s.2
instance (s : (Int × Int) × Int × Int) : Decidable (spanP s) := by unfold spanP; infer_instance
def ltE (e f : Int × Bool × Int × Int) : Bool := decide (e.1 < f.1 ∨ e.1 = f.1 ∧ ((e.2.1 = false ∧ f.2.1 = true) ∨ e.2.1 = f.2.1 ∧ ltH e.2.2 f.2.2 = true))
def ordPair (a b : Int × Int) : (Int × Int) × (Int × Int) := if a = b then ((0, 0), (0, 0)) else if ltH b a = true then (b, a) else (a, b)
theorem ordPair_lt {a b : Int × Int} (h : ¬(a.1 = b.1 ∧ a.2 = b.2)) (h1 : ltH b a = true) : ordPair a b = (b, a) := by
  unfold ordPair; rw [if_neg (fun e => h (by rw [e]; exact ⟨rfl, rfl⟩)), if_pos h1]
theorem ordPair_ge {a b : Int × Int} (h : ¬(a.1 = b.1 ∧ a.2 = b.2)) (h1 : ltH b a = false) : ordPair a b = (a, b) := by
  unfold ordPair; rw [if_neg (fun e => h (by rw [e]; exact ⟨rfl, rfl⟩)), if_neg (by rw [h1]; simp)]
def meetP (a b : Int × Int × Int × Int) : Prop := a.1 ≤ b.2.2.1 ∧ b.1 ≤ a.2.2.1 ∧ a.2.1 ≤ b.2.2.2 ∧ b.2.1 ≤ a.2.2.2
instance (a b : Int × Int × Int × Int) : Decidable (meetP a b) := by unfold meetP; infer_instance
set_option maxHeartbeats 4000000 in
theorem within_z (E : Nat → Addr) (n m : Int) (h : 0 ≤ m ∧ m ≤ 4611686018427387904) : Does (Gm E) 81 (Sp0 [.int .i64 n, .int .i64 m] [] 0 (.dc (-m ≤ n ∧ n ≤ m) inferInstance)) := by
  refine fn_intro (gmOk E) 14 0 [] Tryd.func81 rfl rfl rfl rfl rfl ?_
  repeat' first | (intro h; first | (exfalso; omega; done) | skip) | (refine And.intro ?_ ?_) | exact True.intro | (refine @Exists.intro Unit _ () ?_) | (refine @Exists.intro (_ = _) _ rfl ?_)
  all_goals first | omega | rfl | skip

set_option maxHeartbeats 4000000 in
theorem reach_z (E : Nat → Addr) (p : Int × Int) : Does (Gm E) 49 (Sp0 [.agg [.int .i64 p.1, .int .i64 p.2]] [] 0 (.dc (reachP p) inferInstance)) := by
  refine fn_intro (gmOk E) 11 0 [] Tryd.func49 rfl rfl rfl rfl rfl ?_
  repeat' first | (intro h; first | (exfalso; omega; done) | skip) | (refine And.intro ?_ ?_) | exact True.intro | (refine @Exists.intro Unit _ () ?_) | (refine @Exists.intro (_ = _) _ rfl ?_) | (change CallGoal _ _ _ _ _ _; first | (refine call0 (within_z E _ _ (by omega)) [] rfl True.intro rfl ?_))
  all_goals first | omega | (simp only [reachP] at *; omega) | skip

set_option maxHeartbeats 4000000 in
theorem corners_z (E : Nat → Addr) (b : Int × Int × Int × Int) : Does (Gm E) 77 (Sp0 [.agg [.int .i64 b.1, .int .i64 b.2.1, .int .i64 b.2.2.1, .int .i64 b.2.2.2]] [] 0 (.tup [.agg [.int .i64 (b.1,b.2.1).1, .int .i64 (b.1,b.2.1).2], .agg [.int .i64 (b.2.2.1,b.2.2.2).1, .int .i64 (b.2.2.1,b.2.2.2).2]])) := by
  refine fn_intro (gmOk E) 14 0 [] Tryd.func77 rfl rfl rfl rfl rfl ?_
  repeat' first | (intro h; first | (exfalso; omega; done) | skip) | (refine And.intro ?_ ?_) | exact True.intro | (refine @Exists.intro Unit _ () ?_) | (refine @Exists.intro (_ = _) _ rfl ?_) | (change DrawGoal _ _ _ _ _ _; first | (change DrawGoal _ _ _ [_, _, _, _, _, _, _, _, _, _, _, _] _ _; refine draw_tree (gmOk E) [0] (.leaf [(0, true), (1, true), (2, true), (3, true), (4, true), (5, true), (6, true), (7, true), (8, true), (9, true), (10, false), (11, false)]) (by kernel_rfl) ?_))
  all_goals first | omega | rfl | skip

set_option maxHeartbeats 4000000 in
theorem right_z (E : Nat → Addr) (b : Int × Int × Int × Int) : Does (Gm E) 45 (Sp0 [.agg [.int .i64 b.1, .int .i64 b.2.1, .int .i64 b.2.2.1, .int .i64 b.2.2.2]] [] 0 (.dc (rightP b) inferInstance)) := by
  refine fn_intro (gmOk E) 30 0 [] Tryd.func45 rfl rfl rfl rfl rfl ?_
  repeat' first | (intro h; first | (exfalso; omega; done) | skip) | (refine And.intro ?_ ?_) | exact True.intro | (refine @Exists.intro Unit _ () ?_) | (refine @Exists.intro (_ = _) _ rfl ?_) | (change CallGoal _ _ _ _ _ _; first | (refine call0 (corners_z E b) [] rfl True.intro rfl ?_) | (refine call0 (reach_z E (b.1, b.2.1)) [] rfl True.intro rfl ?_) | (refine call0 (reach_z E (b.2.2.1, b.2.2.2)) [] rfl True.intro rfl ?_))
  all_goals first | omega | (simp only [rightP, reachP] at *; omega) | skip

set_option maxHeartbeats 4000000 in
theorem isnan_e (E : Nat → Addr) (n : Int) : DoesC (Ge E) 98 (Sp0 [.int .i64 n] [] 0 .ff) := by
  refine fn_calls (geOk E) 6 0 [] Tryd.func98 rfl rfl rfl rfl rfl ?_
  repeat' first | (intro h; first | (exfalso; omega; done) | skip) | (refine And.intro ?_ ?_) | exact True.intro | (refine @Exists.intro Unit _ () ?_) | (refine @Exists.intro (_ = _) _ rfl ?_)
  all_goals first | omega | rfl | skip

set_option maxHeartbeats 4000000 in
theorem cmp_e (E : Nat → Addr) (a b : Int) : DoesC (Ge E) 68 (Sp0 [.int .i64 a, .int .i64 b] [] 0 (.int .i64 (cmpI a b))) := by
  refine fn_calls (geOk E) 20 0 [] Tryd.func68 rfl rfl rfl rfl rfl ?_
  repeat' first | (intro h; first | (exfalso; omega; done) | skip) | (refine And.intro ?_ ?_) | exact True.intro | (refine @Exists.intro Unit _ () ?_) | (refine @Exists.intro (_ = _) _ rfl ?_) | (change CallGoal _ _ _ _ _ _; first | (refine call0 (isnan_e E _).does [] rfl True.intro rfl ?_))
  all_goals first | omega | (simp only [cmpI]; repeat (split <;> try omega)) | skip

set_option maxHeartbeats 4000000 in
theorem or_e (E : Nat → Addr) (a b : Int) : DoesC (Ge E) 67 (Sp0 [.sl 0 2 2] [(0, .ro Int Zz.encI [a, b] 2)] 1 (.int .i64 (if a = 0 then b else a))) := by
  refine fn_calls (geOk E) 18 1 [] Tryd.func67 rfl rfl rfl rfl rfl ?_
  repeat' first | (intro h; first | (exfalso; omega; done) | skip) | (refine And.intro ?_ ?_) | exact True.intro | (refine @Exists.intro Unit _ () ?_) | (refine @Exists.intro (_ = _) _ rfl ?_) | (change LoopGoal _ _ _ _ _ _; refine loop_rounds (geOk E) [] 3 ?_)
  all_goals first | rfl | omega | (simp; done) | (simp_all; done) | skip

set_option maxHeartbeats 4000000 in
theorem cmpH_e (E : Nat → Addr) (a b : Int × Int) : DoesC (Ge E) 100 (Sp0 [.agg [.int .i64 a.1, .int .i64 a.2], .agg [.int .i64 b.1, .int .i64 b.2]] [] 0 (.int .i64 (cmpH a b))) := by
  refine fn_calls (geOk E) 17 0 [] Tryd.func100 rfl rfl rfl rfl rfl ?_
  repeat' first | (intro h; first | (exfalso; omega; done) | skip) | (refine And.intro ?_ ?_) | exact True.intro | (refine @Exists.intro Unit _ () ?_) | (refine @Exists.intro (_ = _) _ rfl ?_) | (change DrawGoal _ _ _ _ _ _; first | (change DrawGoal _ _ _ [_, _, _, _, _, _, _, _, _, _, _, _, _] _ _; refine draw_tree (geOk E) [0, 1] (.leaf [(0, true), (1, true), (2, true), (3, true), (5, true), (6, true), (7, true), (8, true), (4, false), (9, false), (10, false), (11, false), (12, true)]) (by kernel_rfl) ?_)) | (change CallGoal _ _ _ _ _ _; first | (refine call0 (cmp_e E _ _).does [] rfl True.intro rfl ?_) | (refine call0 (or_e E _ _).does [2] rfl (And.intro rfl True.intro) rfl ?_))
  all_goals first | omega | rfl | skip

set_option maxHeartbeats 4000000 in
theorem cmpP_e (E : Nat → Addr) (a b : (Int × Int) × (Int × Int)) : DoesC (Ge E) 107 (Sp0 [.agg [.int .i64 a.1.1, .int .i64 a.1.2, .int .i64 a.2.1, .int .i64 a.2.2], .agg [.int .i64 b.1.1, .int .i64 b.1.2, .int .i64 b.2.1, .int .i64 b.2.2]] [] 0 (.int .i64 (cmpP a b))) := by
  refine fn_calls (geOk E) 17 0 [] Tryd.func107 rfl rfl rfl rfl rfl ?_
  repeat' first | (intro h; first | (exfalso; omega; done) | skip) | (refine And.intro ?_ ?_) | exact True.intro | (refine @Exists.intro Unit _ () ?_) | (refine @Exists.intro (_ = _) _ rfl ?_) | (change DrawGoal _ _ _ _ _ _; first | (change DrawGoal _ _ _ [_, _, _, _, _, _, _, _, _, _, _, _, _] _ _; refine draw_tree (geOk E) [0, 1] (.leaf [(0, true), (1, true), (2, true), (3, true), (5, true), (6, true), (7, true), (8, true), (4, false), (9, false), (10, false), (11, false), (12, true)]) (by kernel_rfl) ?_)) | (change CallGoal _ _ _ _ _ _; first | (refine call0 (cmpH_e E _ _).does [] rfl True.intro rfl ?_) | (refine call0 (or_e E _ _).does [2] rfl (And.intro rfl True.intro) rfl ?_))
  all_goals first | omega | rfl | skip

theorem cmpH_z (E : Nat → Addr) (a b : Int × Int) : Does (Gm E) 100 (Sp0 [.agg [.int .i64 a.1, .int .i64 a.2], .agg [.int .i64 b.1, .int .i64 b.2]] [] 0 (.int .i64 (cmpH a b))) := Does.more (Γ := Gm E) (cmpH_e E a b).does
set_option maxHeartbeats 4000000 in
theorem less_z (E : Nat → Addr) (a b : Int × Int) : Does (Gm E) 89 (Sp0 [.agg [.int .i64 a.1, .int .i64 a.2], .agg [.int .i64 b.1, .int .i64 b.2]] [] 0 (.bl (ltH a b))) := by
  refine fn_intro (gmOk E) 9 0 [] Tryd.func89 rfl rfl rfl rfl rfl ?_
  repeat' first | (intro h; first | (exfalso; omega; done) | skip) | (refine And.intro ?_ ?_) | exact True.intro | (refine @Exists.intro Unit _ () ?_) | (refine @Exists.intro (_ = _) _ rfl ?_) | (change CallGoal _ _ _ _ _ _; first | (refine call0 (cmpH_z E _ _) [] rfl True.intro rfl ?_))
  all_goals first | omega | (have := cmpH_neg a b; simp_all; done) | skip

set_option maxHeartbeats 4000000 in
theorem ref02less_z (E : Nat → Addr) (a b : Int × Int) : Does (Gm E) 87 (Sp0 [.agg [.int .i64 a.1, .int .i64 a.2], .agg [.int .i64 b.1, .int .i64 b.2]] [] 0 (.bl (ltH a b))) := by
  refine fn_intro (gmOk E) 24 0 [] Tryd.func87 rfl rfl rfl rfl rfl ?_
  repeat' first | (intro h; first | (exfalso; omega; done) | skip) | (refine And.intro ?_ ?_) | exact True.intro | (refine @Exists.intro Unit _ () ?_) | (refine @Exists.intro (_ = _) _ rfl ?_)
  all_goals first | omega | rfl | (simp only [ltH]; simp; omega) | skip

set_option maxHeartbeats 4000000 in
theorem pairless_z (E : Nat → Addr) (a b : (Int × Int) × (Int × Int)) : Does (Gm E) 88 (Sp0 [.agg [.int .i64 a.1.1, .int .i64 a.1.2, .int .i64 a.2.1, .int .i64 a.2.2], .agg [.int .i64 b.1.1, .int .i64 b.1.2, .int .i64 b.2.1, .int .i64 b.2.2]] [] 0 (.bl (ltP a b))) := by
  refine fn_intro (gmOk E) 24 0 [] Tryd.func88 rfl rfl rfl rfl rfl ?_
  repeat' first | (intro h; first | (exfalso; omega; done) | skip) | (refine And.intro ?_ ?_) | exact True.intro | (refine @Exists.intro Unit _ () ?_) | (refine @Exists.intro (_ = _) _ rfl ?_) | (change CallGoal _ _ _ _ _ _; first | (refine call0 (ref02less_z E _ _) [] rfl True.intro rfl ?_))
  all_goals first | omega | rfl | (obtain ⟨⟨a1, a2⟩, a3⟩ := a; obtain ⟨⟨b1, b2⟩, b3⟩ := b; cases h1 : ltH (a1, a2) (b1, b2) <;> simp_all [ltP]; done) | skip

set_option maxHeartbeats 4000000 in
theorem pair_z (E : Nat → Addr) (a b : Int × Int) : Does (Gm E) 61 (Sp0 [.agg [.int .i64 a.1, .int .i64 a.2], .agg [.int .i64 b.1, .int .i64 b.2]] [] 0 (.tup [.agg [.int .i64 (ordPair a b).1.1, .int .i64 (ordPair a b).1.2, .int .i64 (ordPair a b).2.1, .int .i64 (ordPair a b).2.2], .bl (!decide (a = b))])) := by
  refine fn_intro (gmOk E) 20 0 [] Tryd.func61 rfl rfl rfl rfl rfl ?_
  repeat' first | (intro h; first | (exfalso; omega; done) | skip) | (refine And.intro ?_ ?_) | exact True.intro | (refine @Exists.intro Unit _ () ?_) | (refine @Exists.intro (_ = _) _ rfl ?_) | (change CallGoal _ _ _ _ _ _; first | (refine call0 (less_z E _ _) [] rfl True.intro rfl ?_))
  all_goals first | omega | (rw [ordPair_lt ‹_› ‹_›]) | (rw [ordPair_ge ‹_› ‹_›]) | (obtain ⟨a1, a2⟩ := a; obtain ⟨b1, b2⟩ := b; simp_all [ordPair]; done) | (obtain ⟨a1, a2⟩ := a; obtain ⟨b1, b2⟩ := b; simp_all [ordPair]; omega) | skip

set_option maxHeartbeats 4000000 in
theorem in_z (E : Nat → Addr) (n m : Int) (h : 0 ≤ m ∧ m ≤ 4611686018427387904) : Does (Gm E) 51 (Sp0 [.int .i64 n, .int .i64 m] [] 0 (.dc (-m ≤ n ∧ n ≤ m) inferInstance)) := by
  refine fn_intro (gmOk E) 14 0 [] Tryd.func51 rfl rfl rfl rfl rfl ?_
  repeat' first | (intro h; first | (exfalso; omega; done) | skip) | (refine And.intro ?_ ?_) | exact True.intro | (refine @Exists.intro Unit _ () ?_) | (refine @Exists.intro (_ = _) _ rfl ?_)
  all_goals first | omega | rfl | skip

set_option maxHeartbeats 4000000 in
theorem ref01right_z (E : Nat → Addr) (b : Int × Int × Int × Int) : Does (Gm E) 30 (Sp0 [.agg [.int .i64 b.1, .int .i64 b.2.1, .int .i64 b.2.2.1, .int .i64 b.2.2.2]] [] 0 (.dc (rightP b) inferInstance)) := by
  refine fn_intro (gmOk E) 35 0 [] Tryd.func30 rfl rfl rfl rfl rfl ?_
  repeat' first | (intro h; first | (exfalso; omega; done) | skip) | (refine And.intro ?_ ?_) | exact True.intro | (refine @Exists.intro Unit _ () ?_) | (refine @Exists.intro (_ = _) _ rfl ?_) | (change CallGoal _ _ _ _ _ _; first | (refine call0 (in_z E _ _ (by omega)) [] rfl True.intro rfl ?_))
  all_goals first | omega | (simp only [rightP, reachP] at *; omega) | skip

set_option maxHeartbeats 4000000 in
theorem ref11right_z (E : Nat → Addr) (s : (Int × Int) × Int × Int) : Does (Gm E) 20 (Sp0 [.agg [.int .i64 s.1.1, .int .i64 s.1.2, .int .i64 s.2.1, .int .i64 s.2.2]] [] 0 (.dc (spanP s) inferInstance)) := by
  refine fn_intro (gmOk E) 18 0 [] Tryd.func20 rfl rfl rfl rfl rfl ?_
  repeat' first | (intro h; first | (exfalso; omega; done) | skip) | (refine And.intro ?_ ?_) | exact True.intro | (refine @Exists.intro Unit _ () ?_) | (refine @Exists.intro (_ = _) _ rfl ?_) | (change CallGoal _ _ _ _ _ _; first | (refine call0 (in_z E _ _ (by omega)) [] rfl True.intro rfl ?_))
  all_goals first | omega | (simp only [spanP, reachP] at *; omega) | skip

set_option maxHeartbeats 4000000 in
theorem meets_z (E : Nat → Addr) (a b : Int × Int × Int × Int) : Does (Gm E) 60 (Sp0 [.agg [.int .i64 a.1, .int .i64 a.2.1, .int .i64 a.2.2.1, .int .i64 a.2.2.2], .agg [.int .i64 b.1, .int .i64 b.2.1, .int .i64 b.2.2.1, .int .i64 b.2.2.2]] [] 0 (.dc (meetP a b) inferInstance)) := by
  refine fn_intro (gmOk E) 32 0 [] Tryd.func60 rfl rfl rfl rfl rfl ?_
  repeat' first | (intro h; first | (exfalso; omega; done) | skip) | (refine And.intro ?_ ?_) | exact True.intro | (refine @Exists.intro Unit _ () ?_) | (refine @Exists.intro (_ = _) _ rfl ?_)
  all_goals first | omega | (simp only [meetP]; omega) | skip

set_option maxHeartbeats 4000000 in
theorem gone_z (E : Nat → Addr) (a b : Int) : Does (Gm E) 25 (Sp0 [.int .i64 a, .int .i64 b] [] 0 (.int .i64 (if a = b then 3 else 0))) := by
  refine fn_intro (gmOk E) 8 0 [] Tryd.func25 rfl rfl rfl rfl rfl ?_
  repeat' first | (intro h; first | (exfalso; omega; done) | skip) | (refine And.intro ?_ ?_) | exact True.intro | (refine @Exists.intro Unit _ () ?_) | (refine @Exists.intro (_ = _) _ rfl ?_)
  all_goals first | omega | (split <;> omega) | (simp_all; done) | skip

set_option maxHeartbeats 4000000 in
theorem lessE_z (E : Nat → Addr) (a b : Int × Bool × Int × Int) : Does (Gm E) 58 (Sp0 [.agg [.int .i64 a.1, .bl a.2.1, .int .i64 a.2.2.1, .int .i64 a.2.2.2], .agg [.int .i64 b.1, .bl b.2.1, .int .i64 b.2.2.1, .int .i64 b.2.2.2]] [] 0 (.bl (ltE a b))) := by
  refine fn_intro (gmOk E) 28 0 [] Tryd.func58 rfl rfl rfl rfl rfl ?_
  repeat' first | (intro h; first | (exfalso; omega; done) | skip) | (refine And.intro ?_ ?_) | exact True.intro | (refine @Exists.intro Unit _ () ?_) | (refine @Exists.intro (_ = _) _ rfl ?_) | (change CallGoal _ _ _ _ _ _; first | (refine call0 (ref02less_z E _ _) [] rfl True.intro rfl ?_))
  all_goals first | omega | (simp_all [ltE]; done) | (cases h1 : a.2.1 <;> cases h2 : b.2.1 <;> simp_all [ltE]; done) | skip

set_option maxHeartbeats 4000000 in
theorem ahead_z (E : Nat → Addr) (a b : Int × Bool × Int × Int) : Does (Gm E) 82 (Sp0 [.agg [.int .i64 a.1, .bl a.2.1, .int .i64 a.2.2.1, .int .i64 a.2.2.2], .agg [.int .i64 b.1, .bl b.2.1, .int .i64 b.2.2.1, .int .i64 b.2.2.2]] [] 0 (.bl (ltE a b))) := by
  refine fn_intro (gmOk E) 29 0 [] Tryd.func82 rfl rfl rfl rfl rfl ?_
  repeat' first | (intro h; first | (exfalso; omega; done) | skip) | (refine And.intro ?_ ?_) | exact True.intro | (refine @Exists.intro Unit _ () ?_) | (refine @Exists.intro (_ = _) _ rfl ?_) | (change CallGoal _ _ _ _ _ _; first | (refine call0 (less_z E _ _) [] rfl True.intro rfl ?_))
  all_goals first | omega | (simp_all [ltE]; done) | (cases h1 : a.2.1 <;> cases h2 : b.2.1 <;> simp_all [ltE]; done) | skip

end Go.Proofs.YtpojafdllcioiaaDoor
