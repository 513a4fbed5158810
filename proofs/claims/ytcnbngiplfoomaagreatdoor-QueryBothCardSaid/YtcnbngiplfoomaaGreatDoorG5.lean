/- A part of the proof: texts put together. -/
import Derived.Test.YtcnbngiplfoomaaGreatDoorProg
import Derived.Test.YtcnbngiplfoomaaGreatDoorG4
import Derived.Test.YtcnbngiplfoomaaGreatDoorG3
set_option linter.unusedSectionVars false
set_option linter.unusedSimpArgs false
set_option linter.unusedVariables false
namespace Go.Proofs.YtcnbngiplfoomaaGreatDoor
open Go.Zz Go.Px
set_option linter.unusedVariables false
set_option maxRecDepth 10000
noncomputable def tb : List (Nat × TI) := [(3, ⟨1, 8, false, [.int .i64 0], .int .i64⟩),
 (28, ⟨2, 16, true, [.int .i64 0, .int .i64 0], .struct [(0, 3), (1, 3)]⟩),
 (34, ⟨3, 24, true, [.int .i64 0, .int .i64 0, .int .i64 0], .struct [(0, 3), (1, 3), (2, 3)]⟩),
 (22, ⟨1, 24, false, [.nils], .slice 34⟩),
 (57, ⟨1, 24, false, [.nils], .slice 28⟩),
 (56, ⟨1, 8, false, [.int .u64 0], .int .u64⟩),
 (37, ⟨3, 40, true, [.int .i64 0, .int .i64 0, .nils], .struct [(0, 28), (2, 22)]⟩),
 (41, ⟨1, 24, false, [.nils], .slice 56⟩),
 (30, ⟨1, 16, false, [.nili], .iface⟩),
 (78, ⟨2, 16, true, [.int .u64 0, .int .u64 0], .struct [(0, 56), (1, 56)]⟩),
 (68, ⟨1, 24, false, [.nils], .slice 37⟩),
 (25, ⟨1, 8, false, [.nilp], .ptr⟩),
 (113, ⟨2, 16, true, [.nilp, .int .i64 0], .struct [(0, 111), (1, 3)]⟩),
 (171, ⟨2, 16, true, [.int .i64 0, .int .i64 0], .struct [(0, 3), (1, 3)]⟩),
 (52, ⟨7, 72, true, [.int .i64 0, .int .i64 0, .int .i64 0, .nils, .int .i64 0, .int .i64 0, .int .i64 0], .struct [(0, 3), (1, 28), (3, 22), (4, 34)]⟩),
 (55, ⟨1, 8, false, [.int .u64 0], .int .u64⟩),
 (44, ⟨1, 24, false, [.nils], .slice 3⟩),
 (49, ⟨1, 24, false, [.nils], .slice 22⟩),
 (35, ⟨1, 8, false, [.int .u64 0], .int .u64⟩),
 (70, ⟨1, 24, true, [.nils], .struct [(0, 68)]⟩),
 (111, ⟨1, 8, false, [.nilp], .ptr⟩),
 (256, ⟨1, 8, false, [.int .u64 0], .int .u64⟩),
 (133, ⟨4, 48, true, [.nilp, .int .u64 0, .nils, .nilm], .struct [(0, 130), (1, 56), (2, 44), (3, 131)]⟩),
 (67, ⟨1, 8, false, [.nilp], .ptr⟩),
 (260, ⟨1, 8, false, [.nilp], .ptr⟩),
 (104, ⟨1, 8, false, [.nilm], .map 56 111⟩),
 (195, ⟨1, 8, false, [.nilf], .func⟩),
 (108, ⟨3, 24, true, [.nilm, .nilm, .nilm], .struct [(0, 104), (1, 105), (2, 106)]⟩),
 (177, ⟨1, 8, false, [.nilf], .func⟩),
 (130, ⟨1, 8, false, [.nilp], .ptr⟩),
 (165, ⟨2, 16, true, [.int .i64 0, .int .i64 0], .struct [(0, 3), (1, 3)]⟩),
 (189, ⟨2, 32, true, [.nils, .int .i64 0], .struct [(0, 57), (1, 3)]⟩),
 (200, ⟨64, 64, true, (List.replicate 64 (.ff)), .array 64 4⟩),
 (231, ⟨2, 32, true, [.nils, .int .i64 0], .struct [(0, 22), (1, 3)]⟩),
 (105, ⟨1, 8, false, [.nilm], .map 28 113⟩),
 (131, ⟨1, 8, false, [.nilm], .map 3 178⟩),
 (98, ⟨4, 32, true, [.int .i64 0, .int .i64 0, .int .i64 0, .int .i64 0], .struct [(0, 3), (1, 3), (2, 3), (3, 3)]⟩),
 (4, ⟨1, 1, false, [.ff], .bool⟩),
 (178, ⟨1, 8, false, [.nilp], .ptr⟩),
 (150, ⟨1, 24, false, [.nils], .slice 55⟩),
 (94, ⟨3, 40, true, [.nils, .int .u64 0, .int .u64 0], .struct [(0, 49), (1, 55), (2, 55)]⟩),
 (159, ⟨2, 32, true, [.nilp, .nils], .struct [(0, 158), (1, 44)]⟩),
 (248, ⟨1, 4, false, [.int .u32 0], .int .u32⟩),
 (50, ⟨1, 24, false, [.nils], .slice 52⟩),
 (240, ⟨1, 8, false, [.int .i64 0], .int .i64⟩),
 (5, ⟨1, 1, false, [.int .u8 0], .int .u8⟩),
 (106, ⟨1, 8, false, [.nilm], .map 210 56⟩),
 (126, ⟨1, 24, false, [.nils], .slice 30⟩),
 (210, ⟨2, 16, true, [.int .u64 0, .int .i64 0], .struct [(0, 56), (1, 3)]⟩),
 (124, ⟨1, 8, false, [.nilf], .func⟩),
 (160, ⟨1, 24, false, [.nils], .slice 159⟩),
 (120, ⟨1, 8, false, [.nilf], .func⟩),
 (156, ⟨1, 8, false, [.nilf], .func⟩),
 (191, ⟨1, 8, false, [.nilf], .func⟩),
 (215, ⟨1, 8, false, [.nilp], .ptr⟩),
 (158, ⟨1, 8, false, [.nilp], .ptr⟩),
 (20, ⟨1, 16, false, [.nili], .iface⟩),
 (232, ⟨1, 8, false, [.nilp], .ptr⟩),
 (255, ⟨64, 64, true, (List.replicate 64 (.int .u8 0)), .array 64 5⟩),
 (276, ⟨1, 8, false, [.nilp], .ptr⟩)]
noncomputable def encs : List (Nat × EncA) := [(55, ⟨Int, Zz.encU⟩), (56, ⟨Int, Zz.encU⟩), (5, ⟨Int, Zz.enc8⟩), (34, ⟨Go.Px.V3, Zz.encV⟩), (37, ⟨((Int × Int) × Zz.Hdr), Zz.encE⟩), (3, ⟨Int, Zz.encI⟩), (4, ⟨Bool, Zz.encB⟩), (28, ⟨(Int × Int), Zz.encP Zz.encI Zz.encI⟩), (165, ⟨(Int × Int), Zz.encP Zz.encI Zz.encI⟩), (98, ⟨(Int × Int × Int × Int), Zz.encP Zz.encI (Zz.encP Zz.encI (Zz.encP Zz.encI Zz.encI))⟩)]
noncomputable def eqs : List (Nat × List LK) := [(28, [.int .i64, .int .i64]), (34, [.int .i64, .int .i64, .int .i64]), (78, [.int .u64, .int .u64])]
noncomputable def Gm (E : Nat → Addr) : Ctx := { P := Tryz.prog, Δ := ⟨E, 276⟩, tb := tb, errs := [3, 2, 0, 5, 1], encs := encs, eqs := eqs }
theorem tbOk (Δ : Env0) : AllTb (TiOk Tryz.prog Δ) tb := ⟨TiOk.of (by kernel_rfl) (by rw [Tryz.underlying3]; rfl) Tryz.underlying3 rfl rfl rfl, 
 ⟨TiOk.of (by kernel_rfl) (by rw [Tryz.underlying28]; rfl) ⟨_, ⟨Tryz.underlying28, by kernel_rfl⟩, by kernel_rfl⟩ rfl rfl rfl, 
 ⟨TiOk.of (by kernel_rfl) (by rw [Tryz.underlying34]; rfl) ⟨_, ⟨Tryz.underlying34, by kernel_rfl⟩, by kernel_rfl⟩ rfl rfl rfl, 
 ⟨TiOk.of (by kernel_rfl) (by rw [Tryz.underlying22]; rfl) Tryz.underlying22 rfl rfl rfl, 
 ⟨TiOk.of (by kernel_rfl) (by rw [Tryz.underlying57]; rfl) Tryz.underlying57 rfl rfl rfl, 
 ⟨TiOk.of (by kernel_rfl) (by rw [Tryz.underlying56]; rfl) Tryz.underlying56 rfl rfl rfl, 
 ⟨TiOk.of (by kernel_rfl) (by rw [Tryz.underlying37]; rfl) ⟨_, ⟨Tryz.underlying37, by kernel_rfl⟩, by kernel_rfl⟩ rfl rfl rfl, 
 ⟨TiOk.of (by kernel_rfl) (by rw [Tryz.underlying41]; rfl) Tryz.underlying41 rfl rfl rfl, 
 ⟨TiOk.of (by kernel_rfl) (by rw [Tryz.underlying30]; rfl) ⟨_, Tryz.underlying30⟩ rfl rfl rfl, 
 ⟨TiOk.of (by kernel_rfl) (by rw [Tryz.underlying78]; rfl) ⟨_, ⟨Tryz.underlying78, by kernel_rfl⟩, by kernel_rfl⟩ rfl rfl rfl, 
 ⟨TiOk.of (by kernel_rfl) (by rw [Tryz.underlying68]; rfl) Tryz.underlying68 rfl rfl rfl, 
 ⟨TiOk.of (by kernel_rfl) (by rw [Tryz.underlying25]; rfl) ⟨_, Tryz.underlying25⟩ rfl rfl rfl, 
 ⟨TiOk.of (by kernel_rfl) (by rw [Tryz.underlying113]; rfl) ⟨_, ⟨Tryz.underlying113, by kernel_rfl⟩, by kernel_rfl⟩ rfl rfl rfl, 
 ⟨TiOk.of (by kernel_rfl) (by rw [Tryz.underlying171]; rfl) ⟨_, ⟨Tryz.underlying171, by kernel_rfl⟩, by kernel_rfl⟩ rfl rfl rfl, 
 ⟨TiOk.of (by kernel_rfl) (by rw [Tryz.underlying52]; rfl) ⟨_, ⟨Tryz.underlying52, by kernel_rfl⟩, by kernel_rfl⟩ rfl rfl rfl, 
 ⟨TiOk.of (by kernel_rfl) (by rw [Tryz.underlying55]; rfl) Tryz.underlying55 rfl rfl rfl, 
 ⟨TiOk.of (by kernel_rfl) (by rw [Tryz.underlying44]; rfl) Tryz.underlying44 rfl rfl rfl, 
 ⟨TiOk.of (by kernel_rfl) (by rw [Tryz.underlying49]; rfl) Tryz.underlying49 rfl rfl rfl, 
 ⟨TiOk.of (by kernel_rfl) (by rw [Tryz.underlying35]; rfl) Tryz.underlying35 rfl rfl rfl, 
 ⟨TiOk.of (by kernel_rfl) (by rw [Tryz.underlying70]; rfl) ⟨_, ⟨Tryz.underlying70, by kernel_rfl⟩, by kernel_rfl⟩ rfl rfl rfl, 
 ⟨TiOk.of (by kernel_rfl) (by rw [Tryz.underlying111]; rfl) ⟨_, Tryz.underlying111⟩ rfl rfl rfl, 
 ⟨TiOk.of (by kernel_rfl) (by rw [Tryz.underlying256]; rfl) Tryz.underlying256 rfl rfl rfl, 
 ⟨TiOk.of (by kernel_rfl) (by rw [Tryz.underlying133]; rfl) ⟨_, ⟨Tryz.underlying133, by kernel_rfl⟩, by kernel_rfl⟩ rfl rfl rfl, 
 ⟨TiOk.of (by kernel_rfl) (by rw [Tryz.underlying67]; rfl) ⟨_, Tryz.underlying67⟩ rfl rfl rfl, 
 ⟨TiOk.of (by kernel_rfl) (by rw [Tryz.underlying260]; rfl) ⟨_, Tryz.underlying260⟩ rfl rfl rfl, 
 ⟨TiOk.of (by kernel_rfl) (by rw [Tryz.underlying104]; rfl) Tryz.underlying104 rfl rfl rfl, 
 ⟨TiOk.of (by kernel_rfl) (by rw [Tryz.underlying195]; rfl) ⟨_, _, _, Tryz.underlying195⟩ rfl rfl rfl, 
 ⟨TiOk.of (by kernel_rfl) (by rw [Tryz.underlying108]; rfl) ⟨_, ⟨Tryz.underlying108, by kernel_rfl⟩, by kernel_rfl⟩ rfl rfl rfl, 
 ⟨TiOk.of (by kernel_rfl) (by rw [Tryz.underlying177]; rfl) ⟨_, _, _, Tryz.underlying177⟩ rfl rfl rfl, 
 ⟨TiOk.of (by kernel_rfl) (by rw [Tryz.underlying130]; rfl) ⟨_, Tryz.underlying130⟩ rfl rfl rfl, 
 ⟨TiOk.of (by kernel_rfl) (by rw [Tryz.underlying165]; rfl) ⟨_, ⟨Tryz.underlying165, by kernel_rfl⟩, by kernel_rfl⟩ rfl rfl rfl, 
 ⟨TiOk.of (by kernel_rfl) (by rw [Tryz.underlying189]; rfl) ⟨_, ⟨Tryz.underlying189, by kernel_rfl⟩, by kernel_rfl⟩ rfl rfl rfl, 
 ⟨TiOk.of (by kernel_rfl) (by rw [Tryz.underlying200]; rfl) Tryz.underlying200 rfl rfl rfl, 
 ⟨TiOk.of (by kernel_rfl) (by rw [Tryz.underlying231]; rfl) ⟨_, ⟨Tryz.underlying231, by kernel_rfl⟩, by kernel_rfl⟩ rfl rfl rfl, 
 ⟨TiOk.of (by kernel_rfl) (by rw [Tryz.underlying105]; rfl) Tryz.underlying105 rfl rfl rfl, 
 ⟨TiOk.of (by kernel_rfl) (by rw [Tryz.underlying131]; rfl) Tryz.underlying131 rfl rfl rfl, 
 ⟨TiOk.of (by kernel_rfl) (by rw [Tryz.underlying98]; rfl) ⟨_, ⟨Tryz.underlying98, by kernel_rfl⟩, by kernel_rfl⟩ rfl rfl rfl, 
 ⟨TiOk.of (by kernel_rfl) (by rw [Tryz.underlying4]; rfl) Tryz.underlying4 rfl rfl rfl, 
 ⟨TiOk.of (by kernel_rfl) (by rw [Tryz.underlying178]; rfl) ⟨_, Tryz.underlying178⟩ rfl rfl rfl, 
 ⟨TiOk.of (by kernel_rfl) (by rw [Tryz.underlying150]; rfl) Tryz.underlying150 rfl rfl rfl, 
 ⟨TiOk.of (by kernel_rfl) (by rw [Tryz.underlying94]; rfl) ⟨_, ⟨Tryz.underlying94, by kernel_rfl⟩, by kernel_rfl⟩ rfl rfl rfl, 
 ⟨TiOk.of (by kernel_rfl) (by rw [Tryz.underlying159]; rfl) ⟨_, ⟨Tryz.underlying159, by kernel_rfl⟩, by kernel_rfl⟩ rfl rfl rfl, 
 ⟨TiOk.of (by kernel_rfl) (by rw [Tryz.underlying248]; rfl) Tryz.underlying248 rfl rfl rfl, 
 ⟨TiOk.of (by kernel_rfl) (by rw [Tryz.underlying50]; rfl) Tryz.underlying50 rfl rfl rfl, 
 ⟨TiOk.of (by kernel_rfl) (by rw [Tryz.underlying240]; rfl) Tryz.underlying240 rfl rfl rfl, 
 ⟨TiOk.of (by kernel_rfl) (by rw [Tryz.underlying5]; rfl) Tryz.underlying5 rfl rfl rfl, 
 ⟨TiOk.of (by kernel_rfl) (by rw [Tryz.underlying106]; rfl) Tryz.underlying106 rfl rfl rfl, 
 ⟨TiOk.of (by kernel_rfl) (by rw [Tryz.underlying126]; rfl) Tryz.underlying126 rfl rfl rfl, 
 ⟨TiOk.of (by kernel_rfl) (by rw [Tryz.underlying210]; rfl) ⟨_, ⟨Tryz.underlying210, by kernel_rfl⟩, by kernel_rfl⟩ rfl rfl rfl, 
 ⟨TiOk.of (by kernel_rfl) (by rw [Tryz.underlying124]; rfl) ⟨_, _, _, Tryz.underlying124⟩ rfl rfl rfl, 
 ⟨TiOk.of (by kernel_rfl) (by rw [Tryz.underlying160]; rfl) Tryz.underlying160 rfl rfl rfl, 
 ⟨TiOk.of (by kernel_rfl) (by rw [Tryz.underlying120]; rfl) ⟨_, _, _, Tryz.underlying120⟩ rfl rfl rfl, 
 ⟨TiOk.of (by kernel_rfl) (by rw [Tryz.underlying156]; rfl) ⟨_, _, _, Tryz.underlying156⟩ rfl rfl rfl, 
 ⟨TiOk.of (by kernel_rfl) (by rw [Tryz.underlying191]; rfl) ⟨_, _, _, Tryz.underlying191⟩ rfl rfl rfl, 
 ⟨TiOk.of (by kernel_rfl) (by rw [Tryz.underlying215]; rfl) ⟨_, Tryz.underlying215⟩ rfl rfl rfl, 
 ⟨TiOk.of (by kernel_rfl) (by rw [Tryz.underlying158]; rfl) ⟨_, Tryz.underlying158⟩ rfl rfl rfl, 
 ⟨TiOk.of (by kernel_rfl) (by rw [Tryz.underlying20]; rfl) ⟨_, Tryz.underlying20⟩ rfl rfl rfl, 
 ⟨TiOk.of (by kernel_rfl) (by rw [Tryz.underlying232]; rfl) ⟨_, Tryz.underlying232⟩ rfl rfl rfl, 
 ⟨TiOk.of (by kernel_rfl) (by rw [Tryz.underlying255]; rfl) Tryz.underlying255 rfl rfl rfl, 
 ⟨TiOk.of (by kernel_rfl) (by rw [Tryz.underlying276]; rfl) ⟨_, Tryz.underlying276⟩ rfl rfl rfl, trivial⟩⟩⟩⟩⟩⟩⟩⟩⟩⟩⟩⟩⟩⟩⟩⟩⟩⟩⟩⟩⟩⟩⟩⟩⟩⟩⟩⟩⟩⟩⟩⟩⟩⟩⟩⟩⟩⟩⟩⟩⟩⟩⟩⟩⟩⟩⟩⟩⟩⟩⟩⟩⟩⟩⟩⟩⟩⟩⟩⟩
theorem eqv28 (x0 : Int) (x1 : Int) (y0 : Int) (y1 : Int) : eqVal Tryz.prog Op.maxDepth 28 (.agg #[.int .i64 x0, .int .i64 x1]) (.agg #[.int .i64 y0, .int .i64 y1]) = some (leavesB [.int .i64 x0, .int .i64 x1] [.int .i64 y0, .int .i64 y1]) := by kernel_rfl
theorem okVs28 {l : List Value} (h : okVs [.int .i64, .int .i64] l) : ∃ x0 x1, l = [.int .i64 x0, .int .i64 x1] := by
  match l, h with
  | [_, _], ⟨⟨x0, rfl⟩, ⟨x1, rfl⟩, _⟩ => exact ⟨x0, x1, rfl⟩
theorem eqOk28 : EqOk Tryz.prog 28 [.int .i64, .int .i64] := ⟨by kernel_rfl, fun xs ys hx hy w => by
  obtain ⟨x0, x1, rfl⟩ := okVs28 hx
  obtain ⟨y0, y1, rfl⟩ := okVs28 hy
  exact eqVal_sound _ _ _ _ _ (eqv28 _ _ _ _)⟩
theorem eqv34 (x0 : Int) (x1 : Int) (x2 : Int) (y0 : Int) (y1 : Int) (y2 : Int) : eqVal Tryz.prog Op.maxDepth 34 (.agg #[.int .i64 x0, .int .i64 x1, .int .i64 x2]) (.agg #[.int .i64 y0, .int .i64 y1, .int .i64 y2]) = some (leavesB [.int .i64 x0, .int .i64 x1, .int .i64 x2] [.int .i64 y0, .int .i64 y1, .int .i64 y2]) := by kernel_rfl
theorem okVs34 {l : List Value} (h : okVs [.int .i64, .int .i64, .int .i64] l) : ∃ x0 x1 x2, l = [.int .i64 x0, .int .i64 x1, .int .i64 x2] := by
  match l, h with
  | [_, _, _], ⟨⟨x0, rfl⟩, ⟨x1, rfl⟩, ⟨x2, rfl⟩, _⟩ => exact ⟨x0, x1, x2, rfl⟩
theorem eqOk34 : EqOk Tryz.prog 34 [.int .i64, .int .i64, .int .i64] := ⟨by kernel_rfl, fun xs ys hx hy w => by
  obtain ⟨x0, x1, x2, rfl⟩ := okVs34 hx
  obtain ⟨y0, y1, y2, rfl⟩ := okVs34 hy
  exact eqVal_sound _ _ _ _ _ (eqv34 _ _ _ _ _ _)⟩
theorem eqv78 (x0 : Int) (x1 : Int) (y0 : Int) (y1 : Int) : eqVal Tryz.prog Op.maxDepth 78 (.agg #[.int .u64 x0, .int .u64 x1]) (.agg #[.int .u64 y0, .int .u64 y1]) = some (leavesB [.int .u64 x0, .int .u64 x1] [.int .u64 y0, .int .u64 y1]) := by kernel_rfl
theorem okVs78 {l : List Value} (h : okVs [.int .u64, .int .u64] l) : ∃ x0 x1, l = [.int .u64 x0, .int .u64 x1] := by
  match l, h with
  | [_, _], ⟨⟨x0, rfl⟩, ⟨x1, rfl⟩, _⟩ => exact ⟨x0, x1, rfl⟩
theorem eqOk78 : EqOk Tryz.prog 78 [.int .u64, .int .u64] := ⟨by kernel_rfl, fun xs ys hx hy w => by
  obtain ⟨x0, x1, rfl⟩ := okVs78 hx
  obtain ⟨y0, y1, rfl⟩ := okVs78 hy
  exact eqVal_sound _ _ _ _ _ (eqv78 _ _ _ _)⟩
theorem eqsOk : AllTb (EqOk Tryz.prog) eqs := ⟨eqOk28, ⟨eqOk34, ⟨eqOk78, trivial⟩⟩⟩
theorem gmOk (E : Nat → Addr) : (Gm E).Ok := ⟨(tbOk _).lk, eqsOk.lk, by kernel_rfl⟩
end Go.Proofs.YtcnbngiplfoomaaGreatDoor
namespace Go.Proofs.YtcnbngiplfoomaaGreatDoor
open Go.Zz Go.Px
set_option linter.unusedVariables false
set_option linter.unusedSectionVars false
set_option linter.unusedSimpArgs false
set_option maxRecDepth 10000
theorem bitI_and {a b : Nat} (ha : a < 2 ^ 64) (hb : b < 2 ^ 64) : bitI .and .u64 (a : Int) (b : Int) = ((a &&& b : Nat) : Int) := by have := and_u64 ha hb; simpa [bitI] using this
theorem bitI_or {a b : Nat} (ha : a < 2 ^ 64) (hb : b < 2 ^ 64) : bitI .or .u64 (a : Int) (b : Int) = ((a ||| b : Nat) : Int) := by have := or_u64 ha hb; simpa [bitI] using this
theorem bitI_less {a b : Nat} (ha : a < 2 ^ 64) (hb : b < 2 ^ 64) : bitI .andNot .u64 (a : Int) (b : Int) = ((lessN a b : Nat) : Int) := by have := andNot_u64 ha hb; simpa [bitI] using this
def hasM (M : Nat) (k : Int) : Bool := okK k && M.testBit k.toNat
theorem pw_bit {k : Int} (h : 0 ≤ k ∧ k ≤ 9) : (1 * 2 ^ (min k.toNat IntKind.u64.bits) : Int) = ((bitN k : Nat) : Int) := by
  have : min k.toNat IntKind.u64.bits = k.toNat := by rw [bits_u64]; omega
  rw [this]; unfold bitN; simp
theorem bitN_fit {k : Int} (h : 0 ≤ k ∧ k ≤ 9) : (0 : Int) ≤ ((bitN k : Nat) : Int) ∧ ((bitN k : Nat) : Int) ≤ 18446744073709551615 := by have := bitN_lt' h; omega
theorem bitN_ne (k : Int) : ¬ ((bitN k : Nat) : Int) = 0 := by have := bitN_pos k; omega
set_option maxHeartbeats 4000000 in
theorem bit_ok (E : Nat → Addr) (k : Int) (h : 0 ≤ k ∧ k ≤ 9) : Does (Gm E) 101 (Sp0 [.int .i64 k] [] 0 (.int .u64 ((bitN k : Nat) : Int))) := by
  rename 0 ≤ k ∧ k ≤ 9 => hb
  refine fn_intro (gmOk E) 11 0 [] Tryz.func101 rfl rfl rfl rfl rfl ?_
  repeat' first | (intro h; first | (exfalso; omega; done) | skip) | (refine And.intro ?_ ?_) | exact True.intro | (refine @Exists.intro Unit _ () ?_) | (refine @Exists.intro (_ = _) _ rfl ?_)
  all_goals first | rfl | omega | (rw [pw_bit hb]; first | rfl | exact bitN_fit hb | exact (bitN_fit hb).1 | exact (bitN_fit hb).2) | exact (pw_bit hb).symm | exact pw_bit hb
theorem maskI_lt : ∀ {l : List Int}, kindsOk l = true → maskI l < 2 ^ 10 := by
  intro l
  refine snoc_ind (m := fun l => kindsOk l = true → maskI l < 2 ^ 10) (fun _ => by decide) (fun l x ih h => ?_) l
  unfold kindsOk at h
  rw [List.all_append, Bool.and_eq_true] at h
  have h2 : 0 ≤ x ∧ x ≤ 9 := by simpa [okK] using h.2
  have e : maskI (l ++ [x]) = maskI l ||| bitN x := by unfold maskI; rw [List.foldl_append]; rfl
  rw [e]; exact Nat.or_lt_two_pow (ih h.1) (bitN_lt h2)
theorem maskI_lt64 {l : List Int} (h : kindsOk l = true) : maskI l < 2 ^ 64 := Nat.lt_of_lt_of_le (maskI_lt h) (by decide)
theorem kinds_take2 {l : List Int} (h : kindsOk l = true) (n : Nat) : kindsOk (l.take n) = true := by
  unfold kindsOk at *; rw [List.all_eq_true] at *; exact fun x hx => h x (List.mem_of_mem_take hx)
theorem kinds_at2 {l : List Int} (h : kindsOk l = true) {i : Int} (hi : 0 ≤ i ∧ i < (l.length : Nat)) : 0 ≤ l.getD i.toNat 0 ∧ l.getD i.toNat 0 ≤ 9 := by
  unfold kindsOk at h; rw [List.all_eq_true] at h
  have := h (l.getD i.toNat 0) (by rw [List.getD_eq_getElem?_getD, List.getElem?_eq_getElem (by omega)]; exact List.getElem_mem _)
  simpa [okK] using this
theorem maskI_next2 {l : List Int} {i : Int} (hi : 0 ≤ i ∧ i < (l.length : Nat)) : maskI (l.take (i + 1).toNat) = maskI (l.take i.toNat) ||| bitN (l.getD i.toNat 0) := by
  rw [take_nextI (d := 0) hi]; unfold maskI; rw [List.foldl_append]; rfl
theorem maskI_all {l : List Int} {i : Int} (h1 : i ≤ (l.length : Nat)) (h2 : ¬ i < (l.length : Nat)) : maskI (l.take i.toNat) = maskI l := by rw [List.take_of_length_le (by omega)]
set_option maxHeartbeats 4000000 in
theorem mof_ok (E : Nat → Addr) (l : List Int) (n k : Nat) (h : n = l.length ∧ kindsOk l = true ∧ l.length ≤ 1000000) : Does (Gm E) 93 (Sp0 [.sl 0 n k] [(0, .ro Int Zz.encI l k)] 1 (.tup [.int .u64 ((maskI l : Nat) : Int), .nili])) := by
  obtain ⟨rfl, hk, hm⟩ := h
  refine fn_intro (gmOk E) 24 1 [] Tryz.func93 rfl rfl rfl rfl rfl ?_
  repeat' first | (intro h; first | (exfalso; omega; done) | (exfalso; exact bitN_ne _ h; done) | skip) | (refine And.intro ?_ ?_) | exact True.intro | (refine @Exists.intro Unit _ () ?_) | (refine @Exists.intro (_ = _) _ rfl ?_) | (change LoopGoal _ _ _ _ _ _; refine loop_at 3 (gmOk E) rfl [] (X := Int) (fun i => [(10, .int .i64 i), (4, .int .u64 (((maskI (l.take i.toNat)) : Nat) : Int))]) (fun i => []) [] (fun i => 0 ≤ i ∧ i ≤ (l.length : Nat)) (fun i => l.length - i.toNat) ⟨0, ?_⟩ (fun i hI => ?_)) | (change @Exists (Int) (fun _ => updK _ _ _ _ _ _); refine @Exists.intro (Int) _ ((?_)) ?_; rotate_left 1) | (change DrawGoal _ _ _ _ _ _; first | (change DrawGoal _ _ _ ({ dst := some 18, op := _, type := _, pos := _, after := _, guard := _ } :: _) _ _; refine draw_tree (gmOk E) [0] (.leaf [(0, true), (1, true), (2, true)]) (by kernel_rfl) ?_)) | (change CallGoal _ _ _ _ _ _; first | (refine call0 (bit_ok E (l.getD i.toNat 0) (kinds_at2 hk ⟨hI.1, ‹i < _›⟩)) [] rfl True.intro rfl ?_))
  all_goals first
| (dsimp only; first | rfl | omega)
| rfl
| omega
| (rw [maskI_next2 ⟨hI.1, by assumption⟩]; exact bitI_or (maskI_lt64 (kinds_take2 hk _)) (bitN_lt' (kinds_at2 hk ⟨hI.1, by assumption⟩)))
| (dsimp only; rw [maskI_next2 ⟨hI.1, by assumption⟩]; exact (bitI_or (maskI_lt64 (kinds_take2 hk _)) (bitN_lt' (kinds_at2 hk ⟨hI.1, by assumption⟩))).symm)
| exact congrArg (fun q : Nat => (q : Int)) (maskI_all hI.2 ‹¬ i < _›)
| exact congrArg (fun q : Nat => (q : Int)) (maskI_all hI.2 ‹¬ i < _›).symm
end Go.Proofs.YtcnbngiplfoomaaGreatDoor
namespace Go.Proofs.YtcnbngiplfoomaaGreatDoor
open Go.Zz Go.Px
set_option linter.unusedVariables false
set_option linter.unusedSectionVars false
set_option linter.unusedSimpArgs false
set_option maxRecDepth 10000
set_option maxHeartbeats 4000000 in
theorem mwith_f (E : Nat → Addr) (a b : Nat) (h : a < 2 ^ 64 ∧ b < 2 ^ 64) : Does (Gm E) 91 (Sp0 [.int .u64 ((a : Nat) : Int), .int .u64 ((b : Nat) : Int)] [] 0 (.int .u64 ((a ||| b : Nat) : Int))) := by
  refine fn_intro (gmOk E) 8 0 [] Tryz.func91 rfl rfl rfl rfl rfl ?_
  repeat' first | (intro h; first | (exfalso; omega; done) | skip) | (refine And.intro ?_ ?_) | exact True.intro | (refine @Exists.intro Unit _ () ?_) | (refine @Exists.intro (_ = _) _ rfl ?_)
  all_goals first | rfl | omega | exact bitI_or h.1 h.2 | exact (bitI_or h.1 h.2).symm
set_option maxHeartbeats 4000000 in
theorem mwith_c (E : Nat → Addr) (M : Nat) (l : List Int) (n k : Nat) (h : n = l.length ∧ kindsOk l = true ∧ l.length ≤ 1000000 ∧ M < 2 ^ 64) : Does (Gm E) 90 (Sp0 [.int .u64 ((M : Nat) : Int), .fn 91 [], .sl 0 n k] [(0, .ro Int Zz.encI l k)] 1 (.tup [.int .u64 ((M ||| maskI l : Nat) : Int), .nili])) := by
  obtain ⟨rfl, hk, hm, hM⟩ := h
  refine fn_intro (gmOk E) 22 1 [] Tryz.func90 rfl rfl rfl rfl rfl ?_
  repeat' first | (intro h; first | (exfalso; omega; done) | skip) | (refine And.intro ?_ ?_) | exact True.intro | (refine @Exists.intro Unit _ () ?_) | (refine @Exists.intro (_ = _) _ rfl ?_) | (change CallGoal _ _ _ _ _ _; first | (refine call0 (mof_ok E l _ k ⟨rfl, hk, hm⟩) [0] rfl (And.intro rfl True.intro) rfl ?_) | (refine call0 (mwith_f E M (maskI l) ⟨hM, maskI_lt64 hk⟩) [] rfl True.intro rfl ?_))
  all_goals first | rfl | omega
set_option maxHeartbeats 4000000 in
theorem mwith_z (E : Nat → Addr) (M : Nat) (l : List Int) (n k : Nat) (h : n = l.length ∧ kindsOk l = true ∧ l.length ≤ 1000000 ∧ M < 2 ^ 64) : Does (Gm E) 41 (Sp0 [.int .u64 ((M : Nat) : Int), .sl 0 n k] [(0, .ro Int Zz.encI l k)] 1 (.tup [.int .u64 ((M ||| maskI l : Nat) : Int), .nili])) := by
  refine fn_intro (gmOk E) 11 1 [] Tryz.func41 rfl rfl rfl rfl rfl ?_
  repeat' first | (intro h; first | (exfalso; omega; done) | skip) | (refine And.intro ?_ ?_) | exact True.intro | (refine @Exists.intro Unit _ () ?_) | (refine @Exists.intro (_ = _) _ rfl ?_) | (change CallGoal _ _ _ _ _ _; first | (refine call0 (mwith_c E M l n k h) [0] rfl (And.intro rfl True.intro) rfl ?_))
  all_goals first | rfl | omega
def rA (k : Int) : Int × Int := if k = 0 ∨ k = 2 then (-1048576, 1048576) else if k = 1 then (0, 1048576) else if k = 3 then (0, 0) else if k = 4 then (0, 255) else if k = 5 then (0, 1048576) else (-4194304, 4194304)
def rB (k : Int) : Int × Int := if k = 0 ∨ k = 2 then (-1048576, 1048576) else if k = 1 then (0, 1048576) else if k = 3 then (0, 0) else if k = 4 then (0, 0) else if k = 5 then (0, 0) else (-4194304, 4194304)
theorem vrange_iff {v : V3} : vrange v = true ↔ ((rA v.k).1 ≤ v.a ∧ v.a ≤ (rA v.k).2) ∧ ((rB v.k).1 ≤ v.b ∧ v.b ≤ (rB v.k).2) := by
  unfold vrange rA rB
  repeat' split
  all_goals simp only [decide_eq_true_eq] <;> omega
theorem check_parts {v : V3} : (vcheck v = 0 ↔ (0 ≤ v.k ∧ v.k ≤ 9) ∧ vrange v = true) ∧ (vcheck v = 1 ↔ (0 ≤ v.k ∧ v.k ≤ 9) ∧ ¬ vrange v = true) ∧ (vcheck v = 5 ↔ ¬ (0 ≤ v.k ∧ v.k ≤ 9)) := by
  unfold vcheck vkind
  by_cases h : 0 ≤ v.k ∧ v.k ≤ 9
  · simp only [h, and_self, decide_true, if_true, true_and, not_true]
    cases vrange v <;> simp
  · simp [h]
set_option maxHeartbeats 4000000 in
theorem ranges_ok (E : Nat → Addr) (k : Int) (h : 0 ≤ k ∧ k ≤ 9) : Does (Gm E) 99 (Sp0 [.int .i64 k] [] 0 (.tup [.agg [.int .i64 (rA k).1, .int .i64 (rA k).2], .agg [.int .i64 (rB k).1, .int .i64 (rB k).2], .tt])) := by
  rename 0 ≤ k ∧ k ≤ 9 => hb
  refine fn_intro (gmOk E) 50 0 [] Tryz.func99 rfl rfl rfl rfl rfl ?_
  repeat' first | (intro h; first | (exfalso; omega; done) | skip) | (refine And.intro ?_ ?_) | exact True.intro | (refine @Exists.intro Unit _ () ?_) | (refine @Exists.intro (_ = _) _ rfl ?_) | (change DrawGoal _ _ _ _ _ _; first | (change DrawGoal _ _ _ ({ dst := some 14, op := _, type := _, pos := _, after := _, guard := _ } :: _) _ _; refine draw_tree (gmOk E) [2] (.leaf [(0, true), (1, true), (2, false), (3, false), (4, true)]) (by kernel_rfl) ?_) | (change DrawGoal _ _ _ ({ dst := some 35, op := _, type := _, pos := _, after := _, guard := _ } :: _) _ _; refine draw_tree (gmOk E) [2] (.leaf [(0, true), (1, true), (2, false), (3, false), (4, true)]) (by kernel_rfl) ?_) | (change DrawGoal _ _ _ ({ dst := some 40, op := _, type := _, pos := _, after := _, guard := _ } :: _) _ _; refine draw_tree (gmOk E) [2] (.leaf [(0, true), (1, true), (2, false), (3, false), (4, true)]) (by kernel_rfl) ?_) | (change DrawGoal _ _ _ ({ dst := some 45, op := _, type := _, pos := _, after := _, guard := _ } :: _) _ _; refine draw_tree (gmOk E) [2] (.leaf [(0, true), (1, true), (2, false), (3, false), (4, true)]) (by kernel_rfl) ?_))
  all_goals first | rfl | omega | (simp only [rA, rB]; repeat' split) <;> first | rfl | omega
set_option maxHeartbeats 4000000 in
theorem ranges_no (E : Nat → Addr) (k : Int) (h : ¬ (0 ≤ k ∧ k ≤ 9)) : Does (Gm E) 99 (Sp0 [.int .i64 k] [] 0 (.tup [.agg [.int .i64 0, .int .i64 0], .agg [.int .i64 0, .int .i64 0], .ff])) := by
  rename ¬ (0 ≤ k ∧ k ≤ 9) => hb
  refine fn_intro (gmOk E) 50 0 [] Tryz.func99 rfl rfl rfl rfl rfl ?_
  repeat' first | (intro h; first | (exfalso; omega; done) | skip) | (refine And.intro ?_ ?_) | exact True.intro | (refine @Exists.intro Unit _ () ?_) | (refine @Exists.intro (_ = _) _ rfl ?_) | (change DrawGoal _ _ _ _ _ _; first | (change DrawGoal _ _ _ ({ dst := some 14, op := _, type := _, pos := _, after := _, guard := _ } :: _) _ _; refine draw_tree (gmOk E) [2] (.leaf [(0, true), (1, true), (2, false), (3, false), (4, true)]) (by kernel_rfl) ?_) | (change DrawGoal _ _ _ ({ dst := some 35, op := _, type := _, pos := _, after := _, guard := _ } :: _) _ _; refine draw_tree (gmOk E) [2] (.leaf [(0, true), (1, true), (2, false), (3, false), (4, true)]) (by kernel_rfl) ?_) | (change DrawGoal _ _ _ ({ dst := some 40, op := _, type := _, pos := _, after := _, guard := _ } :: _) _ _; refine draw_tree (gmOk E) [2] (.leaf [(0, true), (1, true), (2, false), (3, false), (4, true)]) (by kernel_rfl) ?_) | (change DrawGoal _ _ _ ({ dst := some 45, op := _, type := _, pos := _, after := _, guard := _ } :: _) _ _; refine draw_tree (gmOk E) [2] (.leaf [(0, true), (1, true), (2, false), (3, false), (4, true)]) (by kernel_rfl) ?_))
  all_goals first | rfl | omega
set_option maxHeartbeats 4000000 in
theorem has_z (E : Nat → Addr) (s : Int × Int) (n : Int) : Does (Gm E) 100 (Sp0 [.agg [.int .i64 (s).1, .int .i64 (s).2], .int .i64 n] [] 0 (.dc (s.1 ≤ n ∧ n ≤ s.2) inferInstance)) := by
  refine fn_intro (gmOk E) 15 0 [] Tryz.func100 rfl rfl rfl rfl rfl ?_
  repeat' first | (intro h; first | (exfalso; omega; done) | skip) | (refine And.intro ?_ ?_) | exact True.intro | (refine @Exists.intro Unit _ () ?_) | (refine @Exists.intro (_ = _) _ rfl ?_)
  all_goals first | rfl | omega | (refine decide_eq_decide.2 ?_; omega)
set_option maxHeartbeats 4000000 in
theorem check_ok (E : Nat → Addr) (v : V3) (h : vcheck v = 0) : Does (Gm E) 59 (Sp0 [.agg [.int .i64 v.k, .int .i64 v.a, .int .i64 v.b]] [] 0 (.nili)) := by
  have hk := (check_parts.1.1 h).1; have hr := vrange_iff.1 (check_parts.1.1 h).2
  refine fn_intro (gmOk E) 31 0 [] Tryz.func59 rfl rfl rfl rfl rfl ?_
  repeat' first | (intro h; first | (exfalso; omega; done) | (exfalso; first | exact h trivial | omega; done) | skip) | (refine And.intro ?_ ?_) | exact True.intro | (refine @Exists.intro Unit _ () ?_) | (refine @Exists.intro (_ = _) _ rfl ?_) | (change CallGoal _ _ _ _ _ _; first | (refine call0 (ranges_ok E v.k hk) [] rfl True.intro rfl ?_) | (refine call0 (has_z E (rA v.k) v.a) [] rfl True.intro rfl ?_) | (refine call0 (has_z E (rB v.k) v.b) [] rfl True.intro rfl ?_))
  all_goals first | rfl | omega
set_option maxHeartbeats 4000000 in
theorem check_range (E : Nat → Addr) (v : V3) (h : vcheck v = 1) : Does (Gm E) 59 (Sp0 [.agg [.int .i64 v.k, .int .i64 v.a, .int .i64 v.b]] [] 0 (.err 3)) := by
  have hk := (check_parts.2.1.1 h).1; have hr := fun q => (check_parts.2.1.1 h).2 (vrange_iff.2 q)
  refine fn_intro (gmOk E) 31 0 [] Tryz.func59 rfl rfl rfl rfl rfl ?_
  repeat' first | (intro h; first | (exfalso; omega; done) | (exfalso; first | exact h trivial | exact hr (by omega); done) | skip) | (refine And.intro ?_ ?_) | exact True.intro | (refine @Exists.intro Unit _ () ?_) | (refine @Exists.intro (_ = _) _ rfl ?_) | (change CallGoal _ _ _ _ _ _; first | (refine call0 (ranges_ok E v.k hk) [] rfl True.intro rfl ?_) | (refine call0 (has_z E (rA v.k) v.a) [] rfl True.intro rfl ?_) | (refine call0 (has_z E (rB v.k) v.b) [] rfl True.intro rfl ?_))
  all_goals first | rfl | omega
set_option maxHeartbeats 4000000 in
theorem check_kind (E : Nat → Addr) (v : V3) (h : vcheck v = 5) : Does (Gm E) 59 (Sp0 [.agg [.int .i64 v.k, .int .i64 v.a, .int .i64 v.b]] [] 0 (.err 5)) := by
  have hk := check_parts.2.2.1 h
  refine fn_intro (gmOk E) 31 0 [] Tryz.func59 rfl rfl rfl rfl rfl ?_
  repeat' first | (intro h; first | (exfalso; omega; done) | (exfalso; first | exact h trivial | omega; done) | skip) | (refine And.intro ?_ ?_) | exact True.intro | (refine @Exists.intro Unit _ () ?_) | (refine @Exists.intro (_ = _) _ rfl ?_) | (change CallGoal _ _ _ _ _ _; first | (refine call0 (ranges_no E v.k hk) [] rfl True.intro rfl ?_))
  all_goals first | rfl | omega
theorem right_kinds {l : List V3} (h : rightV l = true) : ∀ v ∈ l, 0 ≤ v.k ∧ v.k ≤ 9 := kinds_of (rightV_parts h).1
theorem one_kind {k : Int} (h : 0 ≤ k ∧ k ≤ 9) : kindsOk [k] = true := by simp [kindsOk, okK, h]
theorem maskI_one (k : Int) : maskI [k] = bitN k := by simp [maskI]
theorem maskN_all {l : List V3} {i : Int} (h1 : i ≤ (l.length : Nat)) (h2 : ¬ i < (l.length : Nat)) : maskN (l.take i.toNat) = maskN l := by rw [List.take_of_length_le (by omega)]
structure RG (l : List V3) (i : Int) : Prop where
  h : ∀ j, j < i.toNat → vcheck (l.getD j v0) = 0 ∧ (0 < j → (l.getD (j - 1) v0).k < (l.getD j v0).k)
theorem RG.start {l : List V3} : RG l 0 := ⟨fun j hj => by simp at hj⟩
theorem RG.next {l : List V3} {i : Int} (h : RG l i) (h0 : 0 ≤ i) (hc : vcheck (l.getD i.toNat v0) = 0) (hk : 0 < i → (l.getD (i - 1).toNat v0).k < (l.getD i.toNat v0).k) : RG l (i + 1) := ⟨fun j hj => by
  by_cases e : j = i.toNat
  · subst e; refine ⟨hc, fun hp => ?_⟩; have := hk (by omega); rw [show (i - 1).toNat = i.toNat - 1 by omega] at this; exact this
  · exact h.h j (by omega)⟩
theorem RG.end {l : List V3} {i : Int} (h : RG l i) (h1 : i ≤ (l.length : Nat)) (h2 : ¬ i < (l.length : Nat)) : rightV l = true := by
  unfold rightV; rw [decide_eq_true_iff]; exact fun j hj => h.h j (by omega)
theorem RG.bad {l : List V3} {i : Int} (h0 : 0 ≤ i) (h1 : i < (l.length : Nat)) (hc : vcheck (l.getD i.toNat v0) ≠ 0) : rightV l = false := by
  unfold rightV; rw [decide_eq_false_iff_not]; exact fun q => hc (q i.toNat (by omega)).1
theorem RG.bad2 {l : List V3} {i : Int} (h0 : 0 < i) (h1 : i < (l.length : Nat)) (hc : (l.getD (i - 1).toNat v0).k ≥ (l.getD i.toNat v0).k) : rightV l = false := by
  unfold rightV; rw [decide_eq_false_iff_not]; intro q; have := (q i.toNat (by omega)).2 (by omega); rw [show (i - 1).toNat = i.toNat - 1 by omega] at hc; omega
set_option maxHeartbeats 1000000 in
theorem right_z (E : Nat → Addr) (l : List V3) (n k : Nat) (h : n = l.length ∧ l.length ≤ 1000000) : Does (Gm E) 54 (Sp0 [.sl 0 n k] [(0, .ro V3 Zz.encV l k)] 1 (.bl (rightV l))) := by
  obtain ⟨rfl, hm⟩ := h
  refine fn_intro (gmOk E) 31 1 [] Tryz.func54 rfl rfl rfl rfl rfl ?_
  repeat' first | (change CallGoal _ _ _ _ _ _; first | (change CallGoal _ 59 _ _ _ _; first | (refine call0 (check_ok E (l.getD i.toNat v0) hc) [] rfl True.intro rfl ?_) | (refine call0 (check_range E (l.getD i.toNat v0) hc) [] rfl True.intro rfl ?_) | (refine call0 (check_kind E (l.getD i.toNat v0) hc) [] rfl True.intro rfl ?_) | ((fail_if_success (have _ := hc)); rcases vcheck_vals (l.getD i.toNat v0) with hc | hc | hc))) | (intro h; first | (exfalso; omega; done) | skip) | (refine And.intro ?_ ?_) | exact True.intro | (refine @Exists.intro Unit _ () ?_) | (refine @Exists.intro (_ = _) _ rfl ?_) | (change LoopGoal _ _ _ _ _ _; refine loop_at 2 (gmOk E) rfl [] (X := Int) (fun i => [(7, .int .i64 i)]) (fun i => []) [] (fun i => 0 ≤ i ∧ i ≤ (l.length : Nat) ∧ RG l i) (fun i => l.length - i.toNat) ⟨0, ?_⟩ (fun i hI => ?_)) | (change @Exists (Int) (fun _ => updK _ _ _ _ _ _); refine @Exists.intro (Int) _ ((?_)) ?_; rotate_left 1) | (change DrawGoal _ _ _ _ _ _; first | (change DrawGoal _ _ _ ({ dst := some 12, op := _, type := _, pos := _, after := _, guard := _ } :: _) _ _; refine draw_tree (gmOk E) [0, 1, 17] (.leaf [(0, true), (1, false), (2, true), (3, true), (4, true), (5, true), (6, true), (7, true), (8, true), (9, true), (10, true), (11, true), (12, true), (13, true), (14, true), (15, true), (16, true), (17, true)]) (by kernel_rfl) ?_))
  all_goals first
| (dsimp only; first | rfl | omega)
| rfl
| omega
| exact RG.start
| exact (RG.end hI.2.2 hI.2.1 ‹¬ i < _›).symm
| exact RG.end hI.2.2 hI.2.1 ‹¬ i < _›
| exact hI.2.2.next hI.1 hc (fun q => Int.not_le.1 fun q2 => h ⟨q, q2⟩)
| exact (RG.bad2 h.1 (by assumption) h.2).symm
| exact (RG.bad hI.1 (by assumption) (by rw [hc]; decide)).symm
set_option maxHeartbeats 1000000 in
theorem mask_z (E : Nat → Addr) (l : List V3) (n k : Nat) (h : n = l.length ∧ l.length ≤ 1000000 ∧ ∀ v ∈ l, 0 ≤ v.k ∧ v.k ≤ 9) : Does (Gm E) 56 (Sp0 [.sl 0 n k] [(0, .ro V3 Zz.encV l k)] 1 (.int .u64 ((maskN l : Nat) : Int))) := by
  obtain ⟨rfl, hm, hk⟩ := h
  refine fn_intro (gmOk E) 27 1 [] Tryz.func56 rfl rfl rfl rfl rfl ?_
  repeat' first | (intro h; first | (exfalso; omega; done) | (exfalso; exact h trivial; done) | skip) | (refine And.intro ?_ ?_) | exact True.intro | (refine @Exists.intro Unit _ () ?_) | (refine @Exists.intro (_ = _) _ rfl ?_) | (change LoopGoal _ _ _ _ _ _; refine loop_at 3 (gmOk E) rfl [] (X := Int) (fun i => [(10, .int .i64 i), (3, .int .u64 (((maskN (l.take i.toNat)) : Nat) : Int))]) (fun i => []) [] (fun i => 0 ≤ i ∧ i ≤ (l.length : Nat)) (fun i => l.length - i.toNat) ⟨0, ?_⟩ (fun i hI => ?_)) | (change @Exists (Int) (fun _ => updK _ _ _ _ _ _); refine @Exists.intro (Int) _ ((?_)) ?_; rotate_left 1) | (change CallGoal _ _ _ _ _ _; first | (refine call0 (mwith_z E (maskN (l.take i.toNat)) [(l.getD i.toNat ⟨0, 0, 0⟩).k] 1 1 ⟨rfl, one_kind (kinds_at hk ⟨hI.1, ‹i < _›⟩), by simp, maskN_lt64 (kinds_take hk _)⟩) [18] rfl (And.intro rfl True.intro) rfl ?_))
  all_goals first
| (dsimp only; first | rfl | omega)
| rfl
| omega
| (rw [maskN_next ⟨hI.1, by assumption⟩, maskI_one])
| exact congrArg (fun q : Nat => (q : Int)) (maskN_all hI.2 ‹¬ i < _›)
| exact congrArg (fun q : Nat => (q : Int)) (maskN_all hI.2 ‹¬ i < _›).symm
end Go.Proofs.YtcnbngiplfoomaaGreatDoor
namespace Go.Proofs.YtcnbngiplfoomaaGreatDoor
open Go.Zz Go.Px
set_option linter.unusedVariables false
set_option linter.unusedSectionVars false
set_option linter.unusedSimpArgs false
set_option maxRecDepth 10000
noncomputable def colH (E : Nat → Addr) (xs : List (Int × Int)) : Pr := exPr (fun k : Nat => xs.length ≤ k ∧ xs.length ≤ 128) (fun k => grp (Gm E) [(0, .cells 189 [.sl 1 xs.length k, .int .i64 128]), (1, .arr (Int × Int) (Zz.encP Zz.encI Zz.encI) 28 xs k)])
set_option maxHeartbeats 4000000 in
theorem scloneH (E : Nat → Addr) (l : List (Int × Int)) (n k : Nat) (h : n = l.length ∧ l.length ≤ 1099511627776) : Does (Gm E) 150 ⟨[.sl 0 n k], [(0, .ro (Int × Int) (Zz.encP Zz.encI Zz.encI) l k)], 1, 2, Nat, fun k' => l.length ≤ k', fun k' => .sl 1 l.length k', fun k' => [(1, .arr (Int × Int) (Zz.encP Zz.encI Zz.encI) 28 l k')]⟩ := by
  obtain ⟨rfl, h⟩ := h
  refine fn_intro (gmOk E) 8 1 [] Tryz.func150 rfl rfl rfl rfl rfl ?_
  repeat' first | (intro h; first | (exfalso; omega; done) | skip) | (refine And.intro ?_ ?_) | exact True.intro | (refine @Exists.intro Unit _ () ?_) | (refine @Exists.intro (_ = _) _ rfl ?_) | (refine @Exists.intro (Nat) _ ?_ ?_; rotate_left)
  all_goals first | rfl | omega | (simp_all; done) | (dsimp only; omega) | (change _ ≤ _; first | omega | (simp_all; done))
set_option maxHeartbeats 4000000 in
theorem colLenH (E : Nat → Addr) (xs : List (Int × Int)) : Does (Gm E) 71 ⟨[.ptr 0 0], [(0, .pr (colH E xs))], 1, 2, Unit, fun _ => True, fun _ => .int .i64 (xs.length : Nat), fun _ => [(0, .pr (colH E xs))]⟩ := by
  refine DoesC.does (fn_start Tryz.func71 rfl rfl rfl ?_)
  change EntryGoal _ _ _ _ _
  refine entryG.ex 0 rfl (fun k hk => ?_)
  change EntryGoal _ _ _ _ _
  refine entryG.open_ 0 rfl 2 rfl rfl ?_
  change EntryGoal _ _ _ _ _
  refine entry_go (gmOk E) 8 1 [] Tryz.func71 rfl rfl rfl rfl ?_
  repeat' first | (change RetGoal _ _ _ _ _; first | (refine retG'.shut (Γ0 := Gm E) rfl (.cells 189 [.sl 1 (xs).length k, .int .i64 128]) [(1, .arr (Int × Int) (Zz.encP Zz.encI Zz.encI) 28 (xs) k)] [0, 2] (And.intro rfl (And.intro rfl True.intro)) rfl ?_; change RetGoal _ _ _ _ _; refine retG'.hide (X := Nat) (p := fun k : Nat => (xs).length ≤ k ∧ (xs).length ≤ 128) (Φ := fun k => grp (Gm E) [(0, .cells 189 [.sl 1 (xs).length k, .int .i64 128]), (1, .arr (Int × Int) (Zz.encP Zz.encI Zz.encI) 28 (xs) k)]) 0 k (by first | exact hk | omega) rfl ?_; change RetGoal _ _ _ _ _; refine ret_done rfl ?_)) | (intro h; first | (exfalso; omega; done) | skip) | (refine And.intro ?_ ?_) | exact True.intro | (refine @Exists.intro Unit _ () ?_) | (refine @Exists.intro (_ = _) _ rfl ?_)
  all_goals first | rfl | omega
set_option maxHeartbeats 4000000 in
theorem colNewH (E : Nat → Addr)  : Does (Gm E) 135 ⟨[.int .i64 128], [], 0, 1, Unit, fun _ => True, fun _ => .ptr 0 0, fun _ => [(0, .pr (colH E []))]⟩ := by
  refine DoesC.does (fn_start Tryz.func135 rfl rfl rfl ?_)
  change EntryGoal _ _ _ _ _
  refine entry_go (gmOk E) 7 0 [] Tryz.func135 rfl rfl rfl rfl ?_
  repeat' first | (change RetGoal _ _ _ _ _; first | (refine retG'.nilArr (Zz.encP Zz.encI Zz.encI) 28 ?_; change RetGoal _ _ _ _ _; refine retG'.cells_ 0 [.sl 1 0 0, .int .i64 128] rfl rfl (fun En V w hp => by have q := says (c := 2) rfl hp; simp only [SV.denL, SV.den] at q ⊢; rw [q]; rfl) ?_; change RetGoal _ _ _ _ _; (refine retG'.shut (Γ0 := Gm E) rfl (.cells 189 [.sl 1 (([] : List (Int × Int))).length 0, .int .i64 128]) [(1, .arr (Int × Int) (Zz.encP Zz.encI Zz.encI) 28 (([] : List (Int × Int))) 0)] [0, 1] (And.intro rfl (And.intro rfl True.intro)) rfl ?_; change RetGoal _ _ _ _ _; refine retG'.hide (X := Nat) (p := fun k : Nat => (([] : List (Int × Int))).length ≤ k ∧ (([] : List (Int × Int))).length ≤ 128) (Φ := fun k => grp (Gm E) [(0, .cells 189 [.sl 1 (([] : List (Int × Int))).length k, .int .i64 128]), (1, .arr (Int × Int) (Zz.encP Zz.encI Zz.encI) 28 (([] : List (Int × Int))) k)]) 0 0 (by first | exact ⟨Nat.le_refl _, by decide⟩ | omega) rfl ?_; change RetGoal _ _ _ _ _; refine ret_done rfl ?_))) | (intro h; first | (exfalso; omega; done) | skip) | (refine And.intro ?_ ?_) | exact True.intro | (refine @Exists.intro Unit _ () ?_) | (refine @Exists.intro (_ = _) _ rfl ?_)
  all_goals first | rfl | omega
set_option maxHeartbeats 4000000 in
theorem colPushH (E : Nat → Addr) (xs : List (Int × Int)) (y : (Int × Int)) (q : Nat) (h : xs.length < 128) : Does (Gm E) 138 ⟨[.ptr 0 0, .sl 1 1 q], [(0, .pr (colH E xs)), (1, .ro (Int × Int) (Zz.encP Zz.encI Zz.encI) [y] q)], 2, 2, Unit, fun _ => True, fun _ => .nili, fun _ => [(0, .pr (colH E (xs ++ [y])))]⟩ := by
  rename xs.length < 128 => hm
  refine DoesC.does (fn_start Tryz.func138 rfl rfl rfl ?_)
  change EntryGoal _ _ _ _ _
  refine entryG.ex 0 rfl (fun k hk => ?_)
  change EntryGoal _ _ _ _ _
  refine entryG.open_ 0 rfl 2 rfl rfl ?_
  change EntryGoal _ _ _ _ _
  refine entry_go (gmOk E) 28 2 [] Tryz.func138 rfl rfl rfl rfl ?_
  repeat' first | (change RetGoal _ _ _ _ _; first | (rename_i kc; refine retG'.cast 4 (.arr (Int × Int) (Zz.encP Zz.encI Zz.encI) 28 (xs ++ [y]) kc) rfl (by rw [List.take_length]; rfl) ?_; change RetGoal _ _ _ _ _; refine retG'.cast 0 (.cells 189 [.sl 4 (xs ++ [y]).length kc, .int .i64 128]) rfl (by rw [List.length_append]; rfl) ?_; change RetGoal _ _ _ _ _; (refine retG'.shut (Γ0 := Gm E) rfl (.cells 189 [.sl 1 (xs ++ [y]).length kc, .int .i64 128]) [(1, .arr (Int × Int) (Zz.encP Zz.encI Zz.encI) 28 (xs ++ [y]) kc)] [0, 4] (And.intro rfl (And.intro rfl True.intro)) rfl ?_; change RetGoal _ _ _ _ _; refine retG'.hide (X := Nat) (p := fun k : Nat => (xs ++ [y]).length ≤ k ∧ (xs ++ [y]).length ≤ 128) (Φ := fun k => grp (Gm E) [(0, .cells 189 [.sl 1 (xs ++ [y]).length k, .int .i64 128]), (1, .arr (Int × Int) (Zz.encP Zz.encI Zz.encI) 28 (xs ++ [y]) k)]) 0 kc (by first | exact ⟨by rw [List.length_append]; assumption, by rw [List.length_append]; simp only [List.length_singleton]; omega⟩ | omega) rfl ?_; change RetGoal _ _ _ _ _; refine ret_done rfl ?_))) | (intro h; first | (exfalso; omega; done) | skip) | (refine And.intro ?_ ?_) | exact True.intro | (refine @Exists.intro Unit _ () ?_) | (refine @Exists.intro (_ = _) _ rfl ?_) | (change DrawGoal _ _ _ _ _ _; first | (change DrawGoal _ _ _ ({ dst := some 5, op := _, type := _, pos := _, after := _, guard := _ } :: _) _ _; refine draw_tree (gmOk E) [0, 3] (.leaf [(0, true), (1, true), (2, true), (3, true), (4, true), (5, true), (6, true), (7, true), (8, true), (9, true), (10, true), (11, true), (12, true)]) (by kernel_rfl) ?_))
  all_goals first | rfl | omega | exact Nat.le_refl 1 | (change _ * 16 ≤ _; omega)
set_option maxHeartbeats 4000000 in
theorem colAtH (E : Nat → Addr) (xs : List (Int × Int)) (k : Nat) (i : Int) (h : (0 ≤ i ∧ i < (xs.length : Nat)) ∧ xs.length ≤ 128) : Does (Gm E) 148 (Sp0 [.ptr 0 0, .int .i64 i] [(0, .cells 189 [.sl 1 xs.length k, .int .i64 128]), (1, .arr (Int × Int) (Zz.encP Zz.encI Zz.encI) 28 xs k)] 2 (.elt 1 i.toNat 2 0)) := by
  obtain ⟨hi, hm⟩ := h
  refine fn_intro (gmOk E) 22 2 [] Tryz.func148 rfl rfl rfl rfl rfl ?_
  repeat' first | (intro h; first | (exfalso; omega; done) | skip) | (refine And.intro ?_ ?_) | exact True.intro | (refine @Exists.intro Unit _ () ?_) | (refine @Exists.intro (_ = _) _ rfl ?_)
  all_goals first | rfl | omega
set_option maxHeartbeats 4000000 in
theorem colGetH (E : Nat → Addr) (xs : List (Int × Int)) (i : Int) (h : 0 ≤ i ∧ i < (xs.length : Nat)) : Does (Gm E) 115 ⟨[.ptr 0 0, .int .i64 i], [(0, .pr (colH E xs))], 1, 2, Unit, fun _ => True, fun _ => .tup [.agg [.int .i64 (xs.getD i.toNat ((0, 0) : Int × Int)).1, .int .i64 (xs.getD i.toNat ((0, 0) : Int × Int)).2], .nili], fun _ => [(0, .pr (colH E xs))]⟩ := by
  rename 0 ≤ i ∧ i < _ => hi
  refine DoesC.does (fn_start Tryz.func115 rfl rfl rfl ?_)
  change EntryGoal _ _ _ _ _
  refine entryG.ex 0 rfl (fun k hk => ?_)
  change EntryGoal _ _ _ _ _
  refine entryG.open_ 0 rfl 2 rfl rfl ?_
  change EntryGoal _ _ _ _ _
  refine entry_go (gmOk E) 18 1 [] Tryz.func115 rfl rfl rfl rfl ?_
  repeat' first | (change RetGoal _ _ _ _ _; first | (refine retG'.shut (Γ0 := Gm E) rfl (.cells 189 [.sl 1 (xs).length k, .int .i64 128]) [(1, .arr (Int × Int) (Zz.encP Zz.encI Zz.encI) 28 (xs) k)] [0, 2] (And.intro rfl (And.intro rfl True.intro)) rfl ?_; change RetGoal _ _ _ _ _; refine retG'.hide (X := Nat) (p := fun k : Nat => (xs).length ≤ k ∧ (xs).length ≤ 128) (Φ := fun k => grp (Gm E) [(0, .cells 189 [.sl 1 (xs).length k, .int .i64 128]), (1, .arr (Int × Int) (Zz.encP Zz.encI Zz.encI) 28 (xs) k)]) 0 k (by first | exact hk | omega) rfl ?_; change RetGoal _ _ _ _ _; refine ret_done rfl ?_)) | (intro h; first | (exfalso; omega; done) | skip) | (refine And.intro ?_ ?_) | exact True.intro | (refine @Exists.intro Unit _ () ?_) | (refine @Exists.intro (_ = _) _ rfl ?_) | (change CallGoal _ _ _ _ _ _; first | (refine call0 (colAtH E xs k i ⟨hi, hk.2⟩) [0, 2] rfl (And.intro rfl (And.intro rfl True.intro)) rfl ?_))
  all_goals first | rfl | omega
set_option maxHeartbeats 4000000 in
theorem colAllH (E : Nat → Addr) (xs : List (Int × Int)) : Does (Gm E) 123 ⟨[.ptr 0 0], [(0, .pr (colH E xs))], 1, 3, Nat, fun q => xs.length ≤ q, fun q => .sl 1 xs.length q, fun q => [(0, .pr (colH E xs)), (1, .arr (Int × Int) (Zz.encP Zz.encI Zz.encI) 28 xs q)]⟩ := by
  refine DoesC.does (fn_start Tryz.func123 rfl rfl rfl ?_)
  change EntryGoal _ _ _ _ _
  refine entryG.ex 0 rfl (fun k hk => ?_)
  change EntryGoal _ _ _ _ _
  refine entryG.open_ 0 rfl 2 rfl rfl ?_
  change EntryGoal _ _ _ _ _
  refine entry_go (gmOk E) 8 1 [] Tryz.func123 rfl rfl rfl rfl ?_
  repeat' first | (change RetGoal _ _ _ _ _; first | (refine retG'.shut (Γ0 := Gm E) rfl (.cells 189 [.sl 1 (xs).length k, .int .i64 128]) [(1, .arr (Int × Int) (Zz.encP Zz.encI Zz.encI) 28 (xs) k)] [0, 2] (And.intro rfl (And.intro rfl True.intro)) rfl ?_; change RetGoal _ _ _ _ _; refine retG'.hide (X := Nat) (p := fun k : Nat => (xs).length ≤ k ∧ (xs).length ≤ 128) (Φ := fun k => grp (Gm E) [(0, .cells 189 [.sl 1 (xs).length k, .int .i64 128]), (1, .arr (Int × Int) (Zz.encP Zz.encI Zz.encI) 28 (xs) k)]) 0 k (by first | exact hk | omega) rfl ?_; change RetGoal _ _ _ _ _; refine ret_done rfl ?_)) | (intro h; first | (exfalso; omega; done) | skip) | (refine And.intro ?_ ?_) | exact True.intro | (refine @Exists.intro Unit _ () ?_) | (refine @Exists.intro (_ = _) _ rfl ?_) | (refine @Exists.intro (Nat) _ ?_ ?_; rotate_left) | (change CallGoal _ _ _ _ _ _; first | (refine call_rule (scloneH E xs _ k ⟨rfl, by omega⟩) [2] rfl (And.intro rfl True.intro) rfl (fun (q1 : Nat) hq1 => ?_)))
  all_goals first | rfl | omega | assumption
noncomputable def colV (E : Nat → Addr) (xs : List V3) : Pr := exPr (fun k : Nat => xs.length ≤ k ∧ xs.length ≤ 128) (fun k => grp (Gm E) [(0, .cells 231 [.sl 1 xs.length k, .int .i64 128]), (1, .arr V3 Zz.encV 34 xs k)])
theorem colV_placed (E : Nat → Addr) (xs : List V3) : Placed (colV E xs) := placed_ex fun k => placed_grp
set_option maxHeartbeats 4000000 in
theorem colNewV (E : Nat → Addr)  : Does (Gm E) 137 ⟨[.int .i64 128], [], 0, 1, Unit, fun _ => True, fun _ => .ptr 0 0, fun _ => [(0, .pr (colV E []))]⟩ := by
  refine DoesC.does (fn_start Tryz.func137 rfl rfl rfl ?_)
  change EntryGoal _ _ _ _ _
  refine entry_go (gmOk E) 7 0 [] Tryz.func137 rfl rfl rfl rfl ?_
  repeat' first | (change RetGoal _ _ _ _ _; first | (refine retG'.nilArr Zz.encV 34 ?_; change RetGoal _ _ _ _ _; refine retG'.cells_ 0 [.sl 1 0 0, .int .i64 128] rfl rfl (fun En V w hp => by have q := says (c := 2) rfl hp; simp only [SV.denL, SV.den] at q ⊢; rw [q]; rfl) ?_; change RetGoal _ _ _ _ _; (refine retG'.shut (Γ0 := Gm E) rfl (.cells 231 [.sl 1 (([] : List V3)).length 0, .int .i64 128]) [(1, .arr V3 Zz.encV 34 (([] : List V3)) 0)] [0, 1] (And.intro rfl (And.intro rfl True.intro)) rfl ?_; change RetGoal _ _ _ _ _; refine retG'.hide (X := Nat) (p := fun k : Nat => (([] : List V3)).length ≤ k ∧ (([] : List V3)).length ≤ 128) (Φ := fun k => grp (Gm E) [(0, .cells 231 [.sl 1 (([] : List V3)).length k, .int .i64 128]), (1, .arr V3 Zz.encV 34 (([] : List V3)) k)]) 0 0 (by first | exact ⟨Nat.le_refl _, by decide⟩ | omega) rfl ?_; change RetGoal _ _ _ _ _; refine ret_done rfl ?_))) | (intro h; first | (exfalso; omega; done) | skip) | (refine And.intro ?_ ?_) | exact True.intro | (refine @Exists.intro Unit _ () ?_) | (refine @Exists.intro (_ = _) _ rfl ?_)
  all_goals first | rfl | omega
set_option maxHeartbeats 4000000 in
theorem colPushV (E : Nat → Addr) (xs : List V3) (y : V3) (q : Nat) (h : xs.length < 128) : Does (Gm E) 139 ⟨[.ptr 0 0, .sl 1 1 q], [(0, .pr (colV E xs)), (1, .ro V3 Zz.encV [y] q)], 2, 2, Unit, fun _ => True, fun _ => .nili, fun _ => [(0, .pr (colV E (xs ++ [y])))]⟩ := by
  rename xs.length < 128 => hm
  refine DoesC.does (fn_start Tryz.func139 rfl rfl rfl ?_)
  change EntryGoal _ _ _ _ _
  refine entryG.ex 0 rfl (fun k hk => ?_)
  change EntryGoal _ _ _ _ _
  refine entryG.open_ 0 rfl 2 rfl rfl ?_
  change EntryGoal _ _ _ _ _
  refine entry_go (gmOk E) 28 2 [] Tryz.func139 rfl rfl rfl rfl ?_
  repeat' first | (change RetGoal _ _ _ _ _; first | (rename_i kc; refine retG'.cast 4 (.arr V3 Zz.encV 34 (xs ++ [y]) kc) rfl (by rw [List.take_length]; rfl) ?_; change RetGoal _ _ _ _ _; refine retG'.cast 0 (.cells 231 [.sl 4 (xs ++ [y]).length kc, .int .i64 128]) rfl (by rw [List.length_append]; rfl) ?_; change RetGoal _ _ _ _ _; (refine retG'.shut (Γ0 := Gm E) rfl (.cells 231 [.sl 1 (xs ++ [y]).length kc, .int .i64 128]) [(1, .arr V3 Zz.encV 34 (xs ++ [y]) kc)] [0, 4] (And.intro rfl (And.intro rfl True.intro)) rfl ?_; change RetGoal _ _ _ _ _; refine retG'.hide (X := Nat) (p := fun k : Nat => (xs ++ [y]).length ≤ k ∧ (xs ++ [y]).length ≤ 128) (Φ := fun k => grp (Gm E) [(0, .cells 231 [.sl 1 (xs ++ [y]).length k, .int .i64 128]), (1, .arr V3 Zz.encV 34 (xs ++ [y]) k)]) 0 kc (by first | exact ⟨by rw [List.length_append]; assumption, by rw [List.length_append]; simp only [List.length_singleton]; omega⟩ | omega) rfl ?_; change RetGoal _ _ _ _ _; refine ret_done rfl ?_))) | (intro h; first | (exfalso; omega; done) | skip) | (refine And.intro ?_ ?_) | exact True.intro | (refine @Exists.intro Unit _ () ?_) | (refine @Exists.intro (_ = _) _ rfl ?_) | (change DrawGoal _ _ _ _ _ _; first | (change DrawGoal _ _ _ ({ dst := some 5, op := _, type := _, pos := _, after := _, guard := _ } :: _) _ _; refine draw_tree (gmOk E) [0, 3] (.leaf [(0, true), (1, true), (2, true), (3, true), (4, true), (5, true), (6, true), (7, true), (8, true), (9, true), (10, true), (11, true), (12, true)]) (by kernel_rfl) ?_))
  all_goals first | rfl | omega | exact Nat.le_refl 1 | (change _ * 24 ≤ _; omega)
set_option maxHeartbeats 4000000 in
theorem colAtV (E : Nat → Addr) (xs : List V3) (k : Nat) (i : Int) (h : (0 ≤ i ∧ i < (xs.length : Nat)) ∧ xs.length ≤ 128) : Does (Gm E) 144 (Sp0 [.ptr 0 0, .int .i64 i] [(0, .cells 231 [.sl 1 xs.length k, .int .i64 128]), (1, .arr V3 Zz.encV 34 xs k)] 2 (.elt 1 i.toNat 3 0)) := by
  obtain ⟨hi, hm⟩ := h
  refine fn_intro (gmOk E) 22 2 [] Tryz.func144 rfl rfl rfl rfl rfl ?_
  repeat' first | (intro h; first | (exfalso; omega; done) | skip) | (refine And.intro ?_ ?_) | exact True.intro | (refine @Exists.intro Unit _ () ?_) | (refine @Exists.intro (_ = _) _ rfl ?_)
  all_goals first | rfl | omega
set_option maxHeartbeats 4000000 in
theorem colGetV (E : Nat → Addr) (xs : List V3) (i : Int) (h : 0 ≤ i ∧ i < (xs.length : Nat)) : Does (Gm E) 105 ⟨[.ptr 0 0, .int .i64 i], [(0, .pr (colV E xs))], 1, 2, Unit, fun _ => True, fun _ => .tup [.agg [.int .i64 (xs.getD i.toNat v0).k, .int .i64 (xs.getD i.toNat v0).a, .int .i64 (xs.getD i.toNat v0).b], .nili], fun _ => [(0, .pr (colV E xs))]⟩ := by
  rename 0 ≤ i ∧ i < _ => hi
  refine DoesC.does (fn_start Tryz.func105 rfl rfl rfl ?_)
  change EntryGoal _ _ _ _ _
  refine entryG.ex 0 rfl (fun k hk => ?_)
  change EntryGoal _ _ _ _ _
  refine entryG.open_ 0 rfl 2 rfl rfl ?_
  change EntryGoal _ _ _ _ _
  refine entry_go (gmOk E) 18 1 [] Tryz.func105 rfl rfl rfl rfl ?_
  repeat' first | (change RetGoal _ _ _ _ _; first | (refine retG'.shut (Γ0 := Gm E) rfl (.cells 231 [.sl 1 (xs).length k, .int .i64 128]) [(1, .arr V3 Zz.encV 34 (xs) k)] [0, 2] (And.intro rfl (And.intro rfl True.intro)) rfl ?_; change RetGoal _ _ _ _ _; refine retG'.hide (X := Nat) (p := fun k : Nat => (xs).length ≤ k ∧ (xs).length ≤ 128) (Φ := fun k => grp (Gm E) [(0, .cells 231 [.sl 1 (xs).length k, .int .i64 128]), (1, .arr V3 Zz.encV 34 (xs) k)]) 0 k (by first | exact hk | omega) rfl ?_; change RetGoal _ _ _ _ _; refine ret_done rfl ?_)) | (intro h; first | (exfalso; omega; done) | skip) | (refine And.intro ?_ ?_) | exact True.intro | (refine @Exists.intro Unit _ () ?_) | (refine @Exists.intro (_ = _) _ rfl ?_) | (change CallGoal _ _ _ _ _ _; first | (refine call0 (colAtV E xs k i ⟨hi, hk.2⟩) [0, 2] rfl (And.intro rfl (And.intro rfl True.intro)) rfl ?_))
  all_goals first | rfl | omega
end Go.Proofs.YtcnbngiplfoomaaGreatDoor
