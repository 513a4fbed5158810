/- The law QuadPlays, closed: for every script it returns true and the script reads as it did; the package's errors are as the program's text lays them. -/
import Derived.Test.YtpojafdllcioiaaGreatDoorCards
import Derived.Test.YtpojafdllcioiaaGreatDoorTie
import Derived.Test.YtpojafdllcioiaaGreatDoorG7
import Derived.Test.YtpojafdllcioiaaGreatDoorG2
import Derived.Lib.SmallJoins
namespace Go.Proofs.YtpojafdllcioiaaGreatDoor.lawQuadPlays
open Go.ChangeShapes Go.WideShapes Go.ChangeAt Go.RowKit Go.Joins Go.Px

theorem own : ownKnob Tryz.prog.godebug = none := by kernel_rfl
theorem laidOut : laidOutB Tryz.prog = true := by kernel_rfl
theorem starErr : "*" ++ "errors.errorString" = "*errors.errorString" := by decide
theorem errRow (u : TypeId) (h : Tryz.prog.typeName? 3 u = some "*errors.errorString") : u = 170 :=
  typeName_ptr_named (nm := "errors.errorString") (by rw [starErr]; kernel_rfl) (by kernel_rfl) (by decide) u (by rw [starErr]; exact h)

/-- The package's errors. -/
theorem errs {W : World} (h : laidMetH Tryz.prog Rows.quadPlaysRow.laid W) : ∃ E, Errs [0, 1, 2, 3, 4, 5, 6, 7, 8, 9] W 170 E :=
  errs_of_laid Tryz.underlying39 errRow Tryz.underlying170 Tryz.underlying194 rfl rfl Tryz.underlying9 (by kernel_rfl) (by kernel_rfl) (by decide)
    (fun x hx => by
      simp only [Rows.quadPlaysRow, List.mem_cons, List.not_mem_nil, or_false] at hx
      rcases hx with rfl | rfl | rfl | rfl | rfl | rfl | rfl | rfl | rfl | rfl <;> exact ⟨_, rfl⟩)
    (by kernel_rfl) (by kernel_rfl) (by kernel_rfl) h

set_option maxRecDepth 100000 in
theorem contract (H : Type) (enc : TypeId × Value → H) (W : World) (args : Array Value) (ds gs : List (DataW H)) (before : List MemPlace)
    (hval : ∀ (j : Nat) t v, Tryz.f3.params[j]? = some t → args[j]? = some v → Value.okWide Tryz.prog W .any 0 t v)
    (hW : DataW.Whole enc Tryz.prog Tryz.f3.params.toList Rows.quadPlaysSpec.vars false W args.toList ds gs before) (hL : laidMetH Tryz.prog Rows.quadPlaysRow.laid W) :
    Calls Tryz.prog 3 args W fun e W' => ∃ v, e = .returned v ∧ Rows.quadPlaysSpec.post enc Tryz.prog Tryz.f3 false true false false W args v W' := by
  have hW' := hW
  obtain ⟨p, q, hA0, hV, rfl, hfz, hnd⟩ := hW
  have hA : DataW.TrodAll enc Tryz.prog W 0 (fun _ => true) true Tryz.f3.params.toList args.toList ds p := hA0
  rw [Tryz.params3] at hA hval
  obtain ⟨v0, d0, rfl, rfl, h0⟩ := trodAll_one hA
  obtain ⟨av, l, c, rfl, hav, hRav⟩ := open_list (f := (Go.Zz.encP Go.Zz.encI (Go.Zz.encP (Go.Zz.encP Go.Zz.encI Go.Zz.encI) (Go.Zz.encP (Go.Zz.encP Go.Zz.encI (Go.Zz.encP Go.Zz.encI (Go.Zz.encP Go.Zz.encI Go.Zz.encI))) (Go.Zz.encP Go.Zz.encI (Go.Zz.encP Go.Zz.encI (Go.Zz.encP Go.Zz.encI Go.Zz.encI)))))).val) (fun _ => rfl) rfl Tryz.underlying22 [some .i64, some .i64, some .i64, some .i64, some .i64, some .i64, some .i64, some .i64, some .i64, some .i64, some .i64] (by kernel_rfl) rfl (by kernel_rfl) YtpojafdllcioiaaGreatDoor.op_dec (hval 0 22 v0 rfl rfl) h0
  obtain ⟨E, hG⟩ := errs hL
  refine Calls.mono (YtpojafdllcioiaaGreatDoor.quadPlays_any E av l c W hG hav) fun e W2 he => ?_
  obtain ⟨v, rfl, rfl, hk⟩ := he
  exact ⟨_, rfl, law_post laidOut rfl Tryz.underlying4 (by kernel_rfl) rfl ⟨rfl, rfl, rfl⟩ hW' hk⟩

def errText (x : String × DataW Unit) : Value :=
  match x.2 with
  | .iface _ (.ptr (.agg [.lit (.string t)])) => .string ⟨t.toArray⟩
  | _ => .nilIface
noncomputable def low : Nat := (World.holding Tryz.prog default ⟨#[], #[], []⟩).heap.size
/-- A world for the witness: the variables hold the package's errors. -/
noncomputable def laidWorld (os : Os) : World :=
  let w0 := World.holding Tryz.prog os ⟨(Rows.quadPlaysRow.laid.map fun x => Obj.cells #[errText x] 194 (0, 0)).toArray, #[], []⟩
  { w0 with heap := ([(0, 0), (1, 1), (2, 2), (3, 3), (4, 4), (5, 5), (6, 6), (7, 7), (8, 8), (9, 9)] : List (Nat × Nat)).foldl (fun h g => h.modify g.1 fun
      | .cells _ t frozen => .cells #[.iface 170 (.pointer (some ⟨low + g.2, 0, none⟩))] t frozen
      | o => o) w0.heap }
theorem laid_met (os : Os) (args : Array Value) : laidMet Tryz.prog Rows.quadPlaysRow.laid ((laidWorld os).forCall (fun _ _ => 0) ⟨#[], args, []⟩).memory :=
  laidMet_of_run' 8 (by kernel_rfl) (by kernel_rfl)
abbrev wargs : Array Value := #[.slice none 0 0]
theorem reads (os : Os) {H : Type} (enc : TypeId × Value → H) : ∃ places, DataW.whole enc Tryz.prog ((laidWorld os).forCall (fun _ _ => 0) ⟨#[], wargs, []⟩).memory Tryz.f3.params.toList Rows.quadPlaysSpec.vars false wargs.toList 8 = some ([.nil], [], places) :=
  ⟨[], by kernel_rfl⟩

set_option maxRecDepth 100000 in
theorem lifted (os : Os) (started : os.Started) (H : Type) (enc : TypeId × Value → H) (F : Stop.Interp) :
    ReturnsInHanded {} Tryz.checked os 3 .any ((OpenSpec.ofChange Rows.quadPlaysSpec).preRow enc Tryz.prog Tryz.f3 Rows.quadPlaysRow.domain false Rows.quadPlaysRow.laid) (((OpenSpec.ofChange Rows.quadPlaysSpec).at F).post enc Tryz.prog Tryz.f3 false true false false) := by
  obtain ⟨places, hx⟩ := reads os enc
  refine returnsInHanded_of_row (C := Tryz.checked) (s := OpenSpec.ofChange Rows.quadPlaysSpec) own started (by kernel_rfl) Tryz.func3
    (witness_row_atRef (enc := enc) (C := Tryz.checked) false (laidWorld os) wargs rfl (by kernel_rfl) (by kernel_rfl) (by kernel_rfl)
      (OpenSpec.preRow_of_cond 8 hx (by kernel_rfl) (fun k hk => by cases hk) (by kernel_rfl) (laid_met os _))) ?_
  intro W base args ds gs before hval hW _ _ _ hL _ _
  exact contract H enc W args ds gs before hval hW hL

theorem said : Rows.QuadPlaysSaid :=
  OpenClaim.holds_of_cond 3 Tryz.f3 rfl rfl rfl rfl rfl rfl rfl ⟨rfl, rfl, rfl, rfl, rfl⟩ rfl rfl rfl rfl rfl (by kernel_rfl) Tryz.func3 (by kernel_rfl)
    (of_decide_eq_true (by kernel_rfl)) (by unfold Func.isWrapper; first | (rw [if_pos (by decide +kernel)]; kernel_rfl) | (rw [if_neg (by decide +kernel)]; exact ⟨rfl, rfl⟩))
    (fun os started H enc _ F => by rw [OpenClaim.pre_eq_preRow]; exact lifted os started H enc F)

theorem plain (f : FuncId) (fn : Func) (hf : Tryz.pinned.checked.prog.funcNamed "paddock/paddocklaw12.QuadPlays" = some f) (hfn : Tryz.pinned.checked.prog.funcs[f]? = some fn) :
    true = Tryz.pinned.checked.prog.looks [] ∧ ∀ (j : Nat) t, fn.params[j]? = some t → Tryz.pinned.checked.prog.wantsStandIn t = false := by
  obtain rfl : f = 3 := Option.some.inj ((show Tryz.prog.funcNamed "paddock/paddocklaw12.QuadPlays" = some 3 by kernel_rfl).symm.trans hf) |>.symm
  obtain rfl : fn = Tryz.f3 := (Option.some.inj (Tryz.func3.symm.trans hfn)).symm
  refine ⟨by kernel_rfl, fun j t ht => ?_⟩
  rw [Tryz.params3] at ht
  have hall : (#[22] : Array TypeId).toList.all (fun t => Tryz.prog.wantsStandIn t == false) = true := by kernel_rfl
  simp only [List.all_eq_true, beq_iff_eq] at hall
  exact hall t (by simpa using Array.mem_of_getElem? ht)

/-- for every script it returns true and the script reads as it did; the package's errors are as the program's text lays them. -/
theorem card : Rows.QuadPlaysCardSaid :=
  Claim7.holds_tied_plain_at .later [] _ _ _ _ said (fun _ h => by cases h) (by kernel_rfl) (fun _ h => by cases h) quadPlays_row_tie rfl ⟨rfl, rfl⟩ (by kernel_rfl) rfl plain (by kernel_rfl)
end Go.Proofs.YtpojafdllcioiaaGreatDoor.lawQuadPlays
