/- The law QuadAll, closed: for every list of boxes it returns true and the list reads as it did; the package's errors are as the program's text lays them. -/
import Derived.Test.YtpojafdllcioiaaDoorCards
import Derived.Test.YtpojafdllcioiaaDoorTie
import Derived.Test.YtpojafdllcioiaaDoorG7
import Derived.Test.YtpojafdllcioiaaDoorG2
import Derived.Lib.SmallJoins
namespace Go.Proofs.YtpojafdllcioiaaDoor.lawQuadAll
open Go.ChangeShapes Go.WideShapes Go.ChangeAt Go.RowKit Go.Joins Go.Px

theorem own : ownKnob Tryd.prog.godebug = none := by kernel_rfl
theorem laidOut : laidOutB Tryd.prog = true := by kernel_rfl
theorem starErr : "*" ++ "errors.errorString" = "*errors.errorString" := by decide
theorem errRow (u : TypeId) (h : Tryd.prog.typeName? 3 u = some "*errors.errorString") : u = 227 :=
  typeName_ptr_named (nm := "errors.errorString") (by rw [starErr]; kernel_rfl) (by kernel_rfl) (by decide) u (by rw [starErr]; exact h)

/-- The package's errors. -/
theorem errs {W : World} (h : laidMetH Tryd.prog Rows.quadAllRow.laid W) : ∃ E, Errs [1, 3, 0] W 227 E :=
  errs_of_laid Tryd.underlying31 errRow Tryd.underlying227 Tryd.underlying251 rfl rfl Tryd.underlying9 (by kernel_rfl) (by kernel_rfl) (by decide)
    (fun x hx => by
      simp only [Rows.quadAllRow, List.mem_cons, List.not_mem_nil, or_false] at hx
      rcases hx with rfl | rfl | rfl <;> exact ⟨_, rfl⟩)
    (by kernel_rfl) (by kernel_rfl) (by kernel_rfl) h

set_option maxRecDepth 100000 in
theorem contract (H : Type) (enc : TypeId × Value → H) (W : World) (args : Array Value) (ds gs : List (DataW H)) (before : List MemPlace)
    (hval : ∀ (j : Nat) t v, Tryd.f9.params[j]? = some t → args[j]? = some v → Value.okWide Tryd.prog W .any 0 t v)
    (hW : DataW.Whole enc Tryd.prog Tryd.f9.params.toList Rows.quadAllSpec.vars false W args.toList ds gs before) (hL : laidMetH Tryd.prog Rows.quadAllRow.laid W) :
    Calls Tryd.prog 9 args W fun e W' => ∃ v, e = .returned v ∧ Rows.quadAllSpec.post enc Tryd.prog Tryd.f9 false true false false W args v W' := by
  have hW' := hW
  obtain ⟨p, q, hA0, hV, rfl, hfz, hnd⟩ := hW
  have hA : DataW.TrodAll enc Tryd.prog W 0 (fun _ => true) true Tryd.f9.params.toList args.toList ds p := hA0
  rw [Tryd.params9] at hA hval
  obtain ⟨v0, d0, rfl, rfl, h0⟩ := trodAll_one hA
  obtain ⟨av, l, c, rfl, hav, hRav⟩ := open_list (f := (Go.Zz.encP Go.Zz.encI (Go.Zz.encP Go.Zz.encI (Go.Zz.encP Go.Zz.encI Go.Zz.encI))).val) (fun _ => rfl) rfl Tryd.underlying22 [some .i64, some .i64, some .i64, some .i64] (by kernel_rfl) rfl (by kernel_rfl) YtpojafdllcioiaaDoor.box_dec (hval 0 22 v0 rfl rfl) h0
  obtain ⟨E, hG⟩ := errs hL
  refine Calls.mono (YtpojafdllcioiaaDoor.quadAll_any E av l c W hG hav) fun e W2 he => ?_
  obtain ⟨v, rfl, rfl, hk⟩ := he
  exact ⟨_, rfl, law_post laidOut rfl Tryd.underlying4 (by kernel_rfl) rfl ⟨rfl, rfl, rfl⟩ hW' hk⟩

def errText (x : String × DataW Unit) : Value :=
  match x.2 with
  | .iface _ (.ptr (.agg [.lit (.string t)])) => .string ⟨t.toArray⟩
  | _ => .nilIface
noncomputable def low : Nat := (World.holding Tryd.prog default ⟨#[], #[], []⟩).heap.size
/-- A world for the witness: the variables hold the package's errors. -/
noncomputable def laidWorld (os : Os) : World :=
  let w0 := World.holding Tryd.prog os ⟨(Rows.quadAllRow.laid.map fun x => Obj.cells #[errText x] 251 (0, 0)).toArray, #[], []⟩
  { w0 with heap := ([(1, 0), (3, 1), (0, 2)] : List (Nat × Nat)).foldl (fun h g => h.modify g.1 fun
      | .cells _ t frozen => .cells #[.iface 227 (.pointer (some ⟨low + g.2, 0, none⟩))] t frozen
      | o => o) w0.heap }
theorem laid_met (os : Os) (args : Array Value) : laidMet Tryd.prog Rows.quadAllRow.laid ((laidWorld os).forCall (fun _ _ => 0) ⟨#[], args, []⟩).memory :=
  laidMet_of_run' 8 (by kernel_rfl) (by kernel_rfl)
abbrev wargs : Array Value := #[.slice none 0 0]
theorem reads (os : Os) {H : Type} (enc : TypeId × Value → H) : ∃ places, DataW.whole enc Tryd.prog ((laidWorld os).forCall (fun _ _ => 0) ⟨#[], wargs, []⟩).memory Tryd.f9.params.toList Rows.quadAllSpec.vars false wargs.toList 8 = some ([.nil], [], places) :=
  ⟨[], by kernel_rfl⟩

set_option maxRecDepth 100000 in
theorem lifted (os : Os) (started : os.Started) (H : Type) (enc : TypeId × Value → H) (F : Stop.Interp) :
    ReturnsInHanded {} Tryd.checked os 9 .any ((OpenSpec.ofChange Rows.quadAllSpec).preRow enc Tryd.prog Tryd.f9 Rows.quadAllRow.domain false Rows.quadAllRow.laid) (((OpenSpec.ofChange Rows.quadAllSpec).at F).post enc Tryd.prog Tryd.f9 false true false false) := by
  obtain ⟨places, hx⟩ := reads os enc
  refine returnsInHanded_of_row (C := Tryd.checked) (s := OpenSpec.ofChange Rows.quadAllSpec) own started (by kernel_rfl) Tryd.func9
    (witness_row_atRef (enc := enc) (C := Tryd.checked) false (laidWorld os) wargs rfl (by kernel_rfl) (by kernel_rfl) (by kernel_rfl)
      (OpenSpec.preRow_of_cond 8 hx (by kernel_rfl) (fun k hk => by cases hk) (by kernel_rfl) (laid_met os _))) ?_
  intro W base args ds gs before hval hW _ _ _ hL _ _
  exact contract H enc W args ds gs before hval hW hL

theorem said : Rows.QuadAllSaid :=
  OpenClaim.holds_of_cond 9 Tryd.f9 rfl rfl rfl rfl rfl rfl rfl ⟨rfl, rfl, rfl, rfl, rfl⟩ rfl rfl rfl rfl rfl (by kernel_rfl) Tryd.func9 (by kernel_rfl)
    (of_decide_eq_true (by kernel_rfl)) (by unfold Func.isWrapper; first | (rw [if_pos (by decide +kernel)]; kernel_rfl) | (rw [if_neg (by decide +kernel)]; exact ⟨rfl, rfl⟩))
    (fun os started H enc _ F => by rw [OpenClaim.pre_eq_preRow]; exact lifted os started H enc F)

theorem plain (f : FuncId) (fn : Func) (hf : Tryd.pinned.checked.prog.funcNamed "paddock/paddocklaw12.QuadAll" = some f) (hfn : Tryd.pinned.checked.prog.funcs[f]? = some fn) :
    true = Tryd.pinned.checked.prog.looks [] ∧ ∀ (j : Nat) t, fn.params[j]? = some t → Tryd.pinned.checked.prog.wantsStandIn t = false := by
  obtain rfl : f = 9 := Option.some.inj ((show Tryd.prog.funcNamed "paddock/paddocklaw12.QuadAll" = some 9 by kernel_rfl).symm.trans hf) |>.symm
  obtain rfl : fn = Tryd.f9 := (Option.some.inj (Tryd.func9.symm.trans hfn)).symm
  refine ⟨by kernel_rfl, fun j t ht => ?_⟩
  rw [Tryd.params9] at ht
  have hall : (#[22] : Array TypeId).toList.all (fun t => Tryd.prog.wantsStandIn t == false) = true := by kernel_rfl
  simp only [List.all_eq_true, beq_iff_eq] at hall
  exact hall t (by simpa using Array.mem_of_getElem? ht)

/-- for every list of boxes it returns true and the list reads as it did; the package's errors are as the program's text lays them. -/
theorem card : Rows.QuadAllCardSaid :=
  Claim7.holds_tied_plain_at .later [] _ _ _ _ said (fun _ h => by cases h) (by kernel_rfl) (fun _ h => by cases h) quadAll_row_tie rfl ⟨rfl, rfl⟩ (by kernel_rfl) rfl plain (by kernel_rfl)
end Go.Proofs.YtpojafdllcioiaaDoor.lawQuadAll
