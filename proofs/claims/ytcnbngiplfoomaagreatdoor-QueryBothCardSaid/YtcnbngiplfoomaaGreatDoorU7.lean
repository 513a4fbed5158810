/- The law QueryBoth, closed: for all queries and all rows it returns true and all reads as it did. -/
import Derived.Test.YtcnbngiplfoomaaGreatDoorCards
import Derived.Test.YtcnbngiplfoomaaGreatDoorTie
import Derived.Test.YtcnbngiplfoomaaGreatDoorG7
import Derived.Test.YtcnbngiplfoomaaGreatDoorG1
import Derived.Lib.SmallJoins
import Derived.Test.YtcnbngiplfoomaaGreatDoorG4
import Derived.Shelf.Spec.TrailingZeros
namespace Go.Proofs.YtcnbngiplfoomaaGreatDoor.lawQueryBoth
open Go.Proofs
open Go.ChangeShapes Go.WideShapes Go.ChangeAt Go.RowKit Go.Joins Go.Px

theorem own : ownKnob Tryz.prog.godebug = none := by kernel_rfl
theorem laidOut : laidOutB Tryz.prog = true := by kernel_rfl
theorem starErr : "*" ++ "errors.errorString" = "*errors.errorString" := by decide
theorem errRow (u : TypeId) (h : Tryz.prog.typeName? 3 u = some "*errors.errorString") : u = 276 :=
  typeName_ptr_named (nm := "errors.errorString") (by rw [starErr]; kernel_rfl) (by kernel_rfl) (by decide) u (by rw [starErr]; exact h)

/-- The package's errors. -/
theorem errs0 {W : World} (h : laidMetH Tryz.prog Rows.queryBothRow.laid.tail W) : ∃ E, Errs [3, 2, 4, 0, 5, 1] W 276 E :=
  errs_of_laid Tryz.underlying30 errRow Tryz.underlying276 Tryz.underlying302 rfl rfl Tryz.underlying9 (by kernel_rfl) (by kernel_rfl) (by decide)
    (fun x hx => by
      simp only [Rows.queryBothRow, List.tail_cons, List.mem_cons, List.not_mem_nil, or_false] at hx
      rcases hx with rfl | rfl | rfl | rfl | rfl | rfl <;> exact ⟨_, rfl⟩)
    (by kernel_rfl) (by kernel_rfl) (by kernel_rfl) h
theorem errs {W : World} (h : laidMetH Tryz.prog Rows.queryBothRow.laid W) : ∃ E, Errs [3, 2, 4, 0, 5, 1] W 276 E := errs0 (Go.Zz.laid_tail (by kernel_rfl) h).1
/-- The table of the library's bits. -/
theorem table {W : World} (h : laidMetH Tryz.prog Rows.queryBothRow.laid W) : Go.Proofs.TabAt 10 Lib.deBruijn64tab W ∧ 10 < W.heap.size := by
  obtain ⟨_, g, t, cs, fuel, p, h1, h2, h3, h4⟩ := Go.Zz.laid_tail (by kernel_rfl) h
  obtain rfl : g = 10 := (Option.some.inj ((show Tryz.prog.globalNamed "math/bits.deBruijn64tab" = some 10 by kernel_rfl).symm.trans h1)).symm
  obtain rfl : t = 255 := (Option.some.inj ((show (Tryz.prog.globals[10]?).map (·.type) = some 255 by kernel_rfl).symm.trans h2)).symm
  have q := Go.Zz.tab_of (tab := Lib.deBruijn64tab) Tryz.underlying255 Tryz.underlying5 (by kernel_rfl) rfl h4
  have hc := World.var?_cell h1 h3
  have hq : ∀ j, j < Lib.deBruijn64tab.length → W.cell? ⟨10, j, none⟩ = some (.int .u8 ((Lib.deBruijn64tab.getD j 0 : Nat) : Int)) := fun j hj => by
    rw [hc j]; simpa using q j hj
  refine ⟨fun j hj => hq j hj, ?_⟩
  have h0 := hq 0 (by decide)
  unfold World.cell? at h0
  cases hh : W.heap[10]? with
  | none => simp [hh] at h0
  | some o => exact (Array.getElem?_eq_some_iff.1 hh).1

set_option maxRecDepth 100000 in
theorem contract (H : Type) (enc : TypeId × Value → H) (W : World) (args : Array Value) (ds gs : List (DataW H)) (before : List MemPlace)
    (hval : ∀ (j : Nat) t v, Tryz.f11.params[j]? = some t → args[j]? = some v → Value.okWide Tryz.prog W .any 0 t v)
    (hW : DataW.Whole enc Tryz.prog Tryz.f11.params.toList Rows.queryBothSpec.vars false W args.toList ds gs before) (hL : laidMetH Tryz.prog Rows.queryBothRow.laid W) :
    Calls Tryz.prog 11 args W fun e W' => ∃ v, e = .returned v ∧ Rows.queryBothSpec.post enc Tryz.prog Tryz.f11 false true false false W args v W' := by
  have hW' := hW
  obtain ⟨p, q, hA0, hV, rfl, hfz, hnd⟩ := hW
  have hA : DataW.TrodAll enc Tryz.prog W 0 (fun _ => true) true Tryz.f11.params.toList args.toList ds p := hA0
  rw [Tryz.params11] at hA hval
  obtain ⟨v0, v1, v2, d0, d1, d2, p0, p1, p2, rfl, rfl, rfl, h0, h1, h2⟩ := trodAll_three hA
  obtain ⟨cs0, rfl, hcs0⟩ := open_cells Tryz.underlying78 [some .u64, some .u64] (by kernel_rfl) (by kernel_rfl) (hval 0 78 v0 rfl rfl) h0
  obtain ⟨_, _, rfl, ⟨wi, rfl, w00⟩, q01⟩ := hcs0.cons
  obtain ⟨_, _, rfl, ⟨xi, rfl, w01⟩, q02⟩ := q01.cons
  obtain rfl := q02.nil
  obtain ⟨cs1, rfl, hcs1⟩ := open_cells Tryz.underlying78 [some .u64, some .u64] (by kernel_rfl) (by kernel_rfl) (hval 1 78 v1 rfl rfl) h1
  obtain ⟨_, _, rfl, ⟨ai, rfl, w10⟩, q11⟩ := hcs1.cons
  obtain ⟨_, _, rfl, ⟨bi, rfl, w11⟩, q12⟩ := q11.cons
  obtain rfl := q12.nil
  obtain ⟨av, Qv, c, rfl, hav, hQv⟩ := Go.Zz.open_rowsV Tryz.underlying49 Tryz.underlying22 (by kernel_rfl) (by kernel_rfl) (by kernel_rfl) (hval 2 49 v2 rfl rfl) h2
  obtain ⟨E, hG⟩ := errs hL
  obtain ⟨hT, hs⟩ := table hL
  refine Calls.mono (YtcnbngiplfoomaaGreatDoor.both_any E wi xi ai bi (Go.Zz.bd_u64 w00) (Go.Zz.bd_u64 w01) (Go.Zz.bd_u64 w10) (Go.Zz.bd_u64 w11) av Qv c W (Go.Zz.errs_sub (gs := [3, 2, 4, 0, 5, 1]) (gs' := [3, 2, 0, 5, 1]) hG (by decide)) hT hs hav hQv) fun e W2 he => ?_
  obtain ⟨v, rfl, rfl, hk⟩ := he
  exact ⟨_, rfl, law_post laidOut rfl Tryz.underlying4 (by kernel_rfl) rfl ⟨rfl, rfl, rfl⟩ hW' hk⟩

def errText (x : String × DataW Unit) : Value :=
  match x.2 with
  | .iface _ (.ptr (.agg [.lit (.string t)])) => .string ⟨t.toArray⟩
  | _ => .nilIface
noncomputable def low : Nat := (World.holding Tryz.prog default ⟨#[], #[], []⟩).heap.size
/-- A world for the witness: the variables hold the package's errors. -/
noncomputable def laidWorld (os : Os) : World :=
  let w0 := World.holding Tryz.prog os ⟨(Rows.queryBothRow.laid.map fun x => Obj.cells #[errText x] 302 (0, 0)).toArray, #[], []⟩
  { w0 with heap := ([(3, 1), (2, 2), (4, 3), (0, 4), (5, 5), (1, 6)] : List (Nat × Nat)).foldl (fun h g => h.modify g.1 fun
      | .cells _ t frozen => .cells #[.iface 276 (.pointer (some ⟨low + g.2, 0, none⟩))] t frozen
      | o => o) (w0.heap.modify 10 fun
      | .cells _ t frozen => .cells (Lib.deBruijn64tab.map fun j : Nat => Value.int .u8 (j : Int)).toArray t frozen
      | o => o) }
theorem laid_met (os : Os) (args : Array Value) : laidMet Tryz.prog Rows.queryBothRow.laid ((laidWorld os).forCall (fun _ _ => 0) ⟨#[], args, []⟩).memory :=
  laidMet_of_run' 8 (by kernel_rfl) (by kernel_rfl)
abbrev wargs : Array Value := #[.agg #[.int .u64 0, .int .u64 0], .agg #[.int .u64 0, .int .u64 0], .slice none 0 0]
theorem reads (os : Os) {H : Type} (enc : TypeId × Value → H) : ∃ places, DataW.whole enc Tryz.prog ((laidWorld os).forCall (fun _ _ => 0) ⟨#[], wargs, []⟩).memory Tryz.f11.params.toList Rows.queryBothSpec.vars false wargs.toList 8 = some ([.agg [.lit (.int .u64 0), .lit (.int .u64 0)], .agg [.lit (.int .u64 0), .lit (.int .u64 0)], .nil], [], places) :=
  ⟨[], by kernel_rfl⟩

set_option maxRecDepth 100000 in
theorem lifted (os : Os) (started : os.Started) (H : Type) (enc : TypeId × Value → H) (F : Stop.Interp) :
    ReturnsInHanded {} Tryz.checked os 11 .any ((OpenSpec.ofChange Rows.queryBothSpec).preRow enc Tryz.prog Tryz.f11 Rows.queryBothRow.domain false Rows.queryBothRow.laid) (((OpenSpec.ofChange Rows.queryBothSpec).at F).post enc Tryz.prog Tryz.f11 false true false false) := by
  obtain ⟨places, hx⟩ := reads os enc
  refine returnsInHanded_of_row (C := Tryz.checked) (s := OpenSpec.ofChange Rows.queryBothSpec) own started (by kernel_rfl) Tryz.func11
    (witness_row_atRef (enc := enc) (C := Tryz.checked) false (laidWorld os) wargs rfl (by kernel_rfl) (by kernel_rfl) (by kernel_rfl)
      (OpenSpec.preRow_of_cond 8 hx (by kernel_rfl) (fun k hk => by cases hk) (by kernel_rfl) (laid_met os _))) ?_
  intro W base args ds gs before hval hW _ _ _ hL _ _
  exact contract H enc W args ds gs before hval hW hL

theorem said : Rows.QueryBothSaid :=
  OpenClaim.holds_of_cond 11 Tryz.f11 rfl rfl rfl rfl rfl rfl rfl ⟨rfl, rfl, rfl, rfl, rfl⟩ rfl rfl rfl rfl rfl (by kernel_rfl) Tryz.func11 (by kernel_rfl)
    (of_decide_eq_true (by kernel_rfl)) (by unfold Func.isWrapper; first | (rw [if_pos (by decide +kernel)]; kernel_rfl) | (rw [if_neg (by decide +kernel)]; exact ⟨rfl, rfl⟩))
    (fun os started H enc _ F => by rw [OpenClaim.pre_eq_preRow]; exact lifted os started H enc F)

theorem plain (f : FuncId) (fn : Func) (hf : Tryz.pinned.checked.prog.funcNamed "paddock/paddocklaw09.QueryBoth" = some f) (hfn : Tryz.pinned.checked.prog.funcs[f]? = some fn) :
    true = Tryz.pinned.checked.prog.looks [] ∧ ∀ (j : Nat) t, fn.params[j]? = some t → Tryz.pinned.checked.prog.wantsStandIn t = false := by
  obtain rfl : f = 11 := Option.some.inj ((show Tryz.prog.funcNamed "paddock/paddocklaw09.QueryBoth" = some 11 by kernel_rfl).symm.trans hf) |>.symm
  obtain rfl : fn = Tryz.f11 := (Option.some.inj (Tryz.func11.symm.trans hfn)).symm
  refine ⟨by kernel_rfl, fun j t ht => ?_⟩
  rw [Tryz.params11] at ht
  have hall : (#[78, 78, 49] : Array TypeId).toList.all (fun t => Tryz.prog.wantsStandIn t == false) = true := by kernel_rfl
  simp only [List.all_eq_true, beq_iff_eq] at hall
  exact hall t (by simpa using Array.mem_of_getElem? ht)

/-- for all queries and all rows it returns true and all reads as it did. -/
theorem card : Rows.QueryBothCardSaid :=
  Claim7.holds_tied_plain_at .later [] _ _ _ _ said (fun _ h => by cases h) (by kernel_rfl) (fun _ h => by cases h) queryBoth_row_tie rfl ⟨rfl, rfl⟩ (by kernel_rfl) rfl plain (by kernel_rfl)
end Go.Proofs.YtcnbngiplfoomaaGreatDoor.lawQueryBoth
