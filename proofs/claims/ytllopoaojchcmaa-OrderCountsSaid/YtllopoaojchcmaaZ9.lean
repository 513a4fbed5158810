/- The law OrderCounts, closed: for every two lists of handles it returns true and the lists read as they did. -/
import Derived.Test.YtllopoaojchcmaaRows
import Derived.Test.YtllopoaojchcmaaC7
import Derived.Test.YtllopoaojchcmaaXJ
import Derived.Test.YtllopoaojchcmaaXp2j
import Derived.Lib.SmallJoins
namespace Go.Proofs.Ytllopoaojchcmaa.lawOrderCounts
open Go.ChangeShapes Go.WideShapes Go.ChangeAt Go.RowKit Go.Joins Go.Px

theorem own : ownKnob Try.prog.godebug = none := by kernel_rfl
theorem laidOut : laidOutB Try.prog = true := by kernel_rfl
set_option maxRecDepth 100000 in
theorem contract (H : Type) (enc : TypeId × Value → H) (W : World) (args : Array Value) (ds gs : List (DataW H)) (before : List MemPlace)
    (hval : ∀ (j : Nat) t v, Try.f10.params[j]? = some t → args[j]? = some v → Value.okWide Try.prog W .any 0 t v)
    (hW : DataW.Whole enc Try.prog Try.f10.params.toList Rows.orderCountsSpec.vars false W args.toList ds gs before) :
    Calls Try.prog 10 args W fun e W' => ∃ v, e = .returned v ∧ Rows.orderCountsSpec.post enc Try.prog Try.f10 false true false false W args v W' := by
  have hW' := hW
  obtain ⟨p, q, hA0, hV, rfl, hfz, hnd⟩ := hW
  have hA : DataW.TrodAll enc Try.prog W 0 (fun _ => true) true Try.f10.params.toList args.toList ds p := hA0
  rw [Try.params10] at hA hval
  obtain ⟨v0, v1, d0, d1, p0, p1, rfl, rfl, rfl, h0, h1⟩ := trodAll_two hA
  obtain ⟨av, l, c, rfl, hav, hRav⟩ := open_list (f := fH) (fun _ => rfl) rfl Try.underlying22 [some .i64, some .i64] (by kernel_rfl) rfl (by kernel_rfl) fH_dec (hval 0 22 v0 rfl rfl) h0
  obtain ⟨bv, m, cm, rfl, hbv, hRbv⟩ := open_list (f := fH) (fun _ => rfl) rfl Try.underlying22 [some .i64, some .i64] (by kernel_rfl) rfl (by kernel_rfl) fH_dec (hval 1 22 v1 rfl rfl) h1
  refine Calls.mono (orderCounts_any av l c bv m cm W hav hbv) fun e W2 he => ?_
  obtain ⟨v, rfl, rfl, hk⟩ := he
  exact ⟨_, rfl, law_post laidOut rfl Try.underlying4 (by kernel_rfl) rfl ⟨rfl, rfl, rfl⟩ hW' hk⟩

noncomputable def laidWorld (os : Os) : World := World.holding Try.prog os ⟨#[], #[], []⟩
theorem laid_met (os : Os) (args : Array Value) : laidMet Try.prog Rows.orderCountsRow.laid ((laidWorld os).forCall (fun _ _ => 0) ⟨#[], args, []⟩).memory :=
  laidMet_of_run' 8 (by kernel_rfl) (by kernel_rfl)
abbrev wargs : Array Value := #[.slice none 0 0, .slice none 0 0]
theorem reads (os : Os) {H : Type} (enc : TypeId × Value → H) : ∃ places, DataW.whole enc Try.prog ((laidWorld os).forCall (fun _ _ => 0) ⟨#[], wargs, []⟩).memory Try.f10.params.toList Rows.orderCountsSpec.vars false wargs.toList 8 = some ([.nil, .nil], [], places) :=
  ⟨[], by kernel_rfl⟩

set_option maxRecDepth 100000 in
theorem lifted (os : Os) (started : os.Started) (H : Type) (enc : TypeId × Value → H) (F : Stop.Interp) :
    ReturnsInHanded {} Try.checked os 10 .any ((OpenSpec.ofChange Rows.orderCountsSpec).preRow enc Try.prog Try.f10 Rows.orderCountsRow.domain false Rows.orderCountsRow.laid) (((OpenSpec.ofChange Rows.orderCountsSpec).at F).post enc Try.prog Try.f10 false true false false) := by
  obtain ⟨places, hx⟩ := reads os enc
  refine returnsInHanded_of_row (C := Try.checked) (s := OpenSpec.ofChange Rows.orderCountsSpec) own started (by kernel_rfl) Try.func10
    (witness_row_atRef (enc := enc) (C := Try.checked) false (laidWorld os) wargs rfl (by kernel_rfl) (by kernel_rfl) (by kernel_rfl)
      (OpenSpec.preRow_of_cond 8 hx (by kernel_rfl) (fun k hk => by cases hk) (by kernel_rfl) (laid_met os _))) ?_
  intro W base args ds gs before hval hW _ _ _ hL _ _
  exact contract H enc W args ds gs before hval hW

/-- for every two lists of handles it returns true and the lists read as they did. -/
theorem said : Rows.OrderCountsSaid :=
  OpenClaim.holds_of_cond 10 Try.f10 rfl rfl rfl rfl rfl rfl rfl ⟨rfl, rfl, rfl, rfl, rfl⟩ rfl rfl rfl rfl rfl (by kernel_rfl) Try.func10 (by kernel_rfl)
    (of_decide_eq_true (by kernel_rfl)) (by unfold Func.isWrapper; first | (rw [if_pos (by decide +kernel)]; kernel_rfl) | (rw [if_neg (by decide +kernel)]; exact ⟨rfl, rfl⟩))
    (fun os started H enc _ F => by rw [OpenClaim.pre_eq_preRow]; exact lifted os started H enc F)
end Go.Proofs.Ytllopoaojchcmaa.lawOrderCounts
