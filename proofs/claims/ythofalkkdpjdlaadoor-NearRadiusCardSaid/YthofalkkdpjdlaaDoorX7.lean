/- The walker's rules for an operation whose run is known from outside: the two forms of call that enter no code, a type assertion, '==' of interface values. Nothing of any one program stands here. -/
import Derived.Test.YthofalkkdpjdlaaDoorX6
import Derived.LaidEql
namespace Go.Px
set_option linter.unusedVariables false
set_option linter.unusedSimpArgs false
set_option linter.unusedSectionVars false
open Go.RowKit

section
variable {P : Program} {ops : Array Oper} {n : Nat} {Q : Exit → Act → World → Prop} {rest : List Oper} {env : Env} {M : Mem} {a : Act} {w w' : World}

/-- An operation with a value, its run known. -/
theorem sxval (hf : Fr n env a) {o : Oper} {d : Tmp} {v : Value} {ob : List Prop} (hgd : o.guard = none) (hd : o.dst = some d) (hdn : Nat.blt d n = true) (hn : notSelect o.op = true)
    (hl : lookAll env none o.op.operands.toList = some ob) (ho : AllP ob) (hr : (execOp (rho env none) o).run P w = .ok (.value v) w')
    (k : ∀ a, Fr n ((d, .val v) :: env) a → wpList P ops Q rest a w') : wpList P ops Q (o :: rest) a w := by
  refine wpList_plain hgd fun K hK => ?_
  refine wp_of_run (by rw [execOp_rho hf (c := none) trivial hn hl ho]; exact hr) (.inl rfl) K Q ?_
  rw [hd]
  exact hK _ _ (k _ (hf.putv (by simpa [Nat.blt_eq] using hdn) v))

/-- The same under a guard that holds. -/
theorem sxvalg (hf : Fr n env a) {o : Oper} {d : Tmp} {v : Value} {ob : List Prop} {j : Nat} {want : Bool} (hgd : o.guard = some (j, want)) (hgv : ((ops[j]?).bind (·.dst)).bind env.get = some (.val (.bool want)))
    (hd : o.dst = some d) (hdn : Nat.blt d n = true) (hn : notSelect o.op = true)
    (hl : lookAll env none o.op.operands.toList = some ob) (ho : AllP ob) (hr : (execOp (rho env none) o).run P w = .ok (.value v) w')
    (k : ∀ a, Fr n ((d, .val v) :: env) a → wpList P ops Q rest a w') : wpList P ops Q (o :: rest) a w := by
  refine wpList_step fun K hK => ?_
  rw [wanted_some hf hgd hgv]
  simp only [BEq.rfl, if_true]
  refine wp_of_run (by rw [execOp_rho hf (c := none) trivial hn hl ho]; exact hr) (.inl rfl) K Q ?_
  rw [hd]
  exact hK _ _ (k _ (hf.putv (by simpa [Nat.blt_eq] using hdn) v))

/-- An operation without a value, its run known. -/
theorem sxdo (hf : Fr n env a) {o : Oper} {ob : List Prop} (hgd : o.guard = none) (hd : o.dst = none) (hn : notSelect o.op = true)
    (hl : lookAll env none o.op.operands.toList = some ob) (ho : AllP ob) (hr : (execOp (rho env none) o).run P w = .ok .skip w')
    (k : ∀ a, Fr n env a → wpList P ops Q rest a w') : wpList P ops Q (o :: rest) a w := by
  refine wpList_plain hgd fun K hK => ?_
  refine wp_of_run (by rw [execOp_rho hf (c := none) trivial hn hl ho]; exact hr) (.inr ⟨rfl, rfl⟩) K Q ?_
  rw [hd]
  exact hK _ _ (k _ hf)
end

section
variable {P : Program} {ρ : Operand → Value} {o : Oper} {w w' : World} {v : Value}

theorem ox_eql {t rt ta tb : TypeId} {x y : Operand} {va vb : Value} (hop : o.op = .binOp .eql t x y rt) (hx : ρ x = .iface ta va) (hy : ρ y = .iface tb vb)
    (h : (Go.binOp .eql t (.iface ta va) (.iface tb vb)).run P w = .ok v w) : (execOp ρ o).run P w = .ok (.value v) w := by
  simp [execOp, hop, hx, hy, eqGuard, h]
theorem ox_assert {xT t : TypeId} {ok : Bool} {x : Operand} {u : Value} (hop : o.op = .typeAssert x xT t ok) (hx : ρ x = u) (h : (Instr.typeAssert u xT t ok).run P w = .ok v w) :
    (execOp ρ o).run P w = .ok (.value v) w := by
  simp [execOp, hop, hx, h]
theorem ox_callx {c : Call} {f : Operand} {g : FuncId} {args : List Value} (hop : o.op = .call c) (hc : c.callee = .value f) (hf : ρ f = .func (.func g) #[] #[]) (ha : c.args.toList.map ρ = args)
    (h : (callFunc g args.toArray).run P w = .ok (.value v) w') : (execOp ρ o).run P w = .ok (.value v) w' := by
  have ha : c.args.map ρ = args.toArray := by apply Array.ext'; simpa using ha
  simp [execOp, hop, resolve, hc, Deferred.ofValue, hf, ha, invoke, h]
theorem ox_invoke {c : Call} {recv : Operand} {name : String} {t : TypeId} {u u' : Value} {g : FuncId} {args : List Value} (hop : o.op = .call c) (hc : c.callee = .invoke recv name) (hr : ρ recv = .iface t u) (ha : c.args.toList.map ρ = args)
    (hm : (Go.method (P.types.size + Made.depth) t u name).run P w = .ok (g, u') w) (h : (callFunc g (u' :: args).toArray).run P w = .ok (.value v) w') : (execOp ρ o).run P w = .ok (.value v) w' := by
  have ha : c.args.map ρ = args.toArray := by apply Array.ext'; simpa using ha
  have e : (#[Value.iface t u] ++ args.toArray).extract 1 (args.length + 1) = args.toArray := by
    apply Array.ext'; simp
  have e2 : #[u'] ++ args.toArray = (u' :: args).toArray := by apply Array.ext'; simp
  simp [execOp, hop, resolve, hc, hr, ha, invoke, callMethod, hm]
  simpa using h
end

/-- Is just one method of those wanted not among those there? -/
def lackB (want : Array (String × TypeId)) (got : Array Method) : Bool :=
  match want.toList.filter fun (name, sig) => !got.any fun m => m.name == name && m.sig == sig with
  | [_] => true
  | _ => false
theorem lackB_missing {want : Array (String × TypeId)} {got : Array Method} (h : lackB want got = true) : ∃ m, Instr.missingMethod want got = some m := by
  unfold lackB at h
  split at h
  · rename_i x hx
    unfold Instr.missingMethod
    rw [hx]
    simp only [List.map_cons, List.map_nil]
    rcases Bool.eq_false_or_eq_true (x.1.contains (Char.ofNat 46)) with h1 | h1
    · exact ⟨_, by simp [List.partition, List.partition.loop, h1, Instr.least]; rfl⟩
    · exact ⟨_, by simp [List.partition, List.partition.loop, h1, Instr.least]; rfl⟩
  · cases h
theorem run_assert_lacks {P : Program} {t tv xT : TypeId} {want : Array (String × TypeId)} {z : Value} (hu : P.underlying t = some (.interface want)) (h : (P.info? tv).map (fun i => lackB want i.methods) = some true)
    (hz : (P.info? t).map (·.zero) = some (some z)) (v : Value) (w : World) : (Instr.typeAssert (.iface tv v) xT t true).run P w = .ok (.tuple #[z, .bool false]) w := by
  obtain ⟨i, hi, hl⟩ := Option.map_eq_some_iff.1 h
  obtain ⟨j, hj, hz'⟩ := Option.map_eq_some_iff.1 hz
  obtain ⟨m, hm⟩ := lackB_missing hl
  simp [Instr.typeAssert, run_underlying hu, typeInfo, hi, hm, zeroValue, hj, hz']
end Go.Px
