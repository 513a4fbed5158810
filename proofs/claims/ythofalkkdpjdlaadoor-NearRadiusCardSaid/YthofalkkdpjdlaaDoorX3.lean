/- The walker's rules: runs of operations as rules of the walk; calls; control; entry and return. Nothing of any one program stands here. -/
import Derived.Test.YthofalkkdpjdlaaDoorX2
namespace Go.Px
set_option linter.unusedVariables false
set_option linter.unusedSimpArgs false
set_option linter.unusedSectionVars false
open Go.RowKit

/-! ### A run of operations that only reads: the very world -/

def Ins.still (i : Ins) : Bool := i.os.all isLd

theorem opStep_still {P : Program} {X : Addr → Value → Prop} {w1 : World} {ops : Array Oper} {n : Nat} {o : Oper} {i : Ins} {s s' : St} {a : Act}
    (h : opStep P X ops n o i s = some s') (hi : i.still = true) (hf : Fr n s.env a) (hM : MemOk s.M w1)
    (hx : s.d = false → ∀ a v, X a v → w1.cell? a = some v) (ho : AllP s'.ob) :
    s'.B = s.B ∧ s'.M = s.M ∧ s'.d = s.d ∧ AllP s.ob ∧ ∃ a2, Fr n s'.env a2 ∧
      ∀ (K : Act → World → Prop) (Q : Exit → Act → World → Prop), K a2 w1 → if Region.wanted o (yielded ops a.tmps) then o.wp P a w1 K Q else K (a.put o.dst undef) w1 := by
  unfold opStep at h
  split at h
  · rename_i hg _
    split at h
    · rename_i c x y hop
      split at h
      · rename_i v ob hp
        split at h
        rename_i v' ob' hh
        obtain ⟨env, he, rfl⟩ := Option.map_eq_some_iff.1 h
        rw [AllP_append, AllP_append] at ho
        have hv := hinted_sound hh ho.2
        subst hv
        refine ⟨rfl, rfl, rfl, ho.1.1, a.put o.dst v, put_sound hf he (fun b s hb => hb), ?_⟩
        intro K Q hK
        rw [wanted_none hg]
        exact wp_of_run (pickVal_sound hf hp ho.1.2 hop w1) (.inl rfl) K Q hK
      · cases h
    · split at h
      · rename_i ob r hn hl hv
        split at h
        rename_i v' ob' hh
        obtain ⟨env, he, rfl⟩ := Option.map_eq_some_iff.1 h
        simp only [AllP_append] at ho
        obtain ⟨⟨⟨ho1, ho2⟩, ho3⟩, ho4⟩ := ho
        have hv' := hinted_sound hh ho4
        subst hv'
        obtain ⟨e1, e2, e3, e4⟩ := opVal_still (w1 := w1) hv hi hM hx
        obtain ⟨nx, hnx, hr⟩ := e4 ho3
        refine ⟨e1, e2, e3, ho1, a.put o.dst r.val, put_sound hf he (fun b s hb => hb), ?_⟩
        intro K Q hK
        rw [wanted_none hg]
        exact wp_of_run (by rw [execOp_rho hf (c := none) trivial hn hl ho2]; exact hr) hnx K Q hK
      · cases h
  · rename_i j want hg _
    split at h
    · rename_i β hgv
      split at h
      · rename_i c x y hop
        split at h
        · rename_i v ob hp
          split at h
          rename_i v' ob' hh
          obtain ⟨env, he, rfl⟩ := Option.map_eq_some_iff.1 h
          simp only [AllP_append, AllP_cons] at ho
          obtain ⟨ho1, hβ, ho2, ho4⟩ := ho
          have hv' := hinted_sound hh ho4
          subst hv'
          refine ⟨rfl, rfl, rfl, ho1, a.put o.dst v, put_sound hf he (fun b s hb => hb), ?_⟩
          intro K Q hK
          rw [wanted_some hf hg hgv, hβ]
          simp only [BEq.rfl, if_true]
          exact wp_of_run (pickVal_sound hf hp ho2 hop w1) (.inl rfl) K Q hK
        · cases h
      · split at h
        · rename_i ob r hn hl hv
          split at h
          rename_i v' ob' hh
          obtain ⟨env, he, rfl⟩ := Option.map_eq_some_iff.1 h
          simp only [AllP_append, AllP_cons] at ho
          obtain ⟨ho1, hβ, ⟨ho2, ho3⟩, ho4⟩ := ho
          have hv' := hinted_sound hh ho4
          subst hv'
          obtain ⟨e1, e2, e3, e4⟩ := opVal_still (w1 := w1) hv hi hM hx
          obtain ⟨nx, hnx, hr⟩ := e4 ho3
          refine ⟨e1, e2, e3, ho1, a.put o.dst r.val, put_sound hf he (fun b s hb => hb), ?_⟩
          intro K Q hK
          rw [wanted_some hf hg hgv, hβ]
          simp only [BEq.rfl, if_true]
          exact wp_of_run (by rw [execOp_rho hf (c := none) trivial hn hl ho2]; exact hr) hnx K Q hK
        · cases h
    · cases h
  · rename_i j want hg _
    split at h
    · rename_i β hgv
      obtain ⟨env, he, rfl⟩ := Option.map_eq_some_iff.1 h
      simp only [AllP_append] at ho
      obtain ⟨ho1, hβ⟩ := ho
      refine ⟨rfl, rfl, rfl, ho1, a.put o.dst undef, put_sound hf he (fun b s hb => hb), ?_⟩
      intro K Q hK
      have hβ' : β = !want := hβ
      rw [wanted_some hf hg hgv, hβ']
      cases want <;> simpa using hK
    · rename_i xs hgv
      obtain ⟨env, he, rfl⟩ := Option.map_eq_some_iff.1 h
      refine ⟨rfl, rfl, rfl, ho, a.put o.dst undef, put_sound hf he (fun b s hb => hb), ?_⟩
      intro K Q hK
      rw [wanted_undef hf hg hgv]
      simpa using hK
    · cases h
  · rename_i j want hg _
    split at h
    · rename_i β hgv
      split at h
      · rename_i ob r hn hl hv
        split at h
        rename_i v' ob' hh
        obtain ⟨env, he, rfl⟩ := Option.map_eq_some_iff.1 h
        rw [AllP_append] at ho
        obtain ⟨ho1, ho2⟩ := ho
        simp only [Bool.and_eq_true] at hn
        obtain ⟨e1, e2, e3, e4⟩ := opVal_still (w1 := w1) hv hn.2 hM hx
        refine ⟨rfl, rfl, rfl, ho1, ?_⟩
        by_cases hβ : β = want
        · have ho3 := allP_imp hβ ho2
          simp only [AllP_append] at ho3
          obtain ⟨⟨ho4, ho5⟩, ho6⟩ := ho3
          obtain ⟨nx, hnx, hr⟩ := e4 ho5
          have hv' := hinted_sound hh ho6
          subst hv'
          refine ⟨a.put o.dst r.val, put_sound hf he (fun b s hb => by simp only [EV.holds, if_pos hβ]; exact hb), ?_⟩
          intro K Q hK
          rw [wanted_some hf hg hgv, hβ]
          simp only [BEq.rfl, if_true]
          exact wp_of_run (by rw [execOp_rho hf (c := some (β, want)) hβ hn.1 hl ho4]; exact hr) hnx K Q hK
        · refine ⟨a.put o.dst undef, put_sound hf he (fun b s hb => by simp only [EV.holds, if_neg hβ]; exact hb), ?_⟩
          intro K Q hK
          rw [wanted_some hf hg hgv, if_neg (by simpa using hβ)]
          exact hK
      · cases h
    · cases h
  · cases h

theorem opsRun_still {P : Program} {X : Addr → Value → Prop} {w1 : World} {ops : Array Oper} {n : Nat} {Q : Exit → Act → World → Prop} : ∀ {is : List Ins} {l l' : List Oper} {s s' : St} {a : Act},
    opsRun P X ops n is l s = some (l', s') → is.all Ins.still = true → Fr n s.env a → MemOk s.M w1 →
    (s.d = false → ∀ a v, X a v → w1.cell? a = some v) → AllP s'.ob →
    ∃ a2, (wpList P ops Q l' a2 w1 → wpList P ops Q l a w1) ∧ Fr n s'.env a2 ∧ s'.M = s.M
  | [], l, l', s, s', a, h, _, hf, _, _, _ => by
    simp only [opsRun, Option.some.injEq, Prod.mk.injEq] at h
    obtain ⟨rfl, rfl⟩ := h
    exact ⟨a, id, hf, rfl⟩
  | _ :: _, [], _, _, _, _, h, _, _, _, _, _ => by simp [opsRun] at h
  | i :: is, o :: l, l', s, s', a, h, hi, hf, hM, hx, ho => by
    simp only [opsRun] at h
    simp only [List.all_cons, Bool.and_eq_true] at hi
    split at h
    · rename_i s1 h1
      obtain ⟨e1, e2, e3, _, a2, h2, h3⟩ := opStep_still h1 hi.1 hf hM hx (opsRun_sound.opsRun_ob h ho)
      obtain ⟨a3, h4, h5, h6⟩ := opsRun_still (Q := Q) h hi.2 h2 (by rw [e2]; exact hM) (by rw [e3]; exact hx) ho
      exact ⟨a3, fun hw => wpList_step fun K hK => h3 K Q (hK _ _ (h4 hw)), h5, h6.trans e2⟩
    · cases h

/-! ### The rules -/

section
variable {P : Program} {ops : Array Oper} {n : Nat} {Q : Exit → Act → World → Prop} {l : List Oper} {env : Env} {M : Mem} {a : Act} {w : World}

/-- A run that only reads. -/
theorem sx0 (hf : Fr n env a) (hM : MemOk M w) (is : List Ins) {l' : List Oper} {env' : Env} {d' : Bool} {M' : Mem} {ob : List Prop}
    (h : ∀ B, ∃ B', opsRun P (fun a v => w.cell? a = some v) ops n is l ⟨env, B, M, false, []⟩ = some (l', ⟨env', B', M', d', ob⟩)) (hi : is.all Ins.still = true) (ho : AllP ob)
    (k : ∀ a, Fr n env' a → wpList P ops Q l' a w) : wpList P ops Q l a w := by
  obtain ⟨B', h⟩ := h 0
  obtain ⟨a2, h1, h2, _⟩ := opsRun_still (Q := Q) h hi hf hM (fun _ _ _ h => h) ho
  exact h1 (k a2 h2)

/-- A run that reads, writes known blocks and makes new ones: the new ones are B, B + 1 .. -/
theorem sx (hf : Fr n env a) (hM : MemOk M w) (is : List Ins) {l' : List Oper} {env' : Nat → Env} {d' : Bool} {B' : Nat → Nat} {M' : Nat → Mem} {ob : Nat → List Prop}
    (h : ∀ B, opsRun P (fun a v => w.cell? a = some v) ops n is l ⟨env, B, M, false, []⟩ = some (l', ⟨env' B, B' B, M' B, d', ob B⟩)) (ho : ∀ B, AllP (ob B))
    (k : ∀ a w' B, Fr n (env' B) a → MemOk (M' B) w' → w.heap.size = B → Keep (Is M.names) w w' → wpList P ops Q l' a w') : wpList P ops Q l a w := by
  obtain ⟨_, a2, w2, h1, h2, h3, h4, h5, h6⟩ := opsRun_sound (Q := Q) (h w.heap.size) hf hM rfl (fun _ _ _ h => h) (ho _)
  exact h1 (k a2 w2 _ h2 h3 rfl h5)

/-! ### Calls -/

/-- A call that returns. -/
def Ret (R : Value → World → Prop) : Ending → World → Prop := fun e w => ∃ v, e = .returned v ∧ R v w

theorem Ret.mono {R R' : Value → World → Prop} {e : Ending} {w : World} (h : Ret R e w) (k : ∀ v w, R v w → R' v w) : Ret R' e w :=
  let ⟨v, he, hr⟩ := h; ⟨v, he, k _ _ hr⟩

/-- The callee and the arguments. -/
def callee (env : Env) (c : Call) : Option (FuncId × List Value × List Prop) :=
  match c.callee with
  | .value f =>
    match look env none f, lookAll env none c.args.toList with
    | some (.func (.func g) first captured, ob), some ob' => some (g, first.toList ++ c.args.toList.map (rho env none) ++ captured.toList, ob ++ ob')
    | _, _ => none
  | _ => none

def enters (P : Program) (f : FuncId) : Prop := ∃ fn, P.funcs[f]? = some fn ∧ (fn.name == "runtime.NumGoroutine") = false ∧ fn.body.isSome = true

theorem run_call (hf : Fr n env a) {o : Oper} {c : Call} (hop : o.op = .call c) {g : FuncId} {vs : List Value} {ob : List Prop} (h : callee env c = some (g, vs, ob)) (ho : AllP ob)
    (hg : enters P g) (w : World) : (execOp a.eval o).run P w = .ok (.enter g vs.toArray) w := by
  unfold callee at h
  split at h
  · rename_i f hc
    split at h
    · rename_i g' first captured o1 o2 hl ha
      simp only [Option.some.injEq, Prod.mk.injEq] at h
      obtain ⟨rfl, rfl, rfl⟩ := h
      rw [AllP_append] at ho
      have e1 : a.eval f = .func (.func g') first captured := look_sound hf (c := none) trivial hl ho.1
      have e2 : c.args.map a.eval = (c.args.toList.map (rho env none)).toArray := by
        apply Array.ext'
        simp only [Array.toList_map, List.toList_toArray]
        exact List.map_congr_left fun x hx => lookAll_sound hf (c := none) trivial ha ho.2 x hx
      obtain ⟨fn, h1, h2, h3⟩ := hg
      have h4 : fn.body ≠ none := by intro hb; rw [hb] at h3; cases h3
      have e3 : first ++ ((c.args.toList.map (rho env none)).toArray ++ captured) = (first.toList ++ (c.args.toList.map (rho env none) ++ captured.toList)).toArray := by
        apply Array.ext'; simp
      have h5 : ¬ fn.name = "runtime.NumGoroutine" := by simpa using h2
      simp [execOp, hop, resolve, hc, Deferred.ofValue, e1, e2, invoke, callFunc, h1, h5, h4, e3]
    · cases h
  · cases h

/-- A call of a Go function, by its contract. -/
theorem sxcall (hf : Fr n env a) {o : Oper} {rest : List Oper} {d : Tmp} {c : Call} {g : FuncId} {vs : List Value} {ob : List Prop} {R : Value → World → Prop}
    (hgd : o.guard = none) (hd : o.dst = some d) (hop : o.op = .call c) (hdn : Nat.blt d n = true) (h : callee env c = some (g, vs, ob)) (ho : AllP ob) (hg : enters P g)
    (hc : Calls P g vs.toArray w (Ret R)) (k : ∀ v w' a, R v w' → Fr n ((d, .val v) :: env) a → wpList P ops Q rest a w') : wpList P ops Q (o :: rest) a w := by
  refine wpList_plain hgd fun K hK => ?_
  unfold Oper.wp
  rw [run_call hf hop h ho hg w]
  refine hc.mono fun e w' he => ?_
  obtain ⟨v, rfl, hr⟩ := he
  show K (a.put o.dst v) w'
  rw [hd]
  exact hK _ _ (k v w' _ hr (hf.putv (by simpa [Nat.blt_eq] using hdn) v))

/-- The same under a guard that holds. -/
theorem sxcallg (hf : Fr n env a) {o : Oper} {rest : List Oper} {d : Tmp} {c : Call} {g : FuncId} {vs : List Value} {ob : List Prop} {R : Value → World → Prop} {j : Nat} {want : Bool}
    (hgd : o.guard = some (j, want)) (hgv : ((ops[j]?).bind (·.dst)).bind env.get = some (.val (.bool want)))
    (hd : o.dst = some d) (hop : o.op = .call c) (hdn : Nat.blt d n = true) (h : callee env c = some (g, vs, ob)) (ho : AllP ob) (hg : enters P g)
    (hc : Calls P g vs.toArray w (Ret R)) (k : ∀ v w' a, R v w' → Fr n ((d, .val v) :: env) a → wpList P ops Q rest a w') : wpList P ops Q (o :: rest) a w := by
  refine wpList_step fun K hK => ?_
  rw [wanted_some hf hgd hgv]
  simp only [BEq.rfl, if_true]
  unfold Oper.wp
  rw [run_call hf hop h ho hg w]
  refine hc.mono fun e w' he => ?_
  obtain ⟨v, rfl, hr⟩ := he
  show K (a.put o.dst v) w'
  rw [hd]
  exact hK _ _ (k v w' _ hr (hf.putv (by simpa [Nat.blt_eq] using hdn) v))

/-! ### Control -/

theorem sxcond (hf : Fr n env a) {c : Operand} {x y : Code} {b : Bool} (h : look env none c = some (.bool b, [])) (ht : b = true → x.wp P Q a w) (hff : b = false → y.wp P Q a w) :
    (Code.cond c x y).wp P Q a w :=
  wp_cond_split (look_sound hf (c := none) trivial h trivial) ht hff

/-- The parameters as slots. -/
def argEnv : Nat → List Value → Env
  | _, [] => []
  | k, v :: r => (k, .val v) :: argEnv (k + 1) r

theorem argEnv_get {v : Value} {t : Nat} : ∀ {l : List Value} {k : Nat} {e : EV}, (argEnv k l).get t = some e → ∃ u, e = .val u ∧ k ≤ t ∧ l[t - k]? = some u
  | [], _, _, h => by simp [argEnv, Env.get] at h
  | u :: r, k, e, h => by
    simp only [argEnv, Env.get] at h
    split at h
    · rename_i hk
      have := Nat.eq_of_beq_eq_true hk
      subst this
      exact ⟨u, by simpa using h.symm, Nat.le_refl _, by simp⟩
    · obtain ⟨u', h1, h2, h3⟩ := argEnv_get (v := v) h
      refine ⟨u', h1, by omega, ?_⟩
      have e : t - k = t - (k + 1) + 1 := by omega
      rw [e]; simpa using h3

/-- Entry. -/
theorem sxenter {f : FuncId} {fn : Func} {c : Code} {args : List Value} {R : Ending → World → Prop} (hf : P.funcs[f]? = some fn) (hb : fn.body = some c) (hn : fn.ntmps = n)
    (hle : Nat.ble args.length n = true) (h : ∀ a, Fr n (argEnv 0 args) a → c.wp P (bodyPost P fn R) a w) : Calls P f args.toArray w R := by
  have hle := Nat.le_of_ble_eq_true hle
  refine calls_of_wp hf hb (h _ ⟨rfl, by simp [hn]; omega, fun s e he => ?_⟩)
  obtain ⟨u, rfl, _, h2⟩ := argEnv_get (v := undef) he
  show (args.toArray ++ Array.replicate _ undef)[s]? = some u
  have h3 : s < args.length := by
    rcases Nat.lt_or_ge s args.length with h' | h'
    · exact h'
    · rw [List.getElem?_eq_none (by omega)] at h2; cases h2
  rw [Array.getElem?_append_left (by simpa using h3)]
  simpa using h2

/-- The results, read off slots (and variables that lie in memory). -/
def resL (g : Nat → Value) : List ResultVar → Sem (List Value)
  | [] => pure []
  | .tmp t :: r => do pure (g t :: (← resL g r))
  | .cell a t :: r => do
    let v ← loadVar t (← asAddr (g a))
    pure (v :: (← resL g r))
def resOf : List Value → Value
  | [v] => v
  | l => .tuple l.toArray
def getV (env : Env) (t : Nat) : Value :=
  match env.get t with
  | some (.val v) => v
  | _ => undef
def resKnown (env : Env) : List ResultVar → Bool
  | [] => true
  | .tmp t :: r => (match env.get t with | some (.val _) => true | _ => false) && resKnown env r
  | .cell t _ :: r => (match env.get t with | some (.val _) => true | _ => false) && resKnown env r

theorem getV_sound (hf : Fr n env a) {t : Nat} (h : (match env.get t with | some (.val _) => true | _ => false) = true) : a.tmps.getD t undef = getV env t := by
  unfold getV
  split at h
  · rename_i v hv
    have h1 : a.tmps[t]? = some v := hf.at_ t _ hv
    simp [h1]
  · cases h

theorem results_run (hf : Fr n env a) {fn : Func} {l : List Value} {w2 : World} (hk : resKnown env fn.results.toList = true) (h : (resL (getV env) fn.results.toList).run P w = .ok l w2) :
    (results fn a.tmps).run P w = .ok (resOf l) w2 := by
  unfold results
  rw [Array.mapM_eq_mapM_toList]
  have key : ∀ (f : ResultVar → Sem Value), (∀ t, f (.tmp t) = pure (a.tmps.getD t undef)) → (∀ b t, f (.cell b t) = do loadVar t (← asAddr (a.tmps.getD b undef))) →
      ∀ (rs : List ResultVar) (w w2 : World) (l : List Value), resKnown env rs = true → (resL (getV env) rs).run P w = .ok l w2 → (rs.mapM f).run P w = .ok l w2 := by
    intro f hf1 hf2 rs
    induction rs with
    | nil => intro w w2 l _ h; simpa [resL] using h
    | cons r rs ih =>
      intro w w2 l hk h
      cases r with
      | tmp t =>
        simp only [resKnown, Bool.and_eq_true] at hk
        simp only [resL, Sem.run_bind] at h
        simp only [List.mapM_cons, hf1, Sem.run_bind, Sem.run_pure, Result.andThen_ok, getV_sound hf hk.1]
        cases hr : (resL (getV env) rs).run P w with
        | ok l' w' => rw [hr] at h; rw [ih w w' l' hk.2 hr]; simpa using h
        | halt x w' => rw [hr] at h; simp at h
      | cell b t =>
        simp only [resKnown, Bool.and_eq_true] at hk
        simp only [resL, Sem.run_bind] at h
        simp only [List.mapM_cons, hf2, Sem.run_bind, getV_sound hf hk.1]
        cases ha : (asAddr (getV env b)).run P w with
        | ok ad w1 =>
          rw [ha] at h
          simp only [Result.andThen_ok] at h ⊢
          cases hl : (loadVar t ad).run P w1 with
          | ok v w3 =>
            rw [hl] at h
            simp only [Result.andThen_ok] at h ⊢
            cases hr : (resL (getV env) rs).run P w3 with
            | ok l' w' => rw [hr] at h; rw [ih w3 w' l' hk.2 hr]; simpa using h
            | halt x w' => rw [hr] at h; simp at h
          | halt x w3 => rw [hl] at h; simp at h
        | halt x w1 => rw [ha] at h; simp at h
  rw [Sem.run_bind, Sem.run_map, key _ (fun _ => rfl) (fun _ _ => rfl) _ _ _ _ hk h]
  simp only [Result.andThen_ok, Sem.run_pure]
  congr 1
  match l with
  | [] => simp [resOf]
  | [v] => simp [resOf]
  | v :: u :: r => simp [resOf]

/-- Return: the results are evaluated over the known blocks. -/
theorem sxret (hf : Fr n env a) (hM : MemOk M w) {fn : Func} {R : Value → World → Prop} (os : List Orc) {l : List Value} {M' : Mem} {d' : Bool} {ob : List Prop}
    (hk : resKnown env fn.results.toList = true)
    (h : ∀ B, ∃ B', sym P (fun a v => w.cell? a = some v) (resL (getV env) fn.results.toList) B M false os = some ⟨l, B', M', d', [], ob⟩) (hl : os.all isLd = true) (ho : AllP ob)
    (hR : R (resOf l) w) : bodyPost P fn (Ret R) .ret a w := by
  obtain ⟨B', h⟩ := h 0
  obtain ⟨_, _, _, h4⟩ := sym_still _ h hl hM (fun _ _ _ h => h)
  exact ⟨hf.dfr, _, results_run hf hk (h4 ho), _, rfl, hR⟩
theorem sxend (hf : Fr n env a) (hM : MemOk M w) {fn : Func} {R : Value → World → Prop} (os : List Orc) {l : List Value} {M' : Mem} {d' : Bool} {ob : List Prop}
    (hk : resKnown env fn.results.toList = true)
    (h : ∀ B, ∃ B', sym P (fun a v => w.cell? a = some v) (resL (getV env) fn.results.toList) B M false os = some ⟨l, B', M', d', [], ob⟩) (hl : os.all isLd = true) (ho : AllP ob)
    (hR : R (resOf l) w) : bodyPost P fn (Ret R) .normal a w := sxret hf hM os hk h hl ho hR
end
end Go.Px
