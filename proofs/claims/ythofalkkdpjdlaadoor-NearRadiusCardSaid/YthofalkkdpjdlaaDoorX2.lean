/- The walker's steps, continued: an operation under its guard; a run of operations; calls; control. Nothing of any one program stands here. -/
import Derived.Test.YthofalkkdpjdlaaDoorX1
namespace Go.Px
set_option linter.unusedVariables false
set_option linter.unusedSimpArgs false
set_option linter.unusedSectionVars false
open Go.RowKit

/-- How an operation's guard stands: none, or it holds; it doesn't; it is open. -/
inductive Gd where
  | on | off | sym

/-- What the prover tells of an operation. -/
structure Ins where
  os : List Orc := []
  hint : Option Value := none
  sp : Bool := false
  g : Gd := .on

structure St where
  env : Env
  B : Nat
  M : Mem
  d : Bool
  ob : List Prop

/-- What an operation comes to, its operands known. -/
def opVal (P : Program) (X : Addr → Value → Prop) (ρ : Operand → Value) (o : Oper) (i : Ins) (B : Nat) (M : Mem) (d : Bool) : Option (SRes Value) :=
  if i.sp then (spec P ρ o).map fun (v, ob) => ⟨v, B, M, d, [], ob⟩
  else
    match sym P X (execOp ρ o) B M d i.os with
    | some ⟨.value v, B', M', d', [], ob⟩ => some ⟨v, B', M', d', [], ob⟩
    | some ⟨.skip, B', M', d', [], ob⟩ => some ⟨undef, B', M', d', [], ob⟩
    | _ => none

def notSelect : Op → Bool
  | .select .. => false
  | .pick .. => false
  | _ => true

def hinted (h : Option Value) (v : Value) : Value × List Prop :=
  match h with
  | some v' => (v', [v = v'])
  | none => (v, [])

def putE (n : Nat) (d : Option Tmp) (e : EV) (env : Env) : Option Env :=
  match d with
  | none => some env
  | some s => if Nat.blt s n then some ((s, e) :: env) else none

def isLd : Orc → Bool
  | .ld _ _ => true
  | .ex _ => true
  | _ => false

/-- A 'pick', whose two sides may stand under its own test. -/
def pickVal (env : Env) (c a b : Operand) (c0 : Option (Bool × Bool)) : Option (Value × List Prop) :=
  match look env c0 c with
  | some (.bool β, ob) =>
    match c0, look env (some (β, true)) a, look env (some (β, false)) b with
    | none, some (va, oa), some (vb, ob') => some (bif β then va else vb, ob ++ oa.map (fun p => β = true → p) ++ ob'.map (fun p => β = false → p))
    | _, _, _ => none
  | _ => none

/-- One operation. -/
def opStep (P : Program) (X : Addr → Value → Prop) (ops : Array Oper) (n : Nat) (o : Oper) (i : Ins) (s : St) : Option St :=
  match o.guard, i.g with
  | none, .on =>
    match o.op with
    | .pick c a b =>
      match pickVal s.env c a b none with
      | some (v, ob) =>
        match hinted i.hint v with
        | (v', ob') => (putE n o.dst (.val v') s.env).map fun env => { s with env := env, ob := s.ob ++ ob ++ ob' }
      | none => none
    | _ =>
      match notSelect o.op, lookAll s.env none o.op.operands.toList, opVal P X (rho s.env none) o i s.B s.M s.d with
      | true, some ob, some r =>
        match hinted i.hint r.val with
        | (v', ob') => (putE n o.dst (.val v') s.env).map fun env => ⟨env, r.B, r.M, r.d, s.ob ++ ob ++ r.ob ++ ob'⟩
      | _, _, _ => none
  | some (j, want), .on =>
    match ((ops[j]?).bind (·.dst)).bind s.env.get with
    | some (.val (.bool β)) =>
      match o.op with
      | .pick c a b =>
        match pickVal s.env c a b none with
        | some (v, ob) =>
          match hinted i.hint v with
          | (v', ob') => (putE n o.dst (.val v') s.env).map fun env => { s with env := env, ob := s.ob ++ (β = want) :: (ob ++ ob') }
        | none => none
      | _ =>
        match notSelect o.op, lookAll s.env none o.op.operands.toList, opVal P X (rho s.env none) o i s.B s.M s.d with
        | true, some ob, some r =>
          match hinted i.hint r.val with
          | (v', ob') => (putE n o.dst (.val v') s.env).map fun env => ⟨env, r.B, r.M, r.d, s.ob ++ (β = want) :: (ob ++ r.ob ++ ob')⟩
        | _, _, _ => none
    | _ => none
  | some (j, want), .off =>
    match ((ops[j]?).bind (·.dst)).bind s.env.get with
    | some (.val (.bool β)) => (putE n o.dst (.val undef) s.env).map fun env => { s with env := env, ob := s.ob ++ [β = !want] }
    | some (.val (.tuple _)) => (putE n o.dst (.val undef) s.env).map fun env => { s with env := env }
    | _ => none
  | some (j, want), .sym =>
    match ((ops[j]?).bind (·.dst)).bind s.env.get with
    | some (.val (.bool β)) =>
      match notSelect o.op && i.os.all isLd, lookAll s.env (some (β, want)) o.op.operands.toList, opVal P X (rho s.env (some (β, want))) o i s.B s.M s.d with
      | true, some ob, some r =>
        match hinted i.hint r.val with
        | (v', ob') => (putE n o.dst (.gd β want v') s.env).map fun env => { s with env := env, ob := s.ob ++ (ob ++ r.ob ++ ob').map fun p => β = want → p }
      | _, _, _ => none
    | _ => none
  | _, _ => none

/-- What holds of one step. -/
structure StepOk (P : Program) (ops : Array Oper) (n : Nat) (o : Oper) (X : Addr → Value → Prop) (w1 : World) (M : Mem) (a : Act) (s : St) (a2 : Act) (w2 : World) : Prop where
  wp : ∀ (K : Act → World → Prop) (Q : Exit → Act → World → Prop), K a2 w2 → if Region.wanted o (yielded ops a.tmps) then o.wp P a w1 K Q else K (a.put o.dst undef) w1
  fr : Fr n s.env a2
  mem : MemOk s.M w2
  size : w2.heap.size = s.B
  keep : Keep (Is M.names) w1 w2
  names : ∀ k ∈ s.M.names, k ∈ M.names ∨ w1.heap.size ≤ k
  ext : s.d = false → ∀ a v, X a v → w1.cell? a = some v → w2.cell? a = some v

/-- An evaluation that only reads leaves the very world. -/
theorem sym_still {α : Type} {P : Program} {X : Addr → Value → Prop} {w1 : World} (x : Sem α) : ∀ {B : Nat} {M : Mem} {d : Bool} {os : List Orc} {r : SRes α},
    sym P X x B M d os = some r → os.all isLd = true → MemOk M w1 →
    (d = false → ∀ a v, X a v → w1.cell? a = some v) → r.B = B ∧ r.M = M ∧ r.d = d ∧ (AllP r.ob → x.run P w1 = .ok r.val w1) := by
  induction x with
  | pure a => intro B M d os r h _ _ _; simp only [sym, Option.some.injEq] at h; subst h; exact ⟨rfl, rfl, rfl, fun _ => rfl⟩
  | load m a k ih =>
    intro B M d os r h hl hM hx
    cases os with
    | nil => simp [sym] at h
    | cons o os =>
      simp only [List.all_cons, Bool.and_eq_true] at hl
      cases o with
      | ld i off =>
        simp only [sym] at h
        split at h
        · cases h
        · rename_i b hb
          split at h
          · cases h
          · rename_i v hv
            obtain ⟨r', hr', rfl⟩ := Option.map_eq_some_iff.1 h
            obtain ⟨h1, h2, h3, h4⟩ := ih _ hr' hl.2 hM hx
            refine ⟨h1, h2, h3, fun ho => ?_⟩
            simp only [SRes.add, AllP_cons] at ho
            have hc : w1.cell? a = some v := by rw [ho.1, cell?_blk (hM.at_ b (List.mem_of_getElem? hb))]; exact hv
            simp only [Sem.run, hc]
            exact h4 ho.2
      | ex v =>
        cases d with
        | true => simp [sym] at h
        | false =>
          simp only [sym] at h
          obtain ⟨r', hr', rfl⟩ := Option.map_eq_some_iff.1 h
          obtain ⟨h1, h2, h3, h4⟩ := ih _ hr' hl.2 hM hx
          refine ⟨h1, h2, h3, fun ho => ?_⟩
          simp only [SRes.add, AllP_cons] at ho
          have hc : w1.cell? a = some v := hx rfl a v ho.1
          simp only [Sem.run, hc]
          exact h4 ho.2
      | st i off => simp [isLd] at hl
      | nw => simp [isLd] at hl
  | store m a v k ih =>
    intro B M d os r h hl hM hx
    cases os with
    | nil => simp [sym] at h
    | cons o os =>
      simp only [List.all_cons, Bool.and_eq_true] at hl
      cases o with
      | st i off => simp [isLd] at hl
      | _ => simp [sym] at h
  | new o k ih =>
    intro B M d os r h hl hM hx
    cases os with
    | nil => simp [sym] at h
    | cons oc os =>
      simp only [List.all_cons, Bool.and_eq_true] at hl
      cases oc with
      | nw => simp [isLd] at hl
      | _ => simp [sym] at h
  | program k ih => intro B M d os r h hl hM hx; simp only [sym] at h; obtain ⟨h1, h2, h3, h4⟩ := ih _ h hl hM hx; exact ⟨h1, h2, h3, fun ho => by simp only [Sem.run]; exact h4 ho⟩
  | mark m k ih => intro B M d os r h hl hM hx; simp only [sym] at h; obtain ⟨h1, h2, h3, h4⟩ := ih h hl hM hx; exact ⟨h1, h2, h3, fun ho => by simp only [Sem.run]; exact h4 ho⟩
  | shape r k => intro B M d os r h; simp [sym] at h
  | freeze a n k => intro B M d os r h; simp [sym] at h
  | frozen a k => intro B M d os r h; simp [sym] at h
  | getObj a k => intro B M d os r h; simp [sym] at h
  | setObj a o k => intro B M d os r h; simp [sym] at h
  | choose q k => intro B M d os r h; simp [sym] at h
  | sys c k => intro B M d os r h; simp [sym] at h
  | halt c => intro B M d os r h; simp [sym] at h

/-- What an operation does, its operands known. -/
theorem opVal_sound {P : Program} {X : Addr → Value → Prop} {w1 : World} {ρ : Operand → Value} {o : Oper} {i : Ins} {B : Nat} {M : Mem} {d : Bool} {r : SRes Value}
    (h : opVal P X ρ o i B M d = some r) (hM : MemOk M w1) (hB : w1.heap.size = B)
    (hx : d = false → ∀ a v, X a v → w1.cell? a = some v) (ho : AllP r.ob) :
    ∃ w2 nx, (nx = .value r.val ∨ (nx = .skip ∧ r.val = undef)) ∧ (execOp ρ o).run P w1 = .ok nx w2 ∧ MemOk r.M w2 ∧ w2.heap.size = r.B ∧ Keep (Is M.names) w1 w2 ∧
      (∀ k ∈ r.M.names, k ∈ M.names ∨ w1.heap.size ≤ k) ∧ (r.d = false → ∀ a v, X a v → w1.cell? a = some v → w2.cell? a = some v) := by
  unfold opVal at h
  split at h
  · obtain ⟨⟨v, ob⟩, hs, he⟩ := Option.map_eq_some_iff.1 h
    subst he
    exact ⟨w1, _, .inl rfl, spec_sound hs ho w1, hM, hB, Keep.refl _ _, fun k hk => .inl hk, fun _ _ _ _ h => h⟩
  · split at h
    · rename_i v B' M' d' ob hs
      simp only [Option.some.injEq] at h; subst h
      obtain ⟨w2, h2⟩ := sym_sound P X _ _ _ _ _ _ w1 hs hM hB hx ho
      exact ⟨w2, _, .inl rfl, h2.run, h2.mem, h2.size, h2.keep, h2.names, h2.ext⟩
    · rename_i B' M' d' ob hs
      simp only [Option.some.injEq] at h; subst h
      obtain ⟨w2, h2⟩ := sym_sound P X _ _ _ _ _ _ w1 hs hM hB hx ho
      exact ⟨w2, _, .inr ⟨rfl, rfl⟩, h2.run, h2.mem, h2.size, h2.keep, h2.names, h2.ext⟩
    · cases h

theorem opVal_still {P : Program} {X : Addr → Value → Prop} {w1 : World} {ρ : Operand → Value} {o : Oper} {i : Ins} {B : Nat} {M : Mem} {d : Bool} {r : SRes Value}
    (h : opVal P X ρ o i B M d = some r) (hl : i.os.all isLd = true) (hM : MemOk M w1)
    (hx : d = false → ∀ a v, X a v → w1.cell? a = some v) :
    r.B = B ∧ r.M = M ∧ r.d = d ∧ (AllP r.ob → ∃ nx, (nx = .value r.val ∨ (nx = .skip ∧ r.val = undef)) ∧ (execOp ρ o).run P w1 = .ok nx w1) := by
  unfold opVal at h
  split at h
  · obtain ⟨⟨v, ob⟩, hs, he⟩ := Option.map_eq_some_iff.1 h
    subst he
    exact ⟨rfl, rfl, rfl, fun ho => ⟨_, .inl rfl, spec_sound hs ho w1⟩⟩
  · split at h
    · rename_i v B' M' d' ob hs
      simp only [Option.some.injEq] at h; subst h
      obtain ⟨h1, h2, h3, h4⟩ := sym_still _ hs hl hM hx
      exact ⟨h1, h2, h3, fun ho => ⟨_, .inl rfl, h4 ho⟩⟩
    · rename_i B' M' d' ob hs
      simp only [Option.some.injEq] at h; subst h
      obtain ⟨h1, h2, h3, h4⟩ := sym_still _ hs hl hM hx
      exact ⟨h1, h2, h3, fun ho => ⟨_, .inr ⟨rfl, rfl⟩, h4 ho⟩⟩
    · cases h

theorem hinted_sound {h : Option Value} {v v' : Value} {ob : List Prop} (e : hinted h v = (v', ob)) (ho : AllP ob) : v = v' := by
  unfold hinted at e
  split at e <;> simp only [Prod.mk.injEq] at e <;> obtain ⟨rfl, rfl⟩ := e
  · exact ho
  · rfl

theorem put_sound {n : Nat} {env env' : Env} {a : Act} (h : Fr n env a) {d : Option Tmp} {e : EV} {v : Value} (hp : putE n d e env = some env')
    (he : ∀ (b : Act) (s : Nat), b.tmps[s]? = some v → e.holds b s) : Fr n env' (a.put d v) := by
  unfold putE at hp
  split at hp
  · simp only [Option.some.injEq] at hp; subst hp; exact h
  · rename_i s
    split at hp
    · rename_i hlt
      simp only [Option.some.injEq] at hp; subst hp
      exact h.put (by simpa [Nat.blt_eq] using hlt) (he · s)
    · cases hp

theorem wp_of_run {P : Program} {o : Oper} {a : Act} {w1 w2 : World} {nx : Next} {v : Value} (hr : (execOp a.eval o).run P w1 = .ok nx w2)
    (hn : nx = .value v ∨ (nx = .skip ∧ v = undef)) (K : Act → World → Prop) (Q : Exit → Act → World → Prop) (h : K (a.put o.dst v) w2) : o.wp P a w1 K Q := by
  unfold Oper.wp
  rw [hr]
  rcases hn with rfl | ⟨rfl, rfl⟩ <;> exact h

theorem wanted_none {ops : Array Oper} {o : Oper} {tmps : Array Value} (h : o.guard = none) : Region.wanted o (yielded ops tmps) = true := by
  simp [Region.wanted, h]
theorem wanted_some {n : Nat} {env : Env} {a : Act} (hf : Fr n env a) {ops : Array Oper} {o : Oper} {j : Nat} {want β : Bool} (h : o.guard = some (j, want))
    (hg : ((ops[j]?).bind (·.dst)).bind env.get = some (.val (.bool β))) : Region.wanted o (yielded ops a.tmps) = (β == want) := by
  obtain ⟨t, ht, hg⟩ := Option.bind_eq_some_iff.1 hg
  have h1 : a.tmps[t]? = some (.bool β) := hf.at_ t _ hg
  simp [Region.wanted, h, yielded, ht, h1]

theorem wanted_undef {n : Nat} {env : Env} {a : Act} (hf : Fr n env a) {ops : Array Oper} {o : Oper} {j : Nat} {want : Bool} {xs : Array Value} (h : o.guard = some (j, want))
    (hg : ((ops[j]?).bind (·.dst)).bind env.get = some (.val (.tuple xs))) : Region.wanted o (yielded ops a.tmps) = false := by
  obtain ⟨t, ht, hg⟩ := Option.bind_eq_some_iff.1 hg
  have h1 : a.tmps[t]? = some (.tuple xs) := hf.at_ t _ hg
  simp [Region.wanted, h, yielded, ht, h1]

theorem allP_imp {c : Prop} (hc : c) : ∀ {l : List Prop}, AllP (l.map fun p => c → p) → AllP l
  | [], _ => trivial
  | p :: l, h => by
    rw [List.map_cons, AllP_cons] at h
    rw [AllP_cons]
    exact ⟨h.1 hc, allP_imp hc h.2⟩

theorem execOp_rho {n : Nat} {env : Env} {a : Act} (hf : Fr n env a) {c : Option (Bool × Bool)} (hc : CondOk c) {o : Oper} {ob : List Prop}
    (hn : notSelect o.op = true) (hl : lookAll env c o.op.operands.toList = some ob) (ho : AllP ob) : execOp a.eval o = execOp (rho env c) o :=
  execOp_congr o (fun cs b e => by rw [e] at hn; simp [notSelect] at hn) fun x hx => lookAll_sound hf hc hl ho x (by simpa using hx)

theorem allP_map_bool {β b : Bool} (hb : β = b) : ∀ {l : List Prop}, AllP (l.map fun p => β = b → p) → AllP l := fun h => allP_imp hb h

theorem pickVal_sound {P : Program} {n : Nat} {env : Env} {a : Act} (hf : Fr n env a) {c x y : Operand} {v : Value} {ob : List Prop} (h : pickVal env c x y none = some (v, ob)) (ho : AllP ob)
    {o : Oper} (hop : o.op = .pick c x y) (w : World) : (execOp a.eval o).run P w = .ok (.value v) w := by
  unfold pickVal at h
  split at h
  · rename_i β oc hc
    split at h
    · rename_i va oa vb ob' _ ha hb
      simp only [Option.some.injEq, Prod.mk.injEq] at h
      obtain ⟨rfl, rfl⟩ := h
      rw [AllP_append, AllP_append] at ho
      have e1 : a.eval c = .bool β := look_sound hf (c := none) trivial hc ho.1.1
      cases β with
      | true =>
        have e2 : a.eval x = va := look_sound hf (c := some (true, true)) rfl ha (allP_imp rfl ho.1.2)
        simp [execOp, hop, e1, e2, asBool]
      | false =>
        have e2 : a.eval y = vb := look_sound hf (c := some (false, false)) rfl hb (allP_imp rfl ho.2)
        simp [execOp, hop, e1, e2, asBool]
    · cases h
  · cases h

theorem AllP_mid {l m : List Prop} {p : Prop} : AllP (l ++ p :: m) ↔ AllP l ∧ p ∧ AllP m := by rw [AllP_append, AllP_cons]

/-- One step is sound. -/
theorem opStep_sound {P : Program} {X : Addr → Value → Prop} {w1 : World} {ops : Array Oper} {n : Nat} {o : Oper} {i : Ins} {s s' : St} {a : Act}
    (h : opStep P X ops n o i s = some s') (hf : Fr n s.env a) (hM : MemOk s.M w1) (hB : w1.heap.size = s.B)
    (hx : s.d = false → ∀ a v, X a v → w1.cell? a = some v) (ho : AllP s'.ob) :
    AllP s.ob ∧ ∃ a2 w2, StepOk P ops n o X w1 s.M a s' a2 w2 := by
  unfold opStep at h
  split at h
  · rename_i hg _
    split at h
    · rename_i c x y hop
      split at h
      · rename_i v ob hp
        split at h
        rename_i v' ob' hh
        obtain ⟨env, he, rfl⟩ := Option.map_eq_some_iff.1 h
        rw [AllP_append, AllP_append] at ho
        have hv := hinted_sound hh ho.2
        subst hv
        refine ⟨ho.1.1, a.put o.dst v, w1, ?_, put_sound hf he (fun b s hb => hb), hM, hB, Keep.refl _ _, fun k hk => .inl hk, fun _ _ _ _ h => h⟩
        intro K Q hK
        rw [wanted_none hg]
        exact wp_of_run (pickVal_sound hf hp ho.1.2 hop w1) (.inl rfl) K Q hK
      · cases h
    · split at h
      · rename_i ob r hn hl hv
        split at h
        rename_i v' ob' hh
        obtain ⟨env, he, rfl⟩ := Option.map_eq_some_iff.1 h
        simp only [AllP_append] at ho
        obtain ⟨⟨⟨ho1, ho2⟩, ho3⟩, ho4⟩ := ho
        have hv' := hinted_sound hh ho4
        subst hv'
        obtain ⟨w2, nx, hnx, hr, h1, h2, h3, h4, h5⟩ := opVal_sound hv hM hB hx ho3
        refine ⟨ho1, a.put o.dst r.val, w2, ?_, put_sound hf he (fun b s hb => hb), h1, h2, h3, h4, h5⟩
        intro K Q hK
        rw [wanted_none hg]
        exact wp_of_run (by rw [execOp_rho hf (c := none) trivial hn hl ho2]; exact hr) hnx K Q hK
      · cases h
  · rename_i j want hg _
    split at h
    · rename_i β hgv
      split at h
      · rename_i c x y hop
        split at h
        · rename_i v ob hp
          split at h
          rename_i v' ob' hh
          obtain ⟨env, he, rfl⟩ := Option.map_eq_some_iff.1 h
          simp only [AllP_append, AllP_cons] at ho
          obtain ⟨ho1, hβ, ho2, ho4⟩ := ho
          have hv' := hinted_sound hh ho4
          subst hv'
          refine ⟨ho1, a.put o.dst v, w1, ?_, put_sound hf he (fun b s hb => hb), hM, hB, Keep.refl _ _, fun k hk => .inl hk, fun _ _ _ _ h => h⟩
          intro K Q hK
          rw [wanted_some hf hg hgv, hβ]
          simp only [BEq.rfl, if_true]
          exact wp_of_run (pickVal_sound hf hp ho2 hop w1) (.inl rfl) K Q hK
        · cases h
      · split at h
        · rename_i ob r hn hl hv
          split at h
          rename_i v' ob' hh
          obtain ⟨env, he, rfl⟩ := Option.map_eq_some_iff.1 h
          simp only [AllP_append, AllP_cons] at ho
          obtain ⟨ho1, hβ, ⟨ho2, ho3⟩, ho4⟩ := ho
          have hv' := hinted_sound hh ho4
          subst hv'
          obtain ⟨w2, nx, hnx, hr, h1, h2, h3, h4, h5⟩ := opVal_sound hv hM hB hx ho3
          refine ⟨ho1, a.put o.dst r.val, w2, ?_, put_sound hf he (fun b s hb => hb), h1, h2, h3, h4, h5⟩
          intro K Q hK
          rw [wanted_some hf hg hgv, hβ]
          simp only [BEq.rfl, if_true]
          exact wp_of_run (by rw [execOp_rho hf (c := none) trivial hn hl ho2]; exact hr) hnx K Q hK
        · cases h
    · cases h
  · rename_i j want hg _
    split at h
    · rename_i β hgv
      obtain ⟨env, he, rfl⟩ := Option.map_eq_some_iff.1 h
      simp only [AllP_append] at ho
      obtain ⟨ho1, hβ⟩ := ho
      refine ⟨ho1, a.put o.dst undef, w1, ?_, put_sound hf he (fun b s hb => hb), hM, hB, Keep.refl _ _, fun k hk => .inl hk, fun _ _ _ _ h => h⟩
      intro K Q hK
      have hβ' : β = !want := hβ
      rw [wanted_some hf hg hgv, hβ']
      cases want <;> simpa using hK
    · rename_i xs hgv
      obtain ⟨env, he, rfl⟩ := Option.map_eq_some_iff.1 h
      refine ⟨ho, a.put o.dst undef, w1, ?_, put_sound hf he (fun b s hb => hb), hM, hB, Keep.refl _ _, fun k hk => .inl hk, fun _ _ _ _ h => h⟩
      intro K Q hK
      rw [wanted_undef hf hg hgv]
      simpa using hK
    · cases h
  · rename_i j want hg _
    split at h
    · rename_i β hgv
      split at h
      · rename_i ob r hn hl hv
        split at h
        rename_i v' ob' hh
        obtain ⟨env, he, rfl⟩ := Option.map_eq_some_iff.1 h
        rw [AllP_append] at ho
        obtain ⟨ho1, ho2⟩ := ho
        simp only [Bool.and_eq_true] at hn
        obtain ⟨e1, e2, e3, e4⟩ := opVal_still (w1 := w1) hv hn.2 hM hx
        refine ⟨ho1, ?_⟩
        by_cases hβ : β = want
        · have ho3 := allP_imp hβ ho2
          simp only [AllP_append] at ho3
          obtain ⟨⟨ho4, ho5⟩, ho6⟩ := ho3
          obtain ⟨nx, hnx, hr⟩ := e4 ho5
          have hv' := hinted_sound hh ho6
          subst hv'
          refine ⟨a.put o.dst r.val, w1, ?_, put_sound hf he (fun b s hb => by simp only [EV.holds, if_pos hβ]; exact hb), hM, hB, Keep.refl _ _, fun k hk => .inl hk, fun _ _ _ _ h => h⟩
          intro K Q hK
          rw [wanted_some hf hg hgv, hβ]
          simp only [BEq.rfl, if_true]
          exact wp_of_run (by rw [execOp_rho hf (c := some (β, want)) hβ hn.1 hl ho4]; exact hr) hnx K Q hK
        · refine ⟨a.put o.dst undef, w1, ?_, put_sound hf he (fun b s hb => by simp only [EV.holds, if_neg hβ]; exact hb), hM, hB, Keep.refl _ _, fun k hk => .inl hk, fun _ _ _ _ h => h⟩
          intro K Q hK
          rw [wanted_some hf hg hgv, if_neg (by simpa using hβ)]
          exact hK
      · cases h
    · cases h
  · cases h

/-- A run of operations; what is left of the list. -/
def opsRun (P : Program) (X : Addr → Value → Prop) (ops : Array Oper) (n : Nat) : List Ins → List Oper → St → Option (List Oper × St)
  | [], l, s => some (l, s)
  | _ :: _, [], _ => none
  | i :: is, o :: l, s =>
    match opStep P X ops n o i s with
    | some s' => opsRun P X ops n is l s'
    | none => none

theorem opsRun_sound {P : Program} {X : Addr → Value → Prop} {ops : Array Oper} {n : Nat} {Q : Exit → Act → World → Prop} : ∀ {is : List Ins} {l l' : List Oper} {s s' : St} {a : Act} {w1 : World},
    opsRun P X ops n is l s = some (l', s') → Fr n s.env a → MemOk s.M w1 → w1.heap.size = s.B →
    (s.d = false → ∀ a v, X a v → w1.cell? a = some v) → AllP s'.ob →
    AllP s.ob ∧ ∃ a2 w2, (wpList P ops Q l' a2 w2 → wpList P ops Q l a w1) ∧ Fr n s'.env a2 ∧ MemOk s'.M w2 ∧ w2.heap.size = s'.B ∧ Keep (Is s.M.names) w1 w2 ∧
      (∀ k ∈ s'.M.names, k ∈ s.M.names ∨ w1.heap.size ≤ k)
  | [], l, l', s, s', a, w1, h, hf, hM, hB, hx, ho => by
    simp only [opsRun, Option.some.injEq, Prod.mk.injEq] at h
    obtain ⟨rfl, rfl⟩ := h
    exact ⟨ho, a, w1, id, hf, hM, hB, Keep.refl _ _, fun k hk => .inl hk⟩
  | _ :: _, [], _, _, _, _, _, h, _, _, _, _, _ => by simp [opsRun] at h
  | i :: is, o :: l, l', s, s', a, w1, h, hf, hM, hB, hx, ho => by
    simp only [opsRun] at h
    split at h
    · rename_i s1 h1
      suffices H : AllP s1.ob by
        obtain ⟨ho0, a2, w2, h2⟩ := opStep_sound h1 hf hM hB hx H
        obtain ⟨_, a3, w3, h3, h4, h5, h6, h7, h8⟩ := opsRun_sound (Q := Q) h h2.fr h2.mem h2.size (fun e a v h0 => h2.ext e a v h0 (hx (by
          cases hd : s.d with
          | false => rfl
          | true => exact absurd (opStep_d h1 hd) (by rw [e]; simp)) a v h0)) ho
        refine ⟨ho0, a3, w3, fun hw => ?_, h4, h5, h6, ?_, ?_⟩
        · exact wpList_step fun K hK => h2.wp K Q (hK _ _ (h3 hw))
        · refine ⟨h7.os.trans h2.keep.os, h7.tape.trans h2.keep.tape, h7.output.trans h2.keep.output, Nat.le_trans h2.keep.size h7.size, Nat.le_trans h2.keep.drawn h7.drawn, fun k hk hn => ?_⟩
          refine (h7.block k (Nat.lt_of_lt_of_le hk h2.keep.size) fun hi => ?_).trans (h2.keep.block k hk hn)
          rcases h2.names k hi with h9 | h9
          · exact hn h9
          · omega
        · intro k hk
          rcases h8 k hk with h9 | h9
          · exact h2.names k h9
          · exact .inr (Nat.le_trans h2.keep.size h9)
      exact opsRun_ob h ho
    · cases h
where
  opStep_d {P : Program} {X : Addr → Value → Prop} {ops : Array Oper} {n : Nat} {o : Oper} {i : Ins} {s s' : St} (h : opStep P X ops n o i s = some s') (hd : s.d = true) : s'.d = true := by
    have key : ∀ {ρ : Operand → Value} {r : SRes Value}, opVal P X ρ o i s.B s.M s.d = some r → r.d = true := by
      intro ρ r hv
      unfold opVal at hv
      split at hv
      · obtain ⟨⟨v, ob⟩, hs, he⟩ := Option.map_eq_some_iff.1 hv
        subst he; exact hd
      · split at hv
        · rename_i hs; simp only [Option.some.injEq] at hv; subst hv; have h2 := sym_d _ _ _ _ _ _ _ _ hs hd; exact h2
        · rename_i hs; simp only [Option.some.injEq] at hv; subst hv; have h2 := sym_d _ _ _ _ _ _ _ _ hs hd; exact h2
        · cases hv
    unfold opStep at h
    repeat' split at h
    all_goals first
      | cases h; done
      | (obtain ⟨env, he, rfl⟩ := Option.map_eq_some_iff.1 h; first | exact hd | exact key ‹_›)
  opsRun_ob {P : Program} {X : Addr → Value → Prop} {ops : Array Oper} {n : Nat} : ∀ {is : List Ins} {l l' : List Oper} {s s' : St},
      opsRun P X ops n is l s = some (l', s') → AllP s'.ob → AllP s.ob
    | [], l, l', s, s', h, ho => by
      simp only [opsRun, Option.some.injEq, Prod.mk.injEq] at h
      obtain ⟨rfl, rfl⟩ := h
      exact ho
    | _ :: _, [], _, _, _, h, _ => by simp [opsRun] at h
    | i :: is, o :: l, l', s, s', h, ho => by
      simp only [opsRun] at h
      split at h
      · rename_i s1 h1
        have H := opsRun_ob h ho
        unfold opStep at h1
        repeat' split at h1
        all_goals first
          | cases h1; done
          | (obtain ⟨env, he, rfl⟩ := Option.map_eq_some_iff.1 h1; simp only [AllP_append] at H; first | exact H.1.1.1 | exact H.1.1 | exact H.1)
          | (obtain ⟨env, he, rfl⟩ := Option.map_eq_some_iff.1 h1; exact H)
      · cases h
end Go.Px
