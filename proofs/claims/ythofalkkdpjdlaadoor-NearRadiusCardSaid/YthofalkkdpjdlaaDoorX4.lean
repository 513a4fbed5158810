/- The walker's rules, continued: regions whose order is drawn; loops; joins. Nothing of any one program stands here. -/
import Derived.Test.YthofalkkdpjdlaaDoorX3
import Derived.Deep.LoopGhost
namespace Go.Px
set_option linter.unusedVariables false
set_option linter.unusedSimpArgs false
set_option linter.unusedSectionVars false
open Go.RowKit

/-! ### Regions whose order is drawn

An operation that only reads, whose value is the same in every world that the region's other operations can lead to, may be taken ahead of all others. So the operations are taken in one order: those that only read as soon as they may come up; each of the others when none but it may come up. -/

/-- Only the normal end is let in. -/
def OnlyN (K : Act → World → Prop) : Exit → Act → World → Prop
  | .normal, a, w => K a w
  | _, _, _ => False

theorem wpOpN_mono {P : Program} {ops : Array Oper} {Q Q' : Exit → Act → World → Prop} (hq : ∀ e a w, Q e a w → Q' e a w) {i : Nat} {K : Act → World → Prop} {a : Act} {w : World}
    (h : wpOp P ops Q i K a w) : wpOp P ops Q' i K a w := by
  unfold wpOp at *
  split
  · rename_i ho; rw [ho] at h; exact h
  · rename_i o ho
    rw [ho] at h
    simp only at h
    split
    · rename_i hw
      rw [if_pos hw] at h
      rcases h with h | ⟨h1, a0, w0, h2⟩
      · refine .inl ?_
        unfold Oper.wp at *
        generalize (execOp a.eval o).run P w = r at *
        cases r with
        | ok n w' =>
          cases n <;> simp only [Oper.upon] at h ⊢ <;> first
            | exact h
            | exact h.elim
            | (refine Calls.mono h fun e w'' he => ?_
               cases e with
               | returned v => exact he
               | panicked c => exact hq _ _ _ he
               | outgrown => obtain ⟨a0, w0, h0⟩ := he; exact ⟨a0, w0, hq _ _ _ h0⟩)
        | halt x w' => cases x <;> simp only [Oper.upon] at h ⊢ <;> first | exact hq _ _ _ h | exact h.elim
      · exact .inr ⟨h1, a0, w0, hq _ _ _ h2⟩
    · rename_i hw
      rw [if_neg hw] at h
      exact h

theorem wpAnyN_mono {P : Program} {ops : Array Oper} {Q Q' : Exit → Act → World → Prop} {md : Region.Mode} (hq : ∀ e a w, Q e a w → Q' e a w) : ∀ {fuel : Nat} {listed : Array Bool} {a : Act} {w : World},
    wpAny P md ops Q fuel listed a w → wpAny P md ops Q' fuel listed a w
  | 0, _, _, _, h => ⟨h.1, hq _ _ _ h.2⟩
  | _ + 1, _, _, _, h => ⟨fun h0 => hq _ _ _ (h.1 h0), fun i hi => wpOp_mono (fun _ _ h => wpAnyN_mono hq h) (wpOpN_mono hq (h.2 i hi))⟩

section
variable {P : Program} {ops : Array Oper} {md : Region.Mode} {C : World → Prop} {K : Act → World → Prop}

/-- Have the operations of H all come up? -/
def stopB (H : List Nat) (listed : Array Bool) : Bool := H.all fun i => listed.getD i false

/-- Whatever order is picked, each world on the way, till the operations of H have come up, being one of C. -/
def wpAnyC (P : Program) (md : Region.Mode) (ops : Array Oper) (C : World → Prop) (H : List Nat) (K : Act → World → Prop) : Nat → Array Bool → Act → World → Prop
  | 0, listed, a, w => Region.ready md ops listed = [] ∧ K a w
  | fuel + 1, listed, a, w =>
    (Region.ready md ops listed = [] → K a w) ∧
    ∀ i ∈ Region.ready md ops listed, wpOp P ops (OnlyN K) i (fun a' w' => (stopB H listed = false → C w') ∧ wpAnyC P md ops C H K fuel (listed.setIfInBounds i true) a' w') a w

theorem stopB_mono {H : List Nat} {listed : Array Bool} {i : Nat} (h : stopB H listed = true) : stopB H (listed.setIfInBounds i true) = true := by
  simp only [stopB, List.all_eq_true] at *
  exact fun j hj => getD_set_true (h j hj)

/-- Behind H another class may be taken. -/
theorem wpAnyC_switch {H H2 : List Nat} {C2 : World → Prop} : ∀ {fuel : Nat} {listed : Array Bool} {a : Act} {w : World}, stopB H listed = true → wpAnyC P md ops C2 H2 K fuel listed a w → wpAnyC P md ops C H K fuel listed a w
  | 0, _, _, _, _, h => h
  | _ + 1, _, _, _, hs, h => ⟨h.1, fun i hi => wpOp_mono (fun _ _ h => ⟨(fun e => by rw [hs] at e; cases e), wpAnyC_switch (stopB_mono hs) h.2⟩) (h.2 i hi)⟩

theorem wpAny_of_C {H : List Nat} : ∀ {fuel : Nat} {listed : Array Bool} {a : Act} {w : World}, wpAnyC P md ops C H K fuel listed a w → wpAny P md ops (OnlyN K) fuel listed a w
  | 0, _, _, _, h => h
  | _ + 1, _, _, _, h => ⟨fun h0 => h.1 h0, fun i hi => wpOp_mono (fun _ _ h => wpAny_of_C h.2) (h.2 i hi)⟩

/-- In this state, in every world of C, operation o leaves v in its slot and the world as it is. -/
def YieldsC (P : Program) (ops : Array Oper) (C : World → Prop) (o : Oper) (v : Value) (a : Act) : Prop :=
  (Region.wanted o (yielded ops a.tmps) = true ∧ ∀ w, C w → ∃ nx, (nx = .value v ∨ (nx = .skip ∧ v = undef)) ∧ (execOp a.eval o).run P w = .ok nx w) ∨
  (Region.wanted o (yielded ops a.tmps) = false ∧ v = undef)

theorem YieldsC.of_same {o : Oper} {v : Value} {a a' : Act} (hy : YieldsC P ops C o v a) (he : execOp a'.eval o = execOp a.eval o)
    (hw : Region.wanted o (yielded ops a'.tmps) = Region.wanted o (yielded ops a.tmps)) : YieldsC P ops C o v a' := by
  unfold YieldsC at *; rw [he, hw]; exact hy

theorem YieldsC.wpOp {i : Nat} {o : Oper} {v : Value} {a : Act} (hi : ops[i]? = some o) (hy : YieldsC P ops C o v a) {Q : Exit → Act → World → Prop} {L : Act → World → Prop} {w : World} (hC : C w)
    (h : L (a.put o.dst v) w) : wpOp P ops Q i L a w := by
  unfold Go.wpOp
  simp only [hi]
  rcases hy with ⟨hw, hv⟩ | ⟨hw, rfl⟩
  · obtain ⟨nx, hnx, hr⟩ := hv w hC
    simp only [hw, if_true]
    exact .inl (wp_of_run hr hnx L Q h)
  · simp only [hw, Bool.false_eq_true, if_false]; exact h

/-- An operation apart from oi: whether oi's value is in its slot already makes no difference to it, and it makes none to oi. -/
theorem wpOp_putC {j : Nat} {oi oj : Oper} {v : Value} (hj : ops[j]? = some oj) (hap : oi.apart ops oj = true) (hsi : ∀ cs b, oi.op ≠ .select cs b) (hsj : ∀ cs b, oj.op ≠ .select cs b)
    {L : Act → World → Prop} {a : Act} {w : World} (hy : YieldsC P ops C oi v a) (h : wpOp P ops (OnlyN K) j L (a.put oi.dst v) w) :
    wpOp P ops (OnlyN K) j (fun a' w' => YieldsC P ops C oi v a' ∧ L (a'.put oi.dst v) w') a w := by
  obtain ⟨h1, h2, h3⟩ := Oper.apart_spec hap
  have keep : ∀ (a : Act), YieldsC P ops C oi v a → ∀ u, YieldsC P ops C oi v (a.put oj.dst u) := fun a hy u =>
    hy.of_same (execOp_put oi hsi a oj.dst u h3) (wanted_put oi a oj.dst u h3)
  unfold wpOp at *
  simp only [hj] at *
  rw [wanted_put oj a oi.dst v h1] at h
  split
  · rename_i hw
    simp only [hw, if_true] at h
    rcases h with h | ⟨_, a0, w0, h0⟩
    case inr => exact h0.elim
    refine .inl ?_
    unfold Oper.wp at *
    rw [execOp_put oj hsj a oi.dst v h1] at h
    generalize (execOp a.eval oj).run P w = r at *
    cases r with
    | ok n w' =>
      cases n <;> simp only [Oper.upon] at h ⊢
      case value u => exact ⟨keep a hy u, by rw [← Act.put_comm a v u h2]; exact h⟩
      case skip => exact ⟨keep a hy _, by rw [← Act.put_comm a v undef h2]; exact h⟩
      case defer d =>
        have kd : YieldsC P ops C oi v { a with defers := d :: a.defers } := hy.of_same rfl rfl
        refine ⟨keep _ kd _, ?_⟩
        rw [← Act.put_comm _ v undef h2, ← Act.put_defers]
        exact h
      case enter f args =>
        refine Calls.mono h fun e w'' he => ?_
        cases e with
        | returned u => exact ⟨keep a hy u, by rw [← Act.put_comm a v u h2]; exact he⟩
        | panicked c => exact he
        | outgrown => obtain ⟨a0, w0, h0⟩ := he; exact h0.elim
      case row row args => exact Rows.mono h fun u w'' he => ⟨keep a hy u, by rw [← Act.put_comm a v u h2]; exact he⟩
    | halt x w' =>
      cases x <;> simp only [Oper.upon] at h ⊢
      case panic u => exact h
  · rename_i hw
    simp only [hw] at h
    exact ⟨keep a hy _, by rw [← Act.put_comm a v undef h2]; exact h⟩

theorem wpOp_and {Q : Exit → Act → World → Prop} {D : World → Prop} {j : Nat} {L : Act → World → Prop} {a : Act} {w : World} (h : wpOp P ops Q j (fun a' w' => L a' w') a w) (hD : ∀ a' w', L a' w' → D w') :
    wpOp P ops Q j (fun a' w' => D w' ∧ L a' w') a w := wpOp_mono (fun a' w' hl => ⟨hD a' w' hl, hl⟩) h

theorem stopB_false {H : List Nat} {listed : Array Bool} {i : Nat} (hH : i ∈ H) (h : listed.getD i true = false) : stopB H listed = false := by
  rw [← Bool.not_eq_true]
  intro hs
  simp only [stopB, List.all_eq_true] at hs
  have h5 := hs i hH
  rcases Nat.lt_or_ge i listed.size with h' | h'
  · simp [h'] at h h5; rw [h] at h5; cases h5
  · simp [Array.getElem?_eq_none h'] at h5

/-- What is not of H waits for all of H. -/
def Waits (md : Region.Mode) (ops : Array Oper) (H : List Nat) : Prop :=
  ∀ j oj, ops[j]? = some oj → ¬ j ∈ H → ∀ i ∈ H, ∃ e ∈ oj.after, Region.binds md e = true ∧ e.on = i
def waitsB (md : Region.Mode) (ops : Array Oper) (H : List Nat) : Bool :=
  (List.range ops.size).all fun j => H.contains j || (match ops[j]? with | some o => H.all fun i => o.after.any fun e => Region.binds md e && e.on == i | none => true)
theorem waits_of {H : List Nat} (h : waitsB md ops H = true) : Waits md ops H := by
  intro j oj hj hn i hi
  simp only [waitsB, List.all_eq_true, List.mem_range] at h
  have h1 := h j (Array.getElem?_eq_some_iff.1 hj).1
  have hc : H.contains j = false := by simpa using hn
  simp only [hc, Bool.false_or, hj, List.all_eq_true] at h1
  obtain ⟨e, he, hb⟩ := Array.any_eq_true'.1 (h1 i hi)
  simp only [Bool.and_eq_true, beq_iff_eq] at hb
  exact ⟨e, he, hb.1, hb.2⟩
theorem Waits.mem {H : List Nat} (h : Waits md ops H) {listed : Array Bool} {i j : Nat} (hi : i ∈ H) (hun : listed.getD i true = false) (hj : j ∈ Region.ready md ops listed) : j ∈ H := by
  by_cases hjH : j ∈ H
  · exact hjH
  · obtain ⟨_, oj, hoj, hall⟩ := mem_ready.1 hj
    obtain ⟨e, he, hb, hon⟩ := h j oj hoj hjH i hi
    have h1 := hall e he hb
    rw [hon] at h1
    rcases Nat.lt_or_ge i listed.size with h' | h'
    · simp [h'] at hun h1; rw [hun] at h1; cases h1
    · simp [Array.getElem?_eq_none h'] at h1

/-- An operation that may come up, and only reads, may be taken first. -/
theorem wpAnyC_first {H : List Nat} (hT : Waits md ops H) {i : Nat} {oi : Oper} {v : Value} (hH : i ∈ H) (hi : ops[i]? = some oi) (hsel : ∀ (j : Nat) (o : Oper) cs b, ops[j]? = some o → o.op ≠ .select cs b) :
    ∀ (fuel : Nat) (listed : Array Bool) (a : Act) (w : World),
      (∀ j oj, ops[j]? = some oj → j ≠ i → listed.getD j true = false → (∀ e ∈ oj.after, Region.binds md e = true → e.on ≠ i) → oi.apart ops oj = true) →
      i ∈ Region.ready md ops listed → YieldsC P ops C oi v a → C w →
      wpAnyC P md ops C H K fuel (listed.setIfInBounds i true) (a.put oi.dst v) w → wpAnyC P md ops C H K (fuel + 1) listed a w := by
  intro fuel
  induction fuel with
  | zero =>
    intro listed a w _ hr hy hC H
    refine ⟨fun h => (by rw [h] at hr; cases hr), fun j hj => ?_⟩
    by_cases hji : j = i
    · subst hji; exact hy.wpOp hi hC ⟨fun _ => hC, H⟩
    · have := ready_mono hj hji
      rw [H.1] at this
      cases this
  | succ fuel ih =>
    intro listed a w hfree hr hy hC hW
    refine ⟨fun h => (by rw [h] at hr; cases hr), fun j hj => ?_⟩
    by_cases hji : j = i
    · subst hji; exact hy.wpOp hi hC ⟨fun _ => hC, hW⟩
    · have h1 := hW.2 j (ready_mono hj hji)
      obtain ⟨hjun, oj, hoj, hall⟩ := mem_ready.1 hj
      have hiun : listed.getD i true = false := (mem_ready.1 hr).1
      have hnot : ∀ e ∈ oj.after, Region.binds md e = true → e.on ≠ i := fun e he hb heq => by
        have h1 := hall e he hb
        rw [heq] at h1
        rcases Nat.lt_or_ge i listed.size with h' | h'
        · simp [h'] at hiun h1; rw [hiun] at h1; cases h1
        · simp [Array.getElem?_eq_none h'] at h1
      have hjH : j ∈ H := hT.mem hH hiun hj
      have hst : stopB H (listed.setIfInBounds i true) = false := stopB_false hjH (by rw [getD_set_ne true (Ne.symm hji)]; exact hjun)
      have h2 := wpOp_putC hoj (hfree j oj hoj hji hjun hnot) (fun cs b => hsel i oi cs b hi) (fun cs b => hsel j oj cs b hoj) hy h1
      have hfree' : ∀ k ok, ops[k]? = some ok → k ≠ i → (listed.setIfInBounds j true).getD k true = false →
          (∀ e ∈ ok.after, Region.binds md e = true → e.on ≠ i) → oi.apart ops ok = true := fun k ok hk hki hun hno => by
        refine hfree k ok hk hki ?_ hno
        by_cases hjk : j = k
        · subst hjk; exact hjun
        · rw [getD_set_ne true hjk] at hun; exact hun
      refine wpOp_mono (fun a' w' h3 => ⟨fun _ => h3.2.1 hst, ih (listed.setIfInBounds j true) a' w' hfree' (ready_mono hr (Ne.symm hji)) h3.1 (h3.2.1 hst) ?_⟩) h2
      rw [Array.setIfInBounds_comm _ _ hji]
      exact h3.2.2

/-- The one order: 'true': it only reads. What has come up behind it. -/
def canonB (md : Region.Mode) (ops : Array Oper) : List (Nat × Bool) → Array Bool → Option (Array Bool)
  | [], listed => some listed
  | (i, true) :: r, listed => if (Region.ready md ops listed).contains i && Region.free md ops listed i then canonB md ops r (listed.setIfInBounds i true) else none
  | (i, false) :: r, listed => if Region.ready md ops listed == [i] then canonB md ops r (listed.setIfInBounds i true) else none

/-- The walk in that order. -/
def wpCan (P : Program) (ops : Array Oper) (C : World → Prop) (K : Act → World → Prop) : List (Nat × Bool) → Act → World → Prop
  | [], a, w => K a w
  | (i, true) :: r, a, w => ∀ oi, ops[i]? = some oi → ∃ v, YieldsC P ops C oi v a ∧ wpCan P ops C K r (a.put oi.dst v) w
  | (i, false) :: r, a, w => wpOp P ops (OnlyN K) i (fun a' w' => C w' ∧ wpCan P ops C K r a' w') a w

theorem wpOp_onlyN {K K' : Act → World → Prop} {i : Nat} {L : Act → World → Prop} {a : Act} {w : World} (h : wpOp P ops (OnlyN K) i L a w) : wpOp P ops (OnlyN K') i L a w := by
  unfold wpOp at *
  split
  · rename_i ho; rw [ho] at h; exact h
  · rename_i o ho
    rw [ho] at h
    simp only at h
    split
    · rename_i hw
      rw [if_pos hw] at h
      rcases h with h | ⟨_, a0, w0, h2⟩
      · refine .inl ?_
        unfold Oper.wp at *
        generalize (execOp a.eval o).run P w = r at *
        cases r with
        | ok n w' =>
          cases n <;> simp only [Oper.upon] at h ⊢ <;> first
            | exact h
            | exact h.elim
            | (refine Calls.mono h fun e w'' he => ?_
               cases e with
               | returned v => exact he
               | panicked c => exact he.elim
               | outgrown => obtain ⟨a0, w0, h0⟩ := he; exact h0.elim)
        | halt x w' => cases x <;> simp only [Oper.upon] at h ⊢ <;> exact h.elim
      · exact h2.elim
    · rename_i hw
      rw [if_neg hw] at h
      exact h

theorem wpCan_sound {H : List Nat} (hT : Waits md ops H) (hs : Region.noSelect ops = true) {K2 : Act → World → Prop} {m : Nat} : ∀ (ord : List (Nat × Bool)) (listed listed' : Array Bool) (a : Act) (w : World), (∀ x ∈ ord, x.1 ∈ H) → canonB md ops ord listed = some listed' → C w →
    wpCan P ops C K2 ord a w → (∀ a w, K2 a w → wpAnyC P md ops C H K m listed' a w) → wpAnyC P md ops C H K (ord.length + m) listed a w
  | [], listed, listed', a, w, _, hB, _, h, hk => by
    simp only [canonB, Option.some.injEq] at hB
    subst hB
    simpa using hk a w h
  | (i, true) :: r, listed, listed', a, w, hH, hB, hC, h, hk => by
    simp only [canonB] at hB
    split at hB
    · rename_i hc
      simp only [Bool.and_eq_true] at hc
      have hr' : i ∈ Region.ready md ops listed := by simpa using hc.1
      obtain ⟨_, oi, hoi, _⟩ := mem_ready.1 hr'
      obtain ⟨v, hy, hk'⟩ := h oi hoi
      have h2 := wpAnyC_first hT (hH _ (List.mem_cons_self ..)) hoi (Region.noSelect_spec hs) (r.length + m) listed a w (Region.free_spec hoi hc.2) hr' hy hC
        (wpCan_sound hT hs r _ _ _ _ (fun x hx => hH x (List.mem_cons_of_mem _ hx)) hB hC hk' hk)
      rw [show ((i, true) :: r).length + m = r.length + m + 1 by simp only [List.length_cons]; omega]
      exact h2
    · cases hB
  | (i, false) :: r, listed, listed', a, w, hH, hB, hC, h, hk => by
    simp only [canonB] at hB
    split at hB
    · rename_i hc
      simp only [beq_iff_eq] at hc
      rw [show ((i, false) :: r).length + m = r.length + m + 1 by simp only [List.length_cons]; omega]
      refine ⟨fun h0 => (by rw [h0] at hc; cases hc), fun j hj => ?_⟩
      rw [hc] at hj
      obtain rfl : j = i := by simpa using hj
      exact wpOp_mono (fun a' w' h3 => ⟨fun _ => h3.1, wpCan_sound hT hs r _ _ _ _ (fun x hx => hH x (List.mem_cons_of_mem _ hx)) hB h3.1 h3.2 hk⟩) (wpOp_onlyN h)
    · cases hB

/-- Orders, where several may come first: each is walked. -/
inductive Tr where
  | leaf (l : List (Nat × Bool))
  | alt (l : List (Nat × Bool)) (s t : Tr)
def Tr.depth : Tr → Nat
  | .leaf l => l.length
  | .alt l s _ => l.length + s.depth
def Tr.heads : Tr → List Nat
  | .leaf ((i, false) :: _) => [i]
  | .alt ((i, false) :: _) _ _ => [i]
  | .alt [] s t => s.heads ++ t.heads
  | _ => []
def Tr.idx : Tr → List (Nat × Bool)
  | .leaf l => l
  | .alt l s t => l ++ s.idx ++ t.idx

/-- Is it a way through all orders? 'b': the first one's turn has come, among others. -/
def okTr (md : Region.Mode) (ops : Array Oper) (fin : Array Bool → Bool) : Bool → Tr → Array Bool → Bool
  | false, .leaf l, x => match canonB md ops l x with | some y => fin y | none => false
  | true, .leaf ((i, false) :: r), x => match canonB md ops r (x.setIfInBounds i true) with | some y => fin y | none => false
  | false, .alt l s t, x => match canonB md ops l x with
    | some y => Nat.beq s.depth t.depth && (Region.ready md ops y).all (fun i => (s.heads ++ t.heads).contains i) && !(Region.ready md ops y).isEmpty && okTr md ops fin true s y && okTr md ops fin true t y
    | none => false
  | true, .alt [] s t, x => Nat.beq s.depth t.depth && okTr md ops fin true s x && okTr md ops fin true t x
  | true, .alt ((i, false) :: r) s t, x => match canonB md ops r (x.setIfInBounds i true) with
    | some y => Nat.beq s.depth t.depth && (Region.ready md ops y).all (fun i => (s.heads ++ t.heads).contains i) && !(Region.ready md ops y).isEmpty && okTr md ops fin true s y && okTr md ops fin true t y
    | none => false
  | true, _, _ => false

def wpTr (P : Program) (ops : Array Oper) (C : World → Prop) (K : Act → World → Prop) : Tr → Act → World → Prop
  | .leaf l, a, w => wpCan P ops C K l a w
  | .alt l s t, a, w => wpCan P ops C (fun a' w' => wpTr P ops C K s a' w' ∧ wpTr P ops C K t a' w') l a w

theorem wpCan_head {H : List Nat} (hT : Waits md ops H) (hs : Region.noSelect ops = true) {K2 : Act → World → Prop} {m : Nat} {i : Nat} {r : List (Nat × Bool)} {listed listed' : Array Bool} {a : Act} {w : World} (hr : ∀ x ∈ r, x.1 ∈ H)
    (hB : canonB md ops r (listed.setIfInBounds i true) = some listed') (h : wpCan P ops C K2 ((i, false) :: r) a w) (hk : ∀ a w, C w → K2 a w → wpAnyC P md ops C H K m listed' a w) (hKC : ∀ a w, wpCan P ops C K2 r a w → C w → wpCan P ops C (fun a' w' => C w' ∧ K2 a' w') r a w) :
    wpOp P ops (OnlyN K) i (fun a' w' => (stopB H listed = false → C w') ∧ wpAnyC P md ops C H K (r.length + m) (listed.setIfInBounds i true) a' w') a w :=
  wpOp_mono (fun a' w' h3 => ⟨fun _ => h3.1, wpCan_sound hT hs r _ _ _ _ hr hB h3.1 (hKC _ _ h3.2 h3.1) fun a w h => hk a w h.1 h.2⟩) (wpOp_onlyN h)

/-- The class holds at the end too. -/
theorem wpCan_keeps {K2 : Act → World → Prop} : ∀ (r : List (Nat × Bool)) (a : Act) (w : World), (∀ x ∈ r, ∃ o, ops[x.1]? = some o) → wpCan P ops C K2 r a w → C w → wpCan P ops C (fun a' w' => C w' ∧ K2 a' w') r a w
  | [], a, w, _, h, hC => ⟨hC, h⟩
  | (i, true) :: r, a, w, hx, h, hC => fun oi hoi => by
    obtain ⟨v, hy, hk⟩ := h oi hoi
    exact ⟨v, hy, wpCan_keeps r _ w (fun x hx' => hx x (List.mem_cons_of_mem _ hx')) hk hC⟩
  | (i, false) :: r, a, w, hx, h, hC => by
    refine wpOp_onlyN (K := K2) (wpOp_mono (fun a' w' h3 => ⟨h3.1, wpCan_keeps r a' w' (fun x hx' => hx x (List.mem_cons_of_mem _ hx')) h3.2 h3.1⟩) h)

theorem heads_ready {s t : Tr} {y : Array Bool} (h : (Region.ready md ops y).all (fun i => (s.heads ++ t.heads).contains i) = true) {i : Nat} (hi : i ∈ Region.ready md ops y) : i ∈ s.heads ∨ i ∈ t.heads := by
  simp only [List.all_eq_true] at h
  have := h i hi
  simpa using this

theorem wpTr_sound {H : List Nat} (hT : Waits md ops H) (hs : Region.noSelect ops = true) (hin : ∀ i ∈ H, ∃ o, ops[i]? = some o) {K2 : Act → World → Prop} {m : Nat} {fin : Array Bool → Bool} (hfin : ∀ x a w, C w → fin x = true → K2 a w → wpAnyC P md ops C H K m x a w) :
    ∀ (t : Tr) (x : Array Bool) (a : Act) (w : World), (∀ y ∈ t.idx, y.1 ∈ H) → C w → wpTr P ops C K2 t a w →
      (okTr md ops fin false t x = true → wpAnyC P md ops C H K (t.depth + m) x a w) ∧
      (okTr md ops fin true t x = true → ∃ d, t.depth + m = d + 1 ∧ ∀ i ∈ t.heads, wpOp P ops (OnlyN K) i (fun a' w' => (stopB H x = false → C w') ∧ wpAnyC P md ops C H K d (x.setIfInBounds i true) a' w') a w) := by
  intro t
  induction t with
  | leaf l =>
    intro x a w hH hC h
    refine ⟨fun hok => ?_, fun hok => ?_⟩
    · simp only [okTr] at hok
      split at hok
      · rename_i y hy
        exact wpCan_sound hT hs l x y a w hH hy hC (wpCan_keeps l a w (fun z hz => hin _ (hH z hz)) h hC) fun a w h => hfin y a w h.1 hok h.2
      · cases hok
    · cases l with
      | nil => simp [okTr] at hok
      | cons p r =>
        obtain ⟨i, b⟩ := p
        cases b with
        | true => simp [okTr] at hok
        | false =>
          simp only [okTr] at hok
          split at hok
          · rename_i y hy
            refine ⟨r.length + m, by simp only [Tr.depth, List.length_cons]; omega, fun j hj => ?_⟩
            obtain rfl : j = i := by simpa [Tr.heads] using hj
            have hr : ∀ z ∈ r, z.1 ∈ H := fun z hz => hH z (List.mem_cons_of_mem _ hz)
            exact wpCan_head hT hs hr hy h (fun a w hC h => hfin y a w hC hok h) fun a w h hC => wpCan_keeps r a w (fun z hz => hin _ (hr z hz)) h hC
          · cases hok
  | alt l s t ihs iht =>
    intro x a w hH hC h
    have hHs : ∀ y ∈ s.idx, y.1 ∈ H := fun y hy => hH y (by simp [Tr.idx, hy])
    have hHt : ∀ y ∈ t.idx, y.1 ∈ H := fun y hy => hH y (by simp [Tr.idx, hy])
    have hHl : ∀ y ∈ l, y.1 ∈ H := fun y hy => hH y (by simp [Tr.idx, hy])
    have key : ∀ y : Array Bool, (Nat.beq s.depth t.depth && (Region.ready md ops y).all (fun i => (s.heads ++ t.heads).contains i) && !(Region.ready md ops y).isEmpty && okTr md ops fin true s y && okTr md ops fin true t y) = true →
        ∀ a w, C w → (wpTr P ops C K2 s a w ∧ wpTr P ops C K2 t a w) → wpAnyC P md ops C H K (s.depth + m) y a w := by
      intro y hok a w hC h
      simp only [Bool.and_eq_true] at hok
      obtain ⟨⟨⟨⟨hd, hr⟩, hne⟩, hos⟩, hot⟩ := hok
      have hd : s.depth = t.depth := Nat.eq_of_beq_eq_true hd
      obtain ⟨d, hd1, h1⟩ := (ihs y a w hHs hC h.1).2 hos
      obtain ⟨d', hd2, h2⟩ := (iht y a w hHt hC h.2).2 hot
      obtain rfl : d = d' := by omega
      rw [hd1]
      refine ⟨fun h0 => (by rw [h0] at hne; simp at hne), fun i hi => ?_⟩
      rcases heads_ready hr hi with h3 | h3
      · exact h1 i h3
      · exact h2 i h3
    refine ⟨fun hok => ?_, fun hok => ?_⟩
    · simp only [okTr] at hok
      split at hok
      · rename_i y hy
        have := wpCan_sound hT hs l x y a w hHl hy hC (wpCan_keeps l a w (fun z hz => hin _ (hHl z hz)) h hC) fun a w h => key y hok a w h.1 h.2
        rw [show (Tr.alt l s t).depth + m = l.length + (s.depth + m) by simp only [Tr.depth]; omega]
        exact this
      · cases hok
    · cases l with
      | nil =>
        simp only [okTr, Bool.and_eq_true] at hok
        obtain ⟨⟨hd, hos⟩, hot⟩ := hok
        have hd : s.depth = t.depth := Nat.eq_of_beq_eq_true hd
        have h' : wpTr P ops C K2 s a w ∧ wpTr P ops C K2 t a w := h
        obtain ⟨d, hd1, h1⟩ := (ihs x a w hHs hC h'.1).2 hos
        obtain ⟨d', hd2, h2⟩ := (iht x a w hHt hC h'.2).2 hot
        obtain rfl : d = d' := by omega
        refine ⟨d, by simp only [Tr.depth, List.length_nil]; omega, fun i hi => ?_⟩
        simp only [Tr.heads, List.mem_append] at hi
        rcases hi with h3 | h3
        · exact h1 i h3
        · exact h2 i h3
      | cons p r =>
        obtain ⟨i, b⟩ := p
        cases b with
        | true => simp [okTr] at hok
        | false =>
          simp only [okTr] at hok
          split at hok
          · rename_i y hy
            refine ⟨r.length + (s.depth + m), by simp only [Tr.depth, List.length_cons]; omega, fun j hj => ?_⟩
            obtain rfl : j = i := by simpa [Tr.heads] using hj
            have hr : ∀ z ∈ r, z.1 ∈ H := fun z hz => hHl z (List.mem_cons_of_mem _ hz)
            exact wpCan_head hT hs hr hy h (fun a w hC h => key y hok a w hC h) fun a w h hC => wpCan_keeps r a w (fun z hz => hin _ (hr z hz)) h hC
          · cases hok

def allIn (ord : List (Nat × Bool)) (H : List Nat) : Bool := ord.all fun x => H.contains x.1
theorem allIn_spec {ord : List (Nat × Bool)} {H : List Nat} (h : allIn ord H = true) : ∀ y ∈ ord, y.1 ∈ H := fun y hy => by
  simp only [allIn, List.all_eq_true] at h
  simpa using h y hy

/-- A region that asks the tape for its order. C: what is known of the worlds on the way. -/
theorem sxdraw {id : Nat} {Q : Exit → Act → World → Prop} {a : Act} {w : World} {l : List Oper} {C : World → Prop} (t : Tr) (hm : P.follows .mixedOrders = true) (hs : Region.noSelect l.toArray = true)
    (hB : okTr .any l.toArray (fun x => (Region.ready .any l.toArray x).isEmpty) false t (Array.replicate l.length false) = true) (hl : Nat.beq t.depth l.length = true) (hw : waitsB .any l.toArray (List.range l.length) = true) (hH : allIn t.idx (List.range l.length) = true) (hC : C w.drew)
    (h : wpTr P l.toArray C K t a w.drew) : (Code.region id l.toArray true).wp P (Exit.then K Q) a w := by
  refine wp_region_any hm (wpAnyN_mono (Q := OnlyN K) (fun e a w h => ?_) (wpAny_of_C (C := C) (H := List.range l.length) ?_))
  · cases e <;> first | exact h | exact h.elim
  · have e : t.depth = l.length := Nat.eq_of_beq_eq_true hl
    have := (wpTr_sound (P := P) (K := K) (K2 := K) (m := 0) (waits_of hw) hs (fun i hi => by simp at hi; exact ⟨_, by simp [hi]; rfl⟩) (fin := fun x => (Region.ready .any l.toArray x).isEmpty) (fun x a w hC hr hk => ⟨by simpa using hr, hk⟩) t (Array.replicate l.length false) a w.drew (allIn_spec hH) hC h).1 hB
    rw [e] at this
    simpa using this

/-- The same in two parts: what is in the second waits for all that is in the first. -/
theorem sxdraw2 {id : Nat} {Q : Exit → Act → World → Prop} {a : Act} {w : World} {l : List Oper} {C C2 : World → Prop} (t t2 : Tr) (H : List Nat) (hm : P.follows .mixedOrders = true) (hs : Region.noSelect l.toArray = true)
    (hB : okTr .any l.toArray (fun x => stopB H x && okTr .any l.toArray (fun x => (Region.ready .any l.toArray x).isEmpty) false t2 x) false t (Array.replicate l.length false) = true) (hl : Nat.beq (t.depth + t2.depth) l.length = true)
    (hw : waitsB .any l.toArray H = true) (hH : allIn t.idx H = true) (hw2 : waitsB .any l.toArray (List.range l.length) = true) (hH2 : allIn t2.idx (List.range l.length) = true) (hHl : H.all (fun i => Nat.blt i l.length) = true) (hC : C w.drew)
    (h : wpTr P l.toArray C (fun a' w' => C2 w' ∧ wpTr P l.toArray C2 K t2 a' w') t a w.drew) : (Code.region id l.toArray true).wp P (Exit.then K Q) a w := by
  refine wp_region_any hm (wpAnyN_mono (Q := OnlyN K) (fun e a w h => ?_) (wpAny_of_C (C := C) (H := H) ?_))
  · cases e <;> first | exact h | exact h.elim
  · have e : t.depth + t2.depth = l.length := Nat.eq_of_beq_eq_true hl
    have hHl' : ∀ i ∈ H, ∃ o, l.toArray[i]? = some o := fun i hi => by
      simp only [List.all_eq_true, Nat.blt_eq] at hHl
      have := hHl i hi
      exact ⟨_, by simp [this]; rfl⟩
    have := (wpTr_sound (P := P) (K := K) (K2 := fun a' w' => C2 w' ∧ wpTr P l.toArray C2 K t2 a' w') (m := t2.depth) (waits_of hw) hs hHl' (fin := fun x => stopB H x && okTr .any l.toArray (fun x => (Region.ready .any l.toArray x).isEmpty) false t2 x) (fun x a w hC hr hk => by
      simp only [Bool.and_eq_true] at hr
      refine wpAnyC_switch (C2 := C2) (H2 := List.range l.length) hr.1 ?_
      have := (wpTr_sound (P := P) (K := K) (K2 := K) (m := 0) (waits_of hw2) hs (fun i hi => by simp at hi; exact ⟨_, by simp [hi]; rfl⟩) (fin := fun x => (Region.ready .any l.toArray x).isEmpty) (fun x a w hC hr hk => ⟨by simpa using hr, hk⟩) t2 x a w (allIn_spec hH2) hk.1 hk.2).1 hr.2
      simpa using this) t (Array.replicate l.length false) a w.drew (allIn_spec hH) hC h).1 hB
    rw [e] at this
    exact this
theorem sxnext {C2 : World → Prop} {t2 : Tr} {a : Act} {w : World} (h2 : C2 w) (h : wpTr P ops C2 K t2 a w) : wpCan P ops C (fun a' w' => C2 w' ∧ wpTr P ops C2 K t2 a' w') [] a w := ⟨h2, h⟩
theorem sxleaf {l : List (Nat × Bool)} {a : Act} {w : World} (h : wpCan P ops C K l a w) : wpTr P ops C K (.leaf l) a w := h
theorem sxalts {l : List (Nat × Bool)} {s t : Tr} {a : Act} {w : World} (h : wpCan P ops C (fun a' w' => wpTr P ops C K s a' w' ∧ wpTr P ops C K t a' w') l a w) : wpTr P ops C K (.alt l s t) a w := h
theorem sxboth {s t : Tr} {a : Act} {w : World} (h1 : wpTr P ops C K s a w) (h2 : wpTr P ops C K t a w) : wpCan P ops C (fun a' w' => wpTr P ops C K s a' w' ∧ wpTr P ops C K t a' w') [] a w := ⟨h1, h2⟩
/-- One operation of a drawn region, by the rules for those of any other. -/
theorem scstep {ord : List (Nat × Bool)} {j : Nat} {o : Oper} {a : Act} {w : World} (hj : ops[j]? = some o) (h : wpList P ops (OnlyN fun a' w' => C w' ∧ wpCan P ops C K ord a' w') [o] a w) : wpCan P ops C K ((j, false) :: ord) a w := by
  show wpOp P ops (OnlyN K) j _ a w
  refine wpOp_onlyN (K := fun a' w' => C w' ∧ wpCan P ops C K ord a' w') ?_
  unfold wpOp
  rw [hj]
  exact h
theorem scdone {ord : List (Nat × Bool)} {a : Act} {w : World} (hC : C w) (h : wpCan P ops C K ord a w) : wpList P ops (OnlyN fun a' w' => C w' ∧ wpCan P ops C K ord a' w') [] a w := wpList_nil ⟨hC, h⟩
end
end Go.Px
