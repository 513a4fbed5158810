/- The walker's steps: one operation, and a run of operations, evaluated over a frame of which the live slots are known. Nothing of any one program stands here. -/
import Derived.Test.YthofalkkdpjdlaaDoorX0
namespace Go.Px
set_option linter.unusedVariables false
set_option linter.unusedSimpArgs false
set_option linter.unusedSectionVars false
open Go.RowKit

/-! ### The frame: what is known of the slots -/

/-- A slot's content: a value; or, behind an open test, a value where the test came out so ('undef' else). -/
inductive EV where
  | val (v : Value)
  | gd (β want : Bool) (v : Value)

abbrev Env := List (Nat × EV)
def Env.get : Env → Nat → Option EV
  | [], _ => none
  | (s, e) :: r, t => if Nat.beq s t then some e else Env.get r t

def EV.holds (a : Act) (s : Nat) : EV → Prop
  | .val v => a.tmps[s]? = some v
  | .gd β want v => a.tmps[s]? = some (if β = want then v else undef)

structure Fr (n : Nat) (env : Env) (a : Act) : Prop where
  dfr : a.defers = []
  size : a.tmps.size = n
  at_ : ∀ s e, env.get s = some e → e.holds a s

/-- Put an entry ahead. -/
theorem Fr.put {n : Nat} {env : Env} {a : Act} (h : Fr n env a) {d : Nat} (hd : d < n) {v : Value} {e : EV}
    (he : ∀ b : Act, b.tmps[d]? = some v → e.holds b d) : Fr n ((d, e) :: env) (a.put (some d) v) := by
  refine ⟨h.dfr, by simp [Act.put, h.size], fun s f hf => ?_⟩
  simp only [Env.get] at hf
  split at hf
  · rename_i hs
    obtain rfl : d = s := Nat.eq_of_beq_eq_true hs
    obtain rfl : e = f := by simpa using hf
    refine he _ ?_
    simp [Act.put, h.size, hd]
  · rename_i hs
    have hne : d ≠ s := fun e => hs (by subst e; exact Nat.beq_refl d)
    have h1 := h.at_ s f hf
    cases f <;> simpa [EV.holds, Act.put, Array.getElem?_setIfInBounds_ne hne] using h1
theorem Fr.putv {n : Nat} {env : Env} {a : Act} (h : Fr n env a) {d : Nat} (hd : d < n) (v : Value) : Fr n ((d, .val v) :: env) (a.put (some d) v) :=
  h.put hd fun _ hb => hb

/-- A subframe: what the shorter list says, the longer one says. -/
def Env.sub (env : Env) : Env → List Prop
  | [] => []
  | (s, e) :: r => (env.get s = some e) :: Env.sub env r
theorem Fr.sub {n : Nat} {env env' : Env} {a : Act} (h : Fr n env a) (hs : AllP (Env.sub env env')) : Fr n env' a := by
  refine ⟨h.dfr, h.size, ?_⟩
  intro s e he
  suffices H : env.get s = some e from h.at_ s e H
  induction env' with
  | nil => simp [Env.get] at he
  | cons x r ih =>
    obtain ⟨s', e'⟩ := x
    simp only [Env.sub, AllP_cons] at hs
    simp only [Env.get] at he
    split at he
    · rename_i hss
      obtain rfl : s' = s := Nat.eq_of_beq_eq_true hss
      obtain rfl : e' = e := by simpa using he
      exact hs.1
    · exact ih hs.2 he

/-- What an operand is. 'c': the open test under which the operation stands. -/
def look (env : Env) (c : Option (Bool × Bool)) : Operand → Option (Value × List Prop)
  | .tmp t =>
    match env.get t with
    | some (.val v) => some (v, [])
    | some (.gd β' want' v) =>
      match c with
      | some (β, want) => if want == want' then some (v, [β' = β]) else none
      | none => none
    | none => none
  | .const v => some (v, [])
  | .global g => some (.pointer (some ⟨g, 0, none⟩), [])
  | .func f => some (.func (.func f) #[] #[], [])

def CondOk (c : Option (Bool × Bool)) : Prop :=
  match c with
  | some (β, want) => β = want
  | none => True

theorem look_sound {n : Nat} {env : Env} {a : Act} (h : Fr n env a) {c : Option (Bool × Bool)} (hc : CondOk c) {x : Operand} {v : Value} {ob : List Prop}
    (hl : look env c x = some (v, ob)) (ho : AllP ob) : a.eval x = v := by
  cases x with
  | tmp t =>
    simp only [look] at hl
    split at hl
    · rename_i u hu
      simp only [Option.some.injEq, Prod.mk.injEq] at hl
      obtain ⟨rfl, rfl⟩ := hl
      have h1 : a.tmps[t]? = some u := h.at_ t _ hu
      simp only [Act.eval, Array.getD_eq_getD_getElem?, h1]; rfl
    · rename_i β' want' u hu
      split at hl
      · rename_i β want
        split at hl
        · rename_i hw
          simp only [Option.some.injEq, Prod.mk.injEq] at hl
          obtain ⟨rfl, rfl⟩ := hl
          have hw' : want = want' := by simpa using hw
          have hβ : β' = β := ho
          have hc' : β = want := hc
          have h1 : a.tmps[t]? = some (if β' = want' then u else undef) := h.at_ t _ hu
          rw [if_pos (by rw [hβ, hc', hw'])] at h1
          simp only [Act.eval, Array.getD_eq_getD_getElem?, h1]; rfl
        · cases hl
      · cases hl
    · cases hl
  | const u => simp only [look, Option.some.injEq, Prod.mk.injEq] at hl; exact hl.1
  | global g => simp only [look, Option.some.injEq, Prod.mk.injEq] at hl; exact hl.1
  | func f => simp only [look, Option.some.injEq, Prod.mk.injEq] at hl; exact hl.1

def rho (env : Env) (c : Option (Bool × Bool)) (x : Operand) : Value :=
  match look env c x with
  | some (v, _) => v
  | none => undef

def lookAll (env : Env) (c : Option (Bool × Bool)) : List Operand → Option (List Prop)
  | [] => some []
  | x :: r =>
    match look env c x, lookAll env c r with
    | some (_, ob), some ob' => some (ob ++ ob')
    | _, _ => none

theorem lookAll_sound {n : Nat} {env : Env} {a : Act} (h : Fr n env a) {c : Option (Bool × Bool)} (hc : CondOk c) : ∀ {l : List Operand} {ob : List Prop},
    lookAll env c l = some ob → AllP ob → ∀ x ∈ l, a.eval x = rho env c x
  | [], _, _, _ => by simp
  | x :: r, ob, hl, ho => by
    simp only [lookAll] at hl
    split at hl
    · rename_i v ob1 ob2 h1 h2
      simp only [Option.some.injEq] at hl
      subst hl
      rw [AllP_append] at ho
      intro y hy
      rcases List.mem_cons.1 hy with rfl | hy
      · rw [look_sound h hc h1 ho.1, rho, h1]
      · exact lookAll_sound h hc h2 ho.2 y hy
    · cases hl

/-! ### Operations whose outcome hangs on symbolic numbers: by their own laws -/

def partV (P : Program) (t : TypeId) (cs : Array Value) (off : Nat) : Option Value :=
  match P.underlying t, P.info? t with
  | some (.struct _), some i | some (.array _ _), some i => some (.agg (cs.extract off (off + i.size)))
  | some _, some _ => cs[off]?
  | _, _ => none

def eqFieldsV (P : Program) (eq : TypeId → Value → Value → Option Bool) (xs ys : Array Value) : List Field → Option Bool
  | [] => some true
  | f :: fs =>
    if f.name ≠ "_" then
      match partV P f.type xs f.offset, partV P f.type ys f.offset with
      | some a, some b =>
        match eq f.type a b, eqFieldsV P eq xs ys fs with
        | some r, some r' => some (r && r')
        | _, _ => none
      | _, _ => none
    else eqFieldsV P eq xs ys fs
def eqVal (P : Program) : Nat → TypeId → Value → Value → Option Bool
  | 0, _, _, _ => none
  | d + 1, t, x, y =>
    match P.underlying t, x, y with
    | some (.int _), .int k a, .int k' b => if k = k' then some (a == b) else none
    | some .bool, .bool a, .bool b => some (a == b)
    | some (.struct fs), .agg xs, .agg ys => if P.stoodInHeld t then none else eqFieldsV P (eqVal P d) xs ys fs.toList
    | _, _, _ => none

theorem partV_sound {P : Program} {t : TypeId} {cs : Array Value} {off : Nat} {v : Value} (h : partV P t cs off = some v) (w : World) : (part t cs off).run P w = .ok v w := by
  unfold partV at h
  split at h <;> rename_i h1 h2 <;> first | cases h | skip
  all_goals simp [part, isAgg, sizeOf, typeInfo, run_underlying h1, h2]
  all_goals first
    | (simpa using h)
    | (simp [h])

theorem eqFieldsV_sound {P : Program} {d : Nat} {w : World} {xs ys : Array Value}
    (hd : ∀ t x y b, eqVal P d t x y = some b → (Op.equalIn d t x y).run P w = .ok b w) :
    ∀ {fs : List Field} {b : Bool}, eqFieldsV P (eqVal P d) xs ys fs = some b → (Op.eqFields d xs ys fs).run P w = .ok b w
  | [], b, h => by simp only [eqFieldsV, Option.some.injEq] at h; subst h; simp [Op.eqFields]
  | f :: fs, b, h => by
    simp only [eqFieldsV] at h
    simp only [Op.eqFields]
    split at h
    · rename_i hn
      rw [if_pos hn]
      split at h
      · rename_i a b' ha hb
        split at h
        · rename_i r r' hr hr'
          simp only [Option.some.injEq] at h
          subst h
          simp only [Sem.run_bind, partV_sound ha, partV_sound hb, hd _ _ _ _ hr, Result.andThen_ok]
          cases r
          · simp
          · simpa using eqFieldsV_sound hd hr'
        · cases h
      · cases h
    · rename_i hn
      rw [if_neg hn]
      exact eqFieldsV_sound hd h

theorem eqVal_sound {P : Program} {w : World} : ∀ (d : Nat) (t : TypeId) (x y : Value) (b : Bool), eqVal P d t x y = some b → (Op.equalIn d t x y).run P w = .ok b w := by
  intro d
  induction d with
  | zero => intro t x y b h; simp [eqVal] at h
  | succ d ih =>
    intro t x y b h
    simp only [eqVal] at h
    split at h
    · rename_i k0 k a k' b' ht
      split at h
      · rename_i hk; subst hk
        simp only [Option.some.injEq] at h; subst h
        exact run_equalIn_int w d t k k0 a b' ht
      · cases h
    · rename_i a b' ht
      simp only [Option.some.injEq] at h; subst h
      exact run_equalIn_bool' w d t a b' ht
    · rename_i fs xs ys ht
      split at h
      · cases h
      · rename_i hp
        have hf : P.fieldsOf t = fs := by simp [Program.fieldsOf, ht]
        rw [run_equalIn_struct w d t xs ys (by rw [hf]; exact ht) (by simpa using hp), hf]
        exact eqFieldsV_sound ih h
    · cases h

/-! ### A composite literal -/

def splice (cells : List Value) (off : Nat) (vs : List Value) : List Value := cells.take off ++ vs ++ cells.drop (off + vs.length)

def fillL (place : Nat → Option (Nat × Nat)) : List Value → List (Nat × Value) → Option (List Value)
  | cells, [] => some cells
  | cells, (i, v) :: r =>
    match place i with
    | none => none
    | some (off, size) =>
      if v.cells.toList.length = size ∧ off + v.cells.toList.length ≤ cells.length then fillL place (splice cells off v.cells.toList) r else none

theorem foldl_set (vs : List Value) : ∀ (off k : Nat) (cells : Array Value), off + k + vs.length ≤ cells.size →
    ((vs.zipIdx k).foldl (fun cs (x : Value × Nat) => cs.setIfInBounds (off + x.2) x.1) cells).toList = splice cells.toList (off + k) vs := by
  induction vs with
  | nil => intro off k cells _; simp [splice]
  | cons v vs ih =>
    intro off k cells h
    simp only [List.length_cons] at h
    simp only [List.zipIdx_cons, List.foldl_cons]
    rw [ih off (k + 1) _ (by simpa using (by omega : off + (k + 1) + vs.length ≤ cells.size))]
    obtain ⟨l⟩ := cells
    simp only [List.size_toArray] at h
    simp only [splice, List.setIfInBounds_toArray, List.length_cons]
    apply List.ext_getElem?
    intro i
    simp only [List.getElem?_append, List.length_append, List.length_take, List.length_set, List.getElem?_take, List.getElem?_set, List.getElem?_drop, List.length_cons]
    have e1 : min (off + (k + 1)) l.length = off + (k + 1) := by omega
    have e2 : min (off + k) l.length = off + k := by omega
    simp only [e1, e2]
    by_cases h1 : i < off + k
    · simp [h1, show i < off + (k + 1) by omega, show i < off + (k + 1) + vs.length by omega, show i < off + k + (vs.length + 1) by omega, show off + k ≠ i by omega]
    · by_cases h2 : i = off + k
      · subst h2
        simp [show off + k < off + (k + 1) by omega, show off + k < off + (k + 1) + vs.length by omega, show off + k < l.length by omega]
      · have h3 : ¬ i < off + (k + 1) := by omega
        obtain ⟨j, rfl⟩ : ∃ j, i = off + (k + 1) + j := ⟨i - (off + (k + 1)), by omega⟩
        by_cases h4 : j < vs.length
        · simp [h1, h3, h4, show off + (k + 1) + j < off + (k + 1) + vs.length by omega, show off + (k + 1) + j < off + k + (vs.length + 1) by omega, show off + (k + 1) + j - (off + (k + 1)) = j by omega, show off + (k + 1) + j - (off + k) = j + 1 by omega]
        · have e3 : off + (k + 1) + vs.length + (off + (k + 1) + j - (off + (k + 1) + vs.length)) = off + (k + 1) + j := by omega
          have e4 : off + k + (vs.length + 1) + (off + (k + 1) + j - (off + k + (vs.length + 1))) = off + (k + 1) + j := by omega
          simp [show ¬ off + (k + 1) + j < off + (k + 1) + vs.length by omega, show ¬ off + (k + 1) + j < off + k + (vs.length + 1) by omega, e3, e4, show off + k ≠ off + (k + 1) + j by omega]

theorem fillL_sound {place : Nat → Option (Nat × Nat)} : ∀ {parts : List (Nat × Value)} {cells : Array Value} {r : List Value}, fillL place cells.toList parts = some r →
    Instr.fill place cells parts = some r.toArray
  | [], cells, r, h => by simp only [fillL, Option.some.injEq] at h; subst h; simp [Instr.fill]
  | (i, v) :: ps, cells, r, h => by
    simp only [fillL] at h
    simp only [Instr.fill]
    split at h
    · cases h
    · rename_i off size hp
      split at h
      · rename_i hc
        obtain ⟨h1, h2⟩ := hc
        simp only [Array.length_toList] at h1 h2
        simp only [hp]
        rw [if_neg (by simp [h1]; omega)]
        refine fillL_sound ?_
        rw [← h]
        congr 1
        have h3 := foldl_set v.cells.toList off 0 cells (by simpa using h2)
        rw [← Array.foldl_toList, Array.toList_zipIdx]
        simpa using h3
      · cases h

def buildV (P : Program) (t : TypeId) (parts : List (Nat × Value)) : Option Value :=
  match P.info? t with
  | some i =>
    match i.zero, P.underlying t with
    | some z, some (.struct fs) =>
      if fs.toList.all (fun f => (P.info? f.type).isSome) then
        (fillL (fun k => (fs.toList[k]?).map fun (f : Field) => (f.offset, P.cellsOf f.type)) z.cells.toList parts).map fun l => .agg l.toArray
      else none
    | some z, some (.array _ e) =>
      match P.info? e with
      | some j => (fillL (fun k => some (k * j.size, j.size)) z.cells.toList parts).map fun l => .agg l.toArray
      | none => none
    | _, _ => none
  | none => none

theorem mapM_places {P : Program} {w : World} : ∀ {l : List Field}, l.all (fun f => (P.info? f.type).isSome) = true →
    (l.mapM (m := Sem) fun f => do pure (f.offset, ← sizeOf f.type)).run P w = .ok (l.map fun (f : Field) => (f.offset, P.cellsOf f.type)) w
  | [], _ => rfl
  | f :: l, h => by
    simp only [List.all_cons, Bool.and_eq_true] at h
    obtain ⟨i, hi⟩ := Option.isSome_iff_exists.1 h.1
    have h2 := mapM_places (w := w) h.2
    simp only [List.mapM_cons, Sem.run_bind, sizeOf, typeInfo, run_program, Result.andThen_ok, hi, Sem.run_pure, List.map_cons] at h2 ⊢
    rw [h2]
    simp [Program.cellsOf, hi]

/-- A slice's first place. -/
def sa (a : Option Addr) : Addr := a.getD ⟨0, 0, none⟩

theorem buildV_sound {P : Program} {t : TypeId} {parts : Array (Nat × Value)} {v : Value} (h : buildV P t parts.toList = some v) (w : World) : (Instr.build t parts).run P w = .ok v w := by
  unfold buildV at h
  split at h
  · rename_i i hi
    split at h
    · rename_i z fs hz hu
      split at h
      · rename_i hall
        obtain ⟨l, hl, rfl⟩ := Option.map_eq_some_iff.1 h
        simp only [Instr.build, zeroValue, typeInfo, run_underlying hu, Sem.run_bind, run_program, Result.andThen_ok, hi, hz, Sem.run_pure]
        rw [Array.mapM_eq_mapM_toList]
        simp only [Sem.run_map, mapM_places hall, Result.andThen_ok]
        have e : (fun (k : Nat) => ((fs.toList.map fun (f : Field) => (f.offset, P.cellsOf f.type)).toArray)[k]?) = fun (k : Nat) => (fs.toList[k]?).map fun (f : Field) => (f.offset, P.cellsOf f.type) := by
          funext k; simp
        rw [e, fillL_sound hl]
        simp
      · cases h
    · rename_i z n e hz hu
      split at h
      · rename_i j hj
        obtain ⟨l, hl, rfl⟩ := Option.map_eq_some_iff.1 h
        simp [Instr.build, zeroValue, sizeOf, typeInfo, run_underlying hu, hi, hz, hj, fillL_sound hl]
      · cases h
    · cases h
  · cases h
/-- Where a part of a slice begins. -/
def cutA (a : Option Addr) (l m sz : Nat) : Option Addr := if m = l then a else a.map (·.add (l * sz))
section
variable {P : Program} {w : World}
variable {ρ : Operand → Value} {o : Oper} {t e x : Nat} {a : Option Addr} {n c sz : Nat}
theorem ox_slice_h {X H : Operand} {k : IntKind} {h : Int} (hop : o.op = .slice t X none (some H) none) (hx : ρ X = .slice a n c) (hh : ρ H = .int k h) (ht : P.underlying t = some (.slice e)) (hi : (P.info? e).map (·.size) = some sz) (hb : 0 ≤ h ∧ h ≤ (c : Int)) :
    (execOp ρ o).run P w = .ok (.value (.slice a h.toNat c)) w := by
  obtain ⟨i, hi1, hi2⟩ := Option.map_eq_some_iff.1 hi
  have eh : (h.toNat : Int) = h := Int.toNat_of_nonneg hb.1
  have e0 : (if c = 0 then a else a.map fun x => x.add 0) = a := by
    split
    · rfl
    · have : (fun x : Addr => x.add 0) = id := rfl
      rw [this]; simp
  simp [execOp, hop, hx, hh, Instr.sliceAt, Instr.slice, run_underlying ht, Instr.sliceBounds, run_sliceBound, hb.1, hb.2, eh, sizeOf, typeInfo, hi1, e0]
theorem ox_slice_l {X L : Operand} {k : IntKind} {l : Int} (hop : o.op = .slice t X (some L) none none) (hx : ρ X = .slice a n c) (hl : ρ L = .int k l) (ht : P.underlying t = some (.slice e)) (hi : (P.info? e).map (·.size) = some sz) (hb : 0 ≤ l ∧ l ≤ (n : Int)) :
    (execOp ρ o).run P w = .ok (.value (.slice (cutA a l.toNat c sz) (n - l.toNat) (c - l.toNat))) w := by
  obtain ⟨i, hi1, hi2⟩ := Option.map_eq_some_iff.1 hi
  have eh : (l.toNat : Int) = l := Int.toNat_of_nonneg hb.1
  simp [execOp, hop, hx, hl, Instr.sliceAt, Instr.slice, run_underlying ht, Instr.sliceBounds, run_sliceBound, hb.1, hb.2, eh, sizeOf, typeInfo, hi1, hi2, cutA]
theorem ox_slice_lh {X L H : Operand} {k k' : IntKind} {l h : Int} (hop : o.op = .slice t X (some L) (some H) none) (hx : ρ X = .slice a n c) (hl : ρ L = .int k l) (hh : ρ H = .int k' h) (ht : P.underlying t = some (.slice e)) (hi : (P.info? e).map (·.size) = some sz)
    (hb : 0 ≤ l ∧ l ≤ h ∧ h ≤ (c : Int)) : (execOp ρ o).run P w = .ok (.value (.slice (cutA a l.toNat c sz) (h.toNat - l.toNat) (c - l.toNat))) w := by
  obtain ⟨i, hi1, hi2⟩ := Option.map_eq_some_iff.1 hi
  have eh : (h.toNat : Int) = h := Int.toNat_of_nonneg (by omega)
  have el : (l.toNat : Int) = l := Int.toNat_of_nonneg hb.1
  have h0 : 0 ≤ h := by omega
  simp [execOp, hop, hx, hl, hh, Instr.sliceAt, Instr.slice, run_underlying ht, Instr.sliceBounds, run_sliceBound, hb.1, hb.2.1, hb.2.2, h0, eh, el, sizeOf, typeInfo, hi1, hi2, cutA]
end
/-- The operations with a law of their own: the value, and what is owed for it. -/
def spec (P : Program) (ρ : Operand → Value) (o : Oper) : Option (Value × List Prop) :=
  match o.op with
  | .binOp .shl _ x y _ => match ρ x, ρ y with | .int k a, .int _ n => some (.int k (k.wrap (a * 2 ^ (min n.toNat k.bits))), [0 ≤ n]) | _, _ => none
  | .binOp .shr _ x y _ => match ρ x, ρ y with | .int k a, .int _ n => some (.int k (a.fdiv (2 ^ (min n.toNat k.bits))), [0 ≤ n]) | _, _ => none
  | .binOp .quo _ x y _ => match ρ x, ρ y with | .int k a, .int k' b => if k = k' then some (.int k (k.wrap (a.tdiv b)), [b ≠ 0]) else none | _, _ => none
  | .binOp .rem _ x y _ => match ρ x, ρ y with | .int k a, .int k' b => if k = k' then some (.int k (a.tmod b), [b ≠ 0]) else none | _, _ => none
  | .binOp .eql t x y _ => match ρ x, ρ y with
    | .agg xs, .agg ys => if P.eqGuardType P.depth t then none else (eqVal P Op.maxDepth t (.agg xs) (.agg ys)).map fun b => (.bool b, [])
    | .slice a _ _, .slice none 0 0 => match P.underlying t with | some (.slice _) => some (.bool a.isNone, []) | _ => none
    | _, _ => none
  | .binOp .neq t x y _ => match ρ x, ρ y with
    | .agg xs, .agg ys => if P.eqGuardType P.depth t then none else (eqVal P Op.maxDepth t (.agg xs) (.agg ys)).map fun b => (.bool (!b), [])
    | .slice a _ _, .slice none 0 0 => match P.underlying t with | some (.slice _) => some (.bool (!a.isNone), []) | _ => none
    | _, _ => none
  | .indexAddr t x ix => match P.underlying t, ρ x, ρ ix with
    | some (.slice e), .slice a len _, .int _ n => (P.info? e).map fun i => (.pointer (some ((sa a).add (n.toNat * i.size))), [0 ≤ n ∧ n < (len : Int), a.isSome = true])
    | some (.array len e), .pointer (some a), .int _ n => (P.info? e).map fun i => (.pointer (some (a.add (n.toNat * i.size))), [0 ≤ n ∧ n < (len : Int)])
    | _, _, _ => none
  | .slice t x none (some h) none => match P.underlying t, ρ x, ρ h with
    | some (.slice e), .slice a _ c, .int _ k => (P.info? e).map fun _ => (.slice a k.toNat c, [0 ≤ k ∧ k ≤ (c : Int)])
    | _, _, _ => none
  | .slice t x (some lo) none none => match P.underlying t, ρ x, ρ lo with
    | some (.slice e), .slice a n c, .int _ k => (P.info? e).map fun i => (.slice (cutA a k.toNat c i.size) (n - k.toNat) (c - k.toNat), [0 ≤ k ∧ k ≤ (n : Int)])
    | _, _, _ => none
  | .slice t x (some lo) (some h) none => match P.underlying t, ρ x, ρ lo, ρ h with
    | some (.slice e), .slice a _ c, .int _ k, .int _ m => (P.info? e).map fun i => (.slice (cutA a k.toNat c i.size) (m.toNat - k.toNat) (c - k.toNat), [0 ≤ k ∧ k ≤ m ∧ m ≤ (c : Int)])
    | _, _, _, _ => none
  | .build t parts => (buildV P t (parts.toList.map fun (x : Nat × Operand) => (x.1, ρ x.2))).map fun v => (v, [])
  | _ => none

theorem spec_sound {P : Program} {ρ : Operand → Value} {o : Oper} {v : Value} {ob : List Prop} (h : spec P ρ o = some (v, ob)) (ho : AllP ob) (w : World) :
    (execOp ρ o).run P w = .ok (.value v) w := by
  unfold spec at h
  split at h
  case h_1 hop =>
    split at h
    · rename_i k a k' n hx hy
      simp only [Option.some.injEq, Prod.mk.injEq] at h
      obtain ⟨rfl, rfl⟩ := h
      have hn : ¬ n < 0 := by have : 0 ≤ n := ho; omega
      simp [execOp, hop, hx, hy, eqGuard, binOp, Op.shift, hn]
    · cases h
  case h_2 hop =>
    split at h
    · rename_i k a k' n hx hy
      simp only [Option.some.injEq, Prod.mk.injEq] at h
      obtain ⟨rfl, rfl⟩ := h
      have hn : ¬ n < 0 := by have : 0 ≤ n := ho; omega
      simp [execOp, hop, hx, hy, eqGuard, binOp, Op.shift, hn]
    · cases h
  case h_3 hop =>
    split at h
    · rename_i k a k' b hx hy
      split at h
      · rename_i hk; subst hk
        simp only [Option.some.injEq, Prod.mk.injEq] at h
        obtain ⟨rfl, rfl⟩ := h
        have hn : ¬ b = 0 := ho
        simp [execOp, hop, hx, hy, eqGuard, binOp, Op.intDiv, hn]
      · cases h
    · cases h
  case h_4 hop =>
    split at h
    · rename_i k a k' b hx hy
      split at h
      · rename_i hk; subst hk
        simp only [Option.some.injEq, Prod.mk.injEq] at h
        obtain ⟨rfl, rfl⟩ := h
        have hn : ¬ b = 0 := ho
        simp [execOp, hop, hx, hy, eqGuard, binOp, Op.intDiv, hn]
      · cases h
    · cases h
  case h_5 t _ _ _ hop =>
    split at h
    · rename_i xs ys hx hy
      split at h
      · cases h
      · rename_i hg
        obtain ⟨b, hb, he⟩ := Option.map_eq_some_iff.1 h
        simp only [Prod.mk.injEq] at he
        obtain ⟨rfl, rfl⟩ := he
        have hg' : P.eqGuardType P.depth t = false := by simpa using hg
        simp [execOp, hop, hx, hy, run_eqGuard_agg w .eql t _ _ xs ys hg', binOp, Op.equal, eqVal_sound (w := w) _ _ _ _ _ hb]
    · rename_i a n c hx hy
      split at h
      · rename_i e ht
        simp only [Option.some.injEq, Prod.mk.injEq] at h
        obtain ⟨rfl, rfl⟩ := h
        have h1 : ∀ d, (Op.equalIn (d + 1) t (.slice a n c) (.slice none 0 0)).run P w = .ok a.isNone w := fun d => by cases a <;> simp [Op.equalIn, run_underlying ht]
        simp [execOp, hop, hx, hy, eqGuard, binOp, Op.equal, Op.maxDepth, h1 9999]
      · cases h
    · cases h
  case h_6 t _ _ _ hop =>
    split at h
    · rename_i xs ys hx hy
      split at h
      · cases h
      · rename_i hg
        obtain ⟨b, hb, he⟩ := Option.map_eq_some_iff.1 h
        simp only [Prod.mk.injEq] at he
        obtain ⟨rfl, rfl⟩ := he
        have hg' : P.eqGuardType P.depth t = false := by simpa using hg
        simp [execOp, hop, hx, hy, run_eqGuard_agg w .neq t _ _ xs ys hg', binOp, Op.equal, eqVal_sound (w := w) _ _ _ _ _ hb]
    · rename_i a n c hx hy
      split at h
      · rename_i e ht
        simp only [Option.some.injEq, Prod.mk.injEq] at h
        obtain ⟨rfl, rfl⟩ := h
        have h1 : ∀ d, (Op.equalIn (d + 1) t (.slice a n c) (.slice none 0 0)).run P w = .ok a.isNone w := fun d => by cases a <;> simp [Op.equalIn, run_underlying ht]
        simp [execOp, hop, hx, hy, eqGuard, binOp, Op.equal, Op.maxDepth, h1 9999]
      · cases h
    · cases h
  case h_7 t _ _ hop =>
    split at h
    · rename_i e a len cap k n ht hx hi
      obtain ⟨i, hi', he⟩ := Option.map_eq_some_iff.1 h
      simp only [Prod.mk.injEq] at he
      obtain ⟨rfl, rfl⟩ := he
      have hn : 0 ≤ n ∧ n < (len : Int) := ho.1
      obtain ⟨A, rfl⟩ := Option.isSome_iff_exists.1 ho.2
      simp [execOp, hop, hx, hi, Instr.indexAt, asIntOf, run_underlying ht, sizeOf, typeInfo, hi', hn.1, hn.2, sa]
    · rename_i len e a k n ht hx hi
      obtain ⟨i, hi', he⟩ := Option.map_eq_some_iff.1 h
      simp only [Prod.mk.injEq] at he
      obtain ⟨rfl, rfl⟩ := he
      have hn : 0 ≤ n ∧ n < (len : Int) := ho
      simp [execOp, hop, hx, hi, Instr.indexAt, Instr.sureAddr, asIntOf, run_underlying ht, sizeOf, typeInfo, hi', hn.1, hn.2]
    · cases h
  case h_8 t x hh hop =>
    split at h
    · rename_i e a n c k m ht hx hy
      obtain ⟨i, hi, he⟩ := Option.map_eq_some_iff.1 h
      simp only [Prod.mk.injEq] at he
      obtain ⟨rfl, rfl⟩ := he
      exact ox_slice_h hop hx hy ht (sz := i.size) (by rw [hi]; rfl) ho
    · cases h
  case h_9 t x lo hop =>
    split at h
    · rename_i e a n c k m ht hx hy
      obtain ⟨i, hi, he⟩ := Option.map_eq_some_iff.1 h
      simp only [Prod.mk.injEq] at he
      obtain ⟨rfl, rfl⟩ := he
      exact ox_slice_l hop hx hy ht (sz := i.size) (by rw [hi]; rfl) ho
    · cases h
  case h_10 t x lo hh hop =>
    split at h
    · rename_i e a n c k m k' m' ht hx hy hz
      obtain ⟨i, hi, he⟩ := Option.map_eq_some_iff.1 h
      simp only [Prod.mk.injEq] at he
      obtain ⟨rfl, rfl⟩ := he
      exact ox_slice_lh hop hx hy hz ht (sz := i.size) (by rw [hi]; rfl) ho
    · cases h
  case h_11 t parts hop =>
    obtain ⟨u, hu, he⟩ := Option.map_eq_some_iff.1 h
    simp only [Prod.mk.injEq] at he
    obtain ⟨rfl, rfl⟩ := he
    have e : (parts.map fun (x : Nat × Operand) => (x.1, ρ x.2)).toList = parts.toList.map fun (x : Nat × Operand) => (x.1, ρ x.2) := by simp
    rw [← e] at hu
    simp only [execOp, hop, Sem.run_bind]
    have h2 := buildV_sound hu w
    simp only [h2, Result.andThen_ok, Sem.run_pure]
  case h_12 => cases h
end Go.Px
