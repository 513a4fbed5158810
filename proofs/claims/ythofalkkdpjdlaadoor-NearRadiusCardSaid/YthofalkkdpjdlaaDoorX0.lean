/- The walker's core: a verified evaluator of the model's operations over a memory whose blocks are known whole. Nothing of any one program stands here. -/
import Derived.WalkKit
import Derived.Orders
namespace Go.Px
set_option linter.unusedVariables false
set_option linter.unusedSimpArgs false
set_option linter.unusedSectionVars false
open Go.RowKit

/-! ### Worlds that differ in a few blocks -/

/-- From w to w': new blocks behind, and of the old ones only those that F names have turned. -/
structure Keep (F : Nat → Prop) (w w' : World) : Prop where
  os : w'.os = w.os
  tape : w'.tape = w.tape
  output : w'.output = w.output
  size : w.heap.size ≤ w'.heap.size
  drawn : w.drawn ≤ w'.drawn
  block : ∀ k, k < w.heap.size → ¬ F k → w'.heap[k]? = w.heap[k]?

/-- Nothing old has turned. -/
def Nn : Nat → Prop := fun _ => False
/-- The blocks of a list. -/
def Is (l : List Nat) : Nat → Prop := fun k => k ∈ l

theorem Keep.refl (F : Nat → Prop) (w : World) : Keep F w w := ⟨rfl, rfl, rfl, Nat.le_refl _, Nat.le_refl _, fun _ _ _ => rfl⟩
theorem Keep.trans {F : Nat → Prop} {a b c : World} (h : Keep F a b) (k : Keep F b c) : Keep F a c :=
  ⟨k.os.trans h.os, k.tape.trans h.tape, k.output.trans h.output, Nat.le_trans h.size k.size, Nat.le_trans h.drawn k.drawn,
    fun i hi hn => (k.block i (Nat.lt_of_lt_of_le hi h.size) hn).trans (h.block i hi hn)⟩
theorem Keep.mono {F G : Nat → Prop} {a b : World} (h : Keep F a b) (hg : ∀ k, k < a.heap.size → F k → G k) : Keep G a b :=
  ⟨h.os, h.tape, h.output, h.size, h.drawn, fun i hi hn => h.block i hi fun hf => hn (hg i hi hf)⟩
/-- Two steps, the second of which may turn, of the first world's blocks, only what F names. -/
theorem Keep.then {F G : Nat → Prop} {a b c : World} (h : Keep F a b) (k : Keep G b c) (hg : ∀ i, i < a.heap.size → G i → F i) : Keep F a c :=
  ⟨k.os.trans h.os, k.tape.trans h.tape, k.output.trans h.output, Nat.le_trans h.size k.size, Nat.le_trans h.drawn k.drawn,
    fun i hi hn => (k.block i (Nat.lt_of_lt_of_le hi h.size) fun hG => hn (hg i hi hG)).trans (h.block i hi hn)⟩
theorem Keep.nn {F : Nat → Prop} {a b : World} (h : Keep Nn a b) : Keep F a b := h.mono fun _ _ hf => hf.elim
theorem Keep.drew {F : Nat → Prop} {a b : World} (h : Keep F a b) : Keep F a b.drew := ⟨h.os, h.tape, h.output, h.size, Nat.le_succ_of_le h.drawn, h.block⟩
theorem Keep.below {a b : World} (h : Keep Nn a b) : Below a.heap.size a b := ⟨h.os, h.tape, h.output, h.size, fun k hk => h.block k hk id⟩
theorem Keep.of_below {a b : World} (h : Below a.heap.size a b) (hd : a.drawn ≤ b.drawn) : Keep Nn a b := ⟨h.os, h.tape, h.output, h.size, hd, fun k hk _ => h.block k hk⟩
theorem Keep.of_grownBy {a b : World} {r : Option Nat} (h : a.grownBy b r) (hd : a.drawn ≤ b.drawn) : Keep (fun k => r = some k) a b :=
  ⟨h.os, h.tape, h.output, h.size, hd, fun k hk hn => h.block k hk fun e => hn e.symm⟩
theorem Keep.cell {F : Nat → Prop} {w w' : World} (h : Keep F w w') {p : Addr} {v : Value} (hp : w.cell? p = some v) (hn : ¬ F p.block) : w'.cell? p = some v := by
  have hlt : p.block < w.heap.size := by
    rcases Nat.lt_or_ge p.block w.heap.size with h1 | h1
    · exact h1
    · simp [World.cell?, Array.getElem?_eq_none h1] at hp
  rw [World.cell?_of_block (h.block p.block hlt hn)]; exact hp
theorem Keep.obj {F : Nat → Prop} {w w' : World} (h : Keep F w w') {b : Nat} {o : Obj} (hb : w.heap[b]? = some o) (hn : ¬ F b) : w'.heap[b]? = some o := by
  have hlt : b < w.heap.size := by
    rcases Nat.lt_or_ge b w.heap.size with h1 | h1
    · exact h1
    · simp [Array.getElem?_eq_none h1] at hb
  rw [h.block b hlt hn]; exact hb

/-! ### Blocks that are known whole -/

structure Blk where
  g : Nat
  t : TypeId
  cs : List Value

abbrev Mem := List Blk
def Mem.names (M : Mem) : List Nat := M.map (·.g)

structure MemOk (M : Mem) (w : World) : Prop where
  at_ : ∀ b ∈ M, w.heap[b.g]? = some (.cells b.cs.toArray b.t (0, 0))
  nd : M.names.Nodup

theorem MemOk.lt {M : Mem} {w : World} (h : MemOk M w) {k : Nat} (hk : k ∈ M.names) : k < w.heap.size := by
  obtain ⟨b, hb, rfl⟩ := List.mem_map.1 hk
  have := h.at_ b hb
  rcases Nat.lt_or_ge b.g w.heap.size with h1 | h1
  · exact h1
  · rw [Array.getElem?_eq_none h1] at this; cases this

theorem MemOk.keep {M : Mem} {w w' : World} {F : Nat → Prop} (h : MemOk M w) (hk : Keep F w w') (hn : ∀ k ∈ M.names, ¬ F k) : MemOk M w' :=
  ⟨fun b hb => hk.obj (h.at_ b hb) (hn _ (List.mem_map.2 ⟨b, hb, rfl⟩)), h.nd⟩

/-- What each access to memory is: a known block's cell is read; a cell that is told of outside is read; a known block's cell is written; a new block is made. -/
inductive Orc where
  | ld (i off : Nat)
  | ex (v : Value)
  | st (i off : Nat)
  | nw

structure SRes (α : Type) where
  val : α
  B : Nat
  M : Mem
  d : Bool
  os : List Orc
  ob : List Prop

def AllP : List Prop → Prop
  | [] => True
  | [p] => p
  | p :: q :: r => p ∧ AllP (q :: r)

theorem AllP_cons {p : Prop} {l : List Prop} : AllP (p :: l) ↔ p ∧ AllP l := by
  cases l <;> simp [AllP]
theorem AllP_append {l m : List Prop} : AllP (l ++ m) ↔ AllP l ∧ AllP m := by
  induction l with
  | nil => simp [AllP]
  | cons p l ih => simp only [List.cons_append, AllP_cons, ih, and_assoc]

def SRes.add {α : Type} (p : Prop) (r : SRes α) : SRes α := { r with ob := p :: r.ob }

def setBlk : Mem → Nat → Nat → Value → Mem
  | [], _, _, _ => []
  | b :: M, 0, off, v => { b with cs := b.cs.set off v } :: M
  | b :: M, i + 1, off, v => b :: setBlk M i off v

/-- The evaluator of a 'Sem': 'X': what is told of cells outside; 'B': the next new block's number; 'd': has a known block been written? -/
def sym {α : Type} (P : Program) (X : Addr → Value → Prop) : Sem α → Nat → Mem → Bool → List Orc → Option (SRes α)
  | .pure a, B, M, d, os => some ⟨a, B, M, d, os, []⟩
  | .load _ a k, B, M, d, .ld i off :: os =>
    match M[i]? with
    | none => none
    | some b =>
      match b.cs[off]? with
      | none => none
      | some v => (sym P X (k v) B M d os).map (SRes.add (a = ⟨b.g, off, none⟩))
  | .load _ a k, B, M, false, .ex v :: os => (sym P X (k v) B M false os).map (SRes.add (X a v))
  | .store _ a v k, B, M, _, .st i off :: os =>
    match v.oneCell', M[i]? with
    | true, some b => if off < b.cs.length then (sym P X k B (setBlk M i off v) true os).map (SRes.add (a = ⟨b.g, off, none⟩)) else none
    | _, _ => none
  | .new (.cells c t (0, 0)) k, B, M, d, .nw :: os => sym P X (k B) (B + 1) (M ++ [⟨B, t, c.toList⟩]) d os
  | .program k, B, M, d, os => sym P X (k P) B M d os
  | .mark _ k, B, M, d, os => sym P X k B M d os
  | _, _, _, _, _ => none

theorem setBlk_names (M : Mem) : ∀ (i off : Nat) (v : Value), (setBlk M i off v).names = M.names := by
  induction M with
  | nil => intro i off v; rfl
  | cons b M ih =>
    intro i off v
    cases i with
    | zero => rfl
    | succ i => simp only [setBlk, Mem.names, List.map_cons] at *; rw [ih]

theorem getElem?_names {M : Mem} {i : Nat} {b : Blk} (h : M[i]? = some b) : b ∈ M := List.mem_of_getElem? h

theorem memOk_set {M : Mem} {w : World} (h : MemOk M w) : ∀ {i off : Nat} {b : Blk} (v : Value), M[i]? = some b →
    MemOk (setBlk M i off v) (w.setCell ⟨b.g, off, none⟩ v) := by
  induction M with
  | nil => intro i off b v hb; simp at hb
  | cons c M ih =>
    intro i off b v hb
    have hnd := h.nd
    simp only [Mem.names, List.map_cons, List.nodup_cons] at hnd
    have htl : MemOk M w := ⟨fun x hx => h.at_ x (List.mem_cons_of_mem _ hx), hnd.2⟩
    cases i with
    | zero =>
      obtain rfl : c = b := by simpa using hb
      refine ⟨fun x hx => ?_, by rw [setBlk_names]; exact h.nd⟩
      simp only [setBlk, List.mem_cons] at hx
      rcases hx with rfl | hx
      · have h0 := h.at_ c (List.mem_cons_self ..)
        simp [World.setCell, Array.getElem?_modify, h0]
      · have hne : x.g ≠ c.g := fun e => hnd.1 (by rw [← e]; exact List.mem_map.2 ⟨x, hx, rfl⟩)
        rw [Below.heap_setCell _ _ _ _ hne]
        exact htl.at_ x hx
    | succ i =>
      have hb' : M[i]? = some b := by simpa using hb
      have hbM : b ∈ M := List.mem_of_getElem? hb'
      have h1 := ih htl v hb' (off := off)
      refine ⟨fun x hx => ?_, by rw [setBlk_names]; exact h.nd⟩
      simp only [setBlk, List.mem_cons] at hx
      rcases hx with rfl | hx
      · have hne : x.g ≠ b.g := fun e => hnd.1 (by rw [e]; exact List.mem_map.2 ⟨b, hbM, rfl⟩)
        rw [Below.heap_setCell _ _ _ _ hne]
        exact h.at_ x (List.mem_cons_self ..)
      · exact h1.at_ x hx

theorem memOk_new {M : Mem} {w : World} (h : MemOk M w) (t : TypeId) (c : Array Value) :
    MemOk (M ++ [⟨w.heap.size, t, c.toList⟩]) { w with heap := w.heap.push (.cells c t (0, 0)) } := by
  refine ⟨fun b hb => ?_, ?_⟩
  · rcases List.mem_append.1 hb with hb | hb
    · have hlt : b.g < w.heap.size := h.lt (List.mem_map.2 ⟨b, hb, rfl⟩)
      show (w.heap.push _)[b.g]? = _
      rw [Array.getElem?_push, if_neg (by omega)]
      exact h.at_ b hb
    · obtain rfl : b = ⟨w.heap.size, t, c.toList⟩ := by simpa using hb
      show (w.heap.push _)[w.heap.size]? = _
      simp
  · simp only [Mem.names, List.map_append, List.map_cons, List.map_nil]
    refine List.nodup_append.2 ⟨h.nd, by simp, ?_⟩
    intro a ha b hb
    have hlt := h.lt ha
    obtain rfl : b = w.heap.size := by simpa using hb
    omega

/-- What holds of a run of the evaluator. -/
structure SymOk {α : Type} (P : Program) (x : Sem α) (X : Addr → Value → Prop) (w1 : World) (M : Mem) (r : SRes α) (w2 : World) : Prop where
  run : x.run P w1 = .ok r.val w2
  mem : MemOk r.M w2
  size : w2.heap.size = r.B
  keep : Keep (Is M.names) w1 w2
  names : ∀ k ∈ r.M.names, k ∈ M.names ∨ w1.heap.size ≤ k
  ext : r.d = false → ∀ a v, X a v → w1.cell? a = some v → w2.cell? a = some v

theorem cell?_blk {w : World} {b : Blk} (h : w.heap[b.g]? = some (.cells b.cs.toArray b.t (0, 0))) (off : Nat) : w.cell? ⟨b.g, off, none⟩ = b.cs[off]? := by
  simp [World.cell?, h]

theorem sym_d {α : Type} (P : Program) (X : Addr → Value → Prop) (x : Sem α) : ∀ (B : Nat) (M : Mem) (d : Bool) (os : List Orc) (r : SRes α),
    sym P X x B M d os = some r → d = true → r.d = true := by
  induction x with
  | pure a => intro B M d os r h hd; simp only [sym, Option.some.injEq] at h; subst h; exact hd
  | load m a k ih =>
    intro B M d os r h hd
    subst hd
    cases os with
    | nil => simp [sym] at h
    | cons o os =>
      cases o with
      | ld i off =>
        simp only [sym] at h
        split at h
        · cases h
        · split at h
          · cases h
          · obtain ⟨r', hr', rfl⟩ := Option.map_eq_some_iff.1 h
            have h2 := ih _ _ _ _ _ _ hr' rfl
            exact h2
      | ex v => simp [sym] at h
      | st i off => simp [sym] at h
      | nw => simp [sym] at h
  | store m a v k ih =>
    intro B M d os r h hd
    cases os with
    | nil => simp [sym] at h
    | cons o os =>
      cases o with
      | st i off =>
        simp only [sym] at h
        split at h
        · split at h
          · obtain ⟨r', hr', rfl⟩ := Option.map_eq_some_iff.1 h
            have h2 := ih _ _ _ _ _ hr' rfl
            exact h2
          · cases h
        · cases h
      | _ => simp [sym] at h
  | new o k ih =>
    intro B M d os r h hd
    cases os with
    | nil => simp [sym] at h
    | cons oc os =>
      cases oc with
      | nw =>
        cases o with
        | cells c t fr =>
          obtain ⟨lo, hi⟩ := fr
          cases lo with
          | succ n => simp [sym] at h
          | zero =>
            cases hi with
            | succ n => simp [sym] at h
            | zero => simp only [sym] at h; exact ih _ _ _ _ _ _ h hd
        | _ => simp [sym] at h
      | _ => simp [sym] at h
  | program k ih => intro B M d os r h hd; simp only [sym] at h; exact ih _ _ _ _ _ _ h hd
  | mark m k ih => intro B M d os r h hd; simp only [sym] at h; exact ih _ _ _ _ _ h hd
  | shape r k => intro B M d os r h; simp [sym] at h
  | freeze a n k => intro B M d os r h; simp [sym] at h
  | frozen a k => intro B M d os r h; simp [sym] at h
  | getObj a k => intro B M d os r h; simp [sym] at h
  | setObj a o k => intro B M d os r h; simp [sym] at h
  | choose q k => intro B M d os r h; simp [sym] at h
  | sys c k => intro B M d os r h; simp [sym] at h
  | halt c => intro B M d os r h; simp [sym] at h

/-- The evaluator tells the truth. -/
theorem sym_sound {α : Type} (P : Program) (X : Addr → Value → Prop) (x : Sem α) : ∀ (B : Nat) (M : Mem) (d : Bool) (os : List Orc) (r : SRes α) (w1 : World),
    sym P X x B M d os = some r → MemOk M w1 → w1.heap.size = B →
    (d = false → ∀ a v, X a v → w1.cell? a = some v) → AllP r.ob → ∃ w2, SymOk P x X w1 M r w2 := by
  induction x with
  | pure a =>
    intro B M d os r w1 h hM hB hx ho
    simp only [sym, Option.some.injEq] at h; subst h
    exact ⟨w1, rfl, hM, hB, Keep.refl _ _, fun k hk => .inl hk, fun _ a v _ h => h⟩
  | load m a k ih =>
    intro B M d os r w1 h hM hB hx ho
    cases os with
    | nil => simp [sym] at h
    | cons o os =>
      cases o with
      | ld i off =>
        simp only [sym] at h
        split at h
        · cases h
        · rename_i b hb
          split at h
          · cases h
          · rename_i v hv
            obtain ⟨r', hr', rfl⟩ := Option.map_eq_some_iff.1 h
            simp only [SRes.add, AllP_cons] at ho
            obtain ⟨ha, ho⟩ := ho
            obtain ⟨w2, h2⟩ := ih v _ _ _ _ _ w1 hr' hM hB hx ho
            have hc : w1.cell? a = some v := by rw [ha, cell?_blk (hM.at_ b (List.mem_of_getElem? hb))]; exact hv
            exact ⟨w2, by simp only [Sem.run, hc]; exact h2.run, h2.mem, h2.size, h2.keep, h2.names, h2.ext⟩
      | ex v =>
        cases d with
        | true => simp [sym] at h
        | false =>
          simp only [sym] at h
          obtain ⟨r', hr', rfl⟩ := Option.map_eq_some_iff.1 h
          simp only [SRes.add, AllP_cons] at ho
          obtain ⟨ha, ho⟩ := ho
          obtain ⟨w2, h2⟩ := ih v _ _ _ _ _ w1 hr' hM hB hx ho
          have hc : w1.cell? a = some v := hx rfl a v ha
          exact ⟨w2, by simp only [Sem.run, hc]; exact h2.run, h2.mem, h2.size, h2.keep, h2.names, h2.ext⟩
      | st i off => simp [sym] at h
      | nw => simp [sym] at h
  | store m a v k ih =>
    intro B M d os r w1 h hM hB hx ho
    cases os with
    | nil => simp [sym] at h
    | cons o os =>
      cases o with
      | st i off =>
        simp only [sym] at h
        split at h
        · rename_i b hv hb
          split at h
          · rename_i hlt
            obtain ⟨r', hr', rfl⟩ := Option.map_eq_some_iff.1 h
            simp only [SRes.add, AllP_cons] at ho
            obtain ⟨ha, ho⟩ := ho
            have hbM := List.mem_of_getElem? hb
            have hat := hM.at_ b hbM
            obtain ⟨w2, h2⟩ := ih _ _ _ _ _ (w1.setCell ⟨b.g, off, none⟩ v) hr' (memOk_set hM v hb) (by simpa [World.setCell] using hB)
              (fun e => by cases e) ho
            have hc : w1.cell? a = some b.cs[off] := by rw [ha, cell?_blk hat]; simp [hlt]
            have hf : w1.frozen? a = false := by rw [ha]; simp [World.frozen?, hat]
            have hrun := h2.run
            have hmem : b.g ∈ M.names := List.mem_map.2 ⟨b, hbM, rfl⟩
            refine ⟨w2, ?_, h2.mem, h2.size, ?_, ?_, ?_⟩
            · cases v <;> first
                | (simp [Value.oneCell'] at hv; done)
                | (simp only [Sem.run, hc, hf]; rw [ha]; exact hrun)
            · have h3 := h2.keep
              rw [setBlk_names] at h3
              have h4 : Keep (Is M.names) w1 (w1.setCell ⟨b.g, off, none⟩ v) :=
                ⟨rfl, rfl, rfl, by simp [World.setCell], Nat.le_refl _, fun i _ hn => Below.heap_setCell _ _ _ _ (fun e => hn (by rw [e]; exact hmem))⟩
              exact h4.trans h3
            · intro k hk
              have h3 := h2.names k hk
              rw [setBlk_names] at h3
              simpa [World.setCell] using h3
            · intro hd
              have h4 := sym_d P _ k _ _ _ _ _ hr' rfl
              have h5 : r'.d = false := hd
              rw [h4] at h5; cases h5
          · cases h
        · cases h
      | ld i off => simp [sym] at h
      | ex v => simp [sym] at h
      | nw => simp [sym] at h
  | new o k ih =>
    intro B M d os r w1 h hM hB hx ho
    cases os with
    | nil => simp [sym] at h
    | cons oc os =>
      cases oc with
      | nw =>
        cases o with
        | cells c t fr =>
          obtain ⟨lo, hi⟩ := fr
          cases lo with
          | succ n => simp [sym] at h
          | zero =>
            cases hi with
            | succ n => simp [sym] at h
            | zero =>
              simp only [sym] at h
              subst hB
              obtain ⟨w2, h2⟩ := ih w1.heap.size _ _ _ _ _ { w1 with heap := w1.heap.push (.cells c t (0, 0)) } h (memOk_new hM t c) (by simp)
                (fun e a v h0 => by
                  have h1 := hx e a v h0
                  exact (World.cell?_alloc_lt w1 (.cells c t (0, 0)) a (by
                    rcases Nat.lt_or_ge a.block w1.heap.size with h1' | h1'
                    · exact h1'
                    · simp [World.cell?, Array.getElem?_eq_none h1'] at h1)).trans h1) ho
              refine ⟨w2, by simp only [Sem.run]; exact h2.run, h2.mem, h2.size, ?_, ?_, ?_⟩
              · have h3 := h2.keep
                refine ⟨h3.os, h3.tape, h3.output, Nat.le_trans (by simp) h3.size, h3.drawn, fun i hi hn => ?_⟩
                have h4 := h3.block i (by simp; omega) (by
                  intro h5
                  simp only [Is, Mem.names, List.map_append, List.map_cons, List.map_nil, List.mem_append, List.mem_singleton] at h5
                  rcases h5 with h5 | h5
                  · exact hn h5
                  · omega)
                rw [h4]
                show (w1.heap.push _)[i]? = _
                rw [Array.getElem?_push, if_neg (by omega)]
              · intro i hi
                rcases h2.names i hi with h5 | h5
                · simp only [Mem.names, List.map_append, List.map_cons, List.map_nil, List.mem_append, List.mem_singleton] at h5
                  rcases h5 with h5 | h5
                  · exact .inl h5
                  · exact .inr (by omega)
                · exact .inr (by simp at h5; omega)
              · intro hd a v h0 h1
                refine h2.ext hd a v h0 ?_
                exact (World.cell?_alloc_lt w1 (.cells c t (0, 0)) a (by
                    rcases Nat.lt_or_ge a.block w1.heap.size with h1' | h1'
                    · exact h1'
                    · simp [World.cell?, Array.getElem?_eq_none h1'] at h1)).trans h1
        | _ => simp [sym] at h
      | ld i off => simp [sym] at h
      | ex v => simp [sym] at h
      | st i off => simp [sym] at h
  | program k ih =>
    intro B M d os r w1 h hM hB hx ho
    simp only [sym] at h
    obtain ⟨w2, h2⟩ := ih P _ _ _ _ _ w1 h hM hB hx ho
    exact ⟨w2, by simp only [Sem.run]; exact h2.run, h2.mem, h2.size, h2.keep, h2.names, h2.ext⟩
  | mark m k ih =>
    intro B M d os r w1 h hM hB hx ho
    simp only [sym] at h
    obtain ⟨w2, h2⟩ := ih _ _ _ _ _ w1 h hM hB hx ho
    exact ⟨w2, by simp only [Sem.run]; exact h2.run, h2.mem, h2.size, h2.keep, h2.names, h2.ext⟩
  | shape r k => intro B M d os r w1 h; simp [sym] at h
  | freeze a n k => intro B M d os r w1 h; simp [sym] at h
  | frozen a k => intro B M d os r w1 h; simp [sym] at h
  | getObj a k => intro B M d os r w1 h; simp [sym] at h
  | setObj a o k => intro B M d os r w1 h; simp [sym] at h
  | choose q k => intro B M d os r w1 h; simp [sym] at h
  | sys c k => intro B M d os r w1 h; simp [sym] at h
  | halt c => intro B M d os r w1 h; simp [sym] at h
end Go.Px
