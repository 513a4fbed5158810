/- Arguments that are slices, and structs of numbers: what they are. Nothing of any one program stands here. -/
import Derived.Test.YthofalkkdpjdlaaDoorX8
import Derived.Test.YthofalkkdpjdlaaDoorX9
import Derived.Deep.Slices
namespace Go.Px
set_option linter.unusedVariables false
set_option linter.unusedSimpArgs false
set_option linter.unusedSectionVars false
open Go.RowKit Go.ChangeShapes Go.WideShapes Go.Deep

/-- Of what kind a cell is: a number's, or yes and no. -/
def OkC : Option IntKind → Value → Prop
  | some k, v => ∃ n, v = .int k n ∧ (Lit.int k n).wf = true
  | none, v => ∃ b, v = .bool b
def OkCs : List (Option IntKind) → List Value → Prop
  | [], [] => True
  | k :: ks, v :: vs => OkC k v ∧ OkCs ks vs
  | _, _ => False
theorem OkCs.cons {k : Option IntKind} {ks : List (Option IntKind)} {cs : List Value} (h : OkCs (k :: ks) cs) : ∃ v vs, cs = v :: vs ∧ OkC k v ∧ OkCs ks vs := by
  cases cs with
  | nil => exact h.elim
  | cons v vs => exact ⟨v, vs, rfl, h.1, h.2⟩
theorem OkCs.nil {cs : List Value} (h : OkCs [] cs) : cs = [] := by
  cases cs with
  | nil => rfl
  | cons v vs => exact h.elim
theorem OkCs.app {ks ls : List (Option IntKind)} : ∀ {cs ds : List Value}, OkCs ks cs → OkCs ls ds → OkCs (ks ++ ls) (cs ++ ds) := by
  induction ks with
  | nil =>
    intro cs ds h h2
    cases cs with
    | nil => exact h2
    | cons _ _ => exact h.elim
  | cons k ks ih =>
    intro cs ds h h2
    cases cs with
    | nil => exact h.elim
    | cons c cs => exact ⟨h.1, ih h.2 h2⟩

def shapeF (P : Program) (g : TypeId → List (Option IntKind) → Bool) : List Field → Nat → List (Option IntKind) → Bool
  | [], _, ks => ks.isEmpty
  | f :: r, off, ks => Nat.beq f.offset off && Nat.ble (P.cellsOf f.type) ks.length && g f.type (ks.take (P.cellsOf f.type)) && shapeF P g r (off + P.cellsOf f.type) (ks.drop (P.cellsOf f.type))
/-- The cells of a type. -/
def shapeB (P : Program) : Nat → TypeId → List (Option IntKind) → Bool
  | 0, _, _ => false
  | n + 1, t, ks => match P.underlying t with
    | some (.int k) => match ks with
      | [some k'] => decide (k = k')
      | _ => false
    | some .bool => match ks with
      | [none] => true
      | _ => false
    | some (.struct fs) => shapeF P (shapeB P n) fs.toList 0 ks
    | _ => false

section
variable {H : Type} {enc : TypeId × Value → H} {P : Program} {W : World} {base : Nat} {spare : Nat → Bool} {held : Bool}

theorem shapeF_ok {n : Nat} (ih : ∀ t ks, shapeB P n t ks = true → ∀ fuel cs y, cs.length = ks.length → DataW.trod enc P W base spare held fuel t cs = some y → OkCs ks cs) {cs : List Value} {fuel : Nat} :
    ∀ (fl : List Field) (off : Nat) (ks : List (Option IntKind)), shapeF P (shapeB P n) fl off ks = true → (∀ f ∈ fl, ∃ y, DataW.trod enc P W base spare held fuel f.type ((cs.drop f.offset).take (P.cellsOf f.type)) = some y) → (cs.drop off).length = ks.length → OkCs ks (cs.drop off)
  | [], off, ks, h, _, hl => by
    simp only [shapeF, List.isEmpty_iff] at h
    subst h
    have : cs.drop off = [] := List.eq_nil_of_length_eq_zero (by simpa using hl)
    rw [this]
    trivial
  | f :: r, off, ks, h, hf, hl => by
    simp only [shapeF, Bool.and_eq_true] at h
    obtain ⟨⟨⟨h1, h2⟩, h3⟩, h4⟩ := h
    have h1 : f.offset = off := Nat.eq_of_beq_eq_true h1
    have h2 : P.cellsOf f.type ≤ ks.length := by simpa [Nat.ble_eq] using h2
    obtain ⟨y, hy⟩ := hf f (by simp)
    rw [h1] at hy
    have a1 := ih _ _ h3 _ _ _ (by rw [List.length_take, List.length_take, hl]) hy
    have a2 := shapeF_ok ih (cs := cs) (fuel := fuel) r _ _ h4 (fun g hg => hf g (by simp [hg])) (by simp only [List.length_drop] at hl ⊢; omega)
    have a3 := a1.app a2
    rw [List.take_append_drop, ← List.drop_drop, List.take_append_drop] at a3
    exact a3
theorem shape_ok : ∀ (n : Nat) (t : TypeId) (ks : List (Option IntKind)), shapeB P n t ks = true → ∀ (fuel : Nat) (cs : List Value) (y : DataW H × List MemPlace), cs.length = ks.length → DataW.trod enc P W base spare held fuel t cs = some y → OkCs ks cs
  | 0, _, _, h, _, _, _, _, _ => by simp [shapeB] at h
  | n + 1, t, ks, h, fuel, cs, y, hl, hy => by
    simp only [shapeB] at h
    split at h
    · rename_i k hu
      split at h
      · rename_i k'
        obtain ⟨m, rfl, _, hw⟩ := DataW.trod_int hu hy
        have : k = k' := by simpa using h
        subst this
        exact ⟨⟨m, rfl, hw⟩, trivial⟩
      · cases h
    · rename_i hu
      split at h
      · obtain ⟨b, rfl, _⟩ := DataW.trod_bool hu hy
        exact ⟨⟨b, rfl⟩, trivial⟩
      · cases h
    · rename_i fs hu
      obtain ⟨xs, m, _, _, _, hxl, hf⟩ := DataW.trod_struct hu hy
      have := shapeF_ok (shape_ok n) (cs := cs) (fuel := m) fs.toList 0 ks h (fun f hf' => by
        obtain ⟨i, hi, rfl⟩ := List.getElem_of_mem hf'
        have h5 := hf i fs[i] (by simp)
        have hix : i < xs.length := by rw [hxl]; simpa using hi
        rw [List.getElem?_eq_getElem hix] at h5
        exact ⟨_, h5⟩) (by simpa using hl)
      simpa using this
    · cases h

/-- An argument that is a struct of numbers. -/
theorem open_cells {r : Reach} {b0 : Nat} {t : TypeId} {fs : Array Field} {v : Value} {d : DataW H} {p : List MemPlace} (ht : P.underlying t = some (.struct fs)) (ks : List (Option IntKind)) (hc : P.cellsOf t = ks.length) (hs : shapeB P 8 t ks = true)
    (hval : Value.okWide P W r b0 t v) (h : DataW.Trod enc P W base spare held t v d p) : ∃ cs : List Value, v = .agg cs.toArray ∧ OkCs ks cs := by
  obtain ⟨cs, rfl, hsz⟩ := okWide_struct ht hval
  obtain ⟨fuel, hf⟩ := h
  have h1 := shape_ok 8 t ks hs fuel cs.toList _ (by rw [← hc, ← hsz]; simp) (by simpa [Value.cells] using hf)
  exact ⟨cs.toList, by simp, h1⟩

/-- An argument that is a slice. -/
theorem open_list {α : Type} [Inhabited α] {f : α → List Value} {sz : Nat} {r : Reach} {b0 : Nat} {t e : TypeId} {v : Value} {d : DataW H} {p : List MemPlace} (hf : ∀ x, (f x).length = sz) (hsz : Nat.blt 0 sz = true) (ht : P.underlying t = some (.slice e))
    (ks : List (Option IntKind)) (hc : P.cellsOf e = sz) (hk : ks.length = sz) (hs : shapeB P 8 e ks = true) {R : α → Prop} (hdec : ∀ cs, OkCs ks cs → ∃ x, cs = f x ∧ R x) (hval : Value.okWide P W r b0 t v) (h : DataW.Trod enc P W base spare held t v d p) :
    ∃ (av : Option Addr) (l : List α) (c : Nat), v = .slice av l.length c ∧ Arr W sz av l.length c (flat f l) ∧ ∀ x ∈ l, R x := by
  have hsz : 0 < sz := by simpa [Nat.blt_eq] using hsz
  obtain ⟨a, len, cap, rfl⟩ := okWide_slice ht hval
  obtain ⟨fuel, hfu⟩ := h
  rcases open_slice ht hfu with ⟨hcs, _⟩ | ⟨A, len', cap', m, n, D, Pl, hcs, _, hl, _, hm, _, hx⟩
  · simp only [Value.cells, List.cons.injEq, and_true, Value.slice.injEq] at hcs
    obtain ⟨rfl, rfl, rfl⟩ := hcs
    exact ⟨none, [], 0, rfl, Arr.none_nil _ _, fun x hx => by simp at hx⟩
  · simp only [Value.cells, List.cons.injEq, and_true, Value.slice.injEq] at hcs
    obtain ⟨rfl, rfl, rfl⟩ := hcs
    have hle : len ≤ m := by rw [hm]; split <;> omega
    obtain ⟨g, hg⟩ := choose_lt (α := α) (n := len) (p := fun i x => W.cells? base (A.add (i * P.cellsOf e)) (P.cellsOf e) = some (f x) ∧ R x) (fun i hi => by
      obtain ⟨cs, h1, h2⟩ := hx i (by omega)
      have hl2 := (World.cells?_some h1).2.1
      obtain ⟨x, rfl, hr⟩ := hdec cs (shape_ok 8 e ks hs n cs _ (by rw [hl2, hc, hk]) h2)
      exact ⟨x, h1, hr⟩)
    refine ⟨some A, (List.range len).map g, cap, by simp, ⟨?_, fun _ => rfl, (fun h => by cases h), by simpa using hl, fun j u hu => ?_⟩, fun x hx => ?_⟩
    · rw [flat_len hf]
    · have hj : j < len * sz := by
        have := (List.getElem?_eq_some_iff.1 hu).1
        rw [flat_len hf] at this
        simpa using this
      have hi : j / sz < len := (Nat.div_lt_iff_lt_mul hsz).2 hj
      have hq : j % sz < sz := Nat.mod_lt _ hsz
      have ej : j = j / sz * sz + j % sz := by have := Nat.div_add_mod j sz; rw [Nat.mul_comm] at this; omega
      have h1 := (hg _ hi).1
      rw [hc] at h1
      have h2 := (World.cells?_some h1).2.2 (j % sz) hq
      rw [add_add, ← ej] at h2
      have h3 : (flat f ((List.range len).map g))[j / sz * sz + j % sz]? = (f (g (j / sz)))[j % sz]? := flat_get hf (by simp [hi]) hq
      rw [← ej, hu] at h3
      show W.cell? (A.add j) = some u
      rw [h2, ← h3]
    · obtain ⟨i, hi, rfl⟩ := List.mem_map.1 hx
      exact (hg i (by simpa using hi)).2
end
end Go.Px
