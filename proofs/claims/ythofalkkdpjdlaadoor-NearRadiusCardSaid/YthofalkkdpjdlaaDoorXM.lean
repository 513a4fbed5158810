/- Maps as what is one's own: what stands in one, by a list of keys and values. Nothing of any one program stands here. -/
import Derived.Test.YthofalkkdpjdlaaDoorXA
import Derived.WideKeyRuns
import Derived.MapKept
namespace Go.Px
set_option linter.unusedVariables false
set_option linter.unusedSimpArgs false
set_option linter.unusedSectionVars false
open Go.RowKit

section
variable {κ ν : Type} [DecidableEq κ]
def hasK (L : List (κ × ν)) (x : κ) : Bool := L.any fun p => decide (p.1 = x)
def getK (L : List (κ × ν)) (x : κ) : Option ν := (L.find? fun p => decide (p.1 = x)).map (·.2)
def putK (L : List (κ × ν)) (x : κ) (v : ν) : List (κ × ν) := if hasK L x then L.map (fun p => if p.1 = x then (x, v) else p) else L ++ [(x, v)]
def delK (L : List (κ × ν)) (x : κ) : List (κ × ν) := L.filter fun p => !decide (p.1 = x)
theorem hasK_iff {L : List (κ × ν)} {x : κ} : hasK L x = true ↔ x ∈ L.map (·.1) := by
  simp only [hasK, List.any_eq_true, decide_eq_true_eq, List.mem_map]
theorem putK_keys (L : List (κ × ν)) (x : κ) (v : ν) : (putK L x v).map (·.1) = if hasK L x then L.map (·.1) else L.map (·.1) ++ [x] := by
  unfold putK
  split
  · rw [List.map_map]
    refine List.map_congr_left fun p _ => ?_
    simp only [Function.comp]
    split
    · rename_i e; exact e.symm
    · rfl
  · simp
theorem putK_nd {L : List (κ × ν)} (h : (L.map (·.1)).Nodup) (x : κ) (v : ν) : ((putK L x v).map (·.1)).Nodup := by
  rw [putK_keys]
  split
  · exact h
  · rename_i hx
    refine List.nodup_append.2 ⟨h, by simp, fun a ha b hb e => ?_⟩
    obtain rfl := List.mem_singleton.1 hb
    subst e
    exact hx (hasK_iff.2 ha)
theorem delK_nd {L : List (κ × ν)} (h : (L.map (·.1)).Nodup) (x : κ) : ((delK L x).map (·.1)).Nodup := h.sublist (List.filter_sublist.map _)
theorem getK_put {L : List (κ × ν)} {x y : κ} {v : ν} : getK (putK L x v) y = if x = y then some v else getK L y := by
  unfold putK
  split
  · rename_i hx
    induction L with
    | nil => simp [hasK] at hx
    | cons p r ih =>
      simp only [getK, List.map_cons, List.find?_cons]
      by_cases h1 : p.1 = x
      · subst h1
        simp only [if_true]
        by_cases h2 : p.1 = y
        · simp [h2]
        · simp only [decide_eq_false h2, if_neg h2]
          have : ∀ r : List (κ × ν), (r.map fun q => if q.1 = p.1 then (p.1, v) else q).find? (fun q => decide (q.1 = y)) = r.find? fun q => decide (q.1 = y) := fun r => by
            induction r with
            | nil => rfl
            | cons q r ih2 =>
              simp only [List.map_cons, List.find?_cons]
              by_cases h3 : q.1 = p.1
              · have h4 : ¬ q.1 = y := fun e => h2 (h3 ▸ e)
                simp only [if_pos h3, decide_eq_false h2, decide_eq_false h4]
                exact ih2
              · simp only [if_neg h3]
                split
                · rfl
                · exact ih2
          rw [this]
      · have hx' : hasK r x = true := by
          simp only [hasK, List.any_cons, decide_eq_false h1, Bool.false_or] at hx
          exact hx
        have := ih hx'
        simp only [getK] at this
        simp only [if_neg h1]
        by_cases h2 : p.1 = y
        · have h3 : ¬ x = y := fun e => h1 (h2.trans e.symm)
          simp [h2, h3]
        · simp only [decide_eq_false h2]
          exact this
  · rename_i hx
    simp only [getK, List.find?_append]
    by_cases hxy : x = y
    · subst hxy
      have h0 : L.find? (fun p => decide (p.1 = x)) = none := List.find?_eq_none.2 fun p hp hd => hx (by
        simp only [hasK, List.any_eq_true]
        exact ⟨p, hp, hd⟩)
      simp [h0]
    · simp [hxy]
theorem hasK_get {L : List (κ × ν)} {x : κ} : hasK L x = (getK L x).isSome := by
  induction L with
  | nil => rfl
  | cons p r ih =>
    simp only [hasK, getK, List.any_cons, List.find?_cons] at *
    by_cases h : p.1 = x
    · simp [h]
    · simp only [decide_eq_false h, Bool.false_or]
      exact ih
theorem getK_del {L : List (κ × ν)} {x y : κ} : getK (delK L x) y = if x = y then none else getK L y := by
  induction L with
  | nil => simp [getK, delK]
  | cons p r ih =>
    simp only [getK, delK, List.filter_cons] at *
    by_cases h1 : p.1 = x
    · simp only [decide_eq_true h1, Bool.not_true, Bool.false_eq_true, if_false]
      rw [ih]
      by_cases h2 : x = y
      · simp [h2]
      · have h3 : ¬ p.1 = y := fun e => h2 (h1.symm.trans e)
        simp [h2, h3]
    · simp only [decide_eq_false h1, Bool.not_false, if_true, List.find?_cons]
      by_cases h2 : p.1 = y
      · have h3 : ¬ x = y := fun e => h1 (h2.trans e.symm)
        simp [h2, h3]
      · simp only [decide_eq_false h2]
        exact ih
theorem getK_mem {L : List (κ × ν)} {x : κ} {v : ν} (h : getK L x = some v) : (x, v) ∈ L := by
  obtain ⟨p, hp, rfl⟩ := Option.map_eq_some_iff.1 h
  have h1 := List.mem_of_find?_eq_some hp
  have h2 : p.1 = x := by
    have := List.find?_some hp
    exact of_decide_eq_true this
  subst h2
  exact h1
theorem getK_of_mem {L : List (κ × ν)} (hd : (L.map (·.1)).Nodup) {x : κ} {v : ν} (h : (x, v) ∈ L) : getK L x = some v := by
  induction L with
  | nil => cases h
  | cons p r ih =>
    rw [List.map_cons, List.nodup_cons] at hd
    simp only [getK, List.find?_cons]
    rcases List.mem_cons.1 h with rfl | h
    · simp
    · have h1 : ¬ p.1 = x := fun e => hd.1 (List.mem_map.2 ⟨_, h, e.symm⟩)
      simp only [decide_eq_false h1]
      exact ih hd.2 h

/-! ### What a key's type is good for -/
structure KeyT (P : Program) (k : TypeId) (fk : κ → Value) : Prop where
  find : ∀ (w : World) (x : κ) (es : List MapEntry) (ks : List κ), es.map (·.key) = ks.map fk → (Instr.findKey k (fk x) es).run P w = .ok ((ks.findIdx? fun y => decide (y = x)).bind fun i => (es[i]?).map fun e => (i, e.val)) w
  chk : ∀ (w : World) (em : Bool) (x : κ), (Instr.checkKey em 10000 k (fk x)).run P w = .ok () w
  stay : ∀ (w : World) (x : κ), (Instr.keyThatStays (fk x) (fk x)).run P w = .ok (fk x) w

theorem run_findAsking_by {P : Program} {k : TypeId} {fk : κ → Value} (heq : ∀ (w : World) (x y : κ), (Op.equal k (fk x) (fk y)).run P w = .ok (decide (x = y)) w) (w : World) (x : κ) :
    ∀ (es : List MapEntry) (ks : List κ) (i0 : Nat), es.map (·.key) = ks.map fk → (Instr.findAsking k (fk x) es i0).run P w = .ok ((ks.findIdx? fun y => decide (y = x)).bind fun i => (es[i]?).map fun e => (i0 + i, e.val)) w
  | [], [], i0, _ => by simp [Instr.findAsking]
  | [], _ :: _, _, h => by simp at h
  | _ :: _, [], _, h => by simp at h
  | e :: es, y :: ks, i0, h => by
    simp only [List.map_cons, List.cons.injEq] at h
    have ih := run_findAsking_by heq w x es ks (i0 + 1) h.2
    have h1 := heq w x y
    rw [← h.1] at h1
    by_cases hxy : x = y
    · subst hxy
      simp [Instr.findAsking, h1, List.findIdx?_cons]
    · have hyx : ¬ y = x := fun e => hxy e.symm
      rw [decide_eq_false hxy] at h1
      simp only [Instr.findAsking, Sem.run_bind, h1, Result.andThen_ok, Bool.false_eq_true, if_false, ih, List.findIdx?_cons, decide_eq_false hyx]
      congr 1
      cases ks.findIdx? fun y => decide (y = x) with
      | none => rfl
      | some j => simp [Nat.add_assoc, Nat.add_comm 1 j]
theorem KeyT.wide {P : Program} {k : TypeId} {fk : κ → Value} (hwide : (match P.underlying k with | some (.array _ _) | some (.struct _) => true | _ => false) = true) (heq : ∀ (w : World) (x y : κ), (Op.equal k (fk x) (fk y)).run P w = .ok (decide (x = y)) w)
    (chk : ∀ (w : World) (em : Bool) (x : κ), (Instr.checkKey em 10000 k (fk x)).run P w = .ok () w) (stay : ∀ (w : World) (x : κ), (Instr.keyThatStays (fk x) (fk x)).run P w = .ok (fk x) w) : KeyT P k fk where
  find := fun w x es ks h => by
    rw [run_findKey_eq w hwide, run_findAsking_by heq w x es ks 0 h]
    simp
  chk := chk
  stay := stay

/-! ### What stands in a map -/
structure MapAt (w : World) (B : Nat) (fk : κ → Value) (fv : ν → Value) (L : List (κ × ν)) : Prop where
  ex : ∃ (es : Array MapEntry) (clock : Nat), w.heap[B]? = some (.map es clock) ∧ es.toList.map (fun e => (e.key, e.val)) = L.map (fun p => (fk p.1, fv p.2)) ∧ (es.toList.map (·.born)).Pairwise (· < ·) ∧ ∀ e ∈ es.toList, e.born < clock
  nd : (L.map (·.1)).Nodup
section
variable {w w' : World} {B : Nat} {fk : κ → Value} {fv : ν → Value} {L : List (κ × ν)}
theorem MapAt.lt (h : MapAt w B fk fv L) : B < w.heap.size := by
  obtain ⟨es, clock, hb, _⟩ := h.ex
  exact (Array.getElem?_eq_some_iff.1 hb).1
theorem MapAt.keep {F : Nat → Prop} (h : MapAt w B fk fv L) (hk : Keep F w w') (hn : ¬ F B) : MapAt w' B fk fv L := by
  have hlt := h.lt
  obtain ⟨es, clock, hb, hr⟩ := h.ex
  exact ⟨⟨es, clock, (hk.block B hlt hn).trans hb, hr⟩, h.nd⟩
/-- The entry of a key. -/
theorem ent_at {es : List MapEntry} {L : List (κ × ν)} (h : es.map (fun e => (e.key, e.val)) = L.map (fun p => (fk p.1, fv p.2))) (x : κ) :
    (((L.map (·.1)).findIdx? fun y => decide (y = x)).bind fun i => (es[i]?).map fun e => (i, e.val)) = ((L.map (·.1)).findIdx? fun y => decide (y = x)).bind fun i => (L[i]?).map fun p => (i, fv p.2) := by
  congr 1
  funext i
  have h1 := congrArg (fun l => l[i]?) h
  simp only [List.getElem?_map] at h1
  cases he : es[i]? with
  | none => rw [he] at h1; cases hl : L[i]? with
    | none => rfl
    | some p => rw [hl] at h1; cases h1
  | some e => rw [he] at h1; cases hl : L[i]? with
    | none => rw [hl] at h1; cases h1
    | some p => rw [hl] at h1; simp only [Option.map_some, Option.some.injEq, Prod.mk.injEq] at h1 ⊢; exact ⟨trivial, h1.2⟩
theorem idx_get (L : List (κ × ν)) (x : κ) : (((L.map (·.1)).findIdx? fun y => decide (y = x)).bind fun i => (L[i]?).map fun p => (i, fv p.2)).map (·.2) = (getK L x).map fv := by
  induction L with
  | nil => rfl
  | cons p r ih =>
    simp only [List.map_cons, List.findIdx?_cons, getK, List.find?_cons]
    by_cases h : p.1 = x
    · simp [h]
    · simp only [decide_eq_false h, Bool.false_eq_true, if_false]
      rw [← getK, ← ih]
      cases (r.map (·.1)).findIdx? fun y => decide (y = x) with
      | none => rfl
      | some j =>
        simp only [Option.map_some, Option.bind_some, List.getElem?_cons_succ, Option.map_map]
        rfl
theorem keys_of {es : List MapEntry} {L : List (κ × ν)} (h : es.map (fun e => (e.key, e.val)) = L.map (fun p => (fk p.1, fv p.2))) : es.map (·.key) = (L.map (·.1)).map fk := by
  have h1 := congrArg (List.map Prod.fst) h
  simpa [List.map_map, Function.comp_def] using h1
variable {P : Program} {k t e : TypeId} (K : KeyT P k fk)
include K
theorem MapAt.lookup (h : MapAt w B fk fv L) (ht : P.underlying t = some (.map k e)) {z : ν} (hz : (zeroValue e).run P w = .ok (fv z) w) (x : κ) (c : Bool) :
    (Instr.lookup t (.map (some B)) (fk x) c).run P w = .ok (if c then .tuple #[fv ((getK L x).getD z), .bool (hasK L x)] else fv ((getK L x).getD z)) w := by
  obtain ⟨es, clock, hb, he, _⟩ := h.ex
  have h1 := K.find w x es.toList (L.map (·.1)) (keys_of he)
  rw [ent_at he] at h1
  have h2 := idx_get (fv := fv) L x
  cases hr : (((L.map (·.1)).findIdx? fun y => decide (y = x)).bind fun i => (L[i]?).map fun p => (i, fv p.2)) with
  | none =>
    rw [hr] at h1 h2
    have h3 : getK L x = none := by simpa using h2.symm
    simp [Instr.lookup, run_underlying ht, MapKept.run_getObj_map hb, K.chk w _ x, h1, hz, Result.andThen, hasK_get, h3]
  | some q =>
    rw [hr] at h1 h2
    obtain ⟨v, hv, hq⟩ : ∃ v, getK L x = some v ∧ fv v = q.2 := by
      cases hg : getK L x with
      | none => rw [hg] at h2; cases h2
      | some v => rw [hg] at h2; exact ⟨v, rfl, (Option.some.inj h2).symm⟩
    simp [Instr.lookup, run_underlying ht, MapKept.run_getObj_map hb, K.chk w _ x, h1, Result.andThen, hasK_get, hv, hq]
omit K in
theorem spot {L : List (κ × ν)} {x : κ} {q : Nat × Value} (hr : (((L.map (·.1)).findIdx? fun y => decide (y = x)).bind fun i => (L[i]?).map fun p => (i, fv p.2)) = some q) : ∃ v, L[q.1]? = some (x, v) ∧ fv v = q.2 := by
  obtain ⟨i, hi, hq⟩ := Option.bind_eq_some_iff.1 hr
  obtain ⟨p, hp, rfl⟩ := Option.map_eq_some_iff.1 hq
  obtain ⟨h1, h2, _⟩ := List.findIdx?_eq_some_iff_getElem.1 hi
  have h3 : (L.map (·.1))[i]? = some p.1 := by rw [List.getElem?_map, hp]; rfl
  rw [List.getElem?_eq_getElem h1] at h3
  have h4 : p.1 = x := by
    have := of_decide_eq_true h2
    rw [← this]
    exact (Option.some.inj h3).symm
  subst h4
  exact ⟨p.2, hp, rfl⟩
omit K in
theorem nospot {L : List (κ × ν)} {x : κ} (hr : (((L.map (·.1)).findIdx? fun y => decide (y = x)).bind fun i => (L[i]?).map fun p => (i, fv p.2)) = none) : hasK L x = false := by
  have h2 := idx_get (fv := fv) L x
  rw [hr] at h2
  rw [hasK_get]
  cases hg : getK L x with
  | none => rfl
  | some v => rw [hg] at h2; cases h2
omit K in
theorem other_ne {L : List (κ × ν)} (hd : (L.map (·.1)).Nodup) {i j : Nat} {p q : κ × ν} (hi : L[i]? = some p) (hj : L[j]? = some q) (hne : i ≠ j) : q.1 ≠ p.1 := fun e => by
  have hi' := (List.getElem?_eq_some_iff.1 hi).1
  have hj' := (List.getElem?_eq_some_iff.1 hj).1
  have h1 : (L.map (·.1))[i]'(by simpa using hi') = p.1 := by
    rw [List.getElem_map]
    congr 1
    rw [List.getElem?_eq_getElem hi'] at hi
    exact Option.some.inj hi
  have h2 : (L.map (·.1))[j]'(by simpa using hj') = q.1 := by
    rw [List.getElem_map]
    congr 1
    rw [List.getElem?_eq_getElem hj'] at hj
    exact Option.some.inj hj
  exact hne ((List.getElem_inj hd).1 (h1.trans (e.symm.trans h2.symm)))
omit K in
theorem MapAt.setAt {es' : Array MapEntry} {clock' : Nat} {L' : List (κ × ν)} (h : MapAt w B fk fv L) (he : es'.toList.map (fun e => (e.key, e.val)) = L'.map (fun p => (fk p.1, fv p.2))) (hp : (es'.toList.map (·.born)).Pairwise (· < ·)) (hc : ∀ e ∈ es'.toList, e.born < clock') (hd : (L'.map (·.1)).Nodup) :
    MapAt { w with heap := w.heap.setIfInBounds B (.map es' clock') } B fk fv L' ∧ Keep (fun i => i = B) w { w with heap := w.heap.setIfInBounds B (.map es' clock') } := by
  refine ⟨⟨⟨es', clock', ?_, he, hp, hc⟩, hd⟩, ⟨rfl, rfl, rfl, by simp, Nat.le_refl _, fun i hi hn => ?_⟩⟩
  · simp [h.lt]
  · have : ¬ B = i := fun e => hn e.symm
    simp [Array.getElem?_setIfInBounds, this]
theorem MapAt.update (h : MapAt w B fk fv L) (ht : P.underlying t = some (.map k e)) (x : κ) (v : ν) :
    ∃ w', (Instr.mapUpdate t (.map (some B)) (fk x) (fv v)).run P w = .ok () w' ∧ MapAt w' B fk fv (putK L x v) ∧ Keep (fun i => i = B) w w' := by
  obtain ⟨es, clock, hb, he, hp, hc⟩ := h.ex
  have h1 := K.find w x es.toList (L.map (·.1)) (keys_of he)
  rw [ent_at he] at h1
  cases hr : (((L.map (·.1)).findIdx? fun y => decide (y = x)).bind fun i => (L[i]?).map fun p => (i, fv p.2)) with
  | none =>
    rw [hr] at h1
    have h3 := nospot hr
    have h4 := MapAt.setAt (L' := putK L x v) h (es' := es.push ⟨fk x, fv v, clock⟩) (clock' := clock + 1) (by simp [putK, h3, he]) (by
      simp only [Array.toList_push, List.map_append, List.map_cons, List.map_nil]
      refine List.pairwise_append.2 ⟨hp, by simp, fun a ha b hb => ?_⟩
      obtain rfl := List.mem_singleton.1 hb
      obtain ⟨e0, he0, rfl⟩ := List.mem_map.1 ha
      exact hc e0 he0) (fun e0 he0 => by
      simp only [Array.toList_push, List.mem_append, List.mem_singleton] at he0
      rcases he0 with he0 | rfl
      · have := hc e0 he0; omega
      · exact Nat.lt_succ_self _) (putK_nd h.nd x v)
    exact ⟨_, by simp [Instr.mapUpdate, run_underlying ht, MapKept.run_getObj_map hb, K.chk w false x, h1, MapKept.run_setObj_map _ hb, Result.andThen], h4⟩
  | some q =>
    rw [hr] at h1
    obtain ⟨v0, hl, hv0⟩ := spot hr
    have hm := congrArg (fun l => l[q.1]?) he
    simp only [List.getElem?_map, hl, Option.map_some] at hm
    obtain ⟨e0, he0, hm0⟩ := Option.map_eq_some_iff.1 hm
    simp only [Prod.mk.injEq] at hm0
    have hj : es[q.1]? = some e0 := by simpa using he0
    have hh : hasK L x = true := hasK_iff.2 (List.mem_map.2 ⟨(x, v0), List.mem_of_getElem? hl, rfl⟩)
    have h4 := MapAt.setAt (L' := putK L x v) h (es' := es.modify q.1 (fun e' => { e' with key := fk x, val := fv v })) (clock' := clock) (by
      rw [Array.toList_modify]
      refine List.ext_getElem? fun j => ?_
      have hm := congrArg (fun l => l[j]?) he
      simp only [List.getElem?_map] at hm
      simp only [putK, hh, if_true, List.getElem?_map, List.getElem?_modify]
      by_cases hjq : q.1 = j
      · subst hjq
        simp [hl, he0]
      · cases hlj : L[j]? with
        | none => rw [hlj] at hm; cases hej : es.toList[j]? with
          | none => simp [hjq]
          | some e' => rw [hej] at hm; cases hm
        | some p' =>
          have hne : ¬ p'.1 = x := other_ne h.nd hl hlj hjq
          rw [hlj] at hm
          cases hej : es.toList[j]? with
          | none => rw [hej] at hm; cases hm
          | some e' => rw [hej] at hm; simpa [hjq, hne] using hm) (by
      have : ((es.modify q.1 (fun e' => { e' with key := fk x, val := fv v })).toList.map (·.born)) = es.toList.map (·.born) := by
        rw [Array.toList_modify]
        refine List.ext_getElem? fun j => ?_
        simp only [List.getElem?_map, List.getElem?_modify]
        cases es.toList[j]? with
        | none => simp
        | some e' => by_cases hjq : q.1 = j <;> simp [hjq]
      rw [this]
      exact hp) (fun e' he' => by
      rw [Array.toList_modify] at he'
      obtain ⟨j, hj'⟩ := List.getElem?_of_mem he'
      rw [List.getElem?_modify] at hj'
      obtain ⟨e1, he1, rfl⟩ := Option.map_eq_some_iff.1 hj'
      have := hc e1 (List.mem_of_getElem? he1)
      split <;> exact this) (putK_nd h.nd x v)
    exact ⟨_, by simp [Instr.mapUpdate, run_underlying ht, MapKept.run_getObj_map hb, K.chk w false x, h1, hj, hm0.1, K.stay w x, MapKept.run_setObj_map _ hb, Result.andThen], h4⟩
theorem MapAt.delete {ty : TypeId} (h : MapAt w B fk fv L) (ht : P.underlying t = some (.map k e)) (x : κ) :
    ∃ w', (Builtin.delete_ #[t, k] ty #[.map (some B), fk x]).run P w = .ok (.tuple #[]) w' ∧ MapAt w' B fk fv (delK L x) ∧ Keep (fun i => i = B) w w' := by
  obtain ⟨es, clock, hb, he, hp, hc⟩ := h.ex
  have h1 := K.find w x es.toList (L.map (·.1)) (keys_of he)
  rw [ent_at he] at h1
  cases hr : (((L.map (·.1)).findIdx? fun y => decide (y = x)).bind fun i => (L[i]?).map fun p => (i, fv p.2)) with
  | none =>
    rw [hr] at h1
    have h3 := nospot hr
    have e1 : delK L x = L := List.filter_eq_self.2 fun p hp => by
      have : ¬ p.1 = x := fun e => by
        rw [hasK_iff.2 (List.mem_map.2 ⟨p, hp, e⟩)] at h3
        cases h3
      simp [this]
    have h4 := MapAt.setAt (L' := delK L x) h (es' := es) (clock' := clock) (by rw [e1]; exact he) hp hc (by rw [e1]; exact h.nd)
    exact ⟨_, by simp [Builtin.delete_, run_underlying ht, MapKept.run_getObj_map hb, K.chk w _ x, h1, MapKept.run_setObj_map _ hb, Result.andThen], h4⟩
  | some q =>
    rw [hr] at h1
    obtain ⟨v0, hl, hv0⟩ := spot hr
    have hjl : q.1 < L.length := (List.getElem?_eq_some_iff.1 hl).1
    have hlen : es.toList.length = L.length := by simpa using congrArg List.length he
    have hjs : q.1 < es.size := by
      rw [Array.length_toList] at hlen
      omega
    have hsub : (es.eraseIdxIfInBounds q.1).toList = es.toList.eraseIdx q.1 := by
      unfold Array.eraseIdxIfInBounds
      rw [dif_pos hjs]
      simp
    have e1 : delK L x = L.eraseIdx q.1 := by
      refine ChangeMaps.filter_eq_eraseIdx (fun p : κ × ν => decide (p.1 = x)) L q.1 (x, v0) hl (by simp) ?_
      have := List.pairwise_map.1 h.nd
      refine this.imp fun {a b} hab hh => ?_
      simp only [decide_eq_true_eq] at hh
      exact hab (hh.1.trans hh.2.symm)
    have hs : (es.toList.eraseIdx q.1).Sublist es.toList := List.eraseIdx_sublist _ _
    have h4 := MapAt.setAt (L' := delK L x) h (es' := es.eraseIdxIfInBounds q.1) (clock' := clock) (by rw [hsub, e1, ChangeMaps.map_eraseIdx, he, ← ChangeMaps.map_eraseIdx]) (by rw [hsub]; exact hp.sublist (hs.map _)) (fun e' he' => hc e' (hs.subset (by rw [hsub] at he'; exact he'))) (delK_nd h.nd x)
    exact ⟨_, by simp [Builtin.delete_, run_underlying ht, MapKept.run_getObj_map hb, K.chk w _ x, h1, MapKept.run_setObj_map _ hb, Result.andThen], h4⟩
end
theorem MapAt.len {w : World} {B : Nat} {fk : κ → Value} {fv : ν → Value} {L : List (κ × ν)} {P : Program} {t k e ty : TypeId} (h : MapAt w B fk fv L) (ht : P.underlying t = some (.map k e)) : (Builtin.len_ #[t] ty #[.map (some B)]).run P w = .ok (goInt (L.length : Nat)) w := by
  obtain ⟨es, clock, hb, he, _⟩ := h.ex
  have hlen : es.size = L.length := by simpa using congrArg List.length he
  simp [Builtin.len_, run_underlying ht, MapKept.run_getObj_map hb, hlen, Result.andThen]
theorem mapAt_new (w : World) (fk : κ → Value) (fv : ν → Value) : MapAt (w.alloc (.map #[] 0)) w.heap.size fk fv [] :=
  ⟨⟨#[], 0, (MapKept.heap_alloc w _).1, rfl, by simp, by simp⟩, by simp⟩
/-- A map, as what is one's own. -/
def oM (B : Nat) (fk : κ → Value) (fv : ν → Value) (L : List (κ × ν)) : Own where
  B := [B]
  φ := fun b w => b ≤ B ∧ MapAt w B fk fv L
  lt' := fun h i hi => by obtain rfl := List.mem_singleton.1 hi; exact ⟨h.1, h.2.lt⟩
  stab := fun h hk hn => ⟨h.1, h.2.keep hk (hn B (List.mem_singleton.2 rfl))⟩
  low := fun h hb => ⟨Nat.le_trans hb h.1, h.2⟩
end
end Go.Px
