/- The walker: blocks that stay as they were; a map among them is gone over; a whole array as a slice. Nothing of any one program stands here. -/
import Derived.Test.YthofalkkdpjdlaaDoorXN
namespace Go.Px
set_option linter.unusedVariables false
set_option linter.unusedSimpArgs false
set_option linter.unusedSectionVars false
open Go.RowKit
open Go.ChangeMaps (setBlock)
/-- Blocks that stay as they were in a world. -/
def oFz (Lf : List Nat) (w0 : World) : Own where
  B := Lf
  φ := fun b w => ∀ i ∈ Lf, b ≤ i ∧ i < w.heap.size ∧ w.heap[i]? = w0.heap[i]?
  lt' := fun h i hi => ⟨(h i hi).1, (h i hi).2.1⟩
  stab := fun h hk hn i hi => ⟨(h i hi).1, Nat.lt_of_lt_of_le (h i hi).2.1 hk.size, (hk.block i (h i hi).2.1 (hn i hi)).trans (h i hi).2.2⟩
  low := fun h hb i hi => ⟨Nat.le_trans hb (h i hi).1, (h i hi).2⟩
def frzL (base : Nat) (w : World) (B : List Nat) : List Nat := (List.range w.heap.size).filter fun i => decide (base ≤ i) && !decide (i ∈ B)
theorem mem_frz {base i : Nat} {w : World} {B : List Nat} : i ∈ frzL base w B ↔ i < w.heap.size ∧ base ≤ i ∧ ¬ i ∈ B := by
  simp [frzL]
theorem frz_nd (base : Nat) (w : World) (B : List Nat) : (frzL base w B).Nodup := List.nodup_range.sublist List.filter_sublist
/-- All but what may turn is frozen. -/
theorem OwnOk.freeze {base : Nat} {w : World} {o : Own} (h : o.φ base w) (hd : o.B.Nodup) : OwnOk base [] [oFz (frzL base w o.B) w, o] w := by
  refine ⟨fun p hp => ?_, ?_⟩
  · simp only [List.mem_cons, List.not_mem_nil, or_false] at hp
    rcases hp with rfl | rfl
    · exact fun i hi => ⟨(mem_frz.1 hi).2.1, (mem_frz.1 hi).1, rfl⟩
    · exact h
  · simp only [Mem.names, List.map_nil, List.nil_append, List.flatMap_cons, List.flatMap_nil, List.append_nil]
    refine List.nodup_append.2 ⟨frz_nd _ _ _, hd, fun a ha b hb e => ?_⟩
    subst e
    exact (mem_frz.1 ha).2.2 hb
theorem OwnOk.thaw {base : Nat} {w w' : World} {M : Mem} {O : List Own} {B : List Nat} (h : OwnOk base M O w') (hm : oFz (frzL base w B) w ∈ O) (hk : Keep (fun i => base ≤ i) w w') : Keep (fun i => i ∈ B) w w' := by
  refine ⟨hk.os, hk.tape, hk.output, hk.size, hk.drawn, fun i hi hn => ?_⟩
  by_cases hb : base ≤ i
  · exact (h.own _ hm i (mem_frz.2 ⟨hi, hb, hn⟩)).2.2
  · exact hk.block i hi hb
theorem cell_same {w w' : World} {A : Addr} {v : Value} (e : w'.heap[A.block]? = w.heap[A.block]?) (h : w.cell? A = some v) : w'.cell? A = some v := by
  unfold World.cell? at h ⊢
  rw [e]
  exact h
section
variable {κ ν : Type} [DecidableEq κ] {fk : κ → Value} {fv : ν → Value} {L : List (κ × ν)}
variable {P : Program} {ops : Array Oper} {n : Nat} {Q : Exit → Act → World → Prop} {rest : List Oper} {env : Env} {M : Mem} {a : Act} {w w0 : World} {base B : Nat} {O : List Own}
theorem MapAt.same {w w' : World} (h : MapAt w B fk fv L) (e : w'.heap[B]? = w.heap[B]?) : MapAt w' B fk fv L := by
  obtain ⟨es, clock, hb, hr⟩ := h.ex
  exact ⟨⟨es, clock, e.trans hb, hr⟩, h.nd⟩
/-- One who goes over a map that stays as it is. -/
structure IterZ (w0 w : World) (B r : Nat) (fk : κ → Value) (fv : ν → Value) (L left : List (κ × ν)) : Prop where
  it : ∃ (es : Array MapEntry) (clock since c0 : Nat) (seen : Array Nat), w0.heap[B]? = some (.map es clock) ∧ w.heap[r]? = some (.mapIter (some B) since seen c0) ∧ (∀ x ∈ es.toList, x.born < since) ∧ since ≤ c0 ∧ since ≤ clock ∧ (es.toList.map (·.born)).Pairwise (· < ·) ∧
    (es.toList.filter fun e => !seen.contains e.born).map (fun e => (e.key, e.val)) = left.map (fun p => (fk p.1, fv p.2))
  sub : left.Sublist L
def oJ (w0 : World) (B r : Nat) (fk : κ → Value) (fv : ν → Value) (L left : List (κ × ν)) : Own where
  B := [r]
  φ := fun b w => b ≤ r ∧ IterZ w0 w B r fk fv L left
  lt' := fun h i hi => by
    obtain rfl := List.mem_singleton.1 hi
    obtain ⟨_, _, _, _, _, _, hr, _⟩ := h.2.it
    exact ⟨h.1, (Array.getElem?_eq_some_iff.1 hr).1⟩
  stab := fun h hk hn => by
    obtain ⟨es, clock, since, c0, seen, hb, hr, rest⟩ := h.2.it
    exact ⟨h.1, ⟨es, clock, since, c0, seen, hb, hk.obj hr (hn _ (List.mem_singleton.2 rfl)), rest⟩, h.2.sub⟩
  low := fun h hb => ⟨Nat.le_trans hb h.1, h.2⟩
theorem sxrangeZ (hf : Fr n env a) (hM : MemOk M w) (hO : OwnOk base M O w) (h0 : MapAt w0 B fk fv L) (hBw : w.heap[B]? = w0.heap[B]?) {o : Oper} {d : Tmp} {t k e : TypeId} {X : Operand} (hgd : o.guard = none) (hd : o.dst = some d) (hdn : Nat.blt d n = true) (hop : o.op = .range t X)
    (hX : look env none X = some (.map (some B), [])) (ht : P.underlying t = some (.map k e)) (hb : base ≤ w.heap.size)
    (kont : ∀ act w' r, Fr n ((d, .val (.pointer (some ⟨r, 0, none⟩))) :: env) act → MemOk M w' → OwnOk base M (oJ w0 B r fk fv L L :: O) w' → Keep Nn w w' → wpList P ops Q rest act w') : wpList P ops Q (o :: rest) a w := by
  obtain ⟨es, clock, hbk, he, hp, hc⟩ := h0.ex
  have hr := run_range_map (P := P) w t k e B es clock ht (hBw.trans hbk)
  have hk : Keep Nn w (w.alloc (.mapIter (some B) clock #[] clock)) := keep_push w _
  have e1 : a.eval X = .map (some B) := look_sound hf (c := none) trivial hX trivial
  refine wpList_plain hgd fun K' hK' => ?_
  refine wp_of_run (w2 := w.alloc (.mapIter (some B) clock #[] clock)) (v := .pointer (some ⟨w.heap.size, 0, none⟩)) (nx := .value (.pointer (some ⟨w.heap.size, 0, none⟩))) ?_ (.inl rfl) K' _ ?_
  · simp [execOp, hop, e1, hr]
  · rw [hd]
    refine hK' _ _ (kont _ _ w.heap.size (hf.putv (by simpa [Nat.blt_eq] using hdn) _) (hM.keepNn hk) (hO.moreB hM hk hb (o := oJ w0 B w.heap.size fk fv L L) ⟨Nat.le_refl _, ⟨?_, List.Sublist.refl _⟩⟩ (by simp [oJ])) hk)
    exact ⟨es, clock, clock, clock, #[], hbk, (MapKept.heap_alloc w _).1, hc, Nat.le_refl _, Nat.le_refl _, hp, by rw [List.filter_eq_self.2 (fun x _ => by simp)]; exact he⟩
theorem sxmapnextZ (hf : Fr n env a) (hM : MemOk M w) {r : Nat} {left : List (κ × ν)} (hO : OwnOk base M (oJ w0 B r fk fv L left :: O) w) (hBw : w.heap[B]? = w0.heap[B]?) {o : Oper} {d : Tmp} {X : Operand} (hgd : o.guard = none) (hd : o.dst = some d) (hdn : Nat.blt d n = true) (hop : o.op = .next X false)
    (hX : look env none X = some (.pointer (some ⟨r, 0, none⟩), []))
    (done : left = [] → ∀ act, Fr n ((d, .val (.tuple #[.bool false])) :: env) act → wpList P ops Q rest act w)
    (more : ∀ (x : κ) (v : ν) (left' : List (κ × ν)), left.Perm ((x, v) :: left') → (x, v) ∈ L → ∀ act w', Fr n ((d, .val (.tuple #[.bool true, fk x, fv v])) :: env) act → MemOk M w' → OwnOk base M (oJ w0 B r fk fv L left' :: O) w' → Keep (fun i => i = r) w w' →
      (Instr.entry (.pointer (some ⟨r, 0, none⟩))).run P w' = .ok (.tuple #[fk x, fv v]) w' → wpList P ops Q rest act w') : wpList P ops Q (o :: rest) a w := by
  have hown := hO.own _ (List.mem_cons_self ..)
  have hI := hown.2
  obtain ⟨es, clock, since, c0, seen, hb0, hr, hold, hsc, hcl, hp, hl⟩ := hI.it
  have hb : w.heap[B]? = some (.map es clock) := hBw.trans hb0
  have hne : r ≠ B := fun e => by
    subst e
    rw [hr] at hb
    cases hb
  have hBlt : B < w.heap.size := (Array.getElem?_eq_some_iff.1 hb).1
  have e1 : a.eval X = .pointer (some ⟨r, 0, none⟩) := look_sound hf (c := none) trivial hX trivial
  have hlt : r < w.heap.size := (Array.getElem?_eq_some_iff.1 hr).1
  have hleft : (leftOf es seen).toList = es.toList.filter fun e => !seen.contains e.born := by
    unfold leftOf
    rw [Array.toList_filter]
  rcases run_next_at (P := P) w o.type r B since c0 seen es clock hr hb hold hsc with ⟨h0, hrun⟩ | ⟨e, hem, w1, hw1, hrun⟩
  · have hz : left = [] := by
      have h1 : (leftOf es seen).toList = [] := List.eq_nil_of_length_eq_zero (by simpa using h0)
      rw [hleft] at h1
      rw [h1] at hl
      exact List.map_eq_nil_iff.1 hl.symm
    refine wpList_plain hgd fun K' hK' => ?_
    refine wp_of_run (w2 := w) (v := .tuple #[.bool false]) (nx := .value (.tuple #[.bool false])) ?_ (.inl rfl) K' _ ?_
    · simp [execOp, hop, e1, hrun]
    · rw [hd]
      exact hK' _ _ (done hz _ (hf.putv (by simpa [Nat.blt_eq] using hdn) _))
  · rw [hleft] at hem
    obtain ⟨i, hi⟩ := List.getElem?_of_mem hem
    obtain ⟨q, hq, hqe⟩ := map_split hl hi
    obtain ⟨x, v⟩ := q
    simp only [Prod.mk.injEq] at hqe
    have hw1h : w1.heap = w.heap := by rcases hw1 with rfl | rfl <;> rfl
    have hk : Keep (fun j => j = r) w (setBlock w1 r (.mapIter (some B) since (seen.push e.born) clock)) := by
      have : Keep (fun j => j = r) w w1 := by
        rcases hw1 with rfl | rfl
        · exact Keep.refl _ _
        · exact (Keep.refl _ _).drew
      refine this.trans ⟨rfl, rfl, rfl, by simp [setBlock], Nat.le_refl _, fun j hj hn => ?_⟩
      have : ¬ r = j := fun e => hn e.symm
      simp [setBlock, Array.getElem?_setIfInBounds, this]
    have hk' : Keep (fun j => j ∈ (oJ w0 B r fk fv L left).B) w (setBlock w1 r (.mapIter (some B) since (seen.push e.born) clock)) := hk.mono fun j _ hj => by subst hj; simp [oJ]
    have hB2 : (setBlock w1 r (.mapIter (some B) since (seen.push e.born) clock)).heap[B]? = some (.map es clock) := (hk.block B hBlt (fun e => hne e.symm)).trans hb
    have hr2 : (setBlock w1 r (.mapIter (some B) since (seen.push e.born) clock)).heap[r]? = some (.mapIter (some B) since (seen.push e.born) clock) := by
      simp [setBlock, hw1h, hlt]
    have hit : IterZ w0 (setBlock w1 r (.mapIter (some B) since (seen.push e.born) clock)) B r fk fv L (left.eraseIdx i) :=
      ⟨⟨es, clock, since, clock, seen.push e.born, hb0, hr2, hold, hcl, hcl, hp, by rw [filter_seen hp hi, ChangeMaps.map_eraseIdx, hl, ← ChangeMaps.map_eraseIdx]⟩, (List.eraseIdx_sublist _ _).trans hI.sub⟩
    refine wpList_plain hgd fun K' hK' => ?_
    refine wp_of_run (v := .tuple #[.bool true, e.key, e.val]) (nx := .value (.tuple #[.bool true, e.key, e.val])) (w2 := setBlock w1 r (.mapIter (some B) since (seen.push e.born) clock)) ?_ (.inl rfl) K' _ ?_
    · simp [execOp, hop, e1, hrun]
    · rw [hd, hqe.1, hqe.2]
      refine hK' _ _ (more x v (left.eraseIdx i) ?_ (hI.sub.subset (List.mem_of_getElem? hq)) _ _ (hf.putv (by simpa [Nat.blt_eq] using hdn) _) (hO.memTurnB hM hk') (hO.turnS hk' (o' := oJ w0 B r fk fv L (left.eraseIdx i)) ⟨hown.1, hit⟩ (List.Sublist.refl _)) hk ?_)
      · exact erase_perm hq
      · have := run_entry_at (P := P) (setBlock w1 r (.mapIter (some B) since (seen.push e.born) clock)) r B since seen es clock e hr2 hB2 (List.mem_filter.1 hem).1 (List.Pairwise.imp (fun h => Nat.ne_of_lt h) hp)
        rw [hqe.1, hqe.2] at this
        exact this
end
section
variable {ρ : Operand → Value} {o : Oper} {P : Program} {w : World}
/-- A whole array, as a slice. -/
theorem ox_slice_arr {X : Operand} {t e : TypeId} {B m sz : Nat} (hop : o.op = .slice t X none none none) (hx : ρ X = .pointer (some ⟨B, 0, none⟩)) (ht : P.underlying t = some (.array m e)) (hi : (P.info? e).map (·.size) = some sz) :
    (execOp ρ o).run P w = .ok (.value (.slice (some ⟨B, 0, none⟩) m m)) w := by
  obtain ⟨i, hi1, hi2⟩ := Option.map_eq_some_iff.1 hi
  simp [execOp, hop, hx, Instr.sliceAt, run_underlying ht, Instr.sliceBounds, Instr.sureAddr, sizeOf, typeInfo, hi1, hi2, Addr.add]
end
section
variable {κ ν : Type} [DecidableEq κ] {fk : κ → Value} {fv : ν → Value} {L : List (κ × ν)}
variable {P : Program} {ops : Array Oper} {n : Nat} {Q : Exit → Act → World → Prop} {rest : List Oper} {env : Env} {a : Act} {w : World} {B : Nat}
/-- What is looked up, under a test that is known. -/
theorem sxlookupg (hf : Fr n env a) (hm : MapAt w B fk fv L) {k : TypeId} (K : KeyT P k fk) {o : Oper} {d : Tmp} {t e : TypeId} {X Y : Operand} {c : Bool} {j : Nat} {want : Bool} (hgd : o.guard = some (j, want)) (hgv : ((ops[j]?).bind (·.dst)).bind env.get = some (.val (.bool want))) (hd : o.dst = some d) (hdn : Nat.blt d n = true) (hop : o.op = .lookup t X Y c)
    (hX : look env none X = some (.map (some B), [])) (x : κ) (hY : look env none Y = some (fk x, [])) (ht : P.underlying t = some (.map k e)) (z : ν) (hz : (P.info? e).bind (·.zero) = some (fv z)) {V : Value} (hV : lookV fv L z x c = V)
    (kont : ∀ act, Fr n ((d, .val V) :: env) act → wpList P ops Q rest act w) : wpList P ops Q (o :: rest) a w := by
  refine wpList_step fun K' hK' => ?_
  rw [wanted_some hf hgd hgv]
  simp only [BEq.rfl, if_true]
  have hz' : (zeroValue e).run P w = .ok (fv z) w := by
    obtain ⟨i, hi, hz⟩ := Option.bind_eq_some_iff.1 hz
    simp [zeroValue, typeInfo, hi, hz]
  have hr := hm.lookup K ht hz' x c
  have e1 : a.eval X = .map (some B) := look_sound hf (c := none) trivial hX trivial
  have e2 : a.eval Y = fk x := look_sound hf (c := none) trivial hY trivial
  have hrun : (execOp a.eval o).run P w = .ok (.value V) w := by
    rw [← hV]
    simp [execOp, hop, e1, e2, hr, lookV]
  unfold Oper.wp
  rw [hrun]
  show K' (a.put o.dst _) _
  rw [hd]
  exact hK' _ _ (kont _ (hf.putv (by simpa [Nat.blt_eq] using hdn) _))
theorem sxmapleng (hf : Fr n env a) (hm : MapAt w B fk fv L) {o : Oper} {d : Tmp} {t k e : TypeId} {X : Operand} {j : Nat} {want : Bool} (hgd : o.guard = some (j, want)) (hgv : ((ops[j]?).bind (·.dst)).bind env.get = some (.val (.bool want))) (hd : o.dst = some d) (hdn : Nat.blt d n = true) (hop : o.op = .call { callee := .builtin .len, args := #[X], argTypes := #[t] })
    (hX : look env none X = some (.map (some B), [])) (ht : P.underlying t = some (.map k e)) (kont : ∀ act, Fr n ((d, .val (.int .i64 (L.length : Nat))) :: env) act → wpList P ops Q rest act w) : wpList P ops Q (o :: rest) a w := by
  refine wpList_step fun K' hK' => ?_
  rw [wanted_some hf hgd hgv]
  simp only [BEq.rfl, if_true]
  have e1 : a.eval X = .map (some B) := look_sound hf (c := none) trivial hX trivial
  have hr := hm.len (ty := o.type) ht
  have hrun : (execOp a.eval o).run P w = .ok (.value (goInt (L.length : Nat))) w := by
    simp [execOp, hop, resolve, invoke, builtin, e1, hr]
  unfold Oper.wp
  rw [hrun]
  show K' (a.put o.dst _) _
  rw [hd]
  exact hK' _ _ (kont _ (hf.putv (by simpa [Nat.blt_eq] using hdn) _))
end
theorem calls_mono {P : Program} {g : Nat} {as : Array Value} {w : World} {R R' : Value → World → Prop} (h : Calls P g as w (Ret R)) (hr : ∀ v w', R v w' → R' v w') : Calls P g as w (Ret R') := h.mono fun e w' he => let ⟨v, hv, h2⟩ := he; ⟨v, hv, hr _ _ h2⟩
/-- Known blocks, of which some have turned. -/
theorem MemOk.turned {M M' : Mem} {w w' : World} {F : Nat → Prop} (h : MemOk M w) (hk : Keep F w w') (hn : M'.names = M.names) (h1 : ∀ b ∈ M', w'.heap[b.g]? = some (.cells b.cs.toArray b.t (0, 0)) ∨ (b ∈ M ∧ ¬ F b.g)) : MemOk M' w' :=
  ⟨fun b hb => (h1 b hb).elim id fun h2 => hk.obj (h.at_ b h2.1) h2.2, by have := h.nd; rwa [← hn] at this⟩
end Go.Px
