/- The walker's rules for maps: made, looked at, written, struck, counted, gone over. Nothing of any one program stands here. -/
import Derived.Test.YthofalkkdpjdlaaDoorXM
import Derived.Maps.RangeRun
namespace Go.Px
set_option linter.unusedVariables false
set_option linter.unusedSimpArgs false
set_option linter.unusedSectionVars false
open Go.RowKit
open Go.ChangeMaps (setBlock)
section
variable {κ ν : Type} [DecidableEq κ] {fk : κ → Value} {fv : ν → Value} {L : List (κ × ν)}
variable {P : Program} {ops : Array Oper} {n : Nat} {Q : Exit → Act → World → Prop} {rest : List Oper} {env : Env} {M : Mem} {a : Act} {w : World} {base B : Nat} {O : List Own}

/-- What is looked up. -/
def lookV (fv : ν → Value) (L : List (κ × ν)) (z : ν) (x : κ) (c : Bool) : Value := if c then .tuple #[fv ((getK L x).getD z), .bool (hasK L x)] else fv ((getK L x).getD z)
theorem sxlookup (hf : Fr n env a) (hm : MapAt w B fk fv L) {k : TypeId} (K : KeyT P k fk) {o : Oper} {d : Tmp} {t e : TypeId} {X Y : Operand} {c : Bool} (hgd : o.guard = none) (hd : o.dst = some d) (hdn : Nat.blt d n = true) (hop : o.op = .lookup t X Y c)
    (hX : look env none X = some (.map (some B), [])) (x : κ) (hY : look env none Y = some (fk x, [])) (ht : P.underlying t = some (.map k e)) (z : ν) (hz : (P.info? e).bind (·.zero) = some (fv z)) {V : Value} (hV : lookV fv L z x c = V)
    (kont : ∀ act, Fr n ((d, .val V) :: env) act → wpList P ops Q rest act w) : wpList P ops Q (o :: rest) a w := by
  refine wpList_plain hgd fun K' hK' => ?_
  have hz' : (zeroValue e).run P w = .ok (fv z) w := by
    obtain ⟨i, hi, hz⟩ := Option.bind_eq_some_iff.1 hz
    simp [zeroValue, typeInfo, hi, hz]
  have hr := hm.lookup K ht hz' x c
  have e1 : a.eval X = .map (some B) := look_sound hf (c := none) trivial hX trivial
  have e2 : a.eval Y = fk x := look_sound hf (c := none) trivial hY trivial
  refine wp_of_run (w2 := w) (v := V) (nx := .value V) ?_ (.inl rfl) K' _ ?_
  · rw [← hV]
    simp [execOp, hop, e1, e2, hr, lookV]
  · rw [hd]
    exact hK' _ _ (kont _ (hf.putv (by simpa [Nat.blt_eq] using hdn) _))
theorem sxmapset (hf : Fr n env a) (hM : MemOk M w) (hO : OwnOk base M (oM B fk fv L :: O) w) {k : TypeId} (K : KeyT P k fk) {o : Oper} {t e : TypeId} {X Y Z : Operand} (hgd : o.guard = none) (hd : o.dst = none) (hop : o.op = .mapUpdate t X Y Z)
    (hX : look env none X = some (.map (some B), [])) (x : κ) (hY : look env none Y = some (fk x, [])) (v : ν) (hZ : look env none Z = some (fv v, [])) (ht : P.underlying t = some (.map k e))
    (kont : ∀ act w', Fr n env act → MemOk M w' → OwnOk base M (oM B fk fv (putK L x v) :: O) w' → Keep (fun i => i = B) w w' → wpList P ops Q rest act w') : wpList P ops Q (o :: rest) a w := by
  have hown := hO.own _ (List.mem_cons_self ..)
  obtain ⟨w', hr, hm, hk⟩ := hown.2.update K ht x v
  have hk' : Keep (fun i => i ∈ (oM B fk fv L).B) w w' := hk.mono fun i _ hi => List.mem_singleton.2 hi
  have e1 : a.eval X = .map (some B) := look_sound hf (c := none) trivial hX trivial
  have e2 : a.eval Y = fk x := look_sound hf (c := none) trivial hY trivial
  have e3 : a.eval Z = fv v := look_sound hf (c := none) trivial hZ trivial
  refine wpList_plain hgd fun K' hK' => ?_
  refine wp_of_run (w2 := w') (v := undef) (nx := .skip) ?_ (.inr ⟨rfl, rfl⟩) K' _ ?_
  · simp [execOp, hop, e1, e2, e3, hr]
  · rw [hd]
    exact hK' _ _ (kont _ w' hf (hO.memTurnB hM hk') (hO.turnS hk' (o' := oM B fk fv (putK L x v)) ⟨hown.1, hm⟩ (List.Sublist.refl _)) hk)
theorem sxmapins (hf : Fr n env a) (hM : MemOk M w) (hO : OwnOk base M (oM B fk fv L :: O) w) {k : TypeId} (K : KeyT P k fk) {o : Oper} {t e : TypeId} {X Y Z : Operand} (hgd : o.guard = none) (hd : o.dst = none) (hop : o.op = .insert t X Y Z)
    (hX : look env none X = some (.map (some B), [])) (x : κ) (hY : look env none Y = some (fk x, [])) (v : ν) (hZ : look env none Z = some (fv v, [])) (ht : P.underlying t = some (.map k e))
    (kont : ∀ act w', Fr n env act → MemOk M w' → OwnOk base M (oM B fk fv (putK L x v) :: O) w' → Keep (fun i => i = B) w w' → wpList P ops Q rest act w') : wpList P ops Q (o :: rest) a w := by
  have hown := hO.own _ (List.mem_cons_self ..)
  obtain ⟨w', hr, hm, hk⟩ := hown.2.update K ht x v
  have hk' : Keep (fun i => i ∈ (oM B fk fv L).B) w w' := hk.mono fun i _ hi => List.mem_singleton.2 hi
  have e1 : a.eval X = .map (some B) := look_sound hf (c := none) trivial hX trivial
  have e2 : a.eval Y = fk x := look_sound hf (c := none) trivial hY trivial
  have e3 : a.eval Z = fv v := look_sound hf (c := none) trivial hZ trivial
  refine wpList_plain hgd fun K' hK' => ?_
  refine wp_of_run (w2 := w') (v := undef) (nx := .skip) ?_ (.inr ⟨rfl, rfl⟩) K' _ ?_
  · simp [execOp, hop, e1, e2, e3, hr]
  · rw [hd]
    exact hK' _ _ (kont _ w' hf (hO.memTurnB hM hk') (hO.turnS hk' (o' := oM B fk fv (putK L x v)) ⟨hown.1, hm⟩ (List.Sublist.refl _)) hk)
theorem sxmapdel (hf : Fr n env a) (hM : MemOk M w) (hO : OwnOk base M (oM B fk fv L :: O) w) {k : TypeId} (K : KeyT P k fk) {o : Oper} {t e : TypeId} {X Y : Operand} (hgd : o.guard = none) (hop : o.op = .call { callee := .builtin .delete, args := #[X, Y], argTypes := #[t, k] }) (hd : o.dst = none)
    (hX : look env none X = some (.map (some B), [])) (x : κ) (hY : look env none Y = some (fk x, [])) (ht : P.underlying t = some (.map k e))
    (kont : ∀ act w', Fr n env act → MemOk M w' → OwnOk base M (oM B fk fv (delK L x) :: O) w' → Keep (fun i => i = B) w w' → wpList P ops Q rest act w') : wpList P ops Q (o :: rest) a w := by
  have hown := hO.own _ (List.mem_cons_self ..)
  obtain ⟨w', hr, hm, hk⟩ := hown.2.delete (ty := o.type) K ht x
  have hk' : Keep (fun i => i ∈ (oM B fk fv L).B) w w' := hk.mono fun i _ hi => List.mem_singleton.2 hi
  have e1 : a.eval X = .map (some B) := look_sound hf (c := none) trivial hX trivial
  have e2 : a.eval Y = fk x := look_sound hf (c := none) trivial hY trivial
  refine wpList_plain hgd fun K' hK' => ?_
  refine wp_of_run (w2 := w') (v := .tuple #[]) (nx := .value (.tuple #[])) ?_ (.inl rfl) K' _ ?_
  · simp [execOp, hop, resolve, invoke, builtin, e1, e2, hr]
  · rw [hd]
    exact hK' _ _ (kont _ w' hf (hO.memTurnB hM hk') (hO.turnS hk' (o' := oM B fk fv (delK L x)) ⟨hown.1, hm⟩ (List.Sublist.refl _)) hk)
theorem sxmaplen (hf : Fr n env a) (hm : MapAt w B fk fv L) {o : Oper} {d : Tmp} {t k e : TypeId} {X : Operand} (hgd : o.guard = none) (hd : o.dst = some d) (hdn : Nat.blt d n = true) (hop : o.op = .call { callee := .builtin .len, args := #[X], argTypes := #[t] })
    (hX : look env none X = some (.map (some B), [])) (ht : P.underlying t = some (.map k e)) (kont : ∀ act, Fr n ((d, .val (.int .i64 (L.length : Nat))) :: env) act → wpList P ops Q rest act w) : wpList P ops Q (o :: rest) a w := by
  have e1 : a.eval X = .map (some B) := look_sound hf (c := none) trivial hX trivial
  have hr := hm.len (ty := o.type) ht
  refine wpList_plain hgd fun K' hK' => ?_
  refine wp_of_run (w2 := w) (v := goInt (L.length : Nat)) (nx := .value (goInt (L.length : Nat))) ?_ (.inl rfl) K' _ ?_
  · simp [execOp, hop, resolve, invoke, builtin, e1, hr]
  · rw [hd]
    exact hK' _ _ (kont _ (hf.putv (by simpa [Nat.blt_eq] using hdn) _))
theorem sxmakemap (fk : κ → Value) (fv : ν → Value) (hf : Fr n env a) (hM : MemOk M w) (hO : OwnOk base M O w) {o : Oper} {d : Tmp} {t : TypeId} (hgd : o.guard = none) (hd : o.dst = some d) (hdn : Nat.blt d n = true) (hop : o.op = .makeMap t none) (hb : base ≤ w.heap.size)
    (kont : ∀ act w' B, Fr n ((d, .val (.map (some B))) :: env) act → MemOk M w' → OwnOk base M (oM B fk fv [] :: O) w' → w.heap.size = B → Keep Nn w w' → wpList P ops Q rest act w') : wpList P ops Q (o :: rest) a w := by
  have hk : Keep Nn w (w.alloc (.map #[] 0)) := keep_push w _
  refine wpList_plain hgd fun K' hK' => ?_
  refine wp_of_run (w2 := w.alloc (.map #[] 0)) (v := .map (some w.heap.size)) (nx := .value (.map (some w.heap.size))) ?_ (.inl rfl) K' _ ?_
  · simp [execOp, hop, Instr.makeMap, newObj]
    rfl
  · rw [hd]
    exact hK' _ _ (kont _ _ w.heap.size (hf.putv (by simpa [Nat.blt_eq] using hdn) _) (hM.keepNn hk) (hO.moreB hM hk hb (o := oM w.heap.size fk fv []) ⟨Nat.le_refl _, mapAt_new w fk fv⟩ (by simp [oM])) rfl hk)

theorem ox_entry {ρ : Operand → Value} {o : Oper} {x : Operand} {u v : Value} (hop : o.op = .entry x) (hx : ρ x = u) (h : (Instr.entry u).run P w = .ok v w) : (execOp ρ o).run P w = .ok (.value v) w := by
  simp [execOp, hop, hx, h]
/-! ### A map that is gone over -/
structure IterAt (w : World) (B r : Nat) (fk : κ → Value) (fv : ν → Value) (L left : List (κ × ν)) : Prop where
  map : MapAt w B fk fv L
  ne : r ≠ B
  it : ∃ (es : Array MapEntry) (clock since c0 : Nat) (seen : Array Nat), w.heap[B]? = some (.map es clock) ∧ w.heap[r]? = some (.mapIter (some B) since seen c0) ∧ (∀ x ∈ es.toList, x.born < since) ∧ since ≤ c0 ∧ since ≤ clock ∧ (es.toList.map (·.born)).Pairwise (· < ·) ∧
    (es.toList.filter fun e => !seen.contains e.born).map (fun e => (e.key, e.val)) = left.map (fun p => (fk p.1, fv p.2)) ∧ es.toList.map (fun e => (e.key, e.val)) = L.map (fun p => (fk p.1, fv p.2))
  sub : left.Sublist L
theorem IterAt.lt {w : World} {B r : Nat} {L left : List (κ × ν)} (h : IterAt w B r fk fv L left) : r < w.heap.size := by
  obtain ⟨_, _, _, _, _, _, hr, _⟩ := h.it
  exact (Array.getElem?_eq_some_iff.1 hr).1
theorem IterAt.keep {w w' : World} {B r : Nat} {L left : List (κ × ν)} {F : Nat → Prop} (h : IterAt w B r fk fv L left) (hk : Keep F w w') (h1 : ¬ F B) (h2 : ¬ F r) : IterAt w' B r fk fv L left := by
  have hB := h.map.lt
  have hr' := h.lt
  obtain ⟨es, clock, since, c0, seen, hb, hr, rest⟩ := h.it
  exact ⟨h.map.keep hk h1, h.ne, ⟨es, clock, since, c0, seen, (hk.block B hB h1).trans hb, (hk.block r hr' h2).trans hr, rest⟩, h.sub⟩
/-- A map and who goes over it. -/
def oI (B r : Nat) (fk : κ → Value) (fv : ν → Value) (L left : List (κ × ν)) : Own where
  B := [B, r]
  φ := fun b w => b ≤ B ∧ b ≤ r ∧ IterAt w B r fk fv L left
  lt' := fun h i hi => by
    simp only [List.mem_cons, List.not_mem_nil, or_false] at hi
    rcases hi with rfl | rfl
    · exact ⟨h.1, h.2.2.map.lt⟩
    · exact ⟨h.2.1, h.2.2.lt⟩
  stab := fun h hk hn => ⟨h.1, h.2.1, h.2.2.keep hk (hn B (by simp)) (hn r (by simp))⟩
  low := fun h hb => ⟨Nat.le_trans hb h.1, Nat.le_trans hb h.2.1, h.2.2⟩
theorem sxrange (hf : Fr n env a) (hM : MemOk M w) (hO : OwnOk base M (oM B fk fv L :: O) w) {o : Oper} {d : Tmp} {t k e : TypeId} {X : Operand} (hgd : o.guard = none) (hd : o.dst = some d) (hdn : Nat.blt d n = true) (hop : o.op = .range t X)
    (hX : look env none X = some (.map (some B), [])) (ht : P.underlying t = some (.map k e)) (hb : base ≤ w.heap.size)
    (kont : ∀ act w' r, Fr n ((d, .val (.pointer (some ⟨r, 0, none⟩))) :: env) act → MemOk M w' → OwnOk base M (oI B r fk fv L L :: O) w' → Keep Nn w w' → wpList P ops Q rest act w') : wpList P ops Q (o :: rest) a w := by
  have hown := hO.own _ (List.mem_cons_self ..)
  have hlt := hown.2.lt
  obtain ⟨es, clock, hbk, he, hp, hc⟩ := hown.2.ex
  have hr := run_range_map (P := P) w t k e B es clock ht hbk
  have hk : Keep Nn w (w.alloc (.mapIter (some B) clock #[] clock)) := keep_push w _
  have e1 : a.eval X = .map (some B) := look_sound hf (c := none) trivial hX trivial
  refine wpList_plain hgd fun K' hK' => ?_
  refine wp_of_run (w2 := w.alloc (.mapIter (some B) clock #[] clock)) (v := .pointer (some ⟨w.heap.size, 0, none⟩)) (nx := .value (.pointer (some ⟨w.heap.size, 0, none⟩))) ?_ (.inl rfl) K' _ ?_
  · simp [execOp, hop, e1, hr]
  · rw [hd]
    have hne : w.heap.size ≠ B := by omega
    refine hK' _ _ (kont _ _ w.heap.size (hf.putv (by simpa [Nat.blt_eq] using hdn) _) (hM.keepNn hk) (hO.turnB hM (hk.mono fun _ _ h => by cases h) (o' := oI B w.heap.size fk fv L L) ⟨hown.1, hb, ⟨hown.2.keep hk (fun h => h), hne, ?_, List.Sublist.refl _⟩⟩ (fun i hi => ?_) (by simp [oI]; omega)) hk)
    · exact ⟨es, clock, clock, clock, #[], ((MapKept.heap_alloc w _).2 B hlt).trans hbk, (MapKept.heap_alloc w _).1, hc, Nat.le_refl _, Nat.le_refl _, hp, by rw [List.filter_eq_self.2 (fun x _ => by simp)]; exact he, he⟩
    · simp only [oI, oM, List.mem_cons, List.not_mem_nil, or_false] at hi ⊢
      rcases hi with rfl | rfl
      · exact .inl rfl
      · exact .inr (Nat.le_refl _)
theorem erase_perm {α : Type} : ∀ {l : List α} {i : Nat} {x : α}, l[i]? = some x → l.Perm (x :: l.eraseIdx i)
  | [], _, _, h => by simp at h
  | y :: r, 0, x, h => by
    simp only [List.getElem?_cons_zero, Option.some.injEq] at h
    subst h
    exact List.Perm.refl _
  | y :: r, i + 1, x, h => by
    simp only [List.getElem?_cons_succ] at h
    exact ((erase_perm h).cons y).trans (List.Perm.swap _ _ _)
theorem map_split {α β γ : Type} {f : α → γ} {g : β → γ} : ∀ {l : List α} {m : List β} {i : Nat} {x : α}, l.map f = m.map g → l[i]? = some x → ∃ y, m[i]? = some y ∧ f x = g y := by
  intro l m i x h hx
  have h1 := congrArg (fun l => l[i]?) h
  simp only [List.getElem?_map, hx, Option.map_some] at h1
  cases hm : m[i]? with
  | none => rw [hm] at h1; cases h1
  | some y => rw [hm] at h1; exact ⟨y, rfl, Option.some.inj h1⟩
theorem filter_seen {es : List MapEntry} {seen : Array Nat} {e : MapEntry} (hp : (es.map (·.born)).Pairwise (· < ·)) {i : Nat} (hi : (es.filter fun x => !seen.contains x.born)[i]? = some e) :
    (es.filter fun x => !(seen.push e.born).contains x.born) = (es.filter fun x => !seen.contains x.born).eraseIdx i := by
  have h1 : (es.filter fun x => !(seen.push e.born).contains x.born) = (es.filter fun x => !seen.contains x.born).filter fun x => !(x.born == e.born) := by
    rw [List.filter_filter]
    refine List.filter_congr fun x _ => ?_
    rw [Array.contains_push, Bool.not_or, Bool.and_comm]
  rw [h1]
  refine ChangeMaps.filter_eq_eraseIdx (fun x : MapEntry => x.born == e.born) _ i e hi (by simp) ?_
  have h2 : ((es.filter fun x => !seen.contains x.born).map (·.born)).Pairwise (· < ·) := hp.sublist (List.filter_sublist.map _)
  refine (List.pairwise_map.1 h2).imp fun {x y} hxy hh => ?_
  simp only [beq_iff_eq] at hh
  omega
theorem sxmapnext (hf : Fr n env a) (hM : MemOk M w) {r : Nat} {left : List (κ × ν)} (hO : OwnOk base M (oI B r fk fv L left :: O) w) {o : Oper} {d : Tmp} {X : Operand} (hgd : o.guard = none) (hd : o.dst = some d) (hdn : Nat.blt d n = true) (hop : o.op = .next X false)
    (hX : look env none X = some (.pointer (some ⟨r, 0, none⟩), []))
    (done : left = [] → ∀ act, Fr n ((d, .val (.tuple #[.bool false])) :: env) act → wpList P ops Q rest act w)
    (more : ∀ (x : κ) (v : ν) (left' : List (κ × ν)), left.Perm ((x, v) :: left') → (x, v) ∈ L → ∀ act w', Fr n ((d, .val (.tuple #[.bool true, fk x, fv v])) :: env) act → MemOk M w' → OwnOk base M (oI B r fk fv L left' :: O) w' → Keep (fun i => i = r) w w' →
      (Instr.entry (.pointer (some ⟨r, 0, none⟩))).run P w' = .ok (.tuple #[fk x, fv v]) w' → wpList P ops Q rest act w') : wpList P ops Q (o :: rest) a w := by
  have hown := hO.own _ (List.mem_cons_self ..)
  have hI := hown.2.2
  obtain ⟨es, clock, since, c0, seen, hb, hr, hold, hsc, hcl, hp, hl, he⟩ := hI.it
  have e1 : a.eval X = .pointer (some ⟨r, 0, none⟩) := look_sound hf (c := none) trivial hX trivial
  have hlt := hI.lt
  have hleft : (leftOf es seen).toList = es.toList.filter fun e => !seen.contains e.born := by
    unfold leftOf
    rw [Array.toList_filter]
  rcases run_next_at (P := P) w o.type r B since c0 seen es clock hr hb hold hsc with ⟨h0, hrun⟩ | ⟨e, hem, w1, hw1, hrun⟩
  · have hz : left = [] := by
      have h1 : (leftOf es seen).toList = [] := List.eq_nil_of_length_eq_zero (by simpa using h0)
      rw [hleft] at h1
      rw [h1] at hl
      exact List.map_eq_nil_iff.1 hl.symm
    refine wpList_plain hgd fun K' hK' => ?_
    refine wp_of_run (w2 := w) (v := .tuple #[.bool false]) (nx := .value (.tuple #[.bool false])) ?_ (.inl rfl) K' _ ?_
    · simp [execOp, hop, e1, hrun]
    · rw [hd]
      exact hK' _ _ (done hz _ (hf.putv (by simpa [Nat.blt_eq] using hdn) _))
  · rw [hleft] at hem
    obtain ⟨i, hi⟩ := List.getElem?_of_mem hem
    obtain ⟨q, hq, hqe⟩ := map_split hl hi
    obtain ⟨x, v⟩ := q
    simp only [Prod.mk.injEq] at hqe
    have hw1h : w1.heap = w.heap := by rcases hw1 with rfl | rfl <;> rfl
    have hk : Keep (fun j => j = r) w (setBlock w1 r (.mapIter (some B) since (seen.push e.born) clock)) := by
      have : Keep (fun j => j = r) w w1 := by
        rcases hw1 with rfl | rfl
        · exact Keep.refl _ _
        · exact (Keep.refl _ _).drew
      refine this.trans ⟨rfl, rfl, rfl, by simp [setBlock], Nat.le_refl _, fun j hj hn => ?_⟩
      have : ¬ r = j := fun e => hn e.symm
      simp [setBlock, Array.getElem?_setIfInBounds, this]
    have hk' : Keep (fun j => j ∈ (oI B r fk fv L left).B) w (setBlock w1 r (.mapIter (some B) since (seen.push e.born) clock)) := hk.mono fun j _ hj => by subst hj; simp [oI]
    have hB2 : (setBlock w1 r (.mapIter (some B) since (seen.push e.born) clock)).heap[B]? = some (.map es clock) := (hk.block B hI.map.lt (fun e => hI.ne e.symm)).trans hb
    have hr2 : (setBlock w1 r (.mapIter (some B) since (seen.push e.born) clock)).heap[r]? = some (.mapIter (some B) since (seen.push e.born) clock) := by
      simp [setBlock, hw1h, hlt]
    have hit : IterAt (setBlock w1 r (.mapIter (some B) since (seen.push e.born) clock)) B r fk fv L (left.eraseIdx i) :=
      ⟨hI.map.keep hk (fun e => hI.ne e.symm), hI.ne, ⟨es, clock, since, clock, seen.push e.born, hB2, hr2, hold, hcl, hcl, hp, by rw [filter_seen hp hi, ChangeMaps.map_eraseIdx, hl, ← ChangeMaps.map_eraseIdx], he⟩, (List.eraseIdx_sublist _ _).trans hI.sub⟩
    refine wpList_plain hgd fun K' hK' => ?_
    refine wp_of_run (v := .tuple #[.bool true, e.key, e.val]) (nx := .value (.tuple #[.bool true, e.key, e.val])) (w2 := setBlock w1 r (.mapIter (some B) since (seen.push e.born) clock)) ?_ (.inl rfl) K' _ ?_
    · simp [execOp, hop, e1, hrun]
    · rw [hd, hqe.1, hqe.2]
      refine hK' _ _ (more x v (left.eraseIdx i) ?_ (hI.sub.subset (List.mem_of_getElem? hq)) _ _ (hf.putv (by simpa [Nat.blt_eq] using hdn) _) (hO.memTurnB hM hk') (hO.turnS hk' (o' := oI B r fk fv L (left.eraseIdx i)) ⟨hown.1, hown.2.1, hit⟩ (List.Sublist.refl _)) hk ?_)
      · exact erase_perm hq
      · have := run_entry_at (P := P) (setBlock w1 r (.mapIter (some B) since (seen.push e.born) clock)) r B since seen es clock e hr2 hB2 (List.mem_filter.1 hem).1 (List.Pairwise.imp (fun h => Nat.ne_of_lt h) hp)
        rw [hqe.1, hqe.2] at this
        exact this
end
end Go.Px
