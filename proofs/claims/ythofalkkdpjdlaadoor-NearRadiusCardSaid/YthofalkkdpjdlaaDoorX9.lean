/- Slices: what stands in one; slices of one's own making; append; make; slice expressions. Nothing of any one program stands here. -/
import Derived.Test.YthofalkkdpjdlaaDoorX7
import Derived.Laws.OwnMore
namespace Go.Px
set_option linter.unusedVariables false
set_option linter.unusedSimpArgs false
set_option linter.unusedSectionVars false
open Go.RowKit

theorem add_block (A : Addr) (n : Nat) : (A.add n).block = A.block := by unfold Addr.add; split <;> rfl
theorem add_zero (A : Addr) : A.add 0 = A := rfl
theorem add_add (A : Addr) (m n : Nat) : (A.add m).add n = A.add (m + n) := by
  unfold Addr.add
  by_cases hm : m = 0
  · subst hm; simp
  · by_cases hn : n = 0
    · subst hn; simp
    · rw [if_neg hm, if_neg hn, if_neg (by omega)]
      simp [Nat.add_assoc]

/-- What stands in a slice's cells. -/
structure Arr (w : World) (sz : Nat) (a : Option Addr) (n c : Nat) (cs : List Value) : Prop where
  len : cs.length = n * sz
  some_ : 0 < n → a.isSome = true
  none_ : a = none → c = 0
  le : n ≤ c
  cell : ∀ j u, cs[j]? = some u → w.cell? ((sa a).add j) = some u

theorem Arr.keep {w w' : World} {sz n c : Nat} {a : Option Addr} {cs : List Value} {F : Nat → Prop} (h : Arr w sz a n c cs) (hk : Keep F w w') (hn : ∀ A, a = some A → ¬ F A.block) : Arr w' sz a n c cs := by
  refine ⟨h.len, h.some_, h.none_, h.le, fun j u hu => ?_⟩
  have h1 := h.cell j u hu
  have hlt : j < cs.length := (List.getElem?_eq_some_iff.1 hu).1
  have hn0 : 0 < n := by
    rcases Nat.eq_zero_or_pos n with h0 | h0
    · rw [h.len, h0] at hlt; simp at hlt
    · exact h0
  obtain ⟨A, hA⟩ := Option.isSome_iff_exists.1 (h.some_ hn0)
  refine hk.cell h1 ?_
  have e : ((sa a).add j).block = A.block := by rw [hA]; exact add_block _ _
  rw [e]
  exact hn A hA
theorem Arr.keepNn {w w' : World} {sz n c : Nat} {a : Option Addr} {cs : List Value} (h : Arr w sz a n c cs) (hk : Keep Nn w w') : Arr w' sz a n c cs := h.keep hk fun _ _ h => h

/-- The cells of a list's elements. -/
def flat {α : Type} (f : α → List Value) (l : List α) : List Value := l.flatMap f
theorem flat_nil {α : Type} (f : α → List Value) : flat f [] = [] := rfl
theorem flat_app {α : Type} (f : α → List Value) (l r : List α) : flat f (l ++ r) = flat f l ++ flat f r := by simp [flat]
theorem flat_one {α : Type} (f : α → List Value) (x : α) : flat f [x] = f x := by simp [flat]
theorem flat_cons {α : Type} (f : α → List Value) (x : α) (r : List α) : flat f (x :: r) = f x ++ flat f r := by simp [flat]
theorem flat_len {α : Type} {f : α → List Value} {sz : Nat} (hf : ∀ x, (f x).length = sz) : ∀ l : List α, (flat f l).length = l.length * sz
  | [] => by simp [flat]
  | x :: r => by rw [flat_cons, List.length_append, hf, flat_len hf r, List.length_cons, Nat.add_mul]; omega
theorem flat_get {α : Type} {f : α → List Value} {sz : Nat} (hf : ∀ x, (f x).length = sz) : ∀ {l : List α} {i k : Nat} {x : α}, l[i]? = some x → k < sz → (flat f l)[i * sz + k]? = (f x)[k]?
  | [], _, _, _, h, _ => by simp at h
  | y :: r, 0, k, x, h, hk => by
    simp only [List.getElem?_cons_zero, Option.some.injEq] at h
    subst h
    rw [flat_cons, List.getElem?_append_left (by rw [hf]; omega)]
    simp
  | y :: r, i + 1, k, x, h, hk => by
    simp only [List.getElem?_cons_succ] at h
    have e : (i + 1) * sz + k = sz + (i * sz + k) := by rw [Nat.add_mul]; omega
    rw [flat_cons, e, List.getElem?_append_right (by rw [hf]; omega), hf, show sz + (i * sz + k) - sz = i * sz + k by omega]
    exact flat_get hf h hk
theorem flat_drop {α : Type} {f : α → List Value} {sz : Nat} (hf : ∀ x, (f x).length = sz) : ∀ (l : List α) (n : Nat), (flat f l).drop (n * sz) = flat f (l.drop n)
  | [], n => by simp [flat]
  | x :: r, 0 => by simp
  | x :: r, n + 1 => by
    rw [flat_cons, show (n + 1) * sz = (f x).length + n * sz by rw [hf, Nat.add_mul]; omega, ← List.drop_drop, List.drop_left, flat_drop hf r n]
    rfl
theorem flat_take {α : Type} {f : α → List Value} {sz : Nat} (hf : ∀ x, (f x).length = sz) : ∀ (l : List α) (n : Nat), (flat f l).take (n * sz) = flat f (l.take n)
  | [], n => by simp [flat]
  | x :: r, 0 => by simp [flat]
  | x :: r, n + 1 => by
    rw [flat_cons, show (n + 1) * sz = (f x).length + n * sz by rw [hf, Nat.add_mul]; omega, List.take_length_add_append, flat_take hf r n]
    rfl
theorem getD_some {α : Type} {l : List α} {i : Nat} {d : α} (h : i < l.length) : l[i]? = some (l.getD i d) := by simp [List.getD_eq_getElem?_getD, h]

theorem Arr.get {α : Type} {f : α → List Value} {w : World} {sz n c : Nat} {a : Option Addr} {l : List α} {i k : Nat} {d : α} {v : Value} (h : Arr w sz a n c (flat f l)) (hf : ∀ x, (f x).length = sz) (hi : i < l.length) (hv : (f (l.getD i d))[k]? = some v) :
    w.cell? (((sa a).add (i * sz)).add k) = some v := by
  rw [add_add]
  refine h.cell _ _ ?_
  have hk : k < sz := by rw [← hf (l.getD i d)]; exact (List.getElem?_eq_some_iff.1 hv).1
  rw [flat_get hf (getD_some hi) hk]
  exact hv
theorem Arr.get0 {α : Type} {f : α → List Value} {w : World} {sz n c : Nat} {a : Option Addr} {l : List α} {i : Nat} {d : α} {v : Value} (h : Arr w sz a n c (flat f l)) (hf : ∀ x, (f x).length = sz) (hi : i < l.length) (hv : (f (l.getD i d))[0]? = some v) :
    w.cell? ((sa a).add (i * sz)) = some v := h.get hf hi hv

/-! ### Slices of one's own making -/
theorem own_of_block {w w' : World} {base : Nat} {e : TypeId} {sz n : Nat} {v : Value} {xs : List Value} (h : w.ownsRow base e sz v n xs) (hb : ∀ k, v.ownBlock = some k → w'.heap[k]? = w.heap[k]?) : w'.ownsRow base e sz v n xs := by
  refine ⟨h.1, ?_⟩
  rcases h.2 with h1 | ⟨g, cap, cur, rfl, h2, h3, h4⟩
  · exact .inl h1
  · exact .inr ⟨g, cap, cur, rfl, h2, (hb g rfl).trans h3, h4⟩
theorem own_base {w : World} {base base' : Nat} {e : TypeId} {sz n : Nat} {v : Value} {xs : List Value} (h : w.ownsRow base e sz v n xs) (hb : base' ≤ base) : w.ownsRow base' e sz v n xs := by
  refine ⟨h.1, ?_⟩
  rcases h.2 with h1 | ⟨g, cap, cur, rfl, h2, h3, h4⟩
  · exact .inl h1
  · exact .inr ⟨g, cap, cur, rfl, Nat.le_trans hb h2, h3, h4⟩
theorem own_shape {w : World} {base : Nat} {e : TypeId} {sz n : Nat} {v : Value} {xs : List Value} (h : w.ownsRow base e sz v n xs) : ∃ a c, v = .slice a n c := by
  rcases h.2 with ⟨rfl, rfl⟩ | ⟨g, cap, cur, rfl, _⟩
  · exact ⟨_, _, rfl⟩
  · exact ⟨_, _, rfl⟩
theorem own_arr {w : World} {base : Nat} {e : TypeId} {sz n c : Nat} {a : Option Addr} {xs : List Value} (h : w.ownsRow base e sz (.slice a n c) n xs) : Arr w sz a n c xs := by
  have hc := fun g hg => h.cells (g := g) hg
  rcases h.2 with ⟨h1, h2⟩ | ⟨g, cap, cur, h1, _, _, h4, _⟩
  · simp only [Value.slice.injEq] at h1
    obtain ⟨rfl, rfl, rfl⟩ := h1
    refine ⟨h.1, fun h => by omega, fun _ => rfl, Nat.le_refl _, fun j u hu => ?_⟩
    have := h.1
    have hlt := (List.getElem?_eq_some_iff.1 hu).1
    simp at this
    subst this
    simp at hlt
  · simp only [Value.slice.injEq] at h1
    obtain ⟨rfl, _, rfl⟩ := h1
    exact ⟨h.1, fun _ => rfl, (fun h => by cases h), h4, fun j u hu => hc g rfl j u hu⟩

/-- What is one's own: its blocks, and what is known of them. -/
structure Own where
  B : List Nat
  φ : Nat → World → Prop
  lt' : ∀ {b : Nat} {w : World}, φ b w → ∀ i ∈ B, b ≤ i ∧ i < w.heap.size
  stab : ∀ {b : Nat} {w w' : World} {F : Nat → Prop}, φ b w → Keep F w w' → (∀ i ∈ B, ¬ F i) → φ b w'
  low : ∀ {b c : Nat} {w : World}, φ b w → c ≤ b → φ c w
theorem subl_flatMap {α β : Type} {f : α → List β} : ∀ {l l' : List α}, l'.Sublist l → (l'.flatMap f).Sublist (l.flatMap f)
  | _, _, .slnil => List.Sublist.refl _
  | _, _, .cons a h => by
    rw [List.flatMap_cons]
    exact (subl_flatMap h).trans (List.sublist_append_right _ _)
  | _, _, .cons_cons a h => by
    rw [List.flatMap_cons, List.flatMap_cons]
    exact List.Sublist.append_left (subl_flatMap h) _
theorem mem_ob {v : Value} {i : Nat} : i ∈ v.ownBlock.toList ↔ v.ownBlock = some i := by simp
/-- A slice. -/
def oS (e : TypeId) (sz : Nat) (v : Value) (n : Nat) (xs : List Value) : Own where
  B := v.ownBlock.toList
  φ := fun b w => w.ownsRow b e sz v n xs
  lt' := fun h i hi => h.lt i (mem_ob.1 hi)
  stab := fun h hk hn => own_of_block h fun k hk' => hk.block k (h.lt k hk').2 (hn k (mem_ob.2 hk'))
  low := fun h hb => own_base h hb

structure OwnOk (base : Nat) (M : Mem) (O : List Own) (w : World) : Prop where
  own : ∀ o ∈ O, o.φ base w
  nd : (M.names ++ O.flatMap (·.B)).Nodup

section
variable {base : Nat} {M M' : Mem} {O O' : List Own} {w w' : World}

theorem OwnOk.nil (hM : MemOk M w) : OwnOk base M [] w := ⟨by simp, by simpa using hM.nd⟩
theorem OwnOk.ltB (h : OwnOk base M O w) {o : Own} (ho : o ∈ O) {k : Nat} (hk : k ∈ o.B) : base ≤ k ∧ k < w.heap.size := o.lt' (h.own o ho) k hk
theorem OwnOk.lt (h : OwnOk base M O w) {e : TypeId} {sz n : Nat} {v : Value} {xs : List Value} (ho : oS e sz v n xs ∈ O) {k : Nat} (hk : v.ownBlock = some k) : base ≤ k ∧ k < w.heap.size := h.ltB ho (mem_ob.2 hk)
theorem OwnOk.apartB (h : OwnOk base M O w) {o : Own} (ho : o ∈ O) {k : Nat} (hk : k ∈ o.B) : ¬ k ∈ M.names := fun hm =>
  (List.nodup_append.1 h.nd).2.2 k hm k (List.mem_flatMap.2 ⟨o, ho, hk⟩) rfl
theorem OwnOk.apart (h : OwnOk base M O w) {e : TypeId} {sz n : Nat} {v : Value} {xs : List Value} (ho : oS e sz v n xs ∈ O) {k : Nat} (hk : v.ownBlock = some k) : ¬ k ∈ M.names := h.apartB ho (mem_ob.2 hk)
theorem OwnOk.step (h : OwnOk base M O w) (hM' : MemOk M' w') (hk : Keep (Is M.names) w w') (hn : ∀ k ∈ M'.names, k ∈ M.names ∨ w.heap.size ≤ k) : OwnOk base M' O w' := by
  refine ⟨fun o ho => o.stab (h.own o ho) hk fun k hk' => h.apartB ho hk', List.nodup_append.2 ⟨hM'.nd, (List.nodup_append.1 h.nd).2.1, fun a ha b hb e => ?_⟩⟩
  subst e
  obtain ⟨o, ho, hb⟩ := List.mem_flatMap.1 hb
  rcases hn a ha with h1 | h1
  · exact h.apartB ho hb h1
  · have := (h.ltB ho hb).2
    omega
theorem OwnOk.keepNn (h : OwnOk base M O w) (hk : Keep Nn w w') : OwnOk base M O w' :=
  ⟨fun o ho => o.stab (h.own o ho) hk fun _ _ h => h, h.nd⟩
theorem OwnOk.keepIs {S : List Nat} (h : OwnOk base M O w) (hk : Keep (Is S) w w') (hS : ∀ k ∈ S, k ∈ M.names) : OwnOk base M O w' :=
  ⟨fun o ho => o.stab (h.own o ho) hk fun k hk' hs => h.apartB ho hk' (hS k hs), h.nd⟩
theorem OwnOk.drew (h : OwnOk base M O w) : OwnOk base M O w.drew := h.keepNn (Keep.refl Nn w).drew
theorem OwnOk.sub (h : OwnOk base M O w) (hM : M'.Sublist M) (hO : O'.Sublist O) : OwnOk base M' O' w :=
  ⟨fun o ho => h.own o (hO.subset ho), h.nd.sublist ((hM.map _).append (subl_flatMap hO))⟩
theorem OwnOk.front {l1 l2 : List Own} {o : Own} (h : OwnOk base M (l1 ++ o :: l2) w) : OwnOk base M (o :: (l1 ++ l2)) w := by
  have hp : (l1 ++ o :: l2).Perm (o :: (l1 ++ l2)) := List.perm_middle
  exact ⟨fun o' ho => h.own o' (hp.mem_iff.2 ho), ((hp.flatMap_right _).append_left _).nodup_iff.1 h.nd⟩
theorem OwnOk.none (h : OwnOk base M O w) (e : TypeId) (sz : Nat) : OwnOk base M (oS e sz (.slice none 0 0) 0 [] :: O) w := by
  refine ⟨fun o ho => ?_, by simpa [oS, Value.ownBlock] using h.nd⟩
  rcases List.mem_cons.1 ho with rfl | ho
  · exact World.ownsRow_nil _ _ _ _
  · exact h.own o ho
/-- One more, that a call has made. -/
theorem OwnOk.moreB (h : OwnOk base M O w) (hM : MemOk M w) (hk : Keep Nn w w') (hb : base ≤ w.heap.size) {o : Own} (hx : o.φ w.heap.size w') (hd : o.B.Nodup) : OwnOk base M (o :: O) w' := by
  refine ⟨fun o' ho => ?_, ?_⟩
  · rcases List.mem_cons.1 ho with rfl | ho
    · exact o'.low hx hb
    · exact (h.keepNn hk).own o' ho
  · have hge : ∀ i ∈ o.B, w.heap.size ≤ i := fun i hi => (o.lt' hx i hi).1
    have h1 := List.nodup_append.1 h.nd
    refine List.nodup_append.2 ⟨hM.nd, List.nodup_append.2 ⟨hd, h1.2.1, fun a ha b hb e => ?_⟩, fun a ha b hb e => ?_⟩
    · subst e
      obtain ⟨o', ho', hb'⟩ := List.mem_flatMap.1 hb
      have h2 := (h.ltB ho' hb').2
      have h3 := hge a ha
      omega
    · subst e
      rcases List.mem_append.1 hb with hb | hb
      · have h2 := hM.lt ha
        have h3 := hge a hb
        omega
      · exact h1.2.2 a ha a hb rfl
theorem ob_nd (v : Value) : v.ownBlock.toList.Nodup := by cases v.ownBlock <;> simp
theorem OwnOk.more (h : OwnOk base M O w) (hM : MemOk M w) (hk : Keep Nn w w') (hb : base ≤ w.heap.size) {e : TypeId} {sz n : Nat} {v : Value} {xs : List Value} (hx : w'.ownsRow w.heap.size e sz v n xs) :
    OwnOk base M (oS e sz v n xs :: O) w' := h.moreB hM hk hb (o := oS e sz v n xs) hx (ob_nd v)
/-- The first one has turned. -/
theorem OwnOk.turnB {o o' : Own} (h : OwnOk base M (o :: O) w) (hM : MemOk M w) (hk : Keep (fun i => i ∈ o.B) w w') (hx : o'.φ base w') (hB : ∀ i ∈ o'.B, i ∈ o.B ∨ w.heap.size ≤ i) (hd : o'.B.Nodup) : OwnOk base M (o' :: O) w' := by
  have h1 := List.nodup_append.1 h.nd
  have h2 := List.nodup_append.1 h1.2.1
  refine ⟨fun p hp => ?_, List.nodup_append.2 ⟨h1.1, List.nodup_append.2 ⟨hd, h2.2.1, fun a ha b hb e => ?_⟩, fun a ha b hb e => ?_⟩⟩
  · rcases List.mem_cons.1 hp with rfl | hp
    · exact hx
    · exact p.stab (h.own p (List.mem_cons_of_mem _ hp)) hk fun i hi hio => h2.2.2 i hio i (List.mem_flatMap.2 ⟨p, hp, hi⟩) rfl
  · subst e
    obtain ⟨p, hp, hb'⟩ := List.mem_flatMap.1 hb
    rcases hB a ha with h3 | h3
    · exact h2.2.2 a h3 a hb rfl
    · have h4 := (h.ltB (List.mem_cons_of_mem _ hp) hb').2
      omega
  · subst e
    rcases List.mem_append.1 hb with hb | hb
    · rcases hB a hb with h3 | h3
      · exact h1.2.2 a ha a (List.mem_append.2 (.inl h3)) rfl
      · have h4 := hM.lt ha
        omega
    · exact h1.2.2 a ha a (List.mem_append.2 (.inr hb)) rfl
/-- .. in no other blocks. -/
theorem OwnOk.turnS {o o' : Own} (h : OwnOk base M (o :: O) w) (hk : Keep (fun i => i ∈ o.B) w w') (hx : o'.φ base w') (hB : o'.B.Sublist o.B) : OwnOk base M (o' :: O) w' := by
  have h1 := List.nodup_append.1 h.nd
  have h2 := List.nodup_append.1 h1.2.1
  refine ⟨fun p hp => ?_, h.nd.sublist (List.Sublist.append_left (hB.append (List.Sublist.refl _)) _)⟩
  rcases List.mem_cons.1 hp with rfl | hp
  · exact hx
  · exact p.stab (h.own p (List.mem_cons_of_mem _ hp)) hk fun i hi hio => h2.2.2 i hio i (List.mem_flatMap.2 ⟨p, hp, hi⟩) rfl
theorem OwnOk.turn {e : TypeId} {sz n : Nat} {v : Value} {xs xs' : List Value} (h : OwnOk base M (oS e sz v n xs :: O) w) (hk : Keep (fun i => v.ownBlock = some i) w w') (hx : w'.ownsRow base e sz v n xs') : OwnOk base M (oS e sz v n xs' :: O) w' :=
  h.turnS (hk.mono fun i _ hi => mem_ob.2 hi) (o' := oS e sz v n xs') hx (List.Sublist.refl _)
theorem OwnOk.memTurnB {o : Own} (h : OwnOk base M (o :: O) w) (hM : MemOk M w) (hk : Keep (fun i => i ∈ o.B) w w') : MemOk M w' :=
  hM.keep hk fun i hi hv => h.apartB (List.mem_cons_self ..) hv hi
theorem OwnOk.memTurn {e : TypeId} {sz n : Nat} {v : Value} {xs : List Value} (h : OwnOk base M (oS e sz v n xs :: O) w) (hM : MemOk M w) (hk : Keep (fun i => v.ownBlock = some i) w w') : MemOk M w' :=
  hM.keep hk fun i hi hv => h.apart (List.mem_cons_self ..) hv hi
/-- A known block becomes a slice of one's own. -/
theorem OwnOk.took {M1 M2 : Mem} {B : Nat} {e : TypeId} {cs : List Value} (h : OwnOk base (M1 ++ ⟨B, e, cs⟩ :: M2) O w) (hM : MemOk (M1 ++ ⟨B, e, cs⟩ :: M2) w) (hb : base ≤ B) {n c sz : Nat} (hn : n ≤ c) (hc : c ≤ maxLen) (hl : cs.length = c * sz) :
    OwnOk base (M1 ++ M2) (oS e sz (.slice (some ⟨B, 0, .none⟩) n c) n (cs.take (n * sz)) :: O) w := by
  refine ⟨fun o ho => ?_, ?_⟩
  · rcases List.mem_cons.1 ho with rfl | ho
    · refine ⟨?_, .inr ⟨B, c, cs.toArray, rfl, hb, hM.at_ ⟨B, e, cs⟩ (by simp), hn, hc, by simpa using hl, by simp⟩⟩
      rw [List.length_take, hl]
      exact Nat.min_eq_left (Nat.mul_le_mul_right _ hn)
    · exact h.own o ho
  · have hp : ((M1 ++ M2).names ++ B :: O.flatMap (·.B)).Perm ((M1 ++ ⟨B, e, cs⟩ :: M2).names ++ O.flatMap (·.B)) := by
      simp only [Mem.names, List.map_append, List.map_cons, List.append_assoc, List.cons_append]
      refine List.Perm.append_left _ ?_
      exact List.perm_middle
    exact hp.nodup_iff.2 h.nd
end

section
variable {P : Program} {w : World} {base : Nat} {t ty e : TypeId} {sz by_ : Nat}

theorem append_own (ht : P.underlying t = some (.slice e)) (hi : (P.info? e).map (fun i => (i.size, i.bytes, i.zero.map (·.cells.size))) = some (sz, by_, some sz)) (hsz : 0 < sz)
    {v : Value} {k : Nat} {xs : List Value} (hown : w.ownsRow base e sz v k xs) {a : Option Addr} {m c : Nat} {news : List Value} (hsrc : Arr w sz a m c news) (h1 : ∀ u ∈ news, u.oneCell' = true)
    (h63 : k + m ≤ maxLen) (hbytes : (k + m) * by_ ≤ 140737488355328) (hb : base ≤ w.heap.size) :
    ∃ av cv w', (Builtin.append_ #[t, t] ty #[v, .slice a m c]).run P w = .ok (.slice av (k + m) cv) w' ∧ w'.ownsRow base e sz (.slice av (k + m) cv) (k + m) (xs ++ news) ∧ w.grownBy w' v.ownBlock ∧ w.drawn ≤ w'.drawn ∧
      (Value.ownBlock (.slice av (k + m) cv) = v.ownBlock ∨ ∀ b, Value.ownBlock (.slice av (k + m) cv) = some b → w.heap.size ≤ b) := by
  obtain ⟨i, hi1, hi2⟩ := Option.map_eq_some_iff.1 hi
  simp only [Prod.mk.injEq] at hi2
  obtain ⟨h2, h3, h4⟩ := hi2
  obtain ⟨z, hz, hzs⟩ := Option.map_eq_some_iff.1 h4
  cases a with
  | none =>
    obtain rfl : c = 0 := hsrc.none_ rfl
    obtain rfl : m = 0 := by have := hsrc.le; omega
    obtain rfl : news = [] := List.eq_nil_of_length_eq_zero (by simpa using hsrc.len)
    have hr := run_append_owned_none (P := P) w base t ty e i sz ht hi1 v k xs hown
    obtain ⟨av, cv, rfl⟩ := own_shape hown
    exact ⟨av, cv, w, by simpa using hr, by simpa using hown, ⟨rfl, rfl, rfl, Nat.le_refl _, fun _ _ _ => rfl⟩, Nat.le_refl _, .inl rfl⟩
  | some A =>
    obtain ⟨v', w', hr, ho, hg, hnil⟩ := run_append_own (P := P) w base t ty e i z sz by_ ht hi1 hz h2 h3 hzs hsz v k xs hown A m c news hsrc.len (fun j u hu => hsrc.cell j u hu) h1 h63 hbytes hb
    obtain ⟨av, cv, rfl⟩ := own_shape ho
    refine ⟨av, cv, w', hr, ho, hg, ?_⟩
    have hin : w.heap.size ≤ w.heap.size := Nat.le_refl _
    have h63' : ((k + m : Nat) : Int) ≤ 9223372036854775807 := by simp only [maxLen] at h63; omega
    subst h2 h3
    rcases hown.2 with ⟨rfl, rfl⟩ | ⟨g, cap, cur, rfl, hbg, hgc, hnc, hcm, hcs, htake⟩
    · rcases Nat.eq_zero_or_pos m with rfl | hm
      · have := hnil.2 ⟨rfl, rfl⟩
        simp only [Value.slice.injEq] at this
        obtain ⟨rfl, _, rfl⟩ := this
        obtain rfl : news = [] := List.eq_nil_of_length_eq_zero (by simpa using hsrc.len)
        have hr' : (Builtin.append_ #[t, t] ty #[.slice none 0 0, .slice (some A) 0 c]).run P w = .ok (.slice none 0 0) w := by
          simp [Builtin.append_, run_underlying ht, sizeOf, typeInfo, hi1, Builtin.lenOf, Builtin.firstCells, loadCells, loadCellsFrom]
        rw [hr'] at hr
        simp only [Result.ok.injEq] at hr
        obtain ⟨_, rfl⟩ := hr
        exact ⟨Nat.le_refl _, .inl rfl⟩
      · have hr' := run_append_nil (P := P) w t ty e i z ht hi1 hz A m c news hsrc.len (fun j u hu => hsrc.cell j u hu) hm (by omega) (by have := hbytes; simp only [Nat.zero_add] at this; omega)
        rw [hr'] at hr
        simp only [Result.ok.injEq, Value.slice.injEq] at hr
        obtain ⟨⟨rfl, _⟩, rfl⟩ := hr
        exact ⟨Nat.le_succ _, .inr fun b hb => by simp only [Value.ownBlock, Option.some.injEq] at hb; omega⟩
    · by_cases hroom : k + m ≤ cap
      · have hr' := run_append_room (P := P) w t ty e i ht hi1 g k cap cur hgc A m c news hsrc.len (fun j u hu => hsrc.cell j u hu) h1 hroom (by rw [hsrc.len, hcs, ← Nat.add_mul]; exact Nat.mul_le_mul_right _ hroom)
        rw [hr'] at hr
        simp only [Result.ok.injEq, Value.slice.injEq] at hr
        obtain ⟨⟨rfl, _⟩, rfl⟩ := hr
        exact ⟨Nat.le_refl _, .inl rfl⟩
      · have hr' := run_append_grow (P := P) w t ty e i z ht hi1 hz ⟨g, 0, none⟩ k cap xs hown.1 (hown.cells (g := g) rfl) A m c news hsrc.len (fun j u hu => hsrc.cell j u hu) (by omega) h63' (growslice_fits (by omega) hbytes)
        rw [hr'] at hr
        simp only [Result.ok.injEq, Value.slice.injEq] at hr
        obtain ⟨⟨rfl, _⟩, rfl⟩ := hr
        exact ⟨Nat.le_succ _, .inr fun b hb => by simp only [Value.ownBlock, Option.some.injEq] at hb; omega⟩
end

section
variable {P : Program} {ops : Array Oper} {n : Nat} {Q : Exit → Act → World → Prop} {rest : List Oper} {env : Env} {M : Mem} {O : List Own} {a : Act} {w : World} {base : Nat}

theorem ox_append {ρ : Operand → Value} {o : Oper} {s x : Operand} {t : TypeId} {v : Value} {w' : World} (hop : o.op = .call { callee := .builtin .append, args := #[s, x], argTypes := #[t, t] })
    (hr : (Builtin.append_ #[t, t] o.type #[ρ s, ρ x]).run P w = .ok v w') : (execOp ρ o).run P w = .ok (.value v) w' := by
  simp [execOp, hop, resolve, invoke, builtin, hr]

/-- 'append' to a slice of one's own. -/
theorem sxappend (hf : Fr n env a) (hM : MemOk M w) {e : TypeId} {sz by_ k : Nat} {v : Value} {xs : List Value} (hO : OwnOk base M (oS e sz v k xs :: O) w) {o : Oper} {d : Tmp} {s x : Operand} {t : TypeId}
    (hgd : o.guard = none) (hd : o.dst = some d) (hdn : Nat.blt d n = true) (hop : o.op = .call { callee := .builtin .append, args := #[s, x], argTypes := #[t, t] })
    {av : Option Addr} {m c : Nat} (hs : look env none s = some (v, [])) (hx : look env none x = some (.slice av m c, []))
    (ht : P.underlying t = some (.slice e)) (hi : (P.info? e).map (fun i => (i.size, i.bytes, i.zero.map (·.cells.size))) = some (sz, by_, some sz)) (hsz : Nat.blt 0 sz = true)
    {news : List Value} (hsrc : Arr w sz av m c news) (h1 : ∀ u ∈ news, u.oneCell' = true) (h63 : k + m ≤ maxLen ∧ (k + m) * by_ ≤ 140737488355328) (hb : base ≤ w.heap.size)
    (kont : ∀ act w' av' c', Fr n ((d, .val (.slice av' (k + m) c')) :: env) act → MemOk M w' → OwnOk base M (oS e sz (.slice av' (k + m) c') (k + m) (xs ++ news) :: O) w' → Keep (fun i => base ≤ i ∧ ¬ i ∈ M.names) w w' → wpList P ops Q rest act w') :
    wpList P ops Q (o :: rest) a w := by
  have hown : w.ownsRow base e sz v k xs := hO.own _ (List.mem_cons_self ..)
  obtain ⟨av', c', w', hr, ho, hg, hdr, hfr⟩ := append_own (ty := o.type) ht hi (by simpa [Nat.blt_eq] using hsz) hown hsrc h1 h63.1 h63.2 hb
  have hk : Keep (fun i => v.ownBlock = some i) w w' := Keep.of_grownBy hg hdr
  have hap : ∀ i, v.ownBlock = some i → ¬ i ∈ M.names := fun i hi => hO.apart (List.mem_cons_self ..) hi
  have hM' : MemOk M w' := hM.keep hk fun i hi hv => hap i hv hi
  refine wpList_plain hgd fun K hK => ?_
  refine wp_of_run (w2 := w') (v := .slice av' (k + m) c') (nx := .value (.slice av' (k + m) c')) ?_ (.inl rfl) K Q ?_
  · refine ox_append hop ?_
    have e1 : a.eval s = v := look_sound hf (c := none) trivial hs trivial
    have e2 : a.eval x = .slice av m c := look_sound hf (c := none) trivial hx trivial
    rw [e1, e2]
    exact hr
  rw [hd]
  refine hK _ _ (kont _ w' av' c' (hf.putv (by simpa [Nat.blt_eq] using hdn) _) hM' (hO.turnB hM (hk.mono fun i _ hi => mem_ob.2 hi) (o' := oS e sz (.slice av' (k + m) c') (k + m) (xs ++ news)) ho (fun i hi => ?_) (ob_nd _)) (hk.mono fun i _ hv => ⟨(hown.lt i hv).1, hap i hv⟩))
  rcases hfr with hs' | hs'
  · exact .inl (mem_ob.2 (hs' ▸ mem_ob.1 hi))
  · exact .inr (hs' i (mem_ob.1 hi))

/-- n times the zero value's cells. -/
def reps (n : Nat) (zs : List Value) : List Value := (List.replicate n zs).flatten
theorem reps_len (n : Nat) (zs : List Value) : (reps n zs).length = n * zs.length := by
  induction n with
  | zero => simp [reps]
  | succ n ih => simp only [reps, List.replicate_succ, List.flatten_cons, List.length_append] at *; rw [ih, Nat.add_mul]; omega
theorem reps_get {n : Nat} {zs : List Value} : ∀ {j : Nat}, j < n * zs.length → (reps n zs)[j]? = zs[j % zs.length]? := by
  induction n with
  | zero => intro j h; simp at h
  | succ n ih =>
    intro j h
    have e : reps (n + 1) zs = zs ++ reps n zs := by simp [reps, List.replicate_succ]
    rw [e]
    rcases Nat.lt_or_ge j zs.length with h1 | h1
    · rw [List.getElem?_append_left h1, Nat.mod_eq_of_lt h1]
    · rw [List.getElem?_append_right h1, ih (by rw [Nat.add_mul] at h; omega)]
      congr 1
      rw [← Nat.mod_eq_sub_mod h1]

theorem made_reps (z : Array Value) (n : Nat) : (madeCells z (n * z.size)).toList = reps n z.toList := by
  refine List.ext_getElem? fun j => ?_
  have hl : (madeCells z (n * z.size)).toList.length = n * z.size := by simp [madeCells]
  rcases Nat.lt_or_ge j (n * z.size) with h | h
  · rw [reps_get (by simpa using h)]
    have hz : 0 < z.size := by
      rcases Nat.eq_zero_or_pos z.size with h0 | h0
      · rw [h0] at h; simp at h
      · exact h0
    have hm : j % z.size < z.size := Nat.mod_lt _ hz
    simp [madeCells, h, hm]
  · rw [List.getElem?_eq_none (by rw [hl]; exact h), List.getElem?_eq_none (by rw [reps_len]; simpa using h)]

/-- 'make' of a slice: a new block. -/
theorem sxmake (hf : Fr n env a) (hM : MemOk M w) {o : Oper} {d : Tmp} {t e : TypeId} {L C : Operand} {kl kc : IntKind} {l c : Int} {by_ : Nat} {zs : List Value} (hgd : o.guard = none) (hd : o.dst = some d) (hdn : Nat.blt d n = true)
    (hop : o.op = .makeSlice t L C) (hL : look env none L = some (.int kl l, [])) (hC : look env none C = some (.int kc c, []))
    (ht : P.underlying t = some (.slice e)) (hi : (P.info? e).map (fun i => (i.size, i.bytes, i.zero.map (·.cells.toList))) = some (zs.length, by_, some zs))
    (hb : 0 ≤ l ∧ l ≤ c ∧ c ≤ 9223372036854775807 ∧ (by_ : Int) * c ≤ 281474976710656)
    (k : ∀ a w' B, Fr n ((d, .val (.slice (some ⟨B, 0, none⟩) l.toNat c.toNat)) :: env) a → MemOk (M ++ [⟨B, e, reps c.toNat zs⟩]) w' → w.heap.size = B → Keep Nn w w' → wpList P ops Q rest a w') : wpList P ops Q (o :: rest) a w := by
  obtain ⟨i, hi1, hi2⟩ := Option.map_eq_some_iff.1 hi
  simp only [Prod.mk.injEq] at hi2
  obtain ⟨h2, h3, h4⟩ := hi2
  obtain ⟨z, hz, hzs⟩ := Option.map_eq_some_iff.1 h4
  subst h3
  refine sxnew hf hM (v := fun B => .slice (some ⟨B, 0, none⟩) l.toNat c.toNat) (cs := reps c.toNat zs) (t := e) hgd hd hdn ?_ k
  have e1 : a.eval L = .int kl l := look_sound hf (c := none) trivial hL trivial
  have e2 : a.eval C = .int kc c := look_sound hf (c := none) trivial hC trivial
  have hr := run_make (P := P) w t e i z ht hi1 hz kl kc l c hb.1 hb.2.1 hb.2.2.2 hb.2.2.1
  have e3 : (madeCells z.cells (c.toNat * i.size)) = (reps c.toNat zs).toArray := by
    apply Array.ext'
    have : i.size = z.cells.size := by rw [h2, ← hzs]; simp
    rw [this, made_reps, hzs]
  rw [e3] at hr
  simp only [execOp, hop, e1, e2, Sem.run_bind, hr, Result.andThen_ok, Sem.run_pure]
  rfl

/-- 'append' to a known block, where it has room. -/
theorem sxappendM (hf : Fr n env a) {M1 M2 : Mem} {B : Nat} {e : TypeId} {cs : List Value} (hM : MemOk (M1 ++ ⟨B, e, cs⟩ :: M2) w) {o : Oper} {d : Tmp} {s x : Operand} {t : TypeId} {sz by_ k cap : Nat}
    (hgd : o.guard = none) (hd : o.dst = some d) (hdn : Nat.blt d n = true) (hop : o.op = .call { callee := .builtin .append, args := #[s, x], argTypes := #[t, t] })
    {av : Option Addr} {m c : Nat} (hs : look env none s = some (.slice (some ⟨B, 0, none⟩) k cap, [])) (hx : look env none x = some (.slice av m c, []))
    (ht : P.underlying t = some (.slice e)) (hi : (P.info? e).map (fun i => (i.size, i.bytes, i.zero.map (·.cells.size))) = some (sz, by_, some sz))
    {news : List Value} (hsrc : Arr w sz av m c news) (h1 : ∀ u ∈ news, u.oneCell' = true) (hl : cs.length = cap * sz) (hroom : k + m ≤ cap ∧ cap ≤ maxLen)
    (kont : ∀ act w', Fr n ((d, .val (.slice (some ⟨B, 0, none⟩) (k + m) cap)) :: env) act → MemOk (M1 ++ ⟨B, e, cs.take (k * sz) ++ news ++ cs.drop (k * sz + news.length)⟩ :: M2) w' → Keep (Is [B]) w w' → wpList P ops Q rest act w') :
    wpList P ops Q (o :: rest) a w := by
  obtain ⟨i, hi1, hi2⟩ := Option.map_eq_some_iff.1 hi
  simp only [Prod.mk.injEq] at hi2
  obtain ⟨h2, h3, h4⟩ := hi2
  have e1 : a.eval s = .slice (some ⟨B, 0, none⟩) k cap := look_sound hf (c := none) trivial hs trivial
  have e2 : a.eval x = .slice av m c := look_sound hf (c := none) trivial hx trivial
  have hblk : w.heap[B]? = some (.cells cs.toArray e (0, 0)) := hM.at_ ⟨B, e, cs⟩ (by simp)
  have hnd := hM.nd
  have hlt : B < w.heap.size := hM.lt (by simp [Mem.names])
  obtain ⟨w', hr, hb', hk⟩ : ∃ w', (Builtin.append_ #[t, t] o.type #[.slice (some ⟨B, 0, none⟩) k cap, .slice av m c]).run P w = .ok (.slice (some ⟨B, 0, none⟩) (k + m) cap) w' ∧
      w'.heap[B]? = some (.cells (cs.take (k * sz) ++ news ++ cs.drop (k * sz + news.length)).toArray e (0, 0)) ∧ Keep (Is [B]) w w' := by
    cases av with
    | none =>
      obtain rfl : c = 0 := hsrc.none_ rfl
      obtain rfl : m = 0 := by have := hsrc.le; omega
      obtain rfl : news = [] := List.eq_nil_of_length_eq_zero (by simpa using hsrc.len)
      refine ⟨w, ?_, by simpa using hblk, Keep.refl _ _⟩
      have hown : w.ownsRow 0 e sz (.slice (some ⟨B, 0, none⟩) k cap) k (cs.take (k * sz)) := by
        refine ⟨?_, .inr ⟨B, cap, cs.toArray, rfl, Nat.zero_le _, hblk, by have := hroom.1; omega, hroom.2, by simpa using hl, by simp⟩⟩
        rw [List.length_take, hl]
        exact Nat.min_eq_left (Nat.mul_le_mul_right _ (by have := hroom.1; omega))
      simpa using run_append_owned_none (P := P) w 0 t o.type e i sz ht hi1 _ k _ hown
    | some A =>
      have hlen : k * i.size + news.length ≤ cs.toArray.size := by
        rw [hsrc.len, h2, ← Nat.add_mul]
        simp only [List.size_toArray, hl]
        exact Nat.mul_le_mul_right _ hroom.1
      have hr := run_append_room (P := P) w t o.type e i ht hi1 B k cap cs.toArray hblk A m c news (by rw [h2]; exact hsrc.len) (fun j u hu => hsrc.cell j u hu) h1 hroom.1 hlen
      refine ⟨_, hr, ?_, ⟨rfl, rfl, rfl, by simp, Nat.le_refl _, fun k' hk' hn => setRow_other w B k' _ (fun e => hn (by simp [Is, e]))⟩⟩
      rw [setRow_heap w B cs.toArray _ e _ hblk, h2]
  refine wpList_plain hgd fun K hK => ?_
  refine wp_of_run (w2 := w') (v := .slice (some ⟨B, 0, none⟩) (k + m) cap) (nx := .value (.slice (some ⟨B, 0, none⟩) (k + m) cap)) (by refine ox_append hop ?_; rw [e1, e2]; exact hr) (.inl rfl) K Q ?_
  rw [hd]
  refine hK _ _ (kont _ w' (hf.putv (by simpa [Nat.blt_eq] using hdn) _) ⟨fun b hb => ?_, by simpa [Mem.names] using hnd⟩ hk)
  have hne : ∀ b' ∈ M1 ++ M2, b'.g ≠ B := fun b' hb' he => by
    have hp : (M1 ++ ⟨B, e, cs⟩ :: M2 : Mem).names.Perm (B :: (M1 ++ M2 : Mem).names) := by
      simp only [Mem.names, List.map_append, List.map_cons]
      exact List.perm_middle
    have := hp.nodup_iff.1 hnd
    rw [List.nodup_cons] at this
    exact this.1 (by rw [← he]; exact List.mem_map.2 ⟨b', hb', rfl⟩)
  rcases List.mem_append.1 hb with hb | hb
  · exact hk.obj (hM.at_ b (by simp [hb])) (fun h => hne b (by simp [hb]) (by simpa [Is] using h))
  · rcases List.mem_cons.1 hb with rfl | hb
    · exact hb'
    · exact hk.obj (hM.at_ b (by simp [hb])) (fun h => hne b (by simp [hb]) (by simpa [Is] using h))
end

/-! ### Parts of slices -/
section
variable {P : Program} {w : World}

theorem Arr.of_mem {M : Mem} {B e : Nat} {cs : List Value} {n c sz : Nat} (hM : MemOk M w) (hb : ⟨B, e, cs⟩ ∈ M) (hl : cs.length = c * sz) (hn : n ≤ c) : Arr w sz (some ⟨B, 0, none⟩) n c (cs.take (n * sz)) := by
  refine ⟨?_, fun _ => rfl, (fun h => by cases h), hn, fun j u hu => ?_⟩
  · rw [List.length_take, hl]
    exact Nat.min_eq_left (Nat.mul_le_mul_right _ hn)
  · have hj : j < n * sz ∧ cs[j]? = some u := by
      rw [List.getElem?_take] at hu
      split at hu
      · exact ⟨by assumption, hu⟩
      · cases hu
    have h1 := hM.at_ _ hb
    have e1 : (sa (some ⟨B, 0, none⟩)).add j = ⟨B, j, none⟩ := by
      show (⟨B, 0, none⟩ : Addr).add j = _
      unfold Addr.add
      split
      · rename_i h; rw [h]
      · simp
    rw [e1]
    simp only [World.cell?, h1]
    simpa using hj.2
theorem Arr.take {sz n c m : Nat} {a : Option Addr} {cs : List Value} (h : Arr w sz a n c cs) (hm : m ≤ n) : Arr w sz a m c (cs.take (m * sz)) := by
  refine ⟨?_, fun h0 => h.some_ (by omega), h.none_, by have := h.le; omega, fun j u hu => ?_⟩
  · rw [List.length_take, h.len]
    exact Nat.min_eq_left (Nat.mul_le_mul_right _ hm)
  · rw [List.getElem?_take] at hu
    split at hu
    · exact h.cell j u hu
    · cases hu
theorem Arr.drop {sz n c m : Nat} {a : Option Addr} {cs : List Value} (h : Arr w sz a n c cs) (hm : m ≤ n) : Arr w sz (cutA a m c sz) (n - m) (c - m) (cs.drop (m * sz)) := by
  refine ⟨?_, fun h0 => ?_, fun h0 => ?_, by have := h.le; omega, fun j u hu => ?_⟩
  · rw [List.length_drop, h.len, Nat.sub_mul]
  · have h1 := h.some_ (by omega)
    unfold cutA
    split
    · exact h1
    · simpa using h1
  · unfold cutA at h0
    split at h0
    · have := h.none_ h0; omega
    · have := h.none_ (by simpa using h0); omega
  · rw [List.getElem?_drop] at hu
    have h1 := h.cell _ u hu
    have hlt := (List.getElem?_eq_some_iff.1 hu).1
    rw [h.len] at hlt
    have hne : ¬ c = m := fun e => by
      have h2 : n = m := by have := h.le; omega
      rw [h2] at hlt
      omega
    have hs : a.isSome = true := h.some_ (by
      rcases Nat.eq_zero_or_pos n with h0 | h0
      · rw [h0] at hlt; simp at hlt
      · exact h0)
    obtain ⟨A, rfl⟩ := Option.isSome_iff_exists.1 hs
    have e1 : sa (cutA (some A) m c sz) = A.add (m * sz) := by simp [cutA, hne, sa]
    rw [e1, add_add]
    exact h1

end

theorem Arr.none_nil (w : World) (sz : Nat) : Arr w sz none 0 0 [] := ⟨by simp, fun h => by omega, fun _ => rfl, Nat.le_refl _, fun j u h => by simp at h⟩
theorem Arr.of_memT {α : Type} {f : α → List Value} {w : World} {M : Mem} {B e c sz : Nat} {L l : List α} (hM : MemOk M w) (hb : ⟨B, e, flat f L⟩ ∈ M) (hf : ∀ x, (f x).length = sz) (hl : L.take l.length = l) (hc : L.length = c) :
    Arr w sz (some ⟨B, 0, none⟩) l.length c (flat f l) := by
  have h1 : l.length ≤ c := by
    have := congrArg List.length hl
    rw [List.length_take] at this
    omega
  have h := Arr.of_mem (n := l.length) (c := c) (sz := sz) hM hb (by rw [flat_len hf, hc]) h1
  rw [flat_take hf, hl] at h
  exact h
theorem flat_one1 {α : Type} {f : α → List Value} (hf : ∀ x, ∀ u ∈ f x, u.oneCell' = true) {l : List α} : ∀ u ∈ flat f l, u.oneCell' = true := by
  intro u hu
  obtain ⟨x, _, hx⟩ := List.mem_flatMap.1 hu
  exact hf x u hx
theorem reps_flat {α : Type} {f : α → List Value} {z : α} {zs : List Value} (h : f z = zs) (n : Nat) : reps n zs = flat f (List.replicate n z) := by
  subst h
  induction n with
  | zero => rfl
  | succ n ih => simp only [reps, List.replicate_succ, List.flatten_cons, flat_cons] at *; rw [ih]

/-- A block that a call has made. -/
theorem MemOk.more {M : Mem} {w w' : World} {B : Nat} {t : TypeId} {cs : List Value} (h : MemOk M w) (hk : Keep Nn w w') (hb : w.heap.size ≤ B) (hx : w'.heap[B]? = some (.cells cs.toArray t (0, 0))) : MemOk (M ++ [⟨B, t, cs⟩]) w' := by
  refine ⟨fun b hb' => ?_, ?_⟩
  · rcases List.mem_append.1 hb' with hb' | hb'
    · exact (h.keepNn hk).at_ b hb'
    · obtain rfl := List.mem_singleton.1 hb'
      exact hx
  · have hp : (M ++ [⟨B, t, cs⟩] : Mem).names.Perm (B :: M.names) := by
      simp only [Mem.names, List.map_append, List.map_cons, List.map_nil]
      exact List.perm_append_singleton _ _
    rw [hp.nodup_iff, List.nodup_cons]
    exact ⟨fun hm => by have := h.lt hm; omega, h.nd⟩
end Go.Px
