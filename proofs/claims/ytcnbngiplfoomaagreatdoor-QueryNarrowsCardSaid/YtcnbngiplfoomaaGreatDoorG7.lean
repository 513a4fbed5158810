/- A part of the proof: texts put together. -/
import Derived.Sort.LotB
import Derived.Test.YtcnbngiplfoomaaGreatDoorG6
import Derived.Test.YtcnbngiplfoomaaGreatDoorG4
set_option linter.unusedSectionVars false
set_option linter.unusedSimpArgs false
set_option linter.unusedVariables false
namespace Go.Proofs.YtcnbngiplfoomaaGreatDoor
open Go.Zz Go.Px
set_option linter.unusedVariables false
set_option linter.unusedSectionVars false
set_option linter.unusedSimpArgs false
set_option maxRecDepth 10000
section
variable {l l' c c1 c2 d : List Int} {a b i j p q n m a' b' : Nat}
theorem SameI.mono (h : SameI l c a' b') (h1 : a ≤ a') (h2 : b' ≤ b) : SameI l c a b := ⟨h.perm, fun p hp => h.out p (by omega)⟩
theorem take_eqI (hl : c.length = l.length) (h : ∀ p, p < a → gI c p = gI l p) : c.take a = l.take a := by
  apply List.ext_getElem (by rw [List.length_take, List.length_take, hl])
  intro k h1 h2
  rw [List.length_take] at h1 h2
  rw [List.getElem_take, List.getElem_take, ← gI_at (by omega), ← gI_at (by omega)]
  exact h k (by omega)
theorem drop_eqI (hl : c.length = l.length) (h : ∀ p, b ≤ p → gI c p = gI l p) : c.drop b = l.drop b := by
  apply List.ext_getElem (by rw [List.length_drop, List.length_drop, hl])
  intro k h1 h2
  rw [List.length_drop] at h1 h2
  rw [List.getElem_drop, List.getElem_drop, ← gI_at (by omega), ← gI_at (by omega)]
  exact h (b + k) (by omega)
theorem cut_eqI (hab : a ≤ b) (l : List Int) : l = l.take a ++ ((l.drop a).take (b - a) ++ l.drop b) := by
  have h1 : (l.drop a).drop (b - a) = l.drop b := by rw [List.drop_drop]; congr 1; omega
  rw [← h1, List.take_append_drop, List.take_append_drop]
theorem SameI.mid (h : SameI l c a b) (hab : a ≤ b) : ((c.drop a).take (b - a)).Perm ((l.drop a).take (b - a)) := by
  have h0 := h.perm
  rw [cut_eqI hab c, cut_eqI hab l, take_eqI h.len (fun p hp => h.out p (.inl hp)), drop_eqI h.len (fun p hp => h.out p (.inr hp)), List.perm_append_left_iff, List.perm_append_right_iff] at h0
  exact h0
theorem SameI.mem (h : SameI l c a b) (hb : b ≤ l.length) (hp : a ≤ p ∧ p < b) : ∃ q, (a ≤ q ∧ q < b) ∧ gI c p = gI l q := by
  have hl := h.len
  have h1 : gI c p ∈ (c.drop a).take (b - a) := by
    rw [gI_at (by omega)]
    refine List.mem_iff_getElem.2 ⟨p - a, by rw [List.length_take, List.length_drop]; omega, ?_⟩
    rw [List.getElem_take, List.getElem_drop]; congr 1; omega
  obtain ⟨k, hk, e⟩ := List.mem_iff_getElem.1 ((h.mid (by omega)).mem_iff.1 h1)
  rw [List.length_take, List.length_drop] at hk
  rw [List.getElem_take, List.getElem_drop] at e
  exact ⟨a + k, by omega, e.symm.trans (gI_at (by omega)).symm⟩
structure BelI (c : List Int) (a b : Nat) : Prop where
  le : 0 < a → ∀ p, a ≤ p → p < b → gI c (a - 1) ≤ gI c p
theorem BelI.same (h : BelI l a b) (hs : SameI l c a b) (hb : b ≤ l.length) : BelI c a b := ⟨fun h0 p h1 h2 => by
  obtain ⟨q, hq, e⟩ := hs.mem hb ⟨h1, h2⟩
  rw [e, hs.out (a - 1) (by omega)]; exact h.le h0 q hq.1 hq.2⟩
structure PdqI (l c : List Int) (a b a' b' : Nat) : Prop where
  lo : a ≤ a'
  mid : a' ≤ b'
  hi : b' ≤ b
  len : b ≤ l.length
  same : SameI l c a b
  bel : BelI c a' b'
  rest : ∀ d, SameI c d a' b' → OrdI d a' b' → OrdI d a b
theorem PdqI.start (hab : a ≤ b) (hb : b ≤ l.length) (h : BelI l a b) : PdqI l l a b a b := ⟨Nat.le_refl _, hab, Nat.le_refl _, hb, SameI.refl _ _ _, h, fun _ _ h => h⟩
theorem PdqI.clen (h : PdqI l c a b a' b') : c.length = l.length := h.same.len
theorem PdqI.done (h : PdqI l c a b a' b') (hs : SameI c d a' b') (ho : OrdI d a' b') : SameI l d a b ∧ OrdI d a b := ⟨h.same.trans (hs.mono h.lo h.hi), h.rest d hs ho⟩
theorem PdqI.turn (h : PdqI l c a b a' b') (hs : SameI c d a' b') : PdqI l d a b a' b' :=
  ⟨h.lo, h.mid, h.hi, h.len, h.same.trans (hs.mono h.lo h.hi), h.bel.same hs (by rw [h.clen]; exact Nat.le_trans h.hi h.len), fun e he ho => h.rest e (hs.trans he) ho⟩
structure PartI (c : List Int) (a b m : Nat) : Prop where
  lo : a ≤ m
  hi : m < b
  less : ∀ p, a ≤ p → p < m → gI c p ≤ gI c m
  more : ∀ p, m < p → p < b → gI c m ≤ gI c p
theorem PartI.same (h : PartI c a b m) (hb : b ≤ c.length) (hs : SameI c d a m ∨ SameI c d (m + 1) b) : PartI d a b m := by
  have h1 := h.lo
  have h2 := h.hi
  refine ⟨h.lo, h.hi, fun p hp hm => ?_, fun p hp hm => ?_⟩
  · rcases hs with hs | hs
    · obtain ⟨q, hq, e⟩ := hs.mem (by omega) ⟨hp, hm⟩
      rw [e, hs.out m (by omega)]; exact h.less q hq.1 hq.2
    · rw [hs.out p (by omega), hs.out m (by omega)]; exact h.less p hp hm
  · rcases hs with hs | hs
    · rw [hs.out p (by omega), hs.out m (by omega)]; exact h.more p hp hm
    · obtain ⟨q, hq, e⟩ := hs.mem (by omega) ⟨hp, hm⟩
      rw [e, hs.out m (by omega)]; exact h.more q (by omega) hq.2
theorem PartI.join (h : PartI d a b m) (h1 : OrdI d a m) (h2 : OrdI d (m + 1) b) : OrdI d a b := ⟨fun p q hp hpq hq => by
  by_cases e1 : q < m
  · exact h1.le p q hp hpq e1
  by_cases e2 : m < p
  · exact h2.le p q (by omega) hpq hq
  by_cases e3 : p = m
  · subst e3; exact h.more q hpq hq
  by_cases e4 : q = m
  · subst e4; exact h.less p hp hpq
  exact Int.le_trans (h.less p hp (by omega)) (h.more q (by omega) hq)⟩
theorem PdqI.right (h : PdqI l c a b a' b') (hp : PartI c a' b' m) (hs : SameI c d a' m) (ho : OrdI d a' m) : PdqI l d a b (m + 1) b' := by
  have h1 := hp.lo; have h2 := hp.hi; have h3 := h.lo; have h4 := h.hi; have h5 := h.len; have h6 := h.clen
  refine ⟨by omega, by omega, h.hi, h.len, h.same.trans (hs.mono h.lo (by omega)), ⟨fun _ p q1 q2 => ?_⟩, fun e he hoe => ?_⟩
  · exact (hp.same (by omega) (.inl hs)).more p (by omega) q2
  · have hd := hp.same (by omega) (.inl hs)
    have hl := hs.len
    refine h.rest e ((hs.mono (Nat.le_refl _) (by omega)).trans (he.mono (by omega) (Nat.le_refl _))) ?_
    refine (hd.same (by omega) (.inr he)).join ⟨fun p q q1 q2 q3 => ?_⟩ hoe
    rw [he.out p (by omega), he.out q (by omega)]; exact ho.le p q q1 q2 q3
theorem PdqI.left (h : PdqI l c a b a' b') (hp : PartI c a' b' m) (hs : SameI c d (m + 1) b') (ho : OrdI d (m + 1) b') : PdqI l d a b a' m := by
  have h1 := hp.lo; have h2 := hp.hi; have h3 := h.lo; have h4 := h.hi; have h5 := h.len; have h6 := h.clen
  have hd := hp.same (by omega) (.inr hs)
  have hl := hs.len
  refine ⟨h.lo, hp.lo, by omega, h.len, h.same.trans (hs.mono (by omega) h.hi), ⟨fun h0 p q1 q2 => ?_⟩, fun e he hoe => ?_⟩
  · rw [hs.out (a' - 1) (by omega), hs.out p (by omega)]; exact h.bel.le h0 p q1 (by omega)
  · refine h.rest e ((hs.mono (by omega) (Nat.le_refl _)).trans (he.mono (Nat.le_refl _) (by omega))) ?_
    refine (hd.same (by omega) (.inl he)).join hoe ⟨fun p q q1 q2 q3 => ?_⟩
    rw [he.out p (by omega), he.out q (by omega)]; exact ho.le p q q1 q2 q3
structure EqI (c : List Int) (a b m : Nat) : Prop where
  lo : a < m
  hi : m ≤ b
  same : ∀ p q, a ≤ p → p < m → a ≤ q → q < b → gI c p ≤ gI c q
theorem PdqI.equal (h : PdqI l c a b a' b') (hp : EqI c a' b' m) : PdqI l c a b m b' := by
  have h1 := hp.lo; have h2 := hp.hi; have h3 := h.lo; have h4 := h.hi; have h5 := h.len; have h6 := h.clen
  refine ⟨by omega, by omega, h.hi, h.len, h.same, ⟨fun _ p q1 q2 => hp.same (m - 1) p (by omega) (by omega) (by omega) q2⟩, fun e he hoe => ?_⟩
  refine h.rest e (he.mono (by omega) (Nat.le_refl _)) ⟨fun p q q1 q2 q3 => ?_⟩
  by_cases e1 : m ≤ p
  · exact hoe.le p q e1 q2 q3
  rw [he.out p (by omega)]
  by_cases e2 : m ≤ q
  · obtain ⟨k, hk, e3⟩ := he.mem (by omega) ⟨e2, q3⟩
    rw [e3]; exact hp.same p k q1 (by omega) (by omega) hk.2
  · rw [he.out q (by omega)]; exact hp.same p q q1 (by omega) (by omega) q3
end
section
variable {l c d : List Int} {a b i j p q m : Nat}
structure ScanI (c : List Int) (a b i j : Nat) : Prop where
  lo : a + 1 ≤ i
  hi : j < b
  ij : i ≤ j + 1
  less : ∀ p, a < p → p < i → gI c p < gI c a
  more : ∀ p, j < p → p < b → gI c a ≤ gI c p
theorem ScanI.start (h : a < b) : ScanI c a b (a + 1) (b - 1) := ⟨Nat.le_refl _, by omega, by omega, fun p h1 h2 => by omega, fun p h1 h2 => by omega⟩
theorem ScanI.up (h : ScanI c a b i j) (hij : i ≤ j) (hl : gI c i < gI c a) : ScanI c a b (i + 1) j := ⟨by have := h.lo; omega, h.hi, by omega, fun p h1 h2 => by
  by_cases e : p = i
  · subst e; exact hl
  · exact h.less p h1 (by omega), h.more⟩
theorem ScanI.down (h : ScanI c a b i j) (hij : i ≤ j) (hl : ¬ gI c j < gI c a) : ScanI c a b i (j - 1) := ⟨h.lo, by have := h.hi; omega, by have := h.lo; omega, h.less, fun p h1 h2 => by
  by_cases e : p = j
  · subst e; omega
  · exact h.more p (by have := h.lo; omega) h2⟩
theorem ScanI.swap (h : ScanI c a b i j) (hb : b ≤ c.length) (hij : i ≤ j) (h1 : ¬ gI c i < gI c a) (h2 : gI c j < gI c a) : ScanI (swapI c i j) a b (i + 1) (j - 1) := by
  have q1 := h.lo; have q2 := h.hi
  have hne : i ≠ j := fun e => h1 (e ▸ h2)
  refine ⟨by omega, by omega, by omega, fun p h3 h4 => ?_, fun p h3 h4 => ?_⟩
  · rw [swapI_at (by omega) (by omega), swapI_at (by omega) (by omega), if_neg (show ¬ p = j by omega), if_neg (show ¬ a = j by omega), if_neg (show ¬ a = i by omega)]
    by_cases e : p = i
    · rw [if_pos e]; exact h2
    · rw [if_neg e]; exact h.less p h3 (by omega)
  · rw [swapI_at (by omega) (by omega), swapI_at (by omega) (by omega), if_neg (show ¬ a = j by omega), if_neg (show ¬ a = i by omega)]
    by_cases e : p = j
    · rw [if_pos e]; omega
    · rw [if_neg e, if_neg (by omega)]; exact h.more p (by omega) h4
theorem ScanI.done (h : ScanI c a b i j) (hb : b ≤ c.length) (hij : ¬ i ≤ j) : PartI (swapI c j a) a b j := by
  have q1 := h.lo; have q2 := h.hi; have q3 := h.ij
  refine ⟨by omega, h.hi, fun p h3 h4 => ?_, fun p h3 h4 => ?_⟩
  · rw [swapI_at (by omega) (by omega), swapI_at (by omega) (by omega)]
    by_cases e : p = a
    · subst e
      rw [if_pos rfl, if_neg (show ¬ j = p by omega), if_pos rfl]
      exact Int.le_of_lt (h.less j (by omega) (by omega))
    · rw [if_neg e, if_neg (show ¬ p = j by omega)]
      by_cases e2 : j = a
      · omega
      · rw [if_neg e2, if_pos rfl]; exact Int.le_of_lt (h.less p (by omega) (by omega))
  · rw [swapI_at (by omega) (by omega), swapI_at (by omega) (by omega)]
    rw [if_neg (show ¬ p = a by omega), if_neg (show ¬ p = j by omega)]
    by_cases e2 : j = a
    · rw [if_pos e2]; have := h.more p h3 h4; rw [e2]; exact this
    · rw [if_neg e2, if_pos rfl]; exact h.more p h3 h4
structure EqS (c : List Int) (a b i j : Nat) : Prop where
  lo : a + 1 ≤ i
  hi : j < b
  ij : i ≤ j + 1
  less : ∀ p, a < p → p < i → gI c p ≤ gI c a
  all : ∀ p, a ≤ p → p < b → gI c a ≤ gI c p
theorem EqS.start (h : a < b) (hb : b ≤ l.length) (hp : a ≤ p ∧ p < b) (hall : ∀ q, a ≤ q → q < b → gI l p ≤ gI l q) : EqS (swapI l a p) a b (a + 1) (b - 1) := ⟨Nat.le_refl _, by omega, by omega, fun p h1 h2 => by omega, fun q h1 h2 => by
  have e : gI (swapI l a p) a = gI l p := by
    rw [swapI_at (by omega) (by omega), if_pos rfl]; split
    · rename_i e; rw [← e]
    · rfl
  rw [e, swapI_at (by omega) (by omega)]
  split
  · exact hall a (by omega) (by omega)
  · split
    · exact Int.le_refl _
    · exact hall q h1 h2⟩
theorem EqS.up (h : EqS c a b i j) (hij : i ≤ j) (hl : ¬ gI c a < gI c i) : EqS c a b (i + 1) j := ⟨by have := h.lo; omega, h.hi, by omega, fun p h1 h2 => by
  by_cases e : p = i
  · subst e; omega
  · exact h.less p h1 (by omega), h.all⟩
theorem EqS.down (h : EqS c a b i j) (hij : i ≤ j) : EqS c a b i (j - 1) := ⟨h.lo, by have := h.hi; omega, by have := h.lo; omega, h.less, h.all⟩
theorem EqS.swap (h : EqS c a b i j) (hb : b ≤ c.length) (hij : i ≤ j) (h1 : gI c a < gI c i) (h2 : ¬ gI c a < gI c j) : EqS (swapI c i j) a b (i + 1) (j - 1) := by
  have q1 := h.lo; have q2 := h.hi
  have hne : i ≠ j := fun e => h2 (e ▸ h1)
  have e : gI (swapI c i j) a = gI c a := by rw [swapI_at (by omega) (by omega), if_neg (show ¬ a = j by omega), if_neg (show ¬ a = i by omega)]
  refine ⟨by omega, by omega, by omega, fun p h3 h4 => ?_, fun p h3 h4 => ?_⟩
  · rw [e, swapI_at (by omega) (by omega), if_neg (show ¬ p = j by omega)]
    by_cases e : p = i
    · rw [if_pos e]; omega
    · rw [if_neg e]; exact h.less p h3 (by omega)
  · rw [e, swapI_at (by omega) (by omega)]
    split
    · exact Int.le_of_lt h1
    · split
      · exact h.all j (by omega) (by omega)
      · exact h.all p h3 h4
theorem EqS.done (h : EqS c a b i j) (hij : ¬ i ≤ j) : EqI c a b i := by
  have q1 := h.lo; have q2 := h.hi; have q3 := h.ij
  refine ⟨by omega, by omega, fun p q h1 h2 h3 h4 => ?_⟩
  have h5 : gI c p ≤ gI c a := by
    by_cases e : p = a
    · subst e; exact Int.le_refl _
    · exact h.less p (by omega) h2
  exact Int.le_trans h5 (h.all q h3 h4)
end
section
open Go.Sort
variable {l c d : List Int} {a b i j p q m hi first root : Nat} {t : Array Int}
theorem gI_arr (l : List Int) (i : Nat) : l.toArray[i]! = gI l i := by
  unfold gI
  rw [List.getElem!_toArray, List.getD_eq_getElem?_getD, List.getElem!_eq_getElem?_getD]; rfl
theorem swapI_arr (hi : i < l.length) (hj : j < l.length) : (swapI l i j).toArray = swp l.toArray i j := by
  unfold swp swapI
  rw [gI_arr, gI_arr]; simp
theorem SameI.of (hb : b ≤ l.length) (hab : a ≤ b) (h : PermIn a b l.toArray c.toArray) : SameI l c a b := by
  obtain ⟨h1, h2, h3⟩ := h
  have hl : c.length = l.length := by simpa using h1
  have ho : ∀ p, p < a ∨ b ≤ p → gI c p = gI l p := fun p hp => by rw [← gI_arr, ← gI_arr]; exact h2 p hp
  refine ⟨?_, ho⟩
  rw [cut_eqI hab c, cut_eqI hab l, take_eqI hl (fun p hp => ho p (.inl hp)), drop_eqI hl (fun p hp => ho p (.inr hp)), List.perm_append_left_iff, List.perm_append_right_iff]
  simpa [List.extract_eq_take_drop] using h3
theorem swoI : SWO ltInt := ⟨fun x => by simp [ltInt], fun x y z h1 h2 => by simp only [ltInt, decide_eq_true_eq] at *; omega, fun x y z h1 h2 => by simp only [ltInt, decide_eq_false_iff_not] at *; omega⟩
theorem heapI_done (hab : a ≤ b) (hb : b ≤ l.length) (h : c.toArray = heapSort ltInt l.toArray a b) : SameI l c a b ∧ OrdI c a b := by
  obtain ⟨h1, h2⟩ := heapSort_holds swoI l.toArray a b hab (by simpa using hb)
  rw [← h] at h1 h2
  refine ⟨SameI.of hb hab h1, ⟨fun p q q1 q2 q3 => ?_⟩⟩
  have := h2 p q q1 q2 q3
  rw [gI_arr, gI_arr] at this
  simp only [ltInt, decide_eq_false_iff_not] at this; omega
structure SiftI (t : Array Int) (hi first root : Nat) (c : List Int) : Prop where
  eq : siftDown ltInt hi first root c.toArray = t
  len : first + hi ≤ c.length
theorem SiftI.stop (h : SiftI t hi first root c) (h1 : hi ≤ 2 * root + 1) : c.toArray = t := by
  have := h.eq; unfold siftDown at this; rw [dif_pos (show 2 * root + 1 ≥ hi by omega)] at this; exact this
theorem SiftI.two (h : SiftI t hi first root c) (h1 : 2 * root + 2 < hi) (h2 : gI c (first + (2 * root + 1)) < gI c (first + (2 * root + 2))) : (¬ gI c (first + root) < gI c (first + (2 * root + 2)) → c.toArray = t) ∧ (gI c (first + root) < gI c (first + (2 * root + 2)) → SiftI t hi first (2 * root + 2) (swapI c (first + root) (first + (2 * root + 2)))) := by
  have e := h.eq; have hl := h.len
  unfold siftDown at e
  rw [dif_neg (show ¬ 2 * root + 1 ≥ hi by omega), gI_arr, Nat.add_assoc first (2 * root + 1) 1, gI_arr, gI_arr] at e
  rw [if_pos (by simp only [ltInt, Bool.and_eq_true, decide_eq_true_eq]; exact ⟨by omega, h2⟩)] at e
  refine ⟨fun q => ?_, fun q => ⟨?_, by rw [swapI_len]; exact hl⟩⟩
  · rw [if_pos (by simp only [ltInt, gI_arr]; simpa using q)] at e; exact e
  · rw [if_neg (by simp only [ltInt, gI_arr]; simpa using q), dif_pos h1] at e
    rw [swapI_arr (by omega) (by omega)]; exact e
theorem SiftI.one (h : SiftI t hi first root c) (h0 : 2 * root + 1 < hi) (h1 : ¬ (2 * root + 2 < hi ∧ gI c (first + (2 * root + 1)) < gI c (first + (2 * root + 2)))) : (¬ gI c (first + root) < gI c (first + (2 * root + 1)) → c.toArray = t) ∧ (gI c (first + root) < gI c (first + (2 * root + 1)) → SiftI t hi first (2 * root + 1) (swapI c (first + root) (first + (2 * root + 1)))) := by
  have e := h.eq; have hl := h.len
  unfold siftDown at e
  rw [dif_neg (show ¬ 2 * root + 1 ≥ hi by omega), gI_arr, Nat.add_assoc first (2 * root + 1) 1, gI_arr, gI_arr] at e
  rw [if_neg (by simp only [ltInt, Bool.and_eq_true, decide_eq_true_eq]; intro q; exact h1 ⟨by omega, q.2⟩)] at e
  refine ⟨fun q => ?_, fun q => ⟨?_, by rw [swapI_len]; exact hl⟩⟩
  · rw [if_pos (by simp only [ltInt, gI_arr]; simpa using q)] at e; exact e
  · rw [if_neg (by simp only [ltInt, gI_arr]; simpa using q)] at e
    rw [swapI_arr (by omega) (by omega)]; exact e
structure HeapB (l : List Int) (a b k : Nat) (c : List Int) : Prop where
  eq : heapPop ltInt a (b - a) (heapBuild ltInt (b - a) a k c.toArray) = heapSort ltInt l.toArray a b
  len : c.length = l.length
structure HeapP (l : List Int) (a b k : Nat) (c : List Int) : Prop where
  eq : heapPop ltInt a k c.toArray = heapSort ltInt l.toArray a b
  len : c.length = l.length
theorem HeapB.start : HeapB l a b ((b - a - 1) / 2 + 1) l := ⟨rfl, rfl⟩
theorem HeapB.next {k : Nat} (h : HeapB l a b (k + 1) c) (hd : d.length = c.length ∧ d.toArray = siftDown ltInt (b - a) a k c.toArray) : HeapB l a b k d := ⟨by rw [hd.2]; exact h.eq, hd.1.trans h.len⟩
theorem HeapB.pop (h : HeapB l a b 0 c) : HeapP l a b (b - a) c := ⟨h.eq, h.len⟩
theorem HeapP.next {k : Nat} (h : HeapP l a b (k + 1) c) (hk : a + k < l.length) (hd : d.length = (swapI c a (a + k)).length ∧ d.toArray = siftDown ltInt k a 0 (swapI c a (a + k)).toArray) : HeapP l a b k d := ⟨by rw [hd.2, swapI_arr (by rw [h.len]; omega) (by rw [h.len]; omega)]; exact h.eq, by rw [hd.1, swapI_len]; exact h.len⟩
theorem HeapP.done (h : HeapP l a b 0 c) (hab : a ≤ b) (hb : b ≤ l.length) : SameI l c a b ∧ OrdI c a b := heapI_done hab hb h.eq
end
section
open Go.Sort
variable {l c d : List Int} {a b i j p q m hi first : Nat} {root : Int} {t : Array Int}
structure SiftZ (t : Array Int) (hi first : Nat) (root : Int) (c : List Int) : Prop where
  lo : 0 ≤ root ∧ root ≤ hi
  sift : SiftI t hi first root.toNat c
theorem SiftZ.len (h : SiftZ t hi first root c) : first + hi ≤ c.length := h.sift.len
theorem SiftZ.start {r : Nat} (hr : r ≤ hi) (h : first + hi ≤ c.length) : SiftZ (siftDown ltInt hi first r c.toArray) hi first (r : Int) c := ⟨by omega, ⟨by rw [Int.toNat_natCast], h⟩⟩
theorem SiftZ.stop (h : SiftZ t hi first root c) (h1 : (hi : Int) ≤ 2 * root + 1) : c.toArray = t := h.sift.stop (by have := h.lo; omega)
theorem SiftZ.two (h : SiftZ t hi first root c) (h1 : 2 * root + 1 + 1 < (hi : Int)) (h2 : gI c (first + (2 * root + 1)).toNat < gI c (first + (2 * root + 1) + 1).toNat) : (¬ gI c (first + root).toNat < gI c (first + (2 * root + 1 + 1)).toNat → c.toArray = t) ∧ (gI c (first + root).toNat < gI c (first + (2 * root + 1 + 1)).toNat → SiftZ t hi first (2 * root + 1 + 1) (swapI c (first + root).toNat (first + (2 * root + 1 + 1)).toNat)) := by
  have h0 := h.lo
  have e1 : ((first : Int) + (2 * root + 1)).toNat = first + (2 * root.toNat + 1) := by omega
  have e2 : ((first : Int) + (2 * root + 1) + 1).toNat = first + (2 * root.toNat + 2) := by omega
  have e3 : ((first : Int) + (2 * root + 1 + 1)).toNat = first + (2 * root.toNat + 2) := by omega
  have e4 : ((first : Int) + root).toNat = first + root.toNat := by omega
  rw [e1, e2] at h2
  rw [e3, e4]
  obtain ⟨q1, q2⟩ := h.sift.two (by omega) h2
  refine ⟨q1, fun q => ⟨by omega, ?_⟩⟩
  rw [show (2 * root + 1 + 1).toNat = 2 * root.toNat + 2 by omega]; exact q2 q
theorem SiftZ.one (h : SiftZ t hi first root c) (h0 : 2 * root + 1 < (hi : Int)) (h1 : ¬ (2 * root + 1 + 1 < (hi : Int) ∧ gI c (first + (2 * root + 1)).toNat < gI c (first + (2 * root + 1) + 1).toNat)) : (¬ gI c (first + root).toNat < gI c (first + (2 * root + 1)).toNat → c.toArray = t) ∧ (gI c (first + root).toNat < gI c (first + (2 * root + 1)).toNat → SiftZ t hi first (2 * root + 1) (swapI c (first + root).toNat (first + (2 * root + 1)).toNat)) := by
  have hl := h.lo
  have e1 : ((first : Int) + (2 * root + 1)).toNat = first + (2 * root.toNat + 1) := by omega
  have e2 : ((first : Int) + (2 * root + 1) + 1).toNat = first + (2 * root.toNat + 2) := by omega
  have e4 : ((first : Int) + root).toNat = first + root.toNat := by omega
  rw [e1, e2] at h1
  rw [e1, e4]
  obtain ⟨q1, q2⟩ := h.sift.one (by omega) (fun q => h1 ⟨by omega, q.2⟩)
  refine ⟨q1, fun q => ⟨by omega, ?_⟩⟩
  rw [show (2 * root + 1).toNat = 2 * root.toNat + 1 by omega]; exact q2 q
end
theorem gD (l : List Int) (i : Nat) : l.getD i encU.d = gI l i := rfl
theorem sw_eq (l : List Int) (i j : Nat) : (l.set i (gI l j)).set j (gI l i) = swapI l i j := rfl
set_option maxHeartbeats 4000000 in
theorem partU_z (E : Nat → Addr) (l : List Int) (n k a b pv : Nat) (h : n = l.length ∧ a < b ∧ b ≤ l.length ∧ (a ≤ pv ∧ pv < b) ∧ l.length ≤ 1000000) : Does (Gm E) 175 ⟨[.sl 0 n k, .int .i64 ((a : Nat) : Int), .int .i64 ((b : Nat) : Int), .int .i64 ((pv : Nat) : Int)], [(0, .arr Int encU 56 l k)], 1, 1, (Nat × List Int × Bool), fun c => (SameI l c.2.1 a b ∧ PartI c.2.1 a b c.1), fun c => .tup [.int .i64 ((c.1 : Nat) : Int), .bl c.2.2], fun c => [(0, .arr Int encU 56 c.2.1 k)]⟩ := by
  obtain ⟨rfl, hab, hb, hp, hm⟩ := h
  refine fn_intro (gmOk E) 168 1 [5, 7, 15, 17] Tryz.func175 rfl rfl rfl rfl rfl ?_
  repeat' first | exact placedPr_ok | (change DrawGoal _ _ _ _ _ _; first | (change DrawGoal _ _ _ [_, _, _, _, _, _, _, _, _, _, _, _, _, _, _, _] _ _; refine draw_weak (gmOk E) 0 [] (.alt [(0, true), (1, true), (2, true), (3, true), (4, true), (5, true), (6, true), (8, true), (9, true), (10, true)] (.leaf [(7, false), (11, false), (12, true), (13, false), (14, true), (15, false)]) (.leaf [(11, false), (7, false), (12, true), (13, false), (14, true), (15, false)])) (by kernel_rfl) rfl ?_ ?_) | (change DrawGoal _ _ _ [_, _, _, _, _, _, _, _, _, _, _, _, _, _, _, _] _ _; refine draw_weak (gmOk E) 0 [] (.alt [(0, true), (1, true), (2, true), (3, true), (4, true), (5, true), (6, true), (8, true), (9, true), (10, true)] (.leaf [(7, false), (11, false), (12, true), (13, false), (14, true), (15, false)]) (.leaf [(11, false), (7, false), (12, true), (13, false), (14, true), (15, false)])) (by kernel_rfl) rfl ?_ ?_) | (change DrawGoal _ _ _ [_, _, _, _, _, _, _, _, _, _, _, _, _, _, _, _] _ _; refine draw_weak (gmOk E) 0 [] (.alt [(0, true), (1, true), (2, true), (3, true), (4, true), (5, true), (6, true), (8, true), (9, true), (10, true)] (.leaf [(7, false), (11, false), (12, true), (13, false), (14, true), (15, false)]) (.leaf [(11, false), (7, false), (12, true), (13, false), (14, true), (15, false)])) (by kernel_rfl) rfl ?_ ?_) | (change DrawGoal _ _ _ [_, _, _, _, _, _, _, _, _, _, _, _, _, _, _, _] _ _; refine draw_weak (gmOk E) 0 [] (.alt [(0, true), (1, true), (2, true), (3, true), (4, true), (5, true), (6, true), (8, true), (9, true), (10, true)] (.leaf [(7, false), (11, false), (12, true), (13, false), (14, true), (15, false)]) (.leaf [(11, false), (7, false), (12, true), (13, false), (14, true), (15, false)])) (by kernel_rfl) rfl ?_ ?_) | (change DrawGoal _ _ _ [_, _, _, _, _, _, _, _, _, _, _, _, _, _, _, _] _ _; refine draw_weak (gmOk E) 0 [] (.alt [(0, true), (1, true), (2, true), (3, true), (4, true), (5, true), (6, true), (8, true), (9, true), (10, true)] (.leaf [(7, false), (11, false), (12, true), (13, false), (14, true), (15, false)]) (.leaf [(11, false), (7, false), (12, true), (13, false), (14, true), (15, false)])) (by kernel_rfl) rfl ?_ ?_)) | with_reducible rfl | (intro h; first | (exfalso; omega; done) | skip) | (refine And.intro ?_ ?_) | exact True.intro | (refine @Exists.intro Unit _ () ?_) | (refine @Exists.intro (_ = _) _ rfl ?_) | (refine @Exists.intro (Nat × List Int × Bool) _ (?_, ?_, ?_) ?_; rotate_left 3) | (change NextGoal _ _ _; refine next_go ?_) | (change LoopGoal _ _ _ _ _ _; refine loop_keep 3 [0, 1, 8, 9, 11] (gmOk E) rfl [5, 7, 15, 17] (X := (Nat × Unit)) (fun y => [(10, .int .i64 ((y.1 : Nat) : Int))]) (fun y => []) [] (fun y => ScanI (swapI l a pv) a b y.1 (b - 1)) (fun y => b - y.1) ⟨(a + 1, ()), ?_⟩ (fun y hJ => ?_)) | (change @Exists ((Nat × Unit)) (fun _ => updPK _ _ _ _ _ _); refine @Exists.intro ((Nat × Unit)) _ ((y.1 + 1, ())) ?_) | (change LoopGoal _ _ _ _ _ _; refine loop_keep 5 [0, 1, 8, 9, 10] (gmOk E) rfl [5, 7, 15, 17] (X := (Nat × Unit × Unit)) (fun z => [(11, .int .i64 ((z.1 : Nat) : Int))]) (fun z => []) [] (fun z => ScanI (swapI l a pv) a b j1.1 z.1 ∧ (j1.1 ≤ b - 1 → ¬ gI (swapI l a pv) j1.1 < gI (swapI l a pv) a) ∧ z.1 ≤ b - 1) (fun z => z.1) ⟨(b - 1, (), ()), ?_⟩ (fun z hK => ?_)) | (change @Exists ((Nat × Unit × Unit)) (fun _ => updPK _ _ _ _ _ _); refine @Exists.intro ((Nat × Unit × Unit)) _ ((z.1 - 1, (), ())) ?_) | (change LoopGoal _ _ _ _ _ _; (fail_if_success (have _ := hI)); change LoopGoal _ _ _ _ _ _; refine loop_keep 13 [0, 1, 8, 9, 11] (gmOk E) rfl [5, 7, 15, 17] (X := (Nat × Nat × List Int)) (fun x => [(10, .int .i64 ((x.1 : Nat) : Int)), (11, .int .i64 ((x.2.1 : Nat) : Int))]) (fun x => [(0, .arr Int encU 56 x.2.2 k)]) [] (fun x => ScanI x.2.2 a b x.1 x.2.1 ∧ SameI (swapI l a pv) x.2.2 (a + 1) b) (fun x => x.2.1 + 1 - x.1) ⟨(j2.1 + 1, j2.2.1 - 1, swapI (swapI l a pv) j2.1 j2.2.1), ?_⟩ (fun x hI => ?_)) | (change @Exists ((Nat × Nat × List Int)) (fun _ => updPK _ _ _ _ _ _); refine @Exists.intro ((Nat × Nat × List Int)) _ ((j4.1 + 1, j4.2.1 - 1, swapI x.2.2 j4.1 j4.2.1)) ?_) | (change LoopGoal _ _ _ _ _ _; refine loop_keep 13 [0, 1, 8, 9, 11] (gmOk E) rfl [5, 7, 15, 17] (X := (Nat × Unit × Unit × Unit)) (fun u => [(10, .int .i64 ((u.1 : Nat) : Int))]) (fun u => []) [] (fun u => ScanI x.2.2 a b u.1 x.2.1 ∧ x.1 ≤ u.1) (fun u => b - u.1) ⟨(x.1, (), (), ()), ?_⟩ (fun u hU => ?_)) | (change @Exists ((Nat × Unit × Unit × Unit)) (fun _ => updPK _ _ _ _ _ _); refine @Exists.intro ((Nat × Unit × Unit × Unit)) _ ((u.1 + 1, (), (), ())) ?_) | (change LoopGoal _ _ _ _ _ _; refine loop_keep 15 [0, 1, 8, 9, 10, 112] (gmOk E) rfl [5, 7, 15, 17] (X := (Nat × Unit × Unit × Unit × Unit)) (fun v => [(11, .int .i64 ((v.1 : Nat) : Int))]) (fun v => []) [] (fun v => ScanI x.2.2 a b j3.1 v.1 ∧ (j3.1 ≤ x.2.1 → ¬ gI x.2.2 j3.1 < gI x.2.2 a) ∧ x.1 ≤ j3.1 ∧ v.1 ≤ x.2.1) (fun v => v.1) ⟨(x.2.1, (), (), (), ()), ?_⟩ (fun v hV => ?_)) | (change @Exists ((Nat × Unit × Unit × Unit × Unit)) (fun _ => updPK _ _ _ _ _ _); refine @Exists.intro ((Nat × Unit × Unit × Unit × Unit)) _ ((v.1 - 1, (), (), (), ())) ?_) | (change JoinGoal _ _ _ _ _ _ _ _; refine join_keep 5 [0, 1, 8, 9, 11] (gmOk E) rfl (X := (Nat × Fin 1)) (fun j1 => [(10, .int .i64 ((j1.1 : Nat) : Int))]) (fun j1 => [(0, .arr Int encU 56 (swapI l a pv) k)]) [] (fun j1 => ScanI (swapI l a pv) a b j1.1 (b - 1) ∧ (j1.1 ≤ b - 1 → ¬ gI (swapI l a pv) j1.1 < gI (swapI l a pv) a)) ?_ (fun j1 hj1 => ?_)) | (change @Exists ((Nat × Fin 1)) (fun _ => updPK _ _ _ _ _ _); refine @Exists.intro ((Nat × Fin 1)) _ ((y.1, 0)) ?_) | (change JoinGoal _ _ _ _ _ _ _ _; refine join_keep 7 [0, 1, 8, 9, 10] (gmOk E) rfl (X := (Nat × Nat × Fin 1)) (fun j2 => [(10, .int .i64 ((j2.1 : Nat) : Int)), (11, .int .i64 ((j2.2.1 : Nat) : Int))]) (fun j2 => []) [] (fun j2 => ScanI (swapI l a pv) a b j2.1 j2.2.1 ∧ (j2.1 ≤ j2.2.1 → ¬ gI (swapI l a pv) j2.1 < gI (swapI l a pv) a ∧ gI (swapI l a pv) j2.2.1 < gI (swapI l a pv) a)) ?_ (fun j2 hj2 => ?_)) | (change @Exists ((Nat × Nat × Fin 1)) (fun _ => updPK _ _ _ _ _ _); refine @Exists.intro ((Nat × Nat × Fin 1)) _ ((j1.1, z.1, 0)) ?_) | (change JoinGoal _ _ _ _ _ _ _ _; refine join_keep 15 [0, 1, 8, 9, 11] (gmOk E) rfl (X := (Nat × Fin 2)) (fun j3 => [(10, .int .i64 ((j3.1 : Nat) : Int))]) (fun j3 => []) [] (fun j3 => ScanI x.2.2 a b j3.1 x.2.1 ∧ x.1 ≤ j3.1 ∧ (j3.1 ≤ x.2.1 → ¬ gI x.2.2 j3.1 < gI x.2.2 a)) ?_ (fun j3 hj3 => ?_)) | (change @Exists ((Nat × Fin 2)) (fun _ => updPK _ _ _ _ _ _); refine @Exists.intro ((Nat × Fin 2)) _ ((u.1, 0)) ?_) | (change JoinGoal _ _ _ _ _ _ _ _; refine join_keep 17 [0, 1, 8, 9, 10, 112] (gmOk E) rfl (X := (Nat × Nat × Fin 2)) (fun j4 => [(10, .int .i64 ((j4.1 : Nat) : Int)), (11, .int .i64 ((j4.2.1 : Nat) : Int))]) (fun j4 => []) [] (fun j4 => ScanI x.2.2 a b j4.1 j4.2.1 ∧ (x.1 ≤ j4.1 ∧ j4.2.1 ≤ x.2.1) ∧ (j4.1 ≤ j4.2.1 → ¬ gI x.2.2 j4.1 < gI x.2.2 a ∧ gI x.2.2 j4.2.1 < gI x.2.2 a)) ?_ (fun j4 hj4 => ?_)) | (change @Exists ((Nat × Nat × Fin 2)) (fun _ => updPK _ _ _ _ _ _); refine @Exists.intro ((Nat × Nat × Fin 2)) _ ((j3.1, v.1, 0)) ?_) | (change DrawGoal _ _ _ _ _ _; first | (change DrawGoal _ _ _ ({ dst := some 30, op := _, type := _, pos := _, after := _, guard := _ } :: _) _ _; refine draw_tree (gmOk E) [0] (.leaf [(0, true), (1, true), (2, true), (3, true), (4, true), (5, true), (6, true), (7, true), (8, true), (9, true), (10, true), (11, true), (12, false), (13, true)]) (by kernel_rfl) ?_) | (change DrawGoal _ _ _ ({ dst := some 46, op := _, type := _, pos := _, after := _, guard := _ } :: _) _ _; refine draw_tree (gmOk E) [0] (.leaf [(0, true), (1, true), (2, true), (3, true), (4, true), (5, true), (6, true), (7, true), (8, true), (9, true), (10, true), (11, true), (12, false), (13, true), (14, true)]) (by kernel_rfl) ?_) | (change DrawGoal _ _ _ ({ dst := some 99, op := _, type := _, pos := _, after := _, guard := _ } :: _) _ _; refine draw_tree (gmOk E) [0] (.leaf [(0, true), (1, true), (2, true), (3, true), (4, true), (5, true), (6, true), (7, true), (8, true), (9, true), (10, true), (11, true), (12, false), (13, true)]) (by kernel_rfl) ?_) | (change DrawGoal _ _ _ ({ dst := some 115, op := _, type := _, pos := _, after := _, guard := _ } :: _) _ _; refine draw_tree (gmOk E) [0] (.leaf [(0, true), (1, true), (2, true), (3, true), (4, true), (5, true), (6, true), (7, true), (8, true), (9, true), (10, true), (11, true), (12, false), (13, true), (14, true)]) (by kernel_rfl) ?_)) | (change CallGoal _ _ _ _ _ _; first | (refine call0 (lessU_z E _ _) [] rfl True.intro rfl ?_))
  all_goals skip
  all_goals first | (dsimp only; rfl) | rfl | skip
  all_goals try ((try dsimp only at *); (try simp only [Int.toNat_natCast, gD, sw_eq, List.length_set, swapI_len] at *))
  all_goals (try have a0 := hj1.1.lo); (try have b0 := hj1.1.hi); (try have d0 := hj1.1.ij); (try have a1 := hj2.1.lo); (try have b1 := hj2.1.hi); (try have d1 := hj2.1.ij); (try have a2 := hI.1.lo); (try have b2 := hI.1.hi); (try have d2 := hI.1.ij); (try have a3 := hj3.1.lo); (try have b3 := hj3.1.hi); (try have d3 := hj3.1.ij); (try have a4 := hj4.1.lo); (try have b4 := hj4.1.hi); (try have d4 := hj4.1.ij); (try have a5 := hU.1.lo); (try have b5 := hU.1.hi); (try have d5 := hU.1.ij); (try have a6 := hV.1.lo); (try have b6 := hV.1.hi); (try have d6 := hV.1.ij); (try have a7 := hJ.lo); (try have b7 := hJ.hi); (try have d7 := hJ.ij); (try have a8 := hK.1.lo); (try have b8 := hK.1.hi); (try have d8 := hK.1.ij); (have e0 : (swapI l a pv).length = l.length := swapI_len); (try have e1 := hI.2.len); (try rw [swapI_len] at e1); first | done | omega | (constructor <;> omega) | assumption | exact ScanI.start hab | exact hj1.1 | exact hj1.2 | exact hj2.1 | exact hj3.1 | exact hj4.1 | exact hI.1 | exact hI.2 | exact hJ.up (by omega) (by omega) | exact hK.1.down (by omega) (by omega) | exact hU.1.up (by omega) (by omega) | exact hV.1.down (by omega) (by omega) | exact hU.1 | exact hV.1 | exact hJ | exact hK.1 | exact hj4.1.swap (by omega) (by omega) (hj4.2.2 (by omega)).1 (hj4.2.2 (by omega)).2 | exact hj2.1.swap (by omega) (by omega) (hj2.2 (by omega)).1 (hj2.2 (by omega)).2 | exact hI.2.swap ⟨by omega, by omega⟩ ⟨by omega, by omega⟩ (by omega) | exact (SameI.refl _ _ _).swap ⟨by omega, by omega⟩ ⟨by omega, by omega⟩ (by omega) | exact hj4.1.done (by omega) (by omega) | exact hj2.1.done (by omega) (by omega) | exact ((SameI.refl _ _ _).swap ⟨by omega, by omega⟩ ⟨by omega, by omega⟩ (by omega)).swap ⟨by omega, by omega⟩ ⟨by omega, by omega⟩ (by omega) | exact (((SameI.refl l a b).swap ⟨by omega, by omega⟩ ⟨by omega, by omega⟩ (by omega)).trans (hI.2.mono (by omega) (by omega))).swap ⟨by omega, by omega⟩ ⟨by omega, by omega⟩ (by omega)
set_option maxHeartbeats 4000000 in
theorem parteU_z (E : Nat → Addr) (l : List Int) (n k a b pv : Nat) (h : n = l.length ∧ a < b ∧ b ≤ l.length ∧ (a ≤ pv ∧ pv < b) ∧ l.length ≤ 1000000 ∧ ∀ q, a ≤ q → q < b → gI l pv ≤ gI l q) : Does (Gm E) 174 ⟨[.sl 0 n k, .int .i64 ((a : Nat) : Int), .int .i64 ((b : Nat) : Int), .int .i64 ((pv : Nat) : Int)], [(0, .arr Int encU 56 l k)], 1, 1, (Nat × List Int), fun c => (SameI l c.2 a b ∧ EqI c.2 a b c.1), fun c => .int .i64 ((c.1 : Nat) : Int), fun c => [(0, .arr Int encU 56 c.2 k)]⟩ := by
  obtain ⟨rfl, hab, hb, hp, hm, hall⟩ := h
  refine fn_intro (gmOk E) 84 1 [5, 7] Tryz.func174 rfl rfl rfl rfl rfl ?_
  repeat' first | exact placedPr_ok | (change DrawGoal _ _ _ _ _ _; first | (change DrawGoal _ _ _ [_, _, _, _, _, _, _, _, _, _, _, _, _, _, _, _] _ _; refine draw_weak (gmOk E) 0 [] (.alt [(0, true), (1, true), (2, true), (3, true), (4, true), (5, true), (6, true), (8, true), (9, true), (10, true)] (.leaf [(7, false), (11, false), (12, true), (13, false), (14, true), (15, false)]) (.leaf [(11, false), (7, false), (12, true), (13, false), (14, true), (15, false)])) (by kernel_rfl) rfl ?_ ?_) | (change DrawGoal _ _ _ [_, _, _, _, _, _, _, _, _, _, _, _, _, _, _, _] _ _; refine draw_weak (gmOk E) 0 [] (.alt [(0, true), (1, true), (2, true), (3, true), (4, true), (5, true), (6, true), (8, true), (9, true), (10, true)] (.leaf [(7, false), (11, false), (12, true), (13, false), (14, true), (15, false)]) (.leaf [(11, false), (7, false), (12, true), (13, false), (14, true), (15, false)])) (by kernel_rfl) rfl ?_ ?_)) | with_reducible rfl | (intro h; first | (exfalso; omega; done) | skip) | (refine And.intro ?_ ?_) | exact True.intro | (refine @Exists.intro Unit _ () ?_) | (refine @Exists.intro (_ = _) _ rfl ?_) | (refine @Exists.intro (Nat × List Int) _ (?_, ?_) ?_; rotate_left 2) | (change NextGoal _ _ _; refine next_go ?_) | (change LoopGoal _ _ _ _ _ _; (fail_if_success (have _ := hI)); change LoopGoal _ _ _ _ _ _; refine loop_keep 3 [0, 1, 8, 10] (gmOk E) rfl [5, 7] (X := (Nat × Nat × List Int)) (fun x => [(9, .int .i64 ((x.1 : Nat) : Int)), (10, .int .i64 ((x.2.1 : Nat) : Int))]) (fun x => [(0, .arr Int encU 56 x.2.2 k)]) [] (fun x => EqS x.2.2 a b x.1 x.2.1 ∧ SameI (swapI l a pv) x.2.2 (a + 1) b) (fun x => x.2.1 + 1 - x.1) ⟨(a + 1, b - 1, (swapI l a pv)), ?_⟩ (fun x hI => ?_)) | (change @Exists ((Nat × Nat × List Int)) (fun _ => updPK _ _ _ _ _ _); refine @Exists.intro ((Nat × Nat × List Int)) _ ((j4.1 + 1, j4.2.1 - 1, swapI x.2.2 j4.1 j4.2.1)) ?_) | (change LoopGoal _ _ _ _ _ _; refine loop_keep 3 [0, 1, 8, 10] (gmOk E) rfl [5, 7] (X := (Nat × Unit)) (fun u => [(9, .int .i64 ((u.1 : Nat) : Int))]) (fun u => []) [] (fun u => EqS x.2.2 a b u.1 x.2.1 ∧ x.1 ≤ u.1) (fun u => b - u.1) ⟨(x.1, ()), ?_⟩ (fun u hU => ?_)) | (change @Exists ((Nat × Unit)) (fun _ => updPK _ _ _ _ _ _); refine @Exists.intro ((Nat × Unit)) _ ((u.1 + 1, ())) ?_) | (change LoopGoal _ _ _ _ _ _; refine loop_keep 5 [0, 1, 8, 9, 43] (gmOk E) rfl [5, 7] (X := (Nat × Unit × Unit)) (fun v => [(10, .int .i64 ((v.1 : Nat) : Int))]) (fun v => []) [] (fun v => EqS x.2.2 a b j3.1 v.1 ∧ (j3.1 ≤ x.2.1 → gI x.2.2 a < gI x.2.2 j3.1) ∧ x.1 ≤ j3.1 ∧ v.1 ≤ x.2.1) (fun v => v.1) ⟨(x.2.1, (), ()), ?_⟩ (fun v hV => ?_)) | (change @Exists ((Nat × Unit × Unit)) (fun _ => updPK _ _ _ _ _ _); refine @Exists.intro ((Nat × Unit × Unit)) _ ((v.1 - 1, (), ())) ?_) | (change JoinGoal _ _ _ _ _ _ _ _; refine join_keep 5 [0, 1, 8, 10] (gmOk E) rfl (X := (Nat × Fin 2)) (fun j3 => [(9, .int .i64 ((j3.1 : Nat) : Int))]) (fun j3 => []) [] (fun j3 => EqS x.2.2 a b j3.1 x.2.1 ∧ x.1 ≤ j3.1 ∧ (j3.1 ≤ x.2.1 → gI x.2.2 a < gI x.2.2 j3.1)) ?_ (fun j3 hj3 => ?_)) | (change @Exists ((Nat × Fin 2)) (fun _ => updPK _ _ _ _ _ _); refine @Exists.intro ((Nat × Fin 2)) _ ((u.1, 0)) ?_) | (change JoinGoal _ _ _ _ _ _ _ _; refine join_keep 7 [0, 1, 8, 9, 43] (gmOk E) rfl (X := (Nat × Nat × Fin 2)) (fun j4 => [(9, .int .i64 ((j4.1 : Nat) : Int)), (10, .int .i64 ((j4.2.1 : Nat) : Int))]) (fun j4 => []) [] (fun j4 => EqS x.2.2 a b j4.1 j4.2.1 ∧ (x.1 ≤ j4.1 ∧ j4.2.1 ≤ x.2.1) ∧ (j4.1 ≤ j4.2.1 → gI x.2.2 a < gI x.2.2 j4.1 ∧ ¬ gI x.2.2 a < gI x.2.2 j4.2.1)) ?_ (fun j4 hj4 => ?_)) | (change @Exists ((Nat × Nat × Fin 2)) (fun _ => updPK _ _ _ _ _ _); refine @Exists.intro ((Nat × Nat × Fin 2)) _ ((j3.1, v.1, 0)) ?_) | (change DrawGoal _ _ _ _ _ _; first | (change DrawGoal _ _ _ ({ dst := some 29, op := _, type := _, pos := _, after := _, guard := _ } :: _) _ _; refine draw_tree (gmOk E) [0] (.leaf [(0, true), (1, true), (2, true), (3, true), (4, true), (5, true), (6, true), (7, true), (8, true), (9, true), (10, true), (11, true), (12, false), (13, true), (14, true)]) (by kernel_rfl) ?_) | (change DrawGoal _ _ _ ({ dst := some 46, op := _, type := _, pos := _, after := _, guard := _ } :: _) _ _; refine draw_tree (gmOk E) [0] (.leaf [(0, true), (1, true), (2, true), (3, true), (4, true), (5, true), (6, true), (7, true), (8, true), (9, true), (10, true), (11, true), (12, false), (13, true)]) (by kernel_rfl) ?_)) | (change CallGoal _ _ _ _ _ _; first | (refine call0 (lessU_z E _ _) [] rfl True.intro rfl ?_))
  all_goals skip
  all_goals first | (dsimp only; rfl) | rfl | skip
  all_goals try ((try dsimp only at *); (try simp only [Int.toNat_natCast, gD, sw_eq, List.length_set, swapI_len] at *))
  all_goals (try have ff0 := hI.1.lo); (try have ff1 := hI.1.hi); (try have ff2 := hI.1.ij); (try have ff3 := hj3.1.lo); (try have ff4 := hj3.1.hi); (try have ff5 := hj3.1.ij); (try have ff6 := hj4.1.lo); (try have ff7 := hj4.1.hi); (try have ff8 := hj4.1.ij); (try have ff9 := hU.1.lo); (try have ff10 := hU.1.hi); (try have ff11 := hU.1.ij); (try have ff12 := hV.1.lo); (try have ff13 := hV.1.hi); (try have ff14 := hV.1.ij); (try have ff15 := (show (swapI l a pv).length = l.length from swapI_len)); (try have ff16 := (show x.2.2.length = l.length from hI.2.len.trans swapI_len)); first | done | rfl | omega | (constructor <;> omega) | assumption | exact EqS.start hab hb hp hall | exact hI.1 | exact hI.2 | exact hj3.1 | exact hj3.2.2 | exact hj4.1 | exact hU.1 | exact hV.1 | exact hV.2.1 | exact hU.1.up (by omega) (by omega) | exact hV.1.down (by omega) | exact hj4.1.swap (by omega) (by omega) (hj4.2.2 (by omega)).1 (hj4.2.2 (by omega)).2 | exact hI.2.swap ⟨by omega, by omega⟩ ⟨by omega, by omega⟩ (by omega) | exact hj4.1.done (by omega) | exact ((SameI.refl l a b).swap ⟨by omega, by omega⟩ ⟨by omega, by omega⟩ (by omega)).trans (hI.2.mono (by omega) (by omega)) | exact SameI.refl _ _ _
theorem OrdI.up {c : List Int} {a i : Nat} (h : OrdI c a i) (hi : a + 1 ≤ i) (hl : ¬ gI c i < gI c (i - 1)) : OrdI c a (i + 1) := ⟨fun p q h1 h2 h3 => by
  by_cases e : q = i
  · subst e
    have h4 : gI c (q - 1) ≤ gI c q := by omega
    by_cases e2 : p = q - 1
    · subst e2; exact h4
    · exact Int.le_trans (h.le p (q - 1) h1 (by omega) (by omega)) h4
  · exact h.le p q h1 h2 (by omega)⟩
theorem pred_z {i a : Nat} (h : a + 1 ≤ i) : ((i : Int) - 1).toNat = i - 1 := by omega
set_option maxHeartbeats 4000000 in
theorem pinsU_z (E : Nat → Addr) (l : List Int) (n k a b : Nat) (h : n = l.length ∧ a < b ∧ b ≤ l.length ∧ b - a < 50 ∧ l.length ≤ 1000000) : Does (Gm E) 172 ⟨[.sl 0 n k, .int .i64 ((a : Nat) : Int), .int .i64 ((b : Nat) : Int)], [(0, .arr Int encU 56 l k)], 1, 1, Bool, fun c => c = true → OrdI l a b, fun c => .bl c, fun c => [(0, .arr Int encU 56 l k)]⟩ := by
  obtain ⟨rfl, hab, hb, hm, hl⟩ := h
  refine fn_intro (gmOk E) 133 1 [7] Tryz.func172 rfl rfl rfl rfl rfl ?_
  repeat' first | with_reducible rfl | (intro h; first | (exfalso; omega; done) | (exfalso; omega; done) | skip) | (refine And.intro ?_ ?_) | exact True.intro | (refine @Exists.intro Unit _ () ?_) | (refine @Exists.intro (_ = _) _ rfl ?_) | (change LoopGoal _ _ _ _ _ _; (fail_if_success (have : (0 : Int) < 5 := by assumption)); change LoopGoal _ _ _ _ _ _; refine loop_rounds (gmOk E) [7] 1 ?_) | (change NextGoal _ _ _; refine next_go ?_) | (change LoopGoal _ _ _ _ _ _; refine loop_keep 5 [0, 1, 2, 6, 8, 14] (gmOk E) rfl [7] (X := (Nat × Unit)) (fun y => [(7, .int .i64 ((y.1 : Nat) : Int))]) (fun y => []) [] (fun y => OrdI l a y.1 ∧ a + 1 ≤ y.1 ∧ y.1 ≤ b) (fun y => b - y.1) ⟨(a + 1, ()), ?_⟩ (fun y hI => ?_)) | (change @Exists ((Nat × Unit)) (fun _ => updPK _ _ _ _ _ _); refine @Exists.intro ((Nat × Unit)) _ ((y.1 + 1, ())) ?_) | (change JoinGoal _ _ _ _ _ _ _ _; refine join_keep 7 [0, 1, 2, 6, 8, 14] (gmOk E) rfl (X := (Nat × Fin 1)) (fun j1 => [(7, .int .i64 ((j1.1 : Nat) : Int))]) (fun j1 => []) [] (fun j1 => OrdI l a j1.1 ∧ a + 1 ≤ j1.1 ∧ j1.1 ≤ b) ?_ (fun j1 hj1 => ?_)) | (change @Exists ((Nat × Fin 1)) (fun _ => updPK _ _ _ _ _ _); refine @Exists.intro ((Nat × Fin 1)) _ ((y.1, 0)) ?_) | (change DrawGoal _ _ _ _ _ _; first | (change DrawGoal _ _ _ ({ dst := some 17, op := _, type := _, pos := _, after := _, guard := _ } :: _) _ _; refine draw_tree (gmOk E) [0] (.leaf [(0, true), (1, true), (2, true), (3, true), (4, true), (5, true), (6, true), (7, true), (8, true), (9, true), (10, true), (11, true), (12, true), (13, false), (14, true), (15, true)]) (by kernel_rfl) ?_)) | (refine @Exists.intro (Bool) _ ?_ ?_; rotate_left) | (change CallGoal _ _ _ _ _ _; first | (refine call0 (lessU_z E _ _) [] rfl True.intro rfl ?_))
  all_goals skip
  all_goals first | (dsimp only; rfl) | rfl | skip
  all_goals try ((try dsimp only at *); (try simp only [Int.toNat_natCast, gD, sw_eq, List.length_set, swapI_len] at *))
  all_goals (try have ff0 := hI.2.1); first | done | rfl | omega | (constructor <;> omega) | assumption | exact hI.1 | exact hj1.1 | exact OrdI.one _ _ | exact hI.1.up hI.2.1 (by rw [← pred_z hI.2.1]; omega) | exact fun h => nomatch h | exact (by rw [show b = j1.1 from by omega]; exact hj1.1) | exact (fun _ => by rw [show b = j1.1 from by omega]; exact hj1.1) | exact absurd h (by decide)
set_option maxHeartbeats 4000000 in
theorem ord2U_z (E : Nat → Addr) (l : List Int) (n k a b : Nat) (s : Int) (h : n = l.length ∧ a < l.length ∧ b < l.length ∧ l.length ≤ 1000000 ∧ 0 ≤ s ∧ s ≤ 100) : Does (Gm E) 195 ⟨[.sl 0 n k, .int .i64 ((a : Nat) : Int), .int .i64 ((b : Nat) : Int), .ptr 1 0], [(0, .arr Int encU 56 l k), (1, .cells 3 [.int .i64 s])], 2, 2, (Nat × Nat × Int), fun c => ((c.1 = a ∧ c.2.1 = b) ∨ (c.1 = b ∧ c.2.1 = a)) ∧ (c.2.2 = s ∨ c.2.2 = s + 1), fun c => .tup [.int .i64 ((c.1 : Nat) : Int), .int .i64 ((c.2.1 : Nat) : Int)], fun c => [(0, .arr Int encU 56 l k), (1, .cells 3 [.int .i64 c.2.2])]⟩ := by
  obtain ⟨rfl, ha, hb, hm, hs⟩ := h
  refine fn_intro (gmOk E) 28 2 [] Tryz.func195 rfl rfl rfl rfl rfl ?_
  repeat' first | with_reducible rfl | (intro h; first | (exfalso; omega; done) | skip) | (refine And.intro ?_ ?_) | exact True.intro | (refine @Exists.intro Unit _ () ?_) | (refine @Exists.intro (_ = _) _ rfl ?_) | (refine @Exists.intro (Nat × Nat × Int) _ (?_, ?_, ?_) ?_; rotate_left 3) | (change NextGoal _ _ _; refine next_go ?_) | (change DrawGoal _ _ _ _ _ _; first | (change DrawGoal _ _ _ ({ dst := some 10, op := _, type := _, pos := _, after := _, guard := _ } :: _) _ _; refine draw_tree (gmOk E) [0] (.leaf [(0, true), (1, true), (2, true), (3, true), (4, true), (5, true), (6, true), (7, true), (8, false)]) (by kernel_rfl) ?_)) | (change CallGoal _ _ _ _ _ _; first | (refine call0 (lessU_z E _ _) [] rfl True.intro rfl ?_))
  all_goals skip
  all_goals first | (dsimp only; rfl) | rfl | skip
  all_goals try ((try dsimp only at *); (try simp only [Int.toNat_natCast, gD, sw_eq, List.length_set, swapI_len] at *))
  all_goals first | done | rfl | omega | (constructor <;> omega) | assumption | exact .inl ⟨trivial, trivial⟩ | exact .inr ⟨trivial, trivial⟩ | exact .inl trivial | exact .inr trivial | exact .inl ⟨rfl, rfl⟩ | exact .inr ⟨rfl, rfl⟩ | exact .inl rfl | exact .inr rfl
set_option maxHeartbeats 4000000 in
theorem medU_z (E : Nat → Addr) (l : List Int) (n k a b c : Nat) (h : n = l.length ∧ a < l.length ∧ b < l.length ∧ c < l.length ∧ l.length ≤ 1000000) : Does (Gm E) 184 ⟨[.sl 0 n k, .int .i64 ((a : Nat) : Int), .int .i64 ((b : Nat) : Int), .int .i64 ((c : Nat) : Int), .ptr 1 0], [(0, .arr Int encU 56 l k), (1, .cells 3 [.int .i64 0])], 2, 2, (Nat × Int), fun y => (y.1 = a ∨ y.1 = b ∨ y.1 = c) ∧ (0 ≤ y.2 ∧ y.2 ≤ 10), fun y => .int .i64 ((y.1 : Nat) : Int), fun y => [(0, .arr Int encU 56 l k), (1, .cells 3 [.int .i64 y.2])]⟩ := by
  obtain ⟨rfl, ha, hb, hc, hm⟩ := h
  refine fn_intro (gmOk E) 36 2 [] Tryz.func184 rfl rfl rfl rfl rfl ?_
  repeat' first | (change CallGoal _ _ _ _ _ _; first | (have _ := h2; (refine call_rule (ord2U_z E l _ k (x1.1) (x2.1) (x2.2.2) ⟨rfl, by omega, by omega, by omega, by omega⟩) [0, 1] rfl (And.intro rfl (And.intro rfl True.intro)) rfl (fun (x3 : Nat × Nat × Int) h3 => ?_))) | (have _ := h1; (refine call_rule (ord2U_z E l _ k (x1.2.1) (c) (x1.2.2) ⟨rfl, by omega, by omega, by omega, by omega⟩) [0, 1] rfl (And.intro rfl (And.intro rfl True.intro)) rfl (fun (x2 : Nat × Nat × Int) h2 => ?_))) | (refine call_rule (ord2U_z E l _ k (a) (b) (0) ⟨rfl, by omega, by omega, by omega, by omega⟩) [0, 1] rfl (And.intro rfl (And.intro rfl True.intro)) rfl (fun (x1 : Nat × Nat × Int) h1 => ?_))) | with_reducible rfl | (intro h; first | (exfalso; omega; done) | skip) | (refine And.intro ?_ ?_) | exact True.intro | (refine @Exists.intro Unit _ () ?_) | (refine @Exists.intro (_ = _) _ rfl ?_) | (refine @Exists.intro (Nat × Int) _ (?_, ?_) ?_; rotate_left 2) | (change NextGoal _ _ _; refine next_go ?_)
  all_goals skip
  all_goals (try obtain ⟨p1, p2, p3⟩ := x1); (try obtain ⟨q1, q2, q3⟩ := x2); (try obtain ⟨r1, r2, r3⟩ := x3)
  all_goals first | (dsimp only; rfl) | rfl | skip
  all_goals try ((try dsimp only at *); (try simp only [Int.toNat_natCast, gD, sw_eq, List.length_set, swapI_len] at *))
  all_goals first | done | rfl | omega | (constructor <;> omega) | assumption
set_option maxHeartbeats 4000000 in
theorem pivU_z (E : Nat → Addr) (l : List Int) (n k a b : Nat) (h : n = l.length ∧ a < b ∧ b ≤ l.length ∧ 12 < b - a ∧ b - a < 50 ∧ l.length ≤ 1000000) : Does (Gm E) 170 ⟨[.sl 0 n k, .int .i64 ((a : Nat) : Int), .int .i64 ((b : Nat) : Int)], [(0, .arr Int encU 56 l k)], 1, 1, (Nat × Int), fun y => a ≤ y.1 ∧ y.1 < b, fun y => .tup [.int .i64 ((y.1 : Nat) : Int), .int .i64 y.2], fun y => [(0, .arr Int encU 56 l k)]⟩ := by
  obtain ⟨rfl, hab, hb, hm, hm2, hl⟩ := h; have ed : ((b : Int) - a).tdiv 4 = (((b - a) / 4 : Nat) : Int) := by rw [Int.tdiv_eq_ediv_of_nonneg (by omega)]; omega
  refine fn_intro (gmOk E) 57 1 [] Tryz.func170 rfl rfl rfl rfl rfl ?_
  repeat' first | (change CallGoal _ _ _ _ _ _; first | (change CallGoal _ 184 _ _ _ _; first | (refine call_args [.sl 0 l.length k, .int .i64 (((a + (b - a) / 4 * 1) : Nat) : Int), .int .i64 (((a + (b - a) / 4 * 2) : Nat) : Int), .int .i64 (((a + (b - a) / 4 * 3) : Nat) : Int), .ptr 1 0] (fun _ => bdLB_ok _ rfl) (fun En V w hp => by simp only [SV.denL, SV.den]; rw [ed]; simp only [Int.natCast_add, Int.natCast_mul]; rfl) ?_; change CallGoal _ _ _ _ _ _; refine call_rule (medU_z E l _ k (a + (b - a) / 4 * 1) (a + (b - a) / 4 * 2) (a + (b - a) / 4 * 3) ⟨rfl, by omega, by omega, by omega, by omega⟩) [0, 1] rfl (And.intro rfl (And.intro rfl True.intro)) rfl (fun (y : Nat × Int) hy => ?_)))) | (intro h; first | (exfalso; omega; done) | (exfalso; omega; done) | skip) | (refine And.intro ?_ ?_) | exact True.intro | (refine @Exists.intro Unit _ () ?_) | (refine @Exists.intro (_ = _) _ rfl ?_) | (refine @Exists.intro (Nat × Int) _ (?_, ?_) ?_; rotate_left 2)
  all_goals skip
  all_goals first | (dsimp only; rfl) | rfl | skip
  all_goals try ((try dsimp only at *); (try simp only [Int.toNat_natCast, gD, sw_eq, List.length_set, swapI_len] at *))
  all_goals first | done | rfl | omega | (constructor <;> omega) | assumption
set_option maxHeartbeats 4000000 in
theorem revU_z (E : Nat → Addr) (l : List Int) (n k a b : Nat) (h : n = l.length ∧ a < b ∧ b ≤ l.length ∧ l.length ≤ 1000000) : Does (Gm E) 171 ⟨[.sl 0 n k, .int .i64 ((a : Nat) : Int), .int .i64 ((b : Nat) : Int)], [(0, .arr Int encU 56 l k)], 1, 1, List Int, fun c => SameI l c a b, fun c => .tup [], fun c => [(0, .arr Int encU 56 c k)]⟩ := by
  obtain ⟨rfl, hab, hb, hm⟩ := h
  refine fn_intro (gmOk E) 32 1 [] Tryz.func171 rfl rfl rfl rfl rfl ?_
  repeat' first | exact placedPr_ok | (change DrawGoal _ _ _ _ _ _; first | (change DrawGoal _ _ _ [_, _, _, _, _, _, _, _, _, _, _, _, _, _, _, _] _ _; refine draw_weak (gmOk E) 0 [] (.alt [(0, true), (1, true), (2, true), (3, true), (4, true), (5, true), (6, true), (8, true), (9, true), (10, true)] (.leaf [(7, false), (11, false), (12, true), (13, false), (14, true), (15, false)]) (.leaf [(11, false), (7, false), (12, true), (13, false), (14, true), (15, false)])) (by kernel_rfl) rfl ?_ ?_)) | with_reducible rfl | (intro h; first | (exfalso; omega; done) | skip) | (refine And.intro ?_ ?_) | exact True.intro | (refine @Exists.intro Unit _ () ?_) | (refine @Exists.intro (_ = _) _ rfl ?_) | (change NextGoal _ _ _; refine next_go ?_) | (change LoopGoal _ _ _ _ _ _; refine loop_keep 2 [0] (gmOk E) rfl [] (X := (Nat × Nat × List Int)) (fun x => [(6, .int .i64 ((x.1 : Nat) : Int)), (7, .int .i64 ((x.2.1 : Nat) : Int))]) (fun x => [(0, .arr Int encU 56 x.2.2 k)]) [] (fun x => a ≤ x.1 ∧ x.2.1 < b ∧ x.1 ≤ x.2.1 + 1 ∧ x.1 ≤ b ∧ SameI l x.2.2 a b) (fun x => x.2.1 + 1 - x.1) ⟨(a, b - 1, l), ?_⟩ (fun x hI => ?_)) | (change @Exists ((Nat × Nat × List Int)) (fun _ => updPK _ _ _ _ _ _); refine @Exists.intro ((Nat × Nat × List Int)) _ ((x.1 + 1, x.2.1 - 1, swapI x.2.2 x.1 x.2.1)) ?_) | (refine @Exists.intro (List Int) _ ?_ ?_; rotate_left)
  all_goals skip
  all_goals first | (dsimp only; rfl) | rfl | skip
  all_goals try ((try dsimp only at *); (try simp only [Int.toNat_natCast, gD, sw_eq, List.length_set, swapI_len] at *))
  all_goals (try have ff0 := hI.2.2.2.2.len); first | done | rfl | omega | (constructor <;> omega) | assumption | exact hI.2.2.2.2 | exact SameI.refl _ _ _ | exact hI.2.2.2.2.swap ⟨by omega, by omega⟩ ⟨by omega, by omega⟩ (by omega)
set_option maxHeartbeats 4000000 in
theorem siftU_z (E : Nat → Addr) (l : List Int) (n k root hi first : Nat) (h : n = l.length ∧ first + hi ≤ l.length ∧ root ≤ hi ∧ l.length ≤ 1000000) : Does (Gm E) 182 ⟨[.sl 0 n k, .int .i64 ((root : Nat) : Int), .int .i64 ((hi : Nat) : Int), .int .i64 ((first : Nat) : Int)], [(0, .arr Int encU 56 l k)], 1, 1, List Int, fun c => c.length = l.length ∧ c.toArray = Go.Sort.siftDown Go.Sort.ltInt hi first root l.toArray, fun c => .tup [], fun c => [(0, .arr Int encU 56 c k)]⟩ := by
  obtain ⟨rfl, hf, hr, hm⟩ := h
  refine fn_intro (gmOk E) 76 1 [] Tryz.func182 rfl rfl rfl rfl rfl ?_
  repeat' first | exact placedPr_ok | (change DrawGoal _ _ _ _ _ _; first | (change DrawGoal _ _ _ [_, _, _, _, _, _, _, _, _, _, _, _, _, _, _, _, _, _, _, _, _, _, _, _] _ _; refine draw_weak (gmOk E) 0 [] (.alt [(0, true), (1, true), (2, true), (3, true), (4, true), (5, true), (6, true), (7, true), (8, true), (9, true), (10, true), (11, true), (12, true), (14, true), (15, true), (16, true), (17, true), (18, true)] (.leaf [(13, false), (19, false), (20, true), (21, false), (22, true), (23, false)]) (.leaf [(19, false), (13, false), (20, true), (21, false), (22, true), (23, false)])) (by kernel_rfl) rfl ?_ ?_)) | with_reducible rfl | (intro h; first | (exfalso; omega; done) | skip) | (refine And.intro ?_ ?_) | exact True.intro | (refine @Exists.intro Unit _ () ?_) | (refine @Exists.intro (_ = _) _ rfl ?_) | (change NextGoal _ _ _; refine next_go ?_) | (change LoopGoal _ _ _ _ _ _; refine loop_keep 1 [0, 2, 3] (gmOk E) rfl [] (X := (Int × List Int)) (fun x => [(8, .int .i64 x.1)]) (fun x => [(0, .arr Int encU 56 x.2 k)]) [] (fun x => SiftZ (Go.Sort.siftDown Go.Sort.ltInt hi first root l.toArray) hi first x.1 x.2 ∧ x.2.length = l.length) (fun x => hi - x.1.toNat) ⟨(((root : Nat) : Int), l), ?_⟩ (fun x hI => ?_)) | (change @Exists ((Int × List Int)) (fun _ => updPK _ _ _ _ _ _); refine @Exists.intro ((Int × List Int)) _ ((?_, ?_)) ?_; rotate_left 2) | (change DrawGoal _ _ _ _ _ _; first | (change DrawGoal _ _ _ ({ dst := some 17, op := _, type := _, pos := _, after := _, guard := _ } :: _) _ _; refine draw_tree (gmOk E) [0] (.leaf [(0, true), (1, true), (2, true), (3, true), (4, true), (5, true), (6, true), (7, true), (8, true), (9, true), (10, true), (11, true), (12, true), (13, true), (14, true), (15, true), (16, true), (17, true), (18, false), (19, true)]) (by kernel_rfl) ?_) | (change DrawGoal _ _ _ ({ dst := some 39, op := _, type := _, pos := _, after := _, guard := _ } :: _) _ _; refine draw_tree (gmOk E) [0] (.leaf [(0, true), (1, true), (2, true), (3, true), (4, true), (5, true), (6, true), (7, true), (8, true), (9, true), (10, true), (11, true), (12, false), (13, true)]) (by kernel_rfl) ?_)) | (refine @Exists.intro (List Int) _ ?_ ?_; rotate_left) | (change CallGoal _ _ _ _ _ _; first | (refine call0 (lessU_z E _ _) [] rfl True.intro rfl ?_))
  all_goals skip
  all_goals first | (dsimp only; rfl) | rfl | skip
  all_goals try ((try dsimp only at *); (try simp only [Int.toNat_natCast, gD, sw_eq, List.length_set, swapI_len] at *))
  all_goals (try have ff0 := hI.1.lo); (try have ff1 := hI.1.len); (try have ff2 := hI.2); first | done | rfl | omega | (constructor <;> omega) | assumption | exact hI.1 | exact hI.2 | exact SiftZ.start (by omega) (by omega) | exact hI.1.stop (by omega) | exact (hI.1.two (by omega) (by assumption)).1 (by assumption) | exact (hI.1.two (by omega) (by assumption)).2 (by omega) | exact (hI.1.one (by omega) (by intro q; first | exact absurd q.1 (by assumption) | exact absurd q.2 (by assumption) | omega)).1 (by assumption) | exact (hI.1.one (by omega) (by intro q; first | exact absurd q.1 (by assumption) | exact absurd q.2 (by assumption) | omega)).2 (by omega)
theorem tn_add {a k : Nat} (h : 0 < k) : ((a : Int) + ((k : Int) - 1)).toNat = a + (k - 1) := by omega
theorem HeapB.to {l : List Int} {a b k : Nat} {c d : List Int} (h : HeapB l a b k c) (hk : 0 < k) (hd : d.length = c.length ∧ d.toArray = Go.Sort.siftDown Go.Sort.ltInt (b - a) a (k - 1) c.toArray) : HeapB l a b (k - 1) d := by
  obtain ⟨j, rfl⟩ : ∃ j, k = j + 1 := ⟨k - 1, by omega⟩
  exact h.next hd
theorem HeapB.fin {l : List Int} {a b k : Nat} {c : List Int} (h : HeapB l a b k c) (hk : k = 0) : HeapP l a b (b - a) c := by subst hk; exact h.pop
theorem HeapP.fin {l : List Int} {a b k : Nat} {c : List Int} (h : HeapP l a b k c) (hk : k = 0) (hab : a ≤ b) (hb : b ≤ l.length) : SameI l c a b ∧ OrdI c a b := by subst hk; exact h.done hab hb
theorem HeapP.to {l : List Int} {a b k : Nat} {c d : List Int} (h : HeapP l a b k c) (hk : 0 < k) (hl : a + (k - 1) < l.length) (hd : d.length = (swapI c a (a + (k - 1))).length ∧ d.toArray = Go.Sort.siftDown Go.Sort.ltInt (k - 1) a 0 (swapI c a (a + (k - 1))).toArray) : HeapP l a b (k - 1) d := by
  obtain ⟨j, rfl⟩ : ∃ j, k = j + 1 := ⟨k - 1, by omega⟩
  exact h.next hl hd
set_option maxHeartbeats 4000000 in
theorem heapU_z (E : Nat → Addr) (l : List Int) (n k a b : Nat) (h : n = l.length ∧ a < b ∧ b ≤ l.length ∧ 12 < b - a ∧ l.length ≤ 1000000) : Does (Gm E) 168 ⟨[.sl 0 n k, .int .i64 ((a : Nat) : Int), .int .i64 ((b : Nat) : Int)], [(0, .arr Int encU 56 l k)], 1, 1, List Int, fun c => SameI l c a b ∧ OrdI c a b, fun c => .tup [], fun c => [(0, .arr Int encU 56 c k)]⟩ := by
  obtain ⟨rfl, hab, hb, h12, hm⟩ := h; have ed : ((b : Int) - a - 1).tdiv 2 = (((b - a - 1) / 2 : Nat) : Int) := by rw [Int.tdiv_eq_ediv_of_nonneg (by omega)]; omega
  refine fn_intro (gmOk E) 56 1 [11] Tryz.func168 rfl rfl rfl rfl rfl ?_
  repeat' first | (change CallGoal _ _ _ _ _ _; first | (change CallGoal _ 182 _ _ _ _; first | (refine call_args [.sl 0 l.length k, .int .i64 ((0 : Nat) : Int), .int .i64 ((y.1 - 1 : Nat) : Int), .int .i64 ((a : Nat) : Int)] (fun _ => bdLB_ok _ rfl) (fun En V w hp => by simp only [SV.denL, SV.den]; rw [show ((y.1 : Nat) : Int) - 1 = ((y.1 - 1 : Nat) : Int) by omega]; try rfl) ?_; change CallGoal _ _ _ _ _ _; refine call_rule (siftU_z E (swapI y.2.1 a (a + (y.1 - 1))) _ k (0) (y.1 - 1) a ⟨?_, ?_, ?_, ?_⟩) [0] rfl (And.intro rfl True.intro) rfl (fun (c : List Int) hc => ?_)) | (refine call_args [.sl 0 l.length k, .int .i64 ((x.1 - 1 : Nat) : Int), .int .i64 ((b - a : Nat) : Int), .int .i64 ((a : Nat) : Int)] (fun _ => bdLB_ok _ rfl) (fun En V w hp => by simp only [SV.denL, SV.den]; rw [show ((x.1 : Nat) : Int) - 1 = ((x.1 - 1 : Nat) : Int) by omega, show ((b : Nat) : Int) - ((a : Nat) : Int) = ((b - a : Nat) : Int) by omega]; try rfl) ?_; change CallGoal _ _ _ _ _ _; refine call_rule (siftU_z E x.2 _ k (x.1 - 1) (b - a) a ⟨?_, ?_, ?_, ?_⟩) [0] rfl (And.intro rfl True.intro) rfl (fun (c : List Int) hc => ?_)))) | exact placedPr_ok | (change DrawGoal _ _ _ _ _ _; first | (change DrawGoal _ _ _ [_, _, _, _, _, _, _, _, _, _, _, _, _, _, _, _, _, _, _, _] _ _; refine draw_weak (gmOk E) 0 [] (.alt [(0, true), (1, true), (2, true), (3, true), (4, true), (5, true), (6, true), (7, true), (8, true), (9, true), (10, true), (12, true), (13, true), (14, true)] (.leaf [(11, false), (15, false), (16, true), (17, false), (18, true), (19, false)]) (.leaf [(15, false), (11, false), (16, true), (17, false), (18, true), (19, false)])) (by kernel_rfl) rfl ?_ ?_)) | (change JoinGoal _ _ _ _ _ _ _ _; refine join_stop (gmOk E) ?_) | (change HereGoal _ _ _ _ _ _ _; rw [tn_add (show 0 < y.1 by omega)] ; refine hereG.cast 0 (.arr Int encU 56 (swapI y.2.1 a (a + (y.1 - 1))) k) rfl (by simp only [Int.toNat_natCast, gD, sw_eq]) ?_; refine here_go (gmOk E) ?_) | with_reducible rfl | (intro h; first | (exfalso; omega; done) | skip) | (refine And.intro ?_ ?_) | exact True.intro | (refine @Exists.intro Unit _ () ?_) | (refine @Exists.intro (_ = _) _ rfl ?_) | (change NextGoal _ _ _; refine next_go ?_) | (change LoopGoal _ _ _ _ _ _; refine loop_keep 4 [0, 6, 7, 8] (gmOk E) rfl [11] (X := (Nat × List Int)) (fun x => [(9, .int .i64 (((x.1 : Nat) : Int) - 1))]) (fun x => [(0, .arr Int encU 56 x.2 k)]) [] (fun x => HeapB l a b x.1 x.2 ∧ x.1 ≤ b - a) (fun x => x.1) ⟨((b - a - 1) / 2 + 1, l), ?_⟩ (fun x hI => ?_)) | (change @Exists ((Nat × List Int)) (fun _ => updPK _ _ _ _ _ _); refine @Exists.intro ((Nat × List Int)) _ ((x.1 - 1, c)) ?_) | (change LoopGoal _ _ _ _ _ _; refine loop_keep 8 [0, 6, 7] (gmOk E) rfl [11] (X := (Nat × List Int × Unit)) (fun y => [(10, .int .i64 (((y.1 : Nat) : Int) - 1))]) (fun y => [(0, .arr Int encU 56 y.2.1 k)]) [] (fun y => HeapP l a b y.1 y.2.1 ∧ y.1 ≤ b - a) (fun y => y.1) ⟨(b - a, x.2, ()), ?_⟩ (fun y hJ => ?_)) | (change @Exists ((Nat × List Int × Unit)) (fun _ => updPK _ _ _ _ _ _); refine @Exists.intro ((Nat × List Int × Unit)) _ ((y.1 - 1, c, ())) ?_) | (refine @Exists.intro (List Int) _ ?_ ?_; rotate_left) | (change CallGoal _ _ _ _ _ _; first | (refine call0 (lessU_z E _ _) [] rfl True.intro rfl ?_))
  all_goals skip
  all_goals first | (dsimp only; rfl) | rfl | skip
  all_goals try ((try dsimp only at *); (try simp only [Int.toNat_natCast, gD, sw_eq, List.length_set, swapI_len] at *))
  all_goals (try have ff0 := hI.1.len); (try have ff1 := hJ.1.len); (try have ff2 := ed); first | done | rfl | omega | (constructor <;> omega) | assumption | exact HeapB.start | exact hI.1 | exact hI.2 | exact hI.1.to (by omega) hc | exact hJ.1 | exact hJ.1.to (by omega) (by omega) hc | exact hI.1.fin (by omega) | exact (hJ.1.fin (by omega) (by omega) (by omega)).1 | exact (hJ.1.fin (by omega) (by omega) (by omega)).2 | exact hJ.1.to (by omega) (by omega) ⟨hc.1.trans swapI_len.symm, hc.2⟩ | exact hc | exact hc.1
theorem stridx_at {Γ : Ctx} {sv : Operand → SV} {H : Hp} {K : List Prop → SV → Prop} {t : TypeId} {X Y : Operand} {s : ByteArray} {n : Int} (hu : Γ.P.underlying t = some .string) (hX : sv X = .str s) (hY : sv Y = .int .u8 n) (hn : 0 ≤ n ∧ n.toNat < s.size) (k1 : K [] (.int .u8 (((s.data.getD n.toNat 0).toNat : Nat) : Int))) : RdGoal Γ sv H (.index t X Y) K :=
  ⟨fun En V nx oper hop hB hb => ⟨[], _, by simp only [SV.bd], k1, fun _ β w _ => by
    have h1 : s[n.toNat]? = some (s.data.getD n.toNat 0) := by
      have : n.toNat < s.data.size := hn.2
      rw [show s[n.toNat]? = some (s[n.toNat]'hn.2) by simp [hn.2]]
      rw [Array.getD, dif_pos this]; rfl
    simp [execOp, hop, Instr.index, hX, hY, SV.den, run_underlying hu, asIntOf, hn.1, h1, Result.andThen]⟩⟩
set_option maxHeartbeats 4000000 in
theorem lenX64_z (E : Nat → Addr) (x : Nat) (h : x ≤ 200) : Does (Gm E) 165 ⟨[.int .u64 ((x : Nat) : Int)], [], 0, 0, Unit, fun _ => True, fun _ => .int .i64 ((Go.Sort.bitsLen x : Nat) : Int), fun _ => []⟩ := by
  refine fn_intro (gmOk E) 25 0 [] Tryz.func165 rfl rfl rfl rfl rfl ?_
  repeat' first | (intro h; first | (exfalso; omega; done) | (exfalso; omega; done) | skip) | (refine And.intro ?_ ?_) | exact True.intro | (refine @Exists.intro Unit _ () ?_) | (refine @Exists.intro (_ = _) _ rfl ?_) | (change RdGoal _ _ _ _ _; refine stridx_at Tryz.underlying9 rfl rfl ?_ ?_)
  all_goals skip
  all_goals (have w8 : IntKind.u8.wrap ((x : Nat) : Int) = ((x : Nat) : Int) := wrap8 (by omega))
  all_goals first | done | rfl | omega | exact w8 | exact w8.symm | (refine ⟨by omega, ?_⟩; rw [w8, Int.toNat_natCast]; refine Nat.lt_of_lt_of_eq (show x < 256 by omega) ?_; first | rfl | kernel_rfl | decide) | (rw [w8, Int.toNat_natCast]; revert x; decide +kernel) | (simp only [w8, Int.toNat_natCast]; clear w8; revert x; decide +kernel) | (rw [w8]; clear w8; revert x; decide +kernel)
set_option maxHeartbeats 4000000 in
theorem lenX_z (E : Nat → Addr) (x : Nat) (h : x ≤ 200) : Does (Gm E) 142 ⟨[.int .u64 ((x : Nat) : Int)], [], 0, 0, Unit, fun _ => True, fun _ => .int .i64 ((Go.Sort.bitsLen x : Nat) : Int), fun _ => []⟩ := by
  refine fn_intro (gmOk E) 8 0 [] Tryz.func142 rfl rfl rfl rfl rfl ?_
  repeat' first | (intro h; first | (exfalso; omega; done) | skip) | (refine And.intro ?_ ?_) | exact True.intro | (refine @Exists.intro Unit _ () ?_) | (refine @Exists.intro (_ = _) _ rfl ?_) | (change CallGoal _ _ _ _ _ _; first | (refine call0 (lenX64_z E x h) [] rfl True.intro rfl ?_))
  all_goals first | rfl | omega
theorem pw_len : ∀ x : Nat, x ≤ 49 → 8 ≤ x → 2 ^ Go.Sort.bitsLen x ≤ 2 * x ∧ 8 ≤ 2 ^ Go.Sort.bitsLen x ∧ Go.Sort.bitsLen x ≤ 6 := by decide +kernel
set_option maxHeartbeats 4000000 in
theorem npw_z (E : Nat → Addr) (x : Nat) (h : x ≤ 49 ∧ 8 ≤ x) : Does (Gm E) 178 ⟨[.int .i64 ((x : Nat) : Int)], [], 0, 0, Unit, fun _ => True, fun _ => .int .u64 (((2 ^ Go.Sort.bitsLen x) : Nat) : Int), fun _ => []⟩ := by
  refine fn_intro (gmOk E) 7 0 [] Tryz.func178 rfl rfl rfl rfl rfl ?_
  repeat' first | (change CallGoal _ _ _ _ _ _; first | (change CallGoal _ 142 _ _ _ _; first | (refine call_args [.int .u64 ((x : Nat) : Int)] (fun _ => bdLB_ok _ rfl) (fun En V w hp => by rw [fitP_wrap (k := .u64) (show 0 ≤ ((x : Nat) : Int) ∧ ((x : Nat) : Int) ≤ 18446744073709551615 by omega)]) ?_; change CallGoal _ _ _ _ _ _; refine call0 (lenX_z E x (by omega)) [] rfl True.intro rfl ?_))) | (intro h; first | (exfalso; omega; done) | skip) | (refine And.intro ?_ ?_) | exact True.intro | (refine @Exists.intro Unit _ () ?_) | (refine @Exists.intro (_ = _) _ rfl ?_)
  all_goals skip
  all_goals (have q := pw_len x h.1 h.2)
  all_goals (have e : min (((Go.Sort.bitsLen x : Nat) : Int)).toNat IntKind.u64.bits = Go.Sort.bitsLen x := by rw [Int.toNat_natCast, bits_u64]; omega)
  all_goals (have z : ((2 : Int) ^ Go.Sort.bitsLen x) = ((2 ^ Go.Sort.bitsLen x : Nat) : Int) := by simp)
  all_goals first | done | omega | (rw [e, Int.one_mul, z]; done) | (rw [e, Int.one_mul, z]; first | (generalize 2 ^ Go.Sort.bitsLen x = m at *; first | omega | (constructor <;> omega)))
set_option maxHeartbeats 4000000 in
theorem xor_z (E : Nat → Addr) (r : Int) : Does (Gm E) 179 ⟨[.ptr 0 0], [(0, .cells 256 [.int .u64 r])], 1, 1, Int, fun y => 0 ≤ y ∧ y ≤ 18446744073709551615, fun y => .int .u64 y, fun y => [(0, .cells 256 [.int .u64 y])]⟩ := by
  refine Does.back (a := true) (b := false) (fn_intro ((gmOk E).way true false) 33 1 [] Tryz.func179 rfl rfl rfl rfl rfl ?_)
  repeat' first | (change DrawGoal _ _ _ _ _ _; first | (change DrawGoal _ _ _ ({ dst := some 3, op := _, type := _, pos := _, after := _, guard := _ } :: _) _ _; refine draw_rule3 ((gmOk E).way true false) [(0, true), (1, true), (2, true), (3, true), (4, true), (5, true), (6, true), (7, true), (8, true)] [0, 1, 2, 3, 4, 5, 6, 7, 8] [0] [] [(9, false)] (by kernel_rfl) ?_) | (change DrawGoal _ _ _ ({ dst := some 12, op := _, type := _, pos := _, after := _, guard := _ } :: _) _ _; refine draw_rule3 ((gmOk E).way true false) [(0, true), (1, true), (2, true), (3, true), (4, true), (5, true), (6, true), (7, true), (8, true)] [0, 1, 2, 3, 4, 5, 6, 7, 8] [0] [] [(9, false)] (by kernel_rfl) ?_) | (change DrawGoal _ _ _ ({ dst := some 21, op := _, type := _, pos := _, after := _, guard := _ } :: _) _ _; refine draw_rule3 ((gmOk E).way true false) [(0, true), (1, true), (2, true), (3, true), (4, true), (5, true), (6, true), (7, true), (8, true)] [0, 1, 2, 3, 4, 5, 6, 7, 8] [0] [] [(9, false)] (by kernel_rfl) ?_)) | (intro h; first | (exfalso; omega; done) | skip) | (refine And.intro ?_ ?_) | exact True.intro | (refine @Exists.intro Unit _ () ?_) | (refine @Exists.intro (_ = _) _ rfl ?_) | (refine @Exists.intro (Int) _ ?_ ?_; rotate_left)
  all_goals first | rfl | omega | (show 0 ≤ IntKind.u64.wrap _; rw [IntKind.wrap_u64]; omega) | (show IntKind.u64.wrap _ ≤ _; rw [IntKind.wrap_u64]; omega)
theorem and_le {y m : Int} (hy : 0 ≤ y ∧ y ≤ 18446744073709551615) (hm : 0 ≤ m ∧ m ≤ 18446744073709551615) : 0 ≤ bitI .and .u64 y m ∧ bitI .and .u64 y m ≤ m := by
  obtain ⟨a, rfl⟩ : ∃ a : Nat, y = (a : Int) := ⟨y.toNat, by omega⟩
  obtain ⟨b, rfl⟩ : ∃ b : Nat, m = (b : Int) := ⟨m.toNat, by omega⟩
  rw [bitI_and (by omega) (by omega)]
  have : a &&& b ≤ b := Nat.and_le_right
  omega
theorem rnd_in {y : Int} {x : Nat} (hy : 0 ≤ y ∧ y ≤ 18446744073709551615) (hx : x ≤ 49) (h8 : 8 ≤ x) : 0 ≤ bitI .and .u64 y (((2 ^ Go.Sort.bitsLen x : Nat) : Int) - 1) ∧ bitI .and .u64 y (((2 ^ Go.Sort.bitsLen x : Nat) : Int) - 1) < 2 * x := by
  have q := pw_len x hx h8
  obtain ⟨h1, h2⟩ := and_le hy (m := ((2 ^ Go.Sort.bitsLen x : Nat) : Int) - 1) (by generalize 2 ^ Go.Sort.bitsLen x = m at *; omega)
  generalize 2 ^ Go.Sort.bitsLen x = m at *; omega
set_option maxHeartbeats 4000000 in
theorem brkU_z (E : Nat → Addr) (l : List Int) (n k a b : Nat) (h : n = l.length ∧ a < b ∧ b ≤ l.length ∧ 12 < b - a ∧ b - a < 50 ∧ l.length ≤ 1000000) : Does (Gm E) 169 ⟨[.sl 0 n k, .int .i64 ((a : Nat) : Int), .int .i64 ((b : Nat) : Int)], [(0, .arr Int encU 56 l k)], 1, 1, List Int, fun c => SameI l c a b, fun c => .tup [], fun c => [(0, .arr Int encU 56 c k)]⟩ := by
  obtain ⟨rfl, hab, hb, h12, h50, hm⟩ := h; have ed : ((b : Int) - a).tdiv 4 = (((b - a) / 4 : Nat) : Int) := by rw [Int.tdiv_eq_ediv_of_nonneg (by omega)]; omega
  refine fn_intro (gmOk E) 65 1 [10] Tryz.func169 rfl rfl rfl rfl rfl ?_
  repeat' first | (change CallGoal _ _ _ _ _ _; first | (change CallGoal _ 178 _ _ _ _; first | (refine call_args [.int .i64 (((b - a) : Nat) : Int)] (fun _ => bdLB_ok _ rfl) (fun En V w hp => by simp only [SV.denL, SV.den]; rw [show ((b : Nat) : Int) - ((a : Nat) : Int) = ((b - a : Nat) : Int) by omega]) ?_; change CallGoal _ _ _ _ _ _; refine call0 (npw_z E (b - a) ⟨by omega, by omega⟩) [] rfl True.intro rfl ?_))) | exact placedPr_ok | (change DrawGoal _ _ _ _ _ _; first | (change DrawGoal _ _ _ [_, _, _, _, _, _, _, _, _, _, _, _, _, _, _, _, _, _, _, _] _ _; refine draw_weak (gmOk E) 0 [] (.alt [(0, true), (1, true), (2, true), (3, true), (4, true), (5, true), (6, true), (7, true), (8, true), (9, true), (10, true), (12, true), (13, true), (14, true)] (.leaf [(11, false), (15, false), (16, true), (17, false), (18, true), (19, false)]) (.leaf [(15, false), (11, false), (16, true), (17, false), (18, true), (19, false)])) (by kernel_rfl) rfl ?_ ?_)) | with_reducible rfl | (intro h; first | (exfalso; omega; done) | (exfalso; omega; done) | skip) | (refine And.intro ?_ ?_) | exact True.intro | (refine @Exists.intro Unit _ () ?_) | (refine @Exists.intro (_ = _) _ rfl ?_) | (change NextGoal _ _ _; refine next_go ?_) | (change LoopGoal _ _ _ _ _ _; refine loop_keep 5 [0, 1, 6, 7, 8] (gmOk E) rfl [10] (X := (Nat × Int × List Int)) (fun x => [(9, .int .i64 ((x.1 : Nat) : Int))]) (fun x => [(0, .arr Int encU 56 x.2.2 k), (1, .cells 256 [.int .u64 x.2.1])]) [] (fun x => (a + (b - a) / 4 * 2 - 1 ≤ x.1 ∧ x.1 ≤ a + (b - a) / 4 * 2 + 2) ∧ SameI l x.2.2 a b) (fun x => a + (b - a) / 4 * 2 + 2 - x.1) ⟨(a + (b - a) / 4 * 2 - 1, IntKind.u64.wrap (((b : Nat) : Int) - ((a : Nat) : Int)), l), ?_⟩ (fun x hI => ?_)) | (change @Exists ((Nat × Int × List Int)) (fun _ => updPK _ _ _ _ _ _); refine @Exists.intro ((Nat × Int × List Int)) _ ((x.1 + 1, y, swapI x.2.2 x.1 (((a : Nat) : Int) + j1.1).toNat)) ?_) | (change JoinGoal _ _ _ _ _ _ _ _; refine join_keep 10 [0, 1, 6, 7, 8, 9, 33] (gmOk E) rfl (X := (Int × Fin 1)) (fun j1 => [(10, .int .i64 j1.1)]) (fun j1 => []) [] (fun j1 => 0 ≤ j1.1 ∧ j1.1 < b - a) ?_ (fun j1 hj1 => ?_)) | (change @Exists ((Int × Fin 1)) (fun _ => updPK _ _ _ _ _ _); refine @Exists.intro ((Int × Fin 1)) _ ((?_, 0)) ?_; rotate_left 1) | (refine @Exists.intro (List Int) _ ?_ ?_; rotate_left) | (change CallGoal _ _ _ _ _ _; first | (refine call_rule (xor_z E x.2.1) [1] rfl (And.intro rfl True.intro) rfl (fun (y : Int) hy => ?_)))
  all_goals skip
  all_goals (have pq := pw_len (b - a) (by omega) (by omega))
  all_goals first | (dsimp only; rfl) | rfl | skip
  all_goals try ((try dsimp only at *); (try simp only [Int.toNat_natCast, gD, sw_eq, List.length_set, swapI_len, ed] at *))
  all_goals (try have ff0 := hI.2.len); (try have ff1 := (rnd_in (x := b - a) hy (by omega) (by omega))); first | done | rfl | omega | (generalize 2 ^ Go.Sort.bitsLen (b - a) = mm at *; first | omega | (constructor <;> omega)) | (constructor <;> omega) | assumption | exact hI.2 | exact SameI.refl _ _ _ | exact hI.2.swap ⟨by omega, by omega⟩ ⟨by omega, by omega⟩ (by omega)
theorem BelI.less {c : List Int} {a b b2 : Nat} (h : BelI c a b) (hb : b2 ≤ b) : BelI c a b2 := ⟨fun h0 p h1 h2 => h.le h0 p h1 (by omega)⟩
theorem PartI.bel {c : List Int} {a b m : Nat} (h : PartI c a b m) : BelI c (m + 1) b := ⟨fun _ p h1 h2 => h.more p (by omega) h2⟩
theorem bel_all {c : List Int} {a b pv : Nat} (h : BelI c a b) (h0 : 0 < a) (hn : ¬ gI c ((a : Int) - 1).toNat < gI c pv) (q : Nat) (h1 : a ≤ q) (h2 : q < b) : gI c pv ≤ gI c q := by
  have := h.le h0 q h1 h2
  rw [show ((a : Int) - 1).toNat = a - 1 by omega] at hn; omega
set_option maxHeartbeats 4000000 in
theorem pdqU_s (E : Nat → Addr) (l : List Int) (n k a b : Nat) (y : Int) (ih : ∀ (l : List Int) (n k a2 b2 : Nat) (y : Int), b2 - a2 < b - a → n = l.length ∧ a2 ≤ b2 ∧ b2 ≤ l.length ∧ l.length ≤ 49 ∧ BelI l a2 b2 ∧ (0 ≤ y ∧ y ≤ 100) → Does (Gm E) 146 ⟨[.sl 0 n k, .int .i64 ((a2 : Nat) : Int), .int .i64 ((b2 : Nat) : Int), .int .i64 y], [(0, .arr Int encU 56 l k)], 1, 1, List Int, fun c => SameI l c a2 b2 ∧ OrdI c a2 b2, fun _ => .tup [], fun c => [(0, .arr Int encU 56 c k)]⟩) (h : n = l.length ∧ a ≤ b ∧ b ≤ l.length ∧ l.length ≤ 49 ∧ BelI l a b ∧ (0 ≤ y ∧ y ≤ 100)) : Does (Gm E) 146 ⟨[.sl 0 n k, .int .i64 ((a : Nat) : Int), .int .i64 ((b : Nat) : Int), .int .i64 y], [(0, .arr Int encU 56 l k)], 1, 1, List Int, fun c => SameI l c a b ∧ OrdI c a b, fun _ => .tup [], fun c => [(0, .arr Int encU 56 c k)]⟩ := by
  obtain ⟨rfl, hab, hb, hm, hbel, hy⟩ := h
  refine fn_intro (gmOk E) 134 1 [10, 15, 17] Tryz.func146 rfl rfl rfl rfl rfl ?_
  repeat' first | (change CallGoal _ _ _ _ _ _; first | (change CallGoal _ 167 _ _ _ _; first | (refine call_rule (insU_z E x.2.2.2.2.2 _ k x.1 x.2.1 ⟨?_, ?_, ?_, ?_⟩) [0] rfl (And.intro rfl True.intro) rfl (fun (ci : List Int) hci => ?_))) | (change CallGoal _ 168 _ _ _ _; first | (refine call_rule (heapU_z E x.2.2.2.2.2 _ k x.1 x.2.1 ⟨?_, ?_, ?_, ?_, ?_⟩) [0] rfl (And.intro rfl True.intro) rfl (fun (ch : List Int) hch => ?_))) | (change CallGoal _ 169 _ _ _ _; first | (refine call_rule (brkU_z E x.2.2.2.2.2 _ k x.1 x.2.1 ⟨?_, ?_, ?_, ?_, ?_, ?_⟩) [0] rfl (And.intro rfl True.intro) rfl (fun (cb : List Int) hcb => ?_))) | (change CallGoal _ 170 _ _ _ _; first | (refine call_rule (pivU_z E j1.1 _ k x.1 x.2.1 ⟨?_, ?_, ?_, ?_, ?_, ?_⟩) [0] rfl (And.intro rfl True.intro) rfl (fun (yv : Nat × Int) hyv => ?_))) | (change CallGoal _ 171 _ _ _ _; first | (refine call_rule (revU_z E j1.1 _ k x.1 x.2.1 ⟨?_, ?_, ?_, ?_⟩) [0] rfl (And.intro rfl True.intro) rfl (fun (cr : List Int) hcr => ?_))) | (change CallGoal _ 172 _ _ _ _; first | (refine call_rule (pinsU_z E j2.1 _ k x.1 x.2.1 ⟨?_, ?_, ?_, ?_, ?_⟩) [0] rfl (And.intro rfl True.intro) rfl (fun (bp : Bool) hbp => ?_))) | (change CallGoal _ 174 _ _ _ _; first | (refine call_rule (parteU_z E j2.1 _ k x.1 x.2.1 j2.2.1 ⟨?_, ?_, ?_, ?_, ?_, ?_⟩) [0] rfl (And.intro rfl True.intro) rfl (fun (ye : Nat × List Int) hye => ?_))) | (change CallGoal _ 175 _ _ _ _; first | (refine call_rule (partU_z E j2.1 _ k x.1 x.2.1 j2.2.1 ⟨?_, ?_, ?_, ?_, ?_⟩) [0] rfl (And.intro rfl True.intro) rfl (fun (yp : Nat × List Int × Bool) hyp => ?_))) | (change CallGoal _ 146 _ _ _ _; first | ((have _hlt : ((yp.1 : Nat) : Int) - ((x.1 : Nat) : Int) < ((x.2.1 : Nat) : Int) - ((yp.1 : Nat) : Int) := by assumption); refine call_rule (ih yp.2.1 _ k x.1 yp.1 j1.2.1 ?_ ⟨?_, ?_, ?_, ?_, ?_, ?_⟩) [0] rfl (And.intro rfl True.intro) rfl (fun (cL : List Int) hcL => ?_)) | (refine call_args [.sl 0 l.length k, .int .i64 (((yp.1 + 1) : Nat) : Int), .int .i64 ((x.2.1 : Nat) : Int), .int .i64 j1.2.1] (fun _ => bdLB_ok _ rfl) (fun En V w hp => by simp only [SV.denL, SV.den, Int.natCast_add]; rfl) ?_; change CallGoal _ _ _ _ _ _; refine call_rule (ih yp.2.1 _ k (yp.1 + 1) x.2.1 j1.2.1 ?_ ⟨?_, ?_, ?_, ?_, ?_, ?_⟩) [0] rfl (And.intro rfl True.intro) rfl (fun (cR : List Int) hcR => ?_)))) | (change @Exists (Nat × Nat × Int × Bool × Bool × List Int) (fun _ => updPK _ _ _ _ _ _); first | (have _ := hye; refine @Exists.intro (Nat × Nat × Int × Bool × Bool × List Int) _ (ye.1, x.2.1, j1.2.1, x.2.2.2.1, x.2.2.2.2.1, ye.2) ?_) | (have _ := hcL; refine @Exists.intro (Nat × Nat × Int × Bool × Bool × List Int) _ (yp.1 + 1, x.2.1, j1.2.1, ?_, yp.2.2, cL) ?_; rotate_left) | (have _ := hcR; refine @Exists.intro (Nat × Nat × Int × Bool × Bool × List Int) _ (x.1, yp.1, j1.2.1, ?_, yp.2.2, cR) ?_; rotate_left) | (refine @Exists.intro (Nat × Nat × Int × Bool × Bool × List Int) _ (a, b, y, true, true, l) ?_)) | (change @Exists (List Int × Int × Fin 1) (fun _ => updPK _ _ _ _ _ _); first | (have _ := hcb; refine @Exists.intro (List Int × Int × Fin 1) _ (cb, x.2.2.1 - 1, 0) ?_) | (refine @Exists.intro (List Int × Int × Fin 1) _ (x.2.2.2.2.2, x.2.2.1, 0) ?_)) | (change @Exists (List Int × Nat × Int × Fin 2) (fun _ => updPK _ _ _ _ _ _); first | (have _ := hcr; refine @Exists.intro (List Int × Nat × Int × Fin 2) _ (cr, x.2.1 - 1 - (yv.1 - x.1), 1, 0) ?_) | (refine @Exists.intro (List Int × Nat × Int × Fin 2) _ (j1.1, yv.1, yv.2, 0) ?_)) | with_reducible rfl | (intro h; first | (exfalso; omega; done) | (exfalso; omega; done) | skip) | (refine And.intro ?_ ?_) | exact True.intro | (refine @Exists.intro Unit _ () ?_) | (refine @Exists.intro (_ = _) _ rfl ?_) | (change NextGoal _ _ _; refine next_go ?_) | (change LoopGoal _ _ _ _ _ _; refine loop_keep 2 [0] (gmOk E) rfl [10, 15, 17] (X := (Nat × Nat × Int × Bool × Bool × List Int)) (fun x => [(1, .int .i64 ((x.1 : Nat) : Int)), (2, .int .i64 ((x.2.1 : Nat) : Int)), (3, .int .i64 x.2.2.1), (8, .bl x.2.2.2.1), (9, .bl x.2.2.2.2.1)]) (fun x => [(0, .arr Int encU 56 x.2.2.2.2.2 k)]) [] (fun x => PdqI l x.2.2.2.2.2 a b x.1 x.2.1 ∧ (0 ≤ x.2.2.1 ∧ x.2.2.1 ≤ 100)) (fun x => x.2.1 - x.1) ⟨(a, b, y, true, true, l), ?_⟩ (fun x hI => ?_)) | (change @Exists ((Nat × Nat × Int × Bool × Bool × List Int)) (fun _ => updPK _ _ _ _ _ _); refine @Exists.intro ((Nat × Nat × Int × Bool × Bool × List Int)) _ (x) ?_) | (change JoinGoal _ _ _ _ _ _ _ _; refine join_keep 10 [0, 1, 2, 8, 9, 10, 23, 29] (gmOk E) rfl (X := (List Int × Int × Fin 1)) (fun j1 => [(3, .int .i64 j1.2.1)]) (fun j1 => [(0, .arr Int encU 56 j1.1 k)]) [] (fun j1 => PdqI l j1.1 a b x.1 x.2.1 ∧ (0 ≤ j1.2.1 ∧ j1.2.1 ≤ 100)) ?_ (fun j1 hj1 => ?_)) | (change @Exists ((List Int × Int × Fin 1)) (fun _ => updPK _ _ _ _ _ _); refine @Exists.intro ((List Int × Int × Fin 1)) _ ((?_, ?_, 0)) ?_; rotate_left 2) | (change JoinGoal _ _ _ _ _ _ _ _; refine join_keep 15 [0, 1, 2, 3, 8, 9, 10, 23, 29, 35] (gmOk E) rfl (X := (List Int × Nat × Int × Fin 2)) (fun j2 => [(11, .int .i64 ((j2.2.1 : Nat) : Int)), (12, .int .i64 j2.2.2.1)]) (fun j2 => [(0, .arr Int encU 56 j2.1 k)]) [] (fun j2 => PdqI l j2.1 a b x.1 x.2.1 ∧ x.1 ≤ j2.2.1 ∧ j2.2.1 < x.2.1) ?_ (fun j2 hj2 => ?_)) | (change @Exists ((List Int × Nat × Int × Fin 2)) (fun _ => updPK _ _ _ _ _ _); refine @Exists.intro ((List Int × Nat × Int × Fin 2)) _ ((?_, ?_, ?_, 0)) ?_; rotate_left 3) | (change JoinGoal _ _ _ _ _ _ _ _; refine join_keep 17 [0, 1, 2, 3, 8, 9, 10, 11, 12, 23, 29, 35, 50] (gmOk E) rfl (X := (Fin 3)) (fun j3 => []) (fun j3 => []) [] (fun j3 => True) ?_ (fun j3 hj3 => ?_)) | (change @Exists ((Fin 3)) (fun _ => updPK _ _ _ _ _ _); refine @Exists.intro ((Fin 3)) _ (0) ?_) | (change DrawGoal _ _ _ _ _ _; first | (change DrawGoal _ _ _ ({ dst := some 73, op := _, type := _, pos := _, after := _, guard := _ } :: _) _ _; refine draw_tree (gmOk E) [0] (.leaf [(0, true), (1, true), (2, true), (3, true), (4, true), (5, true), (6, true), (7, true), (8, true), (9, true), (10, true), (11, true), (12, false), (13, true), (14, true)]) (by kernel_rfl) ?_)) | (refine @Exists.intro (List Int) _ ?_ ?_; rotate_left) | (change CallGoal _ _ _ _ _ _; first | (refine call0 (lessU_z E _ _) [] rfl True.intro rfl ?_))
  all_goals skip
  all_goals first | (dsimp only; rfl) | rfl | skip
  all_goals try ((try dsimp only at *); (try simp only [Int.toNat_natCast, gD, sw_eq, List.length_set, swapI_len] at *))
  all_goals (try have ff0 := hI.1.lo); (try have ff1 := hI.1.mid); (try have ff2 := hI.1.hi); (try have ff3 := hI.1.clen); (try have ff4 := hj1.1.clen); (try have ff5 := hj2.1.clen); (try have ff6 := hyp.1.len); (try have ff7 := hyp.2.lo); (try have ff8 := hyp.2.hi); (try have ff9 := hye.1.len); (try have ff10 := hye.2.lo); (try have ff11 := hye.2.hi); (try have ff12 := Int.tdiv_eq_ediv_of_nonneg (a := ((x.2.1 : Nat) : Int) - ((x.1 : Nat) : Int)) (b := 8) (by omega)); first | done | rfl | omega | (constructor <;> omega) | assumption | exact PdqI.start hab hb hbel | exact hI.1 | exact hI.2 | exact hj1.1 | exact hj1.2 | exact hj2.1 | exact (hj2.1.turn hye.1).equal hye.2 | exact hj1.1.turn hcr | exact hI.1.turn hcb | exact (hj2.1.turn hyp.1).right hyp.2 hcL.1 hcL.2 | exact (hj2.1.turn hyp.1).left hyp.2 hcR.1 hcR.2 | exact (hI.1.done hci.1 hci.2).1 | exact (hI.1.done hci.1 hci.2).2 | exact (hI.1.done hch.1 hch.2).1 | exact (hI.1.done hch.1 hch.2).2 | exact (hj2.1.done (SameI.refl _ _ _) (hbp (by assumption))).1 | exact (hj2.1.done (SameI.refl _ _ _) (hbp (by assumption))).2 | exact (hj2.1.turn hyp.1).bel.less (by omega) | exact hyp.2.bel | exact bel_all hj2.1.bel (by omega) (by omega) _ (by assumption) (by assumption)
theorem pdqU_z (E : Nat → Addr) : ∀ (m : Nat) (l : List Int) (n k a b : Nat) (y : Int), b - a ≤ m → n = l.length ∧ a ≤ b ∧ b ≤ l.length ∧ l.length ≤ 49 ∧ BelI l a b ∧ (0 ≤ y ∧ y ≤ 100) → Does (Gm E) 146 ⟨[.sl 0 n k, .int .i64 ((a : Nat) : Int), .int .i64 ((b : Nat) : Int), .int .i64 y], [(0, .arr Int encU 56 l k)], 1, 1, List Int, fun c => SameI l c a b ∧ OrdI c a b, fun _ => .tup [], fun c => [(0, .arr Int encU 56 c k)]⟩ := by
  intro m
  induction m with
  | zero => exact fun l n k a b y hm h => pdqU_s E l n k a b y (fun l2 n2 k2 a2 b2 y2 hlt h2 => by omega) h
  | succ m ih => exact fun l n k a b y hm h => pdqU_s E l n k a b y (fun l2 n2 k2 a2 b2 y2 hlt h2 => ih l2 n2 k2 a2 b2 y2 (by omega) h2) h
theorem len_in {n : Nat} (h : n ≤ 49) : 0 ≤ ((Go.Sort.bitsLen n : Nat) : Int) ∧ ((Go.Sort.bitsLen n : Nat) : Int) ≤ 100 := by
  have : ∀ n : Nat, n ≤ 49 → Go.Sort.bitsLen n ≤ 6 := (by decide +kernel)
  have := this n h
  omega
set_option maxHeartbeats 4000000 in
theorem sortU_z (E : Nat → Addr) (l : List Int) (n k : Nat) (h : n = l.length ∧ l.length ≤ 49) : Does (Gm E) 107 ⟨[.sl 0 n k], [(0, .arr Int encU 56 l k)], 1, 1, List Int, fun c => c.Perm l ∧ OrdI c 0 l.length, fun _ => .tup [], fun c => [(0, .arr Int encU 56 c k)]⟩ := by
  obtain ⟨rfl, hm⟩ := h
  refine fn_intro (gmOk E) 11 1 [] Tryz.func107 rfl rfl rfl rfl rfl ?_
  repeat' first | (change CallGoal _ _ _ _ _ _; first | (change CallGoal _ 142 _ _ _ _; first | (refine call_args [.int .u64 ((l.length : Nat) : Int)] (fun _ => bdLB_ok _ rfl) (fun En V w hp => by rw [fitP_wrap (k := .u64) (show 0 ≤ ((l.length : Nat) : Int) ∧ ((l.length : Nat) : Int) ≤ 18446744073709551615 by omega)]) ?_; change CallGoal _ _ _ _ _ _; refine call0 (lenX_z E l.length (by omega)) [] rfl True.intro rfl ?_))) | (intro h; first | (exfalso; omega; done) | skip) | (refine And.intro ?_ ?_) | exact True.intro | (refine @Exists.intro Unit _ () ?_) | (refine @Exists.intro (_ = _) _ rfl ?_) | (refine @Exists.intro (List Int) _ ?_ ?_; rotate_left) | (change CallGoal _ _ _ _ _ _; first | (refine call_rule (pdqU_z E l.length l _ k 0 l.length _ (by omega) ⟨rfl, by omega, by omega, by omega, ⟨fun h => absurd h (Nat.lt_irrefl 0)⟩, len_in hm⟩) [0] rfl (And.intro rfl True.intro) rfl (fun (c : List Int) hc => ?_)))
  all_goals first | rfl | omega | exact hc.1.perm | exact hc.2
end Go.Proofs.YtcnbngiplfoomaaGreatDoor
namespace Go.Proofs.YtcnbngiplfoomaaGreatDoor
open Go.Zz Go.Px
set_option linter.unusedVariables false
set_option linter.unusedSectionVars false
set_option linter.unusedSimpArgs false
set_option maxRecDepth 10000
set_option maxHeartbeats 4000000 in
theorem sortedU_z (E : Nat → Addr) (L : List (Int × Option Nat)) (h : L.length ≤ 49) : Does (Gm E) 66 ⟨[.fn 108 [.ptr 0 0]], [(0, .cells 104 [.mp 1]), (1, .pr (mapPr veU veP L))], 2, 3, List Int × Nat, fun x => (x.1.Perm (L.map (·.1)) ∧ OrdI x.1 0 x.1.length) ∧ x.1.length ≤ x.2, fun x => .sl 2 x.1.length x.2, fun x => [(0, .cells 104 [.mp 1]), (1, .pr (mapPr veU veP L)), (2, .arr Int encU 56 x.1 x.2)]⟩ := by
  refine fn_intro (gmOk E) 9 2 [] Tryz.func66 rfl rfl rfl rfl rfl ?_
  repeat' first | (intro h; first | (exfalso; omega; done) | skip) | (refine And.intro ?_ ?_) | exact True.intro | (refine @Exists.intro Unit _ () ?_) | (refine @Exists.intro (_ = _) _ rfl ?_) | (refine @Exists.intro (List Int × Nat) _ (c, x.2) ?_) | (change CallGoal _ _ _ _ _ _; first | (refine call_rule (collU_z E L (by omega)) [0, 1] rfl (And.intro rfl (And.intro rfl True.intro)) rfl (fun (x : List Int × Nat) (hx : x.1.Perm (L.map (·.1)) ∧ x.1.length ≤ x.2) => ?_)) | (refine call_rule (sortU_z E x.1 _ x.2 ⟨rfl, by have q := hx.1.length_eq; rw [List.length_map] at q; omega⟩) [2] rfl (And.intro rfl True.intro) rfl (fun (c : List Int) hc => ?_)))
  all_goals first | rfl | omega | exact hc.1.trans hx.1 | (have q := hc.1.length_eq; exact q ▸ hc.2) | (rw [hc.1.length_eq]; first | exact hc.2 | exact hx.2) | exact hc.1.length_eq.symm
set_option maxHeartbeats 4000000 in
theorem sMasksA (E : Nat → Addr) (Q : List (PRow Int)) (R : List Ey) (h : (masksR R).length ≤ 49) : Does (Gm E) 20 ⟨[.ptr 0 0], [(0, .pr (storePr E Q R))], 1, 2, Nat, fun q => (masksR R).length ≤ q, fun q => .sl 1 (masksR R).length q, fun q => [(0, .pr (storePr E Q R)), (1, .arr Int encU 56 (masksR R) q)]⟩ := by
  rename _ ≤ 49 => hm
  refine DoesC.does (fn_start Tryz.func20 rfl rfl rfl ?_)
  change EntryGoal _ _ _ _ _
  refine entryG.ex 0 rfl (fun x hx => ?_)
  change EntryGoal _ _ _ _ _
  refine entryG.open_ 0 rfl 5 rfl rfl ?_
  change EntryGoal _ _ _ _ _
  refine entry_go (gmOk E) 9 1 [] Tryz.func20 rfl rfl rfl rfl ?_
  repeat' first | (change RetGoal _ _ _ _ _; first | (have hc := hx.masks (hy.1.1.trans (by rw [show ((ptrL (x.1.map (fun y : Int × List Ey => y.1)) x.2.2.2).map (·.1)) = _ from ptrL_keys])) hy.1.2; refine retG'.cast 7 (.arr Int encU 56 (masksR R) y.2) rfl (by rw [hc]) ?_; change RetGoal _ _ _ _ _; (refine retG'.shut (Γ0 := Gm E) rfl (.cells 108 [.mp 1, .mp 2, .mp 3]) [(1, .pr (mapPr veU veP (ptrL ((x).1.map (fun y : Int × List Ey => y.1)) (x).2.2.2))), (2, .pr (mapPr (Enc.ag (Zz.encP Zz.encI Zz.encI)) vePl (placL (x).2.1 (x).2.2.2))), (3, .pr (mapPr (Enc.ag (Zz.encP encU Zz.encI)) veU (x).2.2.1)), (4, .pr (restPr (tabP E Q) (tabL (x).1) (x).2.2.2))] [0, 2, 3, 4, 5] (And.intro rfl (And.intro rfl (And.intro rfl (And.intro rfl (And.intro rfl True.intro))))) rfl ?_; change RetGoal _ _ _ _ _; refine retG'.hide (X := XT) (p := XOk R) (Φ := fun x => grp (Gm E) (stoH E Q x)) 0 (x) (hx) rfl ?_; change RetGoal _ _ _ _ _; refine ret_done rfl ?_))) | (intro h; first | (exfalso; omega; done) | skip) | (refine And.intro ?_ ?_) | exact True.intro | (refine @Exists.intro Unit _ () ?_) | (refine @Exists.intro (_ = _) _ rfl ?_) | (refine @Exists.intro (Nat) _ ?_ ?_; rotate_left) | (change CallGoal _ _ _ _ _ _; first | (refine call_rule (keysU_z E (ptrL (x.1.map (fun y : Int × List Ey => y.1)) x.2.2.2)) [2] rfl (And.intro rfl True.intro) rfl (fun y1 hy1 => ?_)) | (refine call_rule (sortedU_z E (ptrL (x.1.map (fun y : Int × List Ey => y.1)) x.2.2.2) (by rw [keys_len, hx.tlen]; exact hm)) [6, 2] rfl (And.intro rfl (And.intro rfl True.intro)) rfl (fun (y : List Int × Nat) hy => ?_)))
  all_goals first | rfl | omega | (rw [hc]; done) | (have q := hy.2; rw [hc] at q; exact q)
end Go.Proofs.YtcnbngiplfoomaaGreatDoor
namespace Go.Proofs.YtcnbngiplfoomaaGreatDoor
open Go.Zz Go.Px
set_option linter.unusedVariables false
set_option linter.unusedSectionVars false
set_option linter.unusedSimpArgs false
set_option maxRecDepth 10000
section
variable {Qv : List (PRow V3)} {n i : Nat} {R : List Ey} {h : Hd} {m : Int}
theorem mem_inR : h ∈ inR R m ↔ ∃ r, (h, r) ∈ R ∧ mkI r = m := by
  unfold inR
  simp only [List.mem_map, List.mem_filter, decide_eq_true_eq]
  constructor
  · rintro ⟨e, ⟨h1, h2⟩, rfl⟩; exact ⟨e.2, h1, h2⟩
  · rintro ⟨r, h1, h2⟩; exact ⟨(h, r), ⟨h1, h2⟩, rfl⟩
theorem any_mask (hR : ∀ e ∈ R, rightV e.2 = true) (hi : i < (masksR R).length) : anyM R ((masksR R).getD i 0) = true := by
  have h1 : (masksR R).getD i 0 ∈ masksR R := by rw [List.getD_eq_getElem?_getD, List.getElem?_eq_getElem hi]; exact List.getElem_mem _
  obtain ⟨e, he, q⟩ := (mem_masksR hR).1 h1
  unfold anyM; exact List.any_eq_true.2 ⟨e, he, by simpa using q⟩
theorem inR_len : (inR R m).length ≤ R.length := by unfold inR; rw [List.length_map]; exact List.length_filter_le _ _
end
end Go.Proofs.YtcnbngiplfoomaaGreatDoor
namespace Go.Proofs.YtcnbngiplfoomaaGreatDoor
open Go.Zz Go.Px
set_option linter.unusedVariables false
set_option linter.unusedSectionVars false
set_option linter.unusedSimpArgs false
set_option maxRecDepth 10000
section
variable {R : List Ey} {w x M : Nat} {i : Nat} {h : Hd}
def fitsN (M w x : Nat) : Bool := decide (lessN w M = 0) && decide (M &&& x = 0)
def qR (R : List Ey) (w x : Nat) : List (Int × Int) := (R.filter fun e => fitsN (maskN e.2) w x).map fun e => e.1
def accH (R : List Ey) (w x : Nat) (i : Nat) : List (Int × Int) := ((masksR R).take i).flatMap fun m => if fitsN m.toNat w x = true then inR R m else []
theorem accH_next (hi : i < (masksR R).length) : accH R w x (i + 1) = accH R w x i ++ (if fitsN ((masksR R).getD i 0).toNat w x = true then inR R ((masksR R).getD i 0) else []) := by
  unfold accH; rw [take_snoc (d := 0) hi, List.flatMap_append]; simp
theorem accH_len : (accH R w x i).length ≤ i * R.length := by
  induction i with
  | zero => simp [accH]
  | succ i ih =>
    by_cases hi : i < (masksR R).length
    · rw [accH_next hi, List.length_append, Nat.succ_mul]
      have : (if fitsN ((masksR R).getD i 0).toNat w x = true then inR R ((masksR R).getD i 0) else []).length ≤ R.length := by
        split
        · exact inR_len
        · simp
      omega
    · unfold accH at ih ⊢
      rw [List.take_of_length_le (by omega)] at ih ⊢
      rw [Nat.succ_mul]; omega
theorem mask_nat (hr : ∀ e ∈ R, rightV e.2 = true) (hi : i < (masksR R).length) : ∃ M : Nat, (masksR R).getD i 0 = (M : Int) ∧ anyM R (M : Int) = true ∧ M < 1024 := by
  have h1 : (masksR R).getD i 0 ∈ masksR R := by rw [List.getD_eq_getElem?_getD, List.getElem?_eq_getElem hi]; exact List.getElem_mem _
  obtain ⟨e, he, q⟩ := (mem_masksR hr).1 h1
  refine ⟨maskN e.2, q.symm, ?_, maskN_lt (right_kinds (hr e he))⟩
  unfold anyM; exact List.any_eq_true.2 ⟨e, he, by simp [mkI]⟩
theorem qR_rises (hs : Rises ltE R) : Rises ltH (qR R w x) := by
  unfold qR Rises; exact List.Pairwise.map _ (fun a b h => h) (List.Pairwise.filter _ hs)
theorem qR_eq (hs : Rises ltE R) (hr : ∀ e ∈ R, rightV e.2 = true) (hi : ¬ i < (masksR R).length) : ordS ltH (accH R w x i) = qR R w x := by
  refine Rises.ext ordH (ordS_rises ordH _) (qR_rises hs) fun h => ?_
  rw [mem_ordS]
  unfold accH qR
  rw [List.take_of_length_le (by omega), List.mem_flatMap]
  simp only [List.mem_map, List.mem_filter]
  constructor
  · rintro ⟨m, hm, q⟩
    split at q
    · rename_i hf
      obtain ⟨r, h1, h2⟩ := mem_inR.1 q
      refine ⟨(h, r), ⟨h1, ?_⟩, rfl⟩
      rw [← h2] at hf; exact hf
    · cases q
  · rintro ⟨e, ⟨h1, h2⟩, rfl⟩
    exact ⟨mkI e.2, (mem_masksR hr).2 ⟨e, h1, rfl⟩, by rw [if_pos (show fitsN (mkI e.2).toNat w x = true from h2)]; exact mem_inR.2 ⟨e.2, h1, rfl⟩⟩
theorem qR_len : (qR R w x).length ≤ R.length := by unfold qR; rw [List.length_map]; exact List.length_filter_le _ _
end
set_option maxHeartbeats 4000000 in
theorem holds_z (E : Nat → Addr) (M w : Nat) (h : M < 2 ^ 64 ∧ w < 2 ^ 64) : Does (Gm E) 129 (Sp0 [.int .u64 ((M : Nat) : Int), .int .u64 ((w : Nat) : Int)] [] 0 (.bl (decide (lessN w M = 0)))) := by
  refine fn_intro (gmOk E) 9 0 [] Tryz.func129 rfl rfl rfl rfl rfl ?_
  repeat' first | (intro h; first | (exfalso; omega; done) | skip) | (refine And.intro ?_ ?_) | exact True.intro | (refine @Exists.intro Unit _ () ?_) | (refine @Exists.intro (_ = _) _ rfl ?_)
  all_goals first | rfl | omega | (rw [bitI_less h.2 h.1]; exact decide_eq_decide.2 (by omega))
set_option maxHeartbeats 4000000 in
theorem meets_z (E : Nat → Addr) (M x : Nat) (h : M < 2 ^ 64 ∧ x < 2 ^ 64) : Does (Gm E) 130 (Sp0 [.int .u64 ((M : Nat) : Int), .int .u64 ((x : Nat) : Int)] [] 0 (.bl (!decide (M &&& x = 0)))) := by
  refine fn_intro (gmOk E) 9 0 [] Tryz.func130 rfl rfl rfl rfl rfl ?_
  repeat' first | (intro h; first | (exfalso; omega; done) | skip) | (refine And.intro ?_ ?_) | exact True.intro | (refine @Exists.intro Unit _ () ?_) | (refine @Exists.intro (_ = _) _ rfl ?_)
  all_goals first | rfl | omega | (rw [bitI_and h.1 h.2, ← decide_not]; exact decide_eq_decide.2 (by omega))
set_option maxHeartbeats 4000000 in
theorem fits_z (E : Nat → Addr) (M w x : Nat) (h : M < 2 ^ 64 ∧ w < 2 ^ 64 ∧ x < 2 ^ 64) : Does (Gm E) 92 (Sp0 [.int .u64 ((M : Nat) : Int), .int .u64 ((w : Nat) : Int), .int .u64 ((x : Nat) : Int)] [] 0 (.bl (fitsN M w x))) := by
  have h0 := h
  refine fn_intro (gmOk E) 16 0 [] Tryz.func92 rfl rfl rfl rfl rfl ?_
  repeat' first | (intro h; first | (exfalso; omega; done) | skip) | (refine And.intro ?_ ?_) | exact True.intro | (refine @Exists.intro Unit _ () ?_) | (refine @Exists.intro (_ = _) _ rfl ?_) | (change CallGoal _ _ _ _ _ _; first | (refine call0 (holds_z E M w ⟨h0.1, h0.2.1⟩) [] rfl True.intro rfl ?_) | (refine call0 (meets_z E M x ⟨h0.1, h0.2.2⟩) [] rfl True.intro rfl ?_))
  all_goals first | rfl | omega | (unfold fitsN; simp_all; done)
theorem acc_bd {R : List Ey} {w x i : Nat} (hi : i ≤ 49) (hR : R.length ≤ 128) : (accH R w x i).length ≤ 6272 := Nat.le_trans accH_len (Nat.mul_le_mul hi hR)
theorem acc_yes {R : List Ey} {w x i M : Nat} (hi : i < (masksR R).length) (hM : (masksR R).getD i 0 = (M : Int)) (hf : fitsN M w x = true) : accH R w x (i + 1) = accH R w x i ++ inR R (M : Int) := by rw [accH_next hi, hM, Int.toNat_natCast, if_pos hf]
theorem acc_no {R : List Ey} {w x i M : Nat} (hi : i < (masksR R).length) (hM : (masksR R).getD i 0 = (M : Int)) (hf : fitsN M w x = false) : accH R w x (i + 1) = accH R w x i := by rw [accH_next hi, hM, Int.toNat_natCast, if_neg (by rw [hf]; simp), List.append_nil]
set_option maxHeartbeats 4000000 in
theorem qHandles (E : Nat → Addr) (Q : List (PRow Int)) (R : List Ey) (w x : Nat) (h : (w < 2 ^ 64 ∧ x < 2 ^ 64) ∧ (R.length ≤ 128 ∧ (masksR R).length ≤ 49) ∧ Rises ltE R ∧ ∀ e ∈ R, rightV e.2 = true) : Does (Gm E) 42 ⟨[.agg [.int .u64 ((w : Nat) : Int), .int .u64 ((x : Nat) : Int)], .ptr 0 0], [(0, .pr (storePr E Q R))], 1, 2, Nat, fun q => (qR R w x).length ≤ q, fun q => .sl 1 (qR R w x).length q, fun q => [(0, .pr (storePr E Q R)), (1, .arr (Int × Int) (Zz.encP Zz.encI Zz.encI) 28 (qR R w x) q)]⟩ := by
  obtain ⟨hw, hR, hs, hr⟩ := h
  refine fn_intro (gmOk E) 29 1 [2, 5] Tryz.func42 rfl rfl rfl rfl rfl ?_
  repeat' first | (change CallGoal _ _ _ _ _ _; first | (change CallGoal _ 20 _ _ _ _; first | (refine call_rule (sMasksA E Q R hR.2) [0] rfl (And.intro rfl True.intro) rfl (fun (q1 : Nat) hq1 => ?_))) | (change CallGoal _ 28 _ _ _ _; first | (refine call_rule (sInY E Q R ((M : Nat) : Int) hany) [0] rfl (And.intro rfl True.intro) rfl (fun (q2 : Nat) hq2 => ?_))) | (change CallGoal _ 76 _ _ _ _; first | (refine call_rule (handles_z E (accH R w x y.1) _ y.2 ⟨rfl, by have := acc_bd (w := w) (x := x) (i := y.1) (by omega) hR.1; omega⟩) [2] rfl (And.intro rfl True.intro) rfl (fun (q3 : Nat) hq3 => ?_)))) | (change JoinGoal _ _ _ _ _ _ _ _; refine join_stop (gmOk E) ?_) | (change HereGoal _ _ _ _ _ _ _; refine here_at 2 rfl ?_; change HereGoal _ _ _ _ _ _ _; refine hereG.nilArr (Zz.encP Zz.encI Zz.encI) 28 ?_; change HereGoal _ _ _ _ _ _ _; refine here_set 5 (.sl 2 0 0) rfl (fun _ => by simp only [SV.bd]; omega) (fun En V w hp => by have q := says (c := 3) rfl hp; simp only [SV.denL, SV.den] at q ⊢; rw [q]) ?_; change HereGoal _ _ _ _ _ _ _; refine hereG.drop 3 ?_; change HereGoal _ _ _ _ _ _ _; refine here_go (gmOk E) ?_) | (change HereGoal _ _ _ _ _ _ _; refine here_at 5 rfl ?_; change HereGoal _ _ _ _ _ _ _; (obtain ⟨M, hM, hany, hlt⟩ := mask_nat hr (i := y.1) (by omega)); change HereGoal _ _ _ _ _ _ _; refine here_set 7 (.int .u64 ((M : Nat) : Int)) rfl (fun _ => trivial) (fun En V w hp => by simp only [SV.den]; exact congrArg (fun z => Value.int .u64 z) hM) ?_; change HereGoal _ _ _ _ _ _ _; refine here_go (gmOk E) ?_) | with_reducible rfl | (intro h; first | (exfalso; omega; done) | (exfalso; omega; done) | skip) | (refine And.intro ?_ ?_) | exact True.intro | (refine @Exists.intro Unit _ () ?_) | (refine @Exists.intro (_ = _) _ rfl ?_) | (change NextGoal _ _ _; refine next_go ?_) | (change LoopGoal _ _ _ _ _ _; refine loop_keep 3 [1, 2, 4, 9, 10] (gmOk E) rfl [2, 5] (X := (Nat × Nat)) (fun y => [(11, .int .i64 ((y.1 : Nat) : Int)), (5, .sl 2 (accH R w x y.1).length y.2)]) (fun y => [(2, .arr (Int × Int) (Zz.encP Zz.encI Zz.encI) 28 (accH R w x y.1) y.2)]) [] (fun y => y.1 ≤ (masksR R).length ∧ (accH R w x y.1).length ≤ y.2) (fun y => (masksR R).length - y.1) ⟨(0, 0), ?_⟩ (fun y hI => ?_)) | (change @Exists ((Nat × Nat)) (fun _ => updPK _ _ _ _ _ _); refine @Exists.intro ((Nat × Nat)) _ ((y.1 + 1, ?_)) ?_; rotate_left 1) | (refine @Exists.intro (Nat) _ ?_ ?_; rotate_left) | (change CallGoal _ _ _ _ _ _; first | (refine call0 (fits_z E M w x ⟨by omega, hw.1, hw.2⟩) [] rfl True.intro rfl ?_))
  all_goals first
| (dsimp only; first | rfl | omega)
| rfl
| omega
| exact Nat.zero_le _
| (have q := acc_bd (w := w) (x := x) (i := y.1) (by omega) hR.1; have q4 := inR_len (R := R) (m := (M : Int)); first | omega | (change _ * 16 ≤ _; omega))
| (dsimp only; rw [acc_no (by omega) hM (by assumption)]; done)
| (dsimp only; rw [acc_yes (by omega) hM (by assumption), List.length_append]; done)
| (dsimp only; rw [acc_yes (by omega) hM (by assumption), List.take_length, List.take_length]; done)
| (rw [qR_eq hs hr (i := y.1) (by omega)]; done)
| (rw [qR_eq hs hr (i := y.1) (by omega)] at hq3; exact hq3)
| exact hI.2
| (dsimp only; rw [acc_no (by omega) hM (by assumption)]; exact hI.2)
| (refine Nat.le_trans (Nat.le_of_eq ?_) (by assumption); dsimp only; rw [acc_yes (by omega) hM (by assumption), List.length_append])
end Go.Proofs.YtcnbngiplfoomaaGreatDoor
namespace Go.Proofs.YtcnbngiplfoomaaGreatDoor
open Go.Zz Go.Px
set_option linter.unusedVariables false
set_option linter.unusedSectionVars false
set_option linter.unusedSimpArgs false
set_option maxRecDepth 10000
set_option maxHeartbeats 4000000 in
theorem qCount (E : Nat → Addr) (Q : List (PRow Int)) (R : List Ey) (w x : Nat) (h : (w < 2 ^ 64 ∧ x < 2 ^ 64) ∧ (R.length ≤ 128 ∧ (masksR R).length ≤ 49) ∧ Rises ltE R ∧ ∀ e ∈ R, rightV e.2 = true) : Does (Gm E) 44 ⟨[.agg [.int .u64 ((w : Nat) : Int), .int .u64 ((x : Nat) : Int)], .ptr 0 0], [(0, .pr (storePr E Q R))], 1, 1, Unit, fun _ => True, fun _ => .int .i64 (((qR R w x).length : Nat) : Int), fun _ => [(0, .pr (storePr E Q R))]⟩ := by
  refine fn_intro (gmOk E) 9 1 [] Tryz.func44 rfl rfl rfl rfl rfl ?_
  repeat' first | (intro h; first | (exfalso; omega; done) | skip) | (refine And.intro ?_ ?_) | exact True.intro | (refine @Exists.intro Unit _ () ?_) | (refine @Exists.intro (_ = _) _ rfl ?_) | (change CallGoal _ _ _ _ _ _; first | (refine call_rule (qHandles E Q R w x h) [0] rfl (And.intro rfl True.intro) rfl (fun (q : Nat) hq => ?_)))
  all_goals first | rfl | omega
set_option maxHeartbeats 4000000 in
theorem qFits (E : Nat → Addr) (row : Rw) (n k w x : Nat) (h : (n = row.length ∧ row.length ≤ 1000000 ∧ ∀ v ∈ row, 0 ≤ v.k ∧ v.k ≤ 9) ∧ w < 2 ^ 64 ∧ x < 2 ^ 64) : Does (Gm E) 48 (Sp0 [.agg [.int .u64 ((w : Nat) : Int), .int .u64 ((x : Nat) : Int)], .sl 0 n k] [(0, .ro V3 Zz.encV row k)] 1 (.bl (fitsN (maskN row) w x))) := by
  obtain ⟨⟨rfl, hm, hk⟩, hw⟩ := h; have h64 : maskN row < 2 ^ 64 := Nat.lt_trans (maskN_lt hk) (by decide)
  refine fn_intro (gmOk E) 12 1 [] Tryz.func48 rfl rfl rfl rfl rfl ?_
  repeat' first | (intro h; first | (exfalso; omega; done) | skip) | (refine And.intro ?_ ?_) | exact True.intro | (refine @Exists.intro Unit _ () ?_) | (refine @Exists.intro (_ = _) _ rfl ?_) | (change DrawGoal _ _ _ _ _ _; first | (change DrawGoal _ _ _ ({ dst := some 5, op := _, type := _, pos := _, after := _, guard := _ } :: _) _ _; refine draw_tree (gmOk E) [0, 1] (.leaf [(0, true), (2, true), (3, true), (4, true), (5, true), (1, false), (6, false), (7, true)]) (by kernel_rfl) ?_)) | (change CallGoal _ _ _ _ _ _; first | (refine call0 (mask_z E row _ k ⟨rfl, hm, hk⟩) [0] rfl (And.intro rfl True.intro) rfl ?_) | (refine call0 (fits_z E (maskN row) w x ⟨h64, hw⟩) [] rfl True.intro rfl ?_))
  all_goals first | rfl | omega
set_option maxHeartbeats 4000000 in
theorem qOf (E : Nat → Addr) (l m : List Int) (n k n2 k2 : Nat) (h : (n = l.length ∧ n2 = m.length) ∧ (kindsOk l = true ∧ kindsOk m = true) ∧ l.length ≤ 1000000 ∧ m.length ≤ 1000000) : Does (Gm E) 45 (Sp0 [.sl 0 n k, .sl 1 n2 k2] [(0, .ro Int Zz.encI l k), (1, .ro Int Zz.encI m k2)] 2 (.tup [.agg [.int .u64 (((maskI l) : Nat) : Int), .int .u64 (((maskI m) : Nat) : Int)], .nili])) := by
  obtain ⟨⟨rfl, rfl⟩, ⟨hl, hm⟩, h1, h2⟩ := h
  refine Does.back (a := false) (b := true) (fn_intro ((gmOk E).way false true) 40 2 [] Tryz.func45 rfl rfl rfl rfl rfl ?_)
  repeat' first | (intro h; first | (exfalso; omega; done) | (exfalso; first | exact h trivial | omega; done) | skip) | (refine And.intro ?_ ?_) | exact True.intro | (refine @Exists.intro Unit _ () ?_) | (refine @Exists.intro (_ = _) _ rfl ?_) | (change LoopGoal _ _ _ _ _ _; refine loop_rounds ((gmOk E).way false true) [] 3 ?_) | (change CallGoal _ _ _ _ _ _; first | (refine call0 (Does.way (mof_ok E l _ k ⟨rfl, hl, h1⟩) false true) [0] rfl (And.intro rfl True.intro) rfl ?_) | (refine call0 (Does.way (mof_ok E m _ k2 ⟨rfl, hm, h2⟩) false true) [1] rfl (And.intro rfl True.intro) rfl ?_))
  all_goals first | rfl | omega
theorem al_1 : maskI [0] = 1 ∧ maskI [1] = 2 := by decide
theorem al_2 : fitsN (maskN [⟨0, 0, 0⟩]) (maskI [0]) (maskI [1]) = true := by decide
theorem al_3 : fitsN (maskN [⟨0, 0, 0⟩, ⟨1, 0, 0⟩]) (maskI [0]) (maskI [1]) = false := by decide
set_option maxHeartbeats 4000000 in
theorem alive9_z (E : Nat → Addr)  : Does (Gm E) 38 (Sp0 [] [] 0 .tt) := by
  refine fn_intro (gmOk E) 30 0 [] Tryz.func38 rfl rfl rfl rfl rfl ?_
  repeat' first | (intro h; first | (exfalso; omega; done) | (exfalso; first | exact h trivial | omega | exact h al_2 | (rw [al_2] at h; cases h; done) | (rw [al_3] at h; cases h; done) | (rw [al_1.1, al_1.2] at h; exact h ⟨rfl, rfl⟩) | (have q1 := al_1.1; have q2 := al_1.2; rw [q1, q2] at h; omega); done) | skip) | (refine And.intro ?_ ?_) | exact True.intro | (refine @Exists.intro Unit _ () ?_) | (refine @Exists.intro (_ = _) _ rfl ?_) | (change CallGoal _ _ _ _ _ _; first | (refine call0 (qOf E [0] [1] _ _ _ _ ⟨⟨rfl, rfl⟩, ⟨rfl, rfl⟩, by decide, by decide⟩) [0, 1] rfl (And.intro rfl (And.intro rfl True.intro)) rfl ?_) | (refine call0 (qFits E [⟨0, 0, 0⟩] _ _ (maskI [0]) (maskI [1]) ⟨⟨rfl, by decide, by decide⟩, by decide, by decide⟩) [3] rfl (And.intro rfl True.intro) rfl ?_) | (refine call0 (qFits E [⟨0, 0, 0⟩, ⟨1, 0, 0⟩] _ _ (maskI [0]) (maskI [1]) ⟨⟨rfl, by decide, by decide⟩, by decide, by decide⟩) [4] rfl (And.intro rfl True.intro) rfl ?_))
  all_goals first | rfl | omega
end Go.Proofs.YtcnbngiplfoomaaGreatDoor
namespace Go.Proofs.YtcnbngiplfoomaaGreatDoor
open Go.Zz Go.Px
set_option linter.unusedVariables false
set_option linter.unusedSectionVars false
set_option linter.unusedSimpArgs false
set_option maxRecDepth 10000
section
variable {R : List Ey} {w b x M : Nat} {h : Hd}
theorem less_or : lessN (w ||| b) M = 0 → lessN w M = 0 := fun h => by
  unfold lessN at *
  apply Nat.eq_of_testBit_eq
  intro i
  have := congrArg (fun q => Nat.testBit q i) h
  simp only [Nat.testBit_and, Nat.testBit_or, Nat.zero_testBit] at this ⊢
  cases hw : w.testBit i <;> simp_all
theorem qR_mem : h ∈ qR R w x ↔ ∃ r, (h, r) ∈ R ∧ fitsN (maskN r) w x = true := by
  unfold qR
  simp only [List.mem_map, List.mem_filter]
  constructor
  · rintro ⟨e, ⟨h1, h2⟩, rfl⟩; exact ⟨e.2, h1, h2⟩
  · rintro ⟨r, h1, h2⟩; exact ⟨(h, r), ⟨h1, h2⟩, rfl⟩
theorem qR_narrow (hm : h ∈ qR R (w ||| b) x) : h ∈ qR R w x := by
  obtain ⟨r, h1, h2⟩ := qR_mem.1 hm
  refine qR_mem.2 ⟨r, h1, ?_⟩
  unfold fitsN at *
  simp only [Bool.and_eq_true, decide_eq_true_eq] at *
  exact ⟨less_or h2.1, h2.2⟩
theorem at_mem {l : List (Int × Int)} {i : Nat} (hi : i < l.length) : l.getD i (0, 0) ∈ l := by rw [List.getD_eq_getElem?_getD, List.getElem?_eq_getElem hi]; exact List.getElem_mem _
theorem narrow_has {i : Nat} (hi : i < (qR R (w ||| b) x).length) : (qR R w x).contains ((qR R (w ||| b) x).getD i (0, 0)) = true := List.contains_iff_mem.2 (qR_narrow (at_mem hi))
theorem kd_in (kd : Int) : 0 ≤ (IntKind.u64.wrap kd).tmod 10 ∧ (IntKind.u64.wrap kd).tmod 10 ≤ 9 := by
  have e := wrap_lo kd
  rw [Int.tmod_eq_emod_of_nonneg e]; omega
end
set_option maxHeartbeats 4000000 in
theorem narrows_many (E : Nat → Addr) (w x : Nat) (kd : Int) (Qv : List (PRow V3)) (n k : Nat) (h : (n = Qv.length ∧ w < 2 ^ 64 ∧ x < 2 ^ 64) ∧ ¬ Qv.length ≤ 40) : DoesC (Gm E) 9 (Sp0 [.agg [.int .u64 ((w : Nat) : Int), .int .u64 ((x : Nat) : Int)], .int .i64 kd, .sl 0 n k] [(0, .ro Hdr encS (headsV Qv) k), (1, .fo (roPool Zz.encV Qv)), (2, .fo (tzF 10))] 3 .tt) := by
  obtain ⟨⟨rfl, hw⟩, hl⟩ := h
  refine fn_calls (gmOk E) 70 3 [] Tryz.func9 rfl rfl rfl rfl rfl ?_
  repeat' first | (intro h; first | (exfalso; omega; done) | (exfalso; first | exact h trivial | omega | (rw [hlg] at h; cases h; done); done) | skip) | (refine And.intro ?_ ?_) | exact True.intro | (refine @Exists.intro Unit _ () ?_) | (refine @Exists.intro (_ = _) _ rfl ?_) | (change CallGoal _ _ _ _ _ _; first | (refine call_rule (filled_many E Qv _ k ⟨rfl, hl⟩) [0, 1, 2] rfl (And.intro rfl (And.intro rfl (And.intro rfl True.intro))) rfl (fun (u1 : Unit) hu1 => ?_))) | (change CallGoal _ _ _ _ _ _; first | (refine call0 (alive9_z E) [] rfl True.intro rfl ?_))
  all_goals first | rfl | omega
set_option maxHeartbeats 4000000 in
theorem narrows_long (E : Nat → Addr) (w x : Nat) (kd : Int) (Qv : List (PRow V3)) (n k : Nat) (h : (n = Qv.length ∧ w < 2 ^ 64 ∧ x < 2 ^ 64) ∧ Qv.length ≤ 40 ∧ longV Qv = true) : DoesC (Gm E) 9 (Sp0 [.agg [.int .u64 ((w : Nat) : Int), .int .u64 ((x : Nat) : Int)], .int .i64 kd, .sl 0 n k] [(0, .ro Hdr encS (headsV Qv) k), (1, .fo (roPool Zz.encV Qv)), (2, .fo (tzF 10))] 3 .tt) := by
  obtain ⟨⟨rfl, hw⟩, hl, hlg⟩ := h
  refine fn_calls (gmOk E) 70 3 [] Tryz.func9 rfl rfl rfl rfl rfl ?_
  repeat' first | (intro h; first | (exfalso; omega; done) | (exfalso; first | exact h trivial | omega | (rw [hlg] at h; cases h; done); done) | skip) | (refine And.intro ?_ ?_) | exact True.intro | (refine @Exists.intro Unit _ () ?_) | (refine @Exists.intro (_ = _) _ rfl ?_) | (change CallGoal _ _ _ _ _ _; first | (refine call_rule (filled_long E Qv _ k ⟨rfl, hl, hlg⟩) [0, 1, 2] rfl (And.intro rfl (And.intro rfl (And.intro rfl True.intro))) rfl (fun (u1 : Unit) hu1 => ?_))) | (change CallGoal _ _ _ _ _ _; first | (refine call0 (alive9_z E) [] rfl True.intro rfl ?_) | (refine call0 (long_z E Qv _ k ⟨rfl, by omega⟩) [0, 1] rfl (And.intro rfl (And.intro rfl True.intro)) rfl ?_))
  all_goals first | rfl | omega | (rw [hlg]; done) | exact hlg.symm
set_option maxHeartbeats 4000000 in
theorem narrows_ok (E : Nat → Addr) (w x : Nat) (kd : Int) (Qv : List (PRow V3)) (n k : Nat) (h : (n = Qv.length ∧ w < 2 ^ 64 ∧ x < 2 ^ 64) ∧ Qv.length ≤ 40 ∧ longV Qv = false) : DoesC (Gm E) 9 (Sp0 [.agg [.int .u64 ((w : Nat) : Int), .int .u64 ((x : Nat) : Int)], .int .i64 kd, .sl 0 n k] [(0, .ro Hdr encS (headsV Qv) k), (1, .fo (roPool Zz.encV Qv)), (2, .fo (tzF 10))] 3 .tt) := by
  obtain ⟨⟨rfl, hw⟩, hl, hlg⟩ := h; have hk := kd_in kd; have hM : (w ||| maskI [((IntKind.u64.wrap kd).tmod 10)]) < 2 ^ 64 := Nat.or_lt_two_pow hw.1 (maskI_lt64 (by simp [kindsOk, okK]; omega))
  refine fn_calls (gmOk E) 70 3 [] Tryz.func9 rfl rfl rfl rfl rfl ?_
  repeat' first | (change CallGoal _ _ _ _ _ _; first | (change CallGoal _ 42 _ _ _ _; first | (refine call_rule (qHandles E xq.1 (fillR Qv Qv.length) w x ⟨⟨hw.1, hw.2⟩, ⟨by have := fillR_len (Qv := Qv) Qv.length; omega, by have := fillR_masks (Qv := Qv) Qv.length; omega⟩, fillR_ris _, fillR_right _⟩) [4] rfl (And.intro rfl True.intro) rfl (fun (q1 : Nat) hq1 => ?_)) | (refine call_rule (qHandles E xq.1 (fillR Qv Qv.length) (w ||| maskI [((IntKind.u64.wrap kd).tmod 10)]) x ⟨⟨hM, hw.2⟩, ⟨by have := fillR_len (Qv := Qv) Qv.length; omega, by have := fillR_masks (Qv := Qv) Qv.length; omega⟩, fillR_ris _, fillR_right _⟩) [4] rfl (And.intro rfl True.intro) rfl (fun (q2 : Nat) hq2 => ?_)))) | with_reducible rfl | (intro h; first | (exfalso; omega; done) | (exfalso; first | exact h trivial | omega | (rw [narrow_has (by omega)] at h; first | cases h; done | exact h rfl); done) | skip) | (refine And.intro ?_ ?_) | exact True.intro | (refine @Exists.intro Unit _ () ?_) | (refine @Exists.intro (_ = _) _ rfl ?_) | (change NextGoal _ _ _; refine next_go ?_) | (change LoopGoal _ _ _ _ _ _; refine loop_keep 11 [3, 7, 12, 53, 54] (gmOk E) rfl [] (X := (Nat × Unit)) (fun y => [(55, .int .i64 ((y.1 : Nat) : Int))]) (fun y => []) [] (fun y => y.1 ≤ (qR (fillR Qv Qv.length) (w ||| maskI [((IntKind.u64.wrap kd).tmod 10)]) x).length) (fun y => (qR (fillR Qv Qv.length) (w ||| maskI [((IntKind.u64.wrap kd).tmod 10)]) x).length - y.1) ⟨(0, ()), ?_⟩ (fun y hI => ?_)) | (change @Exists ((Nat × Unit)) (fun _ => updPK _ _ _ _ _ _); refine @Exists.intro ((Nat × Unit)) _ ((y.1 + 1, ())) ?_) | (change CallGoal _ _ _ _ _ _; first | (refine call_rule (filled_ok E Qv _ k ⟨rfl, hl, hlg⟩) [0, 1, 2] rfl (And.intro rfl (And.intro rfl (And.intro rfl True.intro))) rfl (fun (xq : List (PRow Int) × List (PRow V3)) hxq => ?_)) | (refine call_rule (qCount E xq.1 (fillR Qv Qv.length) w x ⟨⟨hw.1, hw.2⟩, ⟨by have := fillR_len (Qv := Qv) Qv.length; omega, by have := fillR_masks (Qv := Qv) Qv.length; omega⟩, fillR_ris _, fillR_right _⟩) [4] rfl (And.intro rfl True.intro) rfl (fun (u2 : Unit) hu2 => ?_))) | (change CallGoal _ _ _ _ _ _; first | (refine call0 (alive9_z E) [] rfl True.intro rfl ?_) | (refine call0 (mwith_z E w [((IntKind.u64.wrap kd).tmod 10)] _ _ ⟨rfl, by simp [kindsOk, okK]; omega, by simp, hw.1⟩) [8] rfl (And.intro rfl True.intro) rfl ?_) | (refine call0 (rhas_z E (qR (fillR Qv Qv.length) w x) ((qR (fillR Qv Qv.length) (w ||| maskI [((IntKind.u64.wrap kd).tmod 10)]) x).getD y.1 (0, 0)) _ q1 ⟨rfl, (by have := qR_len (R := (fillR Qv Qv.length)) (w := w) (x := x); have := fillR_len (Qv := Qv) Qv.length; omega)⟩) [9] rfl (And.intro rfl True.intro) rfl ?_))
  all_goals first | (dsimp only; first | rfl | omega) | rfl | omega | exact Nat.zero_le _ | (have := qR_len (R := (fillR Qv Qv.length)) (w := (w ||| maskI [((IntKind.u64.wrap kd).tmod 10)])) (x := x); have := fillR_len (Qv := Qv) Qv.length; omega)
theorem narrows_z (E : Nat → Addr) (w x : Nat) (kd : Int) (Qv : List (PRow V3)) (n k : Nat) (h : n = Qv.length ∧ w < 2 ^ 64 ∧ x < 2 ^ 64) : DoesC (Gm E) 9 (Sp0 [.agg [.int .u64 ((w : Nat) : Int), .int .u64 ((x : Nat) : Int)], .int .i64 kd, .sl 0 n k] [(0, .ro Hdr encS (headsV Qv) k), (1, .fo (roPool Zz.encV Qv)), (2, .fo (tzF 10))] 3 .tt) := by
  by_cases hl : Qv.length ≤ 40
  · cases hlg : longV Qv with
    | true => exact narrows_long E w x kd Qv n k ⟨h, hl, hlg⟩
    | false => exact narrows_ok E w x kd Qv n k ⟨h, hl, hlg⟩
  · exact narrows_many E w x kd Qv n k ⟨h, hl⟩
end Go.Proofs.YtcnbngiplfoomaaGreatDoor
namespace Go.Proofs.YtcnbngiplfoomaaGreatDoor
open Go.Zz Go.Px
set_option linter.unusedVariables false
set_option linter.unusedSectionVars false
set_option linter.unusedSimpArgs false
set_option maxRecDepth 10000
open Go.Proofs
theorem narrows_any (E : Nat → Addr) (wi xi : Int) (hw : 0 ≤ wi ∧ wi ≤ 18446744073709551615) (hx : 0 ≤ xi ∧ xi ≤ 18446744073709551615) (kd : Int) (av : Option Addr) (Qv : List (PRow V3)) (c : Nat) (W : World) (hG : Errs (Gm E).errs W (Gm E).Δ.eT E) (hT : TabAt 10 Lib.deBruijn64tab W) (hs : 10 < W.heap.size) (hav : Arr W 1 av Qv.length c (flat encS.val (headsV Qv))) (hQ : ∀ q ∈ Qv, Arr W 3 q.1 q.2.2.length q.2.1 (flat Zz.encV.val q.2.2)) :
    Calls Tryz.prog 9 #[.agg #[.int .u64 wi, .int .u64 xi], .int .i64 kd, .slice av Qv.length c] W (Ret fun v w' => v = .bool true ∧ Keep Nn W w') := by
  obtain ⟨w, rfl⟩ : ∃ n : Nat, wi = (n : Int) := ⟨wi.toNat, by omega⟩
  obtain ⟨x, rfl⟩ : ∃ n : Nat, xi = (n : Int) := ⟨xi.toNat, by omega⟩
  exact (narrows_z E w x kd Qv Qv.length c ⟨rfl, by omega, by omega⟩).law2 (fun _ => av) hG rfl (fun d α e l' k' hm => by
    rcases List.mem_cons.1 hm with hm | hm
    · cases hm; exact ⟨by rw [heads_len]; exact hav, by decide⟩
    · rcases List.mem_cons.1 hm with hm | hm
      · cases hm
      · cases List.mem_singleton.1 hm) (fun d Ψ hm => by
    rcases List.mem_cons.1 hm with hm | hm
    · cases hm
    · rcases List.mem_cons.1 hm with hm | hm
      · cases hm; exact rows_fo hQ _
      · cases List.mem_singleton.1 hm; exact ⟨hT, id, hs⟩) (fun _ => rfl) (by simp [SV.denL, SV.den, Sp0])
end Go.Proofs.YtcnbngiplfoomaaGreatDoor
