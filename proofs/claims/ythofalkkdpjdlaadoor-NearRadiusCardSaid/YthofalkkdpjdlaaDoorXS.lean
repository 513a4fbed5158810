/- slices.SortFunc over a slice of one's own, out of the shelf's contract. Nothing of any one program stands here. -/
import Derived.Test.YthofalkkdpjdlaaDoorX9
import Derived.Shelf.SlSortCmp.WholeK
import Derived.Shelf.SlSortCmp.NoneTotal
namespace Go.Px
set_option linter.unusedVariables false
set_option linter.unusedSimpArgs false
set_option linter.unusedSectionVars false
open Go.RowKit Go.Sort Go.Proofs Go.Shelf

theorem Keep.grown {w w' : World} (h : Keep Nn w w') : ∃ q os', w' = Go.Sort.grow (w.drewN q) os' := by
  refine ⟨w'.drawn - w.drawn, w'.heap.extract w.heap.size, ?_⟩
  have hh : w'.heap = w.heap ++ w'.heap.extract w.heap.size := by
    refine Array.ext_getElem? fun i => ?_
    rcases Nat.lt_or_ge i w.heap.size with hi | hi
    · rw [Array.getElem?_append_left hi]
      exact h.block i hi (fun e => e)
    · rw [Array.getElem?_append_right hi, Array.getElem?_extract]
      have h1 : w.heap.size + (i - w.heap.size) = i := by omega
      rw [h1]
      split
      · rfl
      · rename_i h2
        exact Array.getElem?_eq_none (by omega)
  have hd : w.drawn + (w'.drawn - w.drawn) = w'.drawn := Nat.add_sub_cancel' h.drawn
  obtain ⟨hp, tp, dr, os, ou⟩ := w'
  obtain ⟨hp0, tp0, dr0, os0, ou0⟩ := w
  have e1 := h.os; have e2 := h.tape; have e3 := h.output
  simp only at e1 e2 e3 hh hd
  subst e1 e2 e3
  simp only [Go.Sort.grow, World.drewN, hd]
  rw [← hh]

theorem cmpLays_of {P : Program} {α : Type} [Inhabited α] {g k : Nat} {enc : α → List Value} {cf : α → α → Int} (hc : ∀ x y w, Calls P g #[.agg (enc x).toArray, .agg (enc y).toArray] w (Ret fun v w' => v = .int .i64 (cf x y) ∧ Keep Nn w w')) (blk off size : Nat) (w : World) :
    CmpLays P g #[] enc k cf blk off size w := fun m os dk hs x y => by
  refine (hc x y _).mono fun e w' he => ?_
  obtain ⟨v, rfl, rfl, hk⟩ := he
  obtain ⟨q, os', hw⟩ := hk.grown
  exact ⟨rfl, q, os', hw⟩

theorem flatK_flat {α : Type} [Inhabited α] {enc : α → List Value} {k : Nat} (hk : ∀ x, (enc x).length = k) (l : List α) : flatK enc k l.toArray = (flat enc l).toArray := by
  apply Array.ext'
  refine List.ext_getElem? fun j => ?_
  have hl : (flat enc l).length = l.length * k := flat_len hk l
  rcases Nat.lt_or_ge j (l.length * k) with hj | hj
  · have hk0 : 0 < k := by
      rcases Nat.eq_zero_or_pos k with h0 | h0
      · rw [h0] at hj; simp at hj
      · exact h0
    have hd : j / k < l.length := Nat.div_lt_of_lt_mul (by rw [Nat.mul_comm]; exact hj)
    have hm : j % k < k := Nat.mod_lt _ hk0
    have e : (flat enc l)[j]? = (enc (l[j / k]))[j % k]? := by
      have h1 := flat_get (f := enc) hk (l := l) (i := j / k) (k := j % k) (x := l[j / k]) (List.getElem?_eq_getElem hd) hm
      rw [← h1]
      congr 1
      rw [Nat.mul_comm]
      exact (Nat.div_add_mod j k).symm
    rw [e]
    have hs : (flatK enc k l.toArray).toList[j]? = some ((enc l.toArray[j / k]!)[j % k]!) := by simp [flatK, hj]
    rw [hs]
    have hlen : j % k < (enc (l[j / k])).length := by rw [hk]; exact hm
    simp [hd, hlen]
  · rw [List.getElem?_eq_none (by simp [flatK]; exact hj), List.getElem?_eq_none (by rw [hl]; exact hj)]

theorem perm_of {α : Type} [Inhabited α] {l : List α} {d : Array α} (h : PermIn 0 l.toArray.size l.toArray d) : d.toList.Perm l := by
  have h1 := h.2.2
  have hs := h.1
  simp only [List.size_toArray] at h1 hs
  have e1 : (d.extract 0 l.length) = d := by rw [← hs]; exact Array.extract_size
  have e2 : (l.toArray.extract 0 l.length).toList = l := by simp
  rw [e1, e2] at h1
  exact h1
theorem sorted_of {α : Type} [Inhabited α] {cf : α → α → Int} {d : Array α} (h : SortedIn (ltOf cf) 0 d.size d) : d.toList.Pairwise fun a b => ¬ cf b a < 0 := by
  rw [List.pairwise_iff_getElem]
  intro i j hi hj hij
  simp only [Array.length_toList] at hi hj
  have h1 := h i j (Nat.zero_le _) hij hj
  simp only [ltOf, decide_eq_false_iff_not] at h1
  simpa [hi, hj] using h1

/-- slices.SortFunc, over a slice of one's own that is not nil. -/
theorem sortFunc_some {P : Program} {ρ : Ren} {α : Type} [Inhabited α] (L : SlLaysF0.n6 P ρ) {k : Nat} (aE : ∀ w, (isAgg (ρ.t 24)).run P w = .ok true w) (zE : ∀ w, (Go.sizeOf (ρ.t 24)).run P w = .ok k w) {enc : α → List Value} (hk : ∀ x, (enc x).length = k) (h1 : ∀ x, ∀ v ∈ enc x, v.oneCell' = true)
    {cf : α → α → Int} (hO : SWO (ltOf cf)) {g : Nat} (eg : ∀ args w, (callFunc g args).run P w = .ok (.enter g args) w)
    (hc : ∀ x y w, Calls P g #[.agg (enc x).toArray, .agg (enc y).toArray] w (Ret fun v w' => v = .int .i64 (cf x y) ∧ Keep Nn w w')) {w : World} {base e B c : Nat} {l : List α} (hown : w.ownsRow base e k (.slice (some ⟨B, 0, none⟩) l.length c) l.length (flat enc l)) (hlt : l.length < 4611686018427387904) :
    Calls P (ρ.f 6) #[.slice (some ⟨B, 0, none⟩) l.length c, .func (.func g) #[] #[]] w (Ret fun v w' => v = .tuple #[] ∧ ∃ l', l'.Perm l ∧ (l'.Pairwise fun a b => ¬ cf b a < 0) ∧
      w'.ownsRow base e k (.slice (some ⟨B, 0, none⟩) l.length c) l.length (flat enc l') ∧ Keep (fun i => i = B) w w') := by
  rcases hown.2 with ⟨h2, _⟩ | ⟨B', cap, cur, h2, h3, h4, h5, h6, h7, h8⟩
  · simp at h2
  simp only [Value.slice.injEq, Option.some.injEq, Addr.mk.injEq, and_true, true_and] at h2
  obtain ⟨rfl, rfl⟩ := h2
  have hB : B < w.heap.size := by
    rcases Nat.lt_or_ge B w.heap.size with h | h
    · exact h
    · rw [Array.getElem?_eq_none h] at h4; cases h4
  have hlen : l.length * k ≤ cur.size := by rw [h7]; exact Nat.mul_le_mul_right _ h5
  have hH : HoldsK enc k w B 0 l.toArray := by
    intro j hj
    rw [flatK_flat hk] at hj ⊢
    simp only [List.size_toArray, flat_len hk] at hj
    have hget : cur[j]? = (flat enc l)[j]? := by
      rw [← h8, List.getElem?_take, if_pos hj]
      simp
    have hjl : j < (flat enc l).length := by rw [flat_len hk]; exact hj
    constructor
    · simp [World.cell?, h4, hget, hjl]
    · simp only [World.frozen?, h4]
      simp
  have hcon := AnyQ.slices_SortFunc L k aE zE enc hk h1 cf hO g #[] B 0 c l.toArray w eg (cmpLays_of hc B 0 l.toArray.size w) hH hB (by simpa using hlt)
  refine hcon.mono fun ex w' he => ?_
  obtain ⟨rfl, d', n, os, hp, hs, rfl⟩ := he
  have hds : d'.size = l.length := by have := hp.1; simpa using this
  have hd : d' = d'.toList.toArray := by simp
  have hfk : flatK enc k d' = (flat enc d'.toList).toArray := by rw [hd, flatK_flat hk]
  refine ⟨.tuple #[], rfl, rfl, d'.toList, perm_of hp, sorted_of (by simpa [hds] using hs), ?_, ?_⟩
  · have hl' : (flat enc d'.toList).length = l.length * k := by rw [flat_len hk]; simp [hds]
    refine ⟨hl', .inr ⟨B, c, putCells id 0 (flatK enc k d') cur, rfl, h3, ?_, h5, h6, by simp [putCells, h7], ?_⟩⟩
    · simp only [sortWorldK, putRowK, putRow, mapBlock, Go.Sort.grow, Go.Sort.ahead]
      rw [Array.getElem?_append_left (by simpa using hB)]
      simp [Array.getElem?_modify, h4, onCells]
    · refine List.ext_getElem? fun j => ?_
      rw [List.getElem?_take]
      split
      · rename_i hj
        have hjc : j < cur.size := Nat.lt_of_lt_of_le hj hlen
        have hjl : j < (flat enc d'.toList).length := by rw [hl']; exact hj
        rw [hfk]
        simp [putCells, hjc, hjl]
      · rename_i hj
        exact (List.getElem?_eq_none (by rw [hl']; omega)).symm
  · refine ⟨rfl, rfl, rfl, ?_, ?_, fun i hi hn => ?_⟩
    · simp [sortWorldK, putRowK, putRow, mapBlock, Go.Sort.grow, Go.Sort.ahead]
    · simp [sortWorldK, putRowK, putRow, mapBlock, Go.Sort.grow, Go.Sort.ahead]
    · simp only [sortWorldK, putRowK, putRow, mapBlock, Go.Sort.grow, Go.Sort.ahead]
      rw [Array.getElem?_append_left (by simpa using hi)]
      rw [Array.getElem?_modify]
      rw [if_neg (fun e => hn e.symm)]

/-- .. nil or not. -/
theorem sortFunc_own {P : Program} {ρ : Ren} {α : Type} [Inhabited α] (L : SlLaysF0.n6 P ρ) {k : Nat} (aE : ∀ w, (isAgg (ρ.t 24)).run P w = .ok true w) (zE : ∀ w, (Go.sizeOf (ρ.t 24)).run P w = .ok k w) {enc : α → List Value} (hk : ∀ x, (enc x).length = k) (h1 : ∀ x, ∀ v ∈ enc x, v.oneCell' = true)
    {cf : α → α → Int} (hO : SWO (ltOf cf)) {g : Nat} (eg : ∀ args w, (callFunc g args).run P w = .ok (.enter g args) w)
    (hc : ∀ x y w, Calls P g #[.agg (enc x).toArray, .agg (enc y).toArray] w (Ret fun v w' => v = .int .i64 (cf x y) ∧ Keep Nn w w')) {w : World} {base e c : Nat} {av : Option Addr} {l : List α} (hown : w.ownsRow base e k (.slice av l.length c) l.length (flat enc l)) (hlt : l.length < 4611686018427387904) :
    Calls P (ρ.f 6) #[.slice av l.length c, .func (.func g) #[] #[]] w (Ret fun v w' => v = .tuple #[] ∧ ∃ l', l'.Perm l ∧ (l'.Pairwise fun a b => ¬ cf b a < 0) ∧
      w'.ownsRow base e k (.slice av l.length c) l.length (flat enc l') ∧ Keep (fun i => Value.ownBlock (.slice av l.length c) = some i) w w') := by
  rcases hown.2 with ⟨h2, h3⟩ | ⟨B, cap, cur, h2, _⟩
  · simp only [Value.slice.injEq] at h2
    obtain ⟨rfl, hl0, rfl⟩ := h2
    have hl : l = [] := List.eq_nil_of_length_eq_zero hl0
    subst hl
    refine (AnyF.slices_SortFunc_none L none 0 (.func (.func g) #[] #[]) w).mono fun ex w' he => ?_
    obtain ⟨rfl, rfl⟩ := he
    exact ⟨_, rfl, rfl, [], List.Perm.refl _, List.Pairwise.nil, hown, Keep.refl _ _⟩
  · simp only [Value.slice.injEq] at h2
    obtain ⟨rfl, _, rfl⟩ := h2
    refine (sortFunc_some L aE zE hk h1 hO eg hc hown hlt).mono fun ex w' he => ?_
    obtain ⟨v, rfl, rfl, l', hp, hs, hx, hkk⟩ := he
    exact ⟨_, rfl, rfl, l', hp, hs, hx, hkk.mono fun i _ hi => by rw [hi]; rfl⟩
end Go.Px
