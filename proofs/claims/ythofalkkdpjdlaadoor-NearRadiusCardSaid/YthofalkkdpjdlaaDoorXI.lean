/- slices.Insert of one number into a slice of one's own, and slices.SortFunc at one cell, out of the shelf's contracts. Nothing of any one program stands here. -/
import Derived.Test.YthofalkkdpjdlaaDoorXS
import Derived.Test.YthofalkkdpjdlaaDoorXT
import Derived.Test.YthofalkkdpjdlaaDoorXpA
import Derived.Shelf.SlSortCmp.Whole1
import Derived.Shelf.Spec.SlicesInsertGrow
namespace Go.Px
set_option linter.unusedVariables false
set_option linter.unusedSimpArgs false
set_option linter.unusedSectionVars false
open Go.RowKit Go.Sort Go.Proofs Go.Shelf Go.Lib

theorem putAt_drop {A vs : List Value} {o : Nat} (h : o ≤ A.length) : (putAt A o vs).drop o = vs ++ A.drop (o + vs.length) := by
  unfold putAt
  rw [List.append_assoc, List.drop_append_of_le_length (by rw [List.length_take]; omega), List.drop_eq_nil_of_le (by rw [List.length_take]; omega), List.nil_append]
theorem putAt_takeLe {A vs : List Value} {o k : Nat} (h : o ≤ A.length) (hk : k ≤ o) : (putAt A o vs).take k = A.take k := by
  unfold putAt
  rw [List.append_assoc, List.take_append_of_le_length (by rw [List.length_take]; omega), List.take_take, Nat.min_eq_left hk]
theorem putAt_nil (A : List Value) (o : Nat) : putAt A o [] = A := by simp [putAt]

theorem setCells_row (b : Nat) : ∀ (vs : List Value) (o : Nat) (w : World) (cur : Array Value) (t : TypeId), w.heap[b]? = some (.cells cur t (0, 0)) → o + vs.length ≤ cur.size →
    (w.setCells b o vs).heap[b]? = some (.cells (putAt cur.toList o vs).toArray t (0, 0)) ∧ Keep (fun i => i = b) w (w.setCells b o vs)
  | [], o, w, cur, t, h, _ => ⟨by simpa [World.setCells, putAt] using h, Keep.refl _ _⟩
  | v :: r, o, w, cur, t, h, hl => by
    simp only [List.length_cons] at hl
    have h1 : (w.setCell ⟨b, o, none⟩ v).heap[b]? = some (.cells (cur.setIfInBounds o v) t (0, 0)) := by
      simp [World.setCell, Array.getElem?_modify, h]
    have h2 : Keep (fun i => i = b) w (w.setCell ⟨b, o, none⟩ v) := ⟨rfl, rfl, rfl, by simp [World.setCell], Nat.le_refl _, fun i _ hn => Below.heap_setCell _ _ _ _ hn⟩
    obtain ⟨h3, h4⟩ := setCells_row b r (o + 1) _ _ t h1 (by simpa using (by omega : o + 1 + r.length ≤ cur.size))
    refine ⟨?_, h2.trans h4⟩
    have e : putAt (cur.setIfInBounds o v).toList (o + 1) r = putAt cur.toList o (v :: r) := by
      have := list_seg_step cur.toList o v r (by simpa using (by omega : o + (r.length + 1) ≤ cur.size))
      simpa [putAt, Nat.add_assoc, Nat.add_comm] using this
    rw [← e]
    exact h3

theorem fI_cells (l : List Int) : ∀ v ∈ flat fI l, v.oneCell' = true := by
  intro v hv
  simp only [flat, List.mem_flatMap] at hv
  obtain ⟨x, _, hx⟩ := hv
  simp [fI] at hx
  subst hx
  rfl
theorem flat_ins (l : List Int) (i : Nat) (x : Int) : flat fI (l.take i ++ x :: l.drop i) = (flat fI l).take i ++ [Value.int .i64 x] ++ (flat fI l).drop i := by
  have h1 := flat_take (f := fI) (sz := 1) (fun _ => rfl) l i
  have h2 := flat_drop (f := fI) (sz := 1) (fun _ => rfl) l i
  rw [Nat.mul_one] at h1 h2
  rw [flat_app, flat_cons, h1, h2]
  simp [fI]

theorem zeroI_size (k : Nat) : (Builtin.zeroCells (Value.int .i64 0).cells k).size = k := by simp [Builtin.zeroCells, Value.cells]

section
variable {P : Program} {ρ : Ren} {w : World} {base c i vb : Nat} {av : Option Addr} {l : List Int} {x : Int}
/-- slices.Insert of one number. -/
theorem insert_own (L : Lays2.n21 P ρ) (hown : w.ownsRow base (ρ.t 3) 1 (.slice av l.length c) l.length (flat fI l)) (hi : i ≤ l.length) (hb : l.length ≤ 1000000)
    (hv : w.heap[vb]? = some (.cells #[.int .i64 x] (ρ.t 3) (0, 0))) (hne : Value.ownBlock (.slice av l.length c) ≠ some vb) (hbw : base ≤ w.heap.size) :
    Calls P (ρ.f 21) #[.slice av l.length c, .int .i64 i, .slice (some ⟨vb, 0, none⟩) 1 1] w (Ret fun v w' => ∃ a' c', v = .slice a' (l.length + 1) c' ∧
      w'.ownsRow base (ρ.t 3) 1 (.slice a' (l.length + 1) c') (l.length + 1) (flat fI (l.take i ++ x :: l.drop i)) ∧ Keep (fun j => Value.ownBlock (.slice av l.length c) = some j) w w') := by
  have hcl : (flat fI l).length = l.length := by rw [flat_len (sz := 1) (fun _ => rfl), Nat.mul_one]
  have hvs : ∀ j v, ([Value.int .i64 x] : List Value)[j]? = some v → w.cell? ⟨vb, 0 + j, none⟩ = some v := fun j v hj => by
    cases j with
    | zero => simp at hj; subst hj; simp [World.cell?, hv]
    | succ j => simp at hj
  have h1v : ∀ v ∈ ([Value.int .i64 x] : List Value), v.oneCell' = true := by intro v h; simp at h; subst h; rfl
  have hmax : ∀ n, n ≤ 1000001 → n ≤ maxLen := fun n hn => by simp only [maxLen]; omega
  have hins := flat_ins l i x
  have hnew : ∀ (w1 : World) (ROW : Array Value) (cap : Nat), w1 = w ∨ w1 = w.drew → l.length + 1 ≤ cap → cap ≤ maxLen → ROW.size = cap → ROW.toList.take (l.length + 1) = flat fI (l.take i ++ x :: l.drop i) →
      (w1.alloc (.cells ROW (ρ.t 3))).ownsRow base (ρ.t 3) 1 (.slice (some ⟨w.heap.size, 0, none⟩) (l.length + 1) cap) (l.length + 1) (flat fI (l.take i ++ x :: l.drop i)) ∧ Keep (fun j => Value.ownBlock (.slice av l.length c) = some j) w (w1.alloc (.cells ROW (ρ.t 3))) := by
    intro w1 ROW cap hw1 h1 h2 h3 h4
    have hh : w1.heap = w.heap := by rcases hw1 with rfl | rfl <;> rfl
    have hk : Keep (fun j => Value.ownBlock (.slice av l.length c) = some j) w w1 := by
      rcases hw1 with rfl | rfl
      · exact Keep.refl _ _
      · exact (Keep.refl _ _).drew
    refine ⟨⟨?_, .inr ⟨w.heap.size, cap, ROW, rfl, hbw, ?_, h1, h2, by rw [h3, Nat.mul_one], by rw [Nat.mul_one]; exact h4⟩⟩, hk.trans (Keep.of_grownBy (World.grownBy_alloc w1 _ _) (Nat.le_refl _))⟩
    · rw [flat_len (sz := 1) (fun _ => rfl)]
      simp only [List.length_append, List.length_cons, List.length_take, List.length_drop]
      omega
    · rw [← hh]
      exact heap_alloc_new w1 _
  rcases hown.2 with ⟨h, hn0⟩ | ⟨g, cap, cur, h, hbg, hg, hnc, hcm, hcs, htake⟩
  · simp only [Value.slice.injEq] at h
    obtain ⟨rfl, -, rfl⟩ := h
    have hl0 : l = [] := List.eq_nil_of_length_eq_zero hn0
    subst hl0
    obtain rfl : i = 0 := by simpa using hi
    have hc := Any2.slices_Insert_int_end_grow L none 0 0 vb 0 1 1 [] [.int .i64 x] w (by omega) (by omega) (by omega) (by omega) rfl rfl (fun _ => rfl) (fun a h => by cases h) hvs h1v
    refine Calls.mono hc fun e w' he => ?_
    obtain ⟨rfl, rfl⟩ := he
    have hge := grownCap_ge w (0 + 1) 0 (ρ.t 3)
    have hle := grownCap_le_maxLen w (0 + 1) 0 (ρ.t 3) (hmax _ (by omega))
    obtain ⟨h1, h2⟩ := hnew w.drew (([] ++ [Value.int .i64 x] : List Value).toArray ++ Builtin.zeroCells (Value.int .i64 0).cells (grownCap w (0 + 1) 0 (ρ.t 3) - (0 + 1))) (grownCap w (0 + 1) 0 (ρ.t 3)) (.inr rfl) hge hle (by simp only [Array.size_append, zeroI_size]; simp at hge ⊢; omega) (by simp [fI, flat])
    exact ⟨_, rfl, _, _, rfl, h1, h2⟩
  · simp only [Value.slice.injEq] at h
    obtain ⟨rfl, -, rfl⟩ := h
    rw [Nat.mul_one] at hcs htake
    have hgw : g < w.heap.size := (Array.getElem?_eq_some_iff.1 hg).1
    have hgv : vb ≠ g := fun e => hne (by rw [e]; rfl)
    have hcells : ∀ j v, (flat fI l)[j]? = some v → w.cell? ⟨g, 0 + j, none⟩ = some v := fun j v hj => by
      rw [← htake, List.getElem?_take] at hj
      split at hj
      · simp [World.cell?, hg]
        simpa using hj
      · cases hj
    have hsp : ∀ j, j < c → (w.cell? ⟨g, 0 + j, none⟩).isSome = true := fun j hj => by simp [World.cell?, hg, show j < cur.size by omega]
    have hfz : ∀ j, w.frozen? ⟨g, j, none⟩ = false := fun j => by simp [World.frozen?, hg]
    have hcur : cur.toList.length = c := by simpa using hcs
    have htk : cur.toList.take i = (flat fI l).take i := by rw [← htake, List.take_take, Nat.min_eq_left hi]
    have hroomy : ∀ (w1 : World) (A : List Value), w1.heap[g]? = some (.cells A.toArray (ρ.t 3) (0, 0)) → A.length = c → l.length + 1 ≤ c → A.take (l.length + 1) = flat fI (l.take i ++ x :: l.drop i) → Keep (fun j => j = g) w w1 →
        w1.ownsRow base (ρ.t 3) 1 (.slice (some ⟨g, 0, none⟩) (l.length + 1) c) (l.length + 1) (flat fI (l.take i ++ x :: l.drop i)) ∧ Keep (fun j => Value.ownBlock (.slice (some ⟨g, 0, none⟩) l.length c) = some j) w w1 := by
      intro w1 A h1 h2 h3 h4 h5
      refine ⟨⟨?_, .inr ⟨g, c, A.toArray, rfl, hbg, h1, h3, hcm, by simpa using h2, by rw [Nat.mul_one]; simpa using h4⟩⟩, h5.mono fun j _ hj => by rw [hj]; rfl⟩
      rw [flat_len (sz := 1) (fun _ => rfl)]
      simp only [List.length_append, List.length_cons, List.length_take, List.length_drop]
      omega
    rcases Nat.lt_or_ge c (l.length + 1) with hroom | hroom
    · -- no room
      have hge := grownCap_ge w (l.length + 1) c (ρ.t 3)
      have hle := grownCap_le_maxLen w (l.length + 1) c (ρ.t 3) (hmax _ (by omega))
      rcases Nat.lt_or_ge i l.length with hil | hil
      · have hc := Any2.slices_Insert_int_grow L g 0 l.length c i vb 0 1 1 (flat fI l) [.int .i64 x] w hil (by omega) hnc hroom (by omega) hcl rfl hcells hvs (fI_cells l) h1v
        refine Calls.mono hc fun e w' he => ?_
        obtain ⟨rfl, hw'⟩ := he
        generalize hG : grownCap w (l.length + 1) c (ρ.t 3) = G at *
        generalize hR : ((flat fI l).take i).toArray ++ Builtin.zeroCells (Value.int .i64 0).cells (l.length + 1 - i) ++ Builtin.zeroCells (Value.int .i64 0).cells (G - (l.length + 1)) = ROW at *
        have hRs : ROW.size = G := by
          rw [← hR]
          simp only [Array.size_append, zeroI_size, List.size_toArray, List.length_take, hcl]
          omega
        have hRt : ROW.toList.take i = (flat fI l).take i := by
          rw [← hR]
          simp only [Array.toList_append]
          rw [List.append_assoc, List.take_append_of_le_length (by rw [List.length_take, hcl]; omega), List.take_take, Nat.min_self]
        have hb1 : ((w.alloc (.cells ROW (ρ.t 3))).drew).heap[w.heap.size]? = some (.cells ROW (ρ.t 3) (0, 0)) := heap_alloc_new w _
        obtain ⟨h1, k1⟩ := setCells_row w.heap.size [.int .i64 x] i _ ROW (ρ.t 3) hb1 (by simp only [List.length_cons, List.length_nil, hRs]; omega)
        have hdl : ((flat fI l).drop i).length = l.length - i := by rw [List.length_drop, hcl]
        have hRl : ROW.toList.length = G := by simpa using hRs
        have hA1 : (putAt ROW.toList i [Value.int .i64 x]).length = G := by rw [putAt_len (by simp only [List.length_cons, List.length_nil, hRl]; omega), hRl]
        obtain ⟨h2, k2⟩ := setCells_row w.heap.size ((flat fI l).drop i) (i + 1) (((w.alloc (.cells ROW (ρ.t 3))).drew.setCells w.heap.size i [.int .i64 x]).drew) _ (ρ.t 3) h1 (by simp only [List.size_toArray, hA1, hdl]; omega)
        have hkk : Keep (fun j => Value.ownBlock (.slice (some ⟨g, 0, none⟩) l.length c) = some j) w w' := by
          rw [hw']
          have k0 : Keep (fun j => Value.ownBlock (.slice (some ⟨g, 0, none⟩) l.length c) = some j) w ((w.alloc (.cells ROW (ρ.t 3))).drew) := (Keep.of_grownBy (World.grownBy_alloc w _ _) (Nat.le_refl _)).drew
          exact (k0.then k1 fun j hj e => absurd e (by omega)).then (((Keep.refl _ _).drew).trans k2) fun j hj e => absurd e (by omega)
        refine ⟨_, rfl, _, _, rfl, ⟨?_, .inr ⟨w.heap.size, G, (putAt (putAt ROW.toList i [Value.int .i64 x]) (i + 1) ((flat fI l).drop i)).toArray, rfl, hbw, by rw [hw']; exact h2, hge, hle, ?_, ?_⟩⟩, hkk⟩
        · rw [flat_len (sz := 1) (fun _ => rfl)]
          simp only [List.length_append, List.length_cons, List.length_take, List.length_drop]
          omega
        · rw [List.size_toArray, putAt_len (by rw [hdl, hA1]; omega), hA1, Nat.mul_one]
        · rw [Nat.mul_one, hins]
          show (putAt (putAt ROW.toList i [Value.int .i64 x]) (i + 1) ((flat fI l).drop i)).take (l.length + 1) = _
          have e1 : (putAt ROW.toList i [Value.int .i64 x]).take (i + 1) = (flat fI l).take i ++ [Value.int .i64 x] := by
            unfold putAt
            rw [hRt, List.take_append_of_le_length (by simp only [List.length_append, List.length_take, List.length_cons, List.length_nil, hcl]; omega), List.take_of_length_le (by simp only [List.length_append, List.length_take, List.length_cons, List.length_nil, hcl]; omega)]
          conv => lhs; unfold putAt
          conv at e1 => lhs; unfold putAt
          rw [e1, List.take_append_of_le_length (by simp only [List.length_append, List.length_take, List.length_cons, List.length_nil, hcl, List.length_drop]; omega), List.take_of_length_le (by simp only [List.length_append, List.length_take, List.length_cons, List.length_nil, hcl, List.length_drop]; omega)]
      · obtain rfl : i = l.length := by omega
        have hc := Any2.slices_Insert_int_end_grow L (some ⟨g, 0, none⟩) l.length c vb 0 1 1 (flat fI l) [.int .i64 x] w (by omega) hnc hroom (by omega) hcl rfl (fun h => by cases h) (fun a ha j v hj => by cases ha; have := hcells j v hj; rwa [Addr.add_lit]) hvs h1v
        refine Calls.mono hc fun e w' he => ?_
        obtain ⟨rfl, rfl⟩ := he
        obtain ⟨h1, h2⟩ := hnew w.drew ((flat fI l ++ [Value.int .i64 x]).toArray ++ Builtin.zeroCells (Value.int .i64 0).cells (grownCap w (l.length + 1) c (ρ.t 3) - (l.length + 1))) (grownCap w (l.length + 1) c (ρ.t 3)) (.inr rfl) hge hle
          (by simp only [Array.size_append, zeroI_size, List.size_toArray, List.length_append, List.length_cons, List.length_nil, hcl]; omega)
          (by
            have e : (flat fI l).take l.length ++ [Value.int .i64 x] ++ (flat fI l).drop l.length = flat fI l ++ [Value.int .i64 x] := by rw [List.take_of_length_le (by omega), List.drop_eq_nil_of_le (by omega), List.append_nil]
            rw [hins, e]
            simp only [Array.toList_append]
            rw [List.take_append_of_le_length (by simp [hcl])]
            exact List.take_of_length_le (by simp [hcl]))
        exact ⟨_, rfl, _, _, rfl, h1, h2⟩
    · have hc63 : c ≤ 9223372036854775807 := by simp only [maxLen] at hcm; omega
      rcases Nat.lt_or_ge i l.length with hil | hil
      · have hc := Any2.slices_Insert_int_shift L g 0 l.length c i vb 0 1 1 (flat fI l) [.int .i64 x] w hil (by omega) hroom hc63 hgv hcl rfl hcells (fun j hj => hsp j (by omega)) (fun j hj => hfz _) hvs (fI_cells l) h1v
          (ρ.t 3) (ρ.t 3) 1 cur.size (by simp [World.shape?, hv]) (by simp [World.shape?, hg]) (by omega) (by simp [World.frozen?, hv]) (by simp [World.frozen?, hv])
        refine Calls.mono hc fun e w' he => ?_
        obtain ⟨rfl, hw'⟩ := he
        have hdl : ((flat fI l).drop i).length = l.length - i := by rw [List.length_drop, hcl]
        obtain ⟨h1, k1⟩ := setCells_row g ((flat fI l).drop i) (0 + (i + 1)) w.drew cur (ρ.t 3) hg (by rw [hdl]; omega)
        have hA1 : (putAt cur.toList (0 + (i + 1)) ((flat fI l).drop i)).length = c := by rw [putAt_len (by rw [hdl, hcur]; omega), hcur]
        obtain ⟨h2, k2⟩ := setCells_row g [.int .i64 x] (0 + i) _ _ (ρ.t 3) h1 (by simp only [List.size_toArray, hA1, List.length_cons, List.length_nil]; omega)
        obtain ⟨h3, h4⟩ := hroomy w' (putAt (putAt cur.toList (0 + (i + 1)) ((flat fI l).drop i)) (0 + i) [Value.int .i64 x]) (by rw [hw']; exact h2) (by rw [putAt_len (by simp only [hA1, List.length_cons, List.length_nil]; omega), hA1]) hroom (by
          rw [hins]
          have e1 : (putAt cur.toList (0 + (i + 1)) ((flat fI l).drop i)).take (0 + i) = (flat fI l).take i := by rw [putAt_takeLe (by omega) (by omega), Nat.zero_add, htk]
          have e2 : (putAt cur.toList (0 + (i + 1)) ((flat fI l).drop i)).drop (0 + i + [Value.int .i64 x].length) = (flat fI l).drop i ++ cur.toList.drop (0 + (i + 1) + ((flat fI l).drop i).length) := by
            rw [show 0 + i + [Value.int .i64 x].length = 0 + (i + 1) from rfl]
            exact putAt_drop (by omega)
          conv => lhs; unfold putAt
          conv at e1 => lhs; unfold putAt
          conv at e2 => lhs; unfold putAt
          rw [e1, e2, ← List.append_assoc, List.take_append_of_le_length (by simp only [List.length_append, List.length_take, List.length_cons, List.length_nil, hcl, List.length_drop]; omega), List.take_of_length_le (by simp only [List.length_append, List.length_take, List.length_cons, List.length_nil, hcl, List.length_drop]; omega)])
          (by rw [hw']; exact (((Keep.refl _ _).drew).trans k1).trans k2)
        exact ⟨_, rfl, _, _, rfl, h3, h4⟩
      · obtain rfl : i = l.length := by omega
        have hc := Any2.slices_Insert_int_end_room L g 0 l.length c vb 0 1 1 [.int .i64 x] w (by omega) hroom hc63 rfl (fun j hj => hsp (l.length + j) (by omega) |> fun h => by rwa [Nat.add_assoc]) (fun j hj => hfz _) hvs h1v
        refine Calls.mono hc fun e w' he => ?_
        obtain ⟨rfl, hw'⟩ := he
        obtain ⟨h1, k1⟩ := setCells_row g [.int .i64 x] (0 + l.length) w cur (ρ.t 3) hg (by simp only [List.length_cons, List.length_nil]; omega)
        obtain ⟨h3, h4⟩ := hroomy w' (putAt cur.toList (0 + l.length) [Value.int .i64 x]) (by rw [hw']; exact h1) (by rw [putAt_len (by simp only [hcur, List.length_cons, List.length_nil]; omega), hcur]) hroom (by
          rw [hins]
          unfold putAt
          rw [Nat.zero_add, htk, List.take_append_of_le_length (by simp only [List.length_append, List.length_take, List.length_cons, List.length_nil, hcl]; omega), List.take_of_length_le (by simp only [List.length_append, List.length_take, List.length_cons, List.length_nil, hcl]; omega)]
          rw [List.drop_eq_nil_of_le (by rw [hcl]; omega), List.append_nil]) (by rw [hw']; exact k1)
        exact ⟨_, rfl, _, _, rfl, h3, h4⟩
end

theorem cmpLays1_of {P : Program} {g : Nat} {cf : Int → Int → Int} (hc : ∀ x y w, Calls P g #[.int .i64 x, .int .i64 y] w (Ret fun v w' => v = .int .i64 (cf x y) ∧ Keep Nn w w')) (blk off size : Nat) (w : World) :
    CmpLays1 P g #[] (fun x : Int => Value.int .i64 x) cf blk off size w := fun m os dk hs x y => by
  refine (hc x y _).mono fun e w' he => ?_
  obtain ⟨v, rfl, rfl, hk⟩ := he
  obtain ⟨q, os', hw⟩ := hk.grown
  exact ⟨rfl, q, os', hw⟩
theorem flatI (l : List Int) : flat fI l = l.map fun x => Value.int .i64 x := by
  induction l with
  | nil => rfl
  | cons x r ih => rw [flat_cons, ih]; rfl

/-- slices.SortFunc over a slice of numbers of one's own. -/
theorem sortInts_own {P : Program} {ρ : Ren} (L : SlLaysF.n6 P ρ) {cf : Int → Int → Int} (hO : SWO (ltOf cf)) {g : Nat} (eg : ∀ args w, (callFunc g args).run P w = .ok (.enter g args) w)
    (hc : ∀ x y w, Calls P g #[.int .i64 x, .int .i64 y] w (Ret fun v w' => v = .int .i64 (cf x y) ∧ Keep Nn w w')) {w : World} {base e c : Nat} {av : Option Addr} {l : List Int} (hown : w.ownsRow base e 1 (.slice av l.length c) l.length (flat fI l)) (hlt : l.length < 4611686018427387904) :
    Calls P (ρ.f 6) #[.slice av l.length c, .func (.func g) #[] #[]] w (Ret fun v w' => v = .tuple #[] ∧ ∃ l', l'.Perm l ∧ (l'.Pairwise fun a b => ¬ cf b a < 0) ∧
      w'.ownsRow base e 1 (.slice av l.length c) l.length (flat fI l') ∧ Keep (fun i => Value.ownBlock (.slice av l.length c) = some i) w w') := by
  rcases hown.2 with ⟨h2, h3⟩ | ⟨B, cap, cur, h2, h3, h4, h5, h6, h7, h8⟩
  · simp only [Value.slice.injEq] at h2
    obtain ⟨rfl, hl0, rfl⟩ := h2
    have hl : l = [] := List.eq_nil_of_length_eq_zero hl0
    subst hl
    refine (AnyF.slices_SortFunc_none { L with } none 0 (.func (.func g) #[] #[]) w).mono fun ex w' he => ?_
    obtain ⟨rfl, rfl⟩ := he
    exact ⟨_, rfl, rfl, [], List.Perm.refl _, List.Pairwise.nil, hown, Keep.refl _ _⟩
  · simp only [Value.slice.injEq] at h2
    obtain ⟨rfl, -, rfl⟩ := h2
    rw [Nat.mul_one] at h7 h8
    have hB : B < w.heap.size := (Array.getElem?_eq_some_iff.1 h4).1
    have hH : Holds (fun x : Int => Value.int .i64 x) w B 0 l.toArray := by
      intro j hj
      simp only [List.size_toArray] at hj
      have hget : cur[j]? = (flat fI l)[j]? := by
        rw [← h8, List.getElem?_take, if_pos hj]
        simp
      constructor
      · simp [World.cell?, h4, hget, flatI, hj]
      · simp only [World.frozen?, h4]
        simp
    have hcon := Any.slices_SortFunc L (fun x : Int => Value.int .i64 x) (fun _ => rfl) cf hO g #[] B 0 c l.toArray w eg (cmpLays1_of hc B 0 l.toArray.size w) hH hB (by simpa using hlt)
    refine hcon.mono fun ex w' he => ?_
    obtain ⟨rfl, d', n, os, hp, hs, rfl⟩ := he
    have hds : d'.size = l.length := by have := hp.1; simpa using this
    refine ⟨.tuple #[], rfl, rfl, d'.toList, perm_of hp, sorted_of (by simpa [hds] using hs), ?_, ?_⟩
    · have hl' : (flat fI d'.toList).length = l.length * 1 := by rw [flat_len (f := fI) (sz := 1) (fun _ => rfl)]; simp [hds]
      refine ⟨hl', .inr ⟨B, c, putCells (fun x : Int => Value.int .i64 x) 0 d' cur, rfl, h3, ?_, h5, h6, by simp [putCells, h7], ?_⟩⟩
      · simp only [sortWorld, putRow, mapBlock, Go.Sort.grow, Go.Sort.ahead]
        rw [Array.getElem?_append_left (by simpa using hB)]
        simp [Array.getElem?_modify, h4, onCells]
      · refine List.ext_getElem? fun j => ?_
        rw [List.getElem?_take, Nat.mul_one]
        split
        · rename_i hj
          have hjc : j < cur.size := by omega
          simp [putCells, hjc, flatI, hj, hds]
        · rename_i hj
          exact (List.getElem?_eq_none (by rw [hl']; omega)).symm
    · refine ⟨rfl, rfl, rfl, ?_, ?_, fun i hi hn => ?_⟩
      · simp [sortWorld, putRow, mapBlock, Go.Sort.grow, Go.Sort.ahead]
      · simp [sortWorld, putRow, mapBlock, Go.Sort.grow, Go.Sort.ahead]
      · simp only [sortWorld, putRow, mapBlock, Go.Sort.grow, Go.Sort.ahead]
        rw [Array.getElem?_append_left (by simpa using hi)]
        rw [Array.getElem?_modify]
        rw [if_neg (fun e => hn (by rw [← e]; rfl))]
end Go.Px
