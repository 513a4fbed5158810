/- Plain words for layer 12: cells, chains of cells, the nodes of a tree. -/
import Derived.Test.YthofalkkdpjdlaaDoorXp12
import Derived.Test.YthofalkkdpjdlaaDoorXp2e
import Derived.Test.YthofalkkdpjdlaaDoorXM
namespace Go.Px
set_option linter.unusedVariables false
set_option linter.unusedSimpArgs false
set_option linter.unusedSectionVars false
structure C3 where
  d : Int
  x : Int
  y : Int
  deriving DecidableEq, Inhabited
structure B4 where
  x0 : Int
  y0 : Int
  x1 : Int
  y1 : Int
  deriving DecidableEq, Inhabited
def vC (c : C3) : Value := .agg #[.int .i64 c.d, .int .i64 c.x, .int .i64 c.y]
def vH (h : H2) : Value := .agg #[.int .i64 h.i, .int .i64 h.g]
def vB (b : B4) : Value := .agg #[.int .i64 b.x0, .int .i64 b.y0, .int .i64 b.x1, .int .i64 b.y1]
def vP : Option Nat → Value
  | none => .pointer none
  | some p => .pointer (some ⟨p, 0, none⟩)
def rootC : C3 := ⟨0, 0, 0⟩
def upC (c : C3) : C3 := ⟨c.d - 1, c.x / 2, c.y / 2⟩
def okC (c : C3) : Bool := cellRight c.d c.x c.y
theorem okC_iff {c : C3} : okC c = true ↔ (0 ≤ c.d ∧ c.d ≤ 8) ∧ (0 ≤ c.x ∧ c.x < 2 ^ c.d.toNat) ∧ 0 ≤ c.y ∧ c.y < 2 ^ c.d.toNat := by
  unfold okC cellRight
  simp only [decide_eq_true_eq, Bool.and_eq_true]
  omega
theorem okC_up {c : C3} (h : okC c = true) (h0 : c.d ≠ 0) : okC (upC c) = true := cellRight_up h h0
theorem okC_root {c : C3} (h : okC c = true) (h0 : c.d = 0) : c = rootC := by
  obtain ⟨d, x, y⟩ := c
  have h1 := okC_iff.1 h
  simp only at h0
  subst h0
  simp at h1
  obtain ⟨hx, hy⟩ := h1
  have e1 : x = 0 := by omega
  have e2 : y = 0 := by omega
  subst e1 e2
  rfl
/-- A cell and those above it. -/
def chainN : Nat → C3 → List C3
  | 0, c => [c]
  | n + 1, c => c :: chainN n (upC c)
def chain (c : C3) : List C3 := chainN c.d.toNat c
theorem chain_step {c : C3} (h : okC c = true) (h0 : c.d ≠ 0) : chain c = c :: chain (upC c) := by
  have h1 := okC_iff.1 h
  unfold chain
  have e : c.d.toNat = (upC c).d.toNat + 1 := by show c.d.toNat = (c.d - 1).toNat + 1; omega
  rw [e]
  rfl
theorem chain_zero {c : C3} (h0 : c.d = 0) : chain c = [c] := by
  unfold chain
  rw [h0]
  rfl
theorem chain_self (c : C3) : c ∈ chain c := by
  unfold chain
  cases c.d.toNat <;> simp [chainN]
theorem chain_ind {m : C3 → Prop} (h0 : ∀ c, okC c = true → c.d = 0 → m c) (h1 : ∀ c, okC c = true → c.d ≠ 0 → m (upC c) → m c) : ∀ c, okC c = true → m c := by
  have key : ∀ n : Nat, ∀ c, okC c = true → c.d.toNat = n → m c := fun n => by
    induction n with
    | zero => exact fun c hc e => h0 c hc (by have := okC_iff.1 hc; omega)
    | succ n ih =>
      intro c hc e
      have h2 : c.d ≠ 0 := by omega
      exact h1 c hc h2 (ih _ (okC_up hc h2) (by show (c.d - 1).toNat = n; omega))
  exact fun c hc => key _ c hc rfl
theorem chain_ok {c : C3} (h : okC c = true) : ∀ z ∈ chain c, okC z = true ∧ z.d ≤ c.d := by
  revert h
  refine fun h => chain_ind (m := fun c => ∀ z ∈ chain c, okC z = true ∧ z.d ≤ c.d) (fun c hc h0 z hz => ?_) (fun c hc h0 ih z hz => ?_) c h
  · rw [chain_zero h0] at hz
    obtain rfl := List.mem_singleton.1 hz
    exact ⟨hc, Int.le_refl _⟩
  · rw [chain_step hc h0] at hz
    rcases List.mem_cons.1 hz with rfl | hz
    · exact ⟨hc, Int.le_refl _⟩
    · have := ih z hz
      refine ⟨this.1, Int.le_trans this.2 ?_⟩
      show c.d - 1 ≤ c.d
      omega
theorem chain_nd {c : C3} (h : okC c = true) : (chain c).Nodup := by
  refine chain_ind (m := fun c => (chain c).Nodup) (fun c hc h0 => ?_) (fun c hc h0 ih => ?_) c h
  · rw [chain_zero h0]; simp
  · rw [chain_step hc h0, List.nodup_cons]
    refine ⟨fun hm => ?_, ih⟩
    have := (chain_ok (okC_up hc h0) c hm).2
    have e : (upC c).d = c.d - 1 := rfl
    omega
theorem chain_root {c : C3} (h : okC c = true) : rootC ∈ chain c := by
  refine chain_ind (m := fun c => rootC ∈ chain c) (fun c hc h0 => ?_) (fun c hc h0 ih => ?_) c h
  · rw [okC_root hc h0]; exact chain_self _
  · rw [chain_step hc h0]; exact List.mem_cons_of_mem _ ih

/-! ### The nodes of a tree -/
structure ND where
  c : C3
  p : Nat
  m : Nat
  n : Int
  bs : List (H2 × B4)
/-- The nodes are those whose count is not nothing, and the one above all. -/
structure NodesF (N : List ND) (f : C3 → Int) : Prop where
  nd : (N.map (·.c)).Nodup
  cnt : ∀ n ∈ N, n.n = f n.c
  ex : ∀ c, c ∈ N.map (·.c) ↔ c = rootC ∨ f c ≠ 0
def setN (N : List ND) (c : C3) (v : Int) : List ND := N.map fun n => if n.c = c then { n with n := v } else n
def remN (N : List ND) (c : C3) : List ND := N.filter fun n => !decide (n.c = c)
def addF (f : C3 → Int) (c : C3) (k : Int) : C3 → Int := fun z => if z = c then f c + k else f z
theorem setN_keys (N : List ND) (c : C3) (v : Int) : (setN N c v).map (·.c) = N.map (·.c) := by
  unfold setN
  rw [List.map_map]
  refine List.map_congr_left fun n _ => ?_
  simp only [Function.comp]
  split <;> rfl
/-- What counting does at one cell: the node is there. -/
theorem NodesF.set {N : List ND} {f : C3 → Int} (h : NodesF N f) {c : C3} {k : Int} (hc : c ∈ N.map (·.c)) (h0 : ¬ (f c + k = 0 ∧ c ≠ rootC)) : NodesF (setN N c (f c + k)) (addF f c k) := by
  refine ⟨by rw [setN_keys]; exact h.nd, fun n hn => ?_, fun z => ?_⟩
  · obtain ⟨q, hq, rfl⟩ := List.mem_map.1 hn
    by_cases e : q.c = c
    · simp [addF, e]
    · simpa [addF, e] using h.cnt q hq
  · rw [setN_keys, h.ex]
    unfold addF
    split
    · rename_i e
      subst e
      have h1 := (h.ex z).1 hc
      by_cases h2 : z = rootC
      · simp [h2]
      · have h3 : f z ≠ 0 := h1.resolve_left h2
        have h4 : f z + k ≠ 0 := fun e => h0 ⟨e, h2⟩
        simp [h3, h4]
    · exact Iff.rfl
/-- .. it goes. -/
theorem NodesF.rem {N : List ND} {f : C3 → Int} (h : NodesF N f) {c : C3} {k : Int} (h0 : f c + k = 0) (hr : c ≠ rootC) : NodesF (remN N c) (addF f c k) := by
  refine ⟨h.nd.sublist (List.filter_sublist.map _), fun n hn => ?_, fun z => ?_⟩
  · have hn' := List.mem_filter.1 hn
    have e : ¬ n.c = c := by simpa using hn'.2
    unfold addF
    rw [if_neg e]
    exact h.cnt n hn'.1
  · unfold addF remN
    by_cases e : z = c
    · subst e
      rw [if_pos rfl]
      constructor
      · intro hz
        obtain ⟨n, hn, hnc⟩ := List.mem_map.1 hz
        have := (List.mem_filter.1 hn).2
        simp [hnc] at this
      · rintro (h1 | h1)
        · exact absurd h1 hr
        · exact absurd h0 h1
    · rw [if_neg e, ← h.ex]
      constructor
      · intro hz
        obtain ⟨n, hn, hnc⟩ := List.mem_map.1 hz
        exact List.mem_map.2 ⟨n, (List.mem_filter.1 hn).1, hnc⟩
      · intro hz
        obtain ⟨n, hn, hnc⟩ := List.mem_map.1 hz
        exact List.mem_map.2 ⟨n, List.mem_filter.2 ⟨hn, by rw [hnc]; simpa using e⟩, hnc⟩
/-- .. it comes. -/
theorem NodesF.new {N : List ND} {f : C3 → Int} (h : NodesF N f) {c : C3} {k : Int} (hc : ¬ c ∈ N.map (·.c)) (h0 : f c + k ≠ 0) (p m : Nat) : NodesF (N ++ [⟨c, p, m, f c + k, []⟩]) (addF f c k) := by
  have hz : ∀ n ∈ N, n.c ≠ c := fun n hn e => hc (List.mem_map.2 ⟨n, hn, e⟩)
  refine ⟨?_, fun n hn => ?_, fun z => ?_⟩
  · rw [List.map_append]
    refine List.nodup_append.2 ⟨h.nd, by simp, fun a ha b hb e => ?_⟩
    obtain rfl := List.mem_singleton.1 hb
    subst e
    exact hc ha
  · rcases List.mem_append.1 hn with hn | hn
    · unfold addF
      rw [if_neg (hz n hn)]
      exact h.cnt n hn
    · obtain rfl := List.mem_singleton.1 hn
      unfold addF
      rw [if_pos rfl]
  · rw [List.map_append, List.mem_append, h.ex]
    unfold addF
    by_cases e : z = c
    · subst e
      simp [h0]
    · simp [e]
/-! ### What has been counted -/
def inCh (z k : C3) : Bool := decide (z ∈ chain k)
def fK (K : List C3) (z : C3) : Int := ((K.filter fun k => inCh z k).length : Nat)
theorem fK_cons (c : C3) (K : List C3) (z : C3) : fK (c :: K) z = fK K z + if z ∈ chain c then 1 else 0 := by
  unfold fK
  rw [List.filter_cons]
  by_cases h : z ∈ chain c
  · simp [inCh, h]
  · simp [inCh, h]
theorem fK_nonneg (K : List C3) (z : C3) : 0 ≤ fK K z := Int.natCast_nonneg _
theorem fK_perm {K K' : List C3} (h : K.Perm K') (z : C3) : fK K z = fK K' z := by
  unfold fK
  rw [(h.filter _).length_eq]
theorem fK_pos {K : List C3} {k z : C3} (hk : k ∈ K) (hz : z ∈ chain k) : 0 < fK K z := by
  unfold fK
  have : 0 < (K.filter fun k => inCh z k).length := List.length_pos_of_mem (List.mem_filter.2 ⟨hk, decide_eq_true hz⟩)
  omega
theorem fK_ne {K : List C3} {z : C3} (h : fK K z ≠ 0) : ∃ k ∈ K, z ∈ chain k := by
  unfold fK at h
  cases hl : K.filter fun k => inCh z k with
  | nil => rw [hl] at h; simp at h
  | cons k r =>
    have hm : k ∈ K.filter fun k => inCh z k := by rw [hl]; exact List.mem_cons_self ..
    exact ⟨k, (List.mem_filter.1 hm).1, of_decide_eq_true (List.mem_filter.1 hm).2⟩
/-- On the way up: those in 'done' have been counted. -/
def fD (K : List C3) (done : List C3) (z : C3) : Int := fK K z + if z ∈ done then 1 else 0
theorem fD_nil (K : List C3) : fD K [] = fK K := by funext z; simp [fD]
theorem fD_snoc {K done : List C3} {c : C3} (hc : ¬ c ∈ done) : addF (fD K done) c 1 = fD K (done ++ [c]) := by
  funext z
  unfold addF fD
  by_cases h : z = c
  · subst h
    simp [hc]
  · by_cases h2 : z ∈ done
    · simp [h, h2]
    · simp [h, h2]
theorem fD_chain (K : List C3) (c : C3) : fD K (chain c) = fK (c :: K) := by funext z; rw [fK_cons]; rfl
/-- The boxes that stand in a cell's node. -/
def bsAt (N : List ND) (z : C3) : List (H2 × B4) := ((N.find? fun n => decide (n.c = z)).map (·.bs)).getD []
theorem bsAt_set (N : List ND) (c : C3) (v : Int) (z : C3) : bsAt (setN N c v) z = bsAt N z := by
  unfold bsAt setN
  induction N with
  | nil => rfl
  | cons n r ih =>
    simp only [List.map_cons, List.find?_cons]
    by_cases h : n.c = c
    · rw [if_pos h]
      by_cases h2 : n.c = z
      · simp [h2]
      · simp only [decide_eq_false h2]
        exact ih
    · rw [if_neg h]
      by_cases h2 : n.c = z
      · simp [h2]
      · simp only [decide_eq_false h2]
        exact ih
theorem bsAt_new {N : List ND} {c : C3} (hc : ¬ c ∈ N.map (·.c)) (p m : Nat) (v : Int) (z : C3) : bsAt (N ++ [⟨c, p, m, v, []⟩]) z = bsAt N z := by
  unfold bsAt
  rw [List.find?_append]
  cases h : N.find? fun n => decide (n.c = z) with
  | some n => rfl
  | none =>
    simp only [Option.none_or, List.find?_cons, List.find?_nil]
    split
    · rfl
    · rfl
theorem bsAt_mem {N : List ND} (hd : (N.map (·.c)).Nodup) {n : ND} (hn : n ∈ N) : bsAt N n.c = n.bs := by
  unfold bsAt
  induction N with
  | nil => cases hn
  | cons q r ih =>
    rw [List.map_cons, List.nodup_cons] at hd
    rw [List.find?_cons]
    rcases List.mem_cons.1 hn with rfl | hn
    · simp
    · have h : ¬ q.c = n.c := fun e => hd.1 (List.mem_map.2 ⟨n, hn, e.symm⟩)
      simp only [decide_eq_false h]
      exact ih hd.2 hn
theorem bsAt_none {N : List ND} {z : C3} (h : ¬ z ∈ N.map (·.c)) : bsAt N z = [] := by
  unfold bsAt
  rw [List.find?_eq_none.2 fun n hn hd => h (List.mem_map.2 ⟨n, hn, of_decide_eq_true hd⟩)]
  rfl
/-! ### A tree of boxes -/
def cellB (b : B4) : C3 := ⟨depthOf (bsize b.x0 b.y0 b.x1 b.y1), colOf ((b.x0 + b.x1) / 2) (depthOf (bsize b.x0 b.y0 b.x1 b.y1)), colOf ((b.y0 + b.y1) / 2) (depthOf (bsize b.x0 b.y0 b.x1 b.y1))⟩
def okB (b : B4) : Bool := boxRight b.x0 b.y0 b.x1 b.y1 && inWorld b.x0 b.y0 b.x1 b.y1
structure TreeI (N : List ND) (Lc : List (H2 × C3)) (bs : List (H2 × B4)) : Prop where
  nf : NodesF N (fK (bs.map fun x => cellB x.2))
  nb : ∀ z, (bsAt N z).Perm (bs.filter fun x => decide (cellB x.2 = z))
  cs : Lc = bs.map fun x => (x.1, cellB x.2)
  ok : ∀ x ∈ bs, okB x.2 = true
  hd : (bs.map (·.1)).Nodup
/-- One more box in its node. -/
def boxN (N : List ND) (c : C3) (h : H2) (b : B4) : List ND := N.map fun n => if n.c = c then { n with bs := putK n.bs h b } else n
theorem boxN_keys (N : List ND) (c : C3) (h : H2) (b : B4) : (boxN N c h b).map (·.c) = N.map (·.c) := by
  unfold boxN
  rw [List.map_map]
  refine List.map_congr_left fun n _ => ?_
  simp only [Function.comp]
  split <;> rfl
theorem bsAt_box (N : List ND) (c : C3) (h : H2) (b : B4) (z : C3) (hc : c ∈ N.map (·.c)) : bsAt (boxN N c h b) z = if z = c then putK (bsAt N c) h b else bsAt N z := by
  unfold bsAt boxN
  induction N with
  | nil => cases hc
  | cons n r ih =>
    simp only [List.map_cons, List.find?_cons]
    by_cases h1 : n.c = c
    · rw [if_pos h1]
      by_cases h2 : z = c
      · subst h2
        simp [h1]
      · have h3 : ¬ n.c = z := fun e => h2 (e.symm.trans h1)
        simp only [decide_eq_false h3, if_neg h2]
        have : ∀ r : List ND, ((r.map fun n => if n.c = c then { n with bs := putK n.bs h b } else n).find? fun n => decide (n.c = z)).map (·.bs) = (r.find? fun n => decide (n.c = z)).map (·.bs) := fun r => by
          induction r with
          | nil => rfl
          | cons q r ih2 =>
            simp only [List.map_cons, List.find?_cons]
            by_cases h4 : q.c = c
            · have h5 : ¬ q.c = z := fun e => h2 (e.symm.trans h4)
              rw [if_pos h4]
              simp only [decide_eq_false h5]
              exact ih2
            · rw [if_neg h4]
              split
              · rfl
              · exact ih2
        rw [this]
    · rw [if_neg h1]
      have hc' : c ∈ r.map (·.c) := by
        rw [List.map_cons] at hc
        rcases List.mem_cons.1 hc with e | hc
        · exact absurd e.symm h1
        · exact hc
      by_cases h2 : n.c = z
      · have h3 : ¬ z = c := fun e => h1 (h2.trans e)
        simp [h2, h3]
      · simp only [decide_eq_false h2, decide_eq_false h1]
        exact ih hc'
theorem TreeI.new (p m : Nat) : TreeI [⟨rootC, p, m, 0, []⟩] [] [] := by
  refine ⟨⟨by simp, fun n hn => ?_, fun c => ?_⟩, fun z => ?_, rfl, by simp, by simp⟩
  · obtain rfl := List.mem_singleton.1 hn
    rfl
  · simp [fK]
  · unfold bsAt
    simp only [List.find?_cons, List.find?_nil]
    split <;> simp
theorem TreeI.put {N N1 : List ND} {Lc : List (H2 × C3)} {bs : List (H2 × B4)} (h : TreeI N Lc bs) {k : H2} {b : B4} (hk : hasK Lc k = false) (hb : okB b = true) (h1 : NodesF N1 (fK (cellB b :: bs.map fun x => cellB x.2))) (h2 : ∀ z, bsAt N1 z = bsAt N z) :
    TreeI (boxN N1 (cellB b) k b) (putK Lc k (cellB b)) (bs ++ [(k, b)]) := by
  have hnk : ¬ k ∈ bs.map (·.1) := fun hm => by
    have : hasK Lc k = true := hasK_iff.2 (by rw [h.cs, List.map_map]; exact hm)
    rw [this] at hk
    cases hk
  have hc : cellB b ∈ N1.map (·.c) := (h1.ex _).2 (.inr (Int.ne_of_gt (fK_pos (List.mem_cons_self ..) (chain_self _))))
  refine ⟨⟨by rw [boxN_keys]; exact h1.nd, fun n hn => ?_, fun c => ?_⟩, fun z => ?_, ?_, fun x hx => ?_, ?_⟩
  · obtain ⟨q, hq, rfl⟩ := List.mem_map.1 hn
    have e := h1.cnt q hq
    have e2 : fK ((bs ++ [(k, b)]).map fun x => cellB x.2) q.c = fK (cellB b :: bs.map fun x => cellB x.2) q.c := fK_perm (by
      rw [List.map_append]
      exact List.perm_append_singleton _ _) _
    split
    · rw [e2]; exact e
    · rw [e2]; exact e
  · rw [boxN_keys, h1.ex, fK_perm (K' := (bs ++ [(k, b)]).map fun x => cellB x.2) (by
      rw [List.map_append]
      exact (List.perm_append_singleton _ _).symm)]
  · rw [bsAt_box _ _ _ _ _ hc, List.filter_append]
    by_cases hz : z = cellB b
    · subst hz
      rw [if_pos rfl, h2]
      have hn : hasK (bsAt N (cellB b)) k = false := by
        cases hh : hasK (bsAt N (cellB b)) k with
        | false => rfl
        | true =>
          obtain ⟨x, hx, hxk⟩ := List.mem_map.1 (hasK_iff.1 hh)
          have := (List.mem_filter.1 ((h.nb _).mem_iff.1 hx)).1
          exact absurd (List.mem_map.2 ⟨x, this, hxk⟩) hnk
      have e3 : ([(k, b)] : List (H2 × B4)).filter (fun x => decide (cellB x.2 = cellB b)) = [(k, b)] := by simp
      rw [putK, hn, e3]
      exact (h.nb _).append_right _
    · have e3 : ([(k, b)] : List (H2 × B4)).filter (fun x => decide (cellB x.2 = z)) = [] := by
        rw [List.filter_cons, decide_eq_false (fun e : cellB b = z => hz e.symm)]
        rfl
      rw [if_neg hz, h2, e3, List.append_nil]
      exact h.nb z
  · rw [putK, hk, h.cs, List.map_append]
    rfl
  · rcases List.mem_append.1 hx with hx | hx
    · exact h.ok x hx
    · obtain rfl := List.mem_singleton.1 hx
      exact hb
  · rw [List.map_append]
    refine List.nodup_append.2 ⟨h.hd, by simp, fun a ha b' hb' e => ?_⟩
    simp only [List.map_cons, List.map_nil, List.mem_singleton] at hb'
    subst e
    subst hb'
    exact hnk ha
end Go.Px
