/- Texts put together: XpT, XpU, XpV, XpW, XpX. -/
import Derived.Test.YthofalkkdpjdlaaDoorXp12
import Derived.Test.YthofalkkdpjdlaaDoorXpB
import Derived.Test.YthofalkkdpjdlaaDoorXM
import Derived.Test.YthofalkkdpjdlaaDoorXN
import Derived.Test.YthofalkkdpjdlaaDoorXW
namespace Go.Px
set_option linter.unusedVariables false
set_option linter.unusedSimpArgs false
set_option linter.unusedSectionVars false
structure C3 where
  d : Int
  x : Int
  y : Int
  deriving DecidableEq, Inhabited
structure B4 where
  x0 : Int
  y0 : Int
  x1 : Int
  y1 : Int
  deriving DecidableEq, Inhabited
def vC (c : C3) : Value := .agg #[.int .i64 c.d, .int .i64 c.x, .int .i64 c.y]
def vH (h : H2) : Value := .agg #[.int .i64 h.i, .int .i64 h.g]
def vB (b : B4) : Value := .agg #[.int .i64 b.x0, .int .i64 b.y0, .int .i64 b.x1, .int .i64 b.y1]
def vP : Option Nat → Value
  | none => .pointer none
  | some p => .pointer (some ⟨p, 0, none⟩)
def rootC : C3 := ⟨0, 0, 0⟩
def upC (c : C3) : C3 := ⟨c.d - 1, c.x / 2, c.y / 2⟩
def okC (c : C3) : Bool := cellRight c.d c.x c.y
theorem okC_iff {c : C3} : okC c = true ↔ (0 ≤ c.d ∧ c.d ≤ 8) ∧ (0 ≤ c.x ∧ c.x < 2 ^ c.d.toNat) ∧ 0 ≤ c.y ∧ c.y < 2 ^ c.d.toNat := by
  unfold okC cellRight
  simp only [decide_eq_true_eq, Bool.and_eq_true]
  omega
theorem okC_up {c : C3} (h : okC c = true) (h0 : c.d ≠ 0) : okC (upC c) = true := cellRight_up h h0
theorem okC_root {c : C3} (h : okC c = true) (h0 : c.d = 0) : c = rootC := by
  obtain ⟨d, x, y⟩ := c
  have h1 := okC_iff.1 h
  simp only at h0
  subst h0
  simp at h1
  obtain ⟨hx, hy⟩ := h1
  have e1 : x = 0 := by omega
  have e2 : y = 0 := by omega
  subst e1 e2
  rfl
/-- A cell and those above it. -/
def chainN : Nat → C3 → List C3
  | 0, c => [c]
  | n + 1, c => c :: chainN n (upC c)
def chain (c : C3) : List C3 := chainN c.d.toNat c
theorem chain_step {c : C3} (h : okC c = true) (h0 : c.d ≠ 0) : chain c = c :: chain (upC c) := by
  have h1 := okC_iff.1 h
  unfold chain
  have e : c.d.toNat = (upC c).d.toNat + 1 := by show c.d.toNat = (c.d - 1).toNat + 1; omega
  rw [e]
  rfl
theorem chain_zero {c : C3} (h0 : c.d = 0) : chain c = [c] := by
  unfold chain
  rw [h0]
  rfl
theorem chain_self (c : C3) : c ∈ chain c := by
  unfold chain
  cases c.d.toNat <;> simp [chainN]
theorem chain_ind {m : C3 → Prop} (h0 : ∀ c, okC c = true → c.d = 0 → m c) (h1 : ∀ c, okC c = true → c.d ≠ 0 → m (upC c) → m c) : ∀ c, okC c = true → m c := by
  have key : ∀ n : Nat, ∀ c, okC c = true → c.d.toNat = n → m c := fun n => by
    induction n with
    | zero => exact fun c hc e => h0 c hc (by have := okC_iff.1 hc; omega)
    | succ n ih =>
      intro c hc e
      have h2 : c.d ≠ 0 := by omega
      exact h1 c hc h2 (ih _ (okC_up hc h2) (by show (c.d - 1).toNat = n; omega))
  exact fun c hc => key _ c hc rfl
theorem chain_ok {c : C3} (h : okC c = true) : ∀ z ∈ chain c, okC z = true ∧ z.d ≤ c.d := by
  revert h
  refine fun h => chain_ind (m := fun c => ∀ z ∈ chain c, okC z = true ∧ z.d ≤ c.d) (fun c hc h0 z hz => ?_) (fun c hc h0 ih z hz => ?_) c h
  · rw [chain_zero h0] at hz
    obtain rfl := List.mem_singleton.1 hz
    exact ⟨hc, Int.le_refl _⟩
  · rw [chain_step hc h0] at hz
    rcases List.mem_cons.1 hz with rfl | hz
    · exact ⟨hc, Int.le_refl _⟩
    · have := ih z hz
      refine ⟨this.1, Int.le_trans this.2 ?_⟩
      show c.d - 1 ≤ c.d
      omega
theorem chain_nd {c : C3} (h : okC c = true) : (chain c).Nodup := by
  refine chain_ind (m := fun c => (chain c).Nodup) (fun c hc h0 => ?_) (fun c hc h0 ih => ?_) c h
  · rw [chain_zero h0]; simp
  · rw [chain_step hc h0, List.nodup_cons]
    refine ⟨fun hm => ?_, ih⟩
    have := (chain_ok (okC_up hc h0) c hm).2
    have e : (upC c).d = c.d - 1 := rfl
    omega
theorem chain_root {c : C3} (h : okC c = true) : rootC ∈ chain c := by
  refine chain_ind (m := fun c => rootC ∈ chain c) (fun c hc h0 => ?_) (fun c hc h0 ih => ?_) c h
  · rw [okC_root hc h0]; exact chain_self _
  · rw [chain_step hc h0]; exact List.mem_cons_of_mem _ ih

/-! ### The nodes of a tree -/
structure ND where
  c : C3
  p : Nat
  m : Nat
  n : Int
  bs : List (H2 × B4)
/-- The nodes are those whose count is not nothing, and the one above all. -/
structure NodesF (N : List ND) (f : C3 → Int) : Prop where
  nd : (N.map (·.c)).Nodup
  cnt : ∀ n ∈ N, n.n = f n.c
  ex : ∀ c, c ∈ N.map (·.c) ↔ c = rootC ∨ f c ≠ 0
def setN (N : List ND) (c : C3) (v : Int) : List ND := N.map fun n => if n.c = c then { n with n := v } else n
def remN (N : List ND) (c : C3) : List ND := N.filter fun n => !decide (n.c = c)
def addF (f : C3 → Int) (c : C3) (k : Int) : C3 → Int := fun z => if z = c then f c + k else f z
theorem setN_keys (N : List ND) (c : C3) (v : Int) : (setN N c v).map (·.c) = N.map (·.c) := by
  unfold setN
  rw [List.map_map]
  refine List.map_congr_left fun n _ => ?_
  simp only [Function.comp]
  split <;> rfl
/-- What counting does at one cell: the node is there. -/
theorem NodesF.set {N : List ND} {f : C3 → Int} (h : NodesF N f) {c : C3} {k : Int} (hc : c ∈ N.map (·.c)) (h0 : ¬ (f c + k = 0 ∧ c ≠ rootC)) : NodesF (setN N c (f c + k)) (addF f c k) := by
  refine ⟨by rw [setN_keys]; exact h.nd, fun n hn => ?_, fun z => ?_⟩
  · obtain ⟨q, hq, rfl⟩ := List.mem_map.1 hn
    by_cases e : q.c = c
    · simp [addF, e]
    · simpa [addF, e] using h.cnt q hq
  · rw [setN_keys, h.ex]
    unfold addF
    split
    · rename_i e
      subst e
      have h1 := (h.ex z).1 hc
      by_cases h2 : z = rootC
      · simp [h2]
      · have h3 : f z ≠ 0 := h1.resolve_left h2
        have h4 : f z + k ≠ 0 := fun e => h0 ⟨e, h2⟩
        simp [h3, h4]
    · exact Iff.rfl
/-- .. it goes. -/
theorem NodesF.rem {N : List ND} {f : C3 → Int} (h : NodesF N f) {c : C3} {k : Int} (h0 : f c + k = 0) (hr : c ≠ rootC) : NodesF (remN N c) (addF f c k) := by
  refine ⟨h.nd.sublist (List.filter_sublist.map _), fun n hn => ?_, fun z => ?_⟩
  · have hn' := List.mem_filter.1 hn
    have e : ¬ n.c = c := by simpa using hn'.2
    unfold addF
    rw [if_neg e]
    exact h.cnt n hn'.1
  · unfold addF remN
    by_cases e : z = c
    · subst e
      rw [if_pos rfl]
      constructor
      · intro hz
        obtain ⟨n, hn, hnc⟩ := List.mem_map.1 hz
        have := (List.mem_filter.1 hn).2
        simp [hnc] at this
      · rintro (h1 | h1)
        · exact absurd h1 hr
        · exact absurd h0 h1
    · rw [if_neg e, ← h.ex]
      constructor
      · intro hz
        obtain ⟨n, hn, hnc⟩ := List.mem_map.1 hz
        exact List.mem_map.2 ⟨n, (List.mem_filter.1 hn).1, hnc⟩
      · intro hz
        obtain ⟨n, hn, hnc⟩ := List.mem_map.1 hz
        exact List.mem_map.2 ⟨n, List.mem_filter.2 ⟨hn, by rw [hnc]; simpa using e⟩, hnc⟩
/-- .. it comes. -/
theorem NodesF.new {N : List ND} {f : C3 → Int} (h : NodesF N f) {c : C3} {k : Int} (hc : ¬ c ∈ N.map (·.c)) (h0 : f c + k ≠ 0) (p m : Nat) : NodesF (N ++ [⟨c, p, m, f c + k, []⟩]) (addF f c k) := by
  have hz : ∀ n ∈ N, n.c ≠ c := fun n hn e => hc (List.mem_map.2 ⟨n, hn, e⟩)
  refine ⟨?_, fun n hn => ?_, fun z => ?_⟩
  · rw [List.map_append]
    refine List.nodup_append.2 ⟨h.nd, by simp, fun a ha b hb e => ?_⟩
    obtain rfl := List.mem_singleton.1 hb
    subst e
    exact hc ha
  · rcases List.mem_append.1 hn with hn | hn
    · unfold addF
      rw [if_neg (hz n hn)]
      exact h.cnt n hn
    · obtain rfl := List.mem_singleton.1 hn
      unfold addF
      rw [if_pos rfl]
  · rw [List.map_append, List.mem_append, h.ex]
    unfold addF
    by_cases e : z = c
    · subst e
      simp [h0]
    · simp [e]
/-! ### What has been counted -/
def inCh (z k : C3) : Bool := decide (z ∈ chain k)
def fK (K : List C3) (z : C3) : Int := ((K.filter fun k => inCh z k).length : Nat)
theorem fK_cons (c : C3) (K : List C3) (z : C3) : fK (c :: K) z = fK K z + if z ∈ chain c then 1 else 0 := by
  unfold fK
  rw [List.filter_cons]
  by_cases h : z ∈ chain c
  · simp [inCh, h]
  · simp [inCh, h]
theorem fK_nonneg (K : List C3) (z : C3) : 0 ≤ fK K z := Int.natCast_nonneg _
theorem fK_perm {K K' : List C3} (h : K.Perm K') (z : C3) : fK K z = fK K' z := by
  unfold fK
  rw [(h.filter _).length_eq]
theorem fK_pos {K : List C3} {k z : C3} (hk : k ∈ K) (hz : z ∈ chain k) : 0 < fK K z := by
  unfold fK
  have : 0 < (K.filter fun k => inCh z k).length := List.length_pos_of_mem (List.mem_filter.2 ⟨hk, decide_eq_true hz⟩)
  omega
theorem fK_ne {K : List C3} {z : C3} (h : fK K z ≠ 0) : ∃ k ∈ K, z ∈ chain k := by
  unfold fK at h
  cases hl : K.filter fun k => inCh z k with
  | nil => rw [hl] at h; simp at h
  | cons k r =>
    have hm : k ∈ K.filter fun k => inCh z k := by rw [hl]; exact List.mem_cons_self ..
    exact ⟨k, (List.mem_filter.1 hm).1, of_decide_eq_true (List.mem_filter.1 hm).2⟩
/-- On the way up: those in 'done' have been counted. -/
def fD (K : List C3) (done : List C3) (z : C3) : Int := fK K z + if z ∈ done then 1 else 0
theorem fD_nil (K : List C3) : fD K [] = fK K := by funext z; simp [fD]
theorem fD_snoc {K done : List C3} {c : C3} (hc : ¬ c ∈ done) : addF (fD K done) c 1 = fD K (done ++ [c]) := by
  funext z
  unfold addF fD
  by_cases h : z = c
  · subst h
    simp [hc]
  · by_cases h2 : z ∈ done
    · simp [h, h2]
    · simp [h, h2]
theorem fD_chain (K : List C3) (c : C3) : fD K (chain c) = fK (c :: K) := by funext z; rw [fK_cons]; rfl
/-- The boxes that stand in a cell's node. -/
def bsAt (N : List ND) (z : C3) : List (H2 × B4) := ((N.find? fun n => decide (n.c = z)).map (·.bs)).getD []
theorem bsAt_set (N : List ND) (c : C3) (v : Int) (z : C3) : bsAt (setN N c v) z = bsAt N z := by
  unfold bsAt setN
  induction N with
  | nil => rfl
  | cons n r ih =>
    simp only [List.map_cons, List.find?_cons]
    by_cases h : n.c = c
    · rw [if_pos h]
      by_cases h2 : n.c = z
      · simp [h2]
      · simp only [decide_eq_false h2]
        exact ih
    · rw [if_neg h]
      by_cases h2 : n.c = z
      · simp [h2]
      · simp only [decide_eq_false h2]
        exact ih
theorem bsAt_new {N : List ND} {c : C3} (hc : ¬ c ∈ N.map (·.c)) (p m : Nat) (v : Int) (z : C3) : bsAt (N ++ [⟨c, p, m, v, []⟩]) z = bsAt N z := by
  unfold bsAt
  rw [List.find?_append]
  cases h : N.find? fun n => decide (n.c = z) with
  | some n => rfl
  | none =>
    simp only [Option.none_or, List.find?_cons, List.find?_nil]
    split
    · rfl
    · rfl
theorem bsAt_mem {N : List ND} (hd : (N.map (·.c)).Nodup) {n : ND} (hn : n ∈ N) : bsAt N n.c = n.bs := by
  unfold bsAt
  induction N with
  | nil => cases hn
  | cons q r ih =>
    rw [List.map_cons, List.nodup_cons] at hd
    rw [List.find?_cons]
    rcases List.mem_cons.1 hn with rfl | hn
    · simp
    · have h : ¬ q.c = n.c := fun e => hd.1 (List.mem_map.2 ⟨n, hn, e.symm⟩)
      simp only [decide_eq_false h]
      exact ih hd.2 hn
theorem bsAt_none {N : List ND} {z : C3} (h : ¬ z ∈ N.map (·.c)) : bsAt N z = [] := by
  unfold bsAt
  rw [List.find?_eq_none.2 fun n hn hd => h (List.mem_map.2 ⟨n, hn, of_decide_eq_true hd⟩)]
  rfl
/-! ### A tree of boxes -/
def cellB (b : B4) : C3 := ⟨depthOf (bsize b.x0 b.y0 b.x1 b.y1), colOf ((b.x0 + b.x1) / 2) (depthOf (bsize b.x0 b.y0 b.x1 b.y1)), colOf ((b.y0 + b.y1) / 2) (depthOf (bsize b.x0 b.y0 b.x1 b.y1))⟩
def okB (b : B4) : Bool := boxRight b.x0 b.y0 b.x1 b.y1 && inWorld b.x0 b.y0 b.x1 b.y1
structure TreeI (N : List ND) (Lc : List (H2 × C3)) (bs : List (H2 × B4)) : Prop where
  nf : NodesF N (fK (bs.map fun x => cellB x.2))
  nb : ∀ z, (bsAt N z).Perm (bs.filter fun x => decide (cellB x.2 = z))
  cs : Lc = bs.map fun x => (x.1, cellB x.2)
  ok : ∀ x ∈ bs, okB x.2 = true
  hd : (bs.map (·.1)).Nodup
/-- One more box in its node. -/
def boxN (N : List ND) (c : C3) (h : H2) (b : B4) : List ND := N.map fun n => if n.c = c then { n with bs := putK n.bs h b } else n
theorem boxN_keys (N : List ND) (c : C3) (h : H2) (b : B4) : (boxN N c h b).map (·.c) = N.map (·.c) := by
  unfold boxN
  rw [List.map_map]
  refine List.map_congr_left fun n _ => ?_
  simp only [Function.comp]
  split <;> rfl
theorem bsAt_box (N : List ND) (c : C3) (h : H2) (b : B4) (z : C3) (hc : c ∈ N.map (·.c)) : bsAt (boxN N c h b) z = if z = c then putK (bsAt N c) h b else bsAt N z := by
  unfold bsAt boxN
  induction N with
  | nil => cases hc
  | cons n r ih =>
    simp only [List.map_cons, List.find?_cons]
    by_cases h1 : n.c = c
    · rw [if_pos h1]
      by_cases h2 : z = c
      · subst h2
        simp [h1]
      · have h3 : ¬ n.c = z := fun e => h2 (e.symm.trans h1)
        simp only [decide_eq_false h3, if_neg h2]
        have : ∀ r : List ND, ((r.map fun n => if n.c = c then { n with bs := putK n.bs h b } else n).find? fun n => decide (n.c = z)).map (·.bs) = (r.find? fun n => decide (n.c = z)).map (·.bs) := fun r => by
          induction r with
          | nil => rfl
          | cons q r ih2 =>
            simp only [List.map_cons, List.find?_cons]
            by_cases h4 : q.c = c
            · have h5 : ¬ q.c = z := fun e => h2 (e.symm.trans h4)
              rw [if_pos h4]
              simp only [decide_eq_false h5]
              exact ih2
            · rw [if_neg h4]
              split
              · rfl
              · exact ih2
        rw [this]
    · rw [if_neg h1]
      have hc' : c ∈ r.map (·.c) := by
        rw [List.map_cons] at hc
        rcases List.mem_cons.1 hc with e | hc
        · exact absurd e.symm h1
        · exact hc
      by_cases h2 : n.c = z
      · have h3 : ¬ z = c := fun e => h1 (h2.trans e)
        simp [h2, h3]
      · simp only [decide_eq_false h2, decide_eq_false h1]
        exact ih hc'
theorem TreeI.new (p m : Nat) : TreeI [⟨rootC, p, m, 0, []⟩] [] [] := by
  refine ⟨⟨by simp, fun n hn => ?_, fun c => ?_⟩, fun z => ?_, rfl, by simp, by simp⟩
  · obtain rfl := List.mem_singleton.1 hn
    rfl
  · simp [fK]
  · unfold bsAt
    simp only [List.find?_cons, List.find?_nil]
    split <;> simp
theorem TreeI.put {N N1 : List ND} {Lc : List (H2 × C3)} {bs : List (H2 × B4)} (h : TreeI N Lc bs) {k : H2} {b : B4} (hk : hasK Lc k = false) (hb : okB b = true) (h1 : NodesF N1 (fK (cellB b :: bs.map fun x => cellB x.2))) (h2 : ∀ z, bsAt N1 z = bsAt N z) :
    TreeI (boxN N1 (cellB b) k b) (putK Lc k (cellB b)) (bs ++ [(k, b)]) := by
  have hnk : ¬ k ∈ bs.map (·.1) := fun hm => by
    have : hasK Lc k = true := hasK_iff.2 (by rw [h.cs, List.map_map]; exact hm)
    rw [this] at hk
    cases hk
  have hc : cellB b ∈ N1.map (·.c) := (h1.ex _).2 (.inr (Int.ne_of_gt (fK_pos (List.mem_cons_self ..) (chain_self _))))
  refine ⟨⟨by rw [boxN_keys]; exact h1.nd, fun n hn => ?_, fun c => ?_⟩, fun z => ?_, ?_, fun x hx => ?_, ?_⟩
  · obtain ⟨q, hq, rfl⟩ := List.mem_map.1 hn
    have e := h1.cnt q hq
    have e2 : fK ((bs ++ [(k, b)]).map fun x => cellB x.2) q.c = fK (cellB b :: bs.map fun x => cellB x.2) q.c := fK_perm (by
      rw [List.map_append]
      exact List.perm_append_singleton _ _) _
    split
    · rw [e2]; exact e
    · rw [e2]; exact e
  · rw [boxN_keys, h1.ex, fK_perm (K' := (bs ++ [(k, b)]).map fun x => cellB x.2) (by
      rw [List.map_append]
      exact (List.perm_append_singleton _ _).symm)]
  · rw [bsAt_box _ _ _ _ _ hc, List.filter_append]
    by_cases hz : z = cellB b
    · subst hz
      rw [if_pos rfl, h2]
      have hn : hasK (bsAt N (cellB b)) k = false := by
        cases hh : hasK (bsAt N (cellB b)) k with
        | false => rfl
        | true =>
          obtain ⟨x, hx, hxk⟩ := List.mem_map.1 (hasK_iff.1 hh)
          have := (List.mem_filter.1 ((h.nb _).mem_iff.1 hx)).1
          exact absurd (List.mem_map.2 ⟨x, this, hxk⟩) hnk
      have e3 : ([(k, b)] : List (H2 × B4)).filter (fun x => decide (cellB x.2 = cellB b)) = [(k, b)] := by simp
      rw [putK, hn, e3]
      exact (h.nb _).append_right _
    · have e3 : ([(k, b)] : List (H2 × B4)).filter (fun x => decide (cellB x.2 = z)) = [] := by
        rw [List.filter_cons, decide_eq_false (fun e : cellB b = z => hz e.symm)]
        rfl
      rw [if_neg hz, h2, e3, List.append_nil]
      exact h.nb z
  · rw [putK, hk, h.cs, List.map_append]
    rfl
  · rcases List.mem_append.1 hx with hx | hx
    · exact h.ok x hx
    · obtain rfl := List.mem_singleton.1 hx
      exact hb
  · rw [List.map_append]
    refine List.nodup_append.2 ⟨h.hd, by simp, fun a ha b' hb' e => ?_⟩
    simp only [List.map_cons, List.map_nil, List.mem_singleton] at hb'
    subst e
    subst hb'
    exact hnk ha
end Go.Px

namespace Go.Px
set_option linter.unusedVariables false
set_option linter.unusedSimpArgs false
set_option linter.unusedSectionVars false
def kids (c : C3) : List C3 := [⟨c.d + 1, 2 * c.x, 2 * c.y⟩, ⟨c.d + 1, 2 * c.x + 1, 2 * c.y⟩, ⟨c.d + 1, 2 * c.x, 2 * c.y + 1⟩, ⟨c.d + 1, 2 * c.x + 1, 2 * c.y + 1⟩]
theorem mem_kids {c y : C3} : y ∈ kids c ↔ upC y = c := by
  obtain ⟨d, x, z⟩ := c
  obtain ⟨d', x', z'⟩ := y
  simp only [kids, upC, List.mem_cons, List.not_mem_nil, or_false, C3.mk.injEq]
  omega
theorem kids_d {c k : C3} (h : k ∈ kids c) : k.d = c.d + 1 := by
  have := mem_kids.1 h
  subst this
  show k.d = k.d - 1 + 1
  omega
theorem kids_ok {c k : C3} (h : okC c = true) (hd : c.d < 8) (hk : k ∈ kids c) : okC k = true := by
  have h1 := okC_iff.1 h
  have h2 := mem_kids.1 hk
  subst h2
  have e : (upC k).d = k.d - 1 := rfl
  have ex : (upC k).x = k.x / 2 := rfl
  have ey : (upC k).y = k.y / 2 := rfl
  rw [e, ex, ey] at h1
  rw [e] at hd
  refine okC_iff.2 ⟨by omega, ?_⟩
  have h3 : (2 : Int) ^ k.d.toNat = 2 * 2 ^ (k.d - 1).toNat := by
    rw [show k.d.toNat = (k.d - 1).toNat + 1 by omega, Int.pow_succ, Int.mul_comm]
  rw [h3]
  omega
/-- Have all been entered, up to one? -/
def goodTo (e : C3 → Bool) : List C3 → C3 → Bool
  | [], _ => false
  | z :: r, c => e z && (decide (z = c) || goodTo e r c)
theorem goodTo_mem {e : C3 → Bool} : ∀ {l : List C3} {c : C3}, goodTo e l c = true → c ∈ l
  | [], _, h => by cases h
  | z :: r, c, h => by
    simp only [goodTo, Bool.and_eq_true, Bool.or_eq_true, decide_eq_true_eq] at h
    rcases h.2 with rfl | h2
    · exact List.mem_cons_self ..
    · exact List.mem_cons_of_mem _ (goodTo_mem h2)
theorem chain_depth {y : C3} (h : okC y = true) : ∀ z ∈ chain y, ∀ z' ∈ chain y, z.d = z'.d → z = z' := by
  refine chain_ind (m := fun y => ∀ z ∈ chain y, ∀ z' ∈ chain y, z.d = z'.d → z = z') (fun y hy h0 z hz z' hz' _ => ?_) (fun y hy h0 ih z hz z' hz' hd => ?_) y h
  · rw [chain_zero h0] at hz hz'
    rw [List.mem_singleton.1 hz, List.mem_singleton.1 hz']
  · rw [chain_step hy h0] at hz hz'
    have e : (upC y).d = y.d - 1 := rfl
    rcases List.mem_cons.1 hz with rfl | hz
    · rcases List.mem_cons.1 hz' with rfl | hz'
      · rfl
      · have := (chain_ok (okC_up hy h0) z' hz').2
        omega
    · rcases List.mem_cons.1 hz' with rfl | hz'
      · have := (chain_ok (okC_up hy h0) z hz).2
        omega
      · exact ih z hz z' hz' hd
theorem goodTo_step (e : C3 → Bool) {c : C3} (hc : 0 ≤ c.d) {y : C3} (hy : okC y = true) : goodTo e (chain y) c = (e c && (decide (y = c) || (kids c).any fun k => goodTo e (chain y) k)) := by
  refine chain_ind (m := fun y => goodTo e (chain y) c = (e c && (decide (y = c) || (kids c).any fun k => goodTo e (chain y) k))) (fun y hy h0 => ?_) (fun y hy h0 ih => ?_) y hy
  · rw [chain_zero h0]
    have hno : ((kids c).any fun k => goodTo e [y] k) = false := by
      rw [List.any_eq_false]
      intro k hk hg
      have h1 := List.mem_singleton.1 (goodTo_mem hg)
      have h2 := kids_d hk
      rw [h1] at h2
      omega
    rw [hno, Bool.or_false]
    simp only [goodTo, Bool.or_false]
    by_cases h1 : y = c
    · subst h1; rfl
    · simp [h1]
  · rw [chain_step hy h0]
    by_cases h1 : y = c
    · subst h1
      simp [goodTo]
    · have e1 : ((kids c).any fun k => goodTo e (y :: chain (upC y)) k) = (e y && (decide (upC y = c) || (kids c).any fun k => goodTo e (chain (upC y)) k)) := by
        have e2 : decide (upC y = c) = (kids c).any fun k => decide (y = k) := by
          rw [Bool.eq_iff_iff, decide_eq_true_iff, ← mem_kids, List.any_eq_true]
          constructor
          · exact fun h => ⟨y, h, by simp⟩
          · rintro ⟨k, hk, he⟩
            rw [of_decide_eq_true he]
            exact hk
        rw [e2]
        generalize kids c = l
        induction l with
        | nil => simp
        | cons k l ih2 =>
          simp only [List.any_cons, goodTo] at ih2 ⊢
          rw [ih2]
          cases e y <;> cases decide (y = k) <;> cases goodTo e (chain (upC y)) k <;> cases l.any (fun k => decide (y = k)) <;> cases l.any (fun k => goodTo e (chain (upC y)) k) <;> rfl
      rw [e1, decide_eq_false h1]
      simp only [goodTo, decide_eq_false h1, Bool.false_or]
      rw [ih]
      cases e y <;> cases e c <;> rfl
theorem perm_or {α : Type} {p q : α → Bool} {l : List α} (h : ∀ x ∈ l, ¬ (p x = true ∧ q x = true)) : (l.filter fun x => p x || q x).Perm (l.filter p ++ l.filter q) := by
  induction l with
  | nil => exact List.Perm.refl _
  | cons x r ih =>
    have ih' := ih fun y hy => h y (List.mem_cons_of_mem _ hy)
    have hx := h x (List.mem_cons_self ..)
    simp only [List.filter_cons]
    cases hp : p x with
    | true =>
      cases hq : q x with
      | true => exact absurd ⟨hp, hq⟩ hx
      | false => simpa using ih'
    | false =>
      cases hq : q x with
      | true => simpa using (ih'.cons x).trans List.perm_middle.symm
      | false => simpa using ih'
theorem perm_any {α β : Type} {g : α → β → Bool} {l : List α} : ∀ {ks : List β}, ks.Nodup → (∀ x ∈ l, ∀ k ∈ ks, ∀ k' ∈ ks, g x k = true → g x k' = true → k = k') → (l.filter fun x => ks.any fun k => g x k).Perm (ks.flatMap fun k => l.filter fun x => g x k)
  | [], _, _ => by simp
  | k :: ks, hd, h => by
    have hd' := List.nodup_cons.1 hd
    rw [List.flatMap_cons]
    refine (perm_or (p := fun x => g x k) (q := fun x => ks.any fun k => g x k) fun x hx hh => ?_).trans ((perm_any hd'.2 fun x hx k1 h1 k2 h2 => h x hx k1 (List.mem_cons_of_mem _ h1) k2 (List.mem_cons_of_mem _ h2)).append_left _)
    obtain ⟨k', hk', hg⟩ := List.any_eq_true.1 hh.2
    have := h x hx k (List.mem_cons_self ..) k' (List.mem_cons_of_mem _ hk') hh.1 hg
    subst this
    exact hd'.1 hk'
/-- What a walk meets from a cell on. -/
def subW (e : C3 → Bool) (bs : List (H2 × B4)) (c : C3) : List (H2 × B4) := bs.filter fun x => goodTo e (chain (cellB x.2)) c
def ownW (bs : List (H2 × B4)) (c : C3) : List (H2 × B4) := bs.filter fun x => decide (cellB x.2 = c)
theorem kids_nd (c : C3) : (kids c).Nodup := by
  obtain ⟨d, x, y⟩ := c
  simp only [kids, List.nodup_cons, List.mem_cons, List.not_mem_nil, or_false, C3.mk.injEq, List.nodup_nil, not_false_eq_true, and_true, true_and]
  omega
theorem subW_no {e : C3 → Bool} {bs : List (H2 × B4)} (hok : ∀ x ∈ bs, okC (cellB x.2) = true) {c : C3} (hc : 0 ≤ c.d) (he : e c = false) : subW e bs c = [] := by
  unfold subW
  rw [List.filter_eq_nil_iff]
  intro x hx hg
  rw [goodTo_step e hc (hok x hx), he] at hg
  cases hg
theorem subW_none {e : C3 → Bool} {bs : List (H2 × B4)} {c : C3} (h : ∀ x ∈ bs, ¬ c ∈ chain (cellB x.2)) : subW e bs c = [] := by
  unfold subW
  rw [List.filter_eq_nil_iff]
  exact fun x hx hg => h x hx (goodTo_mem hg)
theorem subW_yes {e : C3 → Bool} {bs : List (H2 × B4)} (hok : ∀ x ∈ bs, okC (cellB x.2) = true) {c : C3} (hc : 0 ≤ c.d) (he : e c = true) : (subW e bs c).Perm (ownW bs c ++ (kids c).flatMap (subW e bs)) := by
  have h1 : subW e bs c = bs.filter fun x => decide (cellB x.2 = c) || (kids c).any fun k => goodTo e (chain (cellB x.2)) k := by
    unfold subW
    refine List.filter_congr fun x hx => ?_
    rw [goodTo_step e hc (hok x hx), he, Bool.true_and]
  rw [h1]
  refine (perm_or fun x hx hh => ?_).trans ((perm_any (kids_nd c) fun x hx k hk k' hk' hg hg' => ?_).append_left _)
  · obtain ⟨k, hk, hg⟩ := List.any_eq_true.1 hh.2
    have h2 := (chain_ok (hok x hx) k (goodTo_mem hg)).2
    have h3 := kids_d hk
    rw [of_decide_eq_true hh.1] at h2
    omega
  · exact chain_depth (hok x hx) k (goodTo_mem hg) k' (goodTo_mem hg') ((kids_d hk).trans (kids_d hk').symm)
theorem subW_deep {e : C3 → Bool} {bs : List (H2 × B4)} (hok : ∀ x ∈ bs, okC (cellB x.2) = true) {c : C3} (hd : c.d = 8) : (kids c).flatMap (subW e bs) = [] := by
  rw [List.flatMap_eq_nil_iff]
  intro k hk
  refine subW_none fun x hx hm => ?_
  have h1 := okC_iff.1 (chain_ok (hok x hx) k hm).1
  have h2 := kids_d hk
  omega
/-! ### How long a walk may be -/
def wgt (c : C3) : Nat := 5 ^ (9 - c.d).toNat
def wgtS (S : List C3) : Nat := (S.map wgt).sum
theorem wgt_kids {c : C3} (h : 0 ≤ c.d ∧ c.d < 8) : wgtS (kids c) < wgt c := by
  have h1 : ∀ k ∈ kids c, wgt k = 5 ^ (8 - c.d).toNat := fun k hk => by
    unfold wgt
    rw [kids_d hk]
    congr 1
    omega
  have h2 : wgtS (kids c) = 4 * 5 ^ (8 - c.d).toNat := by
    unfold wgtS
    rw [List.map_congr_left h1]
    simp [kids]
    omega
  have h3 : wgt c = 5 * 5 ^ (8 - c.d).toNat := by
    unfold wgt
    rw [show (9 - c.d).toNat = (8 - c.d).toNat + 1 by omega, Nat.pow_succ, Nat.mul_comm]
  have h4 : 0 < 5 ^ (8 - c.d).toNat := Nat.pow_pos (by omega)
  omega
theorem wgt_pos (c : C3) : 0 < wgt c := Nat.pow_pos (by omega)
theorem wgtS_app (S T : List C3) : wgtS (S ++ T) = wgtS S + wgtS T := by simp [wgtS]
theorem wgtS_one (c : C3) : wgtS [c] = wgt c := by simp [wgtS]
theorem wgtS_len (S : List C3) : S.length ≤ wgtS S := by
  induction S with
  | nil => simp
  | cons c r ih =>
    have := wgt_pos c
    simp only [wgtS, List.map_cons, List.sum_cons, List.length_cons] at *
    omega
end Go.Px

namespace Go.Px
set_option linter.unusedVariables false
set_option linter.unusedSimpArgs false
set_option linter.unusedSectionVars false
def ndCells (n : ND) : List Value := [.map (some n.m), .int .i64 n.n]
def ndB (n : ND) : List Nat := [n.p, n.m]
def NdAt (tN : TypeId) (b : Nat) (w : World) (n : ND) : Prop := b ≤ n.p ∧ b ≤ n.m ∧ w.heap[n.p]? = some (.cells (ndCells n).toArray tN (0, 0)) ∧ MapAt w n.m vH vB n.bs
/-- The nodes. -/
def oN (tN : TypeId) (N : List ND) : Own where
  B := N.flatMap ndB
  φ := fun b w => ∀ n ∈ N, NdAt tN b w n
  lt' := fun h i hi => by
    obtain ⟨n, hn, hi⟩ := List.mem_flatMap.1 hi
    have h1 := h n hn
    simp only [ndB, List.mem_cons, List.not_mem_nil, or_false] at hi
    rcases hi with rfl | rfl
    · exact ⟨h1.1, (Array.getElem?_eq_some_iff.1 h1.2.2.1).1⟩
    · exact ⟨h1.2.1, h1.2.2.2.lt⟩
  stab := fun h hk hn n hm => by
    have h1 := h n hm
    have h2 : ∀ i ∈ ndB n, ¬ _ := fun i hi => hn i (List.mem_flatMap.2 ⟨n, hm, hi⟩)
    exact ⟨h1.1, h1.2.1, hk.obj h1.2.2.1 (h2 n.p (by simp [ndB])), h1.2.2.2.keep hk (h2 n.m (by simp [ndB]))⟩
  low := fun h hb n hm => ⟨Nat.le_trans hb (h n hm).1, Nat.le_trans hb (h n hm).2.1, (h n hm).2.2⟩
section
variable {base : Nat} {M : Mem} {O : List Own} {w : World} {tN : TypeId}
theorem nd_out {α : Type} {A B C D : List α} (h : (A ++ (B ++ D ++ C)).Nodup) : (A ++ D ++ (B ++ C)).Nodup := by
  have hp : (A ++ D ++ (B ++ C)).Perm (A ++ (B ++ D ++ C)) := by
    rw [List.append_assoc]
    refine List.Perm.append_left _ ?_
    rw [← List.append_assoc, List.append_assoc B]
    exact (List.perm_append_comm (l₁ := D) (l₂ := B)).append_right C |>.trans (by rw [List.append_assoc])
  exact hp.nodup_iff.2 h
/-- One node is looked into: its variable is a known block, its boxes are a map. -/
theorem OwnOk.openN {N1 N2 : List ND} {n : ND} (h : OwnOk base M (oN tN (N1 ++ n :: N2) :: O) w) (hM : MemOk M w) :
    MemOk (M ++ [⟨n.p, tN, ndCells n⟩]) w ∧ OwnOk base (M ++ [⟨n.p, tN, ndCells n⟩]) (oM n.m vH vB n.bs :: oN tN (N1 ++ N2) :: O) w := by
  have hown := h.own _ (List.mem_cons_self ..)
  have hn : NdAt tN base w n := hown n (by simp)
  have hnd := h.nd
  have e1 : (oN tN (N1 ++ n :: N2) :: O).flatMap (·.B) = N1.flatMap ndB ++ [n.p, n.m] ++ (N2.flatMap ndB ++ O.flatMap (·.B)) := by
    simp [oN, ndB, List.flatMap_cons, List.flatMap_append]
  rw [e1] at hnd
  have h2 : (M.names ++ [n.p] ++ ([n.m] ++ (N1.flatMap ndB ++ (N2.flatMap ndB ++ O.flatMap (·.B))))).Nodup := by
    have := nd_out (A := M.names) (B := N1.flatMap ndB) (D := [n.p, n.m]) (C := N2.flatMap ndB ++ O.flatMap (·.B)) hnd
    simpa using this
  have h3 : (M ++ [(⟨n.p, tN, ndCells n⟩ : Blk)]).names = M.names ++ [n.p] := by simp [Mem.names]
  refine ⟨⟨fun b hb => ?_, by rw [h3]; exact (List.nodup_append.1 h2).1⟩, ⟨fun o ho => ?_, ?_⟩⟩
  · rcases List.mem_append.1 hb with hb | hb
    · exact hM.at_ b hb
    · obtain rfl := List.mem_singleton.1 hb
      exact hn.2.2.1
  · rcases List.mem_cons.1 ho with rfl | ho
    · exact ⟨hn.2.1, hn.2.2.2⟩
    · rcases List.mem_cons.1 ho with rfl | ho
      · intro q hq
        refine hown q ?_
        rcases List.mem_append.1 hq with hq | hq
        · exact List.mem_append.2 (.inl hq)
        · exact List.mem_append.2 (.inr (List.mem_cons_of_mem _ hq))
      · exact h.own o (List.mem_cons_of_mem _ ho)
  · rw [h3]
    have e2 : (oM n.m vH vB n.bs :: oN tN (N1 ++ N2) :: O).flatMap (·.B) = [n.m] ++ (N1.flatMap ndB ++ (N2.flatMap ndB ++ O.flatMap (·.B))) := by
      simp [oM, oN, List.flatMap_cons, List.flatMap_append]
    rw [e2]
    exact h2
/-- .. and shut again. -/
theorem OwnOk.shutN {N1 N2 : List ND} {n : ND} (h : OwnOk base (M ++ [⟨n.p, tN, ndCells n⟩]) (oM n.m vH vB n.bs :: oN tN (N1 ++ N2) :: O) w) (hM : MemOk (M ++ [⟨n.p, tN, ndCells n⟩]) w) (hb : base ≤ n.p) :
    MemOk M w ∧ OwnOk base M (oN tN (N1 ++ n :: N2) :: O) w := by
  have h3 : (M ++ [(⟨n.p, tN, ndCells n⟩ : Blk)]).names = M.names ++ [n.p] := by simp [Mem.names]
  have hm := h.own _ (List.mem_cons_self ..)
  have hN := h.own _ (List.mem_cons_of_mem _ (List.mem_cons_self ..))
  have hnd := h.nd
  rw [h3] at hnd
  have e2 : (oM n.m vH vB n.bs :: oN tN (N1 ++ N2) :: O).flatMap (·.B) = [n.m] ++ (N1.flatMap ndB ++ (N2.flatMap ndB ++ O.flatMap (·.B))) := by
    simp [oM, oN, List.flatMap_cons, List.flatMap_append]
  rw [e2] at hnd
  refine ⟨hM.sub (List.sublist_append_left _ _), ⟨fun o ho => ?_, ?_⟩⟩
  · rcases List.mem_cons.1 ho with rfl | ho
    · intro q hq
      rcases List.mem_append.1 hq with hq | hq
      · exact hN q (List.mem_append.2 (.inl hq))
      · rcases List.mem_cons.1 hq with rfl | hq
        · exact ⟨hb, hm.1, hM.at_ ⟨q.p, tN, ndCells q⟩ (by simp), hm.2⟩
        · exact hN q (List.mem_append.2 (.inr hq))
    · exact h.own o (List.mem_cons_of_mem _ (List.mem_cons_of_mem _ ho))
  · have e1 : (oN tN (N1 ++ n :: N2) :: O).flatMap (·.B) = N1.flatMap ndB ++ [n.p, n.m] ++ (N2.flatMap ndB ++ O.flatMap (·.B)) := by
      simp [oN, ndB, List.flatMap_cons, List.flatMap_append]
    rw [e1]
    have hp : (M.names ++ (N1.flatMap ndB ++ [n.p, n.m] ++ (N2.flatMap ndB ++ O.flatMap (·.B)))).Perm (M.names ++ [n.p] ++ ([n.m] ++ (N1.flatMap ndB ++ (N2.flatMap ndB ++ O.flatMap (·.B))))) := by
      have e : M.names ++ [n.p] ++ ([n.m] ++ (N1.flatMap ndB ++ (N2.flatMap ndB ++ O.flatMap (·.B)))) = M.names ++ ([n.p, n.m] ++ N1.flatMap ndB ++ (N2.flatMap ndB ++ O.flatMap (·.B))) := by simp
      rw [e]
      exact List.Perm.append_left _ (List.perm_append_comm.append_right _)
    exact hp.nodup_iff.2 hnd
theorem OwnOk.noN (h : OwnOk base M O w) : OwnOk base M (oN tN [] :: O) w :=
  ⟨fun o ho => by rcases List.mem_cons.1 ho with rfl | ho
                  · intro n hn; cases hn
                  · exact h.own o ho, by simpa [oN] using h.nd⟩
/-- The map of the nodes, and they. -/
def ndL (N : List ND) : List (C3 × Option Nat) := N.map fun n => (n.c, some n.p)
def oNM (tN : TypeId) (nB : Nat) (N : List ND) : Own where
  B := nB :: N.flatMap ndB
  φ := fun b w => (oM nB vC vP (ndL N)).φ b w ∧ (oN tN N).φ b w
  lt' := fun h i hi => by
    rcases List.mem_cons.1 hi with rfl | hi
    · exact (oM i vC vP (ndL N)).lt' h.1 i (List.mem_singleton.2 rfl)
    · exact (oN tN N).lt' h.2 i hi
  stab := fun h hk hn => ⟨(oM nB vC vP (ndL N)).stab h.1 hk fun i hi => hn i (by rw [List.mem_singleton.1 hi]; exact List.mem_cons_self ..), (oN tN N).stab h.2 hk fun i hi => hn i (List.mem_cons_of_mem _ hi)⟩
  low := fun h hb => ⟨(oM nB vC vP (ndL N)).low h.1 hb, (oN tN N).low h.2 hb⟩
theorem OwnOk.openNM {nB : Nat} {N : List ND} (h : OwnOk base M (oNM tN nB N :: O) w) : OwnOk base M (oM nB vC vP (ndL N) :: oN tN N :: O) w := by
  have h1 := h.own _ (List.mem_cons_self ..)
  refine ⟨fun o ho => ?_, by simpa [oM, oN, oNM] using h.nd⟩
  rcases List.mem_cons.1 ho with rfl | ho
  · exact h1.1
  · rcases List.mem_cons.1 ho with rfl | ho
    · exact h1.2
    · exact h.own o (List.mem_cons_of_mem _ ho)
theorem OwnOk.shutNM {nB : Nat} {N : List ND} (h : OwnOk base M (oM nB vC vP (ndL N) :: oN tN N :: O) w) : OwnOk base M (oNM tN nB N :: O) w := by
  have h1 := h.own _ (List.mem_cons_self ..)
  have h2 := h.own _ (List.mem_cons_of_mem _ (List.mem_cons_self ..))
  refine ⟨fun o ho => ?_, by simpa [oM, oN, oNM] using h.nd⟩
  rcases List.mem_cons.1 ho with rfl | ho
  · exact ⟨h1, h2⟩
  · exact h.own o (List.mem_cons_of_mem _ (List.mem_cons_of_mem _ ho))
theorem OwnOk.oneB {o : Own} (h : o.φ base w) (hd : o.B.Nodup) : OwnOk base [] [o] w := ⟨fun p hp => by obtain rfl := List.mem_singleton.1 hp; exact h, by simpa [Mem.names] using hd⟩
theorem ndL_get {N : List ND} {c : C3} : getK (ndL N) c = (N.find? fun n => decide (n.c = c)).map fun n => some n.p := by
  unfold getK ndL
  induction N with
  | nil => rfl
  | cons n r ih =>
    simp only [List.map_cons, List.find?_cons]
    by_cases h : n.c = c
    · simp [h]
    · simp only [decide_eq_false h]
      exact ih
theorem ndL_has {N : List ND} {c : C3} : hasK (ndL N) c = true ↔ c ∈ N.map (·.c) := by
  rw [hasK_iff]
  unfold ndL
  rw [List.map_map]
  exact Iff.rfl
/-- A node that is there. -/
theorem ndL_split {N : List ND} {c : C3} (h : hasK (ndL N) c = true) : ∃ (N1 : List ND) (n : ND) (N2 : List ND), N = N1 ++ n :: N2 ∧ n.c = c ∧ (getK (ndL N) c).getD none = some n.p := by
  have h1 := ndL_has.1 h
  rw [ndL_get]
  cases hf : N.find? fun n => decide (n.c = c) with
  | none =>
    obtain ⟨n, hn, hnc⟩ := List.mem_map.1 h1
    exact absurd (List.find?_eq_none.1 hf n hn) (by simp [hnc])
  | some n =>
    have hm := List.mem_of_find?_eq_some hf
    have hc : n.c = c := by
      have := List.find?_some hf
      exact of_decide_eq_true this
    obtain ⟨N1, N2, rfl⟩ := List.append_of_mem hm
    exact ⟨N1, n, N2, rfl, hc, rfl⟩
theorem ndL_put {N : List ND} {c : C3} {p m : Nat} {v : Int} {bs : List (H2 × B4)} (h : hasK (ndL N) c = false) : putK (ndL N) c (some p) = ndL (N ++ [⟨c, p, m, v, bs⟩]) := by
  unfold putK
  rw [h]
  simp [ndL]
theorem setN_split {N1 N2 : List ND} {n : ND} {v : Int} (hd : ((N1 ++ n :: N2).map (·.c)).Nodup) : setN (N1 ++ n :: N2) n.c v = N1 ++ { n with n := v } :: N2 := by
  have key : ∀ N : List ND, (∀ q ∈ N, q.c ≠ n.c) → setN N n.c v = N := fun N hN => by
    unfold setN
    conv => rhs; rw [← List.map_id N]
    refine List.map_congr_left fun q hq => ?_
    rw [if_neg (hN q hq)]
    rfl
  have h1 : ∀ q ∈ N1, q.c ≠ n.c := fun q hq e => by
    rw [List.map_append, List.nodup_append] at hd
    exact hd.2.2 q.c (List.mem_map.2 ⟨q, hq, rfl⟩) n.c (by simp) e
  have h2 : ∀ q ∈ N2, q.c ≠ n.c := fun q hq e => by
    rw [List.map_append, List.nodup_append, List.map_cons, List.nodup_cons] at hd
    exact hd.2.1.1 (List.mem_map.2 ⟨q, hq, e⟩)
  show (N1 ++ n :: N2).map _ = _
  rw [List.map_append, List.map_cons, if_pos rfl]
  have e1 := key N1 h1
  have e2 := key N2 h2
  unfold setN at e1 e2
  rw [e1, e2]
theorem ndL_set {N1 N2 : List ND} {n : ND} {v : Int} {bs : List (H2 × B4)} : ndL (N1 ++ { n with n := v, bs := bs } :: N2) = ndL (N1 ++ n :: N2) := by simp [ndL]
/-! ### The whole tree -/
def oTree (tT tN : TypeId) (T : Nat) (Bl : List Nat) (bs : List (H2 × B4)) : Own where
  B := Bl
  φ := fun b w => ∃ (nB cB : Nat) (N : List ND) (Lc : List (H2 × C3)), Bl = T :: nB :: cB :: N.flatMap ndB ∧ TreeI N Lc bs ∧ b ≤ T ∧ w.heap[T]? = some (.cells ([.map (some nB), .map (some cB)] : List Value).toArray tT (0, 0)) ∧ (oNM tN nB N).φ b w ∧ (oM cB vH vC Lc).φ b w
  lt' := fun h i hi => by
    obtain ⟨nB, cB, N, Lc, rfl, _, h1, h2, h3, h4⟩ := h
    rcases List.mem_cons.1 hi with rfl | hi
    · exact ⟨h1, (Array.getElem?_eq_some_iff.1 h2).1⟩
    · rcases List.mem_cons.1 hi with rfl | hi
      · exact (oNM tN i N).lt' h3 i (List.mem_cons_self ..)
      · rcases List.mem_cons.1 hi with rfl | hi
        · exact (oM i vH vC Lc).lt' h4 i (List.mem_singleton.2 rfl)
        · exact (oNM tN nB N).lt' h3 i (List.mem_cons_of_mem _ hi)
  stab := fun h hk hn => by
    obtain ⟨nB, cB, N, Lc, rfl, ht, h1, h2, h3, h4⟩ := h
    refine ⟨nB, cB, N, Lc, rfl, ht, h1, hk.obj h2 (hn _ (List.mem_cons_self ..)), (oNM tN nB N).stab h3 hk fun i hi => hn i ?_, (oM cB vH vC Lc).stab h4 hk fun i hi => hn i ?_⟩
    · rcases List.mem_cons.1 hi with rfl | hi
      · exact List.mem_cons_of_mem _ (List.mem_cons_self ..)
      · exact List.mem_cons_of_mem _ (List.mem_cons_of_mem _ (List.mem_cons_of_mem _ hi))
    · rw [List.mem_singleton.1 hi]
      exact List.mem_cons_of_mem _ (List.mem_cons_of_mem _ (List.mem_cons_self ..))
  low := fun h hb => by
    obtain ⟨nB, cB, N, Lc, e, ht, h1, h2, h3, h4⟩ := h
    exact ⟨nB, cB, N, Lc, e, ht, Nat.le_trans hb h1, h2, (oNM tN nB N).low h3 hb, (oM cB vH vC Lc).low h4 hb⟩
theorem OwnOk.openT {tT : TypeId} {T : Nat} {Bl : List Nat} {bs : List (H2 × B4)} (h : OwnOk base M (oTree tT tN T Bl bs :: O) w) (hM : MemOk M w) : ∃ (nB cB : Nat) (N : List ND) (Lc : List (H2 × C3)), Bl = T :: nB :: cB :: N.flatMap ndB ∧ TreeI N Lc bs ∧ base ≤ T ∧
    MemOk (M ++ [⟨T, tT, [.map (some nB), .map (some cB)]⟩]) w ∧ OwnOk base (M ++ [⟨T, tT, [.map (some nB), .map (some cB)]⟩]) (oNM tN nB N :: oM cB vH vC Lc :: O) w := by
  obtain ⟨nB, cB, N, Lc, rfl, ht, h1, h2, h3, h4⟩ := h.own _ (List.mem_cons_self ..)
  have hnd := h.nd
  have e1 : (oTree tT tN T (T :: nB :: cB :: N.flatMap ndB) bs :: O).flatMap (·.B) = T :: nB :: cB :: (N.flatMap ndB ++ O.flatMap (·.B)) := by simp [oTree, List.flatMap_cons]
  rw [e1] at hnd
  have h5 : (M ++ [(⟨T, tT, [.map (some nB), .map (some cB)]⟩ : Blk)]).names = M.names ++ [T] := by simp [Mem.names]
  have hp : (M.names ++ [T] ++ (nB :: N.flatMap ndB ++ (cB :: O.flatMap (·.B)))).Nodup := by
    have : (M.names ++ [T] ++ (nB :: N.flatMap ndB ++ (cB :: O.flatMap (·.B)))).Perm (M.names ++ T :: nB :: cB :: (N.flatMap ndB ++ O.flatMap (·.B))) := by
      rw [List.append_assoc]
      refine List.Perm.append_left _ (List.Perm.cons _ (List.Perm.cons _ ?_))
      exact List.perm_middle
    exact this.nodup_iff.2 hnd
  refine ⟨nB, cB, N, Lc, rfl, ht, h1, ⟨fun b hb => ?_, by rw [h5]; exact (List.nodup_append.1 hp).1⟩, ⟨fun o ho => ?_, ?_⟩⟩
  · rcases List.mem_append.1 hb with hb | hb
    · exact hM.at_ b hb
    · obtain rfl := List.mem_singleton.1 hb
      exact h2
  · rcases List.mem_cons.1 ho with rfl | ho
    · exact h3
    · rcases List.mem_cons.1 ho with rfl | ho
      · exact h4
      · exact h.own o (List.mem_cons_of_mem _ ho)
  · rw [h5]
    have e2 : (oNM tN nB N :: oM cB vH vC Lc :: O).flatMap (·.B) = nB :: N.flatMap ndB ++ (cB :: O.flatMap (·.B)) := by simp [oNM, oM, List.flatMap_cons]
    rw [e2]
    exact hp
theorem OwnOk.shutT {tT : TypeId} {T nB cB : Nat} {N : List ND} {Lc : List (H2 × C3)} {bs : List (H2 × B4)} (h : OwnOk base (M ++ [⟨T, tT, [.map (some nB), .map (some cB)]⟩]) (oNM tN nB N :: oM cB vH vC Lc :: O) w) (hM : MemOk (M ++ [⟨T, tT, [.map (some nB), .map (some cB)]⟩]) w)
    (hb : base ≤ T) (ht : TreeI N Lc bs) : MemOk M w ∧ OwnOk base M (oTree tT tN T (T :: nB :: cB :: N.flatMap ndB) bs :: O) w := by
  have h5 : (M ++ [(⟨T, tT, [.map (some nB), .map (some cB)]⟩ : Blk)]).names = M.names ++ [T] := by simp [Mem.names]
  have hnd := h.nd
  have e2 : (oNM tN nB N :: oM cB vH vC Lc :: O).flatMap (·.B) = nB :: N.flatMap ndB ++ (cB :: O.flatMap (·.B)) := by simp [oNM, oM, List.flatMap_cons]
  rw [h5, e2] at hnd
  refine ⟨hM.sub (List.sublist_append_left _ _), ⟨fun o ho => ?_, ?_⟩⟩
  · rcases List.mem_cons.1 ho with rfl | ho
    · exact ⟨nB, cB, N, Lc, rfl, ht, hb, hM.at_ ⟨T, tT, _⟩ (by simp), h.own _ (List.mem_cons_self ..), h.own _ (List.mem_cons_of_mem _ (List.mem_cons_self ..))⟩
    · exact h.own o (List.mem_cons_of_mem _ (List.mem_cons_of_mem _ ho))
  · have e1 : (oTree tT tN T (T :: nB :: cB :: N.flatMap ndB) bs :: O).flatMap (·.B) = T :: nB :: cB :: (N.flatMap ndB ++ O.flatMap (·.B)) := by simp [oTree, List.flatMap_cons]
    rw [e1]
    have : (M.names ++ [T] ++ (nB :: N.flatMap ndB ++ (cB :: O.flatMap (·.B)))).Perm (M.names ++ T :: nB :: cB :: (N.flatMap ndB ++ O.flatMap (·.B))) := by
      rw [List.append_assoc]
      refine List.Perm.append_left _ (List.Perm.cons _ (List.Perm.cons _ ?_))
      exact List.perm_middle
    exact this.nodup_iff.1 hnd
theorem OwnOk.ndH {o : Own} (h : OwnOk base M (o :: O) w) : o.B.Nodup := by
  have h1 := (List.nodup_append.1 h.nd).2.1
  rw [List.flatMap_cons] at h1
  exact (List.nodup_append.1 h1).1
theorem fD_bd {K done : List C3} (h : K.length ≤ 1000) (z : C3) : 0 ≤ fD K done z ∧ fD K done z ≤ 1001 := by
  unfold fD fK
  have := List.length_filter_le (fun k => inCh z k) K
  split <;> omega
theorem NodesF.bump {N1 N2 : List ND} {n : ND} {K done : List C3} {zz : C3} (h : NodesF (N1 ++ n :: N2) (fD K done)) (hnc : n.c = zz) (hz : ¬ zz ∈ done) (hK : K.length ≤ 1000) : NodesF (N1 ++ { n with n := n.n + 1 } :: N2) (fD K (done ++ [zz])) := by
  subst hnc
  have h1 := h.set (c := n.c) (k := 1) (by simp) (by have := (fD_bd (done := done) hK n.c).1; omega)
  rw [fD_snoc hz] at h1
  have h2 := h.cnt n (by simp)
  rw [← h2] at h1
  rw [setN_split (v := n.n + 1) h.nd] at h1
  exact h1
theorem NodesF.fresh {N : List ND} {K done : List C3} {zz : C3} (h : NodesF N (fD K done)) (hh : hasK (ndL N) zz = false) (hz : ¬ zz ∈ done) (p m : Nat) : NodesF (N ++ [⟨zz, p, m, 1, []⟩]) (fD K (done ++ [zz])) := by
  have hm : ¬ zz ∈ N.map (·.c) := fun hm => by rw [ndL_has.2 hm] at hh; cases hh
  have h0 : fD K done zz = 0 := by
    rcases Int.decEq (fD K done zz) 0 with h1 | h1
    · exact absurd ((h.ex zz).2 (.inr h1)) hm
    · exact h1
  have h1 := h.new (c := zz) (k := 1) hm (by omega) p m
  rw [fD_snoc hz, h0] at h1
  exact h1
theorem bsAt_bump {N1 N2 : List ND} {n : ND} {v : Int} (hd : ((N1 ++ n :: N2).map (·.c)).Nodup) (z : C3) : bsAt (N1 ++ { n with n := v } :: N2) z = bsAt (N1 ++ n :: N2) z := by
  rw [← setN_split hd]
  exact bsAt_set _ _ _ _
theorem notDone {c zz : C3} {done : List C3} (hc : okC c = true) (h : chain c = done ++ chain zz) : ¬ zz ∈ done := fun hm => by
  have h1 := chain_nd hc
  rw [h] at h1
  exact (List.nodup_append.1 h1).2.2 zz hm zz (chain_self _) rfl
theorem chain_more {c zz : C3} {done : List C3} (hz : okC zz = true) (h0 : ¬ zz.d = 0) (h : chain c = done ++ chain zz) : chain c = (done ++ [zz]) ++ chain (upC zz) := by
  rw [h, chain_step hz h0]
  simp
theorem chain_last {c zz : C3} {done : List C3} (h0 : zz.d = 0) (h : chain c = done ++ chain zz) : done ++ [zz] = chain c := by
  rw [h, chain_zero h0]
theorem oNM_bump {nB : Nat} {N1 N2 : List ND} {n : ND} {v : Int} : (oNM tN nB (N1 ++ { n with n := v } :: N2)).B = (oNM tN nB (N1 ++ n :: N2)).B := by
  simp [oNM, ndB]
theorem boxN_split {N1 N2 : List ND} {n : ND} {h : H2} {b : B4} (hd : ((N1 ++ n :: N2).map (·.c)).Nodup) : boxN (N1 ++ n :: N2) n.c h b = N1 ++ { n with bs := putK n.bs h b } :: N2 := by
  have key : ∀ N : List ND, (∀ q ∈ N, q.c ≠ n.c) → boxN N n.c h b = N := fun N hN => by
    unfold boxN
    conv => rhs; rw [← List.map_id N]
    refine List.map_congr_left fun q hq => ?_
    rw [if_neg (hN q hq)]
    rfl
  have h1 : ∀ q ∈ N1, q.c ≠ n.c := fun q hq e => by
    rw [List.map_append, List.nodup_append] at hd
    exact hd.2.2 q.c (List.mem_map.2 ⟨q, hq, rfl⟩) n.c (by simp) e
  have h2 : ∀ q ∈ N2, q.c ≠ n.c := fun q hq e => by
    rw [List.map_append, List.nodup_append, List.map_cons, List.nodup_cons] at hd
    exact hd.2.1.1 (List.mem_map.2 ⟨q, hq, e⟩)
  show (N1 ++ n :: N2).map _ = _
  rw [List.map_append, List.map_cons, if_pos rfl]
  have e1 := key N1 h1
  have e2 := key N2 h2
  unfold boxN at e1 e2
  rw [e1, e2]
theorem TreeI.fresh {N : List ND} {Lc : List (H2 × C3)} {bs : List (H2 × B4)} (h : TreeI N Lc bs) {k : H2} (hk : ¬ k ∈ bs.map (·.1)) : hasK Lc k = false := by
  cases hh : hasK Lc k with
  | false => rfl
  | true =>
    have := hasK_iff.1 hh
    rw [h.cs, List.map_map] at this
    exact absurd this hk
theorem okC_cell {b : B4} (h : okB b = true) : okC (cellB b) = true := by
  unfold okB at h
  rw [Bool.and_eq_true] at h
  have hw := inWorld_iff.1 h.2
  have hd := depthOf_bd (bsize b.x0 b.y0 b.x1 b.y1)
  have hx := col_bd (n := (b.x0 + b.x1) / 2) hd (by omega)
  have hy := col_bd (n := (b.y0 + b.y1) / 2) hd (by omega)
  refine okC_iff.2 ⟨hd, ?_, ?_⟩
  · show 0 ≤ colOf _ _ ∧ colOf _ _ < 2 ^ (depthOf _).toNat
    omega
  · show 0 ≤ colOf _ _ ∧ colOf _ _ < 2 ^ (depthOf _).toNat
    omega
/-- The node of a cell that has been counted. -/
theorem node_at {N : List ND} {K : List C3} {c : C3} (h : NodesF N (fK (c :: K))) : ∃ (N1 : List ND) (n : ND) (N2 : List ND), N = N1 ++ n :: N2 ∧ n.c = c ∧ (getK (ndL N) c).getD none = some n.p :=
  ndL_split (ndL_has.2 ((h.ex _).2 (.inr (Int.ne_of_gt (fK_pos (List.mem_cons_self ..) (chain_self _))))))
theorem ndL_bs {N1 N2 : List ND} {n : ND} {bs : List (H2 × B4)} : ndL (N1 ++ { n with bs := bs } :: N2) = ndL (N1 ++ n :: N2) := by simp [ndL]
theorem B_bs {N1 N2 : List ND} {n : ND} {bs : List (H2 × B4)} : (N1 ++ { n with bs := bs } :: N2).flatMap ndB = (N1 ++ n :: N2).flatMap ndB := by simp [ndB]
end
end Go.Px

namespace Go.Px
set_option linter.unusedVariables false
set_option linter.unusedSimpArgs false
set_option linter.unusedSectionVars false
def fC (c : C3) : List Value := [.int .i64 c.d, .int .i64 c.x, .int .i64 c.y]
theorem fC_one (c : C3) : ∀ u ∈ fC c, u.oneCell' = true := by
  intro u hu
  simp only [fC, List.mem_cons, List.not_mem_nil, or_false] at hu
  rcases hu with rfl | rfl | rfl <;> rfl
def fB4 (b : B4) : List Value := [.int .i64 b.x0, .int .i64 b.y0, .int .i64 b.x1, .int .i64 b.y1]
theorem fB4_one (b : B4) : ∀ u ∈ fB4 b, u.oneCell' = true := by
  intro u hu
  simp only [fB4, List.mem_cons, List.not_mem_nil, or_false] at hu
  rcases hu with rfl | rfl | rfl | rfl <;> rfl
/-- The boxes in a cell, or in one below it. -/
def inT (bs : List (H2 × B4)) (c : C3) : List (H2 × B4) := subW (fun _ => true) bs c
theorem goodTo_true : ∀ (l : List C3) (c : C3), goodTo (fun _ => true) l c = decide (c ∈ l)
  | [], c => by simp [goodTo]
  | z :: r, c => by
    simp only [goodTo, Bool.true_and, goodTo_true r c, List.mem_cons]
    by_cases h : z = c
    · simp [h]
    · have h' : ¬ c = z := fun e => h e.symm
      simp [h, h']
theorem mem_inT {bs : List (H2 × B4)} {c : C3} {x : H2 × B4} : x ∈ inT bs c ↔ x ∈ bs ∧ c ∈ chain (cellB x.2) := by
  unfold inT subW
  rw [List.mem_filter, goodTo_true, decide_eq_true_iff]
theorem inT_root {bs : List (H2 × B4)} (hok : ∀ x ∈ bs, okB x.2 = true) : inT bs rootC = bs := by
  unfold inT subW
  rw [List.filter_eq_self]
  intro x hx
  rw [goodTo_true, decide_eq_true_iff]
  exact chain_root (okC_cell (hok x hx))
theorem inT_none {N : List ND} {Lc : List (H2 × C3)} {bs : List (H2 × B4)} (h : TreeI N Lc bs) {zz : C3} (hh : hasK (ndL N) zz = false) : inT bs zz = [] := by
  refine subW_none fun x hx hm => ?_
  have h1 : zz ∈ N.map (·.c) := (h.nf.ex zz).2 (.inr (Int.ne_of_gt (fK_pos (List.mem_map.2 ⟨x, hx, rfl⟩) hm)))
  rw [ndL_has.2 h1] at hh
  cases hh
theorem inT_split {bs : List (H2 × B4)} (hok : ∀ x ∈ bs, okB x.2 = true) {zz : C3} (hz : okC zz = true) : (inT bs zz).Perm (ownW bs zz ++ (kids zz).flatMap (inT bs)) :=
  subW_yes (fun x hx => okC_cell (hok x hx)) (okC_iff.1 hz).1.1 rfl
theorem inT_deep {bs : List (H2 × B4)} (hok : ∀ x ∈ bs, okB x.2 = true) {zz : C3} (hd : zz.d = 8) : (kids zz).flatMap (inT bs) = [] := subW_deep (fun x hx => okC_cell (hok x hx)) hd
theorem nd_own {N : List ND} {Lc : List (H2 × C3)} {bs : List (H2 × B4)} (h : TreeI N Lc bs) {nd : ND} (hn : nd ∈ N) : nd.bs.Perm (ownW bs nd.c) := by
  have := h.nb nd.c
  rwa [bsAt_mem h.nf.nd hn] at this
section
variable {vis vi blk lf nb bs K S1 : List (H2 × B4)} {zz : C3}
theorem pop_none {S1 : List C3} (h : (vis ++ blk ++ (S1 ++ [zz]).flatMap (inT bs)).Perm bs) (h0 : inT bs zz = []) : (vis ++ blk ++ S1.flatMap (inT bs)).Perm bs := by
  simpa [h0] using h
theorem pop_no {S1 : List C3} (h : (vis ++ blk ++ (S1 ++ [zz]).flatMap (inT bs)).Perm bs) : (vis ++ (blk ++ inT bs zz) ++ S1.flatMap (inT bs)).Perm bs := by
  rw [List.perm_iff_count] at h ⊢
  intro a
  have := h a
  simp only [List.flatMap_append, List.flatMap_cons, List.flatMap_nil, List.append_nil, List.count_append] at this ⊢
  omega
theorem pop_no_rest {S1 : List C3} (h : (vis ++ blk ++ (S1 ++ [zz]).flatMap (inT bs)).Perm bs) : ∃ rest, (vis ++ (blk ++ inT bs zz) ++ rest).Perm bs := ⟨_, pop_no h⟩
theorem pop_deep {S1 : List C3} (h : (vis ++ blk ++ (S1 ++ [zz]).flatMap (inT bs)).Perm bs) (hs : (inT bs zz).Perm (ownW bs zz ++ (kids zz).flatMap (inT bs))) (hd : (kids zz).flatMap (inT bs) = []) (hn : nb.Perm (ownW bs zz)) (hi : (vi ++ lf).Perm (vis ++ nb)) (hl : lf = []) :
    (vi ++ blk ++ S1.flatMap (inT bs)).Perm bs := by
  subst hl
  rw [hd, List.append_nil] at hs
  rw [List.perm_iff_count] at *
  intro a
  have := h a; have := hs a; have := hn a; have := hi a
  simp only [List.flatMap_append, List.flatMap_cons, List.flatMap_nil, List.append_nil, List.count_append] at *
  omega
theorem pop_yes {S1 : List C3} (h : (vis ++ blk ++ (S1 ++ [zz]).flatMap (inT bs)).Perm bs) (hs : (inT bs zz).Perm (ownW bs zz ++ (kids zz).flatMap (inT bs))) (hn : nb.Perm (ownW bs zz)) (hi : (vi ++ lf).Perm (vis ++ nb)) (hl : lf = []) :
    (vi ++ blk ++ (S1 ++ kids zz).flatMap (inT bs)).Perm bs := by
  subst hl
  rw [List.flatMap_append]
  generalize (kids zz).flatMap (inT bs) = KK at *
  rw [List.perm_iff_count] at *
  intro a
  have := h a; have := hs a; have := hn a; have := hi a
  simp only [List.flatMap_append, List.flatMap_cons, List.flatMap_nil, List.append_nil, List.count_append] at *
  omega
theorem pop_rest {S1 : List C3} {x : H2} {v : B4} {lf' : List (H2 × B4)} (h : (vis ++ blk ++ (S1 ++ [zz]).flatMap (inT bs)).Perm bs) (hs : (inT bs zz).Perm (ownW bs zz ++ (kids zz).flatMap (inT bs))) (hn : nb.Perm (ownW bs zz)) (hi : (vi ++ lf).Perm (vis ++ nb)) (hl : lf.Perm ((x, v) :: lf')) :
    ∃ rest, ((vi ++ [(x, v)]) ++ blk ++ rest).Perm bs := by
  refine ⟨lf' ++ (kids zz).flatMap (inT bs) ++ S1.flatMap (inT bs), ?_⟩
  generalize (kids zz).flatMap (inT bs) = KK at *
  rw [List.perm_iff_count] at *
  intro a
  have := h a; have := hs a; have := hn a; have := hi a; have := hl a
  simp only [List.flatMap_append, List.flatMap_cons, List.flatMap_nil, List.append_nil, List.count_append, List.count_cons, List.count_nil] at *
  omega
theorem next_perm {x : H2} {v : B4} {lf' : List (H2 × B4)} (hi : (vi ++ lf).Perm (vis ++ nb)) (hl : lf.Perm ((x, v) :: lf')) : ((vi ++ [(x, v)]) ++ lf').Perm (vis ++ nb) := by
  rw [List.perm_iff_count] at *
  intro a
  have := hi a; have := hl a
  simp only [List.count_append, List.count_cons, List.count_nil] at *
  omega
end
theorem last_get {S1 : List C3} {zz d : C3} : (S1 ++ [zz]).getD (((S1 ++ [zz]).length : Int) - 1).toNat d = zz := by
  rw [List.length_append, List.length_singleton, show ((((S1.length + 1 : Nat) : Int) - 1).toNat) = S1.length by omega]
  simp
theorem last_n {S1 : List C3} {zz : C3} : (((S1 ++ [zz]).length : Int) - 1).toNat = S1.length := by
  rw [List.length_append, List.length_singleton]
  omega
theorem last_take {S1 : List C3} {zz : C3} : (S1 ++ [zz]).take S1.length = S1 := by simp
theorem last_of {S : List C3} (h : 0 < (S.length : Int)) : ∃ (S1 : List C3) (zz : C3), S = S1 ++ [zz] := by
  have h0 : S ≠ [] := fun e => by subst e; simp at h
  exact ⟨S.dropLast, S.getLast h0, (List.dropLast_concat_getLast h0).symm⟩
theorem wgt_pop {S1 : List C3} {zz : C3} : wgtS S1 < wgtS (S1 ++ [zz]) := by
  have := wgt_pos zz
  rw [wgtS_app, wgtS_one]
  omega
theorem wgt_push {S1 : List C3} {zz : C3} (hz : okC zz = true) (hd : zz.d < 8) : wgtS (S1 ++ kids zz) < wgtS (S1 ++ [zz]) := by
  have := wgt_kids ⟨(okC_iff.1 hz).1.1, hd⟩
  rw [wgtS_app, wgtS_app, wgtS_one]
  omega
/-- What is known of the cells that wait. -/
def WaitsC (Y : C3 → Prop) (S : List C3) : Prop := ∀ c ∈ S, okC c = true ∧ ∀ z ∈ chain c, z ≠ c → Y z
theorem WaitsC.root (Y : C3 → Prop) : WaitsC Y [rootC] := fun c hc => by
  obtain rfl := List.mem_singleton.1 hc
  refine ⟨by decide, fun z hz hn => ?_⟩
  rw [chain_zero rfl] at hz
  exact absurd (List.mem_singleton.1 hz) hn
theorem WaitsC.pop {Y : C3 → Prop} {S1 : List C3} {zz : C3} (h : WaitsC Y (S1 ++ [zz])) : WaitsC Y S1 := fun c hc => h c (List.mem_append.2 (.inl hc))
theorem WaitsC.last {Y : C3 → Prop} {S1 : List C3} {zz : C3} (h : WaitsC Y (S1 ++ [zz])) : okC zz = true := (h zz (by simp)).1
theorem WaitsC.all {Y : C3 → Prop} {S1 : List C3} {zz : C3} (h : WaitsC Y (S1 ++ [zz])) (hy : Y zz) : ∀ z ∈ chain zz, Y z := fun z hz => by
  by_cases e : z = zz
  · subst e; exact hy
  · exact (h zz (by simp)).2 z hz e
theorem WaitsC.push {Y : C3 → Prop} {S1 : List C3} {zz : C3} (h : WaitsC Y (S1 ++ [zz])) (hd : zz.d < 8) (hy : ∀ z ∈ chain zz, Y z) : WaitsC Y (S1 ++ kids zz) := fun c hc => by
  rcases List.mem_append.1 hc with hc | hc
  · exact h.pop c hc
  · have hk := kids_ok h.last hd hc
    refine ⟨hk, fun z hz hn => ?_⟩
    have h0 : c.d ≠ 0 := by
      have := kids_d hc
      have := (okC_iff.1 h.last).1.1
      omega
    rw [chain_step hk h0, mem_kids.1 hc] at hz
    rcases List.mem_cons.1 hz with rfl | hz
    · exact absurd rfl hn
    · exact hy z hz
theorem vC_mk (c : C3) : vC ⟨c.d, c.x, c.y⟩ = vC c := rfl
end Go.Px

namespace Go.Px
set_option linter.unusedVariables false
set_option linter.unusedSimpArgs false
set_option linter.unusedSectionVars false
def vT (b : Bool) : Value := .bool b
def entW (deep : Int) (left : Bool) (d x : Int) : Bool := decide (d ≤ deep) && (!left || decide (x * 2 ≤ 2 ^ d.toNat))
def enC (deep : Int) (left : Bool) (c : C3) : Bool := entW deep left c.d c.x
def deepV (d : Int) : Int := IntKind.i64.wrap (Int.tmod (IntKind.u64.wrap d) 10)
def bsx (l : List B4) (n : Nat) : List (H2 × B4) := (List.range n).map fun k : Nat => ((⟨(k : Int), 1⟩ : H2), l.getD k ⟨0, 0, 0, 0⟩)
def goodB (e : C3 → Bool) (x : H2 × B4) : Bool := (chain (cellB x.2)).all e
def wantL (e : C3 → Bool) (bs : List (H2 × B4)) : List (H2 × Bool) := (bs.filter (goodB e)).map fun x => (x.1, true)
def wantV (e : C3 → Bool) (bs vis : List (H2 × B4)) : List (H2 × Bool) := vis.foldl (fun L x => delK L x.1) (wantL e bs)
theorem bsx_succ (l : List B4) {i : Int} (h : 0 ≤ i) : bsx l (i + 1).toNat = bsx l i.toNat ++ [(⟨i, 1⟩, l.getD i.toNat ⟨0, 0, 0, 0⟩)] := by
  obtain ⟨n, rfl⟩ := Int.eq_ofNat_of_zero_le h
  rw [show ((n : Int) + 1).toNat = n + 1 by omega, show ((n : Int)).toNat = n by omega]
  unfold bsx
  rw [List.range_succ, List.map_append]
  rfl
theorem mem_bsx {l : List B4} {n : Nat} {x : H2 × B4} : x ∈ bsx l n ↔ ∃ k, k < n ∧ x = (⟨(k : Int), 1⟩, l.getD k ⟨0, 0, 0, 0⟩) := by
  unfold bsx
  simp only [List.mem_map, List.mem_range]
  constructor
  · rintro ⟨k, hk, rfl⟩; exact ⟨k, hk, rfl⟩
  · rintro ⟨k, hk, rfl⟩; exact ⟨k, hk, rfl⟩
theorem bsx_nd (l : List B4) (n : Nat) : ((bsx l n).map (·.1)).Nodup := by
  unfold bsx
  rw [List.map_map]
  refine List.Pairwise.map _ (fun a b h => ?_) (List.nodup_range (n := n))
  simp only [Function.comp, ne_eq, H2.mk.injEq, not_and]
  intro e
  omega
theorem bsx_new (l : List B4) {i : Int} (h : 0 ≤ i) : ¬ (⟨i, 1⟩ : H2) ∈ (bsx l i.toNat).map (·.1) := fun hm => by
  obtain ⟨x, hx, e⟩ := List.mem_map.1 hm
  obtain ⟨k, hk, rfl⟩ := mem_bsx.1 hx
  simp only [H2.mk.injEq] at e
  omega
theorem bsx_len (l : List B4) (n : Nat) : (bsx l n).length = n := by simp [bsx]
section
variable {e : C3 → Bool} {bs vis blk : List (H2 × B4)}
theorem want_no {h : H2} {b : B4} (hg : goodB e (h, b) = false) : wantL e bs = wantL e (bs ++ [(h, b)]) := by
  unfold wantL
  rw [List.filter_append, List.filter_cons, hg]
  simp
theorem want_keys : (wantL e bs).map (·.1) = (bs.filter (goodB e)).map (·.1) := by
  unfold wantL
  rw [List.map_map]
  rfl
theorem want_yes {h : H2} {b : B4} (hg : goodB e (h, b) = true) (hn : ¬ h ∈ bs.map (·.1)) : putK (wantL e bs) h true = wantL e (bs ++ [(h, b)]) := by
  have h1 : hasK (wantL e bs) h = false := by
    cases hh : hasK (wantL e bs) h with
    | false => rfl
    | true =>
      rw [hasK_iff, want_keys] at hh
      exact absurd ((List.filter_sublist.map _).subset hh) hn
  unfold putK
  rw [h1]
  unfold wantL
  rw [List.filter_append, List.filter_cons, hg, List.map_append]
  simp
theorem want_snoc {x : H2 × B4} : wantV e bs (vis ++ [x]) = delK (wantV e bs vis) x.1 := by
  unfold wantV
  rw [List.foldl_append]
  rfl
theorem mem_fold {p : H2 × Bool} : ∀ {vis : List (H2 × B4)} {L : List (H2 × Bool)}, p ∈ vis.foldl (fun L x => delK L x.1) L ↔ p ∈ L ∧ ¬ p.1 ∈ vis.map (·.1)
  | [], L => by simp
  | x :: r, L => by
    rw [List.foldl_cons, mem_fold]
    unfold delK
    simp only [List.mem_filter, List.map_cons, List.mem_cons, Bool.not_eq_true', decide_eq_false_iff_not, not_or, and_assoc]
theorem wantV_nd (hd : (bs.map (·.1)).Nodup) : ∀ (vis : List (H2 × B4)), ((wantV e bs vis).map (·.1)).Nodup := fun vis => by
  unfold wantV
  have key : ∀ (vis : List (H2 × B4)) (L : List (H2 × Bool)), (L.map (·.1)).Nodup → ((vis.foldl (fun L x => delK L x.1) L).map (·.1)).Nodup := fun vis => by
    induction vis with
    | nil => exact fun L h => h
    | cons x r ih => exact fun L h => ih _ (delK_nd h _)
  refine key _ _ ?_
  rw [want_keys]
  exact hd.sublist (List.filter_sublist.map _)
theorem want_has {x : H2} {v : B4} (hd : (bs.map (·.1)).Nodup) (hx : (x, v) ∈ bs) (hg : goodB e (x, v) = true) (hr : ∃ rest, ((vis ++ [(x, v)]) ++ blk ++ rest).Perm bs) : (getK (wantV e bs vis) x).getD false = true := by
  obtain ⟨rest, hr⟩ := hr
  have h1 : (x, true) ∈ wantV e bs vis := by
    refine mem_fold.2 ⟨List.mem_map.2 ⟨(x, v), List.mem_filter.2 ⟨hx, hg⟩, rfl⟩, fun hm => ?_⟩
    have h2 := (hr.map (·.1)).nodup_iff.2 hd
    simp only [List.map_append, List.append_assoc] at h2
    exact (List.nodup_append.1 h2).2.2 x hm x (by simp) rfl
  rw [getK_of_mem (wantV_nd hd _) h1]
  rfl
theorem want_end (hp : (vis ++ blk).Perm bs) (hb : ∀ x ∈ blk, goodB e x = false) : wantV e bs vis = [] := by
  refine List.eq_nil_iff_forall_not_mem.2 fun p hm => ?_
  obtain ⟨h1, h2⟩ := mem_fold.1 hm
  obtain ⟨x, hx, rfl⟩ := List.mem_map.1 h1
  have hx' := List.mem_filter.1 hx
  rcases List.mem_append.1 (hp.mem_iff.2 hx'.1) with h3 | h3
  · exact h2 (List.mem_map.2 ⟨x, h3, rfl⟩)
  · rw [hb x h3] at hx'
    exact absurd hx'.2 (by simp)
theorem good_of {x : H2} {v : B4} (h : ∀ z ∈ chain (cellB v), e z = true) : goodB e (x, v) = true := List.all_eq_true.2 h
theorem bad_of {c : C3} (h : e c = false) : ∀ x ∈ inT bs c, goodB e x = false := fun x hx => by
  have h1 := (mem_inT.1 hx).2
  cases hg : goodB e x with
  | false => rfl
  | true => rw [List.all_eq_true.1 hg c h1] at h; cases h
end
/-- What a walk that checks what it meets turns. -/
def oQW (tI tB : TypeId) (mB kB wm : Nat) (e : C3 → Bool) (bs vis blk : List (H2 × B4)) : Own where
  B := [mB, kB, wm]
  φ := fun b w => b ≤ mB ∧ b ≤ kB ∧ w.heap[mB]? = some (.cells ([.int .i64 (vis.length : Nat)] : List Value).toArray tI (0, 0)) ∧ w.heap[kB]? = some (.cells ([.bool true] : List Value).toArray tB (0, 0)) ∧ (b ≤ wm ∧ MapAt w wm vH vT (wantV e bs vis)) ∧ ∀ x ∈ blk, goodB e x = false
  lt' := fun h i hi => by
    obtain ⟨h1, h2, h3, h4, h5, _⟩ := h
    simp only [List.mem_cons, List.not_mem_nil, or_false] at hi
    rcases hi with rfl | rfl | rfl
    · exact ⟨h1, (Array.getElem?_eq_some_iff.1 h3).1⟩
    · exact ⟨h2, (Array.getElem?_eq_some_iff.1 h4).1⟩
    · exact ⟨h5.1, h5.2.lt⟩
  stab := fun h hk hn => by
    obtain ⟨h1, h2, h3, h4, h5, h6⟩ := h
    exact ⟨h1, h2, hk.obj h3 (hn _ (by simp)), hk.obj h4 (hn _ (by simp)), ⟨h5.1, h5.2.keep hk (hn _ (by simp))⟩, h6⟩
  low := fun h hb => ⟨Nat.le_trans hb h.1, Nat.le_trans hb h.2.1, h.2.2.1, h.2.2.2.1, ⟨Nat.le_trans hb h.2.2.2.2.1.1, h.2.2.2.2.1.2⟩, h.2.2.2.2.2⟩
section
variable {tI tB : TypeId} {mB kB wm base : Nat} {e : C3 → Bool} {bs vis blk : List (H2 × B4)} {w : World}
theorem openQW (h : (oQW tI tB mB kB wm e bs vis blk).φ base w) (hd : (oQW tI tB mB kB wm e bs vis blk).B.Nodup) :
    MemOk [⟨mB, tI, [.int .i64 (vis.length : Nat)]⟩, ⟨kB, tB, [.bool true]⟩] w ∧ OwnOk base [⟨mB, tI, [.int .i64 (vis.length : Nat)]⟩, ⟨kB, tB, [.bool true]⟩] [oM wm vH vT (wantV e bs vis)] w := by
  obtain ⟨h1, h2, h3, h4, h5, _⟩ := h
  have hd' : [mB, kB, wm].Nodup := hd
  refine ⟨⟨fun b hb => ?_, ?_⟩, ⟨fun o ho => ?_, ?_⟩⟩
  · simp only [List.mem_cons, List.not_mem_nil, or_false] at hb
    rcases hb with rfl | rfl
    · exact h3
    · exact h4
  · exact hd'.sublist (by simp [Mem.names])
  · obtain rfl := List.mem_singleton.1 ho
    exact h5
  · simpa [Mem.names, oM] using hd'
theorem shutQW {k : Int} {L : List (H2 × Bool)} (hM : MemOk [⟨mB, tI, [.int .i64 k]⟩, ⟨kB, tB, [.bool true]⟩] w) (hO : OwnOk base [⟨mB, tI, [.int .i64 k]⟩, ⟨kB, tB, [.bool true]⟩] [oM wm vH vT L] w) (hb : base ≤ mB ∧ base ≤ kB) (hk : k = (vis.length : Nat)) (hL : L = wantV e bs vis) (hg : ∀ x ∈ blk, goodB e x = false) :
    (oQW tI tB mB kB wm e bs vis blk).φ base w := by
  subst hk hL
  exact ⟨hb.1, hb.2, hM.at_ _ (List.Mem.head _), hM.at_ _ (List.Mem.tail _ (List.Mem.head _)), hO.own _ (List.Mem.head _), hg⟩
end
/-! ### Up, or nothing -/
def upZ (c : C3) : C3 := if c.d = 0 then ⟨0, 0, 0⟩ else upC c
theorem up_start {c : C3} (hc : okC c = true) (h : (!(c.d == 0)) = true) : okC (upZ c) = true ∧ chain c = [c] ++ chain (upZ c) := by
  have h0 : c.d ≠ 0 := by simpa using h
  unfold upZ
  rw [if_neg h0]
  exact ⟨okC_up hc h0, chain_step hc h0⟩
theorem up_stop {c : C3} (h : (!(c.d == 0)) = false) : [c] = chain c := by
  have h0 : c.d = 0 := by simpa using h
  rw [chain_zero h0]
theorem up_next {c zz : C3} {done : List C3} (hz : okC zz = true) (hch : chain c = done ++ chain zz) (h : (!(zz.d == 0)) = true) : okC (upZ zz) = true ∧ chain c = (done ++ [zz]) ++ chain (upZ zz) := by
  have h1 := up_start hz h
  refine ⟨h1.1, ?_⟩
  rw [hch, h1.2]
  simp
theorem up_last {c zz : C3} {done : List C3} (hch : chain c = done ++ chain zz) (h : (!(zz.d == 0)) = false) : done ++ [zz] = chain c := by rw [hch, ← up_stop h]
theorem mea_up {zz : C3} (hz : okC zz = true) : (if (!(zz.d == 0)) = true then (upZ zz).d.toNat + 1 else 0) < zz.d.toNat + 1 := by
  have h1 := (okC_iff.1 hz).1
  unfold upZ
  by_cases h0 : zz.d = 0
  · simp [h0]
  · rw [if_neg h0]
    have e : (upC zz).d = zz.d - 1 := rfl
    simp only [e]
    split <;> omega
theorem arr_lt {w : World} {sz n c : Nat} {A : Addr} {cs : List Value} (h : Arr w sz (some A) n c cs) (hs : 0 < sz) (hn : 0 < n) : A.block < w.heap.size := by
  have hl : 0 < cs.length := by rw [h.len]; exact Nat.mul_pos hn hs
  obtain ⟨u, hu⟩ : ∃ u, cs[0]? = some u := ⟨cs[0], by simp⟩
  have := h.cell 0 u hu
  unfold World.cell? at this
  split at this
  · rename_i heq
    have := (Array.getElem?_eq_some_iff.1 heq).1
    exact this
  · cases this
theorem all_next {e : C3 → Bool} {done : List C3} {zz : C3} {inn b : Bool} (hin : inn = done.all e) (hb : b = (inn && e zz)) : b = (done ++ [zz]).all e := by
  rw [List.all_append, ← hin, hb]
  simp
end Go.Px
