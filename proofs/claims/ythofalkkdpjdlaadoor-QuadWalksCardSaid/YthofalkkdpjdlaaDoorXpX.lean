/- Plain words for layer 12's statement of walks. -/
import Derived.Test.YthofalkkdpjdlaaDoorXpW
namespace Go.Px
set_option linter.unusedVariables false
set_option linter.unusedSimpArgs false
set_option linter.unusedSectionVars false
def vT (b : Bool) : Value := .bool b
def entW (deep : Int) (left : Bool) (d x : Int) : Bool := decide (d ≤ deep) && (!left || decide (x * 2 ≤ 2 ^ d.toNat))
def enC (deep : Int) (left : Bool) (c : C3) : Bool := entW deep left c.d c.x
def deepV (d : Int) : Int := IntKind.i64.wrap (Int.tmod (IntKind.u64.wrap d) 10)
def bsx (l : List B4) (n : Nat) : List (H2 × B4) := (List.range n).map fun k : Nat => ((⟨(k : Int), 1⟩ : H2), l.getD k ⟨0, 0, 0, 0⟩)
def goodB (e : C3 → Bool) (x : H2 × B4) : Bool := (chain (cellB x.2)).all e
def wantL (e : C3 → Bool) (bs : List (H2 × B4)) : List (H2 × Bool) := (bs.filter (goodB e)).map fun x => (x.1, true)
def wantV (e : C3 → Bool) (bs vis : List (H2 × B4)) : List (H2 × Bool) := vis.foldl (fun L x => delK L x.1) (wantL e bs)
theorem bsx_succ (l : List B4) {i : Int} (h : 0 ≤ i) : bsx l (i + 1).toNat = bsx l i.toNat ++ [(⟨i, 1⟩, l.getD i.toNat ⟨0, 0, 0, 0⟩)] := by
  obtain ⟨n, rfl⟩ := Int.eq_ofNat_of_zero_le h
  rw [show ((n : Int) + 1).toNat = n + 1 by omega, show ((n : Int)).toNat = n by omega]
  unfold bsx
  rw [List.range_succ, List.map_append]
  rfl
theorem mem_bsx {l : List B4} {n : Nat} {x : H2 × B4} : x ∈ bsx l n ↔ ∃ k, k < n ∧ x = (⟨(k : Int), 1⟩, l.getD k ⟨0, 0, 0, 0⟩) := by
  unfold bsx
  simp only [List.mem_map, List.mem_range]
  constructor
  · rintro ⟨k, hk, rfl⟩; exact ⟨k, hk, rfl⟩
  · rintro ⟨k, hk, rfl⟩; exact ⟨k, hk, rfl⟩
theorem bsx_nd (l : List B4) (n : Nat) : ((bsx l n).map (·.1)).Nodup := by
  unfold bsx
  rw [List.map_map]
  refine List.Pairwise.map _ (fun a b h => ?_) (List.nodup_range (n := n))
  simp only [Function.comp, ne_eq, H2.mk.injEq, not_and]
  intro e
  omega
theorem bsx_new (l : List B4) {i : Int} (h : 0 ≤ i) : ¬ (⟨i, 1⟩ : H2) ∈ (bsx l i.toNat).map (·.1) := fun hm => by
  obtain ⟨x, hx, e⟩ := List.mem_map.1 hm
  obtain ⟨k, hk, rfl⟩ := mem_bsx.1 hx
  simp only [H2.mk.injEq] at e
  omega
theorem bsx_len (l : List B4) (n : Nat) : (bsx l n).length = n := by simp [bsx]
section
variable {e : C3 → Bool} {bs vis blk : List (H2 × B4)}
theorem want_no {h : H2} {b : B4} (hg : goodB e (h, b) = false) : wantL e bs = wantL e (bs ++ [(h, b)]) := by
  unfold wantL
  rw [List.filter_append, List.filter_cons, hg]
  simp
theorem want_keys : (wantL e bs).map (·.1) = (bs.filter (goodB e)).map (·.1) := by
  unfold wantL
  rw [List.map_map]
  rfl
theorem want_yes {h : H2} {b : B4} (hg : goodB e (h, b) = true) (hn : ¬ h ∈ bs.map (·.1)) : putK (wantL e bs) h true = wantL e (bs ++ [(h, b)]) := by
  have h1 : hasK (wantL e bs) h = false := by
    cases hh : hasK (wantL e bs) h with
    | false => rfl
    | true =>
      rw [hasK_iff, want_keys] at hh
      exact absurd ((List.filter_sublist.map _).subset hh) hn
  unfold putK
  rw [h1]
  unfold wantL
  rw [List.filter_append, List.filter_cons, hg, List.map_append]
  simp
theorem want_snoc {x : H2 × B4} : wantV e bs (vis ++ [x]) = delK (wantV e bs vis) x.1 := by
  unfold wantV
  rw [List.foldl_append]
  rfl
theorem mem_fold {p : H2 × Bool} : ∀ {vis : List (H2 × B4)} {L : List (H2 × Bool)}, p ∈ vis.foldl (fun L x => delK L x.1) L ↔ p ∈ L ∧ ¬ p.1 ∈ vis.map (·.1)
  | [], L => by simp
  | x :: r, L => by
    rw [List.foldl_cons, mem_fold]
    unfold delK
    simp only [List.mem_filter, List.map_cons, List.mem_cons, Bool.not_eq_true', decide_eq_false_iff_not, not_or, and_assoc]
theorem wantV_nd (hd : (bs.map (·.1)).Nodup) : ∀ (vis : List (H2 × B4)), ((wantV e bs vis).map (·.1)).Nodup := fun vis => by
  unfold wantV
  have key : ∀ (vis : List (H2 × B4)) (L : List (H2 × Bool)), (L.map (·.1)).Nodup → ((vis.foldl (fun L x => delK L x.1) L).map (·.1)).Nodup := fun vis => by
    induction vis with
    | nil => exact fun L h => h
    | cons x r ih => exact fun L h => ih _ (delK_nd h _)
  refine key _ _ ?_
  rw [want_keys]
  exact hd.sublist (List.filter_sublist.map _)
theorem want_has {x : H2} {v : B4} (hd : (bs.map (·.1)).Nodup) (hx : (x, v) ∈ bs) (hg : goodB e (x, v) = true) (hr : ∃ rest, ((vis ++ [(x, v)]) ++ blk ++ rest).Perm bs) : (getK (wantV e bs vis) x).getD false = true := by
  obtain ⟨rest, hr⟩ := hr
  have h1 : (x, true) ∈ wantV e bs vis := by
    refine mem_fold.2 ⟨List.mem_map.2 ⟨(x, v), List.mem_filter.2 ⟨hx, hg⟩, rfl⟩, fun hm => ?_⟩
    have h2 := (hr.map (·.1)).nodup_iff.2 hd
    simp only [List.map_append, List.append_assoc] at h2
    exact (List.nodup_append.1 h2).2.2 x hm x (by simp) rfl
  rw [getK_of_mem (wantV_nd hd _) h1]
  rfl
theorem want_end (hp : (vis ++ blk).Perm bs) (hb : ∀ x ∈ blk, goodB e x = false) : wantV e bs vis = [] := by
  refine List.eq_nil_iff_forall_not_mem.2 fun p hm => ?_
  obtain ⟨h1, h2⟩ := mem_fold.1 hm
  obtain ⟨x, hx, rfl⟩ := List.mem_map.1 h1
  have hx' := List.mem_filter.1 hx
  rcases List.mem_append.1 (hp.mem_iff.2 hx'.1) with h3 | h3
  · exact h2 (List.mem_map.2 ⟨x, h3, rfl⟩)
  · rw [hb x h3] at hx'
    exact absurd hx'.2 (by simp)
theorem good_of {x : H2} {v : B4} (h : ∀ z ∈ chain (cellB v), e z = true) : goodB e (x, v) = true := List.all_eq_true.2 h
theorem bad_of {c : C3} (h : e c = false) : ∀ x ∈ inT bs c, goodB e x = false := fun x hx => by
  have h1 := (mem_inT.1 hx).2
  cases hg : goodB e x with
  | false => rfl
  | true => rw [List.all_eq_true.1 hg c h1] at h; cases h
end
/-- What a walk that checks what it meets turns. -/
def oQW (tI tB : TypeId) (mB kB wm : Nat) (e : C3 → Bool) (bs vis blk : List (H2 × B4)) : Own where
  B := [mB, kB, wm]
  φ := fun b w => b ≤ mB ∧ b ≤ kB ∧ w.heap[mB]? = some (.cells ([.int .i64 (vis.length : Nat)] : List Value).toArray tI (0, 0)) ∧ w.heap[kB]? = some (.cells ([.bool true] : List Value).toArray tB (0, 0)) ∧ (b ≤ wm ∧ MapAt w wm vH vT (wantV e bs vis)) ∧ ∀ x ∈ blk, goodB e x = false
  lt' := fun h i hi => by
    obtain ⟨h1, h2, h3, h4, h5, _⟩ := h
    simp only [List.mem_cons, List.not_mem_nil, or_false] at hi
    rcases hi with rfl | rfl | rfl
    · exact ⟨h1, (Array.getElem?_eq_some_iff.1 h3).1⟩
    · exact ⟨h2, (Array.getElem?_eq_some_iff.1 h4).1⟩
    · exact ⟨h5.1, h5.2.lt⟩
  stab := fun h hk hn => by
    obtain ⟨h1, h2, h3, h4, h5, h6⟩ := h
    exact ⟨h1, h2, hk.obj h3 (hn _ (by simp)), hk.obj h4 (hn _ (by simp)), ⟨h5.1, h5.2.keep hk (hn _ (by simp))⟩, h6⟩
  low := fun h hb => ⟨Nat.le_trans hb h.1, Nat.le_trans hb h.2.1, h.2.2.1, h.2.2.2.1, ⟨Nat.le_trans hb h.2.2.2.2.1.1, h.2.2.2.2.1.2⟩, h.2.2.2.2.2⟩
section
variable {tI tB : TypeId} {mB kB wm base : Nat} {e : C3 → Bool} {bs vis blk : List (H2 × B4)} {w : World}
theorem openQW (h : (oQW tI tB mB kB wm e bs vis blk).φ base w) (hd : (oQW tI tB mB kB wm e bs vis blk).B.Nodup) :
    MemOk [⟨mB, tI, [.int .i64 (vis.length : Nat)]⟩, ⟨kB, tB, [.bool true]⟩] w ∧ OwnOk base [⟨mB, tI, [.int .i64 (vis.length : Nat)]⟩, ⟨kB, tB, [.bool true]⟩] [oM wm vH vT (wantV e bs vis)] w := by
  obtain ⟨h1, h2, h3, h4, h5, _⟩ := h
  have hd' : [mB, kB, wm].Nodup := hd
  refine ⟨⟨fun b hb => ?_, ?_⟩, ⟨fun o ho => ?_, ?_⟩⟩
  · simp only [List.mem_cons, List.not_mem_nil, or_false] at hb
    rcases hb with rfl | rfl
    · exact h3
    · exact h4
  · exact hd'.sublist (by simp [Mem.names])
  · obtain rfl := List.mem_singleton.1 ho
    exact h5
  · simpa [Mem.names, oM] using hd'
theorem shutQW {k : Int} {L : List (H2 × Bool)} (hM : MemOk [⟨mB, tI, [.int .i64 k]⟩, ⟨kB, tB, [.bool true]⟩] w) (hO : OwnOk base [⟨mB, tI, [.int .i64 k]⟩, ⟨kB, tB, [.bool true]⟩] [oM wm vH vT L] w) (hb : base ≤ mB ∧ base ≤ kB) (hk : k = (vis.length : Nat)) (hL : L = wantV e bs vis) (hg : ∀ x ∈ blk, goodB e x = false) :
    (oQW tI tB mB kB wm e bs vis blk).φ base w := by
  subst hk hL
  exact ⟨hb.1, hb.2, hM.at_ _ (List.Mem.head _), hM.at_ _ (List.Mem.tail _ (List.Mem.head _)), hO.own _ (List.Mem.head _), hg⟩
end
/-! ### Up, or nothing -/
def upZ (c : C3) : C3 := if c.d = 0 then ⟨0, 0, 0⟩ else upC c
theorem up_start {c : C3} (hc : okC c = true) (h : (!(c.d == 0)) = true) : okC (upZ c) = true ∧ chain c = [c] ++ chain (upZ c) := by
  have h0 : c.d ≠ 0 := by simpa using h
  unfold upZ
  rw [if_neg h0]
  exact ⟨okC_up hc h0, chain_step hc h0⟩
theorem up_stop {c : C3} (h : (!(c.d == 0)) = false) : [c] = chain c := by
  have h0 : c.d = 0 := by simpa using h
  rw [chain_zero h0]
theorem up_next {c zz : C3} {done : List C3} (hz : okC zz = true) (hch : chain c = done ++ chain zz) (h : (!(zz.d == 0)) = true) : okC (upZ zz) = true ∧ chain c = (done ++ [zz]) ++ chain (upZ zz) := by
  have h1 := up_start hz h
  refine ⟨h1.1, ?_⟩
  rw [hch, h1.2]
  simp
theorem up_last {c zz : C3} {done : List C3} (hch : chain c = done ++ chain zz) (h : (!(zz.d == 0)) = false) : done ++ [zz] = chain c := by rw [hch, ← up_stop h]
theorem mea_up {zz : C3} (hz : okC zz = true) : (if (!(zz.d == 0)) = true then (upZ zz).d.toNat + 1 else 0) < zz.d.toNat + 1 := by
  have h1 := (okC_iff.1 hz).1
  unfold upZ
  by_cases h0 : zz.d = 0
  · simp [h0]
  · rw [if_neg h0]
    have e : (upC zz).d = zz.d - 1 := rfl
    simp only [e]
    split <;> omega
theorem arr_lt {w : World} {sz n c : Nat} {A : Addr} {cs : List Value} (h : Arr w sz (some A) n c cs) (hs : 0 < sz) (hn : 0 < n) : A.block < w.heap.size := by
  have hl : 0 < cs.length := by rw [h.len]; exact Nat.mul_pos hn hs
  obtain ⟨u, hu⟩ : ∃ u, cs[0]? = some u := ⟨cs[0], by simp⟩
  have := h.cell 0 u hu
  unfold World.cell? at this
  split at this
  · rename_i heq
    have := (Array.getElem?_eq_some_iff.1 heq).1
    exact this
  · cases this
theorem all_next {e : C3 → Bool} {done : List C3} {zz : C3} {inn b : Bool} (hin : inn = done.all e) (hb : b = (inn && e zz)) : b = (done ++ [zz]).all e := by
  rw [List.all_append, ← hin, hb]
  simp
end Go.Px
