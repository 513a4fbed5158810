/- Plain words for layer 12: a walk over the tree. -/
import Derived.Test.YthofalkkdpjdlaaDoorXpV
import Derived.Test.YthofalkkdpjdlaaDoorXW
namespace Go.Px
set_option linter.unusedVariables false
set_option linter.unusedSimpArgs false
set_option linter.unusedSectionVars false
def fC (c : C3) : List Value := [.int .i64 c.d, .int .i64 c.x, .int .i64 c.y]
theorem fC_one (c : C3) : ∀ u ∈ fC c, u.oneCell' = true := by
  intro u hu
  simp only [fC, List.mem_cons, List.not_mem_nil, or_false] at hu
  rcases hu with rfl | rfl | rfl <;> rfl
def fB4 (b : B4) : List Value := [.int .i64 b.x0, .int .i64 b.y0, .int .i64 b.x1, .int .i64 b.y1]
theorem fB4_one (b : B4) : ∀ u ∈ fB4 b, u.oneCell' = true := by
  intro u hu
  simp only [fB4, List.mem_cons, List.not_mem_nil, or_false] at hu
  rcases hu with rfl | rfl | rfl | rfl <;> rfl
/-- The boxes in a cell, or in one below it. -/
def inT (bs : List (H2 × B4)) (c : C3) : List (H2 × B4) := subW (fun _ => true) bs c
theorem goodTo_true : ∀ (l : List C3) (c : C3), goodTo (fun _ => true) l c = decide (c ∈ l)
  | [], c => by simp [goodTo]
  | z :: r, c => by
    simp only [goodTo, Bool.true_and, goodTo_true r c, List.mem_cons]
    by_cases h : z = c
    · simp [h]
    · have h' : ¬ c = z := fun e => h e.symm
      simp [h, h']
theorem mem_inT {bs : List (H2 × B4)} {c : C3} {x : H2 × B4} : x ∈ inT bs c ↔ x ∈ bs ∧ c ∈ chain (cellB x.2) := by
  unfold inT subW
  rw [List.mem_filter, goodTo_true, decide_eq_true_iff]
theorem inT_root {bs : List (H2 × B4)} (hok : ∀ x ∈ bs, okB x.2 = true) : inT bs rootC = bs := by
  unfold inT subW
  rw [List.filter_eq_self]
  intro x hx
  rw [goodTo_true, decide_eq_true_iff]
  exact chain_root (okC_cell (hok x hx))
theorem inT_none {N : List ND} {Lc : List (H2 × C3)} {bs : List (H2 × B4)} (h : TreeI N Lc bs) {zz : C3} (hh : hasK (ndL N) zz = false) : inT bs zz = [] := by
  refine subW_none fun x hx hm => ?_
  have h1 : zz ∈ N.map (·.c) := (h.nf.ex zz).2 (.inr (Int.ne_of_gt (fK_pos (List.mem_map.2 ⟨x, hx, rfl⟩) hm)))
  rw [ndL_has.2 h1] at hh
  cases hh
theorem inT_split {bs : List (H2 × B4)} (hok : ∀ x ∈ bs, okB x.2 = true) {zz : C3} (hz : okC zz = true) : (inT bs zz).Perm (ownW bs zz ++ (kids zz).flatMap (inT bs)) :=
  subW_yes (fun x hx => okC_cell (hok x hx)) (okC_iff.1 hz).1.1 rfl
theorem inT_deep {bs : List (H2 × B4)} (hok : ∀ x ∈ bs, okB x.2 = true) {zz : C3} (hd : zz.d = 8) : (kids zz).flatMap (inT bs) = [] := subW_deep (fun x hx => okC_cell (hok x hx)) hd
theorem nd_own {N : List ND} {Lc : List (H2 × C3)} {bs : List (H2 × B4)} (h : TreeI N Lc bs) {nd : ND} (hn : nd ∈ N) : nd.bs.Perm (ownW bs nd.c) := by
  have := h.nb nd.c
  rwa [bsAt_mem h.nf.nd hn] at this
section
variable {vis vi blk lf nb bs K S1 : List (H2 × B4)} {zz : C3}
theorem pop_none {S1 : List C3} (h : (vis ++ blk ++ (S1 ++ [zz]).flatMap (inT bs)).Perm bs) (h0 : inT bs zz = []) : (vis ++ blk ++ S1.flatMap (inT bs)).Perm bs := by
  simpa [h0] using h
theorem pop_no {S1 : List C3} (h : (vis ++ blk ++ (S1 ++ [zz]).flatMap (inT bs)).Perm bs) : (vis ++ (blk ++ inT bs zz) ++ S1.flatMap (inT bs)).Perm bs := by
  rw [List.perm_iff_count] at h ⊢
  intro a
  have := h a
  simp only [List.flatMap_append, List.flatMap_cons, List.flatMap_nil, List.append_nil, List.count_append] at this ⊢
  omega
theorem pop_no_rest {S1 : List C3} (h : (vis ++ blk ++ (S1 ++ [zz]).flatMap (inT bs)).Perm bs) : ∃ rest, (vis ++ (blk ++ inT bs zz) ++ rest).Perm bs := ⟨_, pop_no h⟩
theorem pop_deep {S1 : List C3} (h : (vis ++ blk ++ (S1 ++ [zz]).flatMap (inT bs)).Perm bs) (hs : (inT bs zz).Perm (ownW bs zz ++ (kids zz).flatMap (inT bs))) (hd : (kids zz).flatMap (inT bs) = []) (hn : nb.Perm (ownW bs zz)) (hi : (vi ++ lf).Perm (vis ++ nb)) (hl : lf = []) :
    (vi ++ blk ++ S1.flatMap (inT bs)).Perm bs := by
  subst hl
  rw [hd, List.append_nil] at hs
  rw [List.perm_iff_count] at *
  intro a
  have := h a; have := hs a; have := hn a; have := hi a
  simp only [List.flatMap_append, List.flatMap_cons, List.flatMap_nil, List.append_nil, List.count_append] at *
  omega
theorem pop_yes {S1 : List C3} (h : (vis ++ blk ++ (S1 ++ [zz]).flatMap (inT bs)).Perm bs) (hs : (inT bs zz).Perm (ownW bs zz ++ (kids zz).flatMap (inT bs))) (hn : nb.Perm (ownW bs zz)) (hi : (vi ++ lf).Perm (vis ++ nb)) (hl : lf = []) :
    (vi ++ blk ++ (S1 ++ kids zz).flatMap (inT bs)).Perm bs := by
  subst hl
  rw [List.flatMap_append]
  generalize (kids zz).flatMap (inT bs) = KK at *
  rw [List.perm_iff_count] at *
  intro a
  have := h a; have := hs a; have := hn a; have := hi a
  simp only [List.flatMap_append, List.flatMap_cons, List.flatMap_nil, List.append_nil, List.count_append] at *
  omega
theorem pop_rest {S1 : List C3} {x : H2} {v : B4} {lf' : List (H2 × B4)} (h : (vis ++ blk ++ (S1 ++ [zz]).flatMap (inT bs)).Perm bs) (hs : (inT bs zz).Perm (ownW bs zz ++ (kids zz).flatMap (inT bs))) (hn : nb.Perm (ownW bs zz)) (hi : (vi ++ lf).Perm (vis ++ nb)) (hl : lf.Perm ((x, v) :: lf')) :
    ∃ rest, ((vi ++ [(x, v)]) ++ blk ++ rest).Perm bs := by
  refine ⟨lf' ++ (kids zz).flatMap (inT bs) ++ S1.flatMap (inT bs), ?_⟩
  generalize (kids zz).flatMap (inT bs) = KK at *
  rw [List.perm_iff_count] at *
  intro a
  have := h a; have := hs a; have := hn a; have := hi a; have := hl a
  simp only [List.flatMap_append, List.flatMap_cons, List.flatMap_nil, List.append_nil, List.count_append, List.count_cons, List.count_nil] at *
  omega
theorem next_perm {x : H2} {v : B4} {lf' : List (H2 × B4)} (hi : (vi ++ lf).Perm (vis ++ nb)) (hl : lf.Perm ((x, v) :: lf')) : ((vi ++ [(x, v)]) ++ lf').Perm (vis ++ nb) := by
  rw [List.perm_iff_count] at *
  intro a
  have := hi a; have := hl a
  simp only [List.count_append, List.count_cons, List.count_nil] at *
  omega
end
theorem last_get {S1 : List C3} {zz d : C3} : (S1 ++ [zz]).getD (((S1 ++ [zz]).length : Int) - 1).toNat d = zz := by
  rw [List.length_append, List.length_singleton, show ((((S1.length + 1 : Nat) : Int) - 1).toNat) = S1.length by omega]
  simp
theorem last_n {S1 : List C3} {zz : C3} : (((S1 ++ [zz]).length : Int) - 1).toNat = S1.length := by
  rw [List.length_append, List.length_singleton]
  omega
theorem last_take {S1 : List C3} {zz : C3} : (S1 ++ [zz]).take S1.length = S1 := by simp
theorem last_of {S : List C3} (h : 0 < (S.length : Int)) : ∃ (S1 : List C3) (zz : C3), S = S1 ++ [zz] := by
  have h0 : S ≠ [] := fun e => by subst e; simp at h
  exact ⟨S.dropLast, S.getLast h0, (List.dropLast_concat_getLast h0).symm⟩
theorem wgt_pop {S1 : List C3} {zz : C3} : wgtS S1 < wgtS (S1 ++ [zz]) := by
  have := wgt_pos zz
  rw [wgtS_app, wgtS_one]
  omega
theorem wgt_push {S1 : List C3} {zz : C3} (hz : okC zz = true) (hd : zz.d < 8) : wgtS (S1 ++ kids zz) < wgtS (S1 ++ [zz]) := by
  have := wgt_kids ⟨(okC_iff.1 hz).1.1, hd⟩
  rw [wgtS_app, wgtS_app, wgtS_one]
  omega
/-- What is known of the cells that wait. -/
def WaitsC (Y : C3 → Prop) (S : List C3) : Prop := ∀ c ∈ S, okC c = true ∧ ∀ z ∈ chain c, z ≠ c → Y z
theorem WaitsC.root (Y : C3 → Prop) : WaitsC Y [rootC] := fun c hc => by
  obtain rfl := List.mem_singleton.1 hc
  refine ⟨by decide, fun z hz hn => ?_⟩
  rw [chain_zero rfl] at hz
  exact absurd (List.mem_singleton.1 hz) hn
theorem WaitsC.pop {Y : C3 → Prop} {S1 : List C3} {zz : C3} (h : WaitsC Y (S1 ++ [zz])) : WaitsC Y S1 := fun c hc => h c (List.mem_append.2 (.inl hc))
theorem WaitsC.last {Y : C3 → Prop} {S1 : List C3} {zz : C3} (h : WaitsC Y (S1 ++ [zz])) : okC zz = true := (h zz (by simp)).1
theorem WaitsC.all {Y : C3 → Prop} {S1 : List C3} {zz : C3} (h : WaitsC Y (S1 ++ [zz])) (hy : Y zz) : ∀ z ∈ chain zz, Y z := fun z hz => by
  by_cases e : z = zz
  · subst e; exact hy
  · exact (h zz (by simp)).2 z hz e
theorem WaitsC.push {Y : C3 → Prop} {S1 : List C3} {zz : C3} (h : WaitsC Y (S1 ++ [zz])) (hd : zz.d < 8) (hy : ∀ z ∈ chain zz, Y z) : WaitsC Y (S1 ++ kids zz) := fun c hc => by
  rcases List.mem_append.1 hc with hc | hc
  · exact h.pop c hc
  · have hk := kids_ok h.last hd hc
    refine ⟨hk, fun z hz hn => ?_⟩
    have h0 : c.d ≠ 0 := by
      have := kids_d hc
      have := (okC_iff.1 h.last).1.1
      omega
    rw [chain_step hk h0, mem_kids.1 hc] at hz
    rcases List.mem_cons.1 hz with rfl | hz
    · exact absurd rfl hn
    · exact hy z hz
theorem vC_mk (c : C3) : vC ⟨c.d, c.x, c.y⟩ = vC c := rfl
end Go.Px
