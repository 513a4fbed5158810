/- Plain words for layer 13: all in order; the first ones of more; all moved. -/
import Derived.Test.YthofalkkdpjdlaaDoorXpD
namespace Go.Px
set_option linter.unusedVariables false
set_option linter.unusedSimpArgs false
set_option linter.unusedSectionVars false
def allH (px py : Int) (bs : List (H2 × B4)) : List H2 := (ordS ltF (bs.map (toF px py))).map hF
theorem nearL_take (px py k : Int) (bs : List (H2 × B4)) : nearL px py k bs = (allH px py bs).take k.toNat := by
  unfold nearL fndL allH
  rw [List.map_take]
theorem toF_inj {px py : Int} {bs : List (H2 × B4)} (hd : (bs.map (·.1)).Nodup) : ∀ x ∈ bs, ∀ y ∈ bs, hF (toF px py x) = hF (toF px py y) → x = y := fun x hx y hy e => by
  have h1 := congrArg H2.i e
  have h2 := congrArg H2.g e
  exact keys_inj hd hx hy (h2_ext h1 h2)
theorem ordS_lenNd {α : Type} [DecidableEq α] {lt : α → α → Bool} (ho : Ord lt) {l : List α} (hd : l.Nodup) : (ordS lt l).length = l.length := by
  have h1 := nodup_sub_len hd (m := ordS lt l) fun x hx => (mem_ordS l x).2 hx
  have h2 := nodup_sub_len ((ordS_rises ho l).nodup ho) (m := l) fun x hx => (mem_ordS l x).1 hx
  omega
theorem nd_of_map {α β : Type} {f : α → β} : ∀ {l : List α}, (l.map f).Nodup → l.Nodup
  | [], _ => by simp
  | x :: r, h => by
    rw [List.map_cons, List.nodup_cons] at h
    exact List.nodup_cons.2 ⟨fun hm => h.1 (List.mem_map.2 ⟨x, hm, rfl⟩), nd_of_map h.2⟩
theorem allH_len {px py : Int} {bs : List (H2 × B4)} (hd : (bs.map (·.1)).Nodup) : (allH px py bs).length = bs.length := by
  unfold allH
  rw [List.length_map, ordS_lenNd ordF, List.length_map]
  exact map_inj_nd (fun x hx y hy e => toF_inj (px := px) (py := py) hd x hx y hy (congrArg hF e)) (nd_of_map hd)
theorem allH_nd {px py : Int} {bs : List (H2 × B4)} (hd : (bs.map (·.1)).Nodup) : (allH px py bs).Nodup := by
  unfold allH
  refine map_inj_nd (fun x hx y hy e => ?_) ((ordS_rises ordF _).nodup ordF)
  rw [mem_ordS, List.mem_map] at hx hy
  obtain ⟨u, hu, rfl⟩ := hx
  obtain ⟨v, hv, rfl⟩ := hy
  rw [toF_inj hd u hu v hv e]
theorem nearL_len {px py k : Int} {bs : List (H2 × B4)} (hd : (bs.map (·.1)).Nodup) : (nearL px py k bs).length = min k.toNat bs.length := by
  rw [nearL_take, List.length_take, allH_len hd]
/-- The first one that is not among some. -/
def firstOut (but l : List H2) : Option H2 := l.find? fun h => !inS but h
theorem first_more {px py k : Int} {bs : List (H2 × B4)} (hd : (bs.map (·.1)).Nodup) (hk : 0 ≤ k) : firstOut (nearL px py k bs) (nearL px py ((bs.length : Nat) : Int) bs) = if k < (bs.length : Int) then some ((nearL px py (k + 1) bs).getD k.toNat ⟨0, 0⟩) else none := by
  have hn := allH_len (px := px) (py := py) hd
  have hnd := allH_nd (px := px) (py := py) hd
  rw [nearL_take, nearL_take, nearL_take]
  generalize allH px py bs = A at *
  have e1 : ((bs.length : Nat) : Int).toNat = A.length := by rw [hn]; omega
  rw [e1, List.take_length]
  unfold firstOut
  have hno : ∀ h ∈ A.take k.toNat, (!inS (A.take k.toNat) h) = false := fun h hh => by simp [inS, hh]
  have hsp : A = A.take k.toNat ++ A.drop k.toNat := (List.take_append_drop _ _).symm
  have hf1 : (A.take k.toNat).find? (fun h => !inS (A.take k.toNat) h) = none := List.find?_eq_none.2 fun h hh => by rw [hno h hh]; simp
  have hf2 : A.find? (fun h => !inS (A.take k.toNat) h) = (A.drop k.toNat).find? (fun h => !inS (A.take k.toNat) h) := by
    conv => lhs; rw [hsp]
    rw [List.find?_append, ← hsp, hf1, Option.none_or]
  rw [hf2]
  split
  · rename_i hlt
    have hk2 : k.toNat < A.length := by omega
    have e2 : (k + 1).toNat = k.toNat + 1 := by omega
    rw [List.drop_eq_getElem_cons hk2, List.find?_cons]
    have hout : (!inS (A.take k.toNat) A[k.toNat]) = true := by
      simp only [inS, Bool.not_eq_true', decide_eq_false_iff_not]
      intro hm
      have h3 : (A.take k.toNat ++ A[k.toNat] :: A.drop (k.toNat + 1)).Nodup := by
        rw [← List.drop_eq_getElem_cons hk2, List.take_append_drop]; exact hnd
      exact (List.nodup_append.1 h3).2.2 _ hm _ (List.mem_cons_self ..) rfl
    rw [hout]
    simp only
    rw [e2, List.getD_eq_getElem?_getD, List.getElem?_take_of_lt (by omega), List.getElem?_eq_getElem hk2]
    rfl
  · have : A.drop k.toNat = [] := List.drop_of_length_le (by omega)
    rw [this]
    rfl
theorem same_first {px py k : Int} {bs : List (H2 × B4)} (hk : 0 ≤ k) : nearL px py k bs = (nearL px py (k + 1) bs).take (nearL px py k bs).length := by
  rw [nearL_take, nearL_take, List.take_take, List.length_take]
  rcases Nat.le_total k.toNat (allH px py bs).length with h | h
  · rw [show min (min k.toNat (allH px py bs).length) (k + 1).toNat = k.toNat by omega]
  · rw [List.take_of_length_le h, show min (min k.toNat (allH px py bs).length) (k + 1).toNat = (allH px py bs).length by omega, List.take_length]
/-! ### All moved -/
def mvB (bx by_ : Int) (b : B4) : B4 := ⟨b.x0 + bx, b.y0 + by_, b.x1 + bx, b.y1 + by_⟩
theorem away_moved {px py bx by_ : Int} {b : B4} : awayV (px + bx) (py + by_) (b.x0 + bx) (b.y0 + by_) (b.x1 + bx) (b.y1 + by_) = awayV px py b.x0 b.y0 b.x1 b.y1 := by
  unfold awayV dist2
  have e1 : px + bx - (b.x0 + bx + (b.x1 + bx)) / 2 = px - (b.x0 + b.x1) / 2 := by omega
  have e2 : py + by_ - (b.y0 + by_ + (b.y1 + by_)) / 2 = py - (b.y0 + b.y1) / 2 := by omega
  rw [e1, e2]
theorem near_moved {px py bx by_ k : Int} {l : List B4} : nearL (px + bx) (py + by_) k (bsy (l.map (mvB bx by_)) (l.map (mvB bx by_)).length) = nearL px py k (bsy l l.length) := by
  have e : (bsy (l.map (mvB bx by_)) (l.map (mvB bx by_)).length).map (toF (px + bx) (py + by_)) = (bsy l l.length).map (toF px py) := by
    unfold bsy
    rw [List.map_map, List.map_map, List.length_map]
    refine List.map_congr_left fun k hk => ?_
    have hk' := List.mem_range.1 hk
    have e1 : (l.map (mvB bx by_)).getD k ⟨0, 0, 0, 0⟩ = mvB bx by_ (l.getD k ⟨0, 0, 0, 0⟩) := by
      rw [List.getD_eq_getElem?_getD, List.getD_eq_getElem?_getD, List.getElem?_map, List.getElem?_eq_getElem hk']
      rfl
    simp only [Function.comp, e1, toF]
    rw [show awayV (px + bx) (py + by_) (mvB bx by_ (l.getD k ⟨0, 0, 0, 0⟩)).x0 (mvB bx by_ (l.getD k ⟨0, 0, 0, 0⟩)).y0 (mvB bx by_ (l.getD k ⟨0, 0, 0, 0⟩)).x1 (mvB bx by_ (l.getD k ⟨0, 0, 0, 0⟩)).y1 = _ from away_moved]
  unfold nearL fndL
  rw [e]
theorem nearL_le (px py k : Int) (bs : List (H2 × B4)) : (nearL px py k bs).length ≤ bs.length := by
  unfold nearL
  rw [List.length_map]
  exact (fndL_len px py k bs).1
theorem firstOut_next {but L : List H2} {i : Int} (h : 0 ≤ i ∧ i < (L.length : Int)) (hn : firstOut but (L.take i.toNat) = none) (hin : inS but ⟨(L.getD i.toNat ⟨0, 0⟩).i, (L.getD i.toNat ⟨0, 0⟩).g⟩ = true) : firstOut but (L.take (i + 1).toNat) = none := by
  unfold firstOut at *
  rw [take_nextI (d := (⟨0, 0⟩ : H2)) h, List.find?_append, hn, Option.none_or]
  have hin' : inS but (L.getD i.toNat ⟨0, 0⟩) = true := hin
  rw [List.find?_cons, hin']
  rfl
theorem firstOut_here {but L : List H2} {i : Int} (h : 0 ≤ i ∧ i < (L.length : Int)) (hn : firstOut but (L.take i.toNat) = none) (hin : inS but ⟨(L.getD i.toNat ⟨0, 0⟩).i, (L.getD i.toNat ⟨0, 0⟩).g⟩ = false) : firstOut but L = some (L.getD i.toNat ⟨0, 0⟩) := by
  unfold firstOut at *
  have hlt : i.toNat < L.length := by omega
  have hin' : inS but (L.getD i.toNat ⟨0, 0⟩) = false := hin
  rw [List.getD_eq_getElem?_getD, List.getElem?_eq_getElem hlt] at hin' ⊢
  have hin2 : inS but L[i.toNat] = false := hin'
  have hs : L = L.take i.toNat ++ L[i.toNat] :: L.drop (i.toNat + 1) := by rw [← List.drop_eq_getElem_cons hlt, List.take_append_drop]
  have e : L.find? (fun h => !inS but h) = (L.take i.toNat ++ L[i.toNat] :: L.drop (i.toNat + 1)).find? (fun h => !inS but h) := congrArg (List.find? fun h => !inS but h) hs
  rw [e, List.find?_append, hn, Option.none_or, List.find?_cons, hin2]
  rfl
def k70 (k : Int) : Int := IntKind.i64.wrap (Int.tmod (IntKind.u64.wrap k) 70)
theorem k70_bd (k : Int) : 0 ≤ k70 k ∧ k70 k < 70 := by
  have h0 : 0 ≤ IntKind.u64.wrap k := by rw [IntKind.wrap_u64]; omega
  have h1 : 0 ≤ Int.tmod (IntKind.u64.wrap k) 70 ∧ Int.tmod (IntKind.u64.wrap k) 70 < 70 := by
    rw [Int.tmod_eq_emod_of_nonneg h0]
    omega
  unfold k70
  rw [IntKind.wrap_i64]
  omega
theorem bnot_f {b : Bool} (h : (!b) = false) : b = true := by
  cases b
  · cases h
  · rfl
theorem bsy_ok {l : List B4} (h : l.length ≤ 60 ∧ ∀ j, j < l.length → okB (l.getD j ⟨0, 0, 0, 0⟩) = true) : ∀ x ∈ bsy l l.length, okB x.2 = true := fun x hx => by
  obtain ⟨k, hk, rfl⟩ := mem_bsy.1 hx
  exact h.2 k hk
theorem Errs.less {L L' : List Nat} {w : World} {t : TypeId} {E : Nat → Addr} (h : Errs L w t E) (hl : ∀ g, L'.contains g = true → L.contains g = true) : Errs L' w t E :=
  ⟨fun g hg => h.cell g (hl g hg), fun g hg => h.blk g (hl g hg), fun g k hg hk => h.inj g k (hl g hg) (hl k hk)⟩
end Go.Px
