/- Plain words for layer 2, continued: lists that are made one thing after another; pairs. -/
import Derived.Test.YthofalkkdpjdlaaDoorXp2d
namespace Go.Px
set_option linter.unusedVariables false
set_option linter.unusedSimpArgs false
set_option linter.unusedSectionVars false
theorem getD_appL {α : Type} {l m : List α} {j : Nat} {d : α} (h : j < l.length) : (l ++ m).getD j d = l.getD j d := by
  simp [List.getD_eq_getElem?_getD, List.getElem?_append_left h]
theorem getD_appR {α : Type} {l : List α} {x d : α} {i : Nat} (h : l.length = i) : (l ++ [x]).getD i d = x := by
  subst h
  simp [List.getD_eq_getElem?_getD]
section
variable {α : Type} [DecidableEq α] {lt : α → α → Bool}
theorem take_nextI {l : List α} {i : Int} {d : α} (h : 0 ≤ i ∧ i < (l.length : Int)) : l.take (i + 1).toNat = l.take i.toNat ++ [l.getD i.toNat d] := by
  rw [show (i + 1).toNat = i.toNat + 1 by omega]
  exact take_snoc (by omega)
theorem ordS_next {l : List α} {i : Int} (d : α) (h : 0 ≤ i ∧ i < (l.length : Int)) : ordS lt (l.take (i + 1).toNat) = putS lt (ordS lt (l.take i.toNat)) (l.getD i.toNat d) := by
  rw [take_nextI (d := d) h, ordS_snoc]
theorem ordS_nextIn {l : List α} {i : Int} (d : α) (h : 0 ≤ i ∧ i < (l.length : Int)) (hin : inS (ordS lt (l.take i.toNat)) (l.getD i.toNat d) = true) : ordS lt (l.take (i + 1).toNat) = ordS lt (l.take i.toNat) := by
  rw [ordS_next d h, putS_in (of_decide_eq_true hin)]
theorem ordS_takeLen (l : List α) (i : Nat) : (ordS lt (l.take i)).length ≤ l.length := by
  have := ordS_len (lt := lt) (l.take i)
  rw [List.length_take] at this
  omega
theorem putS_cut {l : List α} {x : α} {k : Nat} (hk : k = pos lt l x) (h : inS l x = false) : putS lt l x = l.take k ++ [x] ++ l.drop k := by
  rw [putS_out (of_decide_eq_false h), hk]
  simp
/-- Where a thing stands among the first ones. -/
theorem findS_next (ho : Ord lt) {l : List α} {i : Int} {t : α} (d : α) (hl : Rises lt l) (h : 0 ≤ i ∧ i < (l.length : Int)) : findS lt (l.take (i + 1).toNat) t = if l.getD i.toNat d = t then i else findS lt (l.take i.toNat) t := by
  have e := take_nextI (d := d) h
  have hl1 : Rises lt (l.take i.toNat ++ [l.getD i.toNat d]) := by rw [← e]; exact hl.sublist (List.take_sublist _ _)
  have hp := List.pairwise_append.1 hl1
  rw [e]
  have hlen : (l.take i.toNat).length = i.toNat := by rw [List.length_take]; omega
  split
  · rename_i hx
    have hp0 : i.toNat = pos lt (l.take i.toNat ++ [l.getD i.toNat d]) t := by
      refine pos_unique (d := d) (by simp [hlen]) (fun j hj => ?_) (fun _ => ?_)
      · rw [getD_appL (by omega)]
        rw [← hx]
        exact hp.2.2 _ (by rw [List.getD_eq_getElem?_getD, List.getElem?_eq_getElem (by omega)]; exact List.getElem_mem _) _ (by simp)
      · have e2 : (l.take i.toNat ++ [l.getD i.toNat d]).getD i.toNat d = l.getD i.toNat d := by
          exact getD_appR hlen
        rw [e2, hx]
        exact ho.irr _
    unfold findS
    rw [if_pos (List.mem_append_right _ (by rw [hx]; exact List.mem_singleton.2 rfl)), ← hp0]
    omega
  · rename_i hx
    have hm : t ∈ l.take i.toNat ++ [l.getD i.toNat d] ↔ t ∈ l.take i.toNat := by
      rw [List.mem_append, List.mem_singleton]
      exact ⟨fun h => h.elim id fun e => absurd e.symm hx, .inl⟩
    unfold findS
    by_cases ht : t ∈ l.take i.toNat
    · rw [if_pos (hm.2 ht), if_pos ht]
      have h1 := (pos_mem ho hp.1 t d).1 ht
      have hp0 : pos lt (l.take i.toNat) t = pos lt (l.take i.toNat ++ [l.getD i.toNat d]) t := by
        refine pos_unique (d := d) (by simp; omega) (fun j hj => ?_) (fun _ => ?_)
        · rw [getD_appL (by omega)]
          exact pos_lt hj
        · rw [getD_appL (by omega), h1.2]
          exact ho.irr _
      rw [hp0]
    · rw [if_neg (fun h => ht (hm.1 h)), if_neg ht]
end
theorem nec_hT {x : H2} {a b : Int} (h : ¬ (x.i = a ∧ x.g = b)) : x ≠ ⟨a, b⟩ := fun e => h (by rw [e]; exact ⟨rfl, rfl⟩)
theorem eqc_hT {x : H2} {a b : Int} (h : x.i = a ∧ x.g = b) : x = ⟨a, b⟩ := h2_ext h.1 h.2
/-- A pair whose first handle comes ahead. -/
def nrmP (p : P4) : P4 := if ltH p.b p.a then ⟨p.b, p.a⟩ else p
/-- The pairs of two, the lower handle first. -/
def nrmL (l : List P4) : List P4 := (l.filter fun p => !decide (p.a = p.b)).map nrmP
theorem nrmL_in {l : List P4} {i : Int} (d : P4) (h : 0 ≤ i ∧ i < (l.length : Int)) (hx : ¬ (l.getD i.toNat d).a = (l.getD i.toNat d).b) : nrmL (l.take (i + 1).toNat) = nrmL (l.take i.toNat) ++ [nrmP (l.getD i.toNat d)] := by
  rw [take_nextI (d := d) h, nrmL, List.filter_append, List.map_append]
  simp only [List.filter_cons, List.filter_nil, hx, decide_false, Bool.not_false, if_true, List.map_cons, List.map_nil]
  rfl
theorem nrmL_out {l : List P4} {i : Int} (d : P4) (h : 0 ≤ i ∧ i < (l.length : Int)) (hx : (l.getD i.toNat d).a = (l.getD i.toNat d).b) : nrmL (l.take (i + 1).toNat) = nrmL (l.take i.toNat) := by
  rw [take_nextI (d := d) h, nrmL, List.filter_append, List.map_append]
  simp only [List.filter_cons, List.filter_nil, hx, decide_true, Bool.not_true, Bool.false_eq_true, if_false, List.map_nil, List.append_nil]
  rfl
theorem nrmL_len (l : List P4) : (nrmL l).length ≤ l.length := by
  rw [nrmL, List.length_map]
  exact List.length_filter_le _ _
theorem nrmL_takeLen (l : List P4) (i : Nat) : (nrmL (l.take i)).length ≤ l.length := by
  have := nrmL_len (l.take i)
  rw [List.length_take] at this
  omega
end Go.Px
