/- Plain words for layer 2, continued: how many pairs there are. -/
import Derived.Test.YtllopoaojchcmaaXp2f
namespace Go.Px
set_option linter.unusedVariables false
set_option linter.unusedSimpArgs false
/-- All pairs of two lists' things. -/
def allP (a b : List H2) : List P4 := a.flatMap fun x => b.map fun y => ⟨x, y⟩
/-- The pairs of a rising list. -/
def upP : List H2 → List P4
  | [] => []
  | x :: r => (r.map fun y => ⟨x, y⟩) ++ upP r
theorem mem_upP : ∀ {l : List H2}, Rises ltH l → ∀ p, p ∈ upP l ↔ p.a ∈ l ∧ p.b ∈ l ∧ ltH p.a p.b = true
  | [], _, p => by simp [upP]
  | x :: r, h, p => by
    have h' := List.pairwise_cons.1 h
    simp only [upP, List.mem_append, List.mem_map, mem_upP h'.2 p, List.mem_cons]
    constructor
    · rintro (⟨y, hy, rfl⟩ | ⟨h1, h2, h3⟩)
      · exact ⟨.inl rfl, .inr hy, h'.1 y hy⟩
      · exact ⟨.inr h1, .inr h2, h3⟩
    · rintro ⟨h1 | h1, h2 | h2, h3⟩
      · rw [h1, h2, ordH.irr] at h3; cases h3
      · exact .inl ⟨p.b, h2, by rw [← h1]⟩
      · rw [h2] at h3
        have h4 := h'.1 _ h1
        rw [ordH.asym h4] at h3
        cases h3
      · exact .inr ⟨h1, h2, h3⟩
theorem upP_rises : ∀ {l : List H2}, Rises ltH l → Rises ltP (upP l)
  | [], _ => List.Pairwise.nil
  | x :: r, h => by
    have h' := List.pairwise_cons.1 h
    refine List.pairwise_append.2 ⟨?_, upP_rises h'.2, fun p hp q hq => ?_⟩
    · rw [List.pairwise_map]
      exact h'.2.imp fun {y z} hyz => by simp [ltP, ordH.irr, hyz]
    · obtain ⟨y, hy, rfl⟩ := List.mem_map.1 hp
      have h1 := (mem_upP h'.2 q).1 hq
      simp [ltP, h'.1 _ h1.1]
theorem upP_len : ∀ l : List H2, 2 * (upP l).length = l.length * (l.length - 1)
  | [] => rfl
  | x :: r => by
    have ih := upP_len r
    simp only [upP, List.length_append, List.length_map, List.length_cons, Nat.add_sub_cancel]
    rw [Nat.mul_add, ih]
    cases hr : r.length with
    | zero => rfl
    | succ n =>
      simp only [Nat.add_sub_cancel]
      rw [Nat.add_mul (n + 1) 1 (n + 1), Nat.mul_add (n + 1) n 1]
      omega
theorem mem_allP {a b : List H2} {p : P4} : p ∈ allP a b ↔ p.a ∈ a ∧ p.b ∈ b := by
  simp only [allP, List.mem_flatMap, List.mem_map]
  constructor
  · rintro ⟨x, hx, y, hy, rfl⟩
    exact ⟨hx, hy⟩
  · rintro ⟨h1, h2⟩
    exact ⟨p.a, h1, p.b, h2, rfl⟩
theorem mem_nrmL {l : List P4} {q : P4} : q ∈ nrmL l ↔ ∃ p ∈ l, p.a ≠ p.b ∧ nrmP p = q := by
  simp only [nrmL, List.mem_map, List.mem_filter, Bool.not_eq_true', decide_eq_false_iff_not]
  constructor
  · rintro ⟨p, ⟨h1, h2⟩, h3⟩
    exact ⟨p, h1, h2, h3⟩
  · rintro ⟨p, h1, h2, h3⟩
    exact ⟨p, ⟨h1, h2⟩, h3⟩
theorem allP_up (l : List H2) : ordS ltP (nrmL (allP l l)) = upP (ordS ltH l) := by
  refine Rises.ext ordP (ordS_rises ordP _) (upP_rises (ordS_rises ordH _)) fun q => ?_
  rw [mem_ordS, mem_upP (ordS_rises ordH l), mem_ordS, mem_ordS, mem_nrmL]
  constructor
  · rintro ⟨p, hp, hne, rfl⟩
    have h1 := mem_allP.1 hp
    unfold nrmP
    split
    · rename_i h
      exact ⟨h1.2, h1.1, h⟩
    · rename_i h
      refine ⟨h1.1, h1.2, ?_⟩
      rcases ordH.tri p.a p.b with h2 | h2 | h2
      · exact h2
      · exact absurd h2 hne
      · exact absurd h2 h
  · rintro ⟨h1, h2, h3⟩
    refine ⟨q, mem_allP.2 ⟨h1, h2⟩, ordH.ne h3, ?_⟩
    exact nrmP_keep (ordH.asym h3)
theorem allP_lt {l : List H2} {i : Nat} {d : P4} (h : i < (ordS ltP (nrmL (allP l l))).length) : ltH ((ordS ltP (nrmL (allP l l))).getD i d).a ((ordS ltP (nrmL (allP l l))).getD i d).b = true := by
  have hm : (ordS ltP (nrmL (allP l l))).getD i d ∈ upP (ordS ltH l) := by
    rw [← allP_up, List.getD_eq_getElem?_getD, List.getElem?_eq_getElem h]
    exact List.getElem_mem _
  exact ((mem_upP (ordS_rises ordH l) _).1 hm).2.2
theorem allP_len (l : List H2) : 2 * (ordS ltP (nrmL (allP l l))).length = (ordS ltH l).length * ((ordS ltH l).length - 1) := by rw [allP_up, upP_len]
theorem allP_size (a b : List H2) : (allP a b).length = a.length * b.length := by
  induction a with
  | nil => simp [allP]
  | cons x r ih =>
    have e : allP (x :: r) b = (b.map fun y => (⟨x, y⟩ : P4)) ++ allP r b := rfl
    rw [e, List.length_append, List.length_map, ih, List.length_cons, Nat.succ_mul, Nat.add_comm]
/-- The first rows, and a part of the next one. -/
def rowP (a b : List H2) (i j : Int) : List P4 := allP (a.take i.toNat) b ++ (b.take j.toNat).map fun y => ⟨a.getD i.toNat ⟨0, 0⟩, y⟩
theorem rowP_zero (a b : List H2) (i : Int) : rowP a b i 0 = allP (a.take i.toNat) b := by simp [rowP]
theorem rowP_next {a b : List H2} {i j : Int} (h : 0 ≤ j ∧ j < (b.length : Int)) : rowP a b i (j + 1) = rowP a b i j ++ [⟨a.getD i.toNat ⟨0, 0⟩, b.getD j.toNat ⟨0, 0⟩⟩] := by
  rw [rowP, take_nextI (d := ⟨0, 0⟩) h, List.map_append, ← List.append_assoc]
  rfl
theorem rowP_end {a b : List H2} {i j : Int} (h : 0 ≤ i ∧ i < (a.length : Int)) (hj : (b.length : Int) ≤ j) : allP (a.take (i + 1).toNat) b = rowP a b i j := by
  have e : b.take j.toNat = b := List.take_of_length_le (by omega)
  rw [take_nextI (d := ⟨0, 0⟩) h, rowP, e]
  simp [allP]
theorem rowP_le {a b : List H2} {i j : Int} (ha : a.length ≤ 30) (hb : b.length ≤ 30) : (rowP a b i j).length ≤ 930 := by
  rw [rowP, List.length_append, allP_size, List.length_map, List.length_take, List.length_take]
  have h1 : min i.toNat a.length * b.length ≤ 30 * 30 := Nat.mul_le_mul (by omega) hb
  omega
theorem allP_le {a b : List H2} {i : Int} (ha : a.length ≤ 30) (hb : b.length ≤ 30) : (allP (a.take i.toNat) b).length ≤ 930 := by
  rw [← rowP_zero]
  exact rowP_le ha hb
theorem allP_ltT {l a : List H2} (ha : a = l) {i : Nat} {d : P4} (h : i < (ordS ltP (nrmL (allP a l))).length) : ltH ((ordS ltP (nrmL (allP a l))).getD i d).a ((ordS ltP (nrmL (allP a l))).getD i d).b = true := by
  subst ha
  exact allP_lt h
theorem mul30 {n : Int} (h : 0 ≤ n ∧ n ≤ 30) : -9223372036854775808 ≤ n * (n - 1) ∧ n * (n - 1) ≤ 9223372036854775807 := by
  have h1 := (by decide : ∀ k : Fin 31, -9223372036854775808 ≤ (k.val : Int) * ((k.val : Int) - 1) ∧ (k.val : Int) * ((k.val : Int) - 1) ≤ 9223372036854775807) ⟨n.toNat, by omega⟩
  have e : ((n.toNat : Nat) : Int) = n := by omega
  simpa only [e] using h1
theorem half30 {n : Int} (h : 0 ≤ n ∧ n ≤ 30) : -9223372036854775808 ≤ Int.tdiv (n * (n - 1)) 2 ∧ Int.tdiv (n * (n - 1)) 2 ≤ 9223372036854775807 := by
  have h1 := (by decide : ∀ k : Fin 31, -9223372036854775808 ≤ Int.tdiv ((k.val : Int) * ((k.val : Int) - 1)) 2 ∧ Int.tdiv ((k.val : Int) * ((k.val : Int) - 1)) 2 ≤ 9223372036854775807) ⟨n.toNat, by omega⟩
  have e : ((n.toNat : Nat) : Int) = n := by omega
  simpa only [e] using h1
theorem fin30 {l a : List H2} (ha : a = l) : (((ordS ltP (nrmL (allP a l))).length : Int) == Int.tdiv (((ordS ltH l).length : Int) * (((ordS ltH l).length : Int) - 1)) 2) = true := by
  subst ha
  have h := allP_len a
  have e : (((ordS ltH a).length : Int) * (((ordS ltH a).length : Int) - 1)) = 2 * ((ordS ltP (nrmL (allP a a))).length : Int) := by
    rcases Nat.eq_zero_or_pos (ordS ltH a).length with h0 | h0
    · rw [h0] at h ⊢
      have h1 : (ordS ltP (nrmL (allP a a))).length = 0 := by omega
      rw [h1]
      rfl
    · have e1 : (((ordS ltH a).length : Int) - 1) = (((ordS ltH a).length - 1 : Nat) : Int) := by omega
      rw [e1, ← Int.natCast_mul, ← h]
      omega
  rw [e, Int.mul_tdiv_cancel_left _ (by decide)]
  simp
end Go.Px
