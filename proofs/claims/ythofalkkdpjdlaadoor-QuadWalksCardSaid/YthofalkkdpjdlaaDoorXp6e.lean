/- Plain words for layers 3 and 6: rows that are the same, masks of kinds as bits. -/
import Derived.Test.YthofalkkdpjdlaaDoorXp6b
import Derived.Test.YthofalkkdpjdlaaDoorXp6c
namespace Go.Px
set_option linter.unusedVariables false
set_option linter.unusedSimpArgs false

theorem list_eq_getD {α : Type} {l m : List α} (d : α) (hn : l.length = m.length) (h : ∀ j, j < l.length → l.getD j d = m.getD j d) : l = m := by
  refine List.ext_getElem hn fun i h1 h2 => ?_
  have := h i h1
  simpa [List.getD_eq_getElem?_getD, h1, h2] using this
/-- Are two lists the same? -/
def sameL {α : Type} [DecidableEq α] (l m : List α) : Bool := decide (l = m)
section
variable {α : Type} [DecidableEq α] {l m : List α}
theorem sameL_len (h : ¬ (l.length : Int) = (m.length : Int)) : sameL l m = false := by
  simp only [sameL, decide_eq_false_iff_not]
  rintro rfl
  exact h rfl
theorem sameL_at {j : Nat} (d : α) (h : l.getD j d ≠ m.getD j d) : sameL l m = false := by
  simp only [sameL, decide_eq_false_iff_not]
  rintro rfl
  exact h rfl
theorem sameL_all (d : α) (hn : l.length = m.length) (h : ∀ j, j < l.length → l.getD j d = m.getD j d) : sameL l m = true := by
  simp only [sameL, decide_eq_true_eq]
  exact list_eq_getD _ hn h
theorem sameL_refl (l : List α) : sameL l l = true := by simp [sameL]
end
theorem same_next {α : Type} {l m : List α} {i : Int} (d : α) (h0 : 0 ≤ i) (h : ∀ j, j < i.toNat → l.getD j d = m.getD j d) (hi : l.getD i.toNat d = m.getD i.toNat d) : ∀ j, j < (i + 1).toNat → l.getD j d = m.getD j d := fun j hj => by
  rcases Nat.lt_or_ge j i.toNat with h1 | h1
  · exact h j h1
  · obtain rfl : j = i.toNat := by omega
    exact hi
theorem v3_eq {x y : V3} (h : x.k = y.k ∧ x.a = y.a ∧ x.b = y.b) : x = y := by
  cases x; cases y; simp_all
theorem v3_ne {x y : V3} (h : ¬ (x.k = y.k ∧ x.a = y.a ∧ x.b = y.b)) : x ≠ y := by
  rintro rfl; exact h ⟨rfl, rfl, rfl⟩

theorem v3_neB {x y : V3} (h : (!((x.k == y.k) && ((x.a == y.a) && (x.b == y.b)))) = true) : x ≠ y := by
  rintro rfl; simp at h
theorem v3_eqB {x y : V3} (h : (!((x.k == y.k) && ((x.a == y.a) && (x.b == y.b)))) = false) : x = y := by
  cases x; cases y; simp_all
/-- Is a row right, by the document: it is the row that it makes. -/
theorem rright_eq {l : List V3} (h0 : firstBad l = 0) (hn : noDup l = true) : sameL l (byKinds l 10) = rightV l := by
  rw [Bool.eq_iff_iff]
  simp only [sameL, decide_eq_true_eq]
  constructor
  · intro h
    have hs := byKinds_sorted (noDup_iff.1 hn) 10
    rw [← h] at hs
    exact right_of h0 hs
  · intro h
    exact sorted_eq (List.Perm.refl _) ((right_strict h).imp fun {x y} h => by omega) h0 hn
theorem rightV_bad {l : List V3} (h : firstBad l ≠ 0) : rightV l = false := by
  simp only [rightV, decide_eq_false_iff_not]
  intro hr
  apply h
  have key : ∀ r : List V3, (∀ v ∈ r, vcheck v = 0) → firstBad r = 0 := by
    intro r
    induction r with
    | nil => intro _; rfl
    | cons x r ih => intro h; simp only [firstBad]; rw [if_pos (h x (by simp))]; exact ih fun v hv => h v (by simp [hv])
  refine key l fun v hv => ?_
  obtain ⟨j, hj, rfl⟩ := List.getElem_of_mem hv
  have := (hr j hj).1
  simpa [List.getD_eq_getElem?_getD, hj] using this
theorem rightV_dup {l : List V3} (h : noDup l = false) : rightV l = false := by
  cases hr : rightV l with
  | false => rfl
  | true =>
    have h1 := right_strict hr
    have h2 : (l.map (·.k)).Nodup := by
      rw [List.Nodup, List.pairwise_map]
      exact h1.imp fun {x y} h => by omega
    rw [noDup_iff.2 h2] at h
    cases h

theorem snoc_ind {α : Type} {m : List α → Prop} (h0 : m []) (h1 : ∀ l x, m l → m (l ++ [x])) (l : List α) : m l := by
  have h : ∀ r : List α, m r.reverse := fun r => by
    induction r with
    | nil => exact h0
    | cons x r ih => rw [List.reverse_cons]; exact h1 _ _ ih
  simpa using h l.reverse
/-- A kind's bit; a row's mask. -/
def bitN (k : Int) : Nat := 2 ^ k.toNat
def maskN (l : List V3) : Nat := l.foldl (fun m v => m ||| bitN v.k) 0
theorem bits_u64 : IntKind.u64.bits = 64 := rfl
theorem ofInt_nat {a : Nat} (ha : a < 2 ^ 64) : (BitVec.ofInt IntKind.u64.bits (a : Int)).toNat = a := by
  show (BitVec.ofInt 64 (a : Int)).toNat = a
  rw [BitVec.ofInt_natCast, BitVec.toNat_ofNat]
  exact Nat.mod_eq_of_lt ha
theorem wrap_nat {a : Nat} (ha : a < 2 ^ 64) : IntKind.u64.wrap (a : Int) = a := by
  rw [IntKind.wrap_u64]
  omega
theorem or_u64 {a b : Nat} (ha : a < 2 ^ 64) (hb : b < 2 ^ 64) :
    Value.int .u64 (IntKind.u64.wrap ((BitVec.ofInt IntKind.u64.bits (a : Int) ||| (BitVec.ofInt IntKind.u64.bits (b : Int)) : BitVec IntKind.u64.bits).toNat : Int)) = .int .u64 ((a ||| b : Nat) : Int) := by
  rw [BitVec.toNat_or, ofInt_nat ha, ofInt_nat hb, wrap_nat (Nat.or_lt_two_pow ha hb)]
theorem or_u64_0 {b : Nat} (hb : b < 2 ^ 64) :
    Value.int .u64 (IntKind.u64.wrap ((BitVec.ofInt IntKind.u64.bits 0 ||| (BitVec.ofInt IntKind.u64.bits (b : Int)) : BitVec IntKind.u64.bits).toNat : Int)) = .int .u64 ((b : Nat) : Int) := by
  have := or_u64 (a := 0) (b := b) (by decide) hb
  simpa using this
theorem and_u64 {a b : Nat} (ha : a < 2 ^ 64) (hb : b < 2 ^ 64) :
    Value.int .u64 (IntKind.u64.wrap ((BitVec.ofInt IntKind.u64.bits (a : Int) &&& (BitVec.ofInt IntKind.u64.bits (b : Int)) : BitVec IntKind.u64.bits).toNat : Int)) = .int .u64 ((a &&& b : Nat) : Int) := by
  rw [BitVec.toNat_and, ofInt_nat ha, ofInt_nat hb, wrap_nat (Nat.lt_of_le_of_lt Nat.and_le_left ha)]
/-- What is in one and not in the other. -/
def lessN (a b : Nat) : Nat := a &&& (2 ^ 64 - 1 - b)
theorem andNot_u64 {a b : Nat} (ha : a < 2 ^ 64) (hb : b < 2 ^ 64) :
    Value.int .u64 (IntKind.u64.wrap ((BitVec.ofInt IntKind.u64.bits (a : Int) &&& ~~~(BitVec.ofInt IntKind.u64.bits (b : Int)) : BitVec IntKind.u64.bits).toNat : Int)) = .int .u64 ((lessN a b : Nat) : Int) := by
  rw [BitVec.toNat_and, BitVec.toNat_not, ofInt_nat ha, ofInt_nat hb, bits_u64, wrap_nat (Nat.lt_of_le_of_lt Nat.and_le_left ha)]
  rfl
theorem lessN_lt {a b : Nat} (ha : a < 2 ^ 64) : lessN a b < 2 ^ 64 := Nat.lt_of_le_of_lt Nat.and_le_left ha
theorem testBit_less {a b i : Nat} (hb : b < 2 ^ 64) (hi : i < 64) : (lessN a b).testBit i = (a.testBit i && !b.testBit i) := by
  unfold lessN
  rw [Nat.testBit_and, show 2 ^ 64 - 1 - b = 2 ^ 64 - (b + 1) by omega, Nat.testBit_two_pow_sub_succ hb]
  simp [hi]
theorem bitN_lt {k : Int} (h : 0 ≤ k ∧ k ≤ 9) : bitN k < 2 ^ 10 := Nat.pow_lt_pow_right (by omega) (by omega)
theorem bitN_lt' {k : Int} (h : 0 ≤ k ∧ k ≤ 9) : bitN k < 2 ^ 64 := Nat.lt_of_lt_of_le (bitN_lt h) (by decide)
theorem bitN_pos (k : Int) : 0 < bitN k := Nat.two_pow_pos _
theorem shl_bit {k : Int} (h : 0 ≤ k ∧ k ≤ 9) : Value.int .u64 (IntKind.u64.wrap (1 * 2 ^ (min k.toNat IntKind.u64.bits))) = .int .u64 ((bitN k : Nat) : Int) := by
  have h1 : min k.toNat IntKind.u64.bits = k.toNat := by show min k.toNat 64 = k.toNat; omega
  rw [h1, show (1 * 2 ^ k.toNat : Int) = ((bitN k : Nat) : Int) by simp [bitN], wrap_nat (bitN_lt' h)]
theorem maskN_snoc (l : List V3) (v : V3) : maskN (l ++ [v]) = maskN l ||| bitN v.k := by simp [maskN]
theorem maskN_lt {l : List V3} : (∀ v ∈ l, 0 ≤ v.k ∧ v.k ≤ 9) → maskN l < 2 ^ 10 := by
  refine snoc_ind (m := fun l => (∀ v ∈ l, 0 ≤ v.k ∧ v.k ≤ 9) → maskN l < 2 ^ 10) (fun _ => by decide) (fun l v ih h => ?_) l
  rw [maskN_snoc]
  exact Nat.or_lt_two_pow (ih fun u hu => h u (by simp [hu])) (bitN_lt (h v (by simp)))
theorem maskN_next {l : List V3} {i : Int} (h : 0 ≤ i ∧ i < (l.length : Int)) : maskN (l.take (i + 1).toNat) = maskN (l.take i.toNat) ||| bitN (l.getD i.toNat ⟨0, 0, 0⟩).k := by
  rw [show (i + 1).toNat = i.toNat + 1 by omega, take_snoc (d := ⟨0, 0, 0⟩) (by omega), maskN_snoc]
theorem kinds_take {l : List V3} (h : ∀ v ∈ l, 0 ≤ v.k ∧ v.k ≤ 9) (n : Nat) : ∀ v ∈ l.take n, 0 ≤ v.k ∧ v.k ≤ 9 := fun v hv => h v (List.mem_of_mem_take hv)
theorem kinds_at {l : List V3} (h : ∀ v ∈ l, 0 ≤ v.k ∧ v.k ≤ 9) {i : Int} (hi : 0 ≤ i ∧ i < (l.length : Int)) : 0 ≤ (l.getD i.toNat ⟨0, 0, 0⟩).k ∧ (l.getD i.toNat ⟨0, 0, 0⟩).k ≤ 9 := by
  refine h _ ?_
  have hj : i.toNat < l.length := by omega
  simp [List.getD_eq_getElem?_getD, hj]
theorem kinds_byKinds {l : List V3} (h : firstBad l = 0) : ∀ v ∈ byKinds l 10, 0 ≤ v.k ∧ v.k ≤ 9 := fun v hv => kinds_of h v (mem_byKinds.1 hv).1
theorem maskN_lt64 {l : List V3} (h : ∀ v ∈ l, 0 ≤ v.k ∧ v.k ≤ 9) : maskN l < 2 ^ 64 := Nat.lt_of_lt_of_le (maskN_lt h) (by decide)
/-- A mask has a bit just if the row has a component of the kind. -/
theorem maskN_bit (l : List V3) (i : Nat) : (maskN l).testBit i = l.any fun v => v.k.toNat == i := by
  refine snoc_ind (m := fun l => (maskN l).testBit i = l.any fun v => v.k.toNat == i) (by simp [maskN]) (fun l v ih => ?_) l
  rw [maskN_snoc, Nat.testBit_or, ih, List.any_append]
  simp only [List.any_cons, List.any_nil, Bool.or_false, bitN, Nat.testBit_two_pow]
  congr 1
end Go.Px
