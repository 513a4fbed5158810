/- Plain words for layers 3 and 9: masks as lists of 64 bits, masks of kinds, queries. -/
import Derived.Test.YtkcpadkllhgmdaaDoorXp2e
namespace Go.Px
set_option linter.unusedVariables false
set_option linter.unusedSimpArgs false
set_option linter.unusedSectionVars false
theorem fB_len (l : List Bool) : (flat fB l).length = l.length := by rw [flat_len (sz := 1) (fun _ => rfl), Nat.mul_one]
def okK (k : Int) : Bool := decide (0 ≤ k ∧ k ≤ 9)
def kindsOk (l : List Int) : Bool := l.all okK
def maskI (l : List Int) : Nat := l.foldl (fun m k => m ||| bitN k) 0
def setB (L : List Bool) (l : List Int) : List Bool := l.foldl (fun L k => L.set k.toNat true) L
def zeroB : List Bool := List.replicate 64 false
def numB : List Bool → Nat
  | [] => 0
  | b :: l => 2 * numB l + b.toNat
theorem kindsOk_at {l : List Int} {i : Int} (h : kindsOk l = true) (hi : 0 ≤ i ∧ i < (l.length : Int)) : 0 ≤ l.getD i.toNat 0 ∧ l.getD i.toNat 0 ≤ 9 := by
  have h1 := List.all_eq_true.1 h (l.getD i.toNat 0) (by
    rw [List.getD_eq_getElem?_getD, List.getElem?_eq_getElem (by omega)]
    exact List.getElem_mem _)
  exact of_decide_eq_true h1
theorem kindsOk_next {l : List Int} {i : Int} (hi : 0 ≤ i ∧ i < (l.length : Int)) (h : kindsOk (l.take i.toNat) = true) (hk : 0 ≤ l.getD i.toNat 0 ∧ l.getD i.toNat 0 ≤ 9) : kindsOk (l.take (i + 1).toNat) = true := by
  rw [take_nextI (d := 0) hi]
  unfold kindsOk at h ⊢
  rw [List.all_append, h, List.all_cons, List.all_nil, Bool.and_true, Bool.true_and]
  exact decide_eq_true hk
theorem kindsOk_take {l : List Int} (h : kindsOk l = true) (n : Nat) : kindsOk (l.take n) = true :=
  List.all_eq_true.2 fun x hx => List.all_eq_true.1 h x (List.mem_of_mem_take hx)
theorem maskI_snoc (l : List Int) (k : Int) : maskI (l ++ [k]) = maskI l ||| bitN k := by simp [maskI]
theorem maskI_next {l : List Int} {i : Int} (hi : 0 ≤ i ∧ i < (l.length : Int)) : maskI (l.take (i + 1).toNat) = maskI (l.take i.toNat) ||| bitN (l.getD i.toNat 0) := by
  rw [take_nextI (d := 0) hi, maskI_snoc]
theorem maskI_lt {l : List Int} : kindsOk l = true → maskI l < 2 ^ 10 := by
  refine snoc_ind (m := fun l => kindsOk l = true → maskI l < 2 ^ 10) (fun _ => by decide) (fun l k ih h => ?_) l
  unfold kindsOk at h ih
  rw [List.all_append, Bool.and_eq_true, List.all_cons, List.all_nil, Bool.and_true] at h
  rw [maskI_snoc]
  exact Nat.or_lt_two_pow (ih h.1) (bitN_lt (of_decide_eq_true h.2))
theorem maskI_lt64 {l : List Int} (h : kindsOk l = true) : maskI l < 2 ^ 64 := Nat.lt_of_lt_of_le (maskI_lt h) (by decide)
theorem maskI_bit (l : List Int) (i : Nat) : (maskI l).testBit i = l.any fun k => k.toNat == i := by
  refine snoc_ind (m := fun l => (maskI l).testBit i = l.any fun k => k.toNat == i) (by simp [maskI]) (fun l k ih => ?_) l
  rw [maskI_snoc, Nat.testBit_or, ih, List.any_append]
  simp only [List.any_cons, List.any_nil, Bool.or_false, bitN, Nat.testBit_two_pow]
  congr 1
/-! ### Bits, one by one -/
theorem numB_lt : ∀ L : List Bool, numB L < 2 ^ L.length
  | [] => by decide
  | b :: l => by
    have h := numB_lt l
    simp only [numB, List.length_cons, Nat.pow_succ]
    cases b <;> simp <;> omega
theorem numB_bit : ∀ (L : List Bool) (i : Nat), (numB L).testBit i = L.getD i false
  | [], i => by simp [numB]
  | b :: l, 0 => by
    simp only [numB, Nat.testBit_zero, List.getD_cons_zero]
    cases b <;> simp <;> omega
  | b :: l, i + 1 => by
    have h := numB_bit l i
    simp only [numB, List.getD_cons_succ]
    rw [Nat.testBit_succ, ← h]
    congr 1
    cases b <;> simp <;> omega
theorem numB_drop {L : List Bool} {i : Nat} (h : i < L.length) : numB (L.drop i) = 2 * numB (L.drop (i + 1)) + (L.getD i false).toNat := by
  rw [List.drop_eq_getElem_cons h, numB, List.getD_eq_getElem?_getD, List.getElem?_eq_getElem h]
  rfl
theorem setB_len (l : List Int) (L : List Bool) : (setB L l).length = L.length :=
  snoc_ind (m := fun l => (setB L l).length = L.length) rfl (fun l k ih => by simp only [setB, List.foldl_append, List.foldl_cons, List.foldl_nil, List.length_set]; exact ih) l
theorem setB_next {L : List Bool} {l : List Int} {i : Int} (hi : 0 ≤ i ∧ i < (l.length : Int)) : setB L (l.take (i + 1).toNat) = (setB L (l.take i.toNat)).set (l.getD i.toNat 0).toNat true := by
  rw [take_nextI (d := 0) hi]
  simp [setB]
theorem setB_bit (l : List Int) (i : Nat) (h : kindsOk l = true) : (setB zeroB l).getD i false = l.any fun k => k.toNat == i := by
  revert h
  refine snoc_ind (m := fun l => kindsOk l = true → (setB zeroB l).getD i false = l.any fun k => k.toNat == i) (fun _ => ?_) (fun l k ih h => ?_) l
  · simp only [setB, List.foldl_nil, List.any_nil, zeroB, List.getD_eq_getElem?_getD, List.getElem?_replicate]
    split <;> rfl
  · unfold kindsOk at h ih
    rw [List.all_append, Bool.and_eq_true, List.all_cons, List.all_nil, Bool.and_true] at h
    have hk : 0 ≤ k ∧ k ≤ 9 := of_decide_eq_true h.2
    have hlen : (setB zeroB l).length = 64 := setB_len l zeroB
    have h1 := ih h.1
    rw [List.any_append]
    simp only [List.any_cons, List.any_nil, Bool.or_false]
    rw [← h1]
    have e : setB zeroB (l ++ [k]) = (setB zeroB l).set k.toNat true := by simp [setB]
    rw [e, List.getD_eq_getElem?_getD, List.getD_eq_getElem?_getD, List.getElem?_set]
    by_cases hki : k.toNat = i
    · rw [if_pos hki, if_pos (by omega), beq_iff_eq.2 hki, Bool.or_true]
      rfl
    · rw [if_neg hki, beq_eq_false_iff_ne.2 hki, Bool.or_false]
theorem numB_mask {l : List Int} (h : kindsOk l = true) : numB (setB zeroB l) = maskI l :=
  Nat.eq_of_testBit_eq fun i => by rw [numB_bit, maskI_bit, setB_bit l i h]
/-- The bits of a number, the first i of them told. -/
def bitsT (n i : Nat) : List Bool := (List.range 64).map fun j => decide (j < i) && n.testBit j
def bitsN (n : Nat) : List Bool := bitsT n 64
theorem bitsT_len (n i : Nat) : (bitsT n i).length = 64 := by simp [bitsT]
theorem bitsT_zero (n : Nat) : bitsT n 0 = zeroB := by
  apply List.ext_getElem
  · simp [bitsT, zeroB]
  · intro j h1 h2
    simp only [bitsT, List.getElem_map, List.getElem_range, Nat.not_lt_zero, decide_false, Bool.false_and]
    exact (List.getElem_replicate h2).symm
theorem bitsT_next {n : Nat} {i : Int} (hi : 0 ≤ i ∧ i < 64) : bitsT n (i + 1).toNat = (bitsT n i.toNat).set i.toNat (((n / 2 ^ i.toNat % 2 : Nat) : Int) == 1) := by
  have hb : (((n / 2 ^ i.toNat % 2 : Nat) : Int) == 1) = n.testBit i.toNat := by
    rw [Nat.testBit_eq_decide_div_mod_eq, Bool.eq_iff_iff, beq_iff_eq, decide_eq_true_eq]
    omega
  rw [hb]
  apply List.ext_getElem
  · simp [bitsT]
  · intro j h1 h2
    rw [List.getElem_set]
    simp only [bitsT, List.getElem_map, List.getElem_range]
    split
    · rename_i e
      subst e
      simp
      omega
    · rename_i e
      have : (j < (i + 1).toNat) ↔ j < i.toNat := by omega
      simp [this]
theorem bitsN_bit {n i : Nat} (h : i < 64) : (bitsN n).getD i false = n.testBit i := by
  simp [bitsN, bitsT, List.getD_eq_getElem?_getD, h]
theorem half_next {n : Nat} {i : Int} (hi : 0 ≤ i) : n / 2 ^ i.toNat / 2 = n / 2 ^ (i + 1).toNat := by
  rw [show (i + 1).toNat = i.toNat + 1 by omega, Nat.pow_succ, Nat.div_div_eq_div_mul]
/-! ### What fits -/
def fits1 (b a c : List Bool) (i : Nat) : Bool := !((a.getD i false && !b.getD i false) || (c.getD i false && b.getD i false))
def fitsB (b a c : List Bool) : Bool := (List.range 64).all fun i => fits1 b a c i
def fitsN (b a c : Nat) : Bool := lessN a b == 0 && b &&& c == 0
theorem fitsB_no {b a c : List Bool} {i : Int} (hi : 0 ≤ i ∧ i < 64) (h : fits1 b a c i.toNat = false) : fitsB b a c = false := by
  unfold fitsB
  rw [List.all_eq_false]
  exact ⟨i.toNat, List.mem_range.2 (by omega), by rw [h]; simp⟩
theorem fitsB_yes {b a c : List Bool} (h : ∀ j, j < 64 → fits1 b a c j = true) : fitsB b a c = true :=
  List.all_eq_true.2 fun j hj => h j (List.mem_range.1 hj)
theorem fits_next {b a c : List Bool} {i : Int} (hi : 0 ≤ i) (h : ∀ j, j < i.toNat → fits1 b a c j = true) (hx : fits1 b a c i.toNat = true) : ∀ j, j < (i + 1).toNat → fits1 b a c j = true := fun j hj => by
  rcases Nat.lt_or_ge j i.toNat with h1 | h1
  · exact h j h1
  · obtain rfl : j = i.toNat := by omega
    exact hx
theorem fits_eq {b a c : Nat} (hb : b < 2 ^ 64) (ha : a < 2 ^ 64) (hc : c < 2 ^ 64) : fitsB (bitsN b) (bitsN a) (bitsN c) = fitsN b a c := by
  have key : ∀ x : Nat, x < 2 ^ 64 → (x = 0 ↔ ∀ i, i < 64 → x.testBit i = false) := fun x hx => by
    constructor
    · rintro rfl i _
      simp
    · intro h
      refine Nat.eq_of_testBit_eq fun i => ?_
      rw [Nat.zero_testBit]
      rcases Nat.lt_or_ge i 64 with h1 | h1
      · exact h i h1
      · exact Nat.testBit_lt_two_pow (Nat.lt_of_lt_of_le hx (Nat.pow_le_pow_right (by omega) h1))
  rw [Bool.eq_iff_iff]
  unfold fitsB fitsN
  rw [List.all_eq_true, Bool.and_eq_true, beq_iff_eq, beq_iff_eq, key _ (lessN_lt ha), key _ (Nat.lt_of_le_of_lt Nat.and_le_left hb)]
  simp only [List.mem_range, fits1]
  constructor
  · intro h
    refine ⟨fun i hi => ?_, fun i hi => ?_⟩
    · have := h i hi
      rw [bitsN_bit hi, bitsN_bit hi, bitsN_bit hi] at this
      rw [testBit_less hb hi]
      revert this
      cases a.testBit i <;> cases b.testBit i <;> cases c.testBit i <;> simp
    · have := h i hi
      rw [bitsN_bit hi, bitsN_bit hi, bitsN_bit hi] at this
      rw [Nat.testBit_and]
      revert this
      cases a.testBit i <;> cases b.testBit i <;> cases c.testBit i <;> simp
  · rintro ⟨h1, h2⟩ i hi
    have e1 := h1 i hi
    have e2 := h2 i hi
    rw [testBit_less hb hi] at e1
    rw [Nat.testBit_and] at e2
    rw [bitsN_bit hi, bitsN_bit hi, bitsN_bit hi]
    revert e1 e2
    cases a.testBit i <;> cases b.testBit i <;> cases c.testBit i <;> simp
theorem okK_of {k : Int} (h : okK k = true) : 0 ≤ k ∧ k ≤ 9 := of_decide_eq_true h
theorem numB_start {L : List Bool} (hL : L.length = 64) : ((numB (L.drop ((63 : Int) + 1).toNat) : Nat) : Int) = 0 := by
  rw [List.drop_of_length_le (by rw [hL]; decide)]
  rfl
theorem numB_room {L : List Bool} (hL : L.length = 64) {i : Int} (hi : 0 ≤ i ∧ i ≤ 63) : numB (L.drop (i + 1).toNat) < 9223372036854775808 := by
  have h := numB_lt (L.drop (i + 1).toNat)
  rw [List.length_drop, hL] at h
  exact Nat.lt_of_lt_of_le h (Nat.le_trans (Nat.pow_le_pow_right (by omega) (show 64 - (i + 1).toNat ≤ 63 by omega)) (by decide))
theorem numB_step {L : List Bool} {i : Int} (hi : 0 ≤ i ∧ i ≤ 63) (hL : L.length = 64) : ((numB (L.drop (i - 1 + 1).toNat) : Nat) : Int) = ((numB (L.drop (i + 1).toNat) : Nat) : Int) * 2 + (L.getD i.toNat false).toNat := by
  rw [show (i - 1 + 1).toNat = i.toNat by omega, numB_drop (L := L) (i := i.toNat) (by omega), show (i + 1).toNat = i.toNat + 1 by omega]
  omega
theorem numB_stepT {L : List Bool} {i : Int} (hi : 0 ≤ i ∧ i ≤ 63) (hL : L.length = 64) (hb : L.getD i.toNat false = true) : ((numB (L.drop (i + 1).toNat) : Nat) : Int) * 2 + 1 = ((numB (L.drop (i - 1 + 1).toNat) : Nat) : Int) := by
  rw [numB_step hi hL, hb]
  rfl
theorem numB_stepF {L : List Bool} {i : Int} (hi : 0 ≤ i ∧ i ≤ 63) (hL : L.length = 64) (hb : L.getD i.toNat false = false) : ((numB (L.drop (i + 1).toNat) : Nat) : Int) * 2 = ((numB (L.drop (i - 1 + 1).toNat) : Nat) : Int) := by
  rw [numB_step hi hL, hb]
  simp
theorem tmod_nat2 (n : Nat) : Int.tmod (n : Int) 2 = ((n % 2 : Nat) : Int) := rfl
theorem quo_nat2 {n : Nat} (h : n < 2 ^ 64) : Value.int .u64 (IntKind.u64.wrap (Int.tdiv (n : Int) 2)) = .int .u64 ((n / 2 : Nat) : Int) := by
  rw [show Int.tdiv (n : Int) 2 = ((n / 2 : Nat) : Int) from rfl, wrap_nat (by omega)]
theorem eqz_nat (n : Nat) : (((n : Nat) : Int) == 0) = (n == 0) := by
  rw [Bool.eq_iff_iff, beq_iff_eq, beq_iff_eq]
  omega
theorem nez_nat (n : Nat) : (((n : Nat) : Int) != 0) = !(n == 0) := by
  rw [← eqz_nat]
  rfl
end Go.Px
