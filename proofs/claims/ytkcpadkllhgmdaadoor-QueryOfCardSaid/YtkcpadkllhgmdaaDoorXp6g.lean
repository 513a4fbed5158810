/- Plain words for layer 6, continued: a component that is put and dropped. -/
import Derived.Test.YtkcpadkllhgmdaaDoorXp6f
namespace Go.Px
set_option linter.unusedVariables false
set_option linter.unusedSimpArgs false
set_option linter.unusedSectionVars false

theorem rightV_parts {l : List V3} (h : rightV l = true) : firstBad l = 0 ∧ noDup l = true := by
  have h1 := right_strict h
  have h2 : firstBad l = 0 := by
    by_cases h0 : firstBad l = 0
    · exact h0
    · rw [rightV_bad h0] at h; cases h
  refine ⟨h2, noDup_iff.2 ?_⟩
  rw [List.Nodup, List.pairwise_map]
  exact h1.imp fun {x y} h => by omega
theorem strict_nodup {l : List V3} (h : l.Pairwise fun x y => x.k < y.k) : l.Nodup := h.imp fun {x y} h e => by subst e; omega
theorem strict_ext {l m : List V3} (hl : l.Pairwise fun x y => x.k < y.k) (hm : m.Pairwise fun x y => x.k < y.k) (h : ∀ v, v ∈ l ↔ v ∈ m) : l = m :=
  List.Perm.eq_of_pairwise (le := fun x y : V3 => x.k < y.k) (fun x y _ _ h1 h2 => by omega) hl hm ((List.perm_ext_iff_of_nodup (strict_nodup hl) (strict_nodup hm)).2 h)

section
variable {l : List V3} {v : V3} (hr : rightV l = true) (hv : vcheck v = 0)
include hr hv
theorem put_mem (u : V3) : u ∈ byKinds (putL l v) 10 ↔ u ∈ dropV l v.k ∨ u = v := by
  have h1 := rightV_parts hr
  rw [(byKinds_all (putL_bad h1.1 hv)).mem_iff]
  simp [putL]
theorem put_strict : (byKinds (putL l v) 10).Pairwise fun x y => x.k < y.k := byKinds_sorted (noDup_iff.1 (putL_nd (rightV_parts hr).2)) 10
theorem put_bad : firstBad (byKinds (putL l v) 10) = 0 := firstBad_perm (byKinds_all (putL_bad (rightV_parts hr).1 hv)) (putL_bad (rightV_parts hr).1 hv)
theorem put_right : rightV (byKinds (putL l v) 10) = true := right_of (put_bad hr hv) (put_strict hr hv)
theorem gone_eq : dropV (byKinds (putL l v) 10) v.k = dropV l v.k := by
  refine strict_ext ((put_strict hr hv).filter _) ((right_strict hr).filter _) fun u => ?_
  rw [mem_dropV, put_mem hr hv, mem_dropV]
  constructor
  · rintro ⟨h | rfl, h2⟩
    · exact h
    · exact absurd rfl h2
  · exact fun h => ⟨.inl h, h.2⟩
theorem gone_right : rightV (dropV l v.k) = true := right_of (firstBad_of fun u hu => firstBad_all (rightV_parts hr).1 u (mem_dropV.1 hu).1) ((right_strict hr).filter _)
theorem put_find : (byKinds (putL l v) 10).find? (fun u => u.k == v.k) = some v := by
  have hm : v ∈ byKinds (putL l v) 10 := (put_mem hr hv v).2 (.inr rfl)
  cases h : (byKinds (putL l v) 10).find? (fun u => u.k == v.k) with
  | none => have := List.find?_eq_none.1 h v hm; simp at this
  | some u =>
    have h1 : u.k = v.k := by simpa using List.find?_some h
    rcases (put_mem hr hv u).1 (List.mem_of_find?_eq_some h) with h2 | rfl
    · exact absurd h1 (mem_dropV.1 h2).2
    · rfl
theorem put_findV : findV (byKinds (putL l v) 10) v.k = v := by simp [findV, put_find hr hv]
theorem put_hasV : hasV (byKinds (putL l v) 10) v.k = true := by simp [hasV, put_find hr hv]
theorem kinds_l : ∀ u ∈ l, 0 ≤ u.k ∧ u.k ≤ 9 := kinds_of (rightV_parts hr).1
theorem kinds_put : ∀ u ∈ byKinds (putL l v) 10, 0 ≤ u.k ∧ u.k ≤ 9 := kinds_of (put_bad hr hv)
theorem kinds_gone : ∀ u ∈ dropV l v.k, 0 ≤ u.k ∧ u.k ≤ 9 := fun u hu => kinds_of (rightV_parts hr).1 u (mem_dropV.1 hu).1
theorem vkinds : 0 ≤ v.k ∧ v.k ≤ 9 := kinds_of (l := [v]) (by simp [firstBad, hv]) v (by simp)
theorem any_mask {r : List V3} {i : Nat} : (r.any fun u => u.k.toNat == i) = true ↔ ∃ u ∈ r, u.k.toNat = i := by simp
theorem put_mask : maskN (byKinds (putL l v) 10) = maskN l ||| bitN v.k := by
  refine Nat.eq_of_testBit_eq fun i => ?_
  rw [Nat.testBit_or, maskN_bit, maskN_bit, bitN, Nat.testBit_two_pow, Bool.eq_iff_iff, Bool.or_eq_true, any_mask hr hv, any_mask hr hv, decide_eq_true_eq]
  constructor
  · rintro ⟨u, hu, hi⟩
    rcases (put_mem hr hv u).1 hu with h2 | rfl
    · exact .inl ⟨u, (mem_dropV.1 h2).1, hi⟩
    · exact .inr hi
  · rintro (⟨u, hu, hi⟩ | hi)
    · by_cases hk : u.k = v.k
      · exact ⟨v, (put_mem hr hv v).2 (.inr rfl), by rw [← hk]; exact hi⟩
      · exact ⟨u, (put_mem hr hv u).2 (.inl (mem_dropV.2 ⟨hu, hk⟩)), hi⟩
    · exact ⟨v, (put_mem hr hv v).2 (.inr rfl), hi⟩
theorem gone_mask : maskN (dropV l v.k) = lessN (maskN l) (bitN v.k) := by
  have hkl := kinds_l hr hv
  have hkv := vkinds hr hv
  refine Nat.eq_of_testBit_eq fun i => ?_
  rcases Nat.lt_or_ge i 64 with hi | hi
  · rw [testBit_less (bitN_lt' hkv) hi, maskN_bit, maskN_bit, bitN, Nat.testBit_two_pow, Bool.eq_iff_iff, Bool.and_eq_true, any_mask hr hv, any_mask hr hv, Bool.not_eq_true', decide_eq_false_iff_not]
    constructor
    · rintro ⟨u, hu, he⟩
      have h2 := mem_dropV.1 hu
      have h3 := hkl u h2.1
      exact ⟨⟨u, h2.1, he⟩, fun h4 => h2.2 (by omega)⟩
    · rintro ⟨⟨u, hu, he⟩, hne⟩
      refine ⟨u, mem_dropV.2 ⟨hu, fun h4 => hne (by rw [← h4]; exact he)⟩, he⟩
  · have hp : 2 ^ 64 ≤ 2 ^ i := Nat.pow_le_pow_right (by omega) hi
    rw [Nat.testBit_lt_two_pow (Nat.lt_of_lt_of_le (maskN_lt64 (kinds_gone hr hv)) hp), Nat.testBit_lt_two_pow (Nat.lt_of_lt_of_le (lessN_lt (maskN_lt64 hkl)) hp)]
end
theorem andNot_zero (a : BitVec IntKind.u64.bits) : Value.int .u64 (IntKind.u64.wrap ((BitVec.ofInt IntKind.u64.bits 0 &&& ~~~a : BitVec IntKind.u64.bits).toNat : Int)) = .int .u64 0 := by
  have e : (BitVec.ofInt IntKind.u64.bits 0 &&& ~~~a) = 0#IntKind.u64.bits := by simp
  rw [e]
  rfl
end Go.Px
