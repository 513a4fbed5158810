/- Plain words for layer 6, continued: a row as the document makes it. -/
import Derived.Test.YthofalkkdpjdlaaDoorXp6b
namespace Go.Px
set_option linter.unusedVariables false
set_option linter.unusedSimpArgs false
/-- What has been taken up: all of the lesser kinds, and of this kind what stands among the first i. -/
def upTo (l : List V3) (kk i : Int) : List V3 := byKinds l kk.toNat ++ (l.take i.toNat).filter fun v => v.k == kk
def cntTo (l : List V3) (kk i : Int) : Int := ((l.take i.toNat).filter fun v => v.k == kk).length
theorem byKinds_len (l : List V3) (n : Nat) : (byKinds l n).length ≤ l.length := by
  rw [(byKinds_perm l n).length_eq]
  exact List.length_filter_le ..
theorem upTo_len (l : List V3) (kk i : Int) : (upTo l kk i).length ≤ l.length + l.length := by
  have h1 := byKinds_len l kk.toNat
  have h2 : ((l.take i.toNat).filter fun v => v.k == kk).length ≤ (l.take i.toNat).length := List.length_filter_le ..
  rw [List.length_take] at h2
  simp only [upTo, List.length_append]
  omega
theorem cntTo_le (l : List V3) (kk i : Int) : 0 ≤ cntTo l kk i ∧ cntTo l kk i ≤ l.length := by
  have h2 : ((l.take i.toNat).filter fun v => v.k == kk).length ≤ (l.take i.toNat).length := List.length_filter_le ..
  rw [List.length_take] at h2
  simp only [cntTo]
  omega
theorem take_next {l : List V3} {i : Int} {d : V3} (h : 0 ≤ i ∧ i < (l.length : Int)) : l.take (i + 1).toNat = l.take i.toNat ++ [l.getD i.toNat d] := by
  rw [show (i + 1).toNat = i.toNat + 1 by omega]
  exact take_snoc (by omega)
theorem upTo_in {l : List V3} {kk i : Int} {d : V3} (h : 0 ≤ i ∧ i < (l.length : Int)) (hk : (l.getD i.toNat d).k = kk) : upTo l kk (i + 1) = upTo l kk i ++ [l.getD i.toNat d] := by
  have hb : ((l.getD i.toNat d).k == kk) = true := by simpa using hk
  unfold upTo
  rw [take_next (d := d) h, List.filter_append, List.filter_cons, if_pos hb, List.filter_nil, List.append_assoc]
theorem upTo_out {l : List V3} {kk i : Int} {d : V3} (h : 0 ≤ i ∧ i < (l.length : Int)) (hk : ¬ (l.getD i.toNat d).k = kk) : upTo l kk (i + 1) = upTo l kk i := by
  have hb : ¬ ((l.getD i.toNat d).k == kk) = true := by simpa using hk
  unfold upTo
  rw [take_next (d := d) h, List.filter_append, List.filter_cons, if_neg hb, List.filter_nil, List.append_nil]
theorem cntTo_in {l : List V3} {kk i : Int} {d : V3} (h : 0 ≤ i ∧ i < (l.length : Int)) (hk : (l.getD i.toNat d).k = kk) : cntTo l kk (i + 1) = cntTo l kk i + 1 := by
  have hb : ((l.getD i.toNat d).k == kk) = true := by simpa using hk
  unfold cntTo
  rw [take_next (d := d) h, List.filter_append, List.filter_cons, if_pos hb, List.filter_nil, List.length_append, List.length_singleton]
  omega
theorem cntTo_out {l : List V3} {kk i : Int} {d : V3} (h : 0 ≤ i ∧ i < (l.length : Int)) (hk : ¬ (l.getD i.toNat d).k = kk) : cntTo l kk (i + 1) = cntTo l kk i := by
  have hb : ¬ ((l.getD i.toNat d).k == kk) = true := by simpa using hk
  unfold cntTo
  rw [take_next (d := d) h, List.filter_append, List.filter_cons, if_neg hb, List.filter_nil, List.append_nil]
theorem upTo_zero (l : List V3) (kk : Int) : upTo l kk 0 = byKinds l kk.toNat := by simp [upTo]
theorem cntTo_zero (l : List V3) (kk : Int) : cntTo l kk 0 = 0 := by simp [cntTo]
theorem upTo_end {l : List V3} {kk i : Int} (h : (l.length : Int) ≤ i) (hk : 0 ≤ kk) : byKinds l (kk + 1).toNat = upTo l kk i := by
  rw [show (kk + 1).toNat = kk.toNat + 1 by omega, byKinds_succ]
  unfold upTo
  rw [List.take_of_length_le (by omega), show ((kk.toNat : Nat) : Int) = kk by omega]
theorem cntTo_end {l : List V3} {kk i : Int} (h : (l.length : Int) ≤ i) : cntTo l kk i = ((l.map (·.k)).count kk : Nat) := by
  unfold cntTo
  rw [List.take_of_length_le (by omega)]
  congr 1
  rw [List.count_eq_countP, List.countP_map, List.countP_eq_length_filter]
  rfl
theorem count_one {l : List V3} (hn : noDup l = true) (kk : Int) : (l.map (·.k)).count kk ≤ 1 := List.nodup_iff_count.1 (noDup_iff.1 hn) kk
theorem noDup_of {l : List V3} (h0 : firstBad l = 0) (h : ∀ kk : Int, 0 ≤ kk → kk < 10 → (l.map (·.k)).count kk ≤ 1) : noDup l = true := by
  rw [noDup_iff, List.nodup_iff_count]
  intro kk
  by_cases hk : kk ∈ l.map (·.k)
  · obtain ⟨v, hv, rfl⟩ := List.mem_map.1 hk
    have := kinds_of h0 v hv
    exact h _ this.1 (by omega)
  · rw [List.count_eq_zero_of_not_mem hk]
    omega
end Go.Px
