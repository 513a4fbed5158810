/- A part of the proof: texts put together. -/
import Derived.Test.YtpojafdllcioiaaDoorG7
set_option linter.unusedSectionVars false
set_option linter.unusedSimpArgs false
set_option linter.unusedVariables false
namespace Go.Proofs.YtpojafdllcioiaaDoor
open Go.Zz Go.Px
set_option linter.unusedVariables false
set_option linter.unusedSectionVars false
set_option linter.unusedSimpArgs false
set_option maxRecDepth 10000
abbrev EndT := Int × Bool × Int × Int
def endsOf (s : (Int × Int) × Int × Int) : Ends := [(s.2.1, false, s.1.1, s.1.2), (s.2.2, true, s.1.1, s.1.2)]
def putE (o : Ends) (e : EndT) : Ends := o.take (pos ltE o e) ++ e :: o.drop (pos ltE o e)
def EL (m : Spans) (i j : Int) : Ends := (m.take i.toNat).flatMap endsOf ++ (endsOf (m.getD i.toNat ((0, 0), 0, 0))).take j.toNat
/-- All ends, so far. -/
def EI (m : Spans) (i j : Int) : Ends := (EL m i j).foldl putE []
def endsR (m : Spans) : Ends := (m.flatMap endsOf).foldl putE []
theorem putE_len (o : Ends) (e : EndT) : (putE o e).length = o.length + 1 := by
  unfold putE; have := pos_le (lt := ltE) o e
  rw [List.length_append, List.length_take, List.length_cons, List.length_drop]; omega
theorem foldE_len : ∀ (l o : Ends), (l.foldl putE o).length = o.length + l.length
  | [], o => rfl
  | e :: l, o => by rw [List.foldl_cons, foldE_len l, putE_len, List.length_cons]; omega
theorem flat_len : ∀ m : Spans, (m.flatMap endsOf).length = 2 * m.length
  | [] => rfl
  | s :: m => by rw [List.flatMap_cons, List.length_append, flat_len m, List.length_cons]; simp only [endsOf, List.length_cons, List.length_nil]; omega
section
variable {m : Spans} {i j : Int}
theorem EI_len : (EI m i j).length ≤ 2 * m.length + 2 := by
  unfold EI EL
  rw [foldE_len, List.length_append, flat_len, List.length_take, List.length_take]
  simp only [endsOf, List.length_cons, List.length_nil]; omega
theorem EI_end (h1 : i ≤ (m.length : Nat)) (h2 : ¬ i < (m.length : Nat)) : EI m i 0 = endsR m := by
  unfold EI EL endsR
  rw [List.take_of_length_le (l := m) (by omega), show (0 : Int).toNat = 0 from rfl, List.take_zero, List.append_nil]
theorem EI_row (h0 : 0 ≤ i) (h : i < (m.length : Nat)) (h1 : j ≤ 2) (h2 : ¬ j < 2) : EI m (i + 1) 0 = EI m i j := by
  obtain rfl : j = 2 := by omega
  unfold EI EL
  rw [show (i + 1).toNat = i.toNat + 1 by omega, take_snoc (d := ((0, 0), 0, 0)) (by omega), List.flatMap_append, show (0 : Int).toNat = 0 from rfl, List.take_zero, List.append_nil]
  simp [endsOf]
theorem EI_step (h0 : 0 ≤ j) (h : j < 2) : EI m i (j + 1) = putE (EI m i j) ((endsOf (m.getD i.toNat ((0, 0), 0, 0))).getD j.toNat (0, false, 0, 0)) := by
  unfold EI EL
  rw [show (j + 1).toNat = j.toNat + 1 by omega, take_snoc (d := (0, false, 0, 0)) (by simp only [endsOf, List.length_cons, List.length_nil]; omega), ← List.append_assoc, List.foldl_append]
  rfl
theorem EI_ins {z : Int} (h0 : 0 ≤ j) (h : j < 2) (hf : Fi ltE (0, false, 0, 0) (EI m i j) ((endsOf (m.getD i.toNat ((0, 0), 0, 0))).getD j.toNat (0, false, 0, 0)) z) (hn : ¬ z < ((EI m i j).length : Nat) ∨ ltE ((EI m i j).getD z.toNat (0, false, 0, 0)) ((endsOf (m.getD i.toNat ((0, 0), 0, 0))).getD j.toNat (0, false, 0, 0)) = false) :
    EI m i (j + 1) = (EI m i j).take z.toNat ++ (endsOf (m.getD i.toNat ((0, 0), 0, 0))).getD j.toNat (0, false, 0, 0) :: (EI m i j).drop z.toNat := by
  rw [EI_step h0 h]; unfold putE
  rw [hf.pos fun hz => hn.elim (fun q => absurd hz q) id]
end
/-- The pairs of those that meet, so far. -/
def PJ {β : Type} (f : β → β → Bool) (d : (Int × Int) × β) (m : List ((Int × Int) × β)) (i j : Nat) : List ((Int × Int) × (Int × Int)) := ((m.take j).filter fun b => f (m.getD i d).2 b.2).map fun b => ((m.getD i d).1, b.1)
def PA {β : Type} (f : β → β → Bool) (d : (Int × Int) × β) (m : List ((Int × Int) × β)) : Nat → List ((Int × Int) × (Int × Int))
  | 0 => []
  | n + 1 => PA f d m n ++ PJ f d m n n
section
variable {β : Type} {f : β → β → Bool} {d : (Int × Int) × β} {m : List ((Int × Int) × β)} {i j : Int}
theorem PJ_len (i j : Nat) : (PJ f d m i j).length ≤ m.length := by
  unfold PJ; rw [List.length_map]
  exact Nat.le_trans (List.length_filter_le _ _) (by rw [List.length_take]; omega)
theorem PA_len : ∀ n : Nat, (PA f d m n).length ≤ n * m.length
  | 0 => Nat.zero_le _
  | n + 1 => by
    have := PA_len n; have := PJ_len (f := f) (d := d) (m := m) n n
    rw [PA, List.length_append, Nat.succ_mul]; omega
theorem PAJ_len (h : m.length ≤ 1000) (hi : i < (m.length : Nat)) : (PA f d m i.toNat ++ PJ f d m i.toNat j.toNat).length ≤ 1000000 := by
  have h1 := PA_len (f := f) (d := d) (m := m) i.toNat; have h2 := PJ_len (f := f) (d := d) (m := m) i.toNat j.toNat
  have h3 : i.toNat * m.length ≤ 999 * 1000 := Nat.mul_le_mul (by omega) h
  rw [List.length_append]; omega
theorem PA_le (h : m.length ≤ 1000) (hi : i ≤ (m.length : Nat)) : (PA f d m i.toNat).length ≤ 1000000 := by
  have h1 := PA_len (f := f) (d := d) (m := m) i.toNat
  have h3 : i.toNat * m.length ≤ 1000 * 1000 := Nat.mul_le_mul (by omega) h
  omega
theorem PJ_in (h0 : 0 ≤ j) (h : j < (m.length : Nat)) (hf : f (m.getD i.toNat d).2 (m.getD j.toNat d).2 = true) : PJ f d m i.toNat (j + 1).toNat = PJ f d m i.toNat j.toNat ++ [((m.getD i.toNat d).1, (m.getD j.toNat d).1)] := by
  unfold PJ
  rw [show (j + 1).toNat = j.toNat + 1 by omega, take_snoc (d := d) (by omega), List.filter_append, List.filter_cons, hf, List.map_append]; rfl
theorem PJ_out (h0 : 0 ≤ j) (h : j < (m.length : Nat)) (hf : f (m.getD i.toNat d).2 (m.getD j.toNat d).2 = false) : PJ f d m i.toNat (j + 1).toNat = PJ f d m i.toNat j.toNat := by
  unfold PJ
  rw [show (j + 1).toNat = j.toNat + 1 by omega, take_snoc (d := d) (by omega), List.filter_append, List.filter_cons, hf]
  simp
theorem PA_next (h0 : 0 ≤ i) (h1 : j ≤ i) (h2 : ¬ j < i) : PA f d m (i + 1).toNat = PA f d m i.toNat ++ PJ f d m i.toNat j.toNat := by
  rw [show (i + 1).toNat = i.toNat + 1 by omega, PA, show j = i by omega]
theorem PA_in : ∀ {n : Nat} {p : ((Int × Int) × (Int × Int))}, p ∈ PA f d m n ↔ ∃ a, a < n ∧ p ∈ PJ f d m a a
  | 0, p => ⟨fun h => by simp [PA] at h, fun ⟨a, h, _⟩ => by omega⟩
  | n + 1, p => by
    rw [PA, List.mem_append, PA_in]
    constructor
    · rintro (⟨a, h, q⟩ | q)
      · exact ⟨a, by omega, q⟩
      · exact ⟨n, by omega, q⟩
    · rintro ⟨a, h, q⟩
      by_cases e : a = n
      · exact .inr (e ▸ q)
      · exact .inl ⟨a, by omega, q⟩
end
def meetS (a b : Int × Int) : Bool := decide (a.1 ≤ b.2 ∧ b.1 ≤ a.2)
def meetB (a b : Int × Int × Int × Int) : Bool := decide (meetP a b)
set_option maxHeartbeats 2000000 in
theorem rends_z (E : Nat → Addr) (m : Spans) (n k : Nat) (h : n = m.length ∧ m.length ≤ 1000) : Does (Gm E) 27 ⟨[.sl 0 n k], [(0, .arr ((Int × Int) × Int × Int) (Zz.encP (Zz.encP Zz.encI Zz.encI) (Zz.encP Zz.encI Zz.encI)) 51 m k)], 1, 2, Nat, fun _ => True, fun k1 => .sl 1 (endsR m).length k1, fun k1 => [(0, .arr ((Int × Int) × Int × Int) (Zz.encP (Zz.encP Zz.encI Zz.encI) (Zz.encP Zz.encI Zz.encI)) 51 m k), (1, .arr (Int × Bool × Int × Int) (Zz.encP Zz.encI (Zz.encP Zz.encB (Zz.encP Zz.encI Zz.encI))) 63 (endsR m) k1)]⟩ := by
  obtain ⟨rfl, hm⟩ := h
  refine fn_intro (gmOk E) 59 1 [] Tryd.func27 rfl rfl rfl rfl rfl ?_
  repeat' first | (intro h; first | (exfalso; omega; done) | (exfalso; exact h trivial; done) | skip) | (refine And.intro ?_ ?_) | exact True.intro | (refine @Exists.intro Unit _ () ?_) | (refine @Exists.intro (_ = _) _ rfl ?_) | (change LoopGoal _ _ _ _ _ _; refine loop_at 3 (gmOk E) rfl [] (X := (Int × Nat)) (fun x => [(12, .int .i64 x.1), (3, .sl 2 (EI m x.1 0).length x.2)]) (fun x => [(2, .arr (Int × Bool × Int × Int) (Zz.encP Zz.encI (Zz.encP Zz.encB (Zz.encP Zz.encI Zz.encI))) 63 (EI m x.1 0) x.2)]) [1] (fun x => 0 ≤ x.1 ∧ x.1 ≤ (m.length : Nat) ∧ (EI m x.1 0).length ≤ x.2) (fun x => m.length - x.1.toNat) ⟨(0, 0), ?_⟩ (fun x hI => ?_)) | (change @Exists ((Int × Nat)) (fun _ => updK _ _ _ _ _ _); refine @Exists.intro ((Int × Nat)) _ ((?_, ?_)) ?_; rotate_left 2) | (change LoopGoal _ _ _ _ _ _; refine loop_at 6 (gmOk E) rfl [] (X := (Int × Nat)) (fun y => [(28, .int .i64 y.1), (3, .sl 20 (EI m x.1 y.1).length y.2)]) (fun y => [(20, .arr (Int × Bool × Int × Int) (Zz.encP Zz.encI (Zz.encP Zz.encB (Zz.encP Zz.encI Zz.encI))) 63 (EI m x.1 y.1) y.2)]) [2] (fun y => 0 ≤ y.1 ∧ y.1 ≤ 2 ∧ (EI m x.1 y.1).length ≤ y.2) (fun y => 2 - y.1.toNat) ⟨(0, x.2), ?_⟩ (fun y hJ => ?_)) | (change @Exists ((Int × Nat)) (fun _ => updK _ _ _ _ _ _); refine @Exists.intro ((Int × Nat)) _ ((?_, ?_)) ?_; rotate_left 2) | (change LoopGoal _ _ _ _ _ _; refine loop_at 9 (gmOk E) rfl [] (X := Int) (fun z => [(8, .int .i64 z)]) (fun z => []) [] (fun z => Fi ltE (0, false, 0, 0) (EI m x.1 y.1) ((endsOf (m.getD x.1.toNat ((0, 0), 0, 0))).getD y.1.toNat (0, false, 0, 0)) z) (fun z => (EI m x.1 y.1).length - z.toNat) ⟨0, ?_⟩ (fun z hK => ?_)) | (change @Exists (Int) (fun _ => updK _ _ _ _ _ _); refine @Exists.intro (Int) _ ((?_)) ?_; rotate_left 1) | (change DrawGoal _ _ _ _ _ _; first | (change DrawGoal _ _ _ [_, _, _, _, _, _, _, _, _, _, _, _] _ _; refine draw_tree (gmOk E) [20, 36] (.leaf [(0, true), (1, true), (2, true), (3, true), (4, true), (5, true), (6, true), (7, true), (8, true), (9, true), (10, false), (11, true)]) (by kernel_rfl) ?_) | (change DrawGoal _ _ _ [_, _, _, _, _, _, _, _, _, _, _] _ _; refine draw_tree (gmOk E) [36] (.leaf [(0, true), (1, true), (2, true), (3, true), (5, true), (6, true), (7, true), (4, false), (8, false), (9, false), (10, true)]) (by kernel_rfl) ?_)) | (refine @Exists.intro (Nat) _ ?_ ?_; rotate_left) | (change CallGoal _ _ _ _ _ _; first | (refine call0 (lessE_z E ((EI m x.1 y.1).getD z.toNat (0, false, 0, 0)) ((endsOf (m.getD x.1.toNat ((0, 0), 0, 0))).getD y.1.toNat (0, false, 0, 0))) [] rfl True.intro rfl ?_))
  all_goals first
| (dsimp only; first | rfl | omega)
| rfl
| omega
| exact Nat.le_refl _
| exact Fi.start
| (have q1 := hK.lo; have q2 := hK.hi; have q3 := @EI_len m x.1 y.1; first | omega | (change _ * 32 ≤ _; omega))
| exact congrArg List.length (EI_end hI.2.1 ‹¬ x.1 < _›)
| exact congrArg (fun q => Ch.arr _ _ _ q _) (EI_end hI.2.1 ‹¬ x.1 < _›)
| (have e := @EI_row m x.1 y.1 hI.1 ‹x.1 < _› hJ.2.1 (by omega); dsimp only; rw [e]; first | done | exact hJ.2.2)
| exact hK.next ‹_› ‹_›
| (change (0 : Nat) < 2; decide)
| (change y.1.toNat < 2; omega)
| exact ins_len2 (q := ((endsOf (m.getD x.1.toNat ((0, 0), 0, 0))).getD y.1.toNat (0, false, 0, 0)))
| (have e := @EI_ins m x.1 y.1 z hJ.1 (by omega) hK (by first | exact .inl ‹_› | exact .inr ‹_›); have q1 := hK.hi; have q2 := hK.lo; dsimp only; rw [e]; first | exact (ins_len (by omega)).symm | (rw [ins_len (by omega)]; exact h) | exact congrArg (fun q => Ch.arr _ _ _ q _) ins_eq)

set_option maxHeartbeats 2000000 in
theorem rpairs11_z (E : Nat → Addr) (m : Spans) (n k : Nat) (h : n = m.length ∧ m.length ≤ 1000 ∧ m.length ≤ k) : Does (Gm E) 29 ⟨[.sl 0 n k], [(0, .arr ((Int × Int) × Int × Int) (Zz.encP (Zz.encP Zz.encI Zz.encI) (Zz.encP Zz.encI Zz.encI)) 51 m k)], 1, 2, Nat, fun _ => True, fun k1 => .sl 1 (ordS ltP (normP (PA meetS ((0, 0), 0, 0) m m.length))).length k1, fun k1 => [(0, .arr ((Int × Int) × Int × Int) (Zz.encP (Zz.encP Zz.encI Zz.encI) (Zz.encP Zz.encI Zz.encI)) 51 m k), (1, .arr ((Int × Int) × (Int × Int)) (Zz.encP (Zz.encP Zz.encI Zz.encI) (Zz.encP Zz.encI Zz.encI)) 41 (ordS ltP (normP (PA meetS ((0, 0), 0, 0) m m.length))) k1)]⟩ := by
  obtain ⟨rfl, hm, hk⟩ := h
  refine fn_intro (gmOk E) 48 1 [] Tryd.func29 rfl rfl rfl rfl rfl ?_
  repeat' first | (intro h; first | (exfalso; omega; done) | (exfalso; exact h trivial; done) | skip) | (refine And.intro ?_ ?_) | exact True.intro | (refine @Exists.intro Unit _ () ?_) | (refine @Exists.intro (_ = _) _ rfl ?_) | (change LoopGoal _ _ _ _ _ _; refine loop_at 3 (gmOk E) rfl [] (X := (Int × Nat)) (fun x => [(11, .int .i64 x.1), (3, .sl 2 (PA meetS ((0, 0), 0, 0) m x.1.toNat).length x.2)]) (fun x => [(2, .arr ((Int × Int) × (Int × Int)) (Zz.encP (Zz.encP Zz.encI Zz.encI) (Zz.encP Zz.encI Zz.encI)) 41 (PA meetS ((0, 0), 0, 0) m x.1.toNat) x.2)]) [1] (fun x => 0 ≤ x.1 ∧ x.1 ≤ (m.length : Nat)) (fun x => m.length - x.1.toNat) ⟨(0, 0), ?_⟩ (fun x hI => ?_)) | (change @Exists ((Int × Nat)) (fun _ => updK _ _ _ _ _ _); refine @Exists.intro ((Int × Nat)) _ ((?_, ?_)) ?_; rotate_left 2) | (change LoopGoal _ _ _ _ _ _; refine loop_at 6 (gmOk E) rfl [] (X := (Int × Nat)) (fun y => [(20, .int .i64 y.1), (3, .sl 19 (PA meetS ((0, 0), 0, 0) m x.1.toNat ++ PJ meetS ((0, 0), 0, 0) m x.1.toNat y.1.toNat).length y.2)]) (fun y => [(19, .arr ((Int × Int) × (Int × Int)) (Zz.encP (Zz.encP Zz.encI Zz.encI) (Zz.encP Zz.encI Zz.encI)) 41 (PA meetS ((0, 0), 0, 0) m x.1.toNat ++ PJ meetS ((0, 0), 0, 0) m x.1.toNat y.1.toNat) y.2)]) [2] (fun y => 0 ≤ y.1 ∧ y.1 ≤ x.1) (fun y => x.1.toNat - y.1.toNat) ⟨(0, x.2), ?_⟩ (fun y hJ => ?_)) | (change @Exists ((Int × Nat)) (fun _ => updK _ _ _ _ _ _); refine @Exists.intro ((Int × Nat)) _ ((?_, ?_)) ?_; rotate_left 2) | (refine @Exists.intro (Nat) _ ?_ ?_; rotate_left) | (change CallGoal _ _ _ _ _ _; first | (refine call_rule (rpairs_z E (PA meetS ((0, 0), 0, 0) m x.1.toNat) _ x.2 ⟨rfl, PA_le hm hI.2⟩) [2] rfl (And.intro rfl True.intro) rfl (fun (r1 : Nat) hr1 => ?_)))
  all_goals first
| (dsimp only; first | rfl | omega)
| rfl
| omega
| exact Nat.le_refl _
| (have q : ((PA meetS ((0, 0), 0, 0) m x.1.toNat ++ PJ meetS ((0, 0), 0, 0) m x.1.toNat y.1.toNat)).length ≤ 1000000 := PAJ_len hm ‹x.1 < _›; first | omega | (change (_ + 1) * 32 ≤ _; omega))
| (have e : PJ meetS ((0, 0), 0, 0) m x.1.toNat (0 : Int).toNat = [] := rfl; dsimp only; rw [e, List.append_nil]; done)
| (have e := @PA_next _ meetS ((0, 0), 0, 0) m x.1 y.1 hI.1 hJ.2 (by omega); dsimp only; rw [e]; done)
| (have e := @PJ_in _ meetS ((0, 0), 0, 0) m x.1 y.1 hJ.1 (by omega) (decide_eq_true (by first | exact ⟨‹_›, ‹_›⟩ | assumption)); dsimp only; rw [e, ← List.append_assoc]; first | (rw [List.length_append (bs := [_])]; rfl) | (rw [List.take_length]; rfl))
| (have e := @PJ_out _ meetS ((0, 0), 0, 0) m x.1 y.1 hJ.1 (by omega) (decide_eq_false (by first | assumption | exact fun q => absurd q.1 ‹_› | exact fun q => absurd q.2 ‹_›)); dsimp only; rw [e]; done)
| (rw [show x.1.toNat = m.length by omega]; done)

set_option maxHeartbeats 2000000 in
theorem rboxpairs_z (E : Nat → Addr) (m : Boxes) (n k : Nat) (h : n = m.length ∧ m.length ≤ 1000 ∧ m.length ≤ k) : Does (Gm E) 33 ⟨[.sl 0 n k], [(0, .arr ((Int × Int) × Int × Int × Int × Int) (Zz.encP (Zz.encP Zz.encI Zz.encI) (Zz.encP Zz.encI (Zz.encP Zz.encI (Zz.encP Zz.encI Zz.encI)))) 70 m k)], 1, 2, Nat, fun _ => True, fun k1 => .sl 1 (ordS ltP (normP (PA meetB ((0, 0), 0, 0, 0, 0) m m.length))).length k1, fun k1 => [(0, .arr ((Int × Int) × Int × Int × Int × Int) (Zz.encP (Zz.encP Zz.encI Zz.encI) (Zz.encP Zz.encI (Zz.encP Zz.encI (Zz.encP Zz.encI Zz.encI)))) 70 m k), (1, .arr ((Int × Int) × (Int × Int)) (Zz.encP (Zz.encP Zz.encI Zz.encI) (Zz.encP Zz.encI Zz.encI)) 41 (ordS ltP (normP (PA meetB ((0, 0), 0, 0, 0, 0) m m.length))) k1)]⟩ := by
  obtain ⟨rfl, hm, hk⟩ := h
  refine fn_intro (gmOk E) 41 1 [] Tryd.func33 rfl rfl rfl rfl rfl ?_
  repeat' first | (intro h; first | (exfalso; omega; done) | (exfalso; exact h trivial; done) | skip) | (refine And.intro ?_ ?_) | exact True.intro | (refine @Exists.intro Unit _ () ?_) | (refine @Exists.intro (_ = _) _ rfl ?_) | (change LoopGoal _ _ _ _ _ _; refine loop_at 3 (gmOk E) rfl [] (X := (Int × Nat)) (fun x => [(11, .int .i64 x.1), (3, .sl 2 (PA meetB ((0, 0), 0, 0, 0, 0) m x.1.toNat).length x.2)]) (fun x => [(2, .arr ((Int × Int) × (Int × Int)) (Zz.encP (Zz.encP Zz.encI Zz.encI) (Zz.encP Zz.encI Zz.encI)) 41 (PA meetB ((0, 0), 0, 0, 0, 0) m x.1.toNat) x.2)]) [1] (fun x => 0 ≤ x.1 ∧ x.1 ≤ (m.length : Nat)) (fun x => m.length - x.1.toNat) ⟨(0, 0), ?_⟩ (fun x hI => ?_)) | (change @Exists ((Int × Nat)) (fun _ => updK _ _ _ _ _ _); refine @Exists.intro ((Int × Nat)) _ ((?_, ?_)) ?_; rotate_left 2) | (change LoopGoal _ _ _ _ _ _; refine loop_at 6 (gmOk E) rfl [] (X := (Int × Nat)) (fun y => [(20, .int .i64 y.1), (3, .sl 19 (PA meetB ((0, 0), 0, 0, 0, 0) m x.1.toNat ++ PJ meetB ((0, 0), 0, 0, 0, 0) m x.1.toNat y.1.toNat).length y.2)]) (fun y => [(19, .arr ((Int × Int) × (Int × Int)) (Zz.encP (Zz.encP Zz.encI Zz.encI) (Zz.encP Zz.encI Zz.encI)) 41 (PA meetB ((0, 0), 0, 0, 0, 0) m x.1.toNat ++ PJ meetB ((0, 0), 0, 0, 0, 0) m x.1.toNat y.1.toNat) y.2)]) [2] (fun y => 0 ≤ y.1 ∧ y.1 ≤ x.1) (fun y => x.1.toNat - y.1.toNat) ⟨(0, x.2), ?_⟩ (fun y hJ => ?_)) | (change @Exists ((Int × Nat)) (fun _ => updK _ _ _ _ _ _); refine @Exists.intro ((Int × Nat)) _ ((?_, ?_)) ?_; rotate_left 2) | (refine @Exists.intro (Nat) _ ?_ ?_; rotate_left) | (change CallGoal _ _ _ _ _ _; first | (refine call_rule (rpairs_z E (PA meetB ((0, 0), 0, 0, 0, 0) m x.1.toNat) _ x.2 ⟨rfl, PA_le hm hI.2⟩) [2] rfl (And.intro rfl True.intro) rfl (fun (r1 : Nat) hr1 => ?_))) | (change CallGoal _ _ _ _ _ _; first | (refine call0 (meets_z E (m.getD x.1.toNat ((0, 0), 0, 0, 0, 0)).2 (m.getD y.1.toNat ((0, 0), 0, 0, 0, 0)).2) [] rfl True.intro rfl ?_))
  all_goals first
| (dsimp only; first | rfl | omega)
| rfl
| omega
| exact Nat.le_refl _
| (have q : ((PA meetB ((0, 0), 0, 0, 0, 0) m x.1.toNat ++ PJ meetB ((0, 0), 0, 0, 0, 0) m x.1.toNat y.1.toNat)).length ≤ 1000000 := PAJ_len hm ‹x.1 < _›; first | omega | (change (_ + 1) * 32 ≤ _; omega))
| (have e : PJ meetB ((0, 0), 0, 0, 0, 0) m x.1.toNat (0 : Int).toNat = [] := rfl; dsimp only; rw [e, List.append_nil]; done)
| (have e := @PA_next _ meetB ((0, 0), 0, 0, 0, 0) m x.1 y.1 hI.1 hJ.2 (by omega); dsimp only; rw [e]; done)
| (have e := @PJ_in _ meetB ((0, 0), 0, 0, 0, 0) m x.1 y.1 hJ.1 (by omega) (decide_eq_true (by first | exact ⟨‹_›, ‹_›⟩ | assumption)); dsimp only; rw [e, ← List.append_assoc]; first | (rw [List.length_append (bs := [_])]; rfl) | (rw [List.take_length]; rfl))
| (have e := @PJ_out _ meetB ((0, 0), 0, 0, 0, 0) m x.1 y.1 hJ.1 (by omega) (decide_eq_false (by first | assumption | exact fun q => absurd q.1 ‹_› | exact fun q => absurd q.2 ‹_›)); dsimp only; rw [e]; done)
| (rw [show x.1.toNat = m.length by omega]; done)

end Go.Proofs.YtpojafdllcioiaaDoor

namespace Go.Proofs.YtpojafdllcioiaaDoor
open Go.Zz Go.Px
set_option linter.unusedVariables false
set_option linter.unusedSectionVars false
set_option linter.unusedSimpArgs false
set_option maxRecDepth 10000
theorem ordE : Ord ltE := by
  refine ⟨fun x => ?_, fun x y z h1 h2 => ?_, fun x y => ?_⟩
  · obtain ⟨a, b, c, d⟩ := x; cases b <;> simp [ltE, ltH]
  · obtain ⟨a, b, c, d⟩ := x; obtain ⟨a', b', c', d'⟩ := y; obtain ⟨a2, b2, c2, d2⟩ := z
    cases b <;> cases b' <;> cases b2 <;> simp [ltE, ltH] at h1 h2 ⊢ <;> omega
  · obtain ⟨a, b, c, d⟩ := x; obtain ⟨a', b', c', d'⟩ := y
    cases b <;> cases b' <;> simp [ltE, ltH] <;> omega
theorem foldE_ord : ∀ (l : Ends), l.Nodup → l.foldl putE [] = ordS ltE l := fun l => by
  refine snoc_ind (m := fun l => l.Nodup → l.foldl putE [] = ordS ltE l) (fun _ => rfl) (fun l x ih hn => ?_) l
  have h1 := List.nodup_append.1 hn
  rw [List.foldl_append, ih h1.1, ordS_snoc, putS_out (fun hm => h1.2.2 x ((mem_ordS l x).1 hm) x (List.mem_singleton.2 rfl) rfl)]
  rfl
theorem ends_nodup : ∀ {m : Spans}, (m.map (·.1)).Nodup → (m.flatMap endsOf).Nodup
  | [], _ => List.nodup_nil
  | s :: m, h => by
    rw [List.map_cons, List.nodup_cons] at h
    rw [List.flatMap_cons]
    refine List.nodup_append.2 ⟨by simp [endsOf], ends_nodup h.2, fun e he f hf q => ?_⟩
    subst q
    obtain ⟨t, ht, hq⟩ := List.mem_flatMap.1 hf
    have e1 : e.2.2 = s.1 := by simp only [endsOf, List.mem_cons, List.not_mem_nil, or_false] at he; rcases he with rfl | rfl <;> rfl
    have e2 : e.2.2 = t.1 := by simp only [endsOf, List.mem_cons, List.not_mem_nil, or_false] at hq; rcases hq with rfl | rfl <;> rfl
    exact h.1 (List.mem_map.2 ⟨t, ht, by rw [← e2, e1]⟩)
theorem Inv.ends {m : Spans} {es : Ends} {L : PMap} (h : Inv m es L) : es = endsR m := by
  unfold endsR
  rw [foldE_ord _ (ends_nodup h.nd)]
  refine Rises.ext ordE (h.so.imp fun q => (ltE_iff _ _).2 q) (ordS_rises ordE _) fun e => ?_
  rw [h.mem e, mem_ordS, List.mem_flatMap]
  constructor
  · rintro ⟨s, hs, rfl | rfl⟩
    · exact ⟨s, hs, by simp [endsOf, lowE]⟩
    · exact ⟨s, hs, by simp [endsOf, highE]⟩
  · rintro ⟨s, hs, hq⟩
    simp only [endsOf, List.mem_cons, List.not_mem_nil, or_false] at hq
    exact ⟨s, hs, hq⟩
theorem normP_mem {l : List ((Int × Int) × (Int × Int))} {p : ((Int × Int) × (Int × Int))} : p ∈ ordS ltP (normP l) ↔ ∃ q ∈ l, ¬ q.1 = q.2 ∧ ordPair q.1 q.2 = p := by
  rw [mem_ordS]; unfold normP
  rw [List.mem_map]
  constructor
  · rintro ⟨q, hq, rfl⟩
    have := List.mem_filter.1 hq
    exact ⟨q, this.1, by simpa using this.2, rfl⟩
  · rintro ⟨q, hq, hn, rfl⟩
    exact ⟨q, List.mem_filter.2 ⟨hq, by simpa using hn⟩, rfl⟩
theorem getD_mem {α : Type} {l : List α} {i : Nat} {d : α} (h : i < l.length) : l.getD i d ∈ l := by
  rw [List.getD_eq_getElem?_getD, List.getElem?_eq_getElem h]; exact List.getElem_mem _
theorem mem_getD {α : Type} {l : List α} {x d : α} (h : x ∈ l) : ∃ i, i < l.length ∧ l.getD i d = x := by
  obtain ⟨i, hi, rfl⟩ := List.getElem_of_mem h
  exact ⟨i, hi, by rw [List.getD_eq_getElem?_getD, List.getElem?_eq_getElem hi]; rfl⟩
theorem PA_pairs {β : Type} {f : β → β → Bool} {d : (Int × Int) × β} {m : List ((Int × Int) × β)} (hf : ∀ x y, f x y = f y x) (p : ((Int × Int) × (Int × Int))) :
    p ∈ ordS ltP (normP (PA f d m m.length)) ↔ (ltH p.1 p.2 = true ∧ ∃ a ∈ m, ∃ b ∈ m, a.1 = p.1 ∧ b.1 = p.2 ∧ f a.2 b.2 = true) := by
  rw [normP_mem]
  constructor
  · rintro ⟨q, hq, hn, rfl⟩
    obtain ⟨i, hi, hq⟩ := PA_in.1 hq
    unfold PJ at hq
    obtain ⟨b, hb, rfl⟩ := List.mem_map.1 hq
    have hb2 := List.mem_filter.1 hb
    have hbm := List.mem_of_mem_take hb2.1
    rcases ordPair_of hn with ⟨e, hl⟩ | ⟨e, hl⟩
    · rw [e]; exact ⟨hl, _, getD_mem hi, b, hbm, rfl, rfl, hb2.2⟩
    · rw [e]; exact ⟨hl, b, hbm, _, getD_mem hi, rfl, rfl, by rw [hf]; exact hb2.2⟩
  · rintro ⟨hl, a, ha, b, hb, e1, e2, hm⟩
    have hne : ¬ p.1 = p.2 := fun e => by rw [e, ordH.irr] at hl; cases hl
    obtain ⟨i, hi, rfl⟩ := mem_getD (d := d) ha
    obtain ⟨j, hj, rfl⟩ := mem_getD (d := d) hb
    have key : ∀ {i j : Nat}, i < m.length → j < i → f (m.getD i d).2 (m.getD j d).2 = true → ((m.getD i d).1, (m.getD j d).1) ∈ PA f d m m.length := fun {i j} hi hj hm => by
      refine PA_in.2 ⟨i, hi, List.mem_map.2 ⟨m.getD j d, List.mem_filter.2 ⟨?_, hm⟩, rfl⟩⟩
      have : (m.take i).getD j d = m.getD j d := by simp [List.getD_eq_getElem?_getD, List.getElem?_take, hj]
      rw [← this]; exact getD_mem (by rw [List.length_take]; omega)
    rcases Nat.lt_trichotomy i j with q | q | q
    · refine ⟨_, key hj q (by rw [hf]; exact hm), fun e => hne (by rw [← e1, ← e2]; exact e.symm), ?_⟩
      rw [e1, e2]; exact ordPair_sw hl
    · subst q; exact absurd (e1.symm.trans e2) hne
    · refine ⟨_, key hi q hm, fun e => hne (by rw [← e1, ← e2]; exact e), ?_⟩
      rw [e1, e2]
      rcases ordPair_of hne with ⟨e, _⟩ | ⟨e, h2⟩
      · exact e
      · have := ordH.asym hl; rw [h2] at this; cases this
theorem meetS_sym (x y : Int × Int) : meetS x y = meetS y x := by unfold meetS; exact decide_eq_decide.2 and_comm
theorem Inv.pairsA {m : Spans} {es : Ends} {L : PMap} (h : Inv m es L) (d : (Int × Int) × Int × Int) : ordS ltP (normP (L.map (·.1))) = ordS ltP (normP (PA meetS d m m.length)) := by
  refine pairs_one (ordS_rises ordP _) (ordS_rises ordP _) fun p => ?_
  rw [PA_pairs meetS_sym]
  show p ∈ pairsL L ↔ _
  rw [h.pairs p]
  constructor
  · rintro ⟨h1, a, ha, b, hb, e1, e2, q⟩; exact ⟨h1, a, ha, b, hb, e1, e2, decide_eq_true q⟩
  · rintro ⟨h1, a, ha, b, hb, e1, e2, q⟩; exact ⟨h1, a, ha, b, hb, e1, e2, of_decide_eq_true q⟩
theorem dropK_same {β : Type} {m : List ((Int × Int) × β)} {hh : Int × Int} : (dropK hh m).length = m.length ↔ hh ∉ m.map (·.1) := by
  unfold dropK
  rw [List.length_filter_eq_length_iff]
  constructor
  · intro h hm
    obtain ⟨s, hs, rfl⟩ := List.mem_map.1 hm
    have := h s hs; simp at this
  · intro h s hs
    have : s.1 ≠ hh := fun e => h (e ▸ List.mem_map.2 ⟨s, hs, rfl⟩)
    simp [this]
section
variable {m : Spans} {i : Int} {a : AxS}
theorem AxI.cut (h : AxI m i a) (hh : Int × Int) : AxI (dropM hh m) (i + 1) (dropP (isE hh) a.1, (dropP (isE hh) a.1).length, a.2.2.1, cutL hh a.2.2.2) := by
  have e1 := dropP_len (isE hh) a.1; have e3 := dropM_len hh m
  exact ⟨h.inv.drop hh, rfl, Nat.le_trans e1 h.k, by have := h.len; omega⟩
theorem AxI.gone (h : AxI m i a) (hh : Int × Int) : (dropP (isE hh) a.1).length = a.1.length ↔ (dropM hh m).length = m.length := by
  rw [h.inv.has hh]; exact dropK_same.symm
theorem AxI.half (h : AxI m i a) : a.2.1 / 2 = m.length := by have := h.n; have := h.inv.len; omega
theorem AxI.mlen (h : AxI m i a) (hi : i ≤ 1000) : m.length ≤ 1000 := by have := h.len; omega
theorem AxI.alen (h : AxI m i a) (hi : i ≤ 1000) : a.1.length ≤ 2000 := by have := h.len; have := h.inv.len; omega
theorem AxI.elen (h : AxI m i a) (hi : i ≤ 1000) : (endsR m).length ≤ 2000 := by rw [← h.inv.ends]; exact h.alen hi
end
end Go.Proofs.YtpojafdllcioiaaDoor

namespace Go.Proofs.YtpojafdllcioiaaDoor
open Go.Zz Go.Px
set_option linter.unusedVariables false
set_option linter.unusedSectionVars false
set_option linter.unusedSimpArgs false
set_option maxRecDepth 10000
theorem same_no {p : Prop} {d : Decidable p} (h : (!@decide p d) = true) (hp : p) : False := by rw [decide_eq_true hp] at h; cases h
theorem name_one {β : Type} : ∀ {m : List ((Int × Int) × β)}, (m.map (·.1)).Nodup → ∀ {x y : (Int × Int) × β}, x ∈ m → y ∈ m → x.1 = y.1 → x = y
  | [], _, x, y, h, _, _ => by cases h
  | z :: m, hn, x, y, hx, hy, e => by
    rw [List.map_cons, List.nodup_cons] at hn
    rcases List.mem_cons.1 hx with h1 | h1
    · rcases List.mem_cons.1 hy with h2 | h2
      · rw [h1, h2]
      · exact absurd (List.mem_map.2 ⟨y, h2, by rw [← e, h1]⟩) hn.1
    · rcases List.mem_cons.1 hy with h2 | h2
      · exact absurd (List.mem_map.2 ⟨x, h1, by rw [e, h2]⟩) hn.1
      · exact name_one hn.2 h1 h2 e
def mapF (g : Bx → Int × Int) (m : Boxes) : Spans := m.map fun s => (s.1, g s.2)
theorem mapF_len (g : Bx → Int × Int) (m : Boxes) : (mapF g m).length = m.length := List.length_map _
theorem mapF_drop (g : Bx → Int × Int) (hh : Int × Int) (m : Boxes) : dropM hh (mapF g m) = mapF g (dropB hh m) := by
  unfold dropM mapF dropB dropK
  rw [List.filter_map]; rfl
theorem mapF_put (g : Bx → Int × Int) (m : Boxes) (hh : Int × Int) (q : Bx) : putM (mapF g m) (hh, g q) = mapF g (putB m (hh, q)) := by
  unfold putM putB
  rw [mapF_drop]
  unfold mapF
  rw [List.map_append]; rfl
theorem mapF_mem {g : Bx → Int × Int} {m : Boxes} {s : (Int × Int) × Int × Int} : s ∈ mapF g m ↔ ∃ x ∈ m, (x.1, g x.2) = s := List.mem_map
theorem mapF_names (g : Bx → Int × Int) (m : Boxes) : (mapF g m).map (·.1) = m.map (·.1) := by unfold mapF; rw [List.map_map]; rfl
theorem meetB_sym (x y : Bx) : meetB x y = meetB y x := by
  unfold meetB meetP
  refine decide_eq_decide.2 ⟨fun h => ⟨h.2.1, h.1, h.2.2.2, h.2.2.1⟩, fun h => ⟨h.2.1, h.1, h.2.2.2, h.2.2.1⟩⟩
/-- The pairs of boxes that meet, in order. -/
def bPairs (m : Boxes) : List ((Int × Int) × (Int × Int)) := ordS ltP (normP (PA meetB ((0, 0), 0, 0, 0, 0) m m.length))
/-- A sweep that holds these boxes. -/
structure SwB (m : Boxes) (i : Int) (a b : AxS) : Prop where
  x : AxI (mapF bX m) i a
  y : AxI (mapF bY m) i b
section
variable {m : Boxes} {i j : Int} {a b : AxS}
theorem SwB.nil : SwB [] 0 ([], 0, 0, []) ([], 0, 0, []) := ⟨AxI.nil, AxI.nil⟩
theorem SwB.mono (h : SwB m i a b) : SwB m (i + 1) a b := ⟨h.x.mono, h.y.mono⟩
theorem SwB.put (h : SwB m i a b) {hh : Int × Int} {q : Bx} (hr : rightP q) {x : (Nat × Nat × Nat) × (Nat × Nat × Nat)} (hx : PutAt hh q.1 q.2.2.1 a.1 x.1 ∧ PutAt hh q.2.1 q.2.2.2 b.1 x.2) :
    SwB (putB m (hh, q)) (i + 1) (put2 hh q.1 q.2.2.1 a.1 x.1, (dropP (isE hh) a.1).length + 2, x.1.2.2, putL hh q.1 q.2.2.1 a.1 a.2.2.2 x.1) (put2 hh q.2.1 q.2.2.2 b.1 x.2, (dropP (isE hh) b.1).length + 2, x.2.2.2, putL hh q.2.1 q.2.2.2 b.1 b.2.2.2 x.2) := by
  refine ⟨?_, ?_⟩
  · rw [← mapF_put]; exact h.x.put hr.1 hx.1
  · rw [← mapF_put]; exact h.y.put hr.2.1 hx.2
theorem SwB.cut (h : SwB m i a b) (hh : Int × Int) : SwB (dropB hh m) (i + 1) (dropP (isE hh) a.1, (dropP (isE hh) a.1).length, a.2.2.1, cutL hh a.2.2.2) (dropP (isE hh) b.1, (dropP (isE hh) b.1).length, b.2.2.1, cutL hh b.2.2.2) := by
  refine ⟨?_, ?_⟩
  · rw [← mapF_drop]; exact h.x.cut hh
  · rw [← mapF_drop]; exact h.y.cut hh
theorem SwB.goneX (h : SwB m i a b) (hh : Int × Int) : (dropP (isE hh) a.1).length = a.1.length ↔ (dropB hh m).length = m.length := by
  rw [h.x.gone hh, mapF_drop, mapF_len, mapF_len]
theorem SwB.goneY (h : SwB m i a b) (hh : Int × Int) : (dropP (isE hh) b.1).length = b.1.length ↔ (dropB hh m).length = m.length := by
  rw [h.y.gone hh, mapF_drop, mapF_len, mapF_len]
theorem SwB.half (h : SwB m i a b) : a.2.1 / 2 = m.length := by rw [h.x.half, mapF_len]
theorem SwB.mlen (h : SwB m i a b) (hi : i ≤ 1000) : m.length ≤ 1000 := by have := h.x.mlen hi; rw [mapF_len] at this; exact this
theorem SwB.small (h : SwB m i a b) (hi : i ≤ 1000) : a.2.2.2.length ≤ 1000000000 ∧ a.2.1 ≤ 2000 := by
  exact ⟨h.x.small hi, by have := h.x.alen hi; have := h.x.n; omega⟩
theorem SwB.ha (h : SwB m i a b) (hi : i ≤ 1000) (hh : Int × Int) : AxH hh a.1 a.2.1 a.2.2.1 a.2.2.2 ∧ AxH hh b.1 b.2.1 b.2.2.1 b.2.2.2 := ⟨h.x.h hi hh, h.y.h hi hh⟩
theorem SwB.both (h : SwB m i a b) (p : ((Int × Int) × (Int × Int))) : (PM (mapF bX m) p ∧ PM (mapF bY m) p) ↔ p ∈ bPairs m := by
  unfold bPairs
  rw [PA_pairs meetB_sym]
  have hn : (m.map (·.1)).Nodup := by have := h.x.inv.nd; rw [mapF_names] at this; exact this
  constructor
  · rintro ⟨⟨h1, s, hs, t, ht, e1, e2, q1, q2⟩, ⟨_, u, hu, v, hv, e3, e4, q3, q4⟩⟩
    obtain ⟨s, ms, rfl⟩ := mapF_mem.1 hs; obtain ⟨t, mt, rfl⟩ := mapF_mem.1 ht
    obtain ⟨u, mu, rfl⟩ := mapF_mem.1 hu; obtain ⟨v, mv, rfl⟩ := mapF_mem.1 hv
    have k1 := name_one hn ms mu (e1.trans e3.symm)
    have k2 := name_one hn mt mv (e2.trans e4.symm)
    rw [← k1, ← k2] at q3; rw [← k1, ← k2] at q4
    exact ⟨h1, s, ms, t, mt, e1, e2, decide_eq_true ⟨q1, q2, q3, q4⟩⟩
  · rintro ⟨h1, s, hs, t, ht, e1, e2, q⟩
    have q := of_decide_eq_true q
    exact ⟨⟨h1, _, mapF_mem.2 ⟨s, hs, rfl⟩, _, mapF_mem.2 ⟨t, ht, rfl⟩, e1, e2, q.1, q.2.1⟩, ⟨h1, _, mapF_mem.2 ⟨s, hs, rfl⟩, _, mapF_mem.2 ⟨t, ht, rfl⟩, e1, e2, q.2.2.1, q.2.2.2⟩⟩
theorem bPairs_rises (m : Boxes) : Rises ltP (bPairs m) := ordS_rises ordP _
theorem SwB.pairs (h : SwB m i a b) : dropP (notM b.2.2.2) (ordS ltP (normP (a.2.2.2.map (·.1)))) = bPairs m := by
  refine pairs_one (pairs2_rises _ _) (bPairs_rises _) fun p => ?_
  show p ∈ pairs2 _ _ ↔ _
  rw [pairs2_mem h.x.inv h.y.inv, h.both]
/-- Does a pair of two handles stand in a list's first so many? -/
def hasP (w : List ((Int × Int) × (Int × Int))) (p q : Int × Int) : Bool := w.any fun r => decide ((r.1 = p ∧ r.2 = q) ∨ (r.2 = p ∧ r.1 = q))
def hasN (w : List ((Int × Int) × (Int × Int))) (j : Int) (p q : Int × Int) : Bool := hasP (w.take j.toNat) p q
theorem hasP_sym (w : List ((Int × Int) × (Int × Int))) (p q : Int × Int) : hasP w p q = hasP w q p := by
  unfold hasP; congr 1; funext r; exact decide_eq_decide.2 ⟨fun h => h.elim (fun e => .inr ⟨e.2, e.1⟩) (fun e => .inl ⟨e.2, e.1⟩), fun h => h.elim (fun e => .inr ⟨e.2, e.1⟩) (fun e => .inl ⟨e.2, e.1⟩)⟩
theorem hasP_iff {w : List ((Int × Int) × (Int × Int))} {p q : Int × Int} : hasP w p q = true ↔ ((p, q) ∈ w ∨ (q, p) ∈ w) := by
  unfold hasP
  rw [List.any_eq_true]
  constructor
  · rintro ⟨r, hr, h⟩
    rcases of_decide_eq_true h with ⟨rfl, rfl⟩ | ⟨rfl, rfl⟩
    · exact .inl hr
    · exact .inr hr
  · rintro (h | h)
    · exact ⟨_, h, decide_eq_true (.inl ⟨rfl, rfl⟩)⟩
    · exact ⟨_, h, decide_eq_true (.inr ⟨rfl, rfl⟩)⟩
theorem bPairs_lt {p : ((Int × Int) × (Int × Int))} (h : p ∈ bPairs m) : ltH p.1 p.2 = true := by
  unfold bPairs at h; exact ((PA_pairs meetB_sym p).1 h).1
theorem SwB.meetN (h : SwB m i a b) {p q : Int × Int} (hne : ¬ p = q) : ((Go.Px.getK a.2.2.2 (ordPair p q)).getD false && (Go.Px.getK b.2.2.2 (ordPair p q)).getD false) = hasP (bPairs m) p q := by
  rw [Bool.eq_iff_iff, Bool.and_eq_true, h.x.inv.get, h.y.inv.get, h.both, hasP_iff]
  rcases ordPair_of hne with ⟨e, hl⟩ | ⟨e, hl⟩
  · rw [e]
    exact ⟨.inl, fun o => o.elim id fun o => by have := bPairs_lt o; rw [ordH.asym hl] at this; cases this⟩
  · rw [e]
    exact ⟨.inr, fun o => o.elim (fun o => by have := bPairs_lt o; rw [ordH.asym hl] at this; cases this) id⟩
theorem meetE (m : Boxes) (p : Int × Int) : hasP (bPairs m) p p = false := by
  cases h : hasP (bPairs m) p p with
  | false => rfl
  | true =>
    rcases hasP_iff.1 h with o | o <;> (have := bPairs_lt o; rw [ordH.irr] at this; cases this)
theorem hasN_0 (w : List ((Int × Int) × (Int × Int))) (p q : Int × Int) : hasN w 0 p q = false := rfl
theorem hasN_next {w : List ((Int × Int) × (Int × Int))} {p q : Int × Int} (h0 : 0 ≤ j) (h1 : j < (w.length : Nat)) : hasN w (j + 1) p q = (hasN w j p q || decide (((w.getD j.toNat ((0, 0), (0, 0))).1 = p ∧ (w.getD j.toNat ((0, 0), (0, 0))).2 = q) ∨ ((w.getD j.toNat ((0, 0), (0, 0))).2 = p ∧ (w.getD j.toNat ((0, 0), (0, 0))).1 = q))) := by
  unfold hasN hasP
  rw [show (j + 1).toNat = j.toNat + 1 by omega, take_snoc (d := ((0, 0), (0, 0))) (by omega), List.any_append, List.any_cons]
  simp
theorem hasN_end {w : List ((Int × Int) × (Int × Int))} {p q : Int × Int} (h1 : j ≤ (w.length : Nat)) (h2 : ¬ j < (w.length : Nat)) : hasN w j p q = hasP w p q := by
  unfold hasN; rw [List.take_of_length_le (by omega)]
theorem hasN_dec {w : List ((Int × Int) × (Int × Int))} {p q : Int × Int} {b : Bool} (hb : b = hasN w j p q) (h0 : 0 ≤ j) (h1 : j < (w.length : Nat)) {P : Prop} {d : Decidable P}
    (hP : P ↔ ((b = true ∨ (((w.getD j.toNat ((0, 0), (0, 0))).1.1 = p.1 ∧ (w.getD j.toNat ((0, 0), (0, 0))).1.2 = p.2) ∧ ((w.getD j.toNat ((0, 0), (0, 0))).2.1 = q.1 ∧ (w.getD j.toNat ((0, 0), (0, 0))).2.2 = q.2))) ∨ (((w.getD j.toNat ((0, 0), (0, 0))).2.1 = p.1 ∧ (w.getD j.toNat ((0, 0), (0, 0))).2.2 = p.2) ∧ ((w.getD j.toNat ((0, 0), (0, 0))).1.1 = q.1 ∧ (w.getD j.toNat ((0, 0), (0, 0))).1.2 = q.2)))) :
    @decide P d = hasN w (j + 1) p q := by
  rw [hasN_next h0 h1, ← hb, Bool.eq_iff_iff, decide_eq_true_iff, hP, Bool.or_eq_true, decide_eq_true_iff]
  rw [← pt_eq, ← pt_eq, ← pt_eq, ← pt_eq]
  constructor
  · rintro ((h | h) | h)
    · exact .inl h
    · exact .inr (.inl h)
    · exact .inr (.inr h)
  · rintro (h | h | h)
    · exact .inl (.inl h)
    · exact .inl (.inr h)
    · exact .inr h
theorem hasN_all {w : List ((Int × Int) × (Int × Int))} {p q : Int × Int} {b : Bool} (hb : b = hasN w j p q) (h1 : j ≤ (w.length : Nat)) (h2 : ¬ j < (w.length : Nat)) : hasP w p q = b := by rw [hb, hasN_end h1 h2]
theorem hasN_allS {w : List ((Int × Int) × (Int × Int))} {p q : Int × Int} {b : Bool} (hb : b = hasN w j p q) (h1 : j ≤ (w.length : Nat)) (h2 : ¬ j < (w.length : Nat)) : hasP w q p = b := by rw [hasP_sym, hasN_all hb h1 h2]
theorem SwB.plen (h : SwB m i a b) (hi : i ≤ 1000) : (bPairs m).length ≤ 1099511627776 := by
  rw [← h.pairs]; have := pairs2_len a.2.2.2 b.2.2.2; have := (h.small hi).1; omega
end
section
variable {m : Boxes} {i : Int} {a b : AxS}
theorem SwB.cutN (h : SwB m i a b) (hh : Int × Int) (hd : (dropP (isE hh) a.1).length = a.1.length) : SwB (dropB hh m) (i + 1) (dropP (isE hh) a.1, (dropP (isE hh) a.1).length, a.2.2.1, cutL hh a.2.2.2) b := by
  have e : dropB hh m = m := by
    have := (h.goneX hh).1 hd
    unfold dropB dropK at this ⊢
    exact List.filter_eq_self.2 (List.length_filter_eq_length_iff.1 this)
  refine ⟨(h.cut hh).x, ?_⟩
  rw [e]; exact h.y.mono
theorem swlen_i (E : Nat → Addr) (h : SwB m i a b) (hi : i ≤ 1000) : Does (Gt E) 19 (Sp0 [.ptr 0 0] [(0, .cells 88 [.ptr 1 0, .ptr 4 0]), (1, .cells 93 [.mp 2, .sl 3 a.2.1 a.2.2.1]), (2, .pr (mapPr (Enc.ag (Zz.encP (Zz.encP Zz.encI Zz.encI) (Zz.encP Zz.encI Zz.encI))) veB a.2.2.2)), (3, .arr (Int × Bool × Int × Int) (Zz.encP Zz.encI (Zz.encP Zz.encB (Zz.encP Zz.encI Zz.encI))) 64 a.1 a.2.2.1), (4, .cells 93 [.mp 5, .sl 6 b.2.1 b.2.2.1]), (5, .pr (mapPr (Enc.ag (Zz.encP (Zz.encP Zz.encI Zz.encI) (Zz.encP Zz.encI Zz.encI))) veB b.2.2.2)), (6, .arr (Int × Bool × Int × Int) (Zz.encP Zz.encI (Zz.encP Zz.encB (Zz.encP Zz.encI Zz.encI))) 64 b.1 b.2.2.1)] 7 (.int .i64 (m.length : Nat))) := by
  have q := liftT (swlen_z E a.1 b.1 a.2.1 a.2.2.1 b.2.1 b.2.2.1 a.2.2.2 b.2.2.2 (by have := (h.small hi).2; omega))
  rw [← h.half]; exact q
theorem swpairs_i (E : Nat → Addr) (h : SwB m i a b) (hi : i ≤ 1000) : Does (Gt E) 14 ⟨[.ptr 0 0], [(0, .cells 88 [.ptr 1 0, .ptr 4 0]), (1, .cells 93 [.mp 2, .sl 3 a.2.1 a.2.2.1]), (2, .pr (mapPr (Enc.ag (Zz.encP (Zz.encP Zz.encI Zz.encI) (Zz.encP Zz.encI Zz.encI))) veB a.2.2.2)), (3, .arr (Int × Bool × Int × Int) (Zz.encP Zz.encI (Zz.encP Zz.encB (Zz.encP Zz.encI Zz.encI))) 64 a.1 a.2.2.1), (4, .cells 93 [.mp 5, .sl 6 b.2.1 b.2.2.1]), (5, .pr (mapPr (Enc.ag (Zz.encP (Zz.encP Zz.encI Zz.encI) (Zz.encP Zz.encI Zz.encI))) veB b.2.2.2)), (6, .arr (Int × Bool × Int × Int) (Zz.encP Zz.encI (Zz.encP Zz.encB (Zz.encP Zz.encI Zz.encI))) 64 b.1 b.2.2.1)], 7, 8, Nat, fun _ => True, fun r => .sl 7 (bPairs m).length r, fun r => [(0, .cells 88 [.ptr 1 0, .ptr 4 0]), (1, .cells 93 [.mp 2, .sl 3 a.2.1 a.2.2.1]), (2, .pr (mapPr (Enc.ag (Zz.encP (Zz.encP Zz.encI Zz.encI) (Zz.encP Zz.encI Zz.encI))) veB a.2.2.2)), (3, .arr (Int × Bool × Int × Int) (Zz.encP Zz.encI (Zz.encP Zz.encB (Zz.encP Zz.encI Zz.encI))) 64 a.1 a.2.2.1), (4, .cells 93 [.mp 5, .sl 6 b.2.1 b.2.2.1]), (5, .pr (mapPr (Enc.ag (Zz.encP (Zz.encP Zz.encI Zz.encI) (Zz.encP Zz.encI Zz.encI))) veB b.2.2.2)), (6, .arr (Int × Bool × Int × Int) (Zz.encP Zz.encI (Zz.encP Zz.encB (Zz.encP Zz.encI Zz.encI))) 64 b.1 b.2.2.1), (7, .arr ((Int × Int) × (Int × Int)) (Zz.encP (Zz.encP Zz.encI Zz.encI) (Zz.encP Zz.encI Zz.encI)) 41 (bPairs m) r)]⟩ := by
  have q := liftT (swpairs_z E a.1 b.1 a.2.1 a.2.2.1 b.2.1 b.2.2.1 a.2.2.2 b.2.2.2 (h.small hi).1)
  rw [← h.pairs]; exact q
theorem swmeet_i (E : Nat → Addr) (h : SwB m i a b) (p q : Int × Int) : Does (Gt E) 34 (Sp0 [.ptr 0 0, .agg [.int .i64 p.1, .int .i64 p.2], .agg [.int .i64 q.1, .int .i64 q.2]] [(0, .cells 88 [.ptr 1 0, .ptr 4 0]), (1, .cells 93 [.mp 2, .sl 3 a.2.1 a.2.2.1]), (2, .pr (mapPr (Enc.ag (Zz.encP (Zz.encP Zz.encI Zz.encI) (Zz.encP Zz.encI Zz.encI))) veB a.2.2.2)), (3, .arr (Int × Bool × Int × Int) (Zz.encP Zz.encI (Zz.encP Zz.encB (Zz.encP Zz.encI Zz.encI))) 64 a.1 a.2.2.1), (4, .cells 93 [.mp 5, .sl 6 b.2.1 b.2.2.1]), (5, .pr (mapPr (Enc.ag (Zz.encP (Zz.encP Zz.encI Zz.encI) (Zz.encP Zz.encI Zz.encI))) veB b.2.2.2)), (6, .arr (Int × Bool × Int × Int) (Zz.encP Zz.encI (Zz.encP Zz.encB (Zz.encP Zz.encI Zz.encI))) 64 b.1 b.2.2.1)] 7 (.bl (hasP (bPairs m) p q))) := by
  rcases Classical.em (p = q) with e | e
  · refine (liftT (swmeet_eq E a.1 b.1 a.2.1 a.2.2.1 b.2.1 b.2.2.1 a.2.2.2 b.2.2.2 p q e)).ret (fun ρ => ?_) (by simp [SV.bd])
    subst e; rw [meetE]; rfl
  · refine (liftT (swmeet_ne E a.1 b.1 a.2.1 a.2.2.1 b.2.1 b.2.2.1 a.2.2.2 b.2.2.2 p q e)).ret (fun ρ => ?_) (by simp [SV.bd])
    rw [h.meetN e]
theorem rbox_i (E : Nat → Addr) (n k : Nat) (h : n = m.length ∧ m.length ≤ 1000 ∧ m.length ≤ k) : Does (Gt E) 33 ⟨[.sl 0 n k], [(0, .arr ((Int × Int) × Int × Int × Int × Int) (Zz.encP (Zz.encP Zz.encI Zz.encI) (Zz.encP Zz.encI (Zz.encP Zz.encI (Zz.encP Zz.encI Zz.encI)))) 70 m k)], 1, 2, Nat, fun _ => True, fun k1 => .sl 1 (bPairs m).length k1, fun k1 => [(0, .arr ((Int × Int) × Int × Int × Int × Int) (Zz.encP (Zz.encP Zz.encI Zz.encI) (Zz.encP Zz.encI (Zz.encP Zz.encI (Zz.encP Zz.encI Zz.encI)))) 70 m k), (1, .arr ((Int × Int) × (Int × Int)) (Zz.encP (Zz.encP Zz.encI Zz.encI) (Zz.encP Zz.encI Zz.encI)) 41 (bPairs m) k1)]⟩ := liftT (rboxpairs_z E m n k h)
theorem goneB_1 (E : Nat → Addr) (h : SwB m i a b) {hh : Int × Int} (hq : (dropP (isE hh) a.1).length = a.1.length) : Does (Gt E) 25 (Sp0 [.int .i64 (m.length : Nat), .int .i64 ((dropB hh m).length : Nat)] [] 0 (.int .i64 3)) := by
  have q := liftT (gone_z E (m.length : Nat) ((dropB hh m).length : Nat))
  rw [if_pos (by have := (h.goneX hh).1 hq; omega)] at q; exact q
theorem goneB_2 (E : Nat → Addr) (h : SwB m i a b) {hh : Int × Int} (hq : ¬ (dropP (isE hh) a.1).length = a.1.length) : Does (Gt E) 25 (Sp0 [.int .i64 (m.length : Nat), .int .i64 ((dropB hh m).length : Nat)] [] 0 (.int .i64 0)) := by
  have q := liftT (gone_z E (m.length : Nat) ((dropB hh m).length : Nat))
  rw [if_neg (fun e => hq ((h.goneX hh).2 (by omega)))] at q; exact q
end
end Go.Proofs.YtpojafdllcioiaaDoor

namespace Go.Proofs.YtpojafdllcioiaaDoor
open Go.Zz Go.Px
set_option linter.unusedVariables false
set_option linter.unusedSectionVars false
set_option linter.unusedSimpArgs false
set_option maxRecDepth 10000
set_option maxHeartbeats 1500000 in
theorem sweeps_z (E : Nat → Addr) (l : List (Int × (Int × Int) × Int × Int × Int × Int)) (n k : Nat) (h : n = l.length) : DoesC (Gt E) 7 (Sp0 [.sl 0 n k] [(0, .ro (Int × (Int × Int) × Int × Int × Int × Int) (Zz.encP Zz.encI (Zz.encP (Zz.encP Zz.encI Zz.encI) (Zz.encP Zz.encI (Zz.encP Zz.encI (Zz.encP Zz.encI Zz.encI))))) l k)] 1 .tt) := by
  subst h
  refine fn_calls (gtOk E) 148 1 [24] Tryd.func7 rfl rfl rfl rfl rfl ?_
  repeat' first | (change CallGoal _ _ _ _ _ _; first | (change CallGoal _ 10 _ _ _ _; first | (refine call0 (liftT (alive_z E)) [] rfl True.intro rfl ?_)) | (change CallGoal _ 11 _ _ _ _; first | (refine call_rule (liftT (newsweep_z E)) [] rfl True.intro rfl (fun x hx => ?_))) | (change CallGoal _ 21 _ _ _ _; first | (refine call0 (num_form E) [] rfl True.intro rfl ?_) | (refine call0 (num_none E) [] rfl True.intro rfl ?_) | (refine call0 (num_nil E) [] rfl True.intro rfl ?_)) | (change CallGoal _ 30 _ _ _ _; first | (refine call0 (liftT (ref01right_z E (l.getD x.1.toNat (0, (0, 0), 0, 0, 0, 0)).2.2)) [] rfl True.intro rfl ?_)) | (change CallGoal _ 25 _ _ _ _; first | (refine call0 (goneB_1 E hI.2.2.1 hd) [] rfl True.intro rfl ?_) | (refine call0 (goneB_2 E hI.2.2.1 hd) [] rfl True.intro rfl ?_)) | (change CallGoal _ 12 _ _ _ _; first | (refine call0 (liftT (swput_bad E x.2.1.1 x.2.2.1.1 x.2.1.2.1 x.2.1.2.2.1 x.2.2.1.2.1 x.2.2.1.2.2.1 x.2.1.2.2.2 x.2.2.1.2.2.2 (l.getD x.1.toNat (0, (0, 0), 0, 0, 0, 0)).2.1 (l.getD x.1.toNat (0, (0, 0), 0, 0, 0, 0)).2.2 hs)) [1, 2, 3, 9, 5, 6, 10] rfl (And.intro rfl (And.intro rfl (And.intro rfl (And.intro rfl (And.intro rfl (And.intro rfl (And.intro rfl True.intro))))))) rfl ?_) | (refine call_rule (liftT (swput_z E x.2.1.1 x.2.2.1.1 x.2.1.2.1 x.2.1.2.2.1 x.2.2.1.2.1 x.2.2.1.2.2.1 x.2.1.2.2.2 x.2.2.1.2.2.2 (l.getD x.1.toNat (0, (0, 0), 0, 0, 0, 0)).2.1 (l.getD x.1.toNat (0, (0, 0), 0, 0, 0, 0)).2.2 ⟨(hI.2.2.1.ha (by omega) _).1, (hI.2.2.1.ha (by omega) _).2, hs⟩)) [1, 2, 3, 9, 5, 6, 10] rfl (And.intro rfl (And.intro rfl (And.intro rfl (And.intro rfl (And.intro rfl (And.intro rfl (And.intro rfl True.intro))))))) rfl (fun y1 hy1 => ?_)) | (refine Or.elim (Classical.em (rightP (l.getD x.1.toNat (0, (0, 0), 0, 0, 0, 0)).2.2)) (fun hs => ?_) (fun hs => ?_))) | (change CallGoal _ 31 _ _ _ _; first | (refine call_rule (liftT (rputb_z E x.2.2.2.1 _ x.2.2.2.2 ((l.getD x.1.toNat (0, (0, 0), 0, 0, 0, 0)).2.1, (l.getD x.1.toNat (0, (0, 0), 0, 0, 0, 0)).2.2) ⟨rfl, hI.2.2.1.mlen (by omega)⟩)) [11] rfl (And.intro rfl True.intro) rfl (fun (r2 : Nat) hr2 => ?_))) | (change CallGoal _ 32 _ _ _ _; first | (refine call_rule (liftT (rdropb_z E x.2.2.2.1 _ x.2.2.2.2 (l.getD x.1.toNat (0, (0, 0), 0, 0, 0, 0)).2.1 ⟨rfl, hI.2.2.1.mlen (by omega)⟩)) [11] rfl (And.intro rfl True.intro) rfl (fun (r3 : Nat) hr3 => ?_))) | (change CallGoal _ 18 _ _ _ _; first | (refine call_rule (liftT (swdrop_none E x.2.1.1 x.2.2.1.1 x.2.1.2.1 x.2.1.2.2.1 x.2.2.1.2.1 x.2.2.1.2.2.1 x.2.1.2.2.2 x.2.2.1.2.2.2 (l.getD x.1.toNat (0, (0, 0), 0, 0, 0, 0)).2.1 ⟨(hI.2.2.1.ha (by omega) _).1, hd⟩)) [1, 2, 3, 9, 5, 6, 10] rfl (And.intro rfl (And.intro rfl (And.intro rfl (And.intro rfl (And.intro rfl (And.intro rfl (And.intro rfl True.intro))))))) rfl (fun y2 hy2 => ?_)) | (refine call_rule (liftT (swdrop_some E x.2.1.1 x.2.2.1.1 x.2.1.2.1 x.2.1.2.2.1 x.2.2.1.2.1 x.2.2.1.2.2.1 x.2.1.2.2.2 x.2.2.1.2.2.2 (l.getD x.1.toNat (0, (0, 0), 0, 0, 0, 0)).2.1 ⟨(hI.2.2.1.ha (by omega) _).1, (hI.2.2.1.ha (by omega) _).2, hd, fun e => hd ((hI.2.2.1.goneX _).2 ((hI.2.2.1.goneY _).1 e))⟩)) [1, 2, 3, 9, 5, 6, 10] rfl (And.intro rfl (And.intro rfl (And.intro rfl (And.intro rfl (And.intro rfl (And.intro rfl (And.intro rfl True.intro))))))) rfl (fun y3 hy3 => ?_)) | (refine Or.elim (Classical.em ((dropP (isE (l.getD x.1.toNat (0, (0, 0), 0, 0, 0, 0)).2.1) x.2.1.1).length = x.2.1.1.length)) (fun hd => ?_) (fun hd => ?_))) | (change CallGoal _ 33 _ _ _ _; first | (refine call_rule (rbox_i E _ _ ⟨rfl, hJ.1.mlen (by omega), hJ.2⟩) [11] rfl (And.intro rfl True.intro) rfl (fun (q1 : Nat) hq1 => ?_))) | (change CallGoal _ 19 _ _ _ _; first | (refine call0 (swlen_i E hJ.1 (by omega)) [1, 2, 3, 9, 5, 6, 10] rfl (And.intro rfl (And.intro rfl (And.intro rfl (And.intro rfl (And.intro rfl (And.intro rfl (And.intro rfl True.intro))))))) rfl ?_)) | (change CallGoal _ 14 _ _ _ _; first | (refine call_rule (swpairs_i E hJ.1 (by omega)) [1, 2, 3, 9, 5, 6, 10] rfl (And.intro rfl (And.intro rfl (And.intro rfl (And.intro rfl (And.intro rfl (And.intro rfl (And.intro rfl True.intro))))))) rfl (fun (q3 : Nat) hq3 => ?_))) | (change CallGoal _ 13 _ _ _ _; first | (refine call0 (liftT (same_z E _ _ _ _ _ _ ⟨rfl, rfl, hJ.1.plen (by omega), hJ.1.plen (by omega)⟩)) [43, 42] rfl (And.intro rfl (And.intro rfl True.intro)) rfl ?_)) | (change CallGoal _ 34 _ _ _ _; first | (refine call0 (swmeet_i E hJ.1 (y.2.2.1.getD z.toNat ((0, 0), 0, 0, 0, 0)).1 (l.getD x.1.toNat (0, (0, 0), 0, 0, 0, 0)).2.1) [1, 2, 3, 9, 5, 6, 10] rfl (And.intro rfl (And.intro rfl (And.intro rfl (And.intro rfl (And.intro rfl (And.intro rfl (And.intro rfl True.intro))))))) rfl ?_) | (refine call0 (swmeet_i E hJ.1 (l.getD x.1.toNat (0, (0, 0), 0, 0, 0, 0)).2.1 (y.2.2.1.getD z.toNat ((0, 0), 0, 0, 0, 0)).1) [1, 2, 3, 9, 5, 6, 10] rfl (And.intro rfl (And.intro rfl (And.intro rfl (And.intro rfl (And.intro rfl (And.intro rfl (And.intro rfl True.intro))))))) rfl ?_))) | (intro h; first | (exfalso; omega; done) | (exfalso; first | exact h trivial | exact h rfl | exact h ⟨rfl, rfl, rfl, rfl⟩ | exact h (decide_eq_true rfl) | exact hs h | exact h hs | exact hs (Classical.not_not.1 h) | exact same_no h rfl | exact h (hasN_all hU.2.2 hU.2.1 ‹¬ u.1 < _›) | exact h (hasN_allS hU.2.2 hU.2.1 ‹¬ u.1 < _›) | exact h (fun n => n (hasN_all hU.2.2 hU.2.1 ‹¬ u.1 < _›)) | exact h (fun n => n (hasN_allS hU.2.2 hU.2.1 ‹¬ u.1 < _›)); done) | skip) | (refine And.intro ?_ ?_) | exact True.intro | (refine @Exists.intro Unit _ () ?_) | (refine @Exists.intro (_ = _) _ rfl ?_) | (change LoopGoal _ _ _ _ _ _; refine loop_at 8 (gtOk E) rfl [24] (X := (Int × AxS × AxS × Boxes × Nat)) (fun x => [(24, .int .i64 x.1), (4, .sl 11 x.2.2.2.1.length x.2.2.2.2)]) (fun x => [(2, .cells 93 [.mp 3, .sl 9 x.2.1.2.1 x.2.1.2.2.1]), (3, .pr (mapPr (Enc.ag (Zz.encP (Zz.encP Zz.encI Zz.encI) (Zz.encP Zz.encI Zz.encI))) veB x.2.1.2.2.2)), (9, .arr (Int × Bool × Int × Int) (Zz.encP Zz.encI (Zz.encP Zz.encB (Zz.encP Zz.encI Zz.encI))) 64 x.2.1.1 x.2.1.2.2.1), (5, .cells 93 [.mp 6, .sl 10 x.2.2.1.2.1 x.2.2.1.2.2.1]), (6, .pr (mapPr (Enc.ag (Zz.encP (Zz.encP Zz.encI Zz.encI) (Zz.encP Zz.encI Zz.encI))) veB x.2.2.1.2.2.2)), (10, .arr (Int × Bool × Int × Int) (Zz.encP Zz.encI (Zz.encP Zz.encB (Zz.encP Zz.encI Zz.encI))) 64 x.2.2.1.1 x.2.2.1.2.2.1), (11, .arr ((Int × Int) × Int × Int × Int × Int) (Zz.encP (Zz.encP Zz.encI Zz.encI) (Zz.encP Zz.encI (Zz.encP Zz.encI (Zz.encP Zz.encI Zz.encI)))) 70 x.2.2.2.1 x.2.2.2.2)]) [4, 7, 8] (fun x => 0 ≤ x.1 ∧ x.1 ≤ (l.length : Nat) ∧ SwB x.2.2.2.1 x.1 x.2.1 x.2.2.1 ∧ x.2.2.2.1.length ≤ x.2.2.2.2) (fun x => l.length - x.1.toNat) ⟨(0, ([], 0, 0, []), ([], 0, 0, []), [], 0), ?_⟩ (fun x hI => ?_)) | (change @Exists ((Int × AxS × AxS × Boxes × Nat)) (fun _ => updK _ _ _ _ _ _); refine @Exists.intro ((Int × AxS × AxS × Boxes × Nat)) _ ((?_, y)) ?_; rotate_left 1) | (change LoopGoal _ _ _ _ _ _; refine loop_at 28 (gtOk E) rfl [24] (X := Int) (fun z => [(88, .int .i64 z)]) (fun z => []) [] (fun z => 0 ≤ z ∧ z ≤ (y.2.2.1.length : Nat)) (fun z => y.2.2.1.length - z.toNat) ⟨0, ?_⟩ (fun z hZ => ?_)) | (change @Exists (Int) (fun _ => updK _ _ _ _ _ _); refine @Exists.intro (Int) _ ((?_)) ?_; rotate_left 1) | (change LoopGoal _ _ _ _ _ _; refine loop_at 32 (gtOk E) rfl [24] (X := (Int × Bool)) (fun u => [(94, .int .i64 u.1), (12, .bl u.2)]) (fun u => []) [] (fun u => 0 ≤ u.1 ∧ u.1 ≤ ((bPairs y.2.2.1).length : Nat) ∧ u.2 = hasN (bPairs y.2.2.1) u.1 (y.2.2.1.getD z.toNat ((0, 0), 0, 0, 0, 0)).1 (l.getD x.1.toNat (0, (0, 0), 0, 0, 0, 0)).2.1) (fun u => (bPairs y.2.2.1).length - u.1.toNat) ⟨(0, false), ?_⟩ (fun u hU => ?_)) | (change @Exists ((Int × Bool)) (fun _ => updK _ _ _ _ _ _); refine @Exists.intro ((Int × Bool)) _ ((?_, ?_)) ?_; rotate_left 2) | (change JoinGoal _ _ _ _ _ _ _ _; refine join_rule (gtOk E) (X := (AxS × AxS × Boxes × Nat)) (fun y => [(4, .sl 11 y.2.2.1.length y.2.2.2)]) (fun y => [(2, .cells 93 [.mp 3, .sl 9 y.1.2.1 y.1.2.2.1]), (3, .pr (mapPr (Enc.ag (Zz.encP (Zz.encP Zz.encI Zz.encI) (Zz.encP Zz.encI Zz.encI))) veB y.1.2.2.2)), (9, .arr (Int × Bool × Int × Int) (Zz.encP Zz.encI (Zz.encP Zz.encB (Zz.encP Zz.encI Zz.encI))) 64 y.1.1 y.1.2.2.1), (5, .cells 93 [.mp 6, .sl 10 y.2.1.2.1 y.2.1.2.2.1]), (6, .pr (mapPr (Enc.ag (Zz.encP (Zz.encP Zz.encI Zz.encI) (Zz.encP Zz.encI Zz.encI))) veB y.2.1.2.2.2)), (10, .arr (Int × Bool × Int × Int) (Zz.encP Zz.encI (Zz.encP Zz.encB (Zz.encP Zz.encI Zz.encI))) 64 y.2.1.1 y.2.1.2.2.1), (11, .arr ((Int × Int) × Int × Int × Int × Int) (Zz.encP (Zz.encP Zz.encI Zz.encI) (Zz.encP Zz.encI (Zz.encP Zz.encI (Zz.encP Zz.encI Zz.encI)))) 70 y.2.2.1 y.2.2.2)]) [] (fun y => SwB y.2.2.1 (x.1 + 1) y.1 y.2.1 ∧ y.2.2.1.length ≤ y.2.2.2) ?_ (fun y hJ => ?_)) | (change @Exists ((AxS × AxS × Boxes × Nat)) (fun _ => updK _ _ _ _ _ _); refine @Exists.intro ((AxS × AxS × Boxes × Nat)) _ (((?_, ?_, ?_, ?_), (?_, ?_, ?_, ?_), ?_, ?_)) ?_; rotate_left 10)
  all_goals first
| (dsimp only; first | rfl | omega)
| rfl
| omega
| exact SwB.nil
| exact Nat.le_refl _
| exact hJ.1
| exact hJ.2
| exact hr2
| exact hr3
| exact hI.2.2.2
| exact hI.2.2.1.put hs hy1
| exact hI.2.2.1.cut (l.getD x.1.toNat (0, (0, 0), 0, 0, 0, 0)).2.1
| exact hI.2.2.1.cutN (l.getD x.1.toNat (0, (0, 0), 0, 0, 0, 0)).2.1 hd
| exact hI.2.2.1.mono
| exact hasN_dec hU.2.2 hU.1 ‹u.1 < _› Iff.rfl
| (have q := hJ.1.mlen (by omega); omega)
| (have q := hJ.1.plen (by omega); omega)

theorem op_dec (cs : List Value) (h : OkCs [some .i64, some .i64, some .i64, some .i64, some .i64, some .i64, some .i64] cs) : ∃ x, cs = (Zz.encP Zz.encI (Zz.encP (Zz.encP Zz.encI Zz.encI) (Zz.encP Zz.encI (Zz.encP Zz.encI (Zz.encP Zz.encI Zz.encI))))).val x ∧ True := by
  obtain ⟨_, _, rfl, ⟨x1, rfl, _⟩, h1⟩ := h.cons
  obtain ⟨_, _, rfl, ⟨x2, rfl, _⟩, h2⟩ := h1.cons
  obtain ⟨_, _, rfl, ⟨x3, rfl, _⟩, h3⟩ := h2.cons
  obtain ⟨_, _, rfl, ⟨x4, rfl, _⟩, h4⟩ := h3.cons
  obtain ⟨_, _, rfl, ⟨x5, rfl, _⟩, h5⟩ := h4.cons
  obtain ⟨_, _, rfl, ⟨x6, rfl, _⟩, h6⟩ := h5.cons
  obtain ⟨_, _, rfl, ⟨x7, rfl, _⟩, h7⟩ := h6.cons
  obtain rfl := h7.nil
  exact ⟨(x1, (x2, x3), x4, x5, x6, x7), rfl, trivial⟩
theorem axisSweeps_any (E : Nat → Addr) (av : Option Addr) (l : List (Int × (Int × Int) × Int × Int × Int × Int)) (c : Nat) (W : World) (hG : Errs [1, 2, 3, 4, 5, 6, 0, 7, 8, 9] W 227 E) (hav : Arr W 7 av l.length c (flat (Zz.encP Zz.encI (Zz.encP (Zz.encP Zz.encI Zz.encI) (Zz.encP Zz.encI (Zz.encP Zz.encI (Zz.encP Zz.encI Zz.encI))))).val l)) :
    Calls Tryd.prog 7 #[.slice av l.length c] W (Ret fun v w' => v = .bool true ∧ Keep Nn W w') :=
  (sweeps_z E l l.length c rfl).law (fun _ => av) (errsSub hG (fun g hg => (show ∀ g ∈ E10, ([1, 2, 3, 4, 5, 6, 0, 7, 8, 9] : List Nat).contains g = true by decide) g (List.contains_iff_mem.1 hg))) rfl (fun c α e l' k' hm => by cases List.mem_singleton.1 hm; exact ⟨hav, by decide⟩) (fun _ => rfl) (by simp [SV.denL, SV.den, Sp0])
end Go.Proofs.YtpojafdllcioiaaDoor
