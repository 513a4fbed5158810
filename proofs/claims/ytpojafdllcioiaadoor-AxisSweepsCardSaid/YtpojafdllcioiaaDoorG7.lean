/- A part of the proof: texts put together. -/
import Derived.Test.YtpojafdllcioiaaDoorG6
import Derived.Test.YtpojafdllcioiaaDoorG5
import Derived.Test.YtpojafdllcioiaaDoorSh
import Derived.Test.YtpojafdllcioiaaDoorG2
import Derived.Test.YtpojafdllcioiaaDoorRows
import Derived.Test.YtpojafdllcioiaaDoorG1
import Derived.Test.YtpojafdllcioiaaDoorG4
set_option linter.unusedSectionVars false
set_option linter.unusedSimpArgs false
set_option linter.unusedVariables false
namespace Go.Proofs.YtpojafdllcioiaaDoor
open Go.Zz Go.Px
set_option linter.unusedVariables false
set_option linter.unusedSectionVars false
set_option linter.unusedSimpArgs false
set_option maxRecDepth 10000
theorem keyP : KeyT Tryd.prog 41 (Enc.ag (Zz.encP (Zz.encP Zz.encI Zz.encI) (Zz.encP Zz.encI Zz.encI))).val := KeyT.wide (by rw [Tryd.underlying41]) (fun w x y => by
    have h := eqVal_sound (P := Tryd.prog) (w := w) Op.maxDepth 41 _ _ _ (eqv41 x.1.1 x.1.2 x.2.1 x.2.2 y.1.1 y.1.2 y.2.1 y.2.2)
    have e : leavesB [.int .i64 x.1.1, .int .i64 x.1.2, .int .i64 x.2.1, .int .i64 x.2.2] [.int .i64 y.1.1, .int .i64 y.1.2, .int .i64 y.2.1, .int .i64 y.2.2] = decide (x = y) := by
      obtain ⟨⟨a1, a2⟩, a3, a4⟩ := x; obtain ⟨⟨b1, b2⟩, b3, b4⟩ := y
      rw [Bool.eq_iff_iff]
      simp [leavesB, leafB]; exact ⟨fun h => ⟨⟨h.1, h.2.1⟩, h.2.2⟩, fun h => ⟨h.1.1, h.1.2, h.2⟩⟩
    rw [e] at h
    exact h) (fun w em x => by kernel_rfl) (fun w x => by simp [Instr.keyThatStays, Instr.sameBits, Enc.ag, Zz.encP, Zz.encI])
theorem pairEq {a b : (Int × Int) × (Int × Int)} : (a.1.1 = b.1.1 ∧ a.1.2 = b.1.2 ∧ a.2.1 = b.2.1 ∧ a.2.2 = b.2.2) ↔ a = b := by
  obtain ⟨⟨a1, a2⟩, a3, a4⟩ := a; obtain ⟨⟨b1, b2⟩, b3, b4⟩ := b; simp [and_assoc]
set_option maxHeartbeats 4000000 in
theorem cloneP_z (E : Nat → Addr) (l : List ((Int × Int) × (Int × Int))) (n k : Nat) (h : n = l.length ∧ l.length ≤ 1099511627776) : Does (Gm E) 115 ⟨[.sl 0 n k], [(0, .arr ((Int × Int) × (Int × Int)) (Zz.encP (Zz.encP Zz.encI Zz.encI) (Zz.encP Zz.encI Zz.encI)) 41 l k)], 1, 2, Nat, fun k' => l.length ≤ k', fun k' => .sl 1 l.length k', fun k' => [(0, .arr ((Int × Int) × (Int × Int)) (Zz.encP (Zz.encP Zz.encI Zz.encI) (Zz.encP Zz.encI Zz.encI)) 41 l k), (1, .arr ((Int × Int) × (Int × Int)) (Zz.encP (Zz.encP Zz.encI Zz.encI) (Zz.encP Zz.encI Zz.encI)) 41 l k')]⟩ := by
  obtain ⟨rfl, h⟩ := h
  refine fn_intro (gmOk E) 8 1 [] Tryd.func115 rfl rfl rfl rfl rfl ?_
  repeat' first | (intro h; first | (exfalso; omega; done) | skip) | (refine And.intro ?_ ?_) | exact True.intro | (refine @Exists.intro Unit _ () ?_) | (refine @Exists.intro (_ = _) _ rfl ?_) | (refine @Exists.intro (Nat) _ ?_ ?_; rotate_left)
  all_goals first | rfl | omega | (simp_all; done) | (dsimp only; omega) | (change _ ≤ _; first | omega | (simp_all; done))

set_option maxHeartbeats 4000000 in
theorem compactP_z (E : Nat → Addr) (l : List ((Int × Int) × (Int × Int))) (n k : Nat) (h : n = l.length ∧ l.length ≤ 1099511627776 ∧ l.length ≤ k) : Does (Gm E) 117 ⟨[.sl 0 n k], [(0, .arr ((Int × Int) × (Int × Int)) (Zz.encP (Zz.encP Zz.encI Zz.encI) (Zz.encP Zz.encI Zz.encI)) 41 l k)], 1, 1, Unit, fun _ => True, fun _ => .sl 0 (comp l).length k, fun _ => [(0, .arr ((Int × Int) × (Int × Int)) (Zz.encP (Zz.encP Zz.encI Zz.encI) (Zz.encP Zz.encI Zz.encI)) 41 (comp l ++ List.replicate (l.length - (comp l).length) ((0, 0), (0, 0))) k)]⟩ := by
  obtain ⟨rfl, h⟩ := h
  refine fn_intro (gmOk E) 61 1 [] Tryd.func117 rfl rfl rfl rfl rfl ?_
  repeat' first | (intro h; first | (exfalso; omega; done) | skip) | (refine And.intro ?_ ?_) | exact True.intro | (refine @Exists.intro Unit _ () ?_) | (refine @Exists.intro (_ = _) _ rfl ?_) | (change OpGoal _ _ _ _ (.call { callee := .builtin .clear, args := _, argTypes := _ }) _; refine clear_rule (gmOk E) 0 _ _ _ _ _ _ rfl rfl rfl rfl rfl rfl rfl ?_ ?_) | (change LoopGoal _ _ _ _ _ _; refine loop_at 4 (gmOk E) rfl [] (X := Nat) (fun i => [(3, .int .i64 (i : Int))]) (fun i => []) [] (fun i => 1 ≤ i ∧ i ≤ l.length ∧ comp (l.take i) = l.take i) (fun i => l.length - i) ⟨1, ?_⟩ (fun i hI => ?_)) | (change @Exists (Nat) (fun _ => updK _ _ _ _ _ _); refine @Exists.intro (Nat) _ (i + 1) ?_) | (change LoopGoal _ _ _ _ _ _; refine loop_at 9 (gmOk E) rfl [] (X := (Int × Int × List ((Int × Int) × (Int × Int)))) (fun x => [(3, .int .i64 x.1), (5, .int .i64 x.2.1)]) (fun x => [(0, .arr ((Int × Int) × (Int × Int)) (Zz.encP (Zz.encP Zz.encI Zz.encI) (Zz.encP Zz.encI Zz.encI)) 41 x.2.2 k)]) [] (fun x => 1 ≤ x.1 ∧ 1 ≤ x.2.1 ∧ Cmp l x.2.2 x.1.toNat (i + x.2.1.toNat)) (fun x => (l.length - x.2.1).toNat) ⟨((i : Int), 1, l), ?_⟩ (fun x hI => ?_)) | (change @Exists ((Int × Int × List ((Int × Int) × (Int × Int)))) (fun _ => updK _ _ _ _ _ _); refine @Exists.intro ((Int × Int × List ((Int × Int) × (Int × Int)))) _ ((?_, ?_, ?_)) ?_; rotate_left 3) | (change DrawGoal _ _ _ _ _ _; first | (change DrawGoal _ _ _ [_, _, _, _, _, _, _, _, _, _] _ _; refine draw_tree (gmOk E) [0] (.leaf [(0, true), (1, true), (2, true), (3, true), (4, true), (5, true), (6, true), (7, true), (8, true), (9, true)]) (by kernel_rfl) ?_) | (change DrawGoal _ _ _ [_, _, _, _, _, _, _, _, _, _] _ _; refine draw_tree (gmOk E) [0] (.leaf [(0, true), (1, true), (2, true), (3, true), (4, true), (5, true), (6, true), (7, true), (8, true), (9, true)]) (by kernel_rfl) ?_))
  all_goals first
    | (dsimp only; first | rfl | omega)
    | rfl
    | omega
    | (have c := hI.2.2; have c1 := c.len; have c2 := c.le; have c3 := c.jl; (try dsimp only); omega)
    | (rw [comp_one l (by omega)]; done)
    | (rw [comp_one l (by omega)]; simp; done)
    | exact comp_one _ (by rw [List.length_take]; omega)
    | exact Cmp.startI (d := ((0, 0), (0, 0))) hI (by omega) (pairEq.1 h)
    | exact Cmp.keepI (d := ((0, 0), (0, 0))) hI ‹x.2.1 < _› (fun e => h (pairEq.2 e))
    | exact Cmp.skipI (d := ((0, 0), (0, 0))) hI ‹x.2.1 < _› (pairEq.1 (Classical.not_not.1 h))
    | exact Cmp.skipI (d := ((0, 0), (0, 0))) hI ‹x.2.1 < _› (pairEq.1 h)
    | exact comp_goI (d := ((0, 0), (0, 0))) hI ‹_› (fun e => h (pairEq.2 e))
    | (have c := hI.2.2; exact c.lenEq (by omega))
    | (have c := hI.2.2; have c1 := c.len; rw [← c.lenEq (by omega), c1]; have c2 := c.done (by omega) []; simp only [List.append_nil, List.take_take, Nat.min_self] at c2; rw [c2])
    | (rw [comp_all hI ‹_›]; done)
    | (rw [comp_all hI ‹_›]; simp; done)

theorem compactP_s (E : Nat → Addr) (l : List ((Int × Int) × (Int × Int))) (n k : Nat) (h : n = l.length ∧ l.length ≤ 1099511627776 ∧ l.length ≤ k) : Does (Gm E) 117 ⟨[.sl 0 n k], [(0, .arr ((Int × Int) × (Int × Int)) (Zz.encP (Zz.encP Zz.encI Zz.encI) (Zz.encP Zz.encI Zz.encI)) 41 l k)], 1, 1, Unit, fun _ => True, fun _ => .sl 0 (comp l).length k, fun _ => [(0, .arr ((Int × Int) × (Int × Int)) (Zz.encP (Zz.encP Zz.encI Zz.encI) (Zz.encP Zz.encI Zz.encI)) 41 (comp l) k)]⟩ :=
  Does.post_mono _ (compactP_z E l n k h) fun x En V w _ h => h.shrink (c := 0) rfl
theorem sortP_z (E : Nat → Addr) (l : List ((Int × Int) × (Int × Int))) (n k : Nat) (h : n = l.length ∧ l.length ≤ 1099511627776) : Does (Gm E) 116 ⟨[.sl 0 n k, .fn 107 []], [(0, .arr ((Int × Int) × (Int × Int)) (Zz.encP (Zz.encP Zz.encI Zz.encI) (Zz.encP Zz.encI Zz.encI)) 41 l k)], 1, 1, List ((Int × Int) × (Int × Int)), fun l' => l'.Perm l ∧ l'.Pairwise fun x y => ltP y x = false, fun _ => .tup [], fun l' => [(0, .arr ((Int × Int) × (Int × Int)) (Zz.encP (Zz.encP Zz.encI Zz.encI) (Zz.encP Zz.encI Zz.encI)) 41 l' k)]⟩ := by
  obtain ⟨rfl, h⟩ := h
  exact sort_does (Γ := Gm E) (en := Zz.encP (Zz.encP Zz.encI Zz.encI) (Zz.encP Zz.encI Zz.encI)) (lt := ltP) (cf := cmpP) (g := 107) (f := 116) Tryd.sortP (fun w => ((gmOk E).tb 41 _ rfl).isAgg w) (fun w => ((gmOk E).tb 41 _ rfl).size w) ordP cmpP_neg (fun x y => cmpP_e E x y) rfl ⟨_, Tryd.func116, rfl, rfl⟩ l k 41 (by omega)
set_option maxHeartbeats 4000000 in
theorem sortedP_z (E : Nat → Addr) (l : List ((Int × Int) × (Int × Int))) (n k : Nat) (h : n = l.length ∧ l.length ≤ 1099511627776) : Does (Gm E) 106 ⟨[.sl 0 n k, .fn 107 []], [(0, .arr ((Int × Int) × (Int × Int)) (Zz.encP (Zz.encP Zz.encI Zz.encI) (Zz.encP Zz.encI Zz.encI)) 41 l k)], 1, 2, Nat, fun q => (ordS ltP l).length ≤ q, fun q => .sl 1 (ordS ltP l).length q, fun q => [(0, .arr ((Int × Int) × (Int × Int)) (Zz.encP (Zz.encP Zz.encI Zz.encI) (Zz.encP Zz.encI Zz.encI)) 41 l k), (1, .arr ((Int × Int) × (Int × Int)) (Zz.encP (Zz.encP Zz.encI Zz.encI) (Zz.encP Zz.encI Zz.encI)) 41 (ordS ltP l) q)]⟩ := by
  obtain ⟨rfl, h⟩ := h
  refine fn_intro (gmOk E) 13 1 [] Tryd.func106 rfl rfl rfl rfl rfl ?_
  repeat' first | (intro h; first | (exfalso; omega; done) | skip) | (refine And.intro ?_ ?_) | exact True.intro | (refine @Exists.intro Unit _ () ?_) | (refine @Exists.intro (_ = _) _ rfl ?_) | (refine @Exists.intro (Nat) _ ?_ ?_; rotate_left) | (change CallGoal _ _ _ _ _ _; first | (refine call_rule (cloneP_z E l _ _ ?_) [0] rfl (And.intro rfl True.intro) rfl (fun (q : Nat) (hq : l.length ≤ q) => ?_)) | (refine call_rule (sortP_z E _ _ _ ?_) [1] rfl (And.intro rfl True.intro) rfl (fun (l' : List ((Int × Int) × (Int × Int))) (hl : l'.Perm l ∧ l'.Pairwise fun x y => ltP y x = false) => ?_)) | (refine call_rule (compactP_s E _ _ _ ?_) [1] rfl (And.intro rfl True.intro) rfl (fun x hx => ?_)))
  all_goals first | rfl | omega | (have e := hl.1.length_eq; omega) | (change (ordS ltP l).length ≤ _; have e := ordS_len (lt := ltP) l; omega) | (rw [comp_ordS ordP hl.1 hl.2])

end Go.Proofs.YtpojafdllcioiaaDoor

namespace Go.Proofs.YtpojafdllcioiaaDoor
open Go.Zz Go.Px
set_option linter.unusedVariables false
set_option linter.unusedSectionVars false
set_option linter.unusedSimpArgs false
set_option maxRecDepth 10000
/-- Pairs of two, the lesser one first. -/
def normP (l : List ((Int × Int) × (Int × Int))) : List ((Int × Int) × (Int × Int)) := (l.filter fun p => !decide (p.1 = p.2)).map fun p => ordPair p.1 p.2
theorem normP_len (l : List ((Int × Int) × (Int × Int))) : (normP l).length ≤ l.length := by unfold normP; rw [List.length_map]; exact List.length_filter_le _ _
theorem normP_perm {l m : List ((Int × Int) × (Int × Int))} (h : l.Perm m) : ordS ltP (normP l) = ordS ltP (normP m) := ordS_ext ordP fun y => by unfold normP; exact ((h.filter _).map _).mem_iff
theorem normP_in {l : List ((Int × Int) × (Int × Int))} {i : Int} {d : ((Int × Int) × (Int × Int))} (h0 : 0 ≤ i) (h : i < (l.length : Nat)) (he : (!decide ((l.getD i.toNat d).1 = (l.getD i.toNat d).2)) = true) : normP (l.take (i + 1).toNat) = normP (l.take i.toNat) ++ [ordPair (l.getD i.toNat d).1 (l.getD i.toNat d).2] := by
  rw [show (i + 1).toNat = i.toNat + 1 by omega, take_snoc (d := d) (by omega)]
  unfold normP
  rw [List.filter_append, List.filter_cons, he]
  simp
theorem normP_out {l : List ((Int × Int) × (Int × Int))} {i : Int} {d : ((Int × Int) × (Int × Int))} (h0 : 0 ≤ i) (h : i < (l.length : Nat)) (he : (!decide ((l.getD i.toNat d).1 = (l.getD i.toNat d).2)) = false) : normP (l.take (i + 1).toNat) = normP (l.take i.toNat) := by
  rw [show (i + 1).toNat = i.toNat + 1 by omega, take_snoc (d := d) (by omega)]
  unfold normP
  rw [List.filter_append, List.filter_cons, he]
  simp
theorem normP_all {l : List ((Int × Int) × (Int × Int))} {i : Int} (h : i ≤ (l.length : Nat)) (hn : ¬ i < (l.length : Nat)) : normP (l.take i.toNat) = normP l := by
  rw [List.take_of_length_le (by omega)]
set_option maxHeartbeats 4000000 in
theorem ordpairs_z (E : Nat → Addr) (l : List ((Int × Int) × (Int × Int))) (n k : Nat) (h : n = l.length ∧ l.length ≤ 1099511627776) : Does (Gm E) 80 ⟨[.sl 0 n k], [(0, .ro ((Int × Int) × (Int × Int)) (Zz.encP (Zz.encP Zz.encI Zz.encI) (Zz.encP Zz.encI Zz.encI)) l k)], 1, 2, Nat, fun q => (ordS ltP (normP l)).length ≤ q, fun q => .sl 1 (ordS ltP (normP l)).length q, fun q => [(0, .ro ((Int × Int) × (Int × Int)) (Zz.encP (Zz.encP Zz.encI Zz.encI) (Zz.encP Zz.encI Zz.encI)) l k), (1, .arr ((Int × Int) × (Int × Int)) (Zz.encP (Zz.encP Zz.encI Zz.encI) (Zz.encP Zz.encI Zz.encI)) 41 (ordS ltP (normP l)) q)]⟩ := by
  obtain ⟨rfl, h⟩ := h
  refine fn_intro (gmOk E) 30 1 [] Tryd.func80 rfl rfl rfl rfl rfl ?_
  repeat' first | (intro h; first | (exfalso; omega; done) | skip) | (refine And.intro ?_ ?_) | exact True.intro | (refine @Exists.intro Unit _ () ?_) | (refine @Exists.intro (_ = _) _ rfl ?_) | (change LoopGoal _ _ _ _ _ _; refine loop_at 3 (gmOk E) rfl [] (X := (Int × Nat)) (fun x => [(10, .int .i64 x.1), (3, .sl 1 (normP (l.take x.1.toNat)).length x.2)]) (fun x => [(1, .arr ((Int × Int) × (Int × Int)) (Zz.encP (Zz.encP Zz.encI Zz.encI) (Zz.encP Zz.encI Zz.encI)) 41 (normP (l.take x.1.toNat)) x.2)]) [] (fun x => 0 ≤ x.1 ∧ x.1 ≤ (l.length : Nat) ∧ (normP (l.take x.1.toNat)).length ≤ x.2) (fun x => l.length - x.1.toNat) ⟨(0, 0), ?_⟩ (fun x hI => ?_)) | (change @Exists ((Int × Nat)) (fun _ => updK _ _ _ _ _ _); refine @Exists.intro ((Int × Nat)) _ ((?_, ?_)) ?_; rotate_left 2) | (refine @Exists.intro (Nat) _ ?_ ?_; rotate_left) | (change CallGoal _ _ _ _ _ _; first | (refine call_rule (sortedP_z E _ _ _ ?_) [1] rfl (And.intro rfl True.intro) rfl (fun (q : Nat) hq => ?_))) | (change CallGoal _ _ _ _ _ _; first | (refine call0 (pair_z E _ _) [] rfl True.intro rfl ?_))
  all_goals first
    | (dsimp only; first | rfl | omega)
    | rfl
    | omega
    | exact Nat.le_refl _
    | (have c := normP_len (l.take x.1.toNat); rw [List.length_take] at c; dsimp only; omega)
    | (have c := normP_len (l.take x.1.toNat); rw [List.length_take] at c; omega)
    | (dsimp only; rw [(normP_in (l := l) (i := x.1) (by omega) (by omega) ‹(!decide _) = true›)]; simp; done)
    | (dsimp only; rw [(normP_out (l := l) (i := x.1) (by omega) (by omega) ‹(!decide _) = false›)]; done)
    | (dsimp only; rw [(normP_out (l := l) (i := x.1) (by omega) (by omega) ‹(!decide _) = false›)]; omega)
    | (dsimp only; rw [(normP_in (l := l) (i := x.1) (by omega) (by omega) ‹(!decide _) = true›)]; simp; omega)
    | (refine congrArg (fun q => Ch.arr _ _ _ q _) ?_; dsimp only; rw [(normP_in (l := l) (i := x.1) (by omega) (by omega) ‹(!decide _) = true›), List.take_length]; rfl)
    | (refine congrArg (fun q => Ch.arr _ _ _ q _) ?_; dsimp only; rw [(normP_out (l := l) (i := x.1) (by omega) (by omega) ‹(!decide _) = false›)])
    | (simp [normP]; done)
    | (rw [normP_all hI.2.1 ‹_›]; done)
    | (change (ordS ltP (normP l)).length ≤ _; rw [← normP_all (l := l) hI.2.1 ‹_›]; exact hq)

theorem mapP : MapTy Tryd.prog 91 41 4 (Enc.ag (Zz.encP (Zz.encP Zz.encI Zz.encI) (Zz.encP Zz.encI Zz.encI))) veB false := ⟨Tryd.underlying91, keyP, by kernel_rfl⟩
set_option maxHeartbeats 4000000 in
theorem keysIt_vc (E : Nat → Addr) (L : List (((Int × Int) × (Int × Int)) × Bool)) : KeysVc (Ge E) 41 94 4 "iter.go:27" "iter.go:28" (Enc.ag (Zz.encP (Zz.encP Zz.encI Zz.encI) (Zz.encP Zz.encI Zz.encI))) veB L := by
  intro y ga left cur
  repeat' first | (intro h; first | (exfalso; omega; done) | skip) | (refine And.intro ?_ ?_) | exact True.intro | (change OpGoal _ _ _ _ (.next _ _) _; refine next_rule L 1 0 rfl rfl rfl rfl ?_ ?_) | (change OpGoal _ _ _ _ (.entry _) _; refine entry_rule 1 rfl rfl ?_) | (exact ⟨_, _, _, ‹List.Perm _ _›, rfl, rfl, rfl, rfl, rfl, ‹_ ∈ L›⟩) | fail
  all_goals first | rfl | assumption
theorem keysP_gives (E : Nat → Addr) (L : List (((Int × Int) × (Int × Int)) × Bool)) (A : Addr) (gb : Nat) (W0 : World) (hA : W0.cell? A = some (.map (some gb))) (hm : MapAt W0 gb (Enc.ag (Zz.encP (Zz.encP Zz.encI Zz.encI) (Zz.encP Zz.encI Zz.encI))).val veB.val L) : GivesKeys Tryd.prog 105 A gb (Enc.ag (Zz.encP (Zz.encP Zz.encI Zz.encI) (Zz.encP Zz.encI Zz.encI))).val veB.val L W0 :=
  keys_gives (geOk E) rfl 91 41 94 4 "iter.go:27" "iter.go:28" Tryd.func105 rfl rfl rfl mapP rfl rfl (keysIt_vc E L) A gb W0 hA hm
set_option maxHeartbeats 4000000 in
theorem keys_z (E : Nat → Addr) (L : List (((Int × Int) × (Int × Int)) × Bool)) : Does (Gm E) 79 ⟨[.mp 0], [(0, .pr (mapPr (Enc.ag (Zz.encP (Zz.encP Zz.encI Zz.encI) (Zz.encP Zz.encI Zz.encI))) veB L))], 1, 2, Unit, fun _ => True, fun _ => .fn 105 [.ptr 1 0], fun _ => [(0, .pr (mapPr (Enc.ag (Zz.encP (Zz.encP Zz.encI Zz.encI) (Zz.encP Zz.encI Zz.encI))) veB L)), (1, .cells 91 [.mp 0])]⟩ := by
  refine fn_intro (gmOk E) 4 1 [] Tryd.func79 rfl rfl rfl rfl rfl ?_
  repeat' first | (intro h; first | (exfalso; omega; done) | skip) | (refine And.intro ?_ ?_) | exact True.intro | (refine @Exists.intro Unit _ () ?_) | (refine @Exists.intro (_ = _) _ rfl ?_)
  all_goals first | rfl | omega

set_option maxHeartbeats 4000000 in
theorem list_z (E : Nat → Addr) (L : List (((Int × Int) × (Int × Int)) × Bool)) (h : L.length ≤ 1000000000) : Does (Gm E) 47 ⟨[.mp 0], [(0, .pr (mapPr (Enc.ag (Zz.encP (Zz.encP Zz.encI Zz.encI) (Zz.encP Zz.encI Zz.encI))) veB L))], 1, 2, Nat, fun q => (ordS ltP (normP (L.map (·.1)))).length ≤ q, fun q => .sl 1 (ordS ltP (normP (L.map (·.1)))).length q, fun q => [(0, .pr (mapPr (Enc.ag (Zz.encP (Zz.encP Zz.encI Zz.encI) (Zz.encP Zz.encI Zz.encI))) veB L)), (1, .arr ((Int × Int) × (Int × Int)) (Zz.encP (Zz.encP Zz.encI Zz.encI) (Zz.encP Zz.encI Zz.encI)) 41 (ordS ltP (normP (L.map (·.1)))) q)]⟩ := by
  refine fn_range2 (gmOk E) 14 1 [] Tryd.func47 rfl rfl rfl rfl rfl ?_
  repeat' first | (intro h; first | (exfalso; omega; done) | skip) | (refine And.intro ?_ ?_) | exact True.intro | (refine @Exists.intro Unit _ () ?_) | (refine @Exists.intro (_ = _) _ rfl ?_) | (change RangeAt _ _ _ _ _ _ _ _ _; refine rangeAt_rule (gmOk E) rfl 105 2 0 91 (Enc.ag (Zz.encP (Zz.encP Zz.encI Zz.encI) (Zz.encP Zz.encI Zz.encI))) veB L rfl rfl rfl rfl rfl ⟨_, Tryd.func105, rfl, rfl⟩ (keysP_gives E L) rfl (X := List ((Int × Int) × (Int × Int)) × Nat) (fun x => [(1, .cells 34 [.sl 3 x.1.length x.2]), (3, .arr ((Int × Int) × (Int × Int)) (Zz.encP (Zz.encP Zz.encI Zz.encI) (Zz.encP Zz.encI Zz.encI)) 41 x.1 x.2)]) [] (fun x => True) (fun x => x.1) (fun _ => rfl) (fun _ => rfl) (fun ga => ?_) (fun ga x k hI hk hn => ?_) (fun D x hI hp => ?_)) | (change @Exists (List ((Int × Int) × (Int × Int)) × Nat) (fun _ => _ ∧ phK _ _ _ _ _); first | (refine ⟨([], 0), rfl, ?_⟩) | (refine ⟨(x.1 ++ [k], ?_), rfl, ?_⟩; rotate_left)) | (refine @Exists.intro (Nat) _ ?_ ?_; rotate_left) | (change CallGoal _ _ _ _ _ _; first | (refine call_rule (keys_z E L) [0] rfl (And.intro rfl True.intro) rfl (fun x hx => ?_)) | (refine call_rule (ordpairs_z E _ _ _ ?_) [3] rfl (And.intro rfl True.intro) rfl (fun (q : Nat) hq => ?_)))
  all_goals first | (dsimp only; first | rfl | omega) | rfl | omega | exact Nat.le_refl _ | (simp; done) | (have hn : x.1.length < L.length := hn; omega) | (have hn := hp.length_eq; rw [List.length_map] at hn; omega) | (rw [normP_perm hp]; done) | (change (ordS ltP (normP (L.map (·.1)))).length ≤ _; rw [← normP_perm hp]; exact hq) | (refine congrArg (fun q => Ch.arr _ _ _ q _) ?_; exact normP_perm hp) | (refine congrArg (fun q => Ch.arr _ _ _ q _) ?_; dsimp only; rw [List.take_length]; rfl)
end Go.Proofs.YtpojafdllcioiaaDoor

namespace Go.Proofs.YtpojafdllcioiaaDoor
open Go.Zz Go.Px
set_option linter.unusedVariables false
set_option linter.unusedSectionVars false
set_option linter.unusedSimpArgs false
set_option maxRecDepth 10000
/-- The first place where a test holds, or -1. -/
def idxP {α : Type} (p : α → Bool) (l : List α) : Int := match l.findIdx? p with
  | some i => (i : Nat)
  | none => -1
section
variable {α : Type} {p : α → Bool} {l : List α} {d : α}
theorem idxP_le (p : α → Bool) (l : List α) : -1 ≤ idxP p l ∧ idxP p l < (l.length : Nat) ∨ idxP p l = -1 := by
  unfold idxP
  split
  · rename_i i h
    have := (List.findIdx?_eq_some_iff_getElem.1 h).1
    left; constructor <;> omega
  · exact .inr rfl
structure NoneTo {α : Type} (p : α → Bool) (l : List α) (i : Int) : Prop where
  all : ∀ x ∈ l.take i.toNat, p x = false
theorem noneP_start : NoneTo p l 0 := ⟨fun x hx => by simp at hx⟩
theorem noneP_next {i : Int} (hI : 0 ≤ i ∧ i ≤ (l.length : Nat) ∧ NoneTo p l i) (hi : i < (l.length : Nat)) (hp : p (l.getD i.toNat d) = false) : NoneTo p l (i + 1) := by
  refine ⟨?_⟩
  rw [show (i + 1).toNat = i.toNat + 1 by omega, take_snoc (d := d) (by omega)]
  intro x hx
  rcases List.mem_append.1 hx with h | h
  · exact hI.2.2.all x h
  · rw [List.mem_singleton.1 h]; exact hp
theorem idxP_in {i : Int} (hI : 0 ≤ i ∧ i ≤ (l.length : Nat) ∧ NoneTo p l i) (hi : i < (l.length : Nat)) (hp : p (l.getD i.toNat d) = true) : idxP p l = i := by
  have hlt : i.toNat < l.length := by omega
  have e : l.getD i.toNat d = l[i.toNat] := by simp [List.getD_eq_getElem?_getD, hlt]
  rw [e] at hp
  have : l.findIdx? p = some i.toNat := List.findIdx?_eq_some_iff_getElem.2 ⟨hlt, hp, fun j hj => by
    have := hI.2.2.all l[j] (List.mem_take_iff_getElem.2 ⟨j, by omega, rfl⟩)
    simp [this]⟩
  unfold idxP
  rw [this]
  show ((i.toNat : Nat) : Int) = i
  omega
theorem idxP_none {i : Int} (hI : 0 ≤ i ∧ i ≤ (l.length : Nat) ∧ NoneTo p l i) (hi : ¬ i < (l.length : Nat)) : idxP p l = -1 := by
  have h : ∀ x ∈ l.take i.toNat, p x = false := hI.2.2.all
  rw [List.take_of_length_le (by omega)] at h
  unfold idxP
  rw [List.findIdx?_eq_none_iff.2 (by simpa using h)]
theorem dropP_of_idx (h : idxP p l = -1) : dropP p l = l := by
  refine dropP_none fun x hx => ?_
  unfold idxP at h
  split at h
  · omega
  · rename_i hn
    exact (List.findIdx?_eq_none_iff.1 hn) x hx
theorem idxP_at (h : ¬ idxP p l = -1) : 0 ≤ idxP p l ∧ ∃ hlt : (idxP p l).toNat < l.length, p l[(idxP p l).toNat] = true ∧ ∀ x ∈ l.take (idxP p l).toNat, p x = false := by
  unfold idxP at *
  split at h
  · rename_i i hi
    obtain ⟨h1, h2, h3⟩ := List.findIdx?_eq_some_iff_getElem.1 hi
    refine ⟨by simp, ?_⟩
    simp only [Int.toNat_natCast]
    refine ⟨h1, h2, fun x hx => ?_⟩
    obtain ⟨j, hj, rfl⟩ := List.mem_take_iff_getElem.1 hx
    have := h3 j (by omega)
    simpa using this
  · exact absurd rfl h
theorem cutP_start (h : ¬ idxP p l = -1) : Cut p l l (idxP p l).toNat (idxP p l + 1).toNat := by
  obtain ⟨h0, hlt, h1, h2⟩ := idxP_at h
  rw [show (idxP p l + 1).toNat = (idxP p l).toNat + 1 by omega]
  exact Cut.start (d := l[(idxP p l).toNat]) hlt (by simp [List.getD_eq_getElem?_getD, hlt, h1]) h2
theorem cutP_keep {x : Int × Int × List α} (hI : 0 ≤ x.1 ∧ 0 ≤ x.2.1 ∧ Cut p l x.2.2 x.1.toNat x.2.1.toNat) (hj : x.2.1 < (l.length : Nat)) (hp : (!p (x.2.2.getD x.2.1.toNat d)) = true) : Cut p l (x.2.2.set x.1.toNat (x.2.2.getD x.2.1.toNat d)) (x.1 + 1).toNat (x.2.1 + 1).toNat := by
  obtain ⟨h1, h2, c⟩ := hI
  rw [show (x.1 + 1).toNat = x.1.toNat + 1 by omega, show (x.2.1 + 1).toNat = x.2.1.toNat + 1 by omega]
  have := c.len
  exact c.keep (by omega) (by simpa using hp)
theorem cutP_skip {x : Int × Int × List α} (hI : 0 ≤ x.1 ∧ 0 ≤ x.2.1 ∧ Cut p l x.2.2 x.1.toNat x.2.1.toNat) (hj : x.2.1 < (l.length : Nat)) (hp : (!p (x.2.2.getD x.2.1.toNat d)) = false) : Cut p l x.2.2 x.1.toNat (x.2.1 + 1).toNat := by
  obtain ⟨h1, h2, c⟩ := hI
  rw [show (x.2.1 + 1).toNat = x.2.1.toNat + 1 by omega]
  have := c.len
  exact c.skip (by omega) (by simpa using hp)
end
def isE (h : Int × Int) (e : (Int × Bool × Int × Int)) : Bool := decide (e.2.2 = h)
def isP (h : Int × Int) (p : ((Int × Int) × (Int × Int))) : Bool := decide (p.1 = h ∨ p.2 = h)
set_option maxHeartbeats 4000000 in
theorem dropfn1_z (E : Nat → Addr) (e : (Int × Bool × Int × Int)) (h : Int × Int) : Does (Gm E) 54 (Sp0 [.agg [.int .i64 e.1, .bl e.2.1, .int .i64 e.2.2.1, .int .i64 e.2.2.2], .ptr 0 0] [(0, .cells 29 [.int .i64 h.1, .int .i64 h.2])] 1 (.bl (isE h e))) := by
  refine fn_intro (gmOk E) 8 1 [] Tryd.func54 rfl rfl rfl rfl rfl ?_
  repeat' first | (intro h; first | (exfalso; omega; done) | skip) | (refine And.intro ?_ ?_) | exact True.intro | (refine @Exists.intro Unit _ () ?_) | (refine @Exists.intro (_ = _) _ rfl ?_)
  all_goals first | rfl | omega | (simp [isE, Prod.ext_iff]; done)

set_option maxHeartbeats 4000000 in
theorem indexE_z (E : Nat → Addr) (l : List (Int × Bool × Int × Int)) (n k : Nat) (hh : Int × Int) (h : n = l.length ∧ l.length ≤ 1099511627776) : Does (Gm E) 86 (Sp0 [.sl 0 n k, .fn 54 [.ptr 1 0]] [(0, .ro (Int × Bool × Int × Int) (Zz.encP Zz.encI (Zz.encP Zz.encB (Zz.encP Zz.encI Zz.encI))) l k), (1, .cells 29 [.int .i64 hh.1, .int .i64 hh.2])] 2 (.int .i64 (idxP (isE hh) l))) := by
  obtain ⟨rfl, h⟩ := h
  refine fn_intro (gmOk E) 19 2 [] Tryd.func86 rfl rfl rfl rfl rfl ?_
  repeat' first | (intro h; first | (exfalso; omega; done) | skip) | (refine And.intro ?_ ?_) | exact True.intro | (refine @Exists.intro Unit _ () ?_) | (refine @Exists.intro (_ = _) _ rfl ?_) | (change LoopGoal _ _ _ _ _ _; refine loop_at 2 (gmOk E) rfl [] (X := Int) (fun i => [(8, .int .i64 i)]) (fun i => []) [] (fun i => 0 ≤ i ∧ i ≤ (l.length : Nat) ∧ NoneTo (isE hh) l i) (fun i => l.length - i.toNat) ⟨0, ?_⟩ (fun i hI => ?_)) | (change @Exists (Int) (fun _ => updK _ _ _ _ _ _); refine @Exists.intro (Int) _ ((?_)) ?_; rotate_left 1) | (change CallGoal _ _ _ _ _ _; first | (refine call0 (dropfn1_z E (l.getD i.toNat (0, false, 0, 0)) hh) [1] rfl (And.intro rfl True.intro) rfl ?_))
  all_goals first
    | (dsimp only; first | rfl | omega)
    | rfl
    | omega
    | exact noneP_start
    | exact noneP_next hI ‹i < _› ‹_ = false›
    | exact (idxP_in hI ‹i < _› ‹_ = true›).symm
    | exact (idxP_in hI ‹i < _› ‹_ = true›)
    | exact (idxP_none hI ‹¬ i < _›).symm
    | exact (idxP_none hI ‹¬ i < _›)

set_option maxHeartbeats 4000000 in
theorem deleteE_z (E : Nat → Addr) (l : List (Int × Bool × Int × Int)) (n k : Nat) (hh : Int × Int) (h : n = l.length ∧ l.length ≤ 1099511627776 ∧ l.length ≤ k) : Does (Gm E) 53 ⟨[.sl 0 n k, .fn 54 [.ptr 1 0]], [(0, .arr (Int × Bool × Int × Int) (Zz.encP Zz.encI (Zz.encP Zz.encB (Zz.encP Zz.encI Zz.encI))) 64 l k), (1, .cells 29 [.int .i64 hh.1, .int .i64 hh.2])], 2, 2, Unit, fun _ => True, fun _ => .sl 0 (dropP (isE hh) l).length k, fun _ => [(0, .arr (Int × Bool × Int × Int) (Zz.encP Zz.encI (Zz.encP Zz.encB (Zz.encP Zz.encI Zz.encI))) 64 (dropP (isE hh) l ++ List.replicate (l.length - (dropP (isE hh) l).length) (0, false, 0, 0)) k), (1, .cells 29 [.int .i64 hh.1, .int .i64 hh.2])]⟩ := by
  obtain ⟨rfl, h⟩ := h
  refine fn_intro (gmOk E) 42 2 [] Tryd.func53 rfl rfl rfl rfl rfl ?_
  repeat' first | (intro h; first | (exfalso; omega; done) | skip) | (refine And.intro ?_ ?_) | exact True.intro | (refine @Exists.intro Unit _ () ?_) | (refine @Exists.intro (_ = _) _ rfl ?_) | (change OpGoal _ _ _ _ (.call { callee := .builtin .clear, args := _, argTypes := _ }) _; refine clear_rule (gmOk E) 0 _ _ _ _ _ _ rfl rfl rfl rfl rfl rfl rfl ?_ ?_) | (change LoopGoal _ _ _ _ _ _; refine loop_at 5 (gmOk E) rfl [] (X := (Int × Int × List (Int × Bool × Int × Int))) (fun x => [(5, .int .i64 x.1), (6, .int .i64 x.2.1)]) (fun x => [(0, .arr (Int × Bool × Int × Int) (Zz.encP Zz.encI (Zz.encP Zz.encB (Zz.encP Zz.encI Zz.encI))) 64 x.2.2 k)]) [] (fun x => 0 ≤ x.1 ∧ 0 ≤ x.2.1 ∧ Cut (isE hh) l x.2.2 x.1.toNat x.2.1.toNat) (fun x => (l.length - x.2.1).toNat) ⟨(idxP (isE hh) l, idxP (isE hh) l + 1, l), ?_⟩ (fun x hI => ?_)) | (change @Exists ((Int × Int × List (Int × Bool × Int × Int))) (fun _ => updK _ _ _ _ _ _); refine @Exists.intro ((Int × Int × List (Int × Bool × Int × Int))) _ ((?_, ?_, ?_)) ?_; rotate_left 3) | (change CallGoal _ _ _ _ _ _; first | (refine call0 (indexE_z E l _ _ hh ⟨rfl, h.1⟩) [0, 1] rfl (And.intro rfl (And.intro rfl True.intro)) rfl ?_) | (refine call0 (dropfn1_z E (x.2.2.getD x.2.1.toNat (0, false, 0, 0)) hh) [1] rfl (And.intro rfl True.intro) rfl ?_))
  all_goals first
    | (dsimp only; first | rfl | omega)
    | rfl
    | omega
    | (have c0 := idxP_le (isE hh) l; (try dsimp only); omega)
    | (have c := hI.2.2; have c1 := c.len; have c2 := c.le; have c3 := c.jl; (try dsimp only); omega)
    | exact cutP_start ‹¬ _ = _›
    | exact cutP_keep hI ‹x.2.1 < _› ‹_›
    | exact cutP_skip hI ‹x.2.1 < _› ‹_›
    | (have c := hI.2.2; exact c.lenEq (by omega))
    | (have c := hI.2.2; have c1 := c.len; rw [← c.lenEq (by omega), c1]; have c2 := c.done (by omega) []; simp only [List.append_nil, List.take_take, Nat.min_self] at c2; rw [c2])
    | (rw [dropP_of_idx ‹idxP _ l = _›]; done)
    | (rw [dropP_of_idx ‹idxP _ l = _›]; simp; done)

theorem deleteE_s (E : Nat → Addr) (l : List (Int × Bool × Int × Int)) (n k : Nat) (hh : Int × Int) (h : n = l.length ∧ l.length ≤ 1099511627776 ∧ l.length ≤ k) : Does (Gm E) 53 ⟨[.sl 0 n k, .fn 54 [.ptr 1 0]], [(0, .arr (Int × Bool × Int × Int) (Zz.encP Zz.encI (Zz.encP Zz.encB (Zz.encP Zz.encI Zz.encI))) 64 l k), (1, .cells 29 [.int .i64 hh.1, .int .i64 hh.2])], 2, 2, Unit, fun _ => True, fun _ => .sl 0 (dropP (isE hh) l).length k, fun _ => [(0, .arr (Int × Bool × Int × Int) (Zz.encP Zz.encI (Zz.encP Zz.encB (Zz.encP Zz.encI Zz.encI))) 64 (dropP (isE hh) l) k), (1, .cells 29 [.int .i64 hh.1, .int .i64 hh.2])]⟩ :=
  Does.post_mono _ (deleteE_z E l n k hh h) fun x En V w _ h => h.shrink (c := 0) rfl
end Go.Proofs.YtpojafdllcioiaaDoor

namespace Go.Proofs.YtpojafdllcioiaaDoor
open Go.Zz Go.Px
set_option linter.unusedVariables false
set_option linter.unusedSectionVars false
set_option linter.unusedSimpArgs false
set_option maxRecDepth 10000
section
variable {κ ν : Type} [DecidableEq κ] [DecidableEq ν]
/-- A map that is cut down while one goes over it: what it is now, what is left, what has come. -/
structure CutM (p : κ → Bool) (L : List (κ × ν)) (x : List (κ × ν) × List (κ × ν) × Option (κ × ν)) : Prop where
  nd : (L.map (·.1)).Nodup
  eq : x.1 = L.filter fun q => decide (q ∈ x.2.1) || !p q.1
  sub : ∀ q ∈ x.2.1, q ∈ L
  ln : x.2.1.Nodup
variable {p : κ → Bool} {L : List (κ × ν)} {x : List (κ × ν) × List (κ × ν) × Option (κ × ν)}
theorem CutM.start (h : (L.map (·.1)).Nodup) : CutM p L (L, L, none) := by
  refine ⟨h, (List.filter_eq_self.2 fun q hq => by simp [hq]).symm, fun q hq => hq, ?_⟩
  exact (List.pairwise_map.1 h).imp fun {a b} hab e => hab (by rw [e])
theorem CutM.one (h : CutM p L x) {k : κ} {v w : ν} (h1 : (k, v) ∈ L) (h2 : (k, w) ∈ L) : v = w := by
  have hp := List.pairwise_map.1 h.nd
  obtain ⟨i, hi⟩ := List.getElem?_of_mem h1
  obtain ⟨j, hj⟩ := List.getElem?_of_mem h2
  obtain ⟨hil, hi⟩ := List.getElem?_eq_some_iff.1 hi
  obtain ⟨hjl, hj⟩ := List.getElem?_eq_some_iff.1 hj
  rcases Nat.lt_trichotomy i j with hlt | e | hlt
  · exact absurd (by rw [hi, hj]) ((List.pairwise_iff_getElem.1 hp) i j hil hjl hlt)
  · subst e
    rw [hi] at hj
    exact (Prod.mk.inj hj).2
  · exact absurd (by rw [hi, hj]) ((List.pairwise_iff_getElem.1 hp) j i hjl hil hlt)
theorem CutM.keep (h : CutM p L x) {k : κ} {v : ν} {left : List (κ × ν)} {c : Option (κ × ν)} (hp : x.2.1.Perm ((k, v) :: left)) (hk : p k = false) : CutM p L (x.1, left, c) := by
  have hn := hp.nodup_iff.1 h.ln
  refine ⟨h.nd, ?_, fun q hq => h.sub q (hp.mem_iff.2 (List.mem_cons_of_mem _ hq)), (List.nodup_cons.1 hn).2⟩
  show x.1 = _
  rw [h.eq]
  refine List.filter_congr fun q _ => ?_
  have e1 : (q ∈ x.2.1) = (q = (k, v) ∨ q ∈ left) := by rw [hp.mem_iff, List.mem_cons]
  by_cases hq : q = (k, v)
  · simp [e1, hq, hk]
  · simp [e1, hq]
theorem CutM.cut (h : CutM p L x) {k : κ} {v : ν} {left : List (κ × ν)} {c : Option (κ × ν)} (hp : x.2.1.Perm ((k, v) :: left)) (hk : p k = true) : CutM p L (Go.Px.delK x.1 k, left, c) := by
  have hn := hp.nodup_iff.1 h.ln
  have hkL : (k, v) ∈ L := h.sub _ (hp.mem_iff.2 (List.mem_cons_self ..))
  refine ⟨h.nd, ?_, fun q hq => h.sub q (hp.mem_iff.2 (List.mem_cons_of_mem _ hq)), (List.nodup_cons.1 hn).2⟩
  show Go.Px.delK x.1 k = _
  unfold Go.Px.delK
  rw [h.eq, List.filter_filter]
  refine List.filter_congr fun q hqL => ?_
  have e1 : (q ∈ x.2.1) = (q = (k, v) ∨ q ∈ left) := by rw [hp.mem_iff, List.mem_cons]
  by_cases hqk : q.1 = k
  · have : q = (k, v) := by
      obtain ⟨q1, q2⟩ := q
      have hqk : q1 = k := hqk
      subst hqk
      rw [h.one hqL hkL]
    subst this
    have := (List.nodup_cons.1 hn).1
    simp [this, hk]
  · have : q ≠ (k, v) := fun e => hqk (by rw [e])
    simp [e1, this, hqk]
theorem CutM.done (h : CutM p L x) (hl : x.2.1 = []) : x.1 = L.filter fun q => !p q.1 := by
  rw [h.eq, hl]
  exact List.filter_congr fun q _ => by simp
theorem CutM.len (h : CutM p L x) {k : κ} {v : ν} {left : List (κ × ν)} (hp : x.2.1.Perm ((k, v) :: left)) : left.length < x.2.1.length := by
  have := hp.length_eq; simp only [List.length_cons] at this; omega
end
/-- A map of pairs without a handle's. -/
def cutL (h : Int × Int) (L : List (((Int × Int) × (Int × Int)) × Bool)) : List (((Int × Int) × (Int × Int)) × Bool) := L.filter fun q => !isP h q.1
set_option maxHeartbeats 4000000 in
theorem dropfn2_z (E : Nat → Addr) (p : ((Int × Int) × (Int × Int))) (b : Bool) (h : Int × Int) : Does (Gm E) 56 (Sp0 [.agg [.int .i64 p.1.1, .int .i64 p.1.2, .int .i64 p.2.1, .int .i64 p.2.2], .bl b, .ptr 0 0] [(0, .cells 29 [.int .i64 h.1, .int .i64 h.2])] 1 (.bl (isP h p))) := by
  refine fn_intro (gmOk E) 16 1 [] Tryd.func56 rfl rfl rfl rfl rfl ?_
  repeat' first | (intro h; first | (exfalso; omega; done) | skip) | (refine And.intro ?_ ?_) | exact True.intro | (refine @Exists.intro Unit _ () ?_) | (refine @Exists.intro (_ = _) _ rfl ?_)
  all_goals first | rfl | omega | (simp [isP, Prod.ext_iff]; done)

set_option maxHeartbeats 4000000 in
theorem mapcut_z (E : Nat → Addr) (L : List (((Int × Int) × (Int × Int)) × Bool)) (hh : Int × Int) (h : (L.map (·.1)).Nodup) : Does (Gm E) 55 ⟨[.mp 0, .fn 56 [.ptr 1 0]], [(0, .pr (mapPr (Enc.ag (Zz.encP (Zz.encP Zz.encI Zz.encI) (Zz.encP Zz.encI Zz.encI))) veB L)), (1, .cells 29 [.int .i64 hh.1, .int .i64 hh.2])], 2, 2, Unit, fun _ => True, fun _ => .tup [], fun _ => [(0, .pr (mapPr (Enc.ag (Zz.encP (Zz.encP Zz.encI Zz.encI) (Zz.encP Zz.encI Zz.encI))) veB (cutL hh L))), (1, .cells 29 [.int .i64 hh.1, .int .i64 hh.2])]⟩ := by
  refine fn_intro (gmOk E) 19 2 [] Tryd.func55 rfl rfl rfl rfl rfl ?_
  repeat' first | (intro h; first | (exfalso; omega; done) | skip) | (refine And.intro ?_ ?_) | exact True.intro | (refine @Exists.intro Unit _ () ?_) | (refine @Exists.intro (_ = _) _ rfl ?_) | (change OpGoal _ _ _ _ (.range _ _) _; refine range_rule mapP 0 L rfl rfl (fun ga => ?_)) | (change OpGoal _ _ _ _ (.next _ _) _; refine next_rule x.1 2 0 rfl rfl rfl rfl ?_ (fun k v left hp hm => ?_)) | (change OpGoal _ _ _ _ (.entry _) _; refine entry_rule 2 rfl rfl ?_) | (change OpGoal _ _ _ _ (.call { callee := .builtin .delete, args := _, argTypes := _ }) _; refine itercut_rule mapP 2 0 rfl rfl rfl rfl ?_) | (change LoopGoal _ _ _ _ _ _; refine loop_at 1 (gmOk E) rfl [] (X := (List (((Int × Int) × (Int × Int)) × Bool) × List (((Int × Int) × (Int × Int)) × Bool) × Option (((Int × Int) × (Int × Int)) × Bool))) (fun x => []) (fun x => [(2, .pr (iterPr (Enc.ag (Zz.encP (Zz.encP Zz.encI Zz.encI) (Zz.encP Zz.encI Zz.encI))) veB ga x.1 x.2.1 x.2.2))]) [] (fun x => CutM (isP hh) L x) (fun x => x.2.1.length) ⟨(L, L, none), ?_⟩ (fun x hI => ?_)) | (change @Exists ((List (((Int × Int) × (Int × Int)) × Bool) × List (((Int × Int) × (Int × Int)) × Bool) × Option (((Int × Int) × (Int × Int)) × Bool))) (fun _ => updK _ _ _ _ _ _); refine @Exists.intro ((List (((Int × Int) × (Int × Int)) × Bool) × List (((Int × Int) × (Int × Int)) × Bool) × Option (((Int × Int) × (Int × Int)) × Bool))) _ ((?_, ?_, ?_)) ?_; rotate_left 3) | (change CallGoal _ _ _ _ _ _; first | (refine call0 (dropfn2_z E k v hh) [1] rfl (And.intro rfl True.intro) rfl ?_))
  all_goals first
    | (dsimp only; first | rfl | omega)
    | rfl
    | omega
    | exact CutM.start h
    | exact hI.keep hp ‹_ = false›
    | exact hI.cut hp ‹_ = true›
    | exact hI.len hp
    | (rw [hI.done ‹_ = []›]; rfl)

set_option maxHeartbeats 4000000 in
theorem axdrop_z (E : Nat → Addr) (es : List (Int × Bool × Int × Int)) (k : Nat) (L : List (((Int × Int) × (Int × Int)) × Bool)) (hh : Int × Int) (h0 : es.length ≤ 1000000000 ∧ es.length ≤ k ∧ (L.map (·.1)).Nodup) : Does (Gm E) 24 ⟨[.ptr 0 0, .agg [.int .i64 hh.1, .int .i64 hh.2]], [(0, .cells 93 [.mp 1, .sl 2 es.length k]), (1, .pr (mapPr (Enc.ag (Zz.encP (Zz.encP Zz.encI Zz.encI) (Zz.encP Zz.encI Zz.encI))) veB L)), (2, .arr (Int × Bool × Int × Int) (Zz.encP Zz.encI (Zz.encP Zz.encB (Zz.encP Zz.encI Zz.encI))) 64 es k)], 3, 3, Bool, fun b => b = decide ((dropP (isE hh) es).length = es.length), fun b => (match b with | true => .err 3 | false => .nili), fun b => [(0, .cells 93 [.mp 1, .sl 2 (dropP (isE hh) es).length k]), (1, .pr (mapPr (Enc.ag (Zz.encP (Zz.encP Zz.encI Zz.encI) (Zz.encP Zz.encI Zz.encI))) veB (match b with | true => L | false => cutL hh L))), (2, .arr (Int × Bool × Int × Int) (Zz.encP Zz.encI (Zz.encP Zz.encB (Zz.encP Zz.encI Zz.encI))) 64 (dropP (isE hh) es) k)]⟩ := by
  refine fn_intro (gmOk E) 34 3 [] Tryd.func24 rfl rfl rfl rfl rfl ?_
  repeat' first | (intro h; first | (exfalso; omega; done) | skip) | (refine And.intro ?_ ?_) | exact True.intro | (refine @Exists.intro Unit _ () ?_) | (refine @Exists.intro (_ = _) _ rfl ?_) | (refine @Exists.intro Bool _ true ?_; fail_if_success (refine Unfit.mk ?_)) | (refine @Exists.intro Bool _ false ?_) | (change CallGoal _ _ _ _ _ _; first | (refine call_rule (deleteE_s E es _ _ hh ?_) [2, 3] rfl (And.intro rfl (And.intro rfl True.intro)) rfl (fun x hx => ?_)) | (refine call_rule (mapcut_z E L hh h0.2.2) [1, 3] rfl (And.intro rfl (And.intro rfl True.intro)) rfl (fun x hx => ?_)))
  all_goals first | rfl | omega | (change true = decide _; symm; exact decide_eq_true (by omega)) | (change false = decide _; symm; exact decide_eq_false (by omega))

end Go.Proofs.YtpojafdllcioiaaDoor

namespace Go.Proofs.YtpojafdllcioiaaDoor
open Go.Zz Go.Px
set_option linter.unusedVariables false
set_option linter.unusedSectionVars false
set_option linter.unusedSimpArgs false
set_option maxRecDepth 10000
/-- What a change of two neighbours does to the pairs. -/
def swapL (L : List (((Int × Int) × (Int × Int)) × Bool)) (f s : (Int × Bool × Int × Int)) : List (((Int × Int) × (Int × Int)) × Bool) := if f.2.2 = s.2.2 ∨ f.2.1 = s.2.1 then L else if f.2.1 = true then Go.Px.putK L (ordPair f.2.2 s.2.2) true else Go.Px.delK L (ordPair f.2.2 s.2.2)
theorem swapL_same {L : List (((Int × Int) × (Int × Int)) × Bool)} {f s : (Int × Bool × Int × Int)} (h : (!(!decide (f.2.2 = s.2.2))) = true ∨ f.2.1 = s.2.1) : swapL L f s = L := by
  unfold swapL; rw [if_pos (h.imp (fun h => by simpa using h) id)]
theorem swapL_put {L : List (((Int × Int) × (Int × Int)) × Bool)} {f s : (Int × Bool × Int × Int)} (h : ¬ ((!(!decide (f.2.2 = s.2.2))) = true ∨ f.2.1 = s.2.1)) (h1 : f.2.1 = true) : swapL L f s = Go.Px.putK L (ordPair f.2.2 s.2.2) true := by
  unfold swapL; rw [if_neg (fun q => h (q.imp (fun h => by simp [h]) id)), if_pos h1]
theorem swapL_del {L : List (((Int × Int) × (Int × Int)) × Bool)} {f s : (Int × Bool × Int × Int)} (h : ¬ ((!(!decide (f.2.2 = s.2.2))) = true ∨ f.2.1 = s.2.1)) (h1 : f.2.1 = false) : swapL L f s = Go.Px.delK L (ordPair f.2.2 s.2.2) := by
  unfold swapL; rw [if_neg (fun q => h (q.imp (fun h => by simp [h]) id)), if_neg (by rw [h1]; simp)]
set_option maxHeartbeats 4000000 in
theorem swap_z (E : Nat → Addr) (es : List (Int × Bool × Int × Int)) (n k : Nat) (L : List (((Int × Int) × (Int × Int)) × Bool)) (i : Int) (h : n = es.length ∧ 0 ≤ i ∧ i + 1 < (es.length : Nat) ∧ es.length ≤ 1000000000 ∧ es.length ≤ k) : Does (Gm E) 83 ⟨[.ptr 0 0, .int .i64 i], [(0, .cells 93 [.mp 1, .sl 2 n k]), (1, .pr (mapPr (Enc.ag (Zz.encP (Zz.encP Zz.encI Zz.encI) (Zz.encP Zz.encI Zz.encI))) veB L)), (2, .arr (Int × Bool × Int × Int) (Zz.encP Zz.encI (Zz.encP Zz.encB (Zz.encP Zz.encI Zz.encI))) 64 es k)], 3, 3, Unit, fun _ => True, fun _ => .tup [], fun _ => [(0, .cells 93 [.mp 1, .sl 2 n k]), (1, .pr (mapPr (Enc.ag (Zz.encP (Zz.encP Zz.encI Zz.encI) (Zz.encP Zz.encI Zz.encI))) veB (swapL L (es.getD i.toNat (0, false, 0, 0)) (es.getD (i + 1).toNat (0, false, 0, 0))))), (2, .arr (Int × Bool × Int × Int) (Zz.encP Zz.encI (Zz.encP Zz.encB (Zz.encP Zz.encI Zz.encI))) 64 ((es.set i.toNat (es.getD (i + 1).toNat (0, false, 0, 0))).set (i + 1).toNat (es.getD i.toNat (0, false, 0, 0))) k)]⟩ := by
  obtain ⟨rfl, h⟩ := h
  refine fn_intro (gmOk E) 69 3 [] Tryd.func83 rfl rfl rfl rfl rfl ?_
  repeat' first | exact placedPr_ok | (change DrawGoal _ _ _ _ _ _; first | (change DrawGoal _ _ _ [_, _, _, _, _, _, _, _, _, _, _, _, _, _, _, _, _] _ _; refine draw_weak (gmOk E) 2 [0, 3, 4] (.leaf [(0, true), (1, true), (2, true), (3, true), (4, true), (5, true), (6, true), (7, true), (8, true), (9, true), (10, true), (11, true), (12, true), (13, true), (14, false), (15, true), (16, false)]) (by kernel_rfl) rfl ?_ ?_)) | (intro h; first | (exfalso; omega; done) | skip) | (refine And.intro ?_ ?_) | exact True.intro | (refine @Exists.intro Unit _ () ?_) | (refine @Exists.intro (_ = _) _ rfl ?_) | (change OpGoal _ _ _ _ (.mapUpdate _ _ _ _) _; refine mapset_rule mapP 1 L _ true rfl rfl rfl rfl ?_) | (change OpGoal _ _ _ _ (.call { callee := .builtin .delete, args := _, argTypes := _ }) _; refine mapdel_rule mapP 1 L _ rfl rfl rfl ?_) | (change DrawGoal _ _ _ _ _ _; first | (change DrawGoal _ _ _ [_, _, _, _, _, _, _, _, _, _, _, _, _, _, _, _, _, _, _] _ _; refine draw_tree (gmOk E) [0, 2] (.alt [(0, true), (1, true), (2, true), (3, true), (4, true), (5, true), (6, true), (7, true), (8, true), (9, true), (10, true), (11, true), (12, true), (13, true), (14, true)] (.leaf [(15, false), (16, false), (17, false), (18, false)]) (.leaf [(16, false), (15, false), (17, false), (18, false)])) (by kernel_rfl) ?_) | (change DrawGoal _ _ _ [_, _, _, _, _, _] _ _; refine draw_tree (gmOk E) [0, 5] (.leaf [(0, true), (1, true), (2, true), (3, true), (4, true), (5, false)]) (by kernel_rfl) ?_) | (change DrawGoal _ _ _ [_, _, _, _, _, _] _ _; refine draw_tree (gmOk E) [0, 5] (.leaf [(0, true), (1, true), (2, true), (3, true), (4, true), (5, false)]) (by kernel_rfl) ?_)) | (change CallGoal _ _ _ _ _ _; first | (refine call0 (pair_z E _ _) [] rfl True.intro rfl ?_))
  all_goals first
    | (dsimp only; first | rfl | omega)
    | rfl
    | omega
    | (rw [List.length_set]; omega)
    | exact congrArg (fun q => Ch.pr (mapPr (Enc.ag (Zz.encP (Zz.encP Zz.encI Zz.encI) (Zz.encP Zz.encI Zz.encI))) veB q)) (swapL_same ‹_ ∨ _›).symm
    | exact congrArg (fun q => Ch.pr (mapPr (Enc.ag (Zz.encP (Zz.encP Zz.encI Zz.encI) (Zz.encP Zz.encI Zz.encI))) veB q)) (swapL_put ‹¬ (_ ∨ _)› ‹_ = true›).symm
    | exact congrArg (fun q => Ch.pr (mapPr (Enc.ag (Zz.encP (Zz.encP Zz.encI Zz.encI) (Zz.encP Zz.encI Zz.encI))) veB q)) (swapL_del ‹¬ (_ ∨ _)› ‹_ = false›).symm

theorem ltE_iff (e f : (Int × Bool × Int × Int)) : ltE e f = true ↔ Go.P11.ltE e f := by simp [ltE, Go.P11.ltE, ltH]
theorem ltE_no {e f : (Int × Bool × Int × Int)} (h : ltE e f = true) : ltE f e = false := by
  cases hq : ltE f e with
  | false => rfl
  | true => exact (Go.P11.ltE_asymm ((ltE_iff _ _).1 h) ((ltE_iff _ _).1 hq)).elim
/-- A list into which an end goes back: at this place. -/
def esAt (R T : List (Int × Bool × Int × Int)) (x : (Int × Bool × Int × Int)) (j : Nat) : List (Int × Bool × Int × Int) := R.take j ++ x :: (R.drop j ++ T)
def backL (L : List (((Int × Int) × (Int × Int)) × Bool)) (Q : List (Int × Bool × Int × Int)) (x : (Int × Bool × Int × Int)) : List (((Int × Int) × (Int × Int)) × Bool) := Q.foldr (fun y M => swapL M y x) L
structure BackA (R : List (Int × Bool × Int × Int)) (x : (Int × Bool × Int × Int)) (j : Int) : Prop where
  lo : 0 ≤ j
  hi : j ≤ (R.length : Nat)
  all : ∀ y ∈ R.drop j.toNat, ltE x y = true
structure BackTo (R : List (Int × Bool × Int × Int)) (x : (Int × Bool × Int × Int)) (j : Nat) : Prop where
  hi : j ≤ R.length
  all : ∀ y ∈ R.drop j, ltE x y = true
  stop : 0 < j → ltE x (R.getD (j - 1) (0, false, 0, 0)) = false
section
variable {R T : List (Int × Bool × Int × Int)} {x : (Int × Bool × Int × Int)} {d : (Int × Bool × Int × Int)}
theorem esAt_len (j : Nat) : (esAt R T x j).length = R.length + 1 + T.length := by
  unfold esAt; simp only [List.length_append, List.length_take, List.length_cons, List.length_drop]; omega
theorem esAt_x {j : Nat} (h : j ≤ R.length) : (esAt R T x j).getD j d = x := by
  unfold esAt
  rw [List.getD_eq_getElem?_getD, List.getElem?_append_right (by simp; omega)]
  simp [Nat.min_eq_left h]
theorem esAt_pre {j i : Nat} (h : j ≤ R.length) (hi : i < j) : (esAt R T x j).getD i d = R.getD i d := by
  unfold esAt
  rw [List.getD_eq_getElem?_getD, List.getElem?_append_left (by simp; omega), List.getElem?_take_of_lt hi, List.getD_eq_getElem?_getD]
theorem esAt_next {j : Nat} (h : j < R.length) : (esAt R T x j).getD (j + 1) d = R.getD j d := by
  unfold esAt
  rw [List.getD_eq_getElem?_getD, List.getElem?_append_right (by simp; omega)]
  have e : j + 1 - (R.take j).length = 0 + 1 := by simp; omega
  rw [e, List.getElem?_cons_succ, List.getElem?_append_left (by simp; omega), List.getElem?_drop, List.getD_eq_getElem?_getD]
  simp
theorem esAt_end : (esAt R T x R.length).getD (R.length + 1) d = T.getD 0 d := by
  unfold esAt
  rw [List.getD_eq_getElem?_getD, List.getElem?_append_right (by simp)]
  simp [List.getD_eq_getElem?_getD]
theorem esAt_swap {j : Nat} (h0 : 0 < j) (h : j ≤ R.length) : ((esAt R T x j).set (j - 1) ((esAt R T x j).getD j d)).set j ((esAt R T x j).getD (j - 1) d) = esAt R T x (j - 1) := by
  rw [esAt_x h, esAt_pre h (by omega)]
  obtain ⟨i, rfl⟩ : ∃ i, j = i + 1 := ⟨j - 1, by omega⟩
  simp only [Nat.add_sub_cancel]
  have hi : i < R.length := by omega
  have e1 : R.take (i + 1) = R.take i ++ [R.getD i d] := take_snoc hi
  have e2 : R.drop i = R.getD i d :: R.drop (i + 1) := drop_cons hi
  have hl : (R.take i).length = i := by simp; omega
  unfold esAt
  rw [e1, e2]
  simp only [List.append_assoc, List.cons_append, List.nil_append]
  have p1 : ∀ (q : (Int × Bool × Int × Int)) (rest : List (Int × Bool × Int × Int)), (R.take i ++ R.getD i d :: rest).set i q = R.take i ++ q :: rest := fun q rest => by
    rw [List.set_append_right _ _ (by omega), hl, Nat.sub_self]; rfl
  rw [p1, List.set_append_right _ _ (by omega), hl, show i + 1 - i = 0 + 1 by omega]
  rfl
theorem backL_step {L : List (((Int × Int) × (Int × Int)) × Bool)} {j : Nat} (h0 : 0 < j) (h : j ≤ R.length) : swapL (backL L (R.drop j) x) (R.getD (j - 1) d) x = backL L (R.drop (j - 1)) x := by
  rw [drop_cons (d := d) (show j - 1 < R.length by omega), show j - 1 + 1 = j by omega]
  rfl
theorem BackA.start : BackA R x (R.length : Nat) := ⟨by omega, by omega, fun y hy => by simp at hy⟩
theorem BackA.step {j : Int} (h : BackA R x j) (h0 : 0 < j) (hl : ltE ((esAt R T x j.toNat).getD j.toNat d) ((esAt R T x j.toNat).getD (j - 1).toNat d) = true) : BackA R x (j - 1) := by
  have h1 := h.lo; have h2 := h.hi
  rw [esAt_x (by omega), show (j - 1).toNat = j.toNat - 1 by omega, esAt_pre (by omega) (by omega)] at hl
  refine ⟨by omega, by omega, fun y hy => ?_⟩
  rw [show (j - 1).toNat = j.toNat - 1 by omega, drop_cons (d := d) (show j.toNat - 1 < R.length by omega), show j.toNat - 1 + 1 = j.toNat by omega] at hy
  rcases List.mem_cons.1 hy with e | e
  · rw [e]; exact hl
  · exact h.all y e
theorem BackA.to1 {j : Int} (h : BackA R x j) (hn : ltE ((esAt R T x j.toNat).getD j.toNat (0, false, 0, 0)) ((esAt R T x j.toNat).getD (j - 1).toNat (0, false, 0, 0)) = false) : BackTo R x j.toNat := by
  have h1 := h.lo; have h2 := h.hi
  refine ⟨by omega, h.all, fun h0 => ?_⟩
  rwa [esAt_x (by omega), show (j - 1).toNat = j.toNat - 1 by omega, esAt_pre (by omega) (by omega)] at hn
theorem BackA.to0 {j : Int} (h : BackA R x j) (hn : ¬ 0 < j) : BackTo R x j.toNat := by
  have h1 := h.lo; have h2 := h.hi
  exact ⟨by omega, h.all, fun h0 => by omega⟩
theorem BackA.es {j : Int} (h : BackA R x j) (h0 : 0 < j) : esAt R T x (j - 1).toNat = ((esAt R T x j.toNat).set (j - 1).toNat ((esAt R T x j.toNat).getD (j - 1 + 1).toNat d)).set (j - 1 + 1).toNat ((esAt R T x j.toNat).getD (j - 1).toNat d) := by
  have h1 := h.lo; have h2 := h.hi
  rw [show (j - 1 + 1).toNat = j.toNat by omega, show (j - 1).toNat = j.toNat - 1 by omega, esAt_swap (by omega) (by omega)]
theorem BackA.pairs {L : List (((Int × Int) × (Int × Int)) × Bool)} {j : Int} (h : BackA R x j) (h0 : 0 < j) : backL L (R.drop (j - 1).toNat) x = swapL (backL L (R.drop j.toNat) x) ((esAt R T x j.toNat).getD (j - 1).toNat d) ((esAt R T x j.toNat).getD (j - 1 + 1).toNat d) := by
  have h1 := h.lo; have h2 := h.hi
  rw [show (j - 1 + 1).toNat = j.toNat by omega, show (j - 1).toNat = j.toNat - 1 by omega, esAt_x (by omega), esAt_pre (by omega) (by omega), backL_step (by omega) (by omega)]
theorem BackA.fwd {j : Int} (h : BackA R x j) (hT : 0 < T.length → ltE (T.getD 0 d) x = false) (hlt : j + 1 < ((R.length + 1 + T.length : Nat) : Int)) (hn : ltE ((esAt R T x j.toNat).getD (j + 1).toNat d) ((esAt R T x j.toNat).getD j.toNat d) = true) : False := by
  have h1 := h.lo; have h2 := h.hi
  rw [esAt_x (by omega), show (j + 1).toNat = j.toNat + 1 by omega] at hn
  by_cases hj : j.toNat < R.length
  · rw [esAt_next hj] at hn
    have := ltE_no (h.all (R.getD j.toNat d) (by rw [drop_cons (d := d) hj]; exact List.mem_cons_self ..))
    rw [hn] at this; cases this
  · have e : j.toNat = R.length := by omega
    rw [e, esAt_end, hT (by omega)] at hn; cases hn
end
set_option maxHeartbeats 4000000 in
theorem repair_z (E : Nat → Addr) (R T es : List (Int × Bool × Int × Int)) (x : (Int × Bool × Int × Int)) (n k : Nat) (L : List (((Int × Int) × (Int × Int)) × Bool)) (i : Int) (h : es = esAt R T x R.length ∧ n = R.length + 1 + T.length ∧ i = (R.length : Nat) ∧ n ≤ 1000000000 ∧ n ≤ k ∧ (0 < T.length → ltE (T.getD 0 (0, false, 0, 0)) x = false)) : Does (Gm E) 50 ⟨[.ptr 0 0, .int .i64 i], [(0, .cells 93 [.mp 1, .sl 2 n k]), (1, .pr (mapPr (Enc.ag (Zz.encP (Zz.encP Zz.encI Zz.encI) (Zz.encP Zz.encI Zz.encI))) veB L)), (2, .arr (Int × Bool × Int × Int) (Zz.encP Zz.encI (Zz.encP Zz.encB (Zz.encP Zz.encI Zz.encI))) 64 es k)], 3, 3, Nat, fun j => BackTo R x j, fun _ => .tup [], fun j => [(0, .cells 93 [.mp 1, .sl 2 n k]), (1, .pr (mapPr (Enc.ag (Zz.encP (Zz.encP Zz.encI Zz.encI) (Zz.encP Zz.encI Zz.encI))) veB (backL L (R.drop j) x))), (2, .arr (Int × Bool × Int × Int) (Zz.encP Zz.encI (Zz.encP Zz.encB (Zz.encP Zz.encI Zz.encI))) 64 (esAt R T x j) k)]⟩ := by
  obtain ⟨rfl, rfl, rfl, h0⟩ := h
  refine fn_intro (gmOk E) 61 3 [] Tryd.func50 rfl rfl rfl rfl rfl ?_
  repeat' first | (intro h; first | (exfalso; omega; done) | (exfalso; exact BackA.fwd hI h0.2.2 ‹j + 1 < _› h; done) | skip) | (refine And.intro ?_ ?_) | exact True.intro | (refine @Exists.intro Unit _ () ?_) | (refine @Exists.intro (_ = _) _ rfl ?_) | (refine @Exists.intro Nat _ j.toNat ?_) | (change LoopGoal _ _ _ _ _ _; refine loop_at 0 (gmOk E) rfl [] (X := Int) (fun j => [(1, .int .i64 j)]) (fun j => [(1, .pr (mapPr (Enc.ag (Zz.encP (Zz.encP Zz.encI Zz.encI) (Zz.encP Zz.encI Zz.encI))) veB (backL L (R.drop j.toNat) x))), (2, .arr (Int × Bool × Int × Int) (Zz.encP Zz.encI (Zz.encP Zz.encB (Zz.encP Zz.encI Zz.encI))) 64 (esAt R T x j.toNat) k)]) [] (fun j => BackA R x j) (fun j => j.toNat) ⟨(R.length : Nat), ?_⟩ (fun j hI => ?_)) | (change @Exists (Int) (fun _ => updK _ _ _ _ _ _); refine @Exists.intro (Int) _ ((?_)) ?_; rotate_left 1) | (change LoopGoal _ _ _ _ _ _; refine loop_at 3 (gmOk E) rfl [] (X := Unit) (fun u => [(1, .int .i64 j)]) (fun u => []) [] (fun u => True) (fun u => 0) ⟨(), ?_⟩ (fun u hU => ?_)) | (change @Exists (Unit) (fun _ => updK _ _ _ _ _ _); refine @Exists.intro (Unit) _ (()) ?_) | (change DrawGoal _ _ _ _ _ _; first | (change DrawGoal _ _ _ [_, _, _, _, _, _, _, _, _, _, _, _, _, _, _, _, _, _, _, _] _ _; refine draw_tree (gmOk E) [0, 2] (.leaf [(0, true), (1, true), (2, true), (3, true), (4, true), (5, true), (6, true), (7, true), (8, true), (9, true), (10, true), (11, true), (12, true), (13, true), (14, true), (15, true), (16, true), (17, true), (18, false), (19, true)]) (by kernel_rfl) ?_) | (change DrawGoal _ _ _ [_, _, _, _, _, _, _, _, _, _, _, _, _, _, _, _, _, _, _, _, _, _, _, _, _, _] _ _; refine draw_tree (gmOk E) [0, 2] (.leaf [(0, true), (1, true), (2, true), (3, true), (4, true), (5, true), (6, true), (7, true), (8, true), (9, true), (10, true), (11, true), (12, true), (13, true), (14, true), (15, true), (16, true), (17, true), (18, true), (19, true), (20, true), (21, true), (22, true), (23, true), (24, false), (25, true)]) (by kernel_rfl) ?_)) | (change CallGoal _ _ _ _ _ _; first | (refine call_rule (swap_z E (esAt R T x j.toNat) _ k _ (j - 1) ?_) [0, 1, 2] rfl (And.intro rfl (And.intro rfl (And.intro rfl True.intro))) rfl (fun u0 hu0 => ?_))) | (change CallGoal _ _ _ _ _ _; first | (refine call0 (ahead_z E _ _) [] rfl True.intro rfl ?_))
  all_goals first
    | (dsimp only; first | rfl | omega)
    | rfl
    | omega
    | exact BackA.start
    | (have b1 := hI.lo; have b2 := hI.hi; (try rw [esAt_len]); omega)
    | exact congrArg (fun q => Ch.pr (mapPr (Enc.ag (Zz.encP (Zz.encP Zz.encI Zz.encI) (Zz.encP Zz.encI Zz.encI))) veB q)) (by rw [Int.toNat_natCast, List.drop_length]; rfl)
    | exact (esAt_len _).symm
    | exact hI.step (T := T) (d := (0, false, 0, 0)) ‹0 < j› ‹ltE _ _ = true›
    | exact hI.to1 (T := T) ‹ltE _ _ = false›
    | exact hI.to0 ‹¬ 0 < j›
    | exact congrArg (fun q => Ch.arr _ _ _ q _) (hI.es ‹0 < j›).symm
    | exact congrArg (fun q => Ch.pr (mapPr (Enc.ag (Zz.encP (Zz.encP Zz.encI Zz.encI) (Zz.encP Zz.encI Zz.encI))) veB q)) (hI.pairs ‹0 < j›).symm

end Go.Proofs.YtpojafdllcioiaaDoor

namespace Go.Proofs.YtpojafdllcioiaaDoor
open Go.Zz Go.Px
set_option linter.unusedVariables false
set_option linter.unusedSectionVars false
set_option linter.unusedSimpArgs false
set_option maxRecDepth 10000
theorem axdrop_none (E : Nat → Addr) (es : List (Int × Bool × Int × Int)) (n k : Nat) (L : List (((Int × Int) × (Int × Int)) × Bool)) (hh : Int × Int) (h0 : n = es.length ∧ es.length ≤ 1000000000 ∧ es.length ≤ k ∧ (L.map (·.1)).Nodup) (hq : (dropP (isE hh) es).length = es.length) (hL : cutL hh L = L) : Does (Gm E) 24 ⟨[.ptr 0 0, .agg [.int .i64 hh.1, .int .i64 hh.2]], [(0, .cells 93 [.mp 1, .sl 2 n k]), (1, .pr (mapPr (Enc.ag (Zz.encP (Zz.encP Zz.encI Zz.encI) (Zz.encP Zz.encI Zz.encI))) veB L)), (2, .arr (Int × Bool × Int × Int) (Zz.encP Zz.encI (Zz.encP Zz.encB (Zz.encP Zz.encI Zz.encI))) 64 es k)], 3, 3, Unit, fun _ => True, fun _ => .err 3, fun _ => [(0, .cells 93 [.mp 1, .sl 2 (dropP (isE hh) es).length k]), (1, .pr (mapPr (Enc.ag (Zz.encP (Zz.encP Zz.encI Zz.encI) (Zz.encP Zz.encI Zz.encI))) veB (cutL hh L))), (2, .arr (Int × Bool × Int × Int) (Zz.encP Zz.encI (Zz.encP Zz.encB (Zz.encP Zz.encI Zz.encI))) 64 (dropP (isE hh) es) k)]⟩ := by
  obtain ⟨rfl, h0⟩ := h0
  have h := (axdrop_z E es k L hh h0).fix true (fun b hb => hb.trans (decide_eq_true hq))
  rw [hL]
  exact h
theorem axdrop_some (E : Nat → Addr) (es : List (Int × Bool × Int × Int)) (n k : Nat) (L : List (((Int × Int) × (Int × Int)) × Bool)) (hh : Int × Int) (h0 : n = es.length ∧ es.length ≤ 1000000000 ∧ es.length ≤ k ∧ (L.map (·.1)).Nodup) (hq : ¬ (dropP (isE hh) es).length = es.length) : Does (Gm E) 24 ⟨[.ptr 0 0, .agg [.int .i64 hh.1, .int .i64 hh.2]], [(0, .cells 93 [.mp 1, .sl 2 n k]), (1, .pr (mapPr (Enc.ag (Zz.encP (Zz.encP Zz.encI Zz.encI) (Zz.encP Zz.encI Zz.encI))) veB L)), (2, .arr (Int × Bool × Int × Int) (Zz.encP Zz.encI (Zz.encP Zz.encB (Zz.encP Zz.encI Zz.encI))) 64 es k)], 3, 3, Unit, fun _ => True, fun _ => .nili, fun _ => [(0, .cells 93 [.mp 1, .sl 2 (dropP (isE hh) es).length k]), (1, .pr (mapPr (Enc.ag (Zz.encP (Zz.encP Zz.encI Zz.encI) (Zz.encP Zz.encI Zz.encI))) veB (cutL hh L))), (2, .arr (Int × Bool × Int × Int) (Zz.encP Zz.encI (Zz.encP Zz.encB (Zz.encP Zz.encI Zz.encI))) 64 (dropP (isE hh) es) k)]⟩ := by
  obtain ⟨rfl, h0⟩ := h0
  exact (axdrop_z E es k L hh h0).fix false (fun b hb => hb.trans (decide_eq_false hq))
def lowE (hh : Int × Int) (lo : Int) : (Int × Bool × Int × Int) := (lo, false, hh.1, hh.2)
def highE (hh : Int × Int) (hi : Int) : (Int × Bool × Int × Int) := (hi, true, hh.1, hh.2)
/-- The ends with a low one more. -/
def put1 (hh : Int × Int) (lo : Int) (es : List (Int × Bool × Int × Int)) (j : Nat) : List (Int × Bool × Int × Int) := esAt (dropP (isE hh) es) [] (lowE hh lo) j
def put2 (hh : Int × Int) (lo hi : Int) (es : List (Int × Bool × Int × Int)) (x : Nat × Nat × Nat) : List (Int × Bool × Int × Int) := esAt (put1 hh lo es x.1) [] (highE hh hi) x.2.1
def putL (hh : Int × Int) (lo hi : Int) (es : List (Int × Bool × Int × Int)) (L : List (((Int × Int) × (Int × Int)) × Bool)) (x : Nat × Nat × Nat) : List (((Int × Int) × (Int × Int)) × Bool) := backL (backL (cutL hh L) ((dropP (isE hh) es).drop x.1) (lowE hh lo)) ((put1 hh lo es x.1).drop x.2.1) (highE hh hi)
/-- Where the two ends go. -/
structure PutAt (hh : Int × Int) (lo hi : Int) (es : List (Int × Bool × Int × Int)) (x : Nat × Nat × Nat) : Prop where
  a : BackTo (dropP (isE hh) es) (lowE hh lo) x.1
  b : BackTo (put1 hh lo es x.1) (highE hh hi) x.2.1
  c : (dropP (isE hh) es).length + 2 ≤ x.2.2
theorem esAt_snoc (R T : List (Int × Bool × Int × Int)) (x : (Int × Bool × Int × Int)) (j : Nat) : esAt R T x j = esAt R [] x j ++ T := by simp [esAt]
theorem esAt_full (R T : List (Int × Bool × Int × Int)) (x : (Int × Bool × Int × Int)) : esAt R T x R.length = R ++ x :: T := by simp [esAt]
theorem high_low {hh : Int × Int} {lo hi : Int} (h : lo ≤ hi) : ltE (highE hh hi) (lowE hh lo) = false := by
  unfold ltE highE lowE
  refine decide_eq_false fun q => ?_
  rcases q with q | ⟨q, q2 | q2⟩
  · have : hi < lo := q
    omega
  · exact absurd q2.1 (by simp)
  · exact absurd q2.1 (by simp)
theorem put1_len (hh : Int × Int) (lo : Int) (es : List (Int × Bool × Int × Int)) (j : Nat) : (put1 hh lo es j).length = (dropP (isE hh) es).length + 1 := by unfold put1; rw [esAt_len]; rfl
set_option maxHeartbeats 4000000 in
theorem axput_bad (E : Nat → Addr) (es : List (Int × Bool × Int × Int)) (n k : Nat) (L : List (((Int × Int) × (Int × Int)) × Bool)) (hh : Int × Int) (lo hi : Int) (h : ¬ spanP (hh, lo, hi)) : Does (Gm E) 16 (Sp0 [.ptr 0 0, .agg [.int .i64 hh.1, .int .i64 hh.2], .int .i64 lo, .int .i64 hi] [(0, .cells 93 [.mp 1, .sl 2 n k]), (1, .pr (mapPr (Enc.ag (Zz.encP (Zz.encP Zz.encI Zz.encI) (Zz.encP Zz.encI Zz.encI))) veB L)), (2, .arr (Int × Bool × Int × Int) (Zz.encP Zz.encI (Zz.encP Zz.encB (Zz.encP Zz.encI Zz.encI))) 64 es k)] 3 (.err 1)) := by
  refine fn_intro (gmOk E) 54 3 [] Tryd.func16 rfl rfl rfl rfl rfl ?_
  repeat' first | (intro h; first | (exfalso; omega; done) | (exfalso; simp only [spanP, reachP] at *; omega; done) | skip) | (refine And.intro ?_ ?_) | exact True.intro | (refine @Exists.intro Unit _ () ?_) | (refine @Exists.intro (_ = _) _ rfl ?_) | (change CallGoal _ _ _ _ _ _; first | (refine call0 (reach_z E (lo, hi)) [] rfl True.intro rfl ?_))
  all_goals first | rfl | omega

set_option maxHeartbeats 4000000 in
theorem axput_z (E : Nat → Addr) (es : List (Int × Bool × Int × Int)) (n k : Nat) (L : List (((Int × Int) × (Int × Int)) × Bool)) (hh : Int × Int) (lo hi : Int) (h : n = es.length ∧ es.length ≤ 999999000 ∧ es.length ≤ k ∧ (L.map (·.1)).Nodup ∧ ((dropP (isE hh) es).length = es.length → cutL hh L = L) ∧ spanP (hh, lo, hi)) : Does (Gm E) 16 ⟨[.ptr 0 0, .agg [.int .i64 hh.1, .int .i64 hh.2], .int .i64 lo, .int .i64 hi], [(0, .cells 93 [.mp 1, .sl 2 n k]), (1, .pr (mapPr (Enc.ag (Zz.encP (Zz.encP Zz.encI Zz.encI) (Zz.encP Zz.encI Zz.encI))) veB L)), (2, .arr (Int × Bool × Int × Int) (Zz.encP Zz.encI (Zz.encP Zz.encB (Zz.encP Zz.encI Zz.encI))) 64 es k)], 3, 4, Nat × Nat × Nat, fun x => PutAt hh lo hi es x, fun _ => .nili, fun x => [(0, .cells 93 [.mp 1, .sl 3 ((dropP (isE hh) es).length + 2) x.2.2]), (1, .pr (mapPr (Enc.ag (Zz.encP (Zz.encP Zz.encI Zz.encI) (Zz.encP Zz.encI Zz.encI))) veB (putL hh lo hi es L x))), (3, .arr (Int × Bool × Int × Int) (Zz.encP Zz.encI (Zz.encP Zz.encB (Zz.encP Zz.encI Zz.encI))) 64 (put2 hh lo hi es x) x.2.2)]⟩ := by
  obtain ⟨h1, h2, h3, h4, h5, h6⟩ := h
  refine fn_intro (gmOk E) 54 3 [] Tryd.func16 rfl rfl rfl rfl rfl ?_
  repeat' first | (change CallGoal (Gm E) 24 _ _ _ _; refine Or.elim (Classical.em ((dropP (isE hh) es).length = es.length)) (fun hq => ?_) (fun hq => ?_) <;> first | (refine call_rule (axdrop_none E es _ k L hh ⟨h1, by omega, h3, h4⟩ hq (h5 hq)) [0, 1, 2] rfl (And.intro rfl (And.intro rfl (And.intro rfl True.intro))) rfl (fun u1 hu1 => ?_)) | (refine call_rule (axdrop_some E es _ k L hh ⟨h1, by omega, h3, h4⟩ hq) [0, 1, 2] rfl (And.intro rfl (And.intro rfl (And.intro rfl True.intro))) rfl (fun u1 hu1 => ?_))) | (change DrawGoal _ _ _ _ _ _; first | (change DrawGoal _ _ _ [_, _, _, _, _, _, _, _, _, _, _, _, _, _, _, _] _ _; refine draw_rule3 (gmOk E) [(0, true), (1, true), (2, true), (3, true), (4, true), (5, true), (6, true), (7, true), (8, true), (9, true), (10, true), (11, false), (12, false)] [0, 1, 2, 3, 4, 5, 6, 7, 8, 9, 10, 11, 12] [0, 3] [] [(13, true), (14, true), (15, false)] (by kernel_rfl) ?_)) | (intro h; first | (exfalso; omega; done) | (exfalso; simp only [spanP, reachP] at *; omega; done) | skip) | (refine And.intro ?_ ?_) | exact True.intro | (refine @Exists.intro Unit _ () ?_) | (refine @Exists.intro (_ = _) _ rfl ?_) | (refine @Exists.intro (Nat × Nat × Nat) _ (j1, j2, ?_) ?_; rotate_left) | (change CallGoal _ _ _ _ _ _; first | (refine call_rule (axdrop_none E es _ k L hh ⟨h1, by omega, h3, h4⟩ ‹_ = es.length› (h5 ‹_ = es.length›)) [0, 1, 2] rfl (And.intro rfl (And.intro rfl (And.intro rfl True.intro))) rfl (fun u1 hu1 => ?_)) | (refine call_rule (axdrop_some E es _ k L hh ⟨h1, by omega, h3, h4⟩ ‹¬ _ = es.length›) [0, 1, 2] rfl (And.intro rfl (And.intro rfl (And.intro rfl True.intro))) rfl (fun u1 hu1 => ?_)) | (refine call_rule (repair_z E (put1 hh lo es j1) [] _ (highE hh hi) _ _ _ _ ?_) [0, 1, 5] rfl (And.intro rfl (And.intro rfl (And.intro rfl True.intro))) rfl (fun (j2 : Nat) (hj2 : BackTo (put1 hh lo es j1) (highE hh hi) j2) => ?_)) | (refine call_rule (repair_z E (dropP (isE hh) es) [highE hh hi] _ (lowE hh lo) _ _ _ _ ?_) [0, 1, 5] rfl (And.intro rfl (And.intro rfl (And.intro rfl True.intro))) rfl (fun (j1 : Nat) (hj1 : BackTo (dropP (isE hh) es) (lowE hh lo) j1) => ?_))) | (change CallGoal _ _ _ _ _ _; first | (refine call0 (reach_z E (lo, hi)) [] rfl True.intro rfl ?_))
  all_goals first
    | (dsimp only; first | rfl | omega)
    | rfl
    | omega
    | exact Nat.le_refl _
    | (have d := dropP_len (isE hh) es; omega)
    | (have d := dropP_len (isE hh) es; show _ * 32 ≤ _; omega)
    | (have d := dropP_len (isE hh) es; rw [put1_len]; first | rfl | omega)
    | (have d := dropP_len (isE hh) es; simp only [List.length_cons, List.length_nil]; first | rfl | omega)
    | (have d := dropP_len (isE hh) es; rw [put1_len]; simp only [List.length_nil]; first | rfl | omega)
    | (show List.take _ _ ++ [lowE hh lo, highE hh hi] = _; rw [List.take_length, esAt_full]; done)
    | (rw [esAt_full, esAt_snoc]; rfl)
    | exact high_low h6.1
    | exact absurd ‹0 < _› (by simp)
    | exact PutAt.mk hj1 hj2 ‹_ + 2 ≤ _›

end Go.Proofs.YtpojafdllcioiaaDoor

namespace Go.Proofs.YtpojafdllcioiaaDoor
open Go.Zz Go.Px
set_option linter.unusedVariables false
set_option linter.unusedSectionVars false
set_option linter.unusedSimpArgs false
set_option maxRecDepth 10000
set_option maxHeartbeats 4000000 in
theorem cloneE_z (E : Nat → Addr) (l : List (Int × Bool × Int × Int)) (n k : Nat) (h : n = l.length ∧ l.length ≤ 1099511627776) : Does (Gm E) 57 ⟨[.sl 0 n k], [(0, .arr (Int × Bool × Int × Int) (Zz.encP Zz.encI (Zz.encP Zz.encB (Zz.encP Zz.encI Zz.encI))) 64 l k)], 1, 2, Nat, fun k' => l.length ≤ k', fun k' => .sl 1 l.length k', fun k' => [(0, .arr (Int × Bool × Int × Int) (Zz.encP Zz.encI (Zz.encP Zz.encB (Zz.encP Zz.encI Zz.encI))) 64 l k), (1, .arr (Int × Bool × Int × Int) (Zz.encP Zz.encI (Zz.encP Zz.encB (Zz.encP Zz.encI Zz.encI))) 64 l k')]⟩ := by
  obtain ⟨rfl, h⟩ := h
  refine fn_intro (gmOk E) 8 1 [] Tryd.func57 rfl rfl rfl rfl rfl ?_
  repeat' first | (intro h; first | (exfalso; omega; done) | skip) | (refine And.intro ?_ ?_) | exact True.intro | (refine @Exists.intro Unit _ () ?_) | (refine @Exists.intro (_ = _) _ rfl ?_) | (refine @Exists.intro (Nat) _ ?_ ?_; rotate_left)
  all_goals first | rfl | omega | (simp_all; done) | (dsimp only; omega) | (change _ ≤ _; first | omega | (simp_all; done))

set_option maxHeartbeats 4000000 in
theorem axends_z (E : Nat → Addr) (es : List (Int × Bool × Int × Int)) (n k : Nat) (L : List (((Int × Int) × (Int × Int)) × Bool)) (h : n = es.length ∧ es.length ≤ 1099511627776) : Does (Gm E) 26 ⟨[.ptr 0 0], [(0, .cells 93 [.mp 1, .sl 2 n k]), (1, .pr (mapPr (Enc.ag (Zz.encP (Zz.encP Zz.encI Zz.encI) (Zz.encP Zz.encI Zz.encI))) veB L)), (2, .arr (Int × Bool × Int × Int) (Zz.encP Zz.encI (Zz.encP Zz.encB (Zz.encP Zz.encI Zz.encI))) 64 es k)], 3, 4, Nat, fun q => es.length ≤ q, fun q => .sl 3 es.length q, fun q => [(0, .cells 93 [.mp 1, .sl 2 n k]), (1, .pr (mapPr (Enc.ag (Zz.encP (Zz.encP Zz.encI Zz.encI) (Zz.encP Zz.encI Zz.encI))) veB L)), (2, .arr (Int × Bool × Int × Int) (Zz.encP Zz.encI (Zz.encP Zz.encB (Zz.encP Zz.encI Zz.encI))) 64 es k), (3, .arr (Int × Bool × Int × Int) (Zz.encP Zz.encI (Zz.encP Zz.encB (Zz.encP Zz.encI Zz.encI))) 64 es q)]⟩ := by
  refine fn_intro (gmOk E) 8 3 [] Tryd.func26 rfl rfl rfl rfl rfl ?_
  repeat' first | (intro h; first | (exfalso; omega; done) | skip) | (refine And.intro ?_ ?_) | exact True.intro | (refine @Exists.intro Unit _ () ?_) | (refine @Exists.intro (_ = _) _ rfl ?_) | (refine @Exists.intro (Nat) _ ?_ ?_; rotate_left) | (change CallGoal _ _ _ _ _ _; first | (refine call_rule (cloneE_z E es _ _ h) [2] rfl (And.intro rfl True.intro) rfl (fun (q : Nat) (hq : es.length ≤ q) => ?_)))
  all_goals first | rfl | omega | exact hq

set_option maxHeartbeats 4000000 in
theorem axpairs_z (E : Nat → Addr) (es : List (Int × Bool × Int × Int)) (n k : Nat) (L : List (((Int × Int) × (Int × Int)) × Bool)) (h : L.length ≤ 1000000000) : Does (Gm E) 17 ⟨[.ptr 0 0], [(0, .cells 93 [.mp 1, .sl 2 n k]), (1, .pr (mapPr (Enc.ag (Zz.encP (Zz.encP Zz.encI Zz.encI) (Zz.encP Zz.encI Zz.encI))) veB L)), (2, .arr (Int × Bool × Int × Int) (Zz.encP Zz.encI (Zz.encP Zz.encB (Zz.encP Zz.encI Zz.encI))) 64 es k)], 3, 4, Nat, fun q => (ordS ltP (normP (L.map (·.1)))).length ≤ q, fun q => .sl 3 (ordS ltP (normP (L.map (·.1)))).length q, fun q => [(0, .cells 93 [.mp 1, .sl 2 n k]), (1, .pr (mapPr (Enc.ag (Zz.encP (Zz.encP Zz.encI Zz.encI) (Zz.encP Zz.encI Zz.encI))) veB L)), (2, .arr (Int × Bool × Int × Int) (Zz.encP Zz.encI (Zz.encP Zz.encB (Zz.encP Zz.encI Zz.encI))) 64 es k), (3, .arr ((Int × Int) × (Int × Int)) (Zz.encP (Zz.encP Zz.encI Zz.encI) (Zz.encP Zz.encI Zz.encI)) 41 (ordS ltP (normP (L.map (·.1)))) q)]⟩ := by
  refine fn_intro (gmOk E) 8 3 [] Tryd.func17 rfl rfl rfl rfl rfl ?_
  repeat' first | (intro h; first | (exfalso; omega; done) | skip) | (refine And.intro ?_ ?_) | exact True.intro | (refine @Exists.intro Unit _ () ?_) | (refine @Exists.intro (_ = _) _ rfl ?_) | (refine @Exists.intro (Nat) _ ?_ ?_; rotate_left) | (change CallGoal _ _ _ _ _ _; first | (refine call_rule (list_z E L h) [1] rfl (And.intro rfl True.intro) rfl (fun (q : Nat) hq => ?_)))
  all_goals first | rfl | omega | exact hq

set_option maxHeartbeats 4000000 in
theorem axlen_z (E : Nat → Addr) (es : List (Int × Bool × Int × Int)) (n k : Nat) (L : List (((Int × Int) × (Int × Int)) × Bool)) (h : n ≤ 1099511627776) : Does (Gm E) 28 (Sp0 [.ptr 0 0] [(0, .cells 93 [.mp 1, .sl 2 n k]), (1, .pr (mapPr (Enc.ag (Zz.encP (Zz.encP Zz.encI Zz.encI) (Zz.encP Zz.encI Zz.encI))) veB L)), (2, .arr (Int × Bool × Int × Int) (Zz.encP Zz.encI (Zz.encP Zz.encB (Zz.encP Zz.encI Zz.encI))) 64 es k)] 3 (.int .i64 ((n / 2 : Nat)))) := by
  refine fn_intro (gmOk E) 9 3 [] Tryd.func28 rfl rfl rfl rfl rfl ?_
  repeat' first | (intro h; first | (exfalso; omega; done) | skip) | (refine And.intro ?_ ?_) | exact True.intro | (refine @Exists.intro Unit _ () ?_) | (refine @Exists.intro (_ = _) _ rfl ?_)
  all_goals first | rfl | omega | (rw [Int.tdiv_eq_ediv_of_nonneg (by omega)]; omega)

set_option maxHeartbeats 4000000 in
theorem newaxis_z (E : Nat → Addr)  : Does (Gm E) 15 ⟨[], [], 0, 3, Unit, fun _ => True, fun _ => .ptr 0 0, fun _ => [(0, .cells 93 [.mp 1, .sl 2 0 0]), (1, .pr (mapPr (Enc.ag (Zz.encP (Zz.encP Zz.encI Zz.encI) (Zz.encP Zz.encI Zz.encI))) veB ([] : List (((Int × Int) × (Int × Int)) × Bool)))), (2, .arr (Int × Bool × Int × Int) (Zz.encP Zz.encI (Zz.encP Zz.encB (Zz.encP Zz.encI Zz.encI))) 64 ([] : List (Int × Bool × Int × Int)) 0)]⟩ := by
  refine fn_intro (gmOk E) 4 0 [] Tryd.func15 rfl rfl rfl rfl rfl ?_
  repeat' first | (intro h; first | (exfalso; omega; done) | skip) | (refine And.intro ?_ ?_) | exact True.intro | (refine @Exists.intro Unit _ () ?_) | (refine @Exists.intro (_ = _) _ rfl ?_) | (change OpGoal _ _ _ _ (.makeMap _ _) _; refine mapnew_rule (Enc.ag (Zz.encP (Zz.encP Zz.encI Zz.encI) (Zz.encP Zz.encI Zz.encI))) veB ?_)
  all_goals first | rfl | omega

set_option maxHeartbeats 4000000 in
theorem newsweep_z (E : Nat → Addr)  : Does (Gm E) 11 ⟨[], [], 0, 7, Unit, fun _ => True, fun _ => .ptr 0 0, fun _ => [(0, .cells 88 [.ptr 1 0, .ptr 4 0]), (1, .cells 93 [.mp 2, .sl 3 0 0]), (2, .pr (mapPr (Enc.ag (Zz.encP (Zz.encP Zz.encI Zz.encI) (Zz.encP Zz.encI Zz.encI))) veB ([] : List (((Int × Int) × (Int × Int)) × Bool)))), (3, .arr (Int × Bool × Int × Int) (Zz.encP Zz.encI (Zz.encP Zz.encB (Zz.encP Zz.encI Zz.encI))) 64 ([] : List (Int × Bool × Int × Int)) 0), (4, .cells 93 [.mp 5, .sl 6 0 0]), (5, .pr (mapPr (Enc.ag (Zz.encP (Zz.encP Zz.encI Zz.encI) (Zz.encP Zz.encI Zz.encI))) veB ([] : List (((Int × Int) × (Int × Int)) × Bool)))), (6, .arr (Int × Bool × Int × Int) (Zz.encP Zz.encI (Zz.encP Zz.encB (Zz.encP Zz.encI Zz.encI))) 64 ([] : List (Int × Bool × Int × Int)) 0)]⟩ := by
  refine fn_intro (gmOk E) 5 0 [] Tryd.func11 rfl rfl rfl rfl rfl ?_
  repeat' first | (intro h; first | (exfalso; omega; done) | skip) | (refine And.intro ?_ ?_) | exact True.intro | (refine @Exists.intro Unit _ () ?_) | (refine @Exists.intro (_ = _) _ rfl ?_) | (change CallGoal _ _ _ _ _ _; first | (refine call_rule (newaxis_z E) [] rfl True.intro rfl (fun x hx => ?_)))
  all_goals first | rfl | omega

/-- What putting asks of an axis. -/
structure AxH (hh : Int × Int) (es : List (Int × Bool × Int × Int)) (n k : Nat) (L : List (((Int × Int) × (Int × Int)) × Bool)) : Prop where
  n : n = es.length
  s : es.length ≤ 999999000
  k : es.length ≤ k
  d : (L.map (·.1)).Nodup
  c : (dropP (isE hh) es).length = es.length → cutL hh L = L
theorem rightP_x {b : Int × Int × Int × Int} (hh : Int × Int) (h : rightP b) : spanP (hh, b.1, b.2.2.1) := ⟨h.1, h.2.2.1.1, h.2.2.2.1⟩
theorem rightP_y {b : Int × Int × Int × Int} (hh : Int × Int) (h : rightP b) : spanP (hh, b.2.1, b.2.2.2) := ⟨h.2.1, h.2.2.1.2, h.2.2.2.2⟩
theorem AxH.put {hh : Int × Int} {es : List (Int × Bool × Int × Int)} {n k : Nat} {L : List (((Int × Int) × (Int × Int)) × Bool)} {lo hi : Int} (h : AxH hh es n k L) (hs : spanP (hh, lo, hi)) : n = es.length ∧ es.length ≤ 999999000 ∧ es.length ≤ k ∧ (L.map (·.1)).Nodup ∧ ((dropP (isE hh) es).length = es.length → cutL hh L = L) ∧ spanP (hh, lo, hi) := ⟨h.n, h.s, h.k, h.d, h.c, hs⟩
set_option maxHeartbeats 4000000 in
theorem swput_bad (E : Nat → Addr) (es ey : List (Int × Bool × Int × Int)) (n k m q : Nat) (L M : List (((Int × Int) × (Int × Int)) × Bool)) (hh : Int × Int) (b : Int × Int × Int × Int) (h : ¬ rightP b) : Does (Gm E) 12 (Sp0 [.ptr 0 0, .agg [.int .i64 hh.1, .int .i64 hh.2], .agg [.int .i64 b.1, .int .i64 b.2.1, .int .i64 b.2.2.1, .int .i64 b.2.2.2]] [(0, .cells 88 [.ptr 1 0, .ptr 4 0]), (1, .cells 93 [.mp 2, .sl 3 n k]), (2, .pr (mapPr (Enc.ag (Zz.encP (Zz.encP Zz.encI Zz.encI) (Zz.encP Zz.encI Zz.encI))) veB L)), (3, .arr (Int × Bool × Int × Int) (Zz.encP Zz.encI (Zz.encP Zz.encB (Zz.encP Zz.encI Zz.encI))) 64 es k), (4, .cells 93 [.mp 5, .sl 6 m q]), (5, .pr (mapPr (Enc.ag (Zz.encP (Zz.encP Zz.encI Zz.encI) (Zz.encP Zz.encI Zz.encI))) veB M)), (6, .arr (Int × Bool × Int × Int) (Zz.encP Zz.encI (Zz.encP Zz.encB (Zz.encP Zz.encI Zz.encI))) 64 ey q)] 7 (.err 0)) := by
  refine fn_intro (gmOk E) 35 7 [] Tryd.func12 rfl rfl rfl rfl rfl ?_
  repeat' first | (intro h; first | (exfalso; omega; done) | (exfalso; exact ‹¬ rightP b› (by first | exact Classical.not_not.1 h | exact h); done) | skip) | (refine And.intro ?_ ?_) | exact True.intro | (refine @Exists.intro Unit _ () ?_) | (refine @Exists.intro (_ = _) _ rfl ?_) | (change CallGoal _ _ _ _ _ _; first | (refine call0 (right_z E b) [] rfl True.intro rfl ?_))
  all_goals first | rfl | omega

set_option maxHeartbeats 4000000 in
theorem swput_z (E : Nat → Addr) (es ey : List (Int × Bool × Int × Int)) (n k m q : Nat) (L M : List (((Int × Int) × (Int × Int)) × Bool)) (hh : Int × Int) (b : Int × Int × Int × Int) (h : AxH hh es n k L ∧ AxH hh ey m q M ∧ rightP b) : Does (Gm E) 12 ⟨[.ptr 0 0, .agg [.int .i64 hh.1, .int .i64 hh.2], .agg [.int .i64 b.1, .int .i64 b.2.1, .int .i64 b.2.2.1, .int .i64 b.2.2.2]], [(0, .cells 88 [.ptr 1 0, .ptr 4 0]), (1, .cells 93 [.mp 2, .sl 3 n k]), (2, .pr (mapPr (Enc.ag (Zz.encP (Zz.encP Zz.encI Zz.encI) (Zz.encP Zz.encI Zz.encI))) veB L)), (3, .arr (Int × Bool × Int × Int) (Zz.encP Zz.encI (Zz.encP Zz.encB (Zz.encP Zz.encI Zz.encI))) 64 es k), (4, .cells 93 [.mp 5, .sl 6 m q]), (5, .pr (mapPr (Enc.ag (Zz.encP (Zz.encP Zz.encI Zz.encI) (Zz.encP Zz.encI Zz.encI))) veB M)), (6, .arr (Int × Bool × Int × Int) (Zz.encP Zz.encI (Zz.encP Zz.encB (Zz.encP Zz.encI Zz.encI))) 64 ey q)], 7, 9, (Nat × Nat × Nat) × (Nat × Nat × Nat), fun x => PutAt hh b.1 b.2.2.1 es x.1 ∧ PutAt hh b.2.1 b.2.2.2 ey x.2, fun _ => .nili, fun x => [(0, .cells 88 [.ptr 1 0, .ptr 4 0]), (1, .cells 93 [.mp 2, .sl 7 ((dropP (isE hh) es).length + 2) x.1.2.2]), (2, .pr (mapPr (Enc.ag (Zz.encP (Zz.encP Zz.encI Zz.encI) (Zz.encP Zz.encI Zz.encI))) veB (putL hh b.1 b.2.2.1 es L x.1))), (7, .arr (Int × Bool × Int × Int) (Zz.encP Zz.encI (Zz.encP Zz.encB (Zz.encP Zz.encI Zz.encI))) 64 (put2 hh b.1 b.2.2.1 es x.1) x.1.2.2), (4, .cells 93 [.mp 5, .sl 8 ((dropP (isE hh) ey).length + 2) x.2.2.2]), (5, .pr (mapPr (Enc.ag (Zz.encP (Zz.encP Zz.encI Zz.encI) (Zz.encP Zz.encI Zz.encI))) veB (putL hh b.2.1 b.2.2.2 ey M x.2))), (8, .arr (Int × Bool × Int × Int) (Zz.encP Zz.encI (Zz.encP Zz.encB (Zz.encP Zz.encI Zz.encI))) 64 (put2 hh b.2.1 b.2.2.2 ey x.2) x.2.2.2)]⟩ := by
  obtain ⟨h1, h2, h3⟩ := h
  refine fn_intro (gmOk E) 35 7 [] Tryd.func12 rfl rfl rfl rfl rfl ?_
  repeat' first | (intro h; first | (exfalso; omega; done) | (exfalso; exact h h3; done) | skip) | (refine And.intro ?_ ?_) | exact True.intro | (refine @Exists.intro Unit _ () ?_) | (refine @Exists.intro (_ = _) _ rfl ?_) | (refine @Exists.intro ((Nat × Nat × Nat) × (Nat × Nat × Nat)) _ (x1, x2) ?_) | (change DrawGoal _ _ _ _ _ _; first | (change DrawGoal _ _ _ [_, _, _, _, _, _, _, _, _, _, _] _ _; refine draw_tree (gmOk E) [0, 7, 8] (.leaf [(0, true), (1, true), (2, true), (3, true), (4, true), (5, true), (6, true), (7, true), (8, true), (9, false), (10, true)]) (by kernel_rfl) ?_) | (change DrawGoal _ _ _ [_, _, _, _, _, _, _, _, _, _, _] _ _; refine draw_tree (gmOk E) [0, 7, 8] (.leaf [(0, true), (1, true), (2, true), (3, true), (4, true), (5, true), (6, true), (7, true), (8, true), (9, false), (10, true)]) (by kernel_rfl) ?_)) | (change CallGoal _ _ _ _ _ _; first | (refine call_rule (axput_z E ey _ q M hh b.2.1 b.2.2.2 (h2.put (rightP_y hh h3))) [4, 5, 6] rfl (And.intro rfl (And.intro rfl (And.intro rfl True.intro))) rfl (fun x2 hx2 => ?_)) | (refine call_rule (axput_z E es _ k L hh b.1 b.2.2.1 (h1.put (rightP_x hh h3))) [1, 2, 3] rfl (And.intro rfl (And.intro rfl (And.intro rfl True.intro))) rfl (fun x1 hx1 => ?_))) | (change CallGoal _ _ _ _ _ _; first | (refine call0 (right_z E b) [] rfl True.intro rfl ?_))
  all_goals first | rfl | omega | exact hx1 | exact hx2

theorem AxH.drop {hh : Int × Int} {es : List (Int × Bool × Int × Int)} {n k : Nat} {L : List (((Int × Int) × (Int × Int)) × Bool)} (h : AxH hh es n k L) : n = es.length ∧ es.length ≤ 1000000000 ∧ es.length ≤ k ∧ (L.map (·.1)).Nodup := ⟨h.n, by have := h.s; omega, h.k, h.d⟩
set_option maxHeartbeats 4000000 in
theorem swdrop_none (E : Nat → Addr) (es ey : List (Int × Bool × Int × Int)) (n k m q : Nat) (L M : List (((Int × Int) × (Int × Int)) × Bool)) (hh : Int × Int) (h : AxH hh es n k L ∧ (dropP (isE hh) es).length = es.length) : Does (Gm E) 18 ⟨[.ptr 0 0, .agg [.int .i64 hh.1, .int .i64 hh.2]], [(0, .cells 88 [.ptr 1 0, .ptr 4 0]), (1, .cells 93 [.mp 2, .sl 3 n k]), (2, .pr (mapPr (Enc.ag (Zz.encP (Zz.encP Zz.encI Zz.encI) (Zz.encP Zz.encI Zz.encI))) veB L)), (3, .arr (Int × Bool × Int × Int) (Zz.encP Zz.encI (Zz.encP Zz.encB (Zz.encP Zz.encI Zz.encI))) 64 es k), (4, .cells 93 [.mp 5, .sl 6 m q]), (5, .pr (mapPr (Enc.ag (Zz.encP (Zz.encP Zz.encI Zz.encI) (Zz.encP Zz.encI Zz.encI))) veB M)), (6, .arr (Int × Bool × Int × Int) (Zz.encP Zz.encI (Zz.encP Zz.encB (Zz.encP Zz.encI Zz.encI))) 64 ey q)], 7, 7, Unit, fun _ => True, fun _ => .err 3, fun _ => [(0, .cells 88 [.ptr 1 0, .ptr 4 0]), (1, .cells 93 [.mp 2, .sl 3 (dropP (isE hh) es).length k]), (2, .pr (mapPr (Enc.ag (Zz.encP (Zz.encP Zz.encI Zz.encI) (Zz.encP Zz.encI Zz.encI))) veB (cutL hh L))), (3, .arr (Int × Bool × Int × Int) (Zz.encP Zz.encI (Zz.encP Zz.encB (Zz.encP Zz.encI Zz.encI))) 64 (dropP (isE hh) es) k), (4, .cells 93 [.mp 5, .sl 6 m q]), (5, .pr (mapPr (Enc.ag (Zz.encP (Zz.encP Zz.encI Zz.encI) (Zz.encP Zz.encI Zz.encI))) veB M)), (6, .arr (Int × Bool × Int × Int) (Zz.encP Zz.encI (Zz.encP Zz.encB (Zz.encP Zz.encI Zz.encI))) 64 ey q)]⟩ := by
  refine fn_intro (gmOk E) 21 7 [] Tryd.func18 rfl rfl rfl rfl rfl ?_
  repeat' first | (intro h; first | (exfalso; omega; done) | skip) | (refine And.intro ?_ ?_) | exact True.intro | (refine @Exists.intro Unit _ () ?_) | (refine @Exists.intro (_ = _) _ rfl ?_) | (change DrawGoal _ _ _ _ _ _; first | (change DrawGoal _ _ _ [_, _, _, _, _, _, _] _ _; refine draw_tree (gmOk E) [0, 7] (.leaf [(0, true), (1, true), (2, true), (3, true), (4, true), (5, false), (6, true)]) (by kernel_rfl) ?_) | (change DrawGoal _ _ _ [_, _, _, _, _, _, _] _ _; refine draw_tree (gmOk E) [0, 7] (.leaf [(0, true), (1, true), (2, true), (3, true), (4, true), (5, false), (6, true)]) (by kernel_rfl) ?_)) | (change CallGoal _ _ _ _ _ _; first | (refine call_rule (axdrop_none E es _ k L hh h.1.drop h.2 (h.1.c h.2)) [1, 2, 3] rfl (And.intro rfl (And.intro rfl (And.intro rfl True.intro))) rfl (fun u1 hu1 => ?_)))
  all_goals first | rfl | omega

set_option maxHeartbeats 4000000 in
theorem swdrop_some (E : Nat → Addr) (es ey : List (Int × Bool × Int × Int)) (n k m q : Nat) (L M : List (((Int × Int) × (Int × Int)) × Bool)) (hh : Int × Int) (h : AxH hh es n k L ∧ AxH hh ey m q M ∧ ¬ (dropP (isE hh) es).length = es.length ∧ ¬ (dropP (isE hh) ey).length = ey.length) : Does (Gm E) 18 ⟨[.ptr 0 0, .agg [.int .i64 hh.1, .int .i64 hh.2]], [(0, .cells 88 [.ptr 1 0, .ptr 4 0]), (1, .cells 93 [.mp 2, .sl 3 n k]), (2, .pr (mapPr (Enc.ag (Zz.encP (Zz.encP Zz.encI Zz.encI) (Zz.encP Zz.encI Zz.encI))) veB L)), (3, .arr (Int × Bool × Int × Int) (Zz.encP Zz.encI (Zz.encP Zz.encB (Zz.encP Zz.encI Zz.encI))) 64 es k), (4, .cells 93 [.mp 5, .sl 6 m q]), (5, .pr (mapPr (Enc.ag (Zz.encP (Zz.encP Zz.encI Zz.encI) (Zz.encP Zz.encI Zz.encI))) veB M)), (6, .arr (Int × Bool × Int × Int) (Zz.encP Zz.encI (Zz.encP Zz.encB (Zz.encP Zz.encI Zz.encI))) 64 ey q)], 7, 7, Unit, fun _ => True, fun _ => .nili, fun _ => [(0, .cells 88 [.ptr 1 0, .ptr 4 0]), (1, .cells 93 [.mp 2, .sl 3 (dropP (isE hh) es).length k]), (2, .pr (mapPr (Enc.ag (Zz.encP (Zz.encP Zz.encI Zz.encI) (Zz.encP Zz.encI Zz.encI))) veB (cutL hh L))), (3, .arr (Int × Bool × Int × Int) (Zz.encP Zz.encI (Zz.encP Zz.encB (Zz.encP Zz.encI Zz.encI))) 64 (dropP (isE hh) es) k), (4, .cells 93 [.mp 5, .sl 6 (dropP (isE hh) ey).length q]), (5, .pr (mapPr (Enc.ag (Zz.encP (Zz.encP Zz.encI Zz.encI) (Zz.encP Zz.encI Zz.encI))) veB (cutL hh M))), (6, .arr (Int × Bool × Int × Int) (Zz.encP Zz.encI (Zz.encP Zz.encB (Zz.encP Zz.encI Zz.encI))) 64 (dropP (isE hh) ey) q)]⟩ := by
  refine fn_intro (gmOk E) 21 7 [] Tryd.func18 rfl rfl rfl rfl rfl ?_
  repeat' first | (intro h; first | (exfalso; omega; done) | skip) | (refine And.intro ?_ ?_) | exact True.intro | (refine @Exists.intro Unit _ () ?_) | (refine @Exists.intro (_ = _) _ rfl ?_) | (change DrawGoal _ _ _ _ _ _; first | (change DrawGoal _ _ _ [_, _, _, _, _, _, _] _ _; refine draw_tree (gmOk E) [0, 7] (.leaf [(0, true), (1, true), (2, true), (3, true), (4, true), (5, false), (6, true)]) (by kernel_rfl) ?_) | (change DrawGoal _ _ _ [_, _, _, _, _, _, _] _ _; refine draw_tree (gmOk E) [0, 7] (.leaf [(0, true), (1, true), (2, true), (3, true), (4, true), (5, false), (6, true)]) (by kernel_rfl) ?_)) | (change CallGoal _ _ _ _ _ _; first | (refine call_rule (axdrop_some E es _ k L hh h.1.drop h.2.2.1) [1, 2, 3] rfl (And.intro rfl (And.intro rfl (And.intro rfl True.intro))) rfl (fun u1 hu1 => ?_)) | (refine call_rule (axdrop_some E ey _ q M hh h.2.1.drop h.2.2.2) [4, 5, 6] rfl (And.intro rfl (And.intro rfl (And.intro rfl True.intro))) rfl (fun u2 hu2 => ?_)))
  all_goals first | rfl | omega

set_option maxHeartbeats 4000000 in
theorem swlen_z (E : Nat → Addr) (es ey : List (Int × Bool × Int × Int)) (n k m q : Nat) (L M : List (((Int × Int) × (Int × Int)) × Bool)) (h : n ≤ 1099511627776) : Does (Gm E) 19 (Sp0 [.ptr 0 0] [(0, .cells 88 [.ptr 1 0, .ptr 4 0]), (1, .cells 93 [.mp 2, .sl 3 n k]), (2, .pr (mapPr (Enc.ag (Zz.encP (Zz.encP Zz.encI Zz.encI) (Zz.encP Zz.encI Zz.encI))) veB L)), (3, .arr (Int × Bool × Int × Int) (Zz.encP Zz.encI (Zz.encP Zz.encB (Zz.encP Zz.encI Zz.encI))) 64 es k), (4, .cells 93 [.mp 5, .sl 6 m q]), (5, .pr (mapPr (Enc.ag (Zz.encP (Zz.encP Zz.encI Zz.encI) (Zz.encP Zz.encI Zz.encI))) veB M)), (6, .arr (Int × Bool × Int × Int) (Zz.encP Zz.encI (Zz.encP Zz.encB (Zz.encP Zz.encI Zz.encI))) 64 ey q)] 7 (.int .i64 ((n / 2 : Nat)))) := by
  refine fn_intro (gmOk E) 8 7 [] Tryd.func19 rfl rfl rfl rfl rfl ?_
  repeat' first | (intro h; first | (exfalso; omega; done) | skip) | (refine And.intro ?_ ?_) | exact True.intro | (refine @Exists.intro Unit _ () ?_) | (refine @Exists.intro (_ = _) _ rfl ?_) | (change CallGoal _ _ _ _ _ _; first | (refine call0 (axlen_z E es n k L h) [1, 2, 3] rfl (And.intro rfl (And.intro rfl (And.intro rfl True.intro))) rfl ?_))
  all_goals first | rfl | omega

theorem pair_eq (E : Nat → Addr) (a b : Int × Int) (h : a = b) : Does (Gm E) 61 (Sp0 [.agg [.int .i64 a.1, .int .i64 a.2], .agg [.int .i64 b.1, .int .i64 b.2]] [] 0 (.tup [.agg [.int .i64 0, .int .i64 0, .int .i64 0, .int .i64 0], .ff])) := (pair_z E a b).ret (by subst h; simp [ordPair, SV.den, SV.denL]) (by simp [SV.bd, SV.bdL])
theorem pair_ne (E : Nat → Addr) (a b : Int × Int) (h : ¬ a = b) : Does (Gm E) 61 (Sp0 [.agg [.int .i64 a.1, .int .i64 a.2], .agg [.int .i64 b.1, .int .i64 b.2]] [] 0 (.tup [.agg [.int .i64 (ordPair a b).1.1, .int .i64 (ordPair a b).1.2, .int .i64 (ordPair a b).2.1, .int .i64 (ordPair a b).2.2], .tt])) := (pair_z E a b).ret (by simp [h, SV.den, SV.denL]) (by simp [SV.bd, SV.bdL])
set_option maxHeartbeats 4000000 in
theorem swmeet_eq (E : Nat → Addr) (es ey : List (Int × Bool × Int × Int)) (n k m q : Nat) (L M : List (((Int × Int) × (Int × Int)) × Bool)) (a b : Int × Int) (h : a = b) : Does (Gm E) 34 (Sp0 [.ptr 0 0, .agg [.int .i64 a.1, .int .i64 a.2], .agg [.int .i64 b.1, .int .i64 b.2]] [(0, .cells 88 [.ptr 1 0, .ptr 4 0]), (1, .cells 93 [.mp 2, .sl 3 n k]), (2, .pr (mapPr (Enc.ag (Zz.encP (Zz.encP Zz.encI Zz.encI) (Zz.encP Zz.encI Zz.encI))) veB L)), (3, .arr (Int × Bool × Int × Int) (Zz.encP Zz.encI (Zz.encP Zz.encB (Zz.encP Zz.encI Zz.encI))) 64 es k), (4, .cells 93 [.mp 5, .sl 6 m q]), (5, .pr (mapPr (Enc.ag (Zz.encP (Zz.encP Zz.encI Zz.encI) (Zz.encP Zz.encI Zz.encI))) veB M)), (6, .arr (Int × Bool × Int × Int) (Zz.encP Zz.encI (Zz.encP Zz.encB (Zz.encP Zz.encI Zz.encI))) 64 ey q)] 7 .ff) := by
  refine fn_intro (gmOk E) 38 7 [] Tryd.func34 rfl rfl rfl rfl rfl ?_
  repeat' first | (intro h; first | (exfalso; omega; done) | skip) | (refine And.intro ?_ ?_) | exact True.intro | (refine @Exists.intro Unit _ () ?_) | (refine @Exists.intro (_ = _) _ rfl ?_) | (change DrawGoal _ _ _ _ _ _; first | (change DrawGoal _ _ _ [_, _, _, _, _, _, _, _, _, _, _, _, _, _, _, _, _, _, _, _, _, _, _, _] _ _; refine draw_tree (gmOk E) [0, 1, 4, 9] (.leaf [(0, true), (1, true), (2, true), (3, true), (4, true), (5, true), (6, true), (7, true), (8, true), (9, true), (10, false), (11, true), (12, true), (13, true), (14, true), (15, true), (16, true), (17, true), (18, true), (19, true), (20, true), (21, false), (22, true), (23, true)]) (by kernel_rfl) ?_)) | (change CallGoal _ _ _ _ _ _; first | (refine call0 (pair_eq E a b h) [] rfl True.intro rfl ?_))
  all_goals first | rfl | omega

set_option maxHeartbeats 4000000 in
theorem swmeet_ne (E : Nat → Addr) (es ey : List (Int × Bool × Int × Int)) (n k m q : Nat) (L M : List (((Int × Int) × (Int × Int)) × Bool)) (a b : Int × Int) (h : ¬ a = b) : Does (Gm E) 34 (Sp0 [.ptr 0 0, .agg [.int .i64 a.1, .int .i64 a.2], .agg [.int .i64 b.1, .int .i64 b.2]] [(0, .cells 88 [.ptr 1 0, .ptr 4 0]), (1, .cells 93 [.mp 2, .sl 3 n k]), (2, .pr (mapPr (Enc.ag (Zz.encP (Zz.encP Zz.encI Zz.encI) (Zz.encP Zz.encI Zz.encI))) veB L)), (3, .arr (Int × Bool × Int × Int) (Zz.encP Zz.encI (Zz.encP Zz.encB (Zz.encP Zz.encI Zz.encI))) 64 es k), (4, .cells 93 [.mp 5, .sl 6 m q]), (5, .pr (mapPr (Enc.ag (Zz.encP (Zz.encP Zz.encI Zz.encI) (Zz.encP Zz.encI Zz.encI))) veB M)), (6, .arr (Int × Bool × Int × Int) (Zz.encP Zz.encI (Zz.encP Zz.encB (Zz.encP Zz.encI Zz.encI))) 64 ey q)] 7 (.bl ((Go.Px.getK L (ordPair a b)).getD false && (Go.Px.getK M (ordPair a b)).getD false))) := by
  refine fn_intro (gmOk E) 38 7 [] Tryd.func34 rfl rfl rfl rfl rfl ?_
  repeat' first | (intro h; first | (exfalso; omega; done) | skip) | (refine And.intro ?_ ?_) | exact True.intro | (refine @Exists.intro Unit _ () ?_) | (refine @Exists.intro (_ = _) _ rfl ?_) | (change OpGoal _ _ _ _ (.lookup _ _ _ _) _; refine lookupB_rule mapP 2 L (ordPair a b) rfl rfl rfl (fun hl2 => ?_) (fun hl2 => ?_)) | (change OpGoal _ _ _ _ (.lookup _ _ _ _) _; refine lookupB_rule mapP 5 M (ordPair a b) rfl rfl rfl (fun hl5 => ?_) (fun hl5 => ?_)) | (change DrawGoal _ _ _ _ _ _; first | (change DrawGoal _ _ _ [_, _, _, _, _, _, _, _, _, _, _, _, _, _, _, _, _, _, _, _, _, _, _, _] _ _; refine draw_tree (gmOk E) [0, 1, 4, 9] (.leaf [(0, true), (1, true), (2, true), (3, true), (4, true), (5, true), (6, true), (7, true), (8, true), (9, true), (10, false), (11, true), (12, true), (13, true), (14, true), (15, true), (16, true), (17, true), (18, true), (19, true), (20, true), (21, false), (22, true), (23, true)]) (by kernel_rfl) ?_)) | (change CallGoal _ _ _ _ _ _; first | (refine call0 (pair_ne E a b h) [] rfl True.intro rfl ?_))
  all_goals first | rfl | omega | (rw [hl2, hl5]; rfl) | (rw [hl2]; rfl)

/-- Pairs that a map hasn't. -/
def notM (M : List (((Int × Int) × (Int × Int)) × Bool)) (p : ((Int × Int) × (Int × Int))) : Bool := !(Go.Px.getK M p).getD false
set_option maxHeartbeats 4000000 in
theorem swfn_z (E : Nat → Addr) (p : ((Int × Int) × (Int × Int))) (m q : Nat) (M : List (((Int × Int) × (Int × Int)) × Bool)) : Does (Gm E) 48 (Sp0 [.agg [.int .i64 p.1.1, .int .i64 p.1.2, .int .i64 p.2.1, .int .i64 p.2.2], .ptr 0 0] [(0, .cells 24 [.ptr 1 0]), (1, .cells 88 [.ptr 2 0, .ptr 3 0]), (3, .cells 93 [.mp 4, .sl 5 m q]), (4, .pr (mapPr (Enc.ag (Zz.encP (Zz.encP Zz.encI Zz.encI) (Zz.encP Zz.encI Zz.encI))) veB M))] 6 (.bl (notM M p))) := by
  refine fn_intro (gmOk E) 14 6 [] Tryd.func48 rfl rfl rfl rfl rfl ?_
  repeat' first | (intro h; first | (exfalso; omega; done) | skip) | (refine And.intro ?_ ?_) | exact True.intro | (refine @Exists.intro Unit _ () ?_) | (refine @Exists.intro (_ = _) _ rfl ?_) | (change OpGoal _ _ _ _ (.lookup _ _ _ _) _; refine lookupB_rule mapP 4 M p rfl rfl rfl (fun hl4 => ?_) (fun hl4 => ?_)) | (change DrawGoal _ _ _ _ _ _; first | (change DrawGoal _ _ _ [_, _, _, _, _, _, _, _, _, _, _] _ _; refine draw_tree (gmOk E) [0, 1, 3, 6] (.leaf [(0, true), (1, true), (2, true), (3, true), (4, true), (5, true), (6, true), (7, true), (8, false), (9, true), (10, true)]) (by kernel_rfl) ?_))
  all_goals first | rfl | omega | (unfold notM; rw [hl4]; rfl)

set_option maxHeartbeats 4000000 in
theorem indexP_z (E : Nat → Addr) (l : List ((Int × Int) × (Int × Int))) (n k : Nat) (m q : Nat) (M : List (((Int × Int) × (Int × Int)) × Bool)) (h : n = l.length ∧ l.length ≤ 1099511627776) : Does (Gm E) 78 (Sp0 [.sl 0 n k, .fn 48 [.ptr 1 0]] [(0, .ro ((Int × Int) × (Int × Int)) (Zz.encP (Zz.encP Zz.encI Zz.encI) (Zz.encP Zz.encI Zz.encI)) l k), (1, .cells 24 [.ptr 2 0]), (2, .cells 88 [.ptr 3 0, .ptr 4 0]), (4, .cells 93 [.mp 5, .sl 6 m q]), (5, .pr (mapPr (Enc.ag (Zz.encP (Zz.encP Zz.encI Zz.encI) (Zz.encP Zz.encI Zz.encI))) veB M))] 7 (.int .i64 (idxP (notM M) l))) := by
  obtain ⟨rfl, h⟩ := h
  refine fn_intro (gmOk E) 19 7 [] Tryd.func78 rfl rfl rfl rfl rfl ?_
  repeat' first | (intro h; first | (exfalso; omega; done) | skip) | (refine And.intro ?_ ?_) | exact True.intro | (refine @Exists.intro Unit _ () ?_) | (refine @Exists.intro (_ = _) _ rfl ?_) | (change LoopGoal _ _ _ _ _ _; refine loop_at 2 (gmOk E) rfl [] (X := Int) (fun i => [(8, .int .i64 i)]) (fun i => []) [] (fun i => 0 ≤ i ∧ i ≤ (l.length : Nat) ∧ NoneTo (notM M) l i) (fun i => l.length - i.toNat) ⟨0, ?_⟩ (fun i hI => ?_)) | (change @Exists (Int) (fun _ => updK _ _ _ _ _ _); refine @Exists.intro (Int) _ ((?_)) ?_; rotate_left 1) | (change CallGoal _ _ _ _ _ _; first | (refine call0 (swfn_z E (l.getD i.toNat ((0, 0), (0, 0))) m q M) [1, 2, 3, 4, 5, 6] rfl (And.intro rfl (And.intro rfl (And.intro rfl (And.intro rfl True.intro)))) rfl ?_))
  all_goals first
    | (dsimp only; first | rfl | omega)
    | rfl
    | omega
    | exact noneP_start
    | exact noneP_next hI ‹i < _› ‹_ = false›
    | exact (idxP_in hI ‹i < _› ‹_ = true›).symm
    | exact (idxP_in hI ‹i < _› ‹_ = true›)
    | exact (idxP_none hI ‹¬ i < _›).symm
    | exact (idxP_none hI ‹¬ i < _›)

set_option maxHeartbeats 4000000 in
theorem deleteP_z (E : Nat → Addr) (l : List ((Int × Int) × (Int × Int))) (n k : Nat) (m q : Nat) (M : List (((Int × Int) × (Int × Int)) × Bool)) (h : n = l.length ∧ l.length ≤ 1099511627776 ∧ l.length ≤ k) : Does (Gm E) 46 ⟨[.sl 0 n k, .fn 48 [.ptr 1 0]], [(0, .arr ((Int × Int) × (Int × Int)) (Zz.encP (Zz.encP Zz.encI Zz.encI) (Zz.encP Zz.encI Zz.encI)) 41 l k), (1, .cells 24 [.ptr 2 0]), (2, .cells 88 [.ptr 3 0, .ptr 4 0]), (4, .cells 93 [.mp 5, .sl 6 m q]), (5, .pr (mapPr (Enc.ag (Zz.encP (Zz.encP Zz.encI Zz.encI) (Zz.encP Zz.encI Zz.encI))) veB M))], 7, 7, Unit, fun _ => True, fun _ => .sl 0 (dropP (notM M) l).length k, fun _ => [(0, .arr ((Int × Int) × (Int × Int)) (Zz.encP (Zz.encP Zz.encI Zz.encI) (Zz.encP Zz.encI Zz.encI)) 41 (dropP (notM M) l ++ List.replicate (l.length - (dropP (notM M) l).length) ((0, 0), (0, 0))) k), (1, .cells 24 [.ptr 2 0]), (2, .cells 88 [.ptr 3 0, .ptr 4 0]), (4, .cells 93 [.mp 5, .sl 6 m q]), (5, .pr (mapPr (Enc.ag (Zz.encP (Zz.encP Zz.encI Zz.encI) (Zz.encP Zz.encI Zz.encI))) veB M))]⟩ := by
  obtain ⟨rfl, h⟩ := h
  refine fn_intro (gmOk E) 42 7 [] Tryd.func46 rfl rfl rfl rfl rfl ?_
  repeat' first | (intro h; first | (exfalso; omega; done) | skip) | (refine And.intro ?_ ?_) | exact True.intro | (refine @Exists.intro Unit _ () ?_) | (refine @Exists.intro (_ = _) _ rfl ?_) | (change OpGoal _ _ _ _ (.call { callee := .builtin .clear, args := _, argTypes := _ }) _; refine clear_rule (gmOk E) 0 _ _ _ _ _ _ rfl rfl rfl rfl rfl rfl rfl ?_ ?_) | (change LoopGoal _ _ _ _ _ _; refine loop_at 5 (gmOk E) rfl [] (X := (Int × Int × List ((Int × Int) × (Int × Int)))) (fun x => [(5, .int .i64 x.1), (6, .int .i64 x.2.1)]) (fun x => [(0, .arr ((Int × Int) × (Int × Int)) (Zz.encP (Zz.encP Zz.encI Zz.encI) (Zz.encP Zz.encI Zz.encI)) 41 x.2.2 k)]) [] (fun x => 0 ≤ x.1 ∧ 0 ≤ x.2.1 ∧ Cut (notM M) l x.2.2 x.1.toNat x.2.1.toNat) (fun x => (l.length - x.2.1).toNat) ⟨(idxP (notM M) l, idxP (notM M) l + 1, l), ?_⟩ (fun x hI => ?_)) | (change @Exists ((Int × Int × List ((Int × Int) × (Int × Int)))) (fun _ => updK _ _ _ _ _ _); refine @Exists.intro ((Int × Int × List ((Int × Int) × (Int × Int)))) _ ((?_, ?_, ?_)) ?_; rotate_left 3) | (change CallGoal _ _ _ _ _ _; first | (refine call0 (indexP_z E l _ _ m q M ⟨rfl, h.1⟩) [0, 1, 2, 3, 4, 5, 6] rfl (And.intro rfl (And.intro rfl (And.intro rfl (And.intro rfl (And.intro rfl True.intro))))) rfl ?_) | (refine call0 (swfn_z E (x.2.2.getD x.2.1.toNat ((0, 0), (0, 0))) m q M) [1, 2, 3, 4, 5, 6] rfl (And.intro rfl (And.intro rfl (And.intro rfl (And.intro rfl True.intro)))) rfl ?_))
  all_goals first
    | (dsimp only; first | rfl | omega)
    | rfl
    | omega
    | (have c0 := idxP_le (notM M) l; (try dsimp only); omega)
    | (have c := hI.2.2; have c1 := c.len; have c2 := c.le; have c3 := c.jl; (try dsimp only); omega)
    | exact cutP_start ‹¬ _ = _›
    | exact cutP_keep hI ‹x.2.1 < _› ‹_›
    | exact cutP_skip hI ‹x.2.1 < _› ‹_›
    | (have c := hI.2.2; exact c.lenEq (by omega))
    | (have c := hI.2.2; have c1 := c.len; rw [← c.lenEq (by omega), c1]; have c2 := c.done (by omega) []; simp only [List.append_nil, List.take_take, Nat.min_self] at c2; rw [c2])
    | (rw [dropP_of_idx ‹idxP _ l = _›]; done)
    | (rw [dropP_of_idx ‹idxP _ l = _›]; simp; done)

theorem deleteP_s (E : Nat → Addr) (l : List ((Int × Int) × (Int × Int))) (n k : Nat) (m q : Nat) (M : List (((Int × Int) × (Int × Int)) × Bool)) (h : n = l.length ∧ l.length ≤ 1099511627776 ∧ l.length ≤ k) : Does (Gm E) 46 ⟨[.sl 0 n k, .fn 48 [.ptr 1 0]], [(0, .arr ((Int × Int) × (Int × Int)) (Zz.encP (Zz.encP Zz.encI Zz.encI) (Zz.encP Zz.encI Zz.encI)) 41 l k), (1, .cells 24 [.ptr 2 0]), (2, .cells 88 [.ptr 3 0, .ptr 4 0]), (4, .cells 93 [.mp 5, .sl 6 m q]), (5, .pr (mapPr (Enc.ag (Zz.encP (Zz.encP Zz.encI Zz.encI) (Zz.encP Zz.encI Zz.encI))) veB M))], 7, 7, Unit, fun _ => True, fun _ => .sl 0 (dropP (notM M) l).length k, fun _ => [(0, .arr ((Int × Int) × (Int × Int)) (Zz.encP (Zz.encP Zz.encI Zz.encI) (Zz.encP Zz.encI Zz.encI)) 41 (dropP (notM M) l) k), (1, .cells 24 [.ptr 2 0]), (2, .cells 88 [.ptr 3 0, .ptr 4 0]), (4, .cells 93 [.mp 5, .sl 6 m q]), (5, .pr (mapPr (Enc.ag (Zz.encP (Zz.encP Zz.encI Zz.encI) (Zz.encP Zz.encI Zz.encI))) veB M))]⟩ :=
  Does.post_mono _ (deleteP_z E l n k m q M h) fun x En V w _ h => h.shrink (c := 0) rfl
set_option maxHeartbeats 4000000 in
theorem swpairs_z (E : Nat → Addr) (es ey : List (Int × Bool × Int × Int)) (n k m q : Nat) (L M : List (((Int × Int) × (Int × Int)) × Bool)) (h : L.length ≤ 1000000000) : Does (Gm E) 14 ⟨[.ptr 0 0], [(0, .cells 88 [.ptr 1 0, .ptr 4 0]), (1, .cells 93 [.mp 2, .sl 3 n k]), (2, .pr (mapPr (Enc.ag (Zz.encP (Zz.encP Zz.encI Zz.encI) (Zz.encP Zz.encI Zz.encI))) veB L)), (3, .arr (Int × Bool × Int × Int) (Zz.encP Zz.encI (Zz.encP Zz.encB (Zz.encP Zz.encI Zz.encI))) 64 es k), (4, .cells 93 [.mp 5, .sl 6 m q]), (5, .pr (mapPr (Enc.ag (Zz.encP (Zz.encP Zz.encI Zz.encI) (Zz.encP Zz.encI Zz.encI))) veB M)), (6, .arr (Int × Bool × Int × Int) (Zz.encP Zz.encI (Zz.encP Zz.encB (Zz.encP Zz.encI Zz.encI))) 64 ey q)], 7, 8, Nat, fun _ => True, fun r => .sl 7 (dropP (notM M) (ordS ltP (normP (L.map (·.1))))).length r, fun r => [(0, .cells 88 [.ptr 1 0, .ptr 4 0]), (1, .cells 93 [.mp 2, .sl 3 n k]), (2, .pr (mapPr (Enc.ag (Zz.encP (Zz.encP Zz.encI Zz.encI) (Zz.encP Zz.encI Zz.encI))) veB L)), (3, .arr (Int × Bool × Int × Int) (Zz.encP Zz.encI (Zz.encP Zz.encB (Zz.encP Zz.encI Zz.encI))) 64 es k), (4, .cells 93 [.mp 5, .sl 6 m q]), (5, .pr (mapPr (Enc.ag (Zz.encP (Zz.encP Zz.encI Zz.encI) (Zz.encP Zz.encI Zz.encI))) veB M)), (6, .arr (Int × Bool × Int × Int) (Zz.encP Zz.encI (Zz.encP Zz.encB (Zz.encP Zz.encI Zz.encI))) 64 ey q), (7, .arr ((Int × Int) × (Int × Int)) (Zz.encP (Zz.encP Zz.encI Zz.encI) (Zz.encP Zz.encI Zz.encI)) 41 (dropP (notM M) (ordS ltP (normP (L.map (·.1))))) r)]⟩ := by
  refine fn_intro (gmOk E) 13 7 [] Tryd.func14 rfl rfl rfl rfl rfl ?_
  repeat' first | (intro h; first | (exfalso; omega; done) | skip) | (refine And.intro ?_ ?_) | exact True.intro | (refine @Exists.intro Unit _ () ?_) | (refine @Exists.intro (_ = _) _ rfl ?_) | (refine @Exists.intro (Nat) _ ?_ ?_; rotate_left) | (change CallGoal _ _ _ _ _ _; first | (refine call_rule (list_z E L h) [2] rfl (And.intro rfl True.intro) rfl (fun (r : Nat) hr => ?_)) | (refine call_rule (deleteP_s E _ _ _ m q M ⟨rfl, ?_, ?_⟩) [8, 7, 0, 1, 4, 5, 6] rfl (And.intro rfl (And.intro rfl (And.intro rfl (And.intro rfl (And.intro rfl True.intro))))) rfl (fun u2 hu2 => ?_)))
  all_goals first | rfl | omega | exact hr | (have e1 := ordS_len (lt := ltP) (normP (L.map (·.1))); have e2 := normP_len (L.map (·.1)); rw [List.length_map] at e2; omega)

end Go.Proofs.YtpojafdllcioiaaDoor

namespace Go.Proofs.YtpojafdllcioiaaDoor
open Go.Zz Go.Px
set_option linter.unusedVariables false
set_option linter.unusedSectionVars false
set_option linter.unusedSimpArgs false
set_option maxRecDepth 10000
open Go.P11 (Ky Meet)
abbrev Ends := List (Int × Bool × Int × Int)
abbrev PMap := List (((Int × Int) × (Int × Int)) × Bool)
abbrev Spans := List ((Int × Int) × Int × Int)
def names (es : Ends) : List Ky := es.map (·.2)
/-- The pairs by the ends' order. -/
structure Mid (ks : List Ky) (L : PMap) : Prop where
  nd : ks.Nodup
  lo : ∀ X, (false, X) ∈ ks → List.Sublist [((false, X) : Ky), (true, X)] ks
  hi : ∀ X, (true, X) ∈ ks → (false, X) ∈ ks
  kn : (L.map (·.1)).Nodup
  tr : ∀ q ∈ L, q.2 = true
  key : ∀ p, p ∈ L.map (·.1) ↔ (ltH p.1 p.2 = true ∧ Meet ks p.1 p.2)
theorem ordPair_of {a b : Int × Int} (h : a ≠ b) : (ordPair a b = (a, b) ∧ ltH a b = true) ∨ (ordPair a b = (b, a) ∧ ltH b a = true) := by
  unfold ordPair
  rw [if_neg h]
  rcases ordH.tri a b with q | q | q
  · left
    have : ltH b a = false := by
      cases hq : ltH b a with
      | false => rfl
      | true => have := ordH.tr _ _ _ q hq; rw [ordH.irr] at this; cases this
    rw [this]; exact ⟨rfl, q⟩
  · exact absurd q h
  · right; rw [if_pos q]; exact ⟨rfl, q⟩
theorem mem_putK {L : PMap} {x p : (Int × Int) × (Int × Int)} : p ∈ (Go.Px.putK L x true).map (·.1) ↔ p = x ∨ p ∈ L.map (·.1) := by
  rw [putK_keys]
  split
  · rename_i h
    have := hasK_iff.1 h
    constructor
    · exact .inr
    · rintro (rfl | h)
      · exact this
      · exact h
  · rw [List.mem_append, List.mem_singleton]; exact Or.comm
theorem mem_delK {L : PMap} {x p : (Int × Int) × (Int × Int)} : p ∈ (Go.Px.delK L x).map (·.1) ↔ p ≠ x ∧ p ∈ L.map (·.1) := by
  simp only [Go.Px.delK, List.mem_map, List.mem_filter, Bool.not_eq_true', decide_eq_false_iff_not]
  constructor
  · rintro ⟨q, ⟨h1, h2⟩, rfl⟩; exact ⟨h2, q, h1, rfl⟩
  · rintro ⟨h1, q, h2, rfl⟩; exact ⟨q, ⟨h2, h1⟩, rfl⟩
theorem putK_true {L : PMap} {x : (Int × Int) × (Int × Int)} (h : ∀ q ∈ L, q.2 = true) : ∀ q ∈ Go.Px.putK L x true, q.2 = true := by
  intro q hq
  unfold Go.Px.putK at hq
  split at hq
  · obtain ⟨r, hr, rfl⟩ := List.mem_map.1 hq
    split
    · rfl
    · exact h r hr
  · rcases List.mem_append.1 hq with e | e
    · exact h q e
    · rw [List.mem_singleton.1 e]
/-- Two neighbours of two handles change places. -/
theorem Mid.swap {A B : List Ky} {f s : Int × Bool × Int × Int} {L : PMap} (h : Mid (A ++ f.2 :: s.2 :: B) L) (hne : f.2.2 ≠ s.2.2) : Mid (A ++ s.2 :: f.2 :: B) (swapL L f s) := by
  have hnd := Go.P11.nodup_swap h.nd
  have hmem : ∀ k, k ∈ A ++ s.2 :: f.2 :: B ↔ k ∈ A ++ f.2 :: s.2 :: B := fun k => by
    simp only [List.mem_append, List.mem_cons]
    constructor <;> rintro (h | h | h | h) <;> simp [h]
  have hlo : ∀ X, (false, X) ∈ A ++ s.2 :: f.2 :: B → List.Sublist [((false, X) : Ky), (true, X)] (A ++ s.2 :: f.2 :: B) := fun X hX =>
    Go.P11.sub_swap (h.lo X ((hmem _).1 hX)) fun ⟨h1, h2⟩ => hne (by rw [← h1, ← h2])
  have hhi : ∀ X, (true, X) ∈ A ++ s.2 :: f.2 :: B → (false, X) ∈ A ++ s.2 :: f.2 :: B := fun X hX => (hmem _).2 (h.hi X ((hmem _).1 hX))
  obtain ⟨fa, fh, fi⟩ := f
  obtain ⟨sa, sh, si⟩ := s
  simp only at h hne hnd hmem hlo hhi ⊢
  by_cases hh : fh = sh
  · -- both low or both high
    have : swapL L (fa, fh, fi) (sa, sh, si) = L := by unfold swapL; rw [if_pos (.inr hh)]
    rw [this]
    refine ⟨hnd, hlo, hhi, h.kn, h.tr, fun p => (h.key p).trans ?_⟩
    by_cases hp : p.1 = p.2
    · rw [hp, ordH.irr]; simp
    · rw [Go.P11.meet_same (.inl hh) hp]
  · cases fh with
    | true =>
      have hs : sh = false := by cases sh with | true => exact absurd rfl hh | false => rfl
      subst hs
      have e : swapL L (fa, true, fi) (sa, false, si) = Go.Px.putK L (ordPair fi si) true := by unfold swapL; rw [if_neg (by simp [hne]), if_pos rfl]
      rw [e]
      have hb := Go.P11.meet_begins h.nd (h.lo fi (h.hi fi (by simp))) (h.lo si (by simp))
      refine ⟨hnd, hlo, hhi, putK_nd h.kn _ _, putK_true h.tr, fun p => ?_⟩
      rw [mem_putK, h.key p]
      by_cases h1 : p.1 = fi ∧ p.2 = si
      · obtain ⟨p1, p2⟩ := p
        obtain ⟨rfl, rfl⟩ : p1 = fi ∧ p2 = si := h1
        rcases ordPair_of hne with ⟨q1, q2⟩ | ⟨q1, q2⟩
        · rw [q1]; simp only [true_or, true_iff]; exact ⟨q2, hb⟩
        · have hn : ltH p1 p2 = false := by
            cases hq : ltH p1 p2 with
            | false => rfl
            | true => have := ordH.tr _ _ _ q2 hq; rw [ordH.irr] at this; cases this
          simp only [hn, q1]
          constructor
          · rintro (e | ⟨e, _⟩)
            · exact absurd (Prod.mk.inj e).1 hne
            · cases e
          · rintro ⟨e, _⟩; cases e
      · by_cases h2 : p.1 = si ∧ p.2 = fi
        · obtain ⟨p1, p2⟩ := p
          obtain ⟨rfl, rfl⟩ : p1 = si ∧ p2 = fi := h2
          rcases ordPair_of hne with ⟨q1, q2⟩ | ⟨q1, q2⟩
          · have hn : ltH p1 p2 = false := by
              cases hq : ltH p1 p2 with
              | false => rfl
              | true => have := ordH.tr _ _ _ q2 hq; rw [ordH.irr] at this; cases this
            simp only [hn, q1]
            constructor
            · rintro (e | ⟨e, _⟩)
              · exact absurd (Prod.mk.inj e).1.symm hne
              · cases e
            · rintro ⟨e, _⟩; cases e
          · rw [q1]; simp only [true_or, true_iff]; exact ⟨q2, hb.symm⟩
        · have hx : p ≠ ordPair fi si := fun e => by
            rcases ordPair_of hne with ⟨q1, _⟩ | ⟨q1, _⟩
            · rw [q1] at e; exact h1 ⟨by rw [e], by rw [e]⟩
            · rw [q1] at e; exact h2 ⟨by rw [e], by rw [e]⟩
          simp only [hx, false_or]
          rw [Go.P11.meet_other (f := (true, fi)) (s := (false, si)) h1 h2]
    | false =>
      have hs : sh = true := by cases sh with | false => exact absurd rfl hh | true => rfl
      subst hs
      have e : swapL L (fa, false, fi) (sa, true, si) = Go.Px.delK L (ordPair fi si) := by unfold swapL; rw [if_neg (by simp [hne]), if_neg (by simp)]
      rw [e]
      have hb := Go.P11.meet_ends h.nd
      refine ⟨hnd, hlo, hhi, delK_nd h.kn _, fun q hq => h.tr q (List.mem_filter.1 hq).1, fun p => ?_⟩
      rw [mem_delK, h.key p]
      by_cases h1 : p.1 = fi ∧ p.2 = si
      · obtain ⟨p1, p2⟩ := p
        obtain ⟨rfl, rfl⟩ : p1 = fi ∧ p2 = si := h1
        constructor
        · rintro ⟨q, q2, _⟩
          rcases ordPair_of hne with ⟨q1, _⟩ | ⟨q1, q3⟩
          · exact absurd q1.symm q
          · have := ordH.tr _ _ _ q3 q2; rw [ordH.irr] at this; cases this
        · rintro ⟨_, q⟩; exact absurd q hb
      · by_cases h2 : p.1 = si ∧ p.2 = fi
        · obtain ⟨p1, p2⟩ := p
          obtain ⟨rfl, rfl⟩ : p1 = si ∧ p2 = fi := h2
          constructor
          · rintro ⟨q, q2, _⟩
            rcases ordPair_of hne with ⟨q1, q3⟩ | ⟨q1, _⟩
            · have := ordH.tr _ _ _ q3 q2; rw [ordH.irr] at this; cases this
            · exact absurd q1.symm q
          · rintro ⟨_, q⟩; exact absurd q.symm hb
        · have hx : p ≠ ordPair fi si := fun e => by
            rcases ordPair_of hne with ⟨q1, _⟩ | ⟨q1, _⟩
            · rw [q1] at e; exact h1 ⟨by rw [e], by rw [e]⟩
            · rw [q1] at e; exact h2 ⟨by rw [e], by rw [e]⟩
          simp only [hx, ne_eq, not_false_eq_true, true_and]
          rw [Go.P11.meet_other (f := (false, fi)) (s := (true, si)) h1 h2]
/-- An end goes back over others. -/
theorem Mid.back {x : Int × Bool × Int × Int} {L : PMap} : ∀ {Q A B : Ends}, Mid (names (A ++ (Q ++ x :: B))) L → (∀ y ∈ Q, y.2.2 ≠ x.2.2) → Mid (names (A ++ x :: (Q ++ B))) (backL L Q x)
  | [], A, B, h, _ => h
  | y :: Q, A, B, h, hq => by
    have h1 := Mid.back (Q := Q) (A := A ++ [y]) (B := B) (L := L) (by simpa [List.append_assoc] using h) (fun z hz => hq z (List.mem_cons_of_mem _ hz))
    have h2 : Mid (names A ++ y.2 :: x.2 :: names (Q ++ B)) (backL L Q x) := by simpa [names, List.append_assoc] using h1
    have h3 := h2.swap (hq y (List.mem_cons_self ..))
    have e : backL L (y :: Q) x = swapL (backL L Q x) y x := rfl
    rw [e]
    simpa [names] using h3
theorem mem_cutL {h : Int × Int} {L : PMap} {p : (Int × Int) × (Int × Int)} : p ∈ (cutL h L).map (·.1) ↔ p ∈ L.map (·.1) ∧ p.1 ≠ h ∧ p.2 ≠ h := by
  simp only [cutL, List.mem_map, List.mem_filter, isP, Bool.not_eq_true', decide_eq_false_iff_not, not_or]
  constructor
  · rintro ⟨q, ⟨h1, h2⟩, rfl⟩; exact ⟨⟨q, h1, rfl⟩, h2⟩
  · rintro ⟨⟨q, h1, rfl⟩, h2⟩; exact ⟨q, ⟨h1, h2⟩, rfl⟩
theorem names_drop (h : Int × Int) (es : Ends) : names (dropP (isE h) es) = (names es).filter fun k => !decide (k.2 = h) := by
  unfold names dropP
  rw [List.filter_map]
  rfl
/-- A handle's ends are taken away. -/
theorem Mid.drop {es : Ends} {L : PMap} (h : Mid (names es) L) (hh : Int × Int) : Mid (names (dropP (isE hh) es)) (cutL hh L) := by
  rw [names_drop]
  refine ⟨h.nd.filter _, fun X hX => ?_, fun X hX => ?_, h.kn.sublist (List.filter_sublist.map _), fun q hq => h.tr q (List.mem_filter.1 hq).1, fun p => ?_⟩
  · obtain ⟨h1, h2⟩ := List.mem_filter.1 hX
    have h2 : X ≠ hh := by simpa using h2
    exact (Go.P11.sub_filter (by simp [h2]) (by simp [h2])).2 (h.lo X h1)
  · obtain ⟨h1, h2⟩ := List.mem_filter.1 hX
    exact List.mem_filter.2 ⟨h.hi X h1, by simpa using h2⟩
  · rw [mem_cutL, h.key p]
    constructor
    · rintro ⟨⟨h1, h2⟩, h3, h4⟩; exact ⟨h1, (Go.P11.meet_drop h3 h4).2 h2⟩
    · rintro ⟨h1, h2⟩
      have h3 : p.1 ≠ hh := fun e => by rw [e] at h2; exact Go.P11.meet_gone h2
      have h4 : p.2 ≠ hh := fun e => by rw [e] at h2; exact Go.P11.meet_gone h2.symm
      exact ⟨⟨h1, (Go.P11.meet_drop h3 h4).1 h2⟩, h3, h4⟩
/-- Two ends of a new handle are put beyond all others. -/
theorem Mid.more {es : Ends} {L : PMap} (h : Mid (names es) L) {hh : Int × Int} (hn : (false, hh) ∉ names es) (lo hi : Int) : Mid (names (es ++ [lowE hh lo, highE hh hi])) L := by
  have e : names (es ++ [lowE hh lo, highE hh hi]) = names es ++ [(false, hh), (true, hh)] := by simp [names, lowE, highE]
  have hn2 : (true, hh) ∉ names es := fun q => hn (h.hi hh q)
  rw [e]
  refine ⟨List.nodup_append.2 ⟨h.nd, by simp, fun a ha b hb => ?_⟩, fun X hX => ?_, fun X hX => ?_, h.kn, h.tr, fun p => (h.key p).trans ?_⟩
  · rintro rfl
    rcases List.mem_cons.1 hb with q | q
    · exact hn (q ▸ ha)
    · exact hn2 (List.mem_singleton.1 q ▸ ha)
  · rcases List.mem_append.1 hX with q | q
    · exact (h.lo X q).trans (List.sublist_append_left _ _)
    · have : X = hh := by simpa using q
      subst this
      exact List.sublist_append_right _ _
  · rcases List.mem_append.1 hX with q | q
    · exact List.mem_append_left _ (h.hi X q)
    · have : X = hh := by simpa using q
      subst this
      exact List.mem_append_right _ (by simp)
  · by_cases h1 : p.1 = hh
    · have hx : ¬ Meet (names es) p.1 p.2 := fun q => hn (h1 ▸ (Go.P11.sub_mem q.1).1)
      by_cases h2 : p.2 = hh
      · rw [h1, h2, ordH.irr]; simp
      · have := Go.P11.meet_new hn h2
        rw [h1] at hx ⊢
        simp [hx, this]
    · by_cases h2 : p.2 = hh
      · have hx : ¬ Meet (names es) p.1 p.2 := fun q => hn (h2 ▸ (Go.P11.sub_mem q.2).1)
        have := Go.P11.meet_new hn h1
        have hy : ¬ Meet (names es ++ [(false, hh), (true, hh)]) p.1 hh := fun q => this (Meet.symm q)
        rw [h2] at hx ⊢
        simp [hx, hy]
      · rw [Go.P11.meet_more h1 h2]

/-! ### What an axis holds -/
structure Inv (m : Spans) (es : Ends) (L : PMap) : Prop where
  so : es.Pairwise Go.P11.ltE
  mem : ∀ e, e ∈ es ↔ ∃ s ∈ m, e = lowE s.1 s.2.1 ∨ e = highE s.1 s.2.2
  nd : (m.map (·.1)).Nodup
  ok : ∀ s ∈ m, s.2.1 ≤ s.2.2
  mid : Mid (names es) L
  len : es.length = 2 * m.length
def dropM (hh : Int × Int) (m : Spans) : Spans := m.filter fun s => !decide (s.1 = hh)
def putM (m : Spans) (s : (Int × Int) × Int × Int) : Spans := dropM s.1 m ++ [s]
theorem Inv.nil : Inv [] [] [] := ⟨.nil, fun e => by simp, .nil, fun s h => by simp at h, ⟨.nil, fun X h => by simp [names] at h, fun X h => by simp [names] at h, .nil, fun q h => by simp at h, fun p => by simp [names, Meet]⟩, rfl⟩
theorem mem_dropM {hh : Int × Int} {m : Spans} {s : (Int × Int) × Int × Int} : s ∈ dropM hh m ↔ s ∈ m ∧ s.1 ≠ hh := by simp [dropM]
theorem mem_dropE {hh : Int × Int} {es : Ends} {e : Int × Bool × Int × Int} : e ∈ dropP (isE hh) es ↔ e ∈ es ∧ e.2.2 ≠ hh := by simp [dropP, isE]
theorem lowE_h (s : Int × Int) (l : Int) : (lowE s l).2.2 = s := rfl
theorem highE_h (s : Int × Int) (l : Int) : (highE s l).2.2 = s := rfl
theorem Inv.name {m : Spans} {es : Ends} {L : PMap} (h : Inv m es L) {e : Int × Bool × Int × Int} (he : e ∈ es) : e.2.2 ∈ m.map (·.1) := by
  obtain ⟨s, hs, q | q⟩ := (h.mem e).1 he <;> rw [q] <;> exact List.mem_map.2 ⟨s, hs, rfl⟩
theorem filter_one {hh : Int × Int} : ∀ {m : Spans}, (m.map (·.1)).Nodup → hh ∈ m.map (·.1) → (dropM hh m).length + 1 = m.length
  | [], _, h => by simp at h
  | s :: r, hn, h => by
    simp only [List.map_cons, List.nodup_cons] at hn
    by_cases e : s.1 = hh
    · have : dropM hh (s :: r) = r := by
        unfold dropM
        rw [List.filter_cons]
        simp only [e, decide_true, Bool.not_true, Bool.false_eq_true, if_false]
        exact List.filter_eq_self.2 fun x hx => by
          have : x.1 ≠ hh := fun q => hn.1 (e ▸ q ▸ List.mem_map.2 ⟨x, hx, rfl⟩)
          simp [this]
      rw [this]; rfl
    · have h' : hh ∈ r.map (·.1) := by
        rcases List.mem_cons.1 (by simpa using h : hh ∈ s.1 :: r.map (·.1)) with q | q
        · exact absurd q.symm e
        · exact q
      have : dropM hh (s :: r) = s :: dropM hh r := by unfold dropM; rw [List.filter_cons]; simp [e]
      rw [this, List.length_cons, List.length_cons, filter_one hn.2 h']
theorem dropM_none {hh : Int × Int} {m : Spans} (h : hh ∉ m.map (·.1)) : dropM hh m = m := List.filter_eq_self.2 fun s hs => by
  have : s.1 ≠ hh := fun q => h (q ▸ List.mem_map.2 ⟨s, hs, rfl⟩)
  simp [this]
theorem drop_len2 {hh : Int × Int} : ∀ {es : Ends}, (names es).Nodup → (false, hh) ∈ names es → (true, hh) ∈ names es → (dropP (isE hh) es).length + 2 = es.length := by
  intro es hn h1 h2
  have e1 : (dropP (isE hh) es).length = ((names es).filter fun k => !decide (k.2 = hh)).length := by rw [← names_drop]; simp [names]
  have e2 : es.length = (names es).length := by simp [names]
  rw [e1, e2]
  generalize names es = ks at *
  have h3 : (ks.filter fun k => decide (k.2 = hh)).Perm [((false, hh) : Ky), (true, hh)] := by
    refine (List.perm_ext_iff_of_nodup (hn.filter _) (by simp)).2 fun k => ?_
    obtain ⟨b, k⟩ := k
    simp only [List.mem_filter, decide_eq_true_eq, List.mem_cons, Prod.mk.injEq, List.not_mem_nil, or_false]
    constructor
    · rintro ⟨_, rfl⟩; cases b <;> simp
    · rintro (⟨rfl, rfl⟩ | ⟨rfl, rfl⟩)
      · exact ⟨h1, rfl⟩
      · exact ⟨h2, rfl⟩
  have h4 := h3.length_eq
  have h5 := List.length_eq_countP_add_countP (p := fun k : Ky => decide (k.2 = hh)) (l := ks)
  rw [List.countP_eq_length_filter, List.countP_eq_length_filter] at h5
  have e3 : (ks.filter fun a => decide ¬ decide (a.2 = hh) = true) = ks.filter fun k => !decide (k.2 = hh) := List.filter_congr fun k _ => by simp
  rw [e3] at h5
  simp only [List.length_cons, List.length_nil] at h4
  omega
theorem Inv.has {m : Spans} {es : Ends} {L : PMap} (h : Inv m es L) (hh : Int × Int) : (dropP (isE hh) es).length = es.length ↔ hh ∉ m.map (·.1) := by
  constructor
  · intro hl hm
    obtain ⟨s, hs, rfl⟩ := List.mem_map.1 hm
    have h1 : (false, s.1) ∈ names es := List.mem_map.2 ⟨_, (h.mem _).2 ⟨s, hs, .inl rfl⟩, rfl⟩
    have h2 : (true, s.1) ∈ names es := List.mem_map.2 ⟨_, (h.mem _).2 ⟨s, hs, .inr rfl⟩, rfl⟩
    have := drop_len2 h.mid.nd h1 h2
    omega
  · intro hm
    rw [dropP_none fun e he => by
      have : e.2.2 ≠ hh := fun q => hm (q ▸ h.name he)
      simp [isE, this]]
theorem Inv.drop {m : Spans} {es : Ends} {L : PMap} (h : Inv m es L) (hh : Int × Int) : Inv (dropM hh m) (dropP (isE hh) es) (cutL hh L) := by
  refine ⟨h.so.filter _, fun e => ?_, h.nd.sublist (List.filter_sublist.map _), fun s hs => h.ok s (mem_dropM.1 hs).1, h.mid.drop hh, ?_⟩
  · rw [mem_dropE, h.mem e]
    constructor
    · rintro ⟨⟨s, hs, q⟩, hn⟩
      refine ⟨s, mem_dropM.2 ⟨hs, fun e => hn ?_⟩, q⟩
      rcases q with q | q <;> rw [q] <;> exact e
    · rintro ⟨s, hs, q⟩
      obtain ⟨h1, h2⟩ := mem_dropM.1 hs
      refine ⟨⟨s, h1, q⟩, ?_⟩
      rcases q with q | q <;> rw [q] <;> exact h2
  · by_cases hm : hh ∈ m.map (·.1)
    · have h1 := filter_one h.nd hm
      obtain ⟨s, hs, rfl⟩ := List.mem_map.1 hm
      have h2 := drop_len2 (hh := s.1) h.mid.nd (List.mem_map.2 ⟨_, (h.mem _).2 ⟨s, hs, .inl rfl⟩, rfl⟩) (List.mem_map.2 ⟨_, (h.mem _).2 ⟨s, hs, .inr rfl⟩, rfl⟩)
      have := h.len
      omega
    · rw [(h.has hh).2 hm, dropM_none hm]; exact h.len
theorem Inv.cut {m : Spans} {es : Ends} {L : PMap} (h : Inv m es L) {hh : Int × Int} (hl : (dropP (isE hh) es).length = es.length) : cutL hh L = L := by
  have hm := (h.has hh).1 hl
  refine List.filter_eq_self.2 fun q hq => ?_
  have hk := (h.mid.key q.1).1 (List.mem_map.2 ⟨q, hq, rfl⟩)
  have h1 : q.1.1 ∈ m.map (·.1) := by
    obtain ⟨e, he, hq⟩ := List.mem_map.1 (Go.P11.sub_mem hk.2.1).1
    have := h.name he
    rw [hq] at this; exact this
  have h2 : q.1.2 ∈ m.map (·.1) := by
    obtain ⟨e, he, hq⟩ := List.mem_map.1 (Go.P11.sub_mem hk.2.2).1
    have := h.name he
    rw [hq] at this; exact this
  have : ¬ (q.1.1 = hh ∨ q.1.2 = hh) := by
    rintro (e | e)
    · exact hm (e ▸ h1)
    · exact hm (e ▸ h2)
  simp [isP, this]
theorem back_sorted {R : Ends} {x : Int × Bool × Int × Int} {j : Nat} (hR : R.Pairwise Go.P11.ltE) (hb : BackTo R x j) (hx : x ∉ R) : (esAt R [] x j).Pairwise Go.P11.ltE := by
  have e : R = R.take j ++ R.drop j := (List.take_append_drop j R).symm
  have h1 : ∀ y ∈ R.drop j, Go.P11.ltE x y := fun y hy => (ltE_iff _ _).1 (hb.all y hy)
  have h2 : ∀ y ∈ R.take j, Go.P11.ltE y x := by
    by_cases hj : 0 < j
    · obtain ⟨i, rfl⟩ : ∃ i, j = i + 1 := ⟨j - 1, by omega⟩
      have hi : i < R.length := by have := hb.hi; omega
      have e1 : R.take (i + 1) = R.take i ++ [R.getD i (0, false, 0, 0)] := take_snoc hi
      have hlast : R.getD i (0, false, 0, 0) ∈ R := by
        rw [List.getD_eq_getElem?_getD, List.getElem?_eq_getElem hi]; exact List.getElem_mem hi
      have hne : R.getD i (0, false, 0, 0) ≠ x := fun q => hx (q ▸ hlast)
      have hno : ¬ Go.P11.ltE x (R.getD i (0, false, 0, 0)) := fun q => by
        have := hb.stop (by omega)
        rw [show i + 1 - 1 = i by omega, (ltE_iff _ _).2 q] at this; cases this
      have hlt := (Go.P11.ltE_tot hne).resolve_right hno
      rw [e1]
      exact Go.P11.ahead_all (by rw [← e1]; exact hR.sublist (List.take_sublist _ _)) hlt
    · have : j = 0 := by omega
      subst this
      intro y hy; simp at hy
  unfold esAt
  rw [List.append_nil]
  exact Go.P11.ins_sorted (by rw [← e]; exact hR) h1 h2
theorem mem_esAt {R T : Ends} {x e : Int × Bool × Int × Int} {j : Nat} : e ∈ esAt R T x j ↔ e ∈ R ∨ e = x ∨ e ∈ T := by
  have h := List.take_append_drop j R
  unfold esAt
  rw [← h] 
  simp only [List.mem_append, List.mem_cons]
  rw [h]
  constructor
  · rintro (q | q | q | q)
    · exact .inl (.inl q)
    · exact .inr (.inl q)
    · exact .inl (.inr q)
    · exact .inr (.inr q)
  · rintro ((q | q) | q | q)
    · exact .inl q
    · exact .inr (.inr (.inl q))
    · exact .inr (.inl q)
    · exact .inr (.inr (.inr q))
theorem Inv.put {m : Spans} {es : Ends} {L : PMap} (h : Inv m es L) {hh : Int × Int} {lo hi : Int} (hle : lo ≤ hi) {x : Nat × Nat × Nat} (hx : PutAt hh lo hi es x) : Inv (putM m (hh, lo, hi)) (put2 hh lo hi es x) (putL hh lo hi es L x) := by
  have hd := h.drop hh
  have hnn : ∀ e ∈ dropP (isE hh) es, e.2.2 ≠ hh := fun e he => (mem_dropE.1 he).2
  have hnl : lowE hh lo ∉ dropP (isE hh) es := fun q => hnn _ q rfl
  have s1 : (put1 hh lo es x.1).Pairwise Go.P11.ltE := back_sorted hd.so hx.a hnl
  have hnh : highE hh hi ∉ put1 hh lo es x.1 := fun q => by
    unfold put1 at q
    rcases mem_esAt.1 q with q | q | q
    · exact hnn _ q rfl
    · have : (true : Bool) = false := congrArg (fun e : Int × Bool × Int × Int => e.2.1) q
      cases this
    · simp at q
  have s2 : (put2 hh lo hi es x).Pairwise Go.P11.ltE := back_sorted s1 hx.b hnh
  have m1 := hd.mid.more (hh := hh) (fun q => by obtain ⟨e, he, hq⟩ := List.mem_map.1 q; exact hnn e he (by rw [hq])) lo hi
  -- the low end goes back
  have t1 : dropP (isE hh) es = (dropP (isE hh) es).take x.1 ++ (dropP (isE hh) es).drop x.1 := (List.take_append_drop _ _).symm
  have m2 : Mid (names (esAt (dropP (isE hh) es) [highE hh hi] (lowE hh lo) x.1)) (backL (cutL hh L) ((dropP (isE hh) es).drop x.1) (lowE hh lo)) := by
    have := Mid.back (x := lowE hh lo) (L := cutL hh L) (Q := (dropP (isE hh) es).drop x.1) (A := (dropP (isE hh) es).take x.1) (B := [highE hh hi]) (by rw [← List.append_assoc, ← t1]; exact m1) (fun y hy => hnn y (List.mem_of_mem_drop hy))
    exact this
  rw [esAt_snoc] at m2
  have t2 : put1 hh lo es x.1 = (put1 hh lo es x.1).take x.2.1 ++ (put1 hh lo es x.1).drop x.2.1 := (List.take_append_drop _ _).symm
  have m3 : Mid (names (put2 hh lo hi es x)) (putL hh lo hi es L x) := by
    have := Mid.back (x := highE hh hi) (L := backL (cutL hh L) ((dropP (isE hh) es).drop x.1) (lowE hh lo)) (Q := (put1 hh lo es x.1).drop x.2.1) (A := (put1 hh lo es x.1).take x.2.1) (B := []) (by rw [← List.append_assoc, ← t2]; exact m2) (fun y hy => by
      have hy1 := List.mem_of_mem_drop hy
      have hlt := hx.b.all y hy
      unfold put1 at hy1
      rcases mem_esAt.1 hy1 with q | q | q
      · exact hnn y q
      · rw [q, high_low hle] at hlt; cases hlt
      · simp at q)
    exact this
  refine ⟨s2, fun e => ?_, ?_, fun s hs => ?_, m3, ?_⟩
  · unfold put2 put1
    rw [mem_esAt, mem_esAt, hd.mem e]
    unfold putM
    constructor
    · rintro ((⟨s, hs, q⟩ | q | q) | q | q)
      · exact ⟨s, List.mem_append_left _ hs, q⟩
      · exact ⟨_, List.mem_append_right _ (List.mem_singleton.2 rfl), .inl q⟩
      · simp at q
      · exact ⟨_, List.mem_append_right _ (List.mem_singleton.2 rfl), .inr q⟩
      · simp at q
    · rintro ⟨s, hs, q⟩
      rcases List.mem_append.1 hs with h1 | h1
      · exact .inl (.inl ⟨s, h1, q⟩)
      · obtain rfl := List.mem_singleton.1 h1
        rcases q with q | q
        · exact .inl (.inr (.inl q))
        · exact .inr (.inl q)
  · unfold putM
    rw [List.map_append]
    refine List.nodup_append.2 ⟨hd.nd, by simp, fun a ha b hb => ?_⟩
    obtain ⟨s, hs, rfl⟩ := List.mem_map.1 ha
    have : b = hh := by simpa using hb
    rw [this]; exact (mem_dropM.1 hs).2
  · rcases List.mem_append.1 hs with h1 | h1
    · exact hd.ok s h1
    · obtain rfl := List.mem_singleton.1 h1; exact hle
  · unfold put2 putM
    rw [esAt_len, put1_len, List.length_append]
    have := hd.len
    simp only [List.length_nil, List.length_singleton]
    omega
/-- Whose spans meet. -/
structure PM (m : Spans) (p : (Int × Int) × (Int × Int)) : Prop where
  lt : ltH p.1 p.2 = true
  ex : ∃ a ∈ m, ∃ b ∈ m, a.1 = p.1 ∧ b.1 = p.2 ∧ a.2.1 ≤ b.2.2 ∧ b.2.1 ≤ a.2.2
theorem Inv.key {m : Spans} {es : Ends} {L : PMap} (h : Inv m es L) (p : (Int × Int) × (Int × Int)) : p ∈ L.map (·.1) ↔ PM m p := by
  rw [h.mid.key p]
  have main : ∀ {a b : (Int × Int) × Int × Int}, a ∈ m → b ∈ m → (Meet (names es) a.1 b.1 ↔ a.2.1 ≤ b.2.2 ∧ b.2.1 ≤ a.2.2) := fun {a b} ha hb =>
    Go.P11.meet_spans h.so h.mid.nd ((h.mem _).2 ⟨a, ha, .inl rfl⟩) ((h.mem _).2 ⟨a, ha, .inr rfl⟩) ((h.mem _).2 ⟨b, hb, .inl rfl⟩) ((h.mem _).2 ⟨b, hb, .inr rfl⟩)
  constructor
  · rintro ⟨h1, h2⟩
    obtain ⟨e, he, hq⟩ := List.mem_map.1 (Go.P11.sub_mem h2.1).1
    obtain ⟨f, hf, hr⟩ := List.mem_map.1 (Go.P11.sub_mem h2.2).1
    obtain ⟨a, ha, hae⟩ := List.mem_map.1 (h.name he)
    obtain ⟨b, hb, hbe⟩ := List.mem_map.1 (h.name hf)
    have ea : a.1 = p.1 := by rw [hae, hq]
    have eb : b.1 = p.2 := by rw [hbe, hr]
    rw [← ea, ← eb] at h2
    exact ⟨h1, a, ha, b, hb, ea, eb, (main ha hb).1 h2⟩
  · rintro ⟨h1, a, ha, b, hb, ea, eb, h2⟩
    exact ⟨h1, by rw [← ea, ← eb]; exact (main ha hb).2 h2⟩
theorem Inv.get {m : Spans} {es : Ends} {L : PMap} (h : Inv m es L) (p : (Int × Int) × (Int × Int)) : (Go.Px.getK L p).getD false = true ↔ PM m p := by
  rw [← h.key p]
  constructor
  · intro q
    cases hg : Go.Px.getK L p with
    | none => rw [hg] at q; cases q
    | some v =>
      have : hasK L p = true := by rw [hasK_get, hg]; rfl
      exact hasK_iff.1 this
  · intro q
    have : hasK L p = true := hasK_iff.2 q
    rw [hasK_get] at this
    obtain ⟨v, hv⟩ := Option.isSome_iff_exists.1 this
    obtain ⟨r, hr, hrv⟩ := Option.map_eq_some_iff.1 hv
    have := h.mid.tr r (List.mem_of_find?_eq_some hr)
    rw [hv, ← hrv, this]; rfl
/-- The pairs of an axis, in order. -/
def pairsL (L : PMap) : List ((Int × Int) × (Int × Int)) := ordS ltP (normP (L.map (·.1)))
theorem Inv.pairs {m : Spans} {es : Ends} {L : PMap} (h : Inv m es L) (p : (Int × Int) × (Int × Int)) : p ∈ pairsL L ↔ PM m p := by
  unfold pairsL
  rw [mem_ordS]
  unfold normP
  rw [List.mem_map]
  constructor
  · rintro ⟨q, hq, rfl⟩
    have hk := (h.key q).1 (List.mem_filter.1 hq).1
    have : ordPair q.1 q.2 = q := by
      rcases ordPair_of (show q.1 ≠ q.2 from fun e => by have := hk.lt; rw [e, ordH.irr] at this; cases this) with ⟨e, _⟩ | ⟨_, e⟩
      · exact e
      · have := ordH.tr _ _ _ hk.lt e; rw [ordH.irr] at this; cases this
    rw [this]; exact hk
  · intro hk
    refine ⟨p, List.mem_filter.2 ⟨(h.key p).2 hk, ?_⟩, ?_⟩
    · have : p.1 ≠ p.2 := fun e => by have := hk.lt; rw [e, ordH.irr] at this; cases this
      simp [this]
    · rcases ordPair_of (show p.1 ≠ p.2 from fun e => by have := hk.lt; rw [e, ordH.irr] at this; cases this) with ⟨e, _⟩ | ⟨_, e⟩
      · exact e
      · have := ordH.tr _ _ _ hk.lt e; rw [ordH.irr] at this; cases this
theorem pairsL_rises (L : PMap) : Rises ltP (pairsL L) := ordS_rises ordP _
/-- The pairs of a sweep, in order. -/
def pairs2 (L M : PMap) : List ((Int × Int) × (Int × Int)) := dropP (notM M) (pairsL L)
theorem pairs2_rises (L M : PMap) : Rises ltP (pairs2 L M) := (pairsL_rises L).filter _
theorem pairs2_mem {m r : Spans} {es ey : Ends} {L M : PMap} (h : Inv m es L) (h2 : Inv r ey M) (p : (Int × Int) × (Int × Int)) : p ∈ pairs2 L M ↔ PM m p ∧ PM r p := by
  unfold pairs2 dropP
  rw [List.mem_filter, h.pairs p, ← h2.get p]
  simp [notM]
theorem pairs_one {l k : List ((Int × Int) × (Int × Int))} (hl : Rises ltP l) (hk : Rises ltP k) (h : ∀ p, p ∈ l ↔ p ∈ k) : l = k := Rises.ext ordP hl hk h
theorem Inv.axh {m : Spans} {es : Ends} {L : PMap} (h : Inv m es L) {n k : Nat} (hn : n = es.length) (hs : m.length ≤ 1000000) (hk : es.length ≤ k) (hh : Int × Int) : AxH hh es n k L := ⟨hn, by have := h.len; omega, hk, h.mid.kn, fun q => h.cut q⟩
theorem dropM_len (hh : Int × Int) (m : Spans) : (dropM hh m).length ≤ m.length := List.length_filter_le _ _
theorem putM_len (m : Spans) (s : (Int × Int) × Int × Int) : (putM m s).length ≤ m.length + 1 := by unfold putM; rw [List.length_append]; have := dropM_len s.1 m; simp only [List.length_singleton]; omega

end Go.Proofs.YtpojafdllcioiaaDoor

namespace Go.Proofs.YtpojafdllcioiaaDoor
open Go.Zz Go.Px
set_option linter.unusedVariables false
set_option linter.unusedSectionVars false
set_option linter.unusedSimpArgs false
set_option maxRecDepth 10000
/-- Two lists are the same so far. -/
structure SameTo {α : Type} (l r : List α) (i : Int) : Prop where
  lo : 0 ≤ i
  hi : i ≤ (l.length : Nat)
  eq : l.take i.toNat = r.take i.toNat
section
variable {α : Type} [DecidableEq α] {l r : List α} {i : Int} {d : α}
theorem SameTo.start : SameTo l r 0 := ⟨by omega, by omega, by simp⟩
theorem SameTo.step (h : SameTo l r i) (hi : i < (l.length : Nat)) (hl : l.length = r.length) (he : l.getD i.toNat d = r.getD i.toNat d) : SameTo l r (i + 1) := by
  have h1 := h.lo; have h2 := h.hi
  refine ⟨by omega, by omega, ?_⟩
  rw [show (i + 1).toNat = i.toNat + 1 by omega, take_snoc (d := d) (by omega), take_snoc (d := d) (l := r) (by omega), h.eq, he]
theorem SameTo.no (hi : i < (l.length : Nat)) (h0 : 0 ≤ i) (he : ¬ l.getD i.toNat d = r.getD i.toNat d) : decide (l = r) = false := decide_eq_false fun e => he (by rw [e])
theorem SameTo.yes (h : SameTo l r i) (hi : ¬ i < (l.length : Nat)) (hl : l.length = r.length) : decide (l = r) = true := by
  have h1 := h.hi
  have := h.eq
  rw [List.take_of_length_le (by omega), List.take_of_length_le (by omega)] at this
  exact decide_eq_true this
theorem SameTo.len (h : ¬ l.length = r.length) : decide (l = r) = false := decide_eq_false fun e => h (by rw [e])
end
set_option maxHeartbeats 4000000 in
theorem same_z (E : Nat → Addr) (l r : List ((Int × Int) × (Int × Int))) (n k m q : Nat) (h : n = l.length ∧ m = r.length ∧ l.length ≤ 1099511627776 ∧ r.length ≤ 1099511627776) : Does (Gm E) 13 (Sp0 [.sl 0 n k, .sl 1 m q] [(0, .ro ((Int × Int) × (Int × Int)) (Zz.encP (Zz.encP Zz.encI Zz.encI) (Zz.encP Zz.encI Zz.encI)) l k), (1, .ro ((Int × Int) × (Int × Int)) (Zz.encP (Zz.encP Zz.encI Zz.encI) (Zz.encP Zz.encI Zz.encI)) r q)] 2 (.bl (decide (l = r)))) := by
  obtain ⟨rfl, rfl, h0⟩ := h
  refine fn_intro (gmOk E) 26 2 [] Tryd.func13 rfl rfl rfl rfl rfl ?_
  repeat' first | (intro h; first | (exfalso; omega; done) | skip) | (refine And.intro ?_ ?_) | exact True.intro | (refine @Exists.intro Unit _ () ?_) | (refine @Exists.intro (_ = _) _ rfl ?_) | (change LoopGoal _ _ _ _ _ _; refine loop_at 4 (gmOk E) rfl [] (X := Int) (fun i => [(13, .int .i64 i)]) (fun i => []) [] (fun i => SameTo l r i) (fun i => l.length - i.toNat) ⟨0, ?_⟩ (fun i hI => ?_)) | (change @Exists (Int) (fun _ => updK _ _ _ _ _ _); refine @Exists.intro (Int) _ ((?_)) ?_; rotate_left 1) | (change DrawGoal _ _ _ _ _ _; first | (change DrawGoal _ _ _ [_, _, _, _, _, _, _, _, _] _ _; refine draw_tree (gmOk E) [0, 1] (.leaf [(0, true), (1, true), (2, true), (3, true), (4, true), (5, true), (6, true), (7, true), (8, true)]) (by kernel_rfl) ?_))
  all_goals first
    | (dsimp only; first | rfl | omega)
    | rfl
    | omega
    | exact SameTo.start
    | (have b1 := hI.lo; have b2 := hI.hi; omega)
    | exact hI.step (d := ((0, 0), (0, 0))) ‹i < _› (by omega) (pairEq.1 (Classical.not_not.1 h))
    | exact (SameTo.no (d := ((0, 0), (0, 0))) ‹i < _› hI.lo (fun e => h (pairEq.2 e))).symm
    | exact (SameTo.no (d := ((0, 0), (0, 0))) ‹i < _› hI.lo (fun e => h (pairEq.2 e)))
    | exact (hI.yes ‹¬ i < _› (by omega)).symm
    | exact (hI.yes ‹¬ i < _› (by omega))
    | exact (SameTo.len (by omega)).symm
    | exact (SameTo.len (by omega))

theorem put2_len (hh : Int × Int) (lo hi : Int) (es : Ends) (x : Nat × Nat × Nat) : (put2 hh lo hi es x).length = (dropP (isE hh) es).length + 2 := by unfold put2; rw [esAt_len, put1_len]; rfl
theorem Inv.next {m : Spans} {es : Ends} {L : PMap} (h : Inv m es L) {hh : Int × Int} {lo hi : Int} (hle : lo ≤ hi) {x : Nat × Nat × Nat} (hx : PutAt hh lo hi es x) (hm : m.length ≤ 999999) (h' : Int × Int) : AxH h' (put2 hh lo hi es x) ((dropP (isE hh) es).length + 2) x.2.2 (putL hh lo hi es L x) :=
  (h.put hle hx).axh (put2_len hh lo hi es x).symm (by have := putM_len m (hh, lo, hi); omega) (by rw [put2_len]; exact hx.c) h'
theorem alive_first : (0 = ([] : Ends).length ∧ ([] : Ends).length ≤ 999999000 ∧ ([] : Ends).length ≤ 0 ∧ (([] : PMap).map (·.1)).Nodup ∧ ((dropP (isE (0, 1)) ([] : Ends)).length = ([] : Ends).length → cutL (0, 1) ([] : PMap) = []) ∧ spanP ((0, 1), 1, 3)) := ⟨rfl, by decide, by decide, by simp, fun _ => rfl, by decide⟩
def aliveE : Ends := [(1, false, 0, 1), (3, false, 0, 2), (3, true, 0, 1), (5, true, 0, 2)]
theorem alive_facts {x1 x2 : Nat × Nat × Nat} (h1 : PutAt (0, 1) 1 3 [] x1) (h2 : PutAt (0, 2) 3 5 (put2 (0, 1) 1 3 [] x1) x2) : put2 (0, 2) 3 5 (put2 (0, 1) 1 3 [] x1) x2 = aliveE ∧ pairsL (putL (0, 2) 3 5 (put2 (0, 1) 1 3 [] x1) (putL (0, 1) 1 3 [] [] x1) x2) = [((0, 1), (0, 2))] := by
  have hI : Inv [((0, 1), 1, 3), ((0, 2), 3, 5)] _ _ := (Inv.nil.put (by decide) h1).put (by decide) h2
  constructor
  · refine Go.P11.order_one hI.so (by decide) fun e => ?_
    rw [hI.mem e]
    obtain ⟨a, b, c, d⟩ := e
    simp only [aliveE, List.mem_cons, List.not_mem_nil, or_false, lowE, highE, Prod.mk.injEq]
    constructor
    · rintro ⟨s, rfl | rfl, ⟨rfl, rfl, rfl, rfl⟩ | ⟨rfl, rfl, rfl, rfl⟩⟩ <;> simp
    · rintro (⟨rfl, rfl, rfl, rfl⟩ | ⟨rfl, rfl, rfl, rfl⟩ | ⟨rfl, rfl, rfl, rfl⟩ | ⟨rfl, rfl, rfl, rfl⟩)
      · exact ⟨_, .inl rfl, .inl ⟨rfl, rfl, rfl, rfl⟩⟩
      · exact ⟨_, .inr rfl, .inl ⟨rfl, rfl, rfl, rfl⟩⟩
      · exact ⟨_, .inl rfl, .inr ⟨rfl, rfl, rfl, rfl⟩⟩
      · exact ⟨_, .inr rfl, .inr ⟨rfl, rfl, rfl, rfl⟩⟩
  · refine pairs_one (pairsL_rises _) (List.pairwise_singleton _ _) fun p => ?_
    rw [hI.pairs p]
    constructor
    · rintro ⟨hl, a, ha, b, hb, e1, e2, h3⟩
      obtain ⟨p1, p2⟩ := p
      simp only at e1 e2 hl
      subst e1 e2
      simp only [List.mem_cons, List.not_mem_nil, or_false] at ha hb
      rcases ha with rfl | rfl <;> rcases hb with rfl | rfl
      · exact absurd hl (by decide)
      · simp
      · exact absurd hl (by decide)
      · exact absurd hl (by decide)
    · intro hp
      rw [List.mem_singleton.1 hp]
      exact ⟨by decide, _, List.mem_cons_self .., _, List.mem_cons_of_mem _ (List.mem_cons_self ..), rfl, rfl, by decide, by decide⟩
theorem nodup_len {α : Type} [DecidableEq α] : ∀ {l m : List α}, l.Nodup → (∀ x ∈ l, x ∈ m) → l.length ≤ m.length
  | [], m, _, _ => Nat.zero_le _
  | x :: l, m, hn, hs => by
    have hn := List.nodup_cons.1 hn
    have hx : x ∈ m := hs x (List.mem_cons_self ..)
    have := nodup_len (l := l) (m := m.erase x) hn.2 fun y hy => (List.mem_erase_of_ne (fun e => hn.1 (by rw [← e]; exact hy))).2 (hs y (List.mem_cons_of_mem _ hy))
    rw [List.length_erase_of_mem hx] at this
    have := List.length_pos_of_mem hx
    simp only [List.length_cons]; omega
theorem prod_len {α β : Type} (l : List α) (k : List β) : (l.flatMap fun a => k.map fun b => (a, b)).length = l.length * k.length := by
  induction l with
  | nil => simp
  | cons a r ih => rw [List.flatMap_cons, List.length_append, ih, List.length_map, List.length_cons, Nat.succ_mul, Nat.add_comm]
theorem Inv.small {m : Spans} {es : Ends} {L : PMap} (h : Inv m es L) (hm : m.length ≤ 1000) : L.length ≤ 1000000000 := by
  have h1 : (L.map (·.1)).length ≤ ((m.map (·.1)).flatMap fun a => (m.map (·.1)).map fun b => (a, b)).length := nodup_len h.mid.kn fun p hp => by
    obtain ⟨_, a, ha, b, hb, e1, e2, _⟩ := (h.key p).1 hp
    exact List.mem_flatMap.2 ⟨_, List.mem_map.2 ⟨a, ha, rfl⟩, List.mem_map.2 ⟨_, List.mem_map.2 ⟨b, hb, rfl⟩, by rw [e1, e2]⟩⟩
  rw [prod_len, List.length_map, List.length_map] at h1
  have := Nat.mul_le_mul hm hm
  omega
theorem alive_small {x1 x2 : Nat × Nat × Nat} (h1 : PutAt (0, 1) 1 3 [] x1) (h2 : PutAt (0, 2) 3 5 (put2 (0, 1) 1 3 [] x1) x2) : (putL (0, 2) 3 5 (put2 (0, 1) 1 3 [] x1) (putL (0, 1) 1 3 [] [] x1) x2).length ≤ 1000000000 := ((Inv.nil.put (by decide) h1).put (by decide) h2).small (by decide)
theorem alive_len {x1 x2 : Nat × Nat × Nat} (h1 : PutAt (0, 1) 1 3 [] x1) (h2 : PutAt (0, 2) 3 5 (put2 (0, 1) 1 3 [] x1) x2) : (dropP (isE (0, 2)) (put2 (0, 1) 1 3 [] x1)).length + 2 = 4 := by
  rw [← put2_len (0, 2) 3 5 _ x2, (alive_facts h1 h2).1]; rfl
set_option maxHeartbeats 4000000 in
theorem alive_z (E : Nat → Addr)  : Does (Gm E) 10 (Sp0 [] [] 0 .tt) := by
  refine fn_intro (gmOk E) 37 0 [] Tryd.func10 rfl rfl rfl rfl rfl ?_
  repeat' first | (intro h; first | (exfalso; omega; done) | skip) | (refine And.intro ?_ ?_) | exact True.intro | (refine @Exists.intro Unit _ () ?_) | (refine @Exists.intro (_ = _) _ rfl ?_) | (change CallGoal _ _ _ _ _ _; first | (refine call_rule (newaxis_z E) [] rfl True.intro rfl (fun x hx => ?_)) | (refine call_rule (axput_z E (put2 (0, 1) 1 3 [] x1) _ _ _ (0, 2) 3 5 ((Inv.nil.next (by decide) hx1 (by decide) (0, 2)).put (by decide))) [0, 1, 3] rfl (And.intro rfl (And.intro rfl (And.intro rfl True.intro))) rfl (fun (x2 : Nat × Nat × Nat) (hx2 : PutAt (0, 2) 3 5 (put2 (0, 1) 1 3 [] x1) x2) => ?_)) | (refine call_rule (axput_z E [] _ 0 [] (0, 1) 1 3 alive_first) [0, 1, 2] rfl (And.intro rfl (And.intro rfl (And.intro rfl True.intro))) rfl (fun (x1 : Nat × Nat × Nat) (hx1 : PutAt (0, 1) 1 3 [] x1) => ?_)) | (refine call_rule (axends_z E (put2 (0, 2) 3 5 (put2 (0, 1) 1 3 [] x1) x2) _ _ _ ?_) [0, 1, 4] rfl (And.intro rfl (And.intro rfl (And.intro rfl True.intro))) rfl (fun (q5 : Nat) (hq5 : (put2 (0, 2) 3 5 (put2 (0, 1) 1 3 [] x1) x2).length ≤ q5) => ?_)) | (refine call_rule (axpairs_z E _ _ _ _ (alive_small hx1 hx2)) [0, 1, 4] rfl (And.intro rfl (And.intro rfl (And.intro rfl True.intro))) rfl (fun (q6 : Nat) hq6 => ?_)))
  all_goals first
    | (dsimp only; first | rfl | omega)
    | rfl
    | omega
    | exact (put2_len _ _ _ _ _).symm
    | (rw [(alive_facts hx1 hx2).1]; first | rfl | decide)
    | (have e := (alive_facts hx1 hx2).2; unfold pairsL at e; rw [e]; rfl)

end Go.Proofs.YtpojafdllcioiaaDoor

namespace Go.Proofs.YtpojafdllcioiaaDoor
open Go.Zz Go.Px
set_option linter.unusedVariables false
set_option linter.unusedSectionVars false
set_option linter.unusedSimpArgs false
set_option maxRecDepth 10000
/-- An axis as it lies: its ends, their length and room, its pairs. -/
abbrev AxS := Ends × Nat × Nat × PMap
structure AxI (m : Spans) (i : Int) (a : AxS) : Prop where
  inv : Inv m a.1 a.2.2.2
  n : a.2.1 = a.1.length
  k : a.1.length ≤ a.2.2.1
  len : (m.length : Int) ≤ i
theorem AxI.h {m : Spans} {i : Int} {a : AxS} (h : AxI m i a) (hi : i ≤ 1000) (hh : Int × Int) : AxH hh a.1 a.2.1 a.2.2.1 a.2.2.2 := h.inv.axh h.n (by have := h.len; omega) h.k hh
theorem AxI.small {m : Spans} {i : Int} {a : AxS} (h : AxI m i a) (hi : i ≤ 1000) : a.2.2.2.length ≤ 1000000000 := h.inv.small (by have := h.len; omega)
theorem AxI.nil : AxI [] 0 ([], 0, 0, []) := ⟨Inv.nil, rfl, Nat.le_refl _, by simp⟩
theorem AxI.mono {m : Spans} {i : Int} {a : AxS} (h : AxI m i a) : AxI m (i + 1) a := ⟨h.inv, h.n, h.k, by have := h.len; omega⟩
theorem AxI.put {m : Spans} {i : Int} {a : AxS} (h : AxI m i a) {hh : Int × Int} {lo hi : Int} (hle : lo ≤ hi) {x : Nat × Nat × Nat} (hx : PutAt hh lo hi a.1 x) : AxI (putM m (hh, lo, hi)) (i + 1) (put2 hh lo hi a.1 x, (dropP (isE hh) a.1).length + 2, x.2.2, putL hh lo hi a.1 a.2.2.2 x) :=
  ⟨h.inv.put hle hx, (put2_len _ _ _ _ _).symm, by rw [put2_len]; exact hx.c, by have := putM_len m (hh, lo, hi); have := h.len; omega⟩
theorem pairs2_len (L M : PMap) : (dropP (notM M) (ordS ltP (normP (L.map (·.1))))).length ≤ L.length := by
  have e1 := dropP_len (notM M) (ordS ltP (normP (L.map (·.1)))); have e2 := ordS_len (lt := ltP) (normP (L.map (·.1))); have e3 := normP_len (L.map (·.1))
  rw [List.length_map] at e3; omega
/-- Two sweeps, one turned. -/
structure TI (i : Int) (a b c d : AxS) : Prop where
  ex : ∃ m r : Spans, AxI m i a ∧ AxI r i b ∧ AxI r i c ∧ AxI m i d
section
variable {i : Int} {a b c d : AxS}
theorem TI.start : TI 0 ([], 0, 0, []) ([], 0, 0, []) ([], 0, 0, []) ([], 0, 0, []) := ⟨[], [], AxI.nil, AxI.nil, AxI.nil, AxI.nil⟩
theorem TI.bad (h : TI i a b c d) : TI (i + 1) a b c d := by obtain ⟨m, r, h1, h2, h3, h4⟩ := h.ex; exact ⟨m, r, h1.mono, h2.mono, h3.mono, h4.mono⟩
theorem TI.put (h : TI i a b c d) {hh : Int × Int} {lo hi lo2 hi2 : Int} (hle : lo ≤ hi) (hle2 : lo2 ≤ hi2) {x y : (Nat × Nat × Nat) × (Nat × Nat × Nat)} (hx : PutAt hh lo hi a.1 x.1 ∧ PutAt hh lo2 hi2 b.1 x.2) (hy : PutAt hh lo2 hi2 c.1 y.1 ∧ PutAt hh lo hi d.1 y.2) :
    TI (i + 1) (put2 hh lo hi a.1 x.1, (dropP (isE hh) a.1).length + 2, x.1.2.2, putL hh lo hi a.1 a.2.2.2 x.1) (put2 hh lo2 hi2 b.1 x.2, (dropP (isE hh) b.1).length + 2, x.2.2.2, putL hh lo2 hi2 b.1 b.2.2.2 x.2)
      (put2 hh lo2 hi2 c.1 y.1, (dropP (isE hh) c.1).length + 2, y.1.2.2, putL hh lo2 hi2 c.1 c.2.2.2 y.1) (put2 hh lo hi d.1 y.2, (dropP (isE hh) d.1).length + 2, y.2.2.2, putL hh lo hi d.1 d.2.2.2 y.2) := by
  obtain ⟨m, r, h1, h2, h3, h4⟩ := h.ex
  exact ⟨_, _, h1.put hle hx.1, h2.put hle2 hx.2, h3.put hle2 hy.1, h4.put hle hy.2⟩
theorem TI.ha (h : TI i a b c d) (hi : i ≤ 1000) (hh : Int × Int) : AxH hh a.1 a.2.1 a.2.2.1 a.2.2.2 ∧ AxH hh b.1 b.2.1 b.2.2.1 b.2.2.2 := by obtain ⟨m, r, h1, h2, h3, h4⟩ := h.ex; exact ⟨h1.h hi hh, h2.h hi hh⟩
theorem TI.hc (h : TI i a b c d) (hi : i ≤ 1000) (hh : Int × Int) : AxH hh c.1 c.2.1 c.2.2.1 c.2.2.2 ∧ AxH hh d.1 d.2.1 d.2.2.1 d.2.2.2 := by obtain ⟨m, r, h1, h2, h3, h4⟩ := h.ex; exact ⟨h3.h hi hh, h4.h hi hh⟩
theorem TI.sa (h : TI i a b c d) (hi : i ≤ 1000) : a.2.2.2.length ≤ 1000000000 := by obtain ⟨m, r, h1, h2, h3, h4⟩ := h.ex; exact h1.small hi
theorem TI.sc (h : TI i a b c d) (hi : i ≤ 1000) : c.2.2.2.length ≤ 1000000000 := by obtain ⟨m, r, h1, h2, h3, h4⟩ := h.ex; exact h3.small hi
theorem TI.same (h : TI i a b c d) : dropP (notM b.2.2.2) (ordS ltP (normP (a.2.2.2.map (·.1)))) = dropP (notM d.2.2.2) (ordS ltP (normP (c.2.2.2.map (·.1)))) := by
  obtain ⟨m, r, h1, h2, h3, h4⟩ := h.ex
  refine pairs_one (pairs2_rises _ _) (pairs2_rises _ _) fun p => ?_
  show p ∈ pairs2 _ _ ↔ p ∈ pairs2 _ _
  rw [pairs2_mem h1.inv h2.inv, pairs2_mem h3.inv h4.inv, and_comm]
end
def turnB (b : Int × Int × Int × Int) : Int × Int × Int × Int := (b.2.1, b.1, b.2.2.2, b.2.2.1)
theorem right_turn {b : Int × Int × Int × Int} : rightP (turnB b) ↔ rightP b := by simp only [rightP, turnB, reachP]; omega
set_option maxHeartbeats 4000000 in
theorem law_z (E : Nat → Addr) (l : List (Int × Int × Int × Int)) (n k : Nat) (h : n = l.length) : DoesC (Gm E) 3 (Sp0 [.sl 0 n k] [(0, .ro (Int × Int × Int × Int) (Zz.encP Zz.encI (Zz.encP Zz.encI (Zz.encP Zz.encI Zz.encI))) l k)] 1 .tt) := by
  subst h
  refine fn_calls (gmOk E) 49 1 [] Tryd.func3 rfl rfl rfl rfl rfl ?_
  repeat' first | (intro h; first | (exfalso; omega; done) | (exfalso; exact h trivial; done) | skip) | (refine And.intro ?_ ?_) | exact True.intro | (refine @Exists.intro Unit _ () ?_) | (refine @Exists.intro (_ = _) _ rfl ?_) | (change LoopGoal _ _ _ _ _ _; refine loop_at 7 (gmOk E) rfl [] (X := (Int × AxS × AxS × AxS × AxS)) (fun x => [(17, .int .i64 x.1)]) (fun x => [(2, .cells 93 [.mp 3, .sl 15 x.2.1.2.1 x.2.1.2.2.1]), (3, .pr (mapPr (Enc.ag (Zz.encP (Zz.encP Zz.encI Zz.encI) (Zz.encP Zz.encI Zz.encI))) veB x.2.1.2.2.2)), (15, .arr (Int × Bool × Int × Int) (Zz.encP Zz.encI (Zz.encP Zz.encB (Zz.encP Zz.encI Zz.encI))) 64 x.2.1.1 x.2.1.2.2.1), (5, .cells 93 [.mp 6, .sl 16 x.2.2.1.2.1 x.2.2.1.2.2.1]), (6, .pr (mapPr (Enc.ag (Zz.encP (Zz.encP Zz.encI Zz.encI) (Zz.encP Zz.encI Zz.encI))) veB x.2.2.1.2.2.2)), (16, .arr (Int × Bool × Int × Int) (Zz.encP Zz.encI (Zz.encP Zz.encB (Zz.encP Zz.encI Zz.encI))) 64 x.2.2.1.1 x.2.2.1.2.2.1), (9, .cells 93 [.mp 10, .sl 17 x.2.2.2.1.2.1 x.2.2.2.1.2.2.1]), (10, .pr (mapPr (Enc.ag (Zz.encP (Zz.encP Zz.encI Zz.encI) (Zz.encP Zz.encI Zz.encI))) veB x.2.2.2.1.2.2.2)), (17, .arr (Int × Bool × Int × Int) (Zz.encP Zz.encI (Zz.encP Zz.encB (Zz.encP Zz.encI Zz.encI))) 64 x.2.2.2.1.1 x.2.2.2.1.2.2.1), (12, .cells 93 [.mp 13, .sl 18 x.2.2.2.2.2.1 x.2.2.2.2.2.2.1]), (13, .pr (mapPr (Enc.ag (Zz.encP (Zz.encP Zz.encI Zz.encI) (Zz.encP Zz.encI Zz.encI))) veB x.2.2.2.2.2.2.2)), (18, .arr (Int × Bool × Int × Int) (Zz.encP Zz.encI (Zz.encP Zz.encB (Zz.encP Zz.encI Zz.encI))) 64 x.2.2.2.2.1 x.2.2.2.2.2.2.1)]) [4, 7, 11, 14] (fun x => 0 ≤ x.1 ∧ x.1 ≤ (l.length : Nat) ∧ TI x.1 x.2.1 x.2.2.1 x.2.2.2.1 x.2.2.2.2) (fun x => l.length - x.1.toNat) ⟨(0, ([], 0, 0, []), ([], 0, 0, []), ([], 0, 0, []), ([], 0, 0, [])), ?_⟩ (fun x hI => ?_)) | (change @Exists ((Int × AxS × AxS × AxS × AxS)) (fun _ => updK _ _ _ _ _ _); refine @Exists.intro ((Int × AxS × AxS × AxS × AxS)) _ ((?_, (?_, ?_, ?_, ?_), (?_, ?_, ?_, ?_), (?_, ?_, ?_, ?_), (?_, ?_, ?_, ?_))) ?_; rotate_left 17) | (change DrawGoal _ _ _ _ _ _; first | (change DrawGoal _ _ _ [_, _, _, _, _, _, _, _, _, _, _, _, _, _, _, _, _, _, _] _ _; refine draw_tree (gmOk E) [31, 32] (.leaf [(0, true), (1, true), (2, true), (5, true), (6, true), (7, true), (8, true), (9, true), (10, true), (11, true), (12, true), (13, true), (14, true), (15, true), (3, false), (4, true), (16, false), (17, true), (18, true)]) (by kernel_rfl) ?_)) | (change CallGoal _ _ _ _ _ _; first | (refine call_rule (newsweep_z E) [] rfl True.intro rfl (fun x hx => ?_)) | (refine call_rule (swput_z E x.2.1.1 x.2.2.1.1 x.2.1.2.1 x.2.1.2.2.1 x.2.2.1.2.1 x.2.2.1.2.2.1 x.2.1.2.2.2 x.2.2.1.2.2.2 (x.1, 1) (l.getD x.1.toNat (0, 0, 0, 0)) ⟨(hI.2.2.ha (by omega) _).1, (hI.2.2.ha (by omega) _).2, hr⟩) [1, 2, 3, 15, 5, 6, 16] rfl (And.intro rfl (And.intro rfl (And.intro rfl (And.intro rfl (And.intro rfl (And.intro rfl (And.intro rfl True.intro))))))) rfl (fun y1 hy1 => ?_)) | (refine call_rule (swput_z E x.2.2.2.1.1 x.2.2.2.2.1 x.2.2.2.1.2.1 x.2.2.2.1.2.2.1 x.2.2.2.2.2.1 x.2.2.2.2.2.2.1 x.2.2.2.1.2.2.2 x.2.2.2.2.2.2.2 (x.1, 1) (turnB (l.getD x.1.toNat (0, 0, 0, 0))) ⟨(hI.2.2.hc (by omega) _).1, (hI.2.2.hc (by omega) _).2, right_turn.2 hr⟩) [8, 9, 10, 17, 12, 13, 18] rfl (And.intro rfl (And.intro rfl (And.intro rfl (And.intro rfl (And.intro rfl (And.intro rfl (And.intro rfl True.intro))))))) rfl (fun y2 hy2 => ?_)) | (refine call_rule (swpairs_z E x.2.1.1 x.2.2.1.1 x.2.1.2.1 x.2.1.2.2.1 x.2.2.1.2.1 x.2.2.1.2.2.1 x.2.1.2.2.2 x.2.2.1.2.2.2 (hI.2.2.sa (by omega))) [1, 2, 3, 15, 5, 6, 16] rfl (And.intro rfl (And.intro rfl (And.intro rfl (And.intro rfl (And.intro rfl (And.intro rfl (And.intro rfl True.intro))))))) rfl (fun (r1 : Nat) hr1 => ?_)) | (refine call_rule (swpairs_z E x.2.2.2.1.1 x.2.2.2.2.1 x.2.2.2.1.2.1 x.2.2.2.1.2.2.1 x.2.2.2.2.2.1 x.2.2.2.2.2.2.1 x.2.2.2.1.2.2.2 x.2.2.2.2.2.2.2 (hI.2.2.sc (by omega))) [8, 9, 10, 17, 12, 13, 18] rfl (And.intro rfl (And.intro rfl (And.intro rfl (And.intro rfl (And.intro rfl (And.intro rfl (And.intro rfl True.intro))))))) rfl (fun (r2 : Nat) hr2 => ?_))) | (change CallGoal _ _ _ _ _ _; first | (refine call0 (alive_z E) [] rfl True.intro rfl ?_) | (refine call0 (swput_bad E x.2.1.1 x.2.2.1.1 x.2.1.2.1 x.2.1.2.2.1 x.2.2.1.2.1 x.2.2.1.2.2.1 x.2.1.2.2.2 x.2.2.1.2.2.2 (x.1, 1) (l.getD x.1.toNat (0, 0, 0, 0)) hr) [1, 2, 3, 15, 5, 6, 16] rfl (And.intro rfl (And.intro rfl (And.intro rfl (And.intro rfl (And.intro rfl (And.intro rfl (And.intro rfl True.intro))))))) rfl ?_) | (refine call0 (swput_bad E x.2.2.2.1.1 x.2.2.2.2.1 x.2.2.2.1.2.1 x.2.2.2.1.2.2.1 x.2.2.2.2.2.1 x.2.2.2.2.2.2.1 x.2.2.2.1.2.2.2 x.2.2.2.2.2.2.2 (x.1, 1) (turnB (l.getD x.1.toNat (0, 0, 0, 0))) (fun q => hr (right_turn.1 q))) [8, 9, 10, 17, 12, 13, 18] rfl (And.intro rfl (And.intro rfl (And.intro rfl (And.intro rfl (And.intro rfl (And.intro rfl (And.intro rfl True.intro))))))) rfl ?_) | (refine call0 (same_z E _ _ _ _ _ _ ⟨rfl, rfl, ?_, ?_⟩) [31, 32] rfl (And.intro rfl (And.intro rfl True.intro)) rfl ?_)) | (change CallGoal (Gm E) 12 _ _ _ _; refine Or.elim (Classical.em (rightP (l.getD x.1.toNat (0, 0, 0, 0)))) (fun hr => ?_) (fun hr => ?_))
  all_goals first
    | (dsimp only; first | rfl | omega)
    | rfl
    | omega
    | exact TI.start
    | exact hI.2.2.bad
    | exact hI.2.2.put hr.1 hr.2.1 hy1 hy2
    | (have e := pairs2_len x.2.1.2.2.2 x.2.2.1.2.2.2; have e2 := hI.2.2.sa (by omega); omega)
    | (have e := pairs2_len x.2.2.2.1.2.2.2 x.2.2.2.2.2.2.2; have e2 := hI.2.2.sc (by omega); omega)
    | exact (decide_eq_true hI.2.2.same).symm
    | exact decide_eq_true hI.2.2.same

theorem box_dec (cs : List Value) (h : OkCs [some .i64, some .i64, some .i64, some .i64] cs) : ∃ x, cs = (Zz.encP Zz.encI (Zz.encP Zz.encI (Zz.encP Zz.encI Zz.encI))).val x ∧ True := by
  obtain ⟨_, _, rfl, ⟨x, rfl, _⟩, h1⟩ := h.cons
  obtain ⟨_, _, rfl, ⟨y, rfl, _⟩, h2⟩ := h1.cons
  obtain ⟨_, _, rfl, ⟨z, rfl, _⟩, h3⟩ := h2.cons
  obtain ⟨_, _, rfl, ⟨u, rfl, _⟩, h4⟩ := h3.cons
  obtain rfl := h4.nil
  exact ⟨(x, y, z, u), rfl, trivial⟩
theorem axisTurned_any (E : Nat → Addr) (av : Option Addr) (l : List (Int × Int × Int × Int)) (c : Nat) (W : World) (hG : Errs [1, 3, 0] W 227 E) (hav : Arr W 4 av l.length c (flat (Zz.encP Zz.encI (Zz.encP Zz.encI (Zz.encP Zz.encI Zz.encI))).val l)) :
    Calls Tryd.prog 3 #[.slice av l.length c] W (Ret fun v w' => v = .bool true ∧ Keep Nn W w') :=
  (law_z E l l.length c rfl).law (fun _ => av) hG rfl (fun c α e l' k' hm => by cases List.mem_singleton.1 hm; exact ⟨hav, by decide⟩) (fun _ => rfl) (by simp [SV.denL, SV.den, Sp0])
end Go.Proofs.YtpojafdllcioiaaDoor

namespace Go.Proofs.YtpojafdllcioiaaDoor
open Go.Zz Go.Px
set_option linter.unusedVariables false
set_option linter.unusedSectionVars false
set_option linter.unusedSimpArgs false
set_option maxRecDepth 10000
/-- A sweep and its two axes apart. -/
structure SI (i : Int) (a b c d : AxS) : Prop where
  ex : ∃ m r : Spans, AxI m i a ∧ AxI r i b ∧ AxI m i c ∧ AxI r i d
theorem Inv.sq {m : Spans} {es : Ends} {L : PMap} (h : Inv m es L) {n : Nat} (hm : m.length ≤ n) : L.length ≤ n * n := by
  have h1 : (L.map (·.1)).length ≤ ((m.map (·.1)).flatMap fun a => (m.map (·.1)).map fun b => (a, b)).length := nodup_len h.mid.kn fun p hp => by
    obtain ⟨_, a, ha, b, hb, e1, e2, _⟩ := (h.key p).1 hp
    exact List.mem_flatMap.2 ⟨_, List.mem_map.2 ⟨a, ha, rfl⟩, List.mem_map.2 ⟨_, List.mem_map.2 ⟨b, hb, rfl⟩, by rw [e1, e2]⟩⟩
  rw [prod_len, List.length_map, List.length_map] at h1
  exact Nat.le_trans h1 (Nat.mul_le_mul hm hm)
theorem pairsL_len (L : PMap) : (ordS ltP (normP (L.map (·.1)))).length ≤ L.length := by
  have e2 := ordS_len (lt := ltP) (normP (L.map (·.1))); have e3 := normP_len (L.map (·.1))
  rw [List.length_map] at e3; omega
section
variable {i : Int} {a b c d : AxS}
theorem SI.start : SI 0 ([], 0, 0, []) ([], 0, 0, []) ([], 0, 0, []) ([], 0, 0, []) := ⟨[], [], AxI.nil, AxI.nil, AxI.nil, AxI.nil⟩
theorem SI.put (h : SI i a b c d) {hh : Int × Int} {lo hi lo2 hi2 : Int} (hle : lo ≤ hi) (hle2 : lo2 ≤ hi2) {x : (Nat × Nat × Nat) × (Nat × Nat × Nat)} {y z : Nat × Nat × Nat} (hx : PutAt hh lo hi a.1 x.1 ∧ PutAt hh lo2 hi2 b.1 x.2) (hy : PutAt hh lo hi c.1 y) (hz : PutAt hh lo2 hi2 d.1 z) :
    SI (i + 1) (put2 hh lo hi a.1 x.1, (dropP (isE hh) a.1).length + 2, x.1.2.2, putL hh lo hi a.1 a.2.2.2 x.1) (put2 hh lo2 hi2 b.1 x.2, (dropP (isE hh) b.1).length + 2, x.2.2.2, putL hh lo2 hi2 b.1 b.2.2.2 x.2)
      (put2 hh lo hi c.1 y, (dropP (isE hh) c.1).length + 2, y.2.2, putL hh lo hi c.1 c.2.2.2 y) (put2 hh lo2 hi2 d.1 z, (dropP (isE hh) d.1).length + 2, z.2.2, putL hh lo2 hi2 d.1 d.2.2.2 z) := by
  obtain ⟨m, r, h1, h2, h3, h4⟩ := h.ex
  exact ⟨_, _, h1.put hle hx.1, h2.put hle2 hx.2, h3.put hle hy, h4.put hle2 hz⟩
theorem SI.ha (h : SI i a b c d) (hi : i ≤ 1000) (hh : Int × Int) : AxH hh a.1 a.2.1 a.2.2.1 a.2.2.2 ∧ AxH hh b.1 b.2.1 b.2.2.1 b.2.2.2 := by obtain ⟨m, r, h1, h2, h3, h4⟩ := h.ex; exact ⟨h1.h hi hh, h2.h hi hh⟩
theorem SI.hc (h : SI i a b c d) (hi : i ≤ 1000) (hh : Int × Int) : AxH hh c.1 c.2.1 c.2.2.1 c.2.2.2 ∧ AxH hh d.1 d.2.1 d.2.2.1 d.2.2.2 := by obtain ⟨m, r, h1, h2, h3, h4⟩ := h.ex; exact ⟨h3.h hi hh, h4.h hi hh⟩
theorem SI.sz (h : SI i a b c d) (hi : i ≤ 40) : a.2.2.2.length ≤ 1600 ∧ c.2.2.2.length ≤ 1600 ∧ d.2.2.2.length ≤ 1600 := by
  obtain ⟨m, r, h1, h2, h3, h4⟩ := h.ex
  have e1 := h1.len; have e2 := h2.len
  exact ⟨h1.inv.sq (n := 40) (by omega), h3.inv.sq (n := 40) (by omega), h4.inv.sq (n := 40) (by omega)⟩
end
section
variable {α : Type} [DecidableEq α] {xs ys : List α} {i j : Int} {d p : α}
/-- Who of the first list, so far, stands in the second one. -/
def outF (xs ys : List α) (i : Int) : List α := (xs.take i.toNat).flatMap fun p => ys.filter fun q => decide (p = q)
def inF (p : α) (ys : List α) (j : Int) : List α := (ys.take j.toNat).filter fun q => decide (p = q)
theorem inF_in (h0 : 0 ≤ j) (h : j < (ys.length : Nat)) (he : p = ys.getD j.toNat d) : inF p ys (j + 1) = inF p ys j ++ [p] := by
  unfold inF
  rw [show (j + 1).toNat = j.toNat + 1 by omega, take_snoc (d := d) (by omega), List.filter_append, List.filter_cons, ← he]
  simp
theorem inF_out (h0 : 0 ≤ j) (h : j < (ys.length : Nat)) (he : ¬ p = ys.getD j.toNat d) : inF p ys (j + 1) = inF p ys j := by
  unfold inF
  rw [show (j + 1).toNat = j.toNat + 1 by omega, take_snoc (d := d) (by omega), List.filter_append, List.filter_cons, decide_eq_false he]
  simp
theorem outF_next (h0 : 0 ≤ i) (h : i < (xs.length : Nat)) (h1 : 0 ≤ j) (h2 : j ≤ (ys.length : Nat)) (h3 : ¬ j < (ys.length : Nat)) : outF xs ys (i + 1) = outF xs ys i ++ inF (xs.getD i.toNat d) ys j := by
  unfold outF inF
  rw [show (i + 1).toNat = i.toNat + 1 by omega, take_snoc (d := d) (by omega), List.flatMap_append, List.take_of_length_le (l := ys) (by omega)]
  simp
theorem filter_eq_len (h : ys.Nodup) : (ys.filter fun q => decide (p = q)).length ≤ 1 := by
  have := nodup_len (m := [p]) (h.filter fun q => decide (p = q)) fun x hx => by
    have := (List.mem_filter.1 hx).2
    simp only [decide_eq_true_eq] at this
    simp [this]
  simpa using this
theorem outF_len (h : ys.Nodup) : (outF xs ys i).length ≤ xs.length := by
  unfold outF
  have : ∀ l : List α, (l.flatMap fun p => ys.filter fun q => decide (p = q)).length ≤ l.length := fun l => by
    induction l with
    | nil => simp
    | cons a r ih => rw [List.flatMap_cons, List.length_append, List.length_cons]; have := filter_eq_len (p := a) h; omega
  have h2 := this (xs.take i.toNat)
  rw [List.length_take] at h2
  omega
theorem inF_len (h : ys.Nodup) : (inF p ys j).length ≤ 1 := by
  unfold inF
  exact filter_eq_len (h.sublist (List.take_sublist _ _))
theorem outF_all (h : ys.Nodup) (h1 : i ≤ (xs.length : Nat)) (hi : ¬ i < (xs.length : Nat)) : outF xs ys i = xs.filter fun p => decide (p ∈ ys) := by
  unfold outF
  rw [List.take_of_length_le (by omega)]
  clear h1 hi
  induction xs with
  | nil => rfl
  | cons a r ih =>
    rw [List.flatMap_cons, ih, List.filter_cons]
    by_cases ha : a ∈ ys
    · have : (ys.filter fun q => decide (a = q)) = [a] := by
        have h1 := filter_eq_len (p := a) h
        have h2 : a ∈ ys.filter fun q => decide (a = q) := List.mem_filter.2 ⟨ha, by simp⟩
        revert h1 h2
        generalize (ys.filter fun q => decide (a = q)) = k
        intro h1 h2
        match k, h1, h2 with
        | [x], _, h2 => rw [List.mem_singleton.1 h2]
        | [], _, h2 => simp at h2
      rw [this]; simp [ha]
    · have : (ys.filter fun q => decide (a = q)) = [] := List.filter_eq_nil_iff.2 fun q hq => by
        simp only [decide_eq_true_eq]; exact fun e => ha (e ▸ hq)
      rw [this]; simp [ha]
end
theorem pairsL_nodup (L : PMap) : (ordS ltP (normP (L.map (·.1)))).Nodup := Rises.nodup ordP (pairsL_rises L)
theorem SI.same {i k : Int} {a b c d : AxS} (h : SI i a b c d) (h1 : k ≤ ((ordS ltP (normP (c.2.2.2.map (·.1)))).length : Nat)) (h2 : ¬ k < ((ordS ltP (normP (c.2.2.2.map (·.1)))).length : Nat)) : dropP (notM b.2.2.2) (ordS ltP (normP (a.2.2.2.map (·.1)))) = outF (ordS ltP (normP (c.2.2.2.map (·.1)))) (ordS ltP (normP (d.2.2.2.map (·.1)))) k := by
  obtain ⟨m, r, q1, q2, q3, q4⟩ := h.ex
  rw [outF_all (pairsL_nodup _) h1 h2]
  refine pairs_one (pairs2_rises _ _) ((pairsL_rises _).filter _) fun p => ?_
  show p ∈ pairs2 _ _ ↔ _
  rw [pairs2_mem q1.inv q2.inv, List.mem_filter]
  simp only [decide_eq_true_eq]
  show _ ↔ p ∈ pairsL _ ∧ p ∈ pairsL _
  rw [q3.inv.pairs, q4.inv.pairs]
set_option maxHeartbeats 4000000 in
theorem sides_z (E : Nat → Addr) (l : List (Int × Int × Int × Int)) (n k : Nat) (h : n = l.length) : DoesC (Gm E) 4 (Sp0 [.sl 0 n k] [(0, .ro (Int × Int × Int × Int) (Zz.encP Zz.encI (Zz.encP Zz.encI (Zz.encP Zz.encI Zz.encI))) l k)] 1 .tt) := by
  subst h
  refine fn_calls (gmOk E) 85 1 [] Tryd.func4 rfl rfl rfl rfl rfl ?_
  repeat' first | (intro h; first | (exfalso; omega; done) | (exfalso; exact h trivial; done) | skip) | (refine And.intro ?_ ?_) | exact True.intro | (refine @Exists.intro Unit _ () ?_) | (refine @Exists.intro (_ = _) _ rfl ?_) | (change LoopGoal _ _ _ _ _ _; refine loop_at 7 (gmOk E) rfl [] (X := (Int × AxS × AxS × AxS × AxS)) (fun x => [(24, .int .i64 x.1)]) (fun x => [(2, .cells 93 [.mp 3, .sl 14 x.2.1.2.1 x.2.1.2.2.1]), (3, .pr (mapPr (Enc.ag (Zz.encP (Zz.encP Zz.encI Zz.encI) (Zz.encP Zz.encI Zz.encI))) veB x.2.1.2.2.2)), (14, .arr (Int × Bool × Int × Int) (Zz.encP Zz.encI (Zz.encP Zz.encB (Zz.encP Zz.encI Zz.encI))) 64 x.2.1.1 x.2.1.2.2.1), (5, .cells 93 [.mp 6, .sl 15 x.2.2.1.2.1 x.2.2.1.2.2.1]), (6, .pr (mapPr (Enc.ag (Zz.encP (Zz.encP Zz.encI Zz.encI) (Zz.encP Zz.encI Zz.encI))) veB x.2.2.1.2.2.2)), (15, .arr (Int × Bool × Int × Int) (Zz.encP Zz.encI (Zz.encP Zz.encB (Zz.encP Zz.encI Zz.encI))) 64 x.2.2.1.1 x.2.2.1.2.2.1), (8, .cells 93 [.mp 9, .sl 16 x.2.2.2.1.2.1 x.2.2.2.1.2.2.1]), (9, .pr (mapPr (Enc.ag (Zz.encP (Zz.encP Zz.encI Zz.encI) (Zz.encP Zz.encI Zz.encI))) veB x.2.2.2.1.2.2.2)), (16, .arr (Int × Bool × Int × Int) (Zz.encP Zz.encI (Zz.encP Zz.encB (Zz.encP Zz.encI Zz.encI))) 64 x.2.2.2.1.1 x.2.2.2.1.2.2.1), (11, .cells 93 [.mp 12, .sl 17 x.2.2.2.2.2.1 x.2.2.2.2.2.2.1]), (12, .pr (mapPr (Enc.ag (Zz.encP (Zz.encP Zz.encI Zz.encI) (Zz.encP Zz.encI Zz.encI))) veB x.2.2.2.2.2.2.2)), (17, .arr (Int × Bool × Int × Int) (Zz.encP Zz.encI (Zz.encP Zz.encB (Zz.encP Zz.encI Zz.encI))) 64 x.2.2.2.2.1 x.2.2.2.2.2.2.1)]) [4, 7, 10, 13] (fun x => 0 ≤ x.1 ∧ x.1 ≤ (l.length : Nat) ∧ SI x.1 x.2.1 x.2.2.1 x.2.2.2.1 x.2.2.2.2) (fun x => l.length - x.1.toNat) ⟨(0, ([], 0, 0, []), ([], 0, 0, []), ([], 0, 0, []), ([], 0, 0, [])), ?_⟩ (fun x hI => ?_)) | (change @Exists ((Int × AxS × AxS × AxS × AxS)) (fun _ => updK _ _ _ _ _ _); refine @Exists.intro ((Int × AxS × AxS × AxS × AxS)) _ ((?_, (?_, ?_, ?_, ?_), (?_, ?_, ?_, ?_), (?_, ?_, ?_, ?_), (?_, ?_, ?_, ?_))) ?_; rotate_left 17) | (change LoopGoal _ _ _ _ _ _; refine loop_at 15 (gmOk E) rfl [] (X := (Int × Nat)) (fun y => [(61, .int .i64 y.1), (9, .sl 32 (outF (ordS ltP (normP (x.2.2.2.1.2.2.2.map (·.1)))) (ordS ltP (normP (x.2.2.2.2.2.2.2.map (·.1)))) y.1).length y.2)]) (fun y => [(32, .arr ((Int × Int) × (Int × Int)) (Zz.encP (Zz.encP Zz.encI Zz.encI) (Zz.encP Zz.encI Zz.encI)) 41 (outF (ordS ltP (normP (x.2.2.2.1.2.2.2.map (·.1)))) (ordS ltP (normP (x.2.2.2.2.2.2.2.map (·.1)))) y.1) y.2)]) [30] (fun y => 0 ≤ y.1 ∧ y.1 ≤ ((ordS ltP (normP (x.2.2.2.1.2.2.2.map (·.1)))).length : Nat)) (fun y => (ordS ltP (normP (x.2.2.2.1.2.2.2.map (·.1)))).length - y.1.toNat) ⟨(0, 0), ?_⟩ (fun y hJ => ?_)) | (change @Exists ((Int × Nat)) (fun _ => updK _ _ _ _ _ _); refine @Exists.intro ((Int × Nat)) _ ((?_, ?_)) ?_; rotate_left 2) | (change LoopGoal _ _ _ _ _ _; refine loop_at 18 (gmOk E) rfl [] (X := (Int × Nat)) (fun z => [(68, .int .i64 z.1), (9, .sl 50 (outF (ordS ltP (normP (x.2.2.2.1.2.2.2.map (·.1)))) (ordS ltP (normP (x.2.2.2.2.2.2.2.map (·.1)))) y.1 ++ inF ((ordS ltP (normP (x.2.2.2.1.2.2.2.map (·.1)))).getD y.1.toNat ((0, 0), (0, 0))) (ordS ltP (normP (x.2.2.2.2.2.2.2.map (·.1)))) z.1).length z.2)]) (fun z => [(50, .arr ((Int × Int) × (Int × Int)) (Zz.encP (Zz.encP Zz.encI Zz.encI) (Zz.encP Zz.encI Zz.encI)) 41 (outF (ordS ltP (normP (x.2.2.2.1.2.2.2.map (·.1)))) (ordS ltP (normP (x.2.2.2.2.2.2.2.map (·.1)))) y.1 ++ inF ((ordS ltP (normP (x.2.2.2.1.2.2.2.map (·.1)))).getD y.1.toNat ((0, 0), (0, 0))) (ordS ltP (normP (x.2.2.2.2.2.2.2.map (·.1)))) z.1) z.2)]) [32] (fun z => 0 ≤ z.1 ∧ z.1 ≤ ((ordS ltP (normP (x.2.2.2.2.2.2.2.map (·.1)))).length : Nat)) (fun z => (ordS ltP (normP (x.2.2.2.2.2.2.2.map (·.1)))).length - z.1.toNat) ⟨(0, y.2), ?_⟩ (fun z hK => ?_)) | (change @Exists ((Int × Nat)) (fun _ => updK _ _ _ _ _ _); refine @Exists.intro ((Int × Nat)) _ ((?_, ?_)) ?_; rotate_left 2) | (change CallGoal _ _ _ _ _ _; first | (refine call_rule (newsweep_z E) [] rfl True.intro rfl (fun x hx => ?_)) | (refine call_rule (newaxis_z E) [] rfl True.intro rfl (fun x hx => ?_)) | (refine call_rule (swput_z E x.2.1.1 x.2.2.1.1 x.2.1.2.1 x.2.1.2.2.1 x.2.2.1.2.1 x.2.2.1.2.2.1 x.2.1.2.2.2 x.2.2.1.2.2.2 (x.1, 1) (l.getD x.1.toNat (0, 0, 0, 0)) ⟨(hI.2.2.ha (by omega) _).1, (hI.2.2.ha (by omega) _).2, hr⟩) [1, 2, 3, 14, 5, 6, 15] rfl (And.intro rfl (And.intro rfl (And.intro rfl (And.intro rfl (And.intro rfl (And.intro rfl (And.intro rfl True.intro))))))) rfl (fun y1 hy1 => ?_)) | (refine call_rule (axput_z E x.2.2.2.1.1 x.2.2.2.1.2.1 x.2.2.2.1.2.2.1 x.2.2.2.1.2.2.2 (x.1, 1) (l.getD x.1.toNat (0, 0, 0, 0)).1 (l.getD x.1.toNat (0, 0, 0, 0)).2.2.1 ((hI.2.2.hc (by omega) _).1.put (rightP_x _ hr))) [8, 9, 16] rfl (And.intro rfl (And.intro rfl (And.intro rfl True.intro))) rfl (fun y2 hy2 => ?_)) | (refine call_rule (axput_z E x.2.2.2.2.1 x.2.2.2.2.2.1 x.2.2.2.2.2.2.1 x.2.2.2.2.2.2.2 (x.1, 1) (l.getD x.1.toNat (0, 0, 0, 0)).2.1 (l.getD x.1.toNat (0, 0, 0, 0)).2.2.2 ((hI.2.2.hc (by omega) _).2.put (rightP_y _ hr))) [11, 12, 17] rfl (And.intro rfl (And.intro rfl (And.intro rfl True.intro))) rfl (fun y3 hy3 => ?_)) | (refine call_rule (axpairs_z E x.2.2.2.1.1 x.2.2.2.1.2.1 x.2.2.2.1.2.2.1 x.2.2.2.1.2.2.2 (by have q := (hI.2.2.sz (by omega)); omega)) [8, 9, 16] rfl (And.intro rfl (And.intro rfl (And.intro rfl True.intro))) rfl (fun (r1 : Nat) hr1 => ?_)) | (refine call_rule (axpairs_z E x.2.2.2.2.1 x.2.2.2.2.2.1 x.2.2.2.2.2.2.1 x.2.2.2.2.2.2.2 (by have q := (hI.2.2.sz (by omega)); omega)) [11, 12, 17] rfl (And.intro rfl (And.intro rfl (And.intro rfl True.intro))) rfl (fun (r2 : Nat) hr2 => ?_)) | (refine call_rule (swpairs_z E x.2.1.1 x.2.2.1.1 x.2.1.2.1 x.2.1.2.2.1 x.2.2.1.2.1 x.2.2.1.2.2.1 x.2.1.2.2.2 x.2.2.1.2.2.2 (by have q := (hI.2.2.sz (by omega)); omega)) [1, 2, 3, 14, 5, 6, 15] rfl (And.intro rfl (And.intro rfl (And.intro rfl (And.intro rfl (And.intro rfl (And.intro rfl (And.intro rfl True.intro))))))) rfl (fun (r3 : Nat) hr3 => ?_))) | (change CallGoal _ _ _ _ _ _; first | (refine call0 (alive_z E) [] rfl True.intro rfl ?_) | (refine call0 (swput_bad E x.2.1.1 x.2.2.1.1 x.2.1.2.1 x.2.1.2.2.1 x.2.2.1.2.1 x.2.2.1.2.2.1 x.2.1.2.2.2 x.2.2.1.2.2.2 (x.1, 1) (l.getD x.1.toNat (0, 0, 0, 0)) hr) [1, 2, 3, 14, 5, 6, 15] rfl (And.intro rfl (And.intro rfl (And.intro rfl (And.intro rfl (And.intro rfl (And.intro rfl (And.intro rfl True.intro))))))) rfl ?_) | (refine call0 (same_z E _ _ _ _ _ _ ⟨rfl, rfl, ?_, ?_⟩) [48, 32] rfl (And.intro rfl (And.intro rfl True.intro)) rfl ?_)) | (change CallGoal (Gm E) 12 _ _ _ _; refine Or.elim (Classical.em (rightP (l.getD x.1.toNat (0, 0, 0, 0)))) (fun hr => ?_) (fun hr => ?_))
  all_goals first
    | (dsimp only; first | rfl | omega)
    | rfl
    | omega
    | exact SI.start
    | exact hI.2.2.put hr.1 hr.2.1 hy1 hy2 hy3
    | exact Nat.le_refl _
    | exact decide_eq_true (hI.2.2.same hJ.2 ‹¬ y.1 < _›)
    | (have q := hI.2.2.sz (by omega); have q2 := pairs2_len x.2.1.2.2.2 x.2.2.1.2.2.2; omega)
    | (have q := hI.2.2.sz (by omega); have q2 := pairsL_len x.2.2.2.1.2.2.2; have q3 := pairsL_len x.2.2.2.2.2.2.2; omega)
    | (have q := hI.2.2.sz (by omega); have q2 := pairsL_len x.2.2.2.1.2.2.2; have q3 := @outF_len _ _ (ordS ltP (normP (x.2.2.2.1.2.2.2.map (·.1)))) (ordS ltP (normP (x.2.2.2.2.2.2.2.map (·.1)))) y.1 (pairsL_nodup _); first | omega | (have q4 := @inF_len _ _ (ordS ltP (normP (x.2.2.2.2.2.2.2.map (·.1)))) z.1 ((ordS ltP (normP (x.2.2.2.1.2.2.2.map (·.1)))).getD y.1.toNat ((0, 0), (0, 0))) (pairsL_nodup _); first | (rw [List.length_append]; omega) | (change (_ + 1) * 32 ≤ _; rw [List.length_append]; omega)))
    | (have e := @inF_in _ _ (ordS ltP (normP (x.2.2.2.2.2.2.2.map (·.1)))) z.1 ((0, 0), (0, 0)) ((ordS ltP (normP (x.2.2.2.1.2.2.2.map (·.1)))).getD y.1.toNat ((0, 0), (0, 0))) hK.1 ‹z.1 < _› (pairEq.1 ‹_ ∧ _ ∧ _ ∧ _›); dsimp only; rw [e, ← List.append_assoc]; first | (rw [List.length_append (bs := [_])]; rfl) | (rw [List.take_length]; rfl))
    | (have e := @inF_out _ _ (ordS ltP (normP (x.2.2.2.2.2.2.2.map (·.1)))) z.1 ((0, 0), (0, 0)) ((ordS ltP (normP (x.2.2.2.1.2.2.2.map (·.1)))).getD y.1.toNat ((0, 0), (0, 0))) hK.1 ‹z.1 < _› (fun e => absurd (pairEq.2 e) ‹¬(_ ∧ _)›); dsimp only; rw [e])
    | (have e := @outF_next _ _ (ordS ltP (normP (x.2.2.2.1.2.2.2.map (·.1)))) (ordS ltP (normP (x.2.2.2.2.2.2.2.map (·.1)))) y.1 z.1 ((0, 0), (0, 0)) hJ.1 ‹y.1 < _› hK.1 hK.2 ‹¬ z.1 < _›; dsimp only; rw [e])
    | (have e : inF ((ordS ltP (normP (x.2.2.2.1.2.2.2.map (·.1)))).getD y.1.toNat ((0, 0), (0, 0))) (ordS ltP (normP (x.2.2.2.2.2.2.2.map (·.1)))) 0 = [] := rfl; dsimp only; rw [e, List.append_nil])

theorem axisSides_any (E : Nat → Addr) (av : Option Addr) (l : List (Int × Int × Int × Int)) (c : Nat) (W : World) (hG : Errs [1, 3, 0] W 227 E) (hav : Arr W 4 av l.length c (flat (Zz.encP Zz.encI (Zz.encP Zz.encI (Zz.encP Zz.encI Zz.encI))).val l)) :
    Calls Tryd.prog 4 #[.slice av l.length c] W (Ret fun v w' => v = .bool true ∧ Keep Nn W w') :=
  (sides_z E l l.length c rfl).law (fun _ => av) hG rfl (fun c α e l' k' hm => by cases List.mem_singleton.1 hm; exact ⟨hav, by decide⟩) (fun _ => rfl) (by simp [SV.denL, SV.den, Sp0])
end Go.Proofs.YtpojafdllcioiaaDoor

namespace Go.Proofs.YtpojafdllcioiaaDoor
open Go.Zz Go.Px
set_option linter.unusedVariables false
set_option linter.unusedSectionVars false
set_option linter.unusedSimpArgs false
set_option maxRecDepth 10000
abbrev Bx := Int × Int × Int × Int
abbrev BRel := (Int × Int) → Bx → Prop
def bX (b : Bx) : Int × Int := (b.1, b.2.2.1)
def bY (b : Bx) : Int × Int := (b.2.1, b.2.2.2)
def Upd (R : BRel) (hh : Int × Int) (c : Bx) : BRel := fun h d => (h = hh ∧ d = c) ∨ (h ≠ hh ∧ R h d)
def CutR (R : BRel) (hh : Int × Int) : BRel := fun h d => h ≠ hh ∧ R h d
/-- The spans of the boxes that are held. -/
def Has (m : Spans) (f : Bx → Int × Int) (R : BRel) : Prop := ∀ s, s ∈ m ↔ ∃ c, R s.1 c ∧ s.2 = f c
theorem Has.ext {m : Spans} {f : Bx → Int × Int} {R S : BRel} (h : Has m f R) (e : ∀ h c, R h c ↔ S h c) : Has m f S := fun s => by
  rw [h s]
  constructor <;> rintro ⟨c, h1, h2⟩
  · exact ⟨c, (e _ _).1 h1, h2⟩
  · exact ⟨c, (e _ _).2 h1, h2⟩
theorem Has.put {m : Spans} {f : Bx → Int × Int} {R : BRel} (h : Has m f R) (hh : Int × Int) (c : Bx) : Has (putM m (hh, f c)) f (Upd R hh c) := fun s => by
  unfold putM
  rw [List.mem_append, mem_dropM, List.mem_singleton, h s]
  constructor
  · rintro (⟨⟨d, h1, h2⟩, h3⟩ | rfl)
    · exact ⟨d, .inr ⟨h3, h1⟩, h2⟩
    · exact ⟨c, .inl ⟨rfl, rfl⟩, rfl⟩
  · rintro ⟨d, (⟨h1, rfl⟩ | ⟨h1, h2⟩), h3⟩
    · right; obtain ⟨s1, s2⟩ := s; cases h1; cases h3; rfl
    · exact .inl ⟨⟨d, h2, h3⟩, h1⟩
theorem Has.drop {m : Spans} {f : Bx → Int × Int} {R : BRel} (h : Has m f R) (hh : Int × Int) : Has (dropM hh m) f (CutR R hh) := fun s => by
  rw [mem_dropM, h s]
  constructor
  · rintro ⟨⟨d, h1, h2⟩, h3⟩; exact ⟨d, ⟨h3, h1⟩, h2⟩
  · rintro ⟨d, ⟨h1, h2⟩, h3⟩; exact ⟨⟨d, h2, h3⟩, h1⟩
theorem Has.eq {m r : Spans} {f : Bx → Int × Int} {R : BRel} (h : Has m f R) (h2 : Has r f R) (s : (Int × Int) × Int × Int) : s ∈ m ↔ s ∈ r := by rw [h s, h2 s]
theorem PM_ext {m r : Spans} (h : ∀ s, s ∈ m ↔ s ∈ r) (p : (Int × Int) × (Int × Int)) : PM m p ↔ PM r p := by
  constructor <;> rintro ⟨h1, a, ha, b, hb, q⟩
  · exact ⟨h1, a, (h a).1 ha, b, (h b).1 hb, q⟩
  · exact ⟨h1, a, (h a).2 ha, b, (h b).2 hb, q⟩
theorem Inv.mlen {m r : Spans} {es ey : Ends} {L M : PMap} (h : Inv m es L) (h2 : Inv r ey M) (e : ∀ s, s ∈ m ↔ s ∈ r) : es.length = ey.length := by
  have d1 : m.Nodup := (List.pairwise_map.1 h.nd).imp fun q e => q (congrArg (·.1) e)
  have d2 : r.Nodup := (List.pairwise_map.1 h2.nd).imp fun q e => q (congrArg (·.1) e)
  have e1 := nodup_len d1 fun s hs => (e s).1 hs; have e2 := nodup_len d2 fun s hs => (e s).2 hs
  have := h.len; have := h2.len; omega
/-- A sweep that holds just these boxes. -/
structure SwI (R : BRel) (i : Int) (a b : AxS) : Prop where
  ex : ∃ m r : Spans, AxI m i a ∧ AxI r i b ∧ Has m bX R ∧ Has r bY R
theorem AxI.le {m : Spans} {i j : Int} {a : AxS} (h : AxI m i a) (hij : i ≤ j) : AxI m j a := ⟨h.inv, h.n, h.k, by have := h.len; omega⟩
section
variable {R S : BRel} {i j : Int} {a b c d : AxS}
theorem SwI.start (h : ∀ h c, ¬ R h c) : SwI R 0 ([], 0, 0, []) ([], 0, 0, []) := ⟨[], [], AxI.nil, AxI.nil, fun s => by simp [h], fun s => by simp [h]⟩
theorem SwI.ext (h : SwI R i a b) (hij : i ≤ j) (e : ∀ h c, R h c ↔ S h c) : SwI S j a b := by
  obtain ⟨m, r, h1, h2, h3, h4⟩ := h.ex
  exact ⟨m, r, h1.le hij, h2.le hij, h3.ext e, h4.ext e⟩
theorem SwI.put (h : SwI R i a b) {hh : Int × Int} {q : Bx} (hr : rightP q) {x : (Nat × Nat × Nat) × (Nat × Nat × Nat)} (hx : PutAt hh q.1 q.2.2.1 a.1 x.1 ∧ PutAt hh q.2.1 q.2.2.2 b.1 x.2) :
    SwI (Upd R hh q) (i + 1) (put2 hh q.1 q.2.2.1 a.1 x.1, (dropP (isE hh) a.1).length + 2, x.1.2.2, putL hh q.1 q.2.2.1 a.1 a.2.2.2 x.1) (put2 hh q.2.1 q.2.2.2 b.1 x.2, (dropP (isE hh) b.1).length + 2, x.2.2.2, putL hh q.2.1 q.2.2.2 b.1 b.2.2.2 x.2) := by
  obtain ⟨m, r, h1, h2, h3, h4⟩ := h.ex
  exact ⟨_, _, h1.put hr.1 hx.1, h2.put hr.2.1 hx.2, h3.put hh q, h4.put hh q⟩
theorem SwI.drop (h : SwI R i a b) (hh : Int × Int) : SwI (CutR R hh) i (dropP (isE hh) a.1, (dropP (isE hh) a.1).length, a.2.2.1, cutL hh a.2.2.2) (dropP (isE hh) b.1, (dropP (isE hh) b.1).length, b.2.2.1, cutL hh b.2.2.2) := by
  obtain ⟨m, r, h1, h2, h3, h4⟩ := h.ex
  have e1 := dropP_len (isE hh) a.1; have e2 := dropP_len (isE hh) b.1; have e3 := dropM_len hh m; have e4 := dropM_len hh r
  exact ⟨_, _, ⟨h1.inv.drop hh, rfl, Nat.le_trans e1 h1.k, by have := h1.len; omega⟩, ⟨h2.inv.drop hh, rfl, Nat.le_trans e2 h2.k, by have := h2.len; omega⟩, h3.drop hh, h4.drop hh⟩
theorem SwI.ha (h : SwI R i a b) (hi : i ≤ 1000) (hh : Int × Int) : AxH hh a.1 a.2.1 a.2.2.1 a.2.2.2 ∧ AxH hh b.1 b.2.1 b.2.2.1 b.2.2.2 := by obtain ⟨m, r, h1, h2, _, _⟩ := h.ex; exact ⟨h1.h hi hh, h2.h hi hh⟩
theorem SwI.has (h : SwI R i a b) {hh : Int × Int} {q : Bx} (hq : R hh q) : ¬ (dropP (isE hh) a.1).length = a.1.length ∧ ¬ (dropP (isE hh) b.1).length = b.1.length := by
  obtain ⟨m, r, h1, h2, h3, h4⟩ := h.ex
  exact ⟨fun e => (h1.inv.has hh).1 e (List.mem_map.2 ⟨(hh, bX q), (h3 _).2 ⟨q, hq, rfl⟩, rfl⟩), fun e => (h2.inv.has hh).1 e (List.mem_map.2 ⟨(hh, bY q), (h4 _).2 ⟨q, hq, rfl⟩, rfl⟩)⟩
theorem SwI.small (h : SwI R i a b) (hi : i ≤ 1000) : a.2.2.2.length ≤ 1000000000 ∧ a.2.1 ≤ 2000 ∧ b.2.2.2.length ≤ 1000000000 := by
  obtain ⟨m, r, h1, h2, _, _⟩ := h.ex
  exact ⟨h1.small hi, by have := h1.len; have := h1.n; have := h1.inv.len; omega, h2.small hi⟩
theorem SwI.len (h : SwI R i a b) (h' : SwI R j c d) : a.2.1 = c.2.1 := by
  obtain ⟨m, r, h1, _, h3, _⟩ := h.ex
  obtain ⟨m', r', q1, _, q3, _⟩ := h'.ex
  rw [h1.n, q1.n]; exact h1.inv.mlen q1.inv (h3.eq q3)
theorem SwI.same (h : SwI R i a b) (h' : SwI R j c d) : dropP (notM b.2.2.2) (ordS ltP (normP (a.2.2.2.map (·.1)))) = dropP (notM d.2.2.2) (ordS ltP (normP (c.2.2.2.map (·.1)))) := by
  obtain ⟨m, r, h1, h2, h3, h4⟩ := h.ex
  obtain ⟨m', r', q1, q2, q3, q4⟩ := h'.ex
  refine pairs_one (pairs2_rises _ _) (pairs2_rises _ _) fun p => ?_
  show p ∈ pairs2 _ _ ↔ p ∈ pairs2 _ _
  rw [pairs2_mem h1.inv h2.inv, pairs2_mem q1.inv q2.inv, PM_ext (h3.eq q3), PM_ext (h4.eq q4)]
end
/-- Where the walk through the boxes begins. -/
def rO (f : Int) (n : Nat) : Int := (IntKind.u64.wrap f).tmod (IntKind.u64.wrap n)
def kO (f : Int) (n : Nat) (i : Int) : Int := (i + rO f n).tmod n
section
variable {f : Int} {n : Nat} {i : Int}
theorem wrap_n (hn : n ≤ 40) : IntKind.u64.wrap n = n := fitP_wrap (show 0 ≤ (n : Int) ∧ (n : Int) ≤ 18446744073709551615 by omega)
theorem wrap_lo (f : Int) : 0 ≤ IntKind.u64.wrap f := by rw [IntKind.wrap_u64]; omega
theorem rO_in (h0 : 0 < (n : Int)) (hn : n ≤ 40) : 0 ≤ rO f n ∧ rO f n < n := by
  have e := wrap_lo f
  unfold rO; rw [wrap_n hn, Int.tmod_eq_emod_of_nonneg e]
  exact ⟨Int.emod_nonneg _ (by omega), Int.emod_lt_of_pos _ h0⟩
theorem kO_emod (h0 : 0 < (n : Int)) (hn : n ≤ 40) (hi : 0 ≤ i) : kO f n i = (i + rO f n) % n := by
  have e := (rO_in (f := f) h0 hn).1
  unfold kO; rw [Int.tmod_eq_emod_of_nonneg (by omega)]
theorem kO_in (h0 : 0 < (n : Int)) (hn : n ≤ 40) (hi : 0 ≤ i) : 0 ≤ kO f n i ∧ kO f n i < n := by
  rw [kO_emod h0 hn hi]; exact ⟨Int.emod_nonneg _ (by omega), Int.emod_lt_of_pos _ h0⟩
theorem kO_all (hn : n ≤ 40) {t : Int} (h1 : 0 ≤ t) (h2 : t < n) : ∃ j : Int, 0 ≤ j ∧ j < n ∧ t = kO f n j := by
  have h0 : 0 < (n : Int) := by omega
  refine ⟨(t - rO f n) % n, Int.emod_nonneg _ (by omega), Int.emod_lt_of_pos _ h0, ?_⟩
  rw [kO_emod h0 hn (Int.emod_nonneg _ (by omega)), Int.emod_add_emod, Int.sub_add_cancel, Int.emod_eq_of_lt h1 h2]
end
def dB : Bx := (0, 0, 0, 0)
def RA (l : List Bx) (i : Int) : BRel := fun h c => h.2 = 1 ∧ 0 ≤ h.1 ∧ h.1 < i ∧ c = l.getD h.1.toNat dB
def RG (g : List Bx) (k i : Int) : BRel := fun h c => h.2 = 1 ∧ 50 + k ≤ h.1 ∧ h.1 < 50 + i ∧ c = g.getD (h.1 - 50).toNat dB
def RB (l g : List Bx) (f : Int) (i : Int) : BRel := fun h c => RG g 0 g.length h c ∨ (h.2 = 1 ∧ (∃ j, 0 ≤ j ∧ j < i ∧ h.1 = kO f l.length j) ∧ c = l.getD h.1.toNat dB)
def RC (l g : List Bx) (k : Int) : BRel := fun h c => RG g k g.length h c ∨ RA l l.length h c
section
variable {l g : List Bx} {f i k : Int}
theorem RA_none (h : Int × Int) (c : Bx) : ¬ RA l 0 h c := fun q => by have := q.2.1; have := q.2.2.1; omega
theorem RG_none (h : Int × Int) (c : Bx) : ¬ RG g 0 0 h c := fun q => by have := q.2.1; have := q.2.2.1; omega
theorem RA_next (h0 : 0 ≤ i) (h : Int × Int) (c : Bx) : Upd (RA l i) (i, 1) (l.getD i.toNat dB) h c ↔ RA l (i + 1) h c := by
  obtain ⟨h, g⟩ := h
  unfold Upd RA
  simp only [Prod.mk.injEq, ne_eq]
  constructor
  · rintro (⟨⟨rfl, rfl⟩, rfl⟩ | ⟨_, h1, h2, h3, h4⟩)
    · exact ⟨rfl, h0, by omega, rfl⟩
    · exact ⟨h1, h2, by omega, h4⟩
  · rintro ⟨rfl, h2, h3, rfl⟩
    by_cases e : h = i
    · subst e; exact .inl ⟨⟨rfl, rfl⟩, rfl⟩
    · exact .inr ⟨fun q => e q.1, rfl, h2, by omega, rfl⟩
theorem RG_next (h0 : 0 ≤ i) (h : Int × Int) (c : Bx) : Upd (RG g 0 i) (i + 50, 1) (g.getD i.toNat dB) h c ↔ RG g 0 (i + 1) h c := by
  obtain ⟨h, k⟩ := h
  unfold Upd RG
  simp only [Prod.mk.injEq, ne_eq]
  constructor
  · rintro (⟨⟨rfl, rfl⟩, rfl⟩ | ⟨_, h1, h2, h3, h4⟩)
    · exact ⟨rfl, by omega, by omega, by rw [show i + 50 - 50 = i by omega]⟩
    · exact ⟨h1, h2, by omega, h4⟩
  · rintro ⟨rfl, h2, h3, rfl⟩
    by_cases e : h = i + 50
    · subst e; exact .inl ⟨⟨rfl, rfl⟩, by rw [show i + 50 - 50 = i by omega]⟩
    · exact .inr ⟨fun q => e q.1, rfl, h2, by omega, rfl⟩
theorem RB_start (h : Int × Int) (c : Bx) : RG g 0 g.length h c ↔ RB l g f 0 h c :=
  ⟨.inl, fun q => q.elim id fun q => by obtain ⟨_, ⟨j, h1, h2, _⟩, _⟩ := q; omega⟩
theorem RB_next (h0 : 0 ≤ i) (h1 : i < (l.length : Nat)) (hn : l.length ≤ 40) (h : Int × Int) (c : Bx) : Upd (RB l g f i) (kO f l.length i, 1) (l.getD (kO f l.length i).toNat dB) h c ↔ RB l g f (i + 1) h c := by
  have hk := kO_in (f := f) (n := l.length) (i := i) (by omega) hn h0
  obtain ⟨h, k⟩ := h
  unfold Upd RB
  simp only [Prod.mk.injEq, ne_eq]
  constructor
  · rintro (⟨⟨rfl, rfl⟩, rfl⟩ | ⟨_, q | ⟨h1, ⟨j, h2, h3, h4⟩, h5⟩⟩)
    · exact .inr ⟨rfl, ⟨i, h0, by omega, rfl⟩, rfl⟩
    · exact .inl q
    · exact .inr ⟨h1, ⟨j, h2, by omega, h4⟩, h5⟩
  · rintro (q | ⟨rfl, ⟨j, h2, h3, rfl⟩, rfl⟩)
    · exact .inr ⟨fun e => by have := q.2.1; dsimp only at this; omega, .inl q⟩
    · by_cases e : kO f l.length j = kO f l.length i
      · exact .inl ⟨⟨e, rfl⟩, by rw [e]⟩
      · have : j ≠ i := fun q => e (congrArg _ q)
        exact .inr ⟨fun q => e q.1, .inr ⟨rfl, ⟨j, h2, by omega, rfl⟩, rfl⟩⟩
theorem RB_two (hh : Int × Int) (q p : Bx) (R : BRel) (h : Int × Int) (c : Bx) : Upd (Upd R hh q) hh p h c ↔ Upd R hh p h c := by
  unfold Upd
  constructor
  · rintro (q | ⟨h1, ⟨h2, _⟩ | ⟨_, h2⟩⟩)
    · exact .inl q
    · exact absurd h2 h1
    · exact .inr ⟨h1, h2⟩
  · rintro (q | ⟨h1, h2⟩)
    · exact .inl q
    · exact .inr ⟨h1, .inr ⟨h1, h2⟩⟩
theorem RB_all (hn : l.length ≤ 40) (h1 : i ≤ (l.length : Nat)) (h2 : ¬ i < (l.length : Nat)) (h : Int × Int) (c : Bx) : RB l g f i h c ↔ RC l g 0 h c := by
  obtain rfl : i = (l.length : Nat) := by omega
  constructor
  · rintro (q | ⟨q1, ⟨j, q2, q3, q4⟩, q5⟩)
    · exact .inl q
    · have := kO_in (f := f) (n := l.length) (i := j) (by omega) hn q2
      exact .inr ⟨q1, by omega, by omega, q5⟩
  · rintro (q | ⟨q1, q2, q3, q4⟩)
    · exact .inl q
    · exact .inr ⟨q1, kO_all hn q2 q3, q4⟩
theorem RC_next (h0 : 0 ≤ k) (h1 : k < (g.length : Nat)) (hn : l.length ≤ 40) (h : Int × Int) (c : Bx) : CutR (RC l g k) (k + 50, 1) h c ↔ RC l g (k + 1) h c := by
  obtain ⟨h, t⟩ := h
  unfold CutR RC RG RA
  simp only [Prod.mk.injEq, ne_eq]
  constructor
  · rintro ⟨h1, ⟨rfl, h3, h4, h5⟩ | q⟩
    · have : h ≠ k + 50 := fun e => h1 ⟨e, rfl⟩
      exact .inl ⟨rfl, by omega, h4, h5⟩
    · exact .inr q
  · rintro (⟨rfl, h3, h4, h5⟩ | q)
    · exact ⟨fun e => by omega, .inl ⟨rfl, by omega, h4, h5⟩⟩
    · exact ⟨fun e => by have := q.2.2.1; omega, .inr q⟩
theorem RC_has (h0 : 0 ≤ k) (h1 : k < (g.length : Nat)) : RC l g k (k + 50, 1) (g.getD k.toNat dB) := .inl ⟨rfl, by dsimp only; omega, by dsimp only; omega, by dsimp only; rw [show k + 50 - 50 = k by omega]⟩
theorem RC_all (h1 : k ≤ (g.length : Nat)) (h2 : ¬ k < (g.length : Nat)) (h : Int × Int) (c : Bx) : RC l g k h c ↔ RA l l.length h c :=
  ⟨fun q => q.elim (fun q => by have := q.2.1; have := q.2.2.1; omega) id, .inr⟩
end
structure AllR (l : List Bx) (i : Int) : Prop where
  p : ∀ j, 0 ≤ j → j < i → rightP (l.getD j.toNat dB)
theorem AllR.nil (l : List Bx) : AllR l 0 := ⟨fun j h1 h2 => by omega⟩
theorem AllR.next {l : List Bx} {i : Int} (h : AllR l i) (hr : rightP (l.getD i.toNat dB)) : AllR l (i + 1) := ⟨fun j h1 h2 => by
  by_cases e : j = i
  · exact e ▸ hr
  · exact h.p j h1 (by omega)⟩
theorem AllR.at {l : List Bx} {i j : Int} (h : AllR l i) (hi : ¬ i < (l.length : Nat)) (h1 : 0 ≤ j) (h2 : j < (l.length : Nat)) : rightP (l.getD j.toNat dB) := h.p j h1 (by omega)
theorem tm_in {i n : Int} (h0 : 0 ≤ i) (hn : 0 < n) : 0 ≤ i.tmod n ∧ i.tmod n < n := by rw [Int.tmod_eq_emod_of_nonneg h0]; exact ⟨Int.emod_nonneg _ (by omega), Int.emod_lt_of_pos _ hn⟩
theorem RA_end {l : List Bx} {i : Int} (h1 : i ≤ (l.length : Nat)) (h2 : ¬ i < (l.length : Nat)) (h : Int × Int) (c : Bx) : RA l i h c ↔ RA l l.length h c := by rw [show i = (l.length : Nat) by omega]
theorem RG_end {l : List Bx} {i : Int} (h1 : i ≤ (l.length : Nat)) (h2 : ¬ i < (l.length : Nat)) (h : Int × Int) (c : Bx) : RG l 0 i h c ↔ RG l 0 l.length h c := by rw [show i = (l.length : Nat) by omega]
set_option maxHeartbeats 4000000 in
theorem orders_z (E : Nat → Addr) (l g : List (Int × Int × Int × Int)) (n k n2 k2 : Nat) (f : Int) (h : n = l.length ∧ n2 = g.length) : DoesC (Gm E) 5 (Sp0 [.sl 0 n k, .int .i64 f, .sl 1 n2 k2] [(0, .ro (Int × Int × Int × Int) (Zz.encP Zz.encI (Zz.encP Zz.encI (Zz.encP Zz.encI Zz.encI))) l k), (1, .ro (Int × Int × Int × Int) (Zz.encP Zz.encI (Zz.encP Zz.encI (Zz.encP Zz.encI Zz.encI))) g k2)] 2 .tt) := by
  obtain ⟨rfl, rfl⟩ := h
  refine fn_calls (gmOk E) 128 2 [] Tryd.func5 rfl rfl rfl rfl rfl ?_
  repeat' first | (intro h; first | (exfalso; omega; done) | (exfalso; first | exact h trivial | exact h (decide_eq_true ((hI.2.2.2.ext (j := 200) (by omega) (RA_end hI.2.1 ‹¬ x.1 < _›)).same (hL.2.2.ext (j := 200) (by omega) (RC_all hL.2.1 ‹¬ w.1 < _›)))); done) | skip) | (refine And.intro ?_ ?_) | exact True.intro | (refine @Exists.intro Unit _ () ?_) | (refine @Exists.intro (_ = _) _ rfl ?_) | (change LoopGoal _ _ _ _ _ _; refine loop_at 7 (gmOk E) rfl [] (X := (Int × AxS × AxS)) (fun x => [(31, .int .i64 x.1)]) (fun x => [(3, .cells 93 [.mp 4, .sl 16 x.2.1.2.1 x.2.1.2.2.1]), (4, .pr (mapPr (Enc.ag (Zz.encP (Zz.encP Zz.encI Zz.encI) (Zz.encP Zz.encI Zz.encI))) veB x.2.1.2.2.2)), (16, .arr (Int × Bool × Int × Int) (Zz.encP Zz.encI (Zz.encP Zz.encB (Zz.encP Zz.encI Zz.encI))) 64 x.2.1.1 x.2.1.2.2.1), (6, .cells 93 [.mp 7, .sl 17 x.2.2.2.1 x.2.2.2.2.1]), (7, .pr (mapPr (Enc.ag (Zz.encP (Zz.encP Zz.encI Zz.encI) (Zz.encP Zz.encI Zz.encI))) veB x.2.2.2.2.2)), (17, .arr (Int × Bool × Int × Int) (Zz.encP Zz.encI (Zz.encP Zz.encB (Zz.encP Zz.encI Zz.encI))) 64 x.2.2.1 x.2.2.2.2.1)]) [5, 8] (fun x => 0 ≤ x.1 ∧ x.1 ≤ (l.length : Nat) ∧ AllR l x.1 ∧ SwI (RA l x.1) x.1 x.2.1 x.2.2) (fun x => l.length - x.1.toNat) ⟨(0, ([], 0, 0, []), ([], 0, 0, [])), ?_⟩ (fun x hI => ?_)) | (change @Exists ((Int × AxS × AxS)) (fun _ => updK _ _ _ _ _ _); refine @Exists.intro ((Int × AxS × AxS)) _ ((?_, (?_, ?_, ?_, ?_), (?_, ?_, ?_, ?_))) ?_; rotate_left 9) | (change LoopGoal _ _ _ _ _ _; refine loop_at 13 (gmOk E) rfl [] (X := (Int × AxS × AxS)) (fun y => [(45, .int .i64 y.1)]) (fun y => [(10, .cells 93 [.mp 11, .sl 32 y.2.1.2.1 y.2.1.2.2.1]), (11, .pr (mapPr (Enc.ag (Zz.encP (Zz.encP Zz.encI Zz.encI) (Zz.encP Zz.encI Zz.encI))) veB y.2.1.2.2.2)), (32, .arr (Int × Bool × Int × Int) (Zz.encP Zz.encI (Zz.encP Zz.encB (Zz.encP Zz.encI Zz.encI))) 64 y.2.1.1 y.2.1.2.2.1), (13, .cells 93 [.mp 14, .sl 33 y.2.2.2.1 y.2.2.2.2.1]), (14, .pr (mapPr (Enc.ag (Zz.encP (Zz.encP Zz.encI Zz.encI) (Zz.encP Zz.encI Zz.encI))) veB y.2.2.2.2.2)), (33, .arr (Int × Bool × Int × Int) (Zz.encP Zz.encI (Zz.encP Zz.encB (Zz.encP Zz.encI Zz.encI))) 64 y.2.2.1 y.2.2.2.2.1)]) [12, 15] (fun y => 0 ≤ y.1 ∧ y.1 ≤ (g.length : Nat) ∧ AllR g y.1 ∧ SwI (RG g 0 y.1) y.1 y.2.1 y.2.2) (fun y => g.length - y.1.toNat) ⟨(0, ([], 0, 0, []), ([], 0, 0, [])), ?_⟩ (fun y hJ => ?_)) | (change @Exists ((Int × AxS × AxS)) (fun _ => updK _ _ _ _ _ _); refine @Exists.intro ((Int × AxS × AxS)) _ ((?_, (?_, ?_, ?_, ?_), (?_, ?_, ?_, ?_))) ?_; rotate_left 9) | (change LoopGoal _ _ _ _ _ _; refine loop_at 19 (gmOk E) rfl [] (X := (Int × AxS × AxS)) (fun z => [(60, .int .i64 z.1)]) (fun z => [(10, .cells 93 [.mp 11, .sl 48 z.2.1.2.1 z.2.1.2.2.1]), (11, .pr (mapPr (Enc.ag (Zz.encP (Zz.encP Zz.encI Zz.encI) (Zz.encP Zz.encI Zz.encI))) veB z.2.1.2.2.2)), (48, .arr (Int × Bool × Int × Int) (Zz.encP Zz.encI (Zz.encP Zz.encB (Zz.encP Zz.encI Zz.encI))) 64 z.2.1.1 z.2.1.2.2.1), (13, .cells 93 [.mp 14, .sl 49 z.2.2.2.1 z.2.2.2.2.1]), (14, .pr (mapPr (Enc.ag (Zz.encP (Zz.encP Zz.encI Zz.encI) (Zz.encP Zz.encI Zz.encI))) veB z.2.2.2.2.2)), (49, .arr (Int × Bool × Int × Int) (Zz.encP Zz.encI (Zz.encP Zz.encB (Zz.encP Zz.encI Zz.encI))) 64 z.2.2.1 z.2.2.2.2.1)]) [32, 33] (fun z => 0 ≤ z.1 ∧ z.1 ≤ (l.length : Nat) ∧ SwI (RB l g f z.1) (g.length + 2 * z.1) z.2.1 z.2.2) (fun z => l.length - z.1.toNat) ⟨(0, y.2.1, y.2.2), ?_⟩ (fun z hK => ?_)) | (change @Exists ((Int × AxS × AxS)) (fun _ => updK _ _ _ _ _ _); refine @Exists.intro ((Int × AxS × AxS)) _ ((?_, (?_, ?_, ?_, ?_), (?_, ?_, ?_, ?_))) ?_; rotate_left 9) | (change LoopGoal _ _ _ _ _ _; refine loop_at 27 (gmOk E) rfl [] (X := (Int × AxS × AxS)) (fun w => [(106, .int .i64 w.1)]) (fun w => [(10, .cells 93 [.mp 11, .sl 48 w.2.1.2.1 w.2.1.2.2.1]), (11, .pr (mapPr (Enc.ag (Zz.encP (Zz.encP Zz.encI Zz.encI) (Zz.encP Zz.encI Zz.encI))) veB w.2.1.2.2.2)), (48, .arr (Int × Bool × Int × Int) (Zz.encP Zz.encI (Zz.encP Zz.encB (Zz.encP Zz.encI Zz.encI))) 64 w.2.1.1 w.2.1.2.2.1), (13, .cells 93 [.mp 14, .sl 49 w.2.2.2.1 w.2.2.2.2.1]), (14, .pr (mapPr (Enc.ag (Zz.encP (Zz.encP Zz.encI Zz.encI) (Zz.encP Zz.encI Zz.encI))) veB w.2.2.2.2.2)), (49, .arr (Int × Bool × Int × Int) (Zz.encP Zz.encI (Zz.encP Zz.encB (Zz.encP Zz.encI Zz.encI))) 64 w.2.2.1 w.2.2.2.2.1)]) [] (fun w => 0 ≤ w.1 ∧ w.1 ≤ (g.length : Nat) ∧ SwI (RC l g w.1) 200 w.2.1 w.2.2) (fun w => g.length - w.1.toNat) ⟨(0, z.2.1, z.2.2), ?_⟩ (fun w hL => ?_)) | (change @Exists ((Int × AxS × AxS)) (fun _ => updK _ _ _ _ _ _); refine @Exists.intro ((Int × AxS × AxS)) _ ((?_, (?_, ?_, ?_, ?_), (?_, ?_, ?_, ?_))) ?_; rotate_left 9) | (change DrawGoal _ _ _ _ _ _; first | (change DrawGoal _ _ _ [_, _, _, _, _, _, _, _, _, _, _, _, _, _, _, _, _, _, _, _, _, _, _, _, _, _] _ _; refine draw_tree (gmOk E) [0, 1, 64] (.leaf [(0, true), (1, true), (2, true), (3, true), (4, true), (5, true), (6, true), (7, true), (8, true), (9, true), (10, true), (11, true), (12, true), (13, false), (14, true), (15, true), (16, true), (17, true), (18, true), (19, true), (20, true), (21, true), (22, true), (23, false), (24, true), (25, true)]) (by kernel_rfl) ?_)) | (change CallGoal _ _ _ _ _ _; first | (refine call_rule (newsweep_z E) [] rfl True.intro rfl (fun x hx => ?_)) | (refine call_rule (swput_z E x.2.1.1 x.2.2.1 x.2.1.2.1 x.2.1.2.2.1 x.2.2.2.1 x.2.2.2.2.1 x.2.1.2.2.2 x.2.2.2.2.2 (x.1, 1) (l.getD x.1.toNat (0, 0, 0, 0)) ⟨(hI.2.2.2.ha (by omega) _).1, (hI.2.2.2.ha (by omega) _).2, hr⟩) [2, 3, 4, 16, 6, 7, 17] rfl (And.intro rfl (And.intro rfl (And.intro rfl (And.intro rfl (And.intro rfl (And.intro rfl (And.intro rfl True.intro))))))) rfl (fun y1 hy1 => ?_)) | (refine call_rule (swput_z E y.2.1.1 y.2.2.1 y.2.1.2.1 y.2.1.2.2.1 y.2.2.2.1 y.2.2.2.2.1 y.2.1.2.2.2 y.2.2.2.2.2 (y.1 + 50, 1) (g.getD y.1.toNat (0, 0, 0, 0)) ⟨(hJ.2.2.2.ha (by omega) _).1, (hJ.2.2.2.ha (by omega) _).2, hs⟩) [9, 10, 11, 32, 13, 14, 33] rfl (And.intro rfl (And.intro rfl (And.intro rfl (And.intro rfl (And.intro rfl (And.intro rfl (And.intro rfl True.intro))))))) rfl (fun y2 hy2 => ?_)) | (refine call_rule (swput_z E z.2.1.1 z.2.2.1 z.2.1.2.1 z.2.1.2.2.1 z.2.2.2.1 z.2.2.2.2.1 z.2.1.2.2.2 z.2.2.2.2.2 (kO f l.length z.1, 1) (g.getD (z.1.tmod g.length).toNat (0, 0, 0, 0)) ⟨(hK.2.2.ha (by omega) _).1, (hK.2.2.ha (by omega) _).2, (hJ.2.2.1.at ‹¬ y.1 < _› (tm_in hK.1 (by omega)).1 (tm_in hK.1 (by omega)).2)⟩) [9, 10, 11, 48, 13, 14, 49] rfl (And.intro rfl (And.intro rfl (And.intro rfl (And.intro rfl (And.intro rfl (And.intro rfl (And.intro rfl True.intro))))))) rfl (fun y3 hy3 => ?_)) | (refine call_rule (swput_z E z.2.1.1 z.2.2.1 z.2.1.2.1 z.2.1.2.2.1 z.2.2.2.1 z.2.2.2.2.1 z.2.1.2.2.2 z.2.2.2.2.2 (kO f l.length z.1, 1) (l.getD (kO f l.length z.1).toNat (0, 0, 0, 0)) ⟨(hK.2.2.ha (by omega) _).1, (hK.2.2.ha (by omega) _).2, (hI.2.2.1.at ‹¬ x.1 < _› (kO_in (by omega) (by omega) hK.1).1 (kO_in (by omega) (by omega) hK.1).2)⟩) [9, 10, 11, 48, 13, 14, 49] rfl (And.intro rfl (And.intro rfl (And.intro rfl (And.intro rfl (And.intro rfl (And.intro rfl (And.intro rfl True.intro))))))) rfl (fun y4 hy4 => ?_)) | (refine call_rule (swput_z E _ _ _ _ _ _ _ _ (kO f l.length z.1, 1) (l.getD (kO f l.length z.1).toNat (0, 0, 0, 0)) ⟨((hK.2.2.put (hJ.2.2.1.at ‹¬ y.1 < _› (tm_in hK.1 (by omega)).1 (tm_in hK.1 (by omega)).2) hy3).ha (by omega) _).1, ((hK.2.2.put (hJ.2.2.1.at ‹¬ y.1 < _› (tm_in hK.1 (by omega)).1 (tm_in hK.1 (by omega)).2) hy3).ha (by omega) _).2, (hI.2.2.1.at ‹¬ x.1 < _› (kO_in (by omega) (by omega) hK.1).1 (kO_in (by omega) (by omega) hK.1).2)⟩) [9, 10, 11, 65, 13, 14, 66] rfl (And.intro rfl (And.intro rfl (And.intro rfl (And.intro rfl (And.intro rfl (And.intro rfl (And.intro rfl True.intro))))))) rfl (fun y5 hy5 => ?_)) | (refine call_rule (swdrop_some E w.2.1.1 w.2.2.1 w.2.1.2.1 w.2.1.2.2.1 w.2.2.2.1 w.2.2.2.2.1 w.2.1.2.2.2 w.2.2.2.2.2 (w.1 + 50, 1) ⟨(hL.2.2.ha (by omega) _).1, (hL.2.2.ha (by omega) _).2, (hL.2.2.has (RC_has hL.1 ‹w.1 < _›)).1, (hL.2.2.has (RC_has hL.1 ‹w.1 < _›)).2⟩) [9, 10, 11, 48, 13, 14, 49] rfl (And.intro rfl (And.intro rfl (And.intro rfl (And.intro rfl (And.intro rfl (And.intro rfl (And.intro rfl True.intro))))))) rfl (fun y6 hy6 => ?_)) | (refine call_rule (swpairs_z E x.2.1.1 x.2.2.1 x.2.1.2.1 x.2.1.2.2.1 x.2.2.2.1 x.2.2.2.2.1 x.2.1.2.2.2 x.2.2.2.2.2 (by have q := (hI.2.2.2.small (by omega)).1; omega)) [2, 3, 4, 16, 6, 7, 17] rfl (And.intro rfl (And.intro rfl (And.intro rfl (And.intro rfl (And.intro rfl (And.intro rfl (And.intro rfl True.intro))))))) rfl (fun (r1 : Nat) hr1 => ?_)) | (refine call_rule (swpairs_z E w.2.1.1 w.2.2.1 w.2.1.2.1 w.2.1.2.2.1 w.2.2.2.1 w.2.2.2.2.1 w.2.1.2.2.2 w.2.2.2.2.2 (by have q := (hL.2.2.small (by omega)).1; omega)) [9, 10, 11, 48, 13, 14, 49] rfl (And.intro rfl (And.intro rfl (And.intro rfl (And.intro rfl (And.intro rfl (And.intro rfl (And.intro rfl True.intro))))))) rfl (fun (r2 : Nat) hr2 => ?_))) | (change CallGoal _ _ _ _ _ _; first | (refine call0 (alive_z E) [] rfl True.intro rfl ?_) | (refine call0 (swput_bad E x.2.1.1 x.2.2.1 x.2.1.2.1 x.2.1.2.2.1 x.2.2.2.1 x.2.2.2.2.1 x.2.1.2.2.2 x.2.2.2.2.2 (x.1, 1) (l.getD x.1.toNat (0, 0, 0, 0)) hr) [2, 3, 4, 16, 6, 7, 17] rfl (And.intro rfl (And.intro rfl (And.intro rfl (And.intro rfl (And.intro rfl (And.intro rfl (And.intro rfl True.intro))))))) rfl ?_) | (refine call0 (swput_bad E y.2.1.1 y.2.2.1 y.2.1.2.1 y.2.1.2.2.1 y.2.2.2.1 y.2.2.2.2.1 y.2.1.2.2.2 y.2.2.2.2.2 (y.1 + 50, 1) (g.getD y.1.toNat (0, 0, 0, 0)) hs) [9, 10, 11, 32, 13, 14, 33] rfl (And.intro rfl (And.intro rfl (And.intro rfl (And.intro rfl (And.intro rfl (And.intro rfl (And.intro rfl True.intro))))))) rfl ?_) | (refine call0 (swlen_z E x.2.1.1 x.2.2.1 x.2.1.2.1 x.2.1.2.2.1 x.2.2.2.1 x.2.2.2.2.1 x.2.1.2.2.2 x.2.2.2.2.2 (by have q := (hI.2.2.2.small (by omega)).2.1; omega)) [2, 3, 4, 16, 6, 7, 17] rfl (And.intro rfl (And.intro rfl (And.intro rfl (And.intro rfl (And.intro rfl (And.intro rfl (And.intro rfl True.intro))))))) rfl ?_) | (refine call0 (swlen_z E w.2.1.1 w.2.2.1 w.2.1.2.1 w.2.1.2.2.1 w.2.2.2.1 w.2.2.2.2.1 w.2.1.2.2.2 w.2.2.2.2.2 (by have q := (hL.2.2.small (by omega)).2.1; omega)) [9, 10, 11, 48, 13, 14, 49] rfl (And.intro rfl (And.intro rfl (And.intro rfl (And.intro rfl (And.intro rfl (And.intro rfl (And.intro rfl True.intro))))))) rfl ?_) | (refine call0 (same_z E _ _ _ _ _ _ ⟨rfl, rfl, ?_, ?_⟩) [80, 81] rfl (And.intro rfl (And.intro rfl True.intro)) rfl ?_)) | (change CallGoal (Gm E) 12 _ _ _ _; first | refine Or.elim (Classical.em (hK.1 = hK.1)) (fun hs => ?_) (fun hs => absurd rfl hs) | refine Or.elim (Classical.em (rightP (g.getD y.1.toNat (0, 0, 0, 0)))) (fun hs => ?_) (fun hs => ?_) | refine Or.elim (Classical.em (rightP (l.getD x.1.toNat (0, 0, 0, 0)))) (fun hr => ?_) (fun hr => ?_))
  all_goals first
    | (dsimp only; first | rfl | omega)
    | rfl
    | omega
    | exact SwI.start RA_none
    | exact SwI.start RG_none
    | exact AllR.nil _
    | exact hI.2.2.1.next hr
    | exact hJ.2.2.1.next hs
    | exact (hI.2.2.2.put hr hy1).ext (Int.le_refl _) (RA_next hI.1)
    | exact (hJ.2.2.2.put hs hy2).ext (Int.le_refl _) (RG_next hJ.1)
    | exact hJ.2.2.2.ext (by dsimp only; omega) (fun h c => (RG_end hJ.2.1 ‹¬ y.1 < _› h c).trans (RB_start h c))
    | exact hK.2.2.ext (by omega) (RB_all (by omega) hK.2.1 ‹¬ z.1 < _›)
    | exact (hK.2.2.put (hI.2.2.1.at ‹¬ x.1 < _› (kO_in (by omega) (by omega) hK.1).1 (kO_in (by omega) (by omega) hK.1).2) hy4).ext (by dsimp only; omega) (RB_next hK.1 ‹z.1 < _› (by omega))
    | exact ((hK.2.2.put (hJ.2.2.1.at ‹¬ y.1 < _› (tm_in hK.1 (by omega)).1 (tm_in hK.1 (by omega)).2) hy3).put (hI.2.2.1.at ‹¬ x.1 < _› (kO_in (by omega) (by omega) hK.1).1 (kO_in (by omega) (by omega) hK.1).2) hy5).ext (by dsimp only; omega) (fun h c => (RB_two _ _ _ _ h c).trans (RB_next hK.1 ‹z.1 < _› (by omega) h c))
    | exact (hL.2.2.drop _).ext (Int.le_refl _) (RC_next hL.1 ‹w.1 < _› (by omega))
    | (rw [wrap_n (by omega)] at h; omega)
    | (have q := kO_in (f := f) (n := l.length) (i := z.1) (by omega) (by omega) hK.1; unfold kO rO at q; omega)
    | (have q := rO_in (f := f) (n := l.length) (by omega) (by omega); unfold rO at q; omega)
    | (have q := tm_in (i := z.1) (n := g.length) hK.1 (by omega); omega)
    | (have q := hI.2.2.2.small (by omega); have q2 := pairs2_len x.2.1.2.2.2 x.2.2.2.2.2; omega)
    | (have q := hL.2.2.small (by omega); have q2 := pairs2_len w.2.1.2.2.2 w.2.2.2.2.2; omega)
    | (have q : x.2.1.2.1 = w.2.1.2.1 := (hI.2.2.2.ext (j := 200) (by omega) (RA_end hI.2.1 ‹¬ x.1 < _›)).len (hL.2.2.ext (j := 200) (by omega) (RC_all hL.2.1 ‹¬ w.1 < _›)); rw [q])

theorem axisOrders_any (E : Nat → Addr) (av gv : Option Addr) (l g : List (Int × Int × Int × Int)) (c d : Nat) (f : Int) (W : World) (hG : Errs [1, 3, 0] W 227 E) (hav : Arr W 4 av l.length c (flat (Zz.encP Zz.encI (Zz.encP Zz.encI (Zz.encP Zz.encI Zz.encI))).val l)) (hgv : Arr W 4 gv g.length d (flat (Zz.encP Zz.encI (Zz.encP Zz.encI (Zz.encP Zz.encI Zz.encI))).val g)) :
    Calls Tryd.prog 5 #[.slice av l.length c, .int .i64 f, .slice gv g.length d] W (Ret fun v w' => v = .bool true ∧ Keep Nn W w') :=
  (orders_z E l g l.length c g.length d f ⟨rfl, rfl⟩).law (fun i => match i with | 0 => av | _ => gv) hG rfl (fun c α e l' k' hm => by
    rcases List.mem_cons.1 hm with q | q
    · cases q; exact ⟨hav, by decide⟩
    · cases List.mem_singleton.1 q; exact ⟨hgv, by decide⟩) (fun _ => rfl) (by simp [SV.denL, SV.den, Sp0])
end Go.Proofs.YtpojafdllcioiaaDoor

/- errors.Is, of the package's errors -/
namespace Go.Proofs.YtpojafdllcioiaaDoor
open Go.Px
set_option linter.unusedVariables false
set_option linter.unusedSimpArgs false
theorem enters2 : enters Tryd.prog 2 := ⟨_, Tryd.func2, by kernel_rfl, rfl⟩
theorem enters3 : enters Tryd.prog 3 := ⟨_, Tryd.func3, by kernel_rfl, rfl⟩
theorem enters4 : enters Tryd.prog 4 := ⟨_, Tryd.func4, by kernel_rfl, rfl⟩
theorem enters5 : enters Tryd.prog 5 := ⟨_, Tryd.func5, by kernel_rfl, rfl⟩
theorem enters6 : enters Tryd.prog 6 := ⟨_, Tryd.func6, by kernel_rfl, rfl⟩
theorem enters7 : enters Tryd.prog 7 := ⟨_, Tryd.func7, by kernel_rfl, rfl⟩
theorem enters8 : enters Tryd.prog 8 := ⟨_, Tryd.func8, by kernel_rfl, rfl⟩
theorem enters9 : enters Tryd.prog 9 := ⟨_, Tryd.func9, by kernel_rfl, rfl⟩
theorem enters10 : enters Tryd.prog 10 := ⟨_, Tryd.func10, by kernel_rfl, rfl⟩
theorem enters11 : enters Tryd.prog 11 := ⟨_, Tryd.func11, by kernel_rfl, rfl⟩
theorem enters12 : enters Tryd.prog 12 := ⟨_, Tryd.func12, by kernel_rfl, rfl⟩
theorem enters13 : enters Tryd.prog 13 := ⟨_, Tryd.func13, by kernel_rfl, rfl⟩
theorem enters14 : enters Tryd.prog 14 := ⟨_, Tryd.func14, by kernel_rfl, rfl⟩
theorem enters15 : enters Tryd.prog 15 := ⟨_, Tryd.func15, by kernel_rfl, rfl⟩
theorem enters16 : enters Tryd.prog 16 := ⟨_, Tryd.func16, by kernel_rfl, rfl⟩
theorem enters17 : enters Tryd.prog 17 := ⟨_, Tryd.func17, by kernel_rfl, rfl⟩
theorem enters18 : enters Tryd.prog 18 := ⟨_, Tryd.func18, by kernel_rfl, rfl⟩
theorem enters19 : enters Tryd.prog 19 := ⟨_, Tryd.func19, by kernel_rfl, rfl⟩
theorem enters20 : enters Tryd.prog 20 := ⟨_, Tryd.func20, by kernel_rfl, rfl⟩
theorem enters21 : enters Tryd.prog 21 := ⟨_, Tryd.func21, by kernel_rfl, rfl⟩
theorem enters22 : enters Tryd.prog 22 := ⟨_, Tryd.func22, by kernel_rfl, rfl⟩
theorem enters23 : enters Tryd.prog 23 := ⟨_, Tryd.func23, by kernel_rfl, rfl⟩
theorem enters24 : enters Tryd.prog 24 := ⟨_, Tryd.func24, by kernel_rfl, rfl⟩
theorem enters25 : enters Tryd.prog 25 := ⟨_, Tryd.func25, by kernel_rfl, rfl⟩
theorem enters26 : enters Tryd.prog 26 := ⟨_, Tryd.func26, by kernel_rfl, rfl⟩
theorem enters27 : enters Tryd.prog 27 := ⟨_, Tryd.func27, by kernel_rfl, rfl⟩
theorem enters28 : enters Tryd.prog 28 := ⟨_, Tryd.func28, by kernel_rfl, rfl⟩
theorem enters29 : enters Tryd.prog 29 := ⟨_, Tryd.func29, by kernel_rfl, rfl⟩
theorem enters30 : enters Tryd.prog 30 := ⟨_, Tryd.func30, by kernel_rfl, rfl⟩
theorem enters31 : enters Tryd.prog 31 := ⟨_, Tryd.func31, by kernel_rfl, rfl⟩
theorem enters32 : enters Tryd.prog 32 := ⟨_, Tryd.func32, by kernel_rfl, rfl⟩
theorem enters33 : enters Tryd.prog 33 := ⟨_, Tryd.func33, by kernel_rfl, rfl⟩
theorem enters34 : enters Tryd.prog 34 := ⟨_, Tryd.func34, by kernel_rfl, rfl⟩
theorem enters35 : enters Tryd.prog 35 := ⟨_, Tryd.func35, by kernel_rfl, rfl⟩
theorem enters36 : enters Tryd.prog 36 := ⟨_, Tryd.func36, by kernel_rfl, rfl⟩
theorem enters37 : enters Tryd.prog 37 := ⟨_, Tryd.func37, by kernel_rfl, rfl⟩
theorem enters38 : enters Tryd.prog 38 := ⟨_, Tryd.func38, by kernel_rfl, rfl⟩
theorem enters39 : enters Tryd.prog 39 := ⟨_, Tryd.func39, by kernel_rfl, rfl⟩
theorem enters40 : enters Tryd.prog 40 := ⟨_, Tryd.func40, by kernel_rfl, rfl⟩
theorem enters41 : enters Tryd.prog 41 := ⟨_, Tryd.func41, by kernel_rfl, rfl⟩
theorem enters42 : enters Tryd.prog 42 := ⟨_, Tryd.func42, by kernel_rfl, rfl⟩
theorem enters43 : enters Tryd.prog 43 := ⟨_, Tryd.func43, by kernel_rfl, rfl⟩
theorem enters44 : enters Tryd.prog 44 := ⟨_, Tryd.func44, by kernel_rfl, rfl⟩
theorem enters45 : enters Tryd.prog 45 := ⟨_, Tryd.func45, by kernel_rfl, rfl⟩
theorem enters46 : enters Tryd.prog 46 := ⟨_, Tryd.func46, by kernel_rfl, rfl⟩
theorem enters47 : enters Tryd.prog 47 := ⟨_, Tryd.func47, by kernel_rfl, rfl⟩
theorem enters48 : enters Tryd.prog 48 := ⟨_, Tryd.func48, by kernel_rfl, rfl⟩
theorem enters49 : enters Tryd.prog 49 := ⟨_, Tryd.func49, by kernel_rfl, rfl⟩
theorem enters50 : enters Tryd.prog 50 := ⟨_, Tryd.func50, by kernel_rfl, rfl⟩
theorem enters51 : enters Tryd.prog 51 := ⟨_, Tryd.func51, by kernel_rfl, rfl⟩
theorem enters52 : enters Tryd.prog 52 := ⟨_, Tryd.func52, by kernel_rfl, rfl⟩
theorem enters53 : enters Tryd.prog 53 := ⟨_, Tryd.func53, by kernel_rfl, rfl⟩
theorem enters54 : enters Tryd.prog 54 := ⟨_, Tryd.func54, by kernel_rfl, rfl⟩
theorem enters55 : enters Tryd.prog 55 := ⟨_, Tryd.func55, by kernel_rfl, rfl⟩
theorem enters56 : enters Tryd.prog 56 := ⟨_, Tryd.func56, by kernel_rfl, rfl⟩
theorem enters57 : enters Tryd.prog 57 := ⟨_, Tryd.func57, by kernel_rfl, rfl⟩
theorem enters58 : enters Tryd.prog 58 := ⟨_, Tryd.func58, by kernel_rfl, rfl⟩
theorem enters59 : enters Tryd.prog 59 := ⟨_, Tryd.func59, by kernel_rfl, rfl⟩
theorem enters60 : enters Tryd.prog 60 := ⟨_, Tryd.func60, by kernel_rfl, rfl⟩
theorem enters61 : enters Tryd.prog 61 := ⟨_, Tryd.func61, by kernel_rfl, rfl⟩
theorem enters62 : enters Tryd.prog 62 := ⟨_, Tryd.func62, by kernel_rfl, rfl⟩
theorem enters63 : enters Tryd.prog 63 := ⟨_, Tryd.func63, by kernel_rfl, rfl⟩
theorem enters64 : enters Tryd.prog 64 := ⟨_, Tryd.func64, by kernel_rfl, rfl⟩
theorem enters65 : enters Tryd.prog 65 := ⟨_, Tryd.func65, by kernel_rfl, rfl⟩
theorem enters66 : enters Tryd.prog 66 := ⟨_, Tryd.func66, by kernel_rfl, rfl⟩
theorem enters67 : enters Tryd.prog 67 := ⟨_, Tryd.func67, by kernel_rfl, rfl⟩
theorem enters68 : enters Tryd.prog 68 := ⟨_, Tryd.func68, by kernel_rfl, rfl⟩
theorem enters69 : enters Tryd.prog 69 := ⟨_, Tryd.func69, by kernel_rfl, rfl⟩
theorem enters70 : enters Tryd.prog 70 := ⟨_, Tryd.func70, by kernel_rfl, rfl⟩
theorem enters71 : enters Tryd.prog 71 := ⟨_, Tryd.func71, by kernel_rfl, rfl⟩
theorem enters72 : enters Tryd.prog 72 := ⟨_, Tryd.func72, by kernel_rfl, rfl⟩
theorem enters73 : enters Tryd.prog 73 := ⟨_, Tryd.func73, by kernel_rfl, rfl⟩
theorem enters74 : enters Tryd.prog 74 := ⟨_, Tryd.func74, by kernel_rfl, rfl⟩
theorem enters75 : enters Tryd.prog 75 := ⟨_, Tryd.func75, by kernel_rfl, rfl⟩
theorem enters76 : enters Tryd.prog 76 := ⟨_, Tryd.func76, by kernel_rfl, rfl⟩
theorem enters77 : enters Tryd.prog 77 := ⟨_, Tryd.func77, by kernel_rfl, rfl⟩
theorem enters78 : enters Tryd.prog 78 := ⟨_, Tryd.func78, by kernel_rfl, rfl⟩
theorem enters79 : enters Tryd.prog 79 := ⟨_, Tryd.func79, by kernel_rfl, rfl⟩
theorem enters80 : enters Tryd.prog 80 := ⟨_, Tryd.func80, by kernel_rfl, rfl⟩
theorem enters81 : enters Tryd.prog 81 := ⟨_, Tryd.func81, by kernel_rfl, rfl⟩
theorem enters82 : enters Tryd.prog 82 := ⟨_, Tryd.func82, by kernel_rfl, rfl⟩
theorem enters83 : enters Tryd.prog 83 := ⟨_, Tryd.func83, by kernel_rfl, rfl⟩
theorem enters85 : enters Tryd.prog 85 := ⟨_, Tryd.func85, by kernel_rfl, rfl⟩
theorem enters86 : enters Tryd.prog 86 := ⟨_, Tryd.func86, by kernel_rfl, rfl⟩
theorem enters87 : enters Tryd.prog 87 := ⟨_, Tryd.func87, by kernel_rfl, rfl⟩
theorem enters88 : enters Tryd.prog 88 := ⟨_, Tryd.func88, by kernel_rfl, rfl⟩
theorem enters89 : enters Tryd.prog 89 := ⟨_, Tryd.func89, by kernel_rfl, rfl⟩
theorem enters90 : enters Tryd.prog 90 := ⟨_, Tryd.func90, by kernel_rfl, rfl⟩
theorem enters91 : enters Tryd.prog 91 := ⟨_, Tryd.func91, by kernel_rfl, rfl⟩
theorem enters92 : enters Tryd.prog 92 := ⟨_, Tryd.func92, by kernel_rfl, rfl⟩
theorem enters93 : enters Tryd.prog 93 := ⟨_, Tryd.func93, by kernel_rfl, rfl⟩
theorem enters94 : enters Tryd.prog 94 := ⟨_, Tryd.func94, by kernel_rfl, rfl⟩
theorem enters95 : enters Tryd.prog 95 := ⟨_, Tryd.func95, by kernel_rfl, rfl⟩
theorem enters96 : enters Tryd.prog 96 := ⟨_, Tryd.func96, by kernel_rfl, rfl⟩
theorem enters97 : enters Tryd.prog 97 := ⟨_, Tryd.func97, by kernel_rfl, rfl⟩
theorem enters98 : enters Tryd.prog 98 := ⟨_, Tryd.func98, by kernel_rfl, rfl⟩
theorem enters99 : enters Tryd.prog 99 := ⟨_, Tryd.func99, by kernel_rfl, rfl⟩
theorem enters100 : enters Tryd.prog 100 := ⟨_, Tryd.func100, by kernel_rfl, rfl⟩
theorem enters101 : enters Tryd.prog 101 := ⟨_, Tryd.func101, by kernel_rfl, rfl⟩
theorem enters102 : enters Tryd.prog 102 := ⟨_, Tryd.func102, by kernel_rfl, rfl⟩
theorem enters103 : enters Tryd.prog 103 := ⟨_, Tryd.func103, by kernel_rfl, rfl⟩
theorem enters104 : enters Tryd.prog 104 := ⟨_, Tryd.func104, by kernel_rfl, rfl⟩
theorem enters105 : enters Tryd.prog 105 := ⟨_, Tryd.func105, by kernel_rfl, rfl⟩
theorem enters106 : enters Tryd.prog 106 := ⟨_, Tryd.func106, by kernel_rfl, rfl⟩
theorem enters107 : enters Tryd.prog 107 := ⟨_, Tryd.func107, by kernel_rfl, rfl⟩
theorem enters108 : enters Tryd.prog 108 := ⟨_, Tryd.func108, by kernel_rfl, rfl⟩
theorem enters109 : enters Tryd.prog 109 := ⟨_, Tryd.func109, by kernel_rfl, rfl⟩
theorem enters110 : enters Tryd.prog 110 := ⟨_, Tryd.func110, by kernel_rfl, rfl⟩
theorem enters111 : enters Tryd.prog 111 := ⟨_, Tryd.func111, by kernel_rfl, rfl⟩
theorem enters112 : enters Tryd.prog 112 := ⟨_, Tryd.func112, by kernel_rfl, rfl⟩
theorem enters113 : enters Tryd.prog 113 := ⟨_, Tryd.func113, by kernel_rfl, rfl⟩
theorem enters114 : enters Tryd.prog 114 := ⟨_, Tryd.func114, by kernel_rfl, rfl⟩
theorem enters115 : enters Tryd.prog 115 := ⟨_, Tryd.func115, by kernel_rfl, rfl⟩
theorem enters116 : enters Tryd.prog 116 := ⟨_, Tryd.func116, by kernel_rfl, rfl⟩
theorem enters117 : enters Tryd.prog 117 := ⟨_, Tryd.func117, by kernel_rfl, rfl⟩
theorem enters118 : enters Tryd.prog 118 := ⟨_, Tryd.func118, by kernel_rfl, rfl⟩
theorem enters119 : enters Tryd.prog 119 := ⟨_, Tryd.func119, by kernel_rfl, rfl⟩
theorem enters120 : enters Tryd.prog 120 := ⟨_, Tryd.func120, by kernel_rfl, rfl⟩
theorem enters121 : enters Tryd.prog 121 := ⟨_, Tryd.func121, by kernel_rfl, rfl⟩
theorem enters122 : enters Tryd.prog 122 := ⟨_, Tryd.func122, by kernel_rfl, rfl⟩
theorem enters123 : enters Tryd.prog 123 := ⟨_, Tryd.func123, by kernel_rfl, rfl⟩
theorem enters124 : enters Tryd.prog 124 := ⟨_, Tryd.func124, by kernel_rfl, rfl⟩
theorem enters125 : enters Tryd.prog 125 := ⟨_, Tryd.func125, by kernel_rfl, rfl⟩
theorem enters126 : enters Tryd.prog 126 := ⟨_, Tryd.func126, by kernel_rfl, rfl⟩
theorem enters127 : enters Tryd.prog 127 := ⟨_, Tryd.func127, by kernel_rfl, rfl⟩
theorem enters128 : enters Tryd.prog 128 := ⟨_, Tryd.func128, by kernel_rfl, rfl⟩
theorem enters129 : enters Tryd.prog 129 := ⟨_, Tryd.func129, by kernel_rfl, rfl⟩
theorem enters130 : enters Tryd.prog 130 := ⟨_, Tryd.func130, by kernel_rfl, rfl⟩
theorem enters131 : enters Tryd.prog 131 := ⟨_, Tryd.func131, by kernel_rfl, rfl⟩
theorem enters132 : enters Tryd.prog 132 := ⟨_, Tryd.func132, by kernel_rfl, rfl⟩
theorem enters133 : enters Tryd.prog 133 := ⟨_, Tryd.func133, by kernel_rfl, rfl⟩
theorem enters134 : enters Tryd.prog 134 := ⟨_, Tryd.func134, by kernel_rfl, rfl⟩
theorem enters135 : enters Tryd.prog 135 := ⟨_, Tryd.func135, by kernel_rfl, rfl⟩
theorem enters136 : enters Tryd.prog 136 := ⟨_, Tryd.func136, by kernel_rfl, rfl⟩
theorem enters137 : enters Tryd.prog 137 := ⟨_, Tryd.func137, by kernel_rfl, rfl⟩
theorem enters138 : enters Tryd.prog 138 := ⟨_, Tryd.func138, by kernel_rfl, rfl⟩
theorem enters139 : enters Tryd.prog 139 := ⟨_, Tryd.func139, by kernel_rfl, rfl⟩
theorem enters140 : enters Tryd.prog 140 := ⟨_, Tryd.func140, by kernel_rfl, rfl⟩
theorem enters141 : enters Tryd.prog 141 := ⟨_, Tryd.func141, by kernel_rfl, rfl⟩
theorem enters142 : enters Tryd.prog 142 := ⟨_, Tryd.func142, by kernel_rfl, rfl⟩
theorem enters143 : enters Tryd.prog 143 := ⟨_, Tryd.func143, by kernel_rfl, rfl⟩
theorem enters144 : enters Tryd.prog 144 := ⟨_, Tryd.func144, by kernel_rfl, rfl⟩
theorem enters145 : enters Tryd.prog 145 := ⟨_, Tryd.func145, by kernel_rfl, rfl⟩
theorem enters146 : enters Tryd.prog 146 := ⟨_, Tryd.func146, by kernel_rfl, rfl⟩
theorem enters147 : enters Tryd.prog 147 := ⟨_, Tryd.func147, by kernel_rfl, rfl⟩
theorem enters148 : enters Tryd.prog 148 := ⟨_, Tryd.func148, by kernel_rfl, rfl⟩
theorem enters149 : enters Tryd.prog 149 := ⟨_, Tryd.func149, by kernel_rfl, rfl⟩
theorem enters150 : enters Tryd.prog 150 := ⟨_, Tryd.func150, by kernel_rfl, rfl⟩
theorem enters151 : enters Tryd.prog 151 := ⟨_, Tryd.func151, by kernel_rfl, rfl⟩
theorem enters152 : enters Tryd.prog 152 := ⟨_, Tryd.func152, by kernel_rfl, rfl⟩
theorem enters153 : enters Tryd.prog 153 := ⟨_, Tryd.func153, by kernel_rfl, rfl⟩
theorem enters154 : enters Tryd.prog 154 := ⟨_, Tryd.func154, by kernel_rfl, rfl⟩
theorem enters155 : enters Tryd.prog 155 := ⟨_, Tryd.func155, by kernel_rfl, rfl⟩
theorem enters156 : enters Tryd.prog 156 := ⟨_, Tryd.func156, by kernel_rfl, rfl⟩
theorem enters157 : enters Tryd.prog 157 := ⟨_, Tryd.func157, by kernel_rfl, rfl⟩
theorem enters158 : enters Tryd.prog 158 := ⟨_, Tryd.func158, by kernel_rfl, rfl⟩
theorem enters159 : enters Tryd.prog 159 := ⟨_, Tryd.func159, by kernel_rfl, rfl⟩
theorem enters190 : enters Tryd.prog 190 := ⟨_, Tryd.func190, by kernel_rfl, rfl⟩

theorem esComp : (Tryd.prog.info? 227).map (·.comparable) = some true := by kernel_rfl
theorem esSize : (Tryd.prog.info? 251).map (·.size) = some 1 := by kernel_rfl
theorem isTypeOf (v : Value) (w : World) : (Extern.ReflectliteType.typeOf #[.iface 227 v]).run Tryd.prog w = .ok (.iface 172 (.agg #[.pointer (some ⟨10, 227, none⟩)])) w := by kernel_rfl
theorem isComparable (w : World) : ((Extern.ReflectliteType.method fun t => do Extern.Rtype.noPackHeld "Comparable" t; pure (.bool (← typeInfo t).comparable)) #[.agg #[.pointer (some ⟨10, 227, none⟩)]]).run Tryd.prog w = .ok (.bool true) w := by kernel_rfl
theorem isMethod (v : Value) (w : World) : (Go.method (Tryd.prog.types.size + Made.depth) 172 v "Comparable").run Tryd.prog w = .ok (178, v) w := by kernel_rfl
theorem callTypeOf (v : Value) (w : World) : (callFunc 84 #[.iface 227 v]).run Tryd.prog w = .ok (.value (.iface 172 (.agg #[.pointer (some ⟨10, 227, none⟩)]))) w := by
  rw [@run_callFunc_extern Tryd.prog 84 _ Extern.ReflectliteType.typeOf Tryd.func84 (by kernel_rfl) (by kernel_rfl) (by kernel_rfl) (by kernel_rfl), isTypeOf]
  rfl
theorem callComparable (w : World) : (callFunc 178 #[.agg #[.pointer (some ⟨10, 227, none⟩)]]).run Tryd.prog w = .ok (.value (.bool true)) w := by
  rw [@run_callFunc_extern Tryd.prog 178 _ (Extern.ReflectliteType.method fun t => do Extern.Rtype.noPackHeld "Comparable" t; pure (.bool (← typeInfo t).comparable)) Tryd.func178 (by kernel_rfl) (by kernel_rfl) (by kernel_rfl) (by kernel_rfl)]
  rw [isComparable]
  rfl
theorem esLacks174 (v : Value) (w : World) : (Instr.typeAssert (.iface 227 v) 31 174 true).run Tryd.prog w = .ok (.tuple #[.nilIface, .bool false]) w := run_assert_lacks Tryd.underlying174 (by kernel_rfl) (by kernel_rfl) v w
theorem esLacks177 (v : Value) (w : World) : (Instr.typeAssert (.iface 227 v) 31 177 true).run Tryd.prog w = .ok (.tuple #[.nilIface, .bool false]) w := run_assert_lacks Tryd.underlying177 (by kernel_rfl) (by kernel_rfl) v w
theorem esLacks179 (v : Value) (w : World) : (Instr.typeAssert (.iface 227 v) 31 179 true).run Tryd.prog w = .ok (.tuple #[.nilIface, .bool false]) w := run_assert_lacks Tryd.underlying179 (by kernel_rfl) (by kernel_rfl) v w
theorem eqlErrs {L : List Nat} {w : World} {E : Nat → Addr} (hG : Errs L w 227 E) {g h : Nat} (hg : L.contains g = true) (hh : L.contains h = true) : (Go.binOp .eql 31 (.iface 227 (.pointer (some (E g)))) (.iface 227 (.pointer (some (E h))))).run Tryd.prog w = .ok (.bool (g == h)) w := by
  obtain ⟨i, hi, hcmp⟩ := Option.map_eq_some_iff.1 esComp
  obtain ⟨j, hj, hjs⟩ := Option.map_eq_some_iff.1 esSize
  by_cases e : g = h
  · subst e
    rw [run_eql_iface_ptr_same (P := Tryd.prog) w (E g) Tryd.underlying31 Tryd.underlying227 hi hcmp hj]
    simp
  · obtain ⟨ca, ta, ha⟩ := hG.blk g hg
    obtain ⟨cb, tb, hb⟩ := hG.blk h hh
    rw [run_eql_iface_ptr_other (P := Tryd.prog) w Tryd.underlying31 Tryd.underlying227 hi hcmp hj (by rw [hjs]; decide) (fun h1 => e (hG.inj _ _ hg hh h1)) ha hb]
    simp [e]

set_option maxRecDepth 10000 in
set_option maxHeartbeats 1600000 in
theorem is_any (E : Nat → Addr) (g h : Nat) (w : World) (hg : ([0, 1, 2, 3, 4, 5, 6, 7, 8, 9] : List Nat).contains g = true) (hh : ([0, 1, 2, 3, 4, 5, 6, 7, 8, 9] : List Nat).contains h = true) (hG : Errs [0, 1, 2, 3, 4, 5, 6, 7, 8, 9] w 227 E) :
    Calls Tryd.prog 85 #[.iface 227 (.pointer (some (E g))), .iface 227 (.pointer (some (E h))), bV true] w (Ret fun v w' => v = .bool (g == h) ∧ Keep Nn w w') := by
 refine sxenter (n := 54) (args := [.iface 227 (.pointer (some (E g))), .iface 227 (.pointer (some (E h))), bV true]) Tryd.func85 rfl rfl rfl fun a hf => ?_
 replace hf : Fr 54 [(0, .val (.iface 227 (.pointer (some (E g))))), (1, .val (.iface 227 (.pointer (some (E h))))), (2, eB true)] a := hf
 have hM : MemOk [] w := MemOk.nil w
 have hk0 : Keep Nn w w := Keep.refl _ _
 refine wp_seq_k (fun K1 hK1 => ?_)
 refine wp_region_lit ?_
 refine q0 hf hM [0, 1, 2] [{}] (nw := []) An ?_
 clear hf; intro a hf
 refine wpList_nil ?_
 refine hK1 _ _ ?_
 refine wp_block ?_
 have hf := (hf.prune [0, 1, 2]).to (env' := [(0, .val (.iface 227 (.pointer (some (E g))))), (1, .val (.iface 227 (.pointer (some (E h))))), (2, eB true)]) (by kernel_rfl)
 refine sxloop (fun zm a w1 => zm = 0 ∧ Fr 54 [(0, .val (.iface 227 (.pointer (some (E g))))), (1, .val (.iface 227 (.pointer (some (E h))))), (2, eB true)] a ∧ MemOk [] w1 ∧ Keep Nn w w1) _ ⟨rfl, hf.conv (Ac rfl (Ac rfl (Ao rfl))), hM, hk0⟩ ?_
 clear hf hM hk0
 rintro _ a w1 ⟨rfl, hf, hM, hk0⟩ L1 hL1
 refine wp_block ?_
 refine wp_seq_k (fun K2 hK2 => ?_)
 refine wp_seq_k (fun K3 hK3 => ?_)
 refine wp_region_lit ?_
 refine q0 hf hM [0, 1, 2] [{}, {}, {}, {}] (nw := [(17, .val (.iface 227 (.pointer (some (E h))))), (16, .val (.iface 227 (.pointer (some (E g))))), (15, eB true)]) (ob := [true = true, true = true]) (Ac rfl (Ao rfl)) ?_
 clear hf; intro a hf
 refine sxvalg hf rfl rfl rfl rfl rfl (v := bV (g == h)) (ob := []) (by kernel_rfl) An (ox_eql rfl rfl rfl (eqlErrs (hG.keep hk0 (fun _ h => h)) hg hh)) ?_
 clear hf; intro a hf
 refine q0 hf hM [18, 17, 16, 0, 1, 2] [{}] (nw := [(19, eB (g == h))]) An ?_
 clear hf; intro a hf
 refine wpList_nil ?_
 refine hK3 _ _ ?_
 refine qc hf (b := (g == h)) (fun hc1r => ?_) (fun hc1r => ?_)
 · have hc1 := hc1r
   try simp only [Bool.or_eq_true, Bool.and_eq_true, Bool.not_eq_true', Bool.not_eq_false', Bool.or_eq_false_iff, Bool.and_eq_false_iff, decide_eq_true_eq, decide_eq_false_iff_not, beq_iff_eq, bne_iff_ne, beq_eq_false_iff_ne, bne_eq_false_iff_eq, Bool.and_true, Bool.true_and, ne_eq] at hc1
   refine wp_seq_k (fun K4 hK4 => ?_)
   refine wp_region_lit ?_
   refine q0 hf hM [] [{}] (nw := [(6, eB true)]) An ?_
   clear hf; intro a hf
   refine wpList_nil ?_
   refine hK4 _ _ ?_
   refine wp_ret ?_
   refine qr (fn := Tryd.f85) hf hM [] (l := [bV true]) (ob := []) An ?_
   show (bV true : Value) = .bool (g == h) ∧ Keep Nn w w1
   refine ⟨?_, hk0⟩
   simp_all
 · have hc1 := hc1r
   try simp only [Bool.or_eq_true, Bool.and_eq_true, Bool.not_eq_true', Bool.not_eq_false', Bool.or_eq_false_iff, Bool.and_eq_false_iff, decide_eq_true_eq, decide_eq_false_iff_not, beq_iff_eq, bne_iff_ne, beq_eq_false_iff_ne, bne_eq_false_iff_eq, Bool.and_true, Bool.true_and, ne_eq] at hc1
   refine wp_skip ?_
   refine hK2 _ _ ?_
   refine wp_seq_k (fun K5 hK5 => ?_)
   refine wp_seq_k (fun K6 hK6 => ?_)
   refine wp_region_lit ?_
   refine q0 hf hM [18, 17, 16, 0, 1, 2] [{}] (nw := [(21, .val (.iface 227 (.pointer (some (E g)))))]) An ?_
   clear hf; intro a hf
   refine sxval hf rfl rfl rfl rfl (v := .tuple #[.nilIface, bV false]) (ob := []) (by kernel_rfl) An (ox_assert rfl rfl (esLacks174 _ _)) ?_
   clear hf; intro a hf
   refine q0 hf hM [18, 17, 16, 0, 1, 2] [{}, {}, {}, {}, {}] (nw := [(8, eB false), (7, .val (.nilIface))]) An ?_
   clear hf; intro a hf
   refine wpList_nil ?_
   refine hK6 _ _ ?_
   refine wp_seq_k (fun K7 hK7 => ?_)
   refine wp_region_lit ?_
   refine q0 hf hM [18, 17, 16, 0, 1, 2] [{}, {}, { g := .off }, { g := .off }] (nw := [(28, .val (undef)), (27, .val (undef)), (26, eB false)]) (ob := [false = !true, false = !true]) (Ac rfl (Ao rfl)) ?_
   clear hf; intro a hf
   refine q0 hf hM [28, 27, 18, 17, 16, 0, 1, 2] [{ g := .off }, {}] (nw := [(30, eB false), (29, .val (undef))]) (ob := [false = !true]) (Ao rfl) ?_
   clear hf; intro a hf
   refine wpList_nil ?_
   refine hK7 _ _ ?_
   refine sxcond hf (b := false) (by kernel_rfl) (fun h => by cases h) (fun _ => ?_)
   refine wp_skip ?_
   refine hK5 _ _ ?_
   refine wp_seq_k (fun K8 hK8 => ?_)
   refine wp_region_lit ?_
   refine q0 hf hM [29, 28, 27, 18, 17, 16, 1, 2] [{}] (nw := [(31, .val (.iface 227 (.pointer (some (E g)))))]) An ?_
   clear hf; intro a hf
   refine wpList_nil ?_
   refine hK8 _ _ ?_
   refine wp_block ?_
   refine wp_seq_k (fun K9 hK9 => ?_)
   refine wp_region_lit ?_
   refine sxval hf rfl rfl rfl rfl (v := .tuple #[.nilIface, bV false]) (ob := []) (by kernel_rfl) An (ox_assert rfl rfl (esLacks177 _ _)) ?_
   clear hf; intro a hf
   refine q0 hf hM [31, 29, 28, 27, 18, 17, 16, 1, 2] [{}, {}] (nw := [(34, .val (.nilIface)), (33, eB false)]) An ?_
   clear hf; intro a hf
   refine wpList_nil ?_
   refine hK9 _ _ ?_
   refine sxcond hf (b := false) (by kernel_rfl) (fun h => by cases h) (fun _ => ?_)
   refine wp_seq_k (fun K10 hK10 => ?_)
   refine wp_region_lit ?_
   refine sxval hf rfl rfl rfl rfl (v := .tuple #[.nilIface, bV false]) (ob := []) (by kernel_rfl) An (ox_assert rfl rfl (esLacks179 _ _)) ?_
   clear hf; intro a hf
   refine q0 hf hM [31, 1, 2] [{}, {}] (nw := [(41, .val (.nilIface)), (40, eB false)]) An ?_
   clear hf; intro a hf
   refine wpList_nil ?_
   refine hK10 _ _ ?_
   refine sxcond hf (b := false) (by kernel_rfl) (fun h => by cases h) (fun _ => ?_)
   refine wp_seq_k (fun K11 hK11 => ?_)
   refine wp_region_lit ?_
   refine q0 hf hM [] [{}] (nw := []) An ?_
   clear hf; intro a hf
   refine wpList_nil ?_
   refine hK11 _ _ ?_
   refine wp_seq_k (fun K12 hK12 => ?_)
   refine wp_region_lit ?_
   refine q0 hf hM [] [{}] (nw := [(6, eB false)]) An ?_
   clear hf; intro a hf
   refine wpList_nil ?_
   refine hK12 _ _ ?_
   refine wp_ret ?_
   refine qr (fn := Tryd.f85) hf hM [] (l := [bV false]) (ob := []) An ?_
   show (bV false : Value) = .bool (g == h) ∧ Keep Nn w w1
   refine ⟨?_, hk0⟩
   simp_all

set_option maxRecDepth 10000 in
set_option maxHeartbeats 1600000 in
theorem Is_any (E : Nat → Addr) (g h : Nat) (w : World) (hg : ([0, 1, 2, 3, 4, 5, 6, 7, 8, 9] : List Nat).contains g = true) (hh : ([0, 1, 2, 3, 4, 5, 6, 7, 8, 9] : List Nat).contains h = true) (hG : Errs [0, 1, 2, 3, 4, 5, 6, 7, 8, 9] w 227 E) :
    Calls Tryd.prog 52 #[.iface 227 (.pointer (some (E g))), .iface 227 (.pointer (some (E h)))] w (Ret fun v w' => v = .bool (g == h) ∧ Keep Nn w w') := by
 refine sxenter (n := 22) (args := [.iface 227 (.pointer (some (E g))), .iface 227 (.pointer (some (E h)))]) Tryd.func52 rfl rfl rfl fun a hf => ?_
 replace hf : Fr 22 [(0, .val (.iface 227 (.pointer (some (E g))))), (1, .val (.iface 227 (.pointer (some (E h)))))] a := hf
 have hM : MemOk [] w := MemOk.nil w
 have hk0 : Keep Nn w w := Keep.refl _ _
 refine wp_seq_k (fun K1 hK1 => ?_)
 refine wp_region_lit ?_
 refine q0 hf hM [0, 1] [{}] (nw := []) An ?_
 clear hf; intro a hf
 refine wpList_nil ?_
 refine hK1 _ _ ?_
 refine wp_seq_k (fun K2 hK2 => ?_)
 refine wp_seq_k (fun K3 hK3 => ?_)
 refine wp_region_lit ?_
 refine q0 hf hM [0, 1] [{}, {}, {}, {}, {}, {}] (nw := [(11, eB false)]) (ob := [false = false, false = false]) (Ac rfl (Ao rfl)) ?_
 clear hf; intro a hf
 refine wpList_nil ?_
 refine hK3 _ _ ?_
 refine sxcond hf (b := false) (by kernel_rfl) (fun h => by cases h) (fun _ => ?_)
 refine wp_skip ?_
 refine hK2 _ _ ?_
 refine wp_seq_k (fun K4 hK4 => ?_)
 refine wp_region_lit ?_
 refine q0 hf hM [0, 1] [{}] (nw := [(15, .val (.iface 227 (.pointer (some (E h)))))]) An ?_
 clear hf; intro a hf
 refine sxval hf rfl rfl rfl rfl (v := .iface 172 (.agg #[pV 10 227])) (ob := []) (by kernel_rfl) An (ox_callx rfl rfl rfl rfl (callTypeOf _ _)) ?_
 clear hf; intro a hf
 refine sxval hf rfl rfl rfl rfl (v := bV true) (ob := []) (by kernel_rfl) An (ox_invoke rfl rfl rfl rfl (isMethod _ _) (callComparable _)) ?_
 clear hf; intro a hf
 refine q0 hf hM [0, 1] [{}] (nw := [(5, eB true)]) An ?_
 clear hf; intro a hf
 refine wpList_nil ?_
 refine hK4 _ _ ?_
 refine wp_seq_k (fun K5 hK5 => ?_)
 refine wp_region_lit ?_
 refine q0 hf hM [] [{}, {}, {}] (nw := [(20, eB true), (19, .val (.iface 227 (.pointer (some (E h))))), (18, .val (.iface 227 (.pointer (some (E g)))))]) An ?_
 clear hf; intro a hf
 refine sxcall hf rfl rfl rfl rfl (g := 85) (vs := [.iface 227 (.pointer (some (E g))), .iface 227 (.pointer (some (E h))), bV true]) (ob := []) (by as_aux_lemma => kernel_rfl) An enters85 (is_any E g h w  hg hh (hG.keep hk0 (fun _ h => h))) ?_
 clear hf; rintro _ w1 a ⟨rfl, hk⟩ hf
 have hM := hM.keepNn hk
 have hk0 := hk0.trans hk.nn
 clear hk
 refine q0 hf hM [] [{}] (nw := [(4, eB (g == h))]) An ?_
 clear hf; intro a hf
 refine wpList_nil ?_
 refine hK5 _ _ ?_
 refine wp_ret ?_
 refine qr (fn := Tryd.f52) hf hM [] (l := [bV (g == h)]) (ob := []) An ?_
 show (bV (g == h) : Value) = .bool (g == h) ∧ Keep Nn w w1
 exact ⟨rfl, hk0⟩

set_option maxRecDepth 10000 in
set_option maxHeartbeats 1600000 in
theorem Is_nil (v : Value) (w : World) :
    Calls Tryd.prog 52 #[.nilIface, .iface 227 v] w (Ret fun v w' => v = .bool false ∧ Keep Nn w w') := by
 refine sxenter (n := 22) (args := [.nilIface, .iface 227 v]) Tryd.func52 rfl rfl rfl fun a hf => ?_
 replace hf : Fr 22 [(0, .val (.nilIface)), (1, .val (.iface 227 v))] a := hf
 have hM : MemOk [] w := MemOk.nil w
 have hk0 : Keep Nn w w := Keep.refl _ _
 refine wp_seq_k (fun K1 hK1 => ?_)
 refine wp_region_lit ?_
 refine q0 hf hM [0, 1] [{}] (nw := []) An ?_
 clear hf; intro a hf
 refine wpList_nil ?_
 refine hK1 _ _ ?_
 refine wp_seq_k (fun K2 hK2 => ?_)
 refine wp_seq_k (fun K3 hK3 => ?_)
 refine wp_region_lit ?_
 refine q0 hf hM [0, 1] [{}, {}, {}, { g := .off }, { g := .off }, {}] (nw := [(11, eB true)]) (ob := [true = !false, true = !false]) (Ac rfl (Ao rfl)) ?_
 clear hf; intro a hf
 refine wpList_nil ?_
 refine hK3 _ _ ?_
 refine sxcond hf (b := true) (by kernel_rfl) (fun _ => ?_) (fun h => by cases h)
 refine wp_seq_k (fun K4 hK4 => ?_)
 refine wp_region_lit ?_
 refine q0 hf hM [] [{}, {}, {}, {}] (nw := [(4, eB false)]) An ?_
 clear hf; intro a hf
 refine wpList_nil ?_
 refine hK4 _ _ ?_
 refine wp_ret ?_
 refine qr (fn := Tryd.f52) hf hM [] (l := [bV false]) (ob := []) An ?_
 show (bV false : Value) = .bool false ∧ Keep Nn w w
 exact ⟨rfl, hk0⟩
end Go.Proofs.YtpojafdllcioiaaDoor

namespace Go.Proofs.YtpojafdllcioiaaDoor
open Go.Zz Go.Px
set_option linter.unusedVariables false
set_option linter.unusedSectionVars false
set_option linter.unusedSimpArgs false
set_option maxRecDepth 10000
abbrev E10 : List Nat := [0, 1, 2, 3, 4, 5, 6, 7, 8, 9]
noncomputable def Gt (E : Nat → Addr) : Ctx := { Gm E with errs := E10 }
theorem gtOk (E : Nat → Addr) : (Gt E).Ok := ⟨(gmOk E).tb, (gmOk E).eqs, (gmOk E).mixed⟩
theorem liftT {E : Nat → Addr} {f : FuncId} {S : Zz.Spec} (h : Does (Gm E) f S) : Does (Gt E) f S :=
  Does.lift (Γ := Gt E) (L := [1, 3, 0]) (fun g hg => by
    have : g = 1 ∨ g = 3 ∨ g = 0 := by simpa using hg
    rcases this with rfl | rfl | rfl <;> rfl) h
theorem is_z (E : Nat → Addr) (g h : Nat) (hg : E10.contains g = true) (hh : E10.contains h = true) {r : SV} (hr : r = .tt ∧ g = h ∨ r = .ff ∧ g ≠ h) : Does (Gt E) 52 (Sp0 [.err g, .err h] [] 0 r) := by
  refine Does.of_calls enters52 (by simp [SV.bdL, SV.bd]) (fun c ch hc => by simp [lk] at hc) (by rcases hr with ⟨rfl, _⟩ | ⟨rfl, _⟩ <;> simp [SV.bd]) fun V w hp => ?_
  refine Calls.mono (Is_any E g h w hg hh hp.hr.errs) fun e W2 he => ?_
  obtain ⟨v, rfl, q1, q2⟩ := he
  refine ⟨v, rfl, ?_, q2⟩
  rw [q1]
  rcases hr with ⟨rfl, e⟩ | ⟨rfl, e⟩
  · subst e; simp [SV.den]
  · rw [show (g == h) = false by simpa using e]; rfl
set_option maxHeartbeats 4000000 in
theorem num_nil (E : Nat → Addr)  : Does (Gt E) 21 (Sp0 [.nili] [] 0 (.int .i64 0)) := by
  refine fn_intro (gtOk E) 32 0 [] Tryd.func21 rfl rfl rfl rfl rfl ?_
  repeat' first | (intro h; first | (exfalso; omega; done) | skip) | (refine And.intro ?_ ?_) | exact True.intro | (refine @Exists.intro Unit _ () ?_) | (refine @Exists.intro (_ = _) _ rfl ?_)
  all_goals first | rfl | omega | decide

set_option maxHeartbeats 1000000 in
theorem num_range (E : Nat → Addr)  : Does (Gt E) 21 (Sp0 [.err 1] [] 0 (.int .i64 1)) := by
  refine fn_intro (gtOk E) 32 0 [] Tryd.func21 rfl rfl rfl rfl rfl ?_
  repeat' first | (change LoopGoal _ _ _ _ _ _; refine loop_rounds (gtOk E) [] 2 ?_) | (intro h; first | (exfalso; omega; done) | (exfalso; exact h (by decide); done) | skip) | (refine And.intro ?_ ?_) | exact True.intro | (refine @Exists.intro Unit _ () ?_) | (refine @Exists.intro (_ = _) _ rfl ?_) | (change CallGoal _ _ _ _ _ _; first | (refine call0 (is_z E 1 1 rfl rfl (.inl ⟨rfl, rfl⟩)) [] rfl True.intro rfl ?_))
  all_goals first | rfl | omega | decide

set_option maxHeartbeats 1000000 in
theorem num_none (E : Nat → Addr)  : Does (Gt E) 21 (Sp0 [.err 3] [] 0 (.int .i64 3)) := by
  refine fn_intro (gtOk E) 32 0 [] Tryd.func21 rfl rfl rfl rfl rfl ?_
  repeat' first | (change LoopGoal _ _ _ _ _ _; refine loop_rounds (gtOk E) [] 4 ?_) | (intro h; first | (exfalso; omega; done) | (exfalso; exact h (by decide); done) | skip) | (refine And.intro ?_ ?_) | exact True.intro | (refine @Exists.intro Unit _ () ?_) | (refine @Exists.intro (_ = _) _ rfl ?_) | (change CallGoal _ _ _ _ _ _; first | (refine call0 (is_z E 3 1 rfl rfl (.inr ⟨rfl, by decide⟩)) [] rfl True.intro rfl ?_) | (refine call0 (is_z E 3 2 rfl rfl (.inr ⟨rfl, by decide⟩)) [] rfl True.intro rfl ?_) | (refine call0 (is_z E 3 3 rfl rfl (.inl ⟨rfl, rfl⟩)) [] rfl True.intro rfl ?_))
  all_goals first | rfl | omega | decide

set_option maxHeartbeats 1000000 in
theorem num_form (E : Nat → Addr)  : Does (Gt E) 21 (Sp0 [.err 0] [] 0 (.int .i64 7)) := by
  refine fn_intro (gtOk E) 32 0 [] Tryd.func21 rfl rfl rfl rfl rfl ?_
  repeat' first | (change LoopGoal _ _ _ _ _ _; refine loop_rounds (gtOk E) [] 8 ?_) | (intro h; first | (exfalso; omega; done) | (exfalso; exact h (by decide); done) | skip) | (refine And.intro ?_ ?_) | exact True.intro | (refine @Exists.intro Unit _ () ?_) | (refine @Exists.intro (_ = _) _ rfl ?_) | (change CallGoal _ _ _ _ _ _; first | (refine call0 (is_z E 0 1 rfl rfl (.inr ⟨rfl, by decide⟩)) [] rfl True.intro rfl ?_) | (refine call0 (is_z E 0 2 rfl rfl (.inr ⟨rfl, by decide⟩)) [] rfl True.intro rfl ?_) | (refine call0 (is_z E 0 3 rfl rfl (.inr ⟨rfl, by decide⟩)) [] rfl True.intro rfl ?_) | (refine call0 (is_z E 0 4 rfl rfl (.inr ⟨rfl, by decide⟩)) [] rfl True.intro rfl ?_) | (refine call0 (is_z E 0 5 rfl rfl (.inr ⟨rfl, by decide⟩)) [] rfl True.intro rfl ?_) | (refine call0 (is_z E 0 6 rfl rfl (.inr ⟨rfl, by decide⟩)) [] rfl True.intro rfl ?_) | (refine call0 (is_z E 0 0 rfl rfl (.inl ⟨rfl, rfl⟩)) [] rfl True.intro rfl ?_))
  all_goals first | rfl | omega | decide

end Go.Proofs.YtpojafdllcioiaaDoor

namespace Go.Proofs.YtpojafdllcioiaaDoor
open Go.Zz Go.Px
set_option linter.unusedVariables false
set_option linter.unusedSectionVars false
set_option linter.unusedSimpArgs false
set_option maxRecDepth 10000
section
variable {β : Type} {m : List ((Int × Int) × β)} {hh : Int × Int} {i : Int} {d : (Int × Int) × β}
/-- What a list of named things is without one name's. -/
def dropK (hh : Int × Int) (m : List ((Int × Int) × β)) : List ((Int × Int) × β) := m.filter fun s => !decide (s.1 = hh)
theorem dropK_len (hh : Int × Int) (m : List ((Int × Int) × β)) : (dropK hh m).length ≤ m.length := List.length_filter_le _ _
theorem dropK_in (h0 : 0 ≤ i) (h : i < (m.length : Nat)) (he : ¬ (m.getD i.toNat d).1 = hh) : dropK hh (m.take (i + 1).toNat) = dropK hh (m.take i.toNat) ++ [m.getD i.toNat d] := by
  unfold dropK
  rw [show (i + 1).toNat = i.toNat + 1 by omega, take_snoc (d := d) (by omega), List.filter_append, List.filter_cons, decide_eq_false he]
  simp
theorem dropK_out (h0 : 0 ≤ i) (h : i < (m.length : Nat)) (he : (m.getD i.toNat d).1 = hh) : dropK hh (m.take (i + 1).toNat) = dropK hh (m.take i.toNat) := by
  unfold dropK
  rw [show (i + 1).toNat = i.toNat + 1 by omega, take_snoc (d := d) (by omega), List.filter_append, List.filter_cons, decide_eq_true he]
  simp
theorem dropK_end (h1 : i ≤ (m.length : Nat)) (h2 : ¬ i < (m.length : Nat)) : dropK hh (m.take i.toNat) = dropK hh m := by rw [List.take_of_length_le (by omega)]
theorem dropK_tlen : (dropK hh (m.take i.toNat)).length ≤ m.length := Nat.le_trans (dropK_len _ _) (by rw [List.length_take]; omega)
end
abbrev Boxes := List ((Int × Int) × Int × Int × Int × Int)
def dropB (hh : Int × Int) (m : Boxes) : Boxes := dropK hh m
def putB (m : Boxes) (s : (Int × Int) × Int × Int × Int × Int) : Boxes := dropB s.1 m ++ [s]
theorem dropM_K (hh : Int × Int) (m : Spans) : dropM hh m = dropK hh m := rfl
theorem dropB_len (hh : Int × Int) (m : Boxes) : (dropB hh m).length ≤ m.length := dropK_len _ _
theorem putB_len (m : Boxes) (s : (Int × Int) × Int × Int × Int × Int) : (putB m s).length ≤ m.length + 1 := by unfold putB; rw [List.length_append]; have := dropB_len s.1 m; simp only [List.length_singleton]; omega
theorem pt_eq {a b : Int × Int} : a = b ↔ a.1 = b.1 ∧ a.2 = b.2 := Prod.ext_iff
set_option maxHeartbeats 1000000 in
theorem rdrop_z (E : Nat → Addr) (m : Spans) (n k : Nat) (hh : Int × Int) (h : n = m.length ∧ m.length ≤ 1000) : Does (Gm E) 23 ⟨[.sl 0 n k, .agg [.int .i64 hh.1, .int .i64 hh.2]], [(0, .arr ((Int × Int) × Int × Int) (Zz.encP (Zz.encP Zz.encI Zz.encI) (Zz.encP Zz.encI Zz.encI)) 51 m k)], 1, 2, Nat, fun k1 => (dropM hh m).length ≤ k1, fun k1 => .sl 1 (dropM hh m).length k1, fun k1 => [(0, .arr ((Int × Int) × Int × Int) (Zz.encP (Zz.encP Zz.encI Zz.encI) (Zz.encP Zz.encI Zz.encI)) 51 m k), (1, .arr ((Int × Int) × Int × Int) (Zz.encP (Zz.encP Zz.encI Zz.encI) (Zz.encP Zz.encI Zz.encI)) 51 (dropM hh m) k1)]⟩ := by
  obtain ⟨rfl, hm⟩ := h
  refine fn_intro (gmOk E) 25 1 [] Tryd.func23 rfl rfl rfl rfl rfl ?_
  repeat' first | (intro h; first | (exfalso; omega; done) | (exfalso; exact h trivial; done) | skip) | (refine And.intro ?_ ?_) | exact True.intro | (refine @Exists.intro Unit _ () ?_) | (refine @Exists.intro (_ = _) _ rfl ?_) | (change LoopGoal _ _ _ _ _ _; refine loop_at 3 (gmOk E) rfl [] (X := (Int × Nat)) (fun x => [(11, .int .i64 x.1), (5, .sl 3 (dropK hh (m.take x.1.toNat)).length x.2)]) (fun x => [(3, .arr ((Int × Int) × Int × Int) (Zz.encP (Zz.encP Zz.encI Zz.encI) (Zz.encP Zz.encI Zz.encI)) 51 (dropK hh (m.take x.1.toNat)) x.2)]) [2] (fun x => 0 ≤ x.1 ∧ x.1 ≤ (m.length : Nat) ∧ (dropK hh (m.take x.1.toNat)).length ≤ x.2) (fun x => m.length - x.1.toNat) ⟨(0, 0), ?_⟩ (fun x hI => ?_)) | (change @Exists ((Int × Nat)) (fun _ => updK _ _ _ _ _ _); refine @Exists.intro ((Int × Nat)) _ ((?_, ?_)) ?_; rotate_left 2) | (refine @Exists.intro (Nat) _ ?_ ?_; rotate_left)
  all_goals first
    | (dsimp only; first | rfl | omega)
    | rfl
    | omega
    | exact Nat.le_refl _
    | (have q : (dropK hh (m.take x.1.toNat)).length ≤ m.length := dropK_tlen; first | omega | (change (_ + 1) * 32 ≤ _; omega))
    | (rw [show dropM hh m = dropK hh m from rfl, ← dropK_end hI.2.1 ‹¬ x.1 < _›]; exact hI.2.2)
    | exact congrArg List.length (dropK_end hI.2.1 ‹¬ x.1 < _›)
    | exact congrArg (fun q => Ch.arr _ _ _ q _) (dropK_end hI.2.1 ‹¬ x.1 < _›)
    | (have e := dropK_in (m := m) (d := ((0, 0), 0, 0)) hI.1 ‹x.1 < _› (fun e => ‹¬ (_ ∧ _)› (pt_eq.1 e)); dsimp only; rw [e]; first | (rw [List.length_append]; first | rfl | exact h) | (rw [List.take_length]; rfl))
    | (have e := dropK_in (m := m) (d := ((0, 0), 0, 0)) hI.1 ‹x.1 < _› (fun e => absurd (pt_eq.1 e) (by simpa using h)); dsimp only; rw [e]; first | (rw [List.length_append]; rfl) | (rw [List.take_length]; rfl))
    | (have e := dropK_out (m := m) (d := ((0, 0), 0, 0)) hI.1 ‹x.1 < _› (pt_eq.2 (Classical.not_not.1 h)); dsimp only; rw [e]; first | done | exact hI.2.2)
    | (have e := dropK_out (m := m) (d := ((0, 0), 0, 0)) hI.1 ‹x.1 < _› (pt_eq.2 (by simpa using h)); dsimp only; rw [e])

set_option maxHeartbeats 1000000 in
theorem rdropb_z (E : Nat → Addr) (m : Boxes) (n k : Nat) (hh : Int × Int) (h : n = m.length ∧ m.length ≤ 1000) : Does (Gm E) 32 ⟨[.sl 0 n k, .agg [.int .i64 hh.1, .int .i64 hh.2]], [(0, .arr ((Int × Int) × Int × Int × Int × Int) (Zz.encP (Zz.encP Zz.encI Zz.encI) (Zz.encP Zz.encI (Zz.encP Zz.encI (Zz.encP Zz.encI Zz.encI)))) 70 m k)], 1, 2, Nat, fun k1 => (dropB hh m).length ≤ k1, fun k1 => .sl 1 (dropB hh m).length k1, fun k1 => [(0, .arr ((Int × Int) × Int × Int × Int × Int) (Zz.encP (Zz.encP Zz.encI Zz.encI) (Zz.encP Zz.encI (Zz.encP Zz.encI (Zz.encP Zz.encI Zz.encI)))) 70 m k), (1, .arr ((Int × Int) × Int × Int × Int × Int) (Zz.encP (Zz.encP Zz.encI Zz.encI) (Zz.encP Zz.encI (Zz.encP Zz.encI (Zz.encP Zz.encI Zz.encI)))) 70 (dropB hh m) k1)]⟩ := by
  obtain ⟨rfl, hm⟩ := h
  refine fn_intro (gmOk E) 25 1 [] Tryd.func32 rfl rfl rfl rfl rfl ?_
  repeat' first | (intro h; first | (exfalso; omega; done) | (exfalso; exact h trivial; done) | skip) | (refine And.intro ?_ ?_) | exact True.intro | (refine @Exists.intro Unit _ () ?_) | (refine @Exists.intro (_ = _) _ rfl ?_) | (change LoopGoal _ _ _ _ _ _; refine loop_at 3 (gmOk E) rfl [] (X := (Int × Nat)) (fun x => [(11, .int .i64 x.1), (5, .sl 3 (dropK hh (m.take x.1.toNat)).length x.2)]) (fun x => [(3, .arr ((Int × Int) × Int × Int × Int × Int) (Zz.encP (Zz.encP Zz.encI Zz.encI) (Zz.encP Zz.encI (Zz.encP Zz.encI (Zz.encP Zz.encI Zz.encI)))) 70 (dropK hh (m.take x.1.toNat)) x.2)]) [2] (fun x => 0 ≤ x.1 ∧ x.1 ≤ (m.length : Nat) ∧ (dropK hh (m.take x.1.toNat)).length ≤ x.2) (fun x => m.length - x.1.toNat) ⟨(0, 0), ?_⟩ (fun x hI => ?_)) | (change @Exists ((Int × Nat)) (fun _ => updK _ _ _ _ _ _); refine @Exists.intro ((Int × Nat)) _ ((?_, ?_)) ?_; rotate_left 2) | (refine @Exists.intro (Nat) _ ?_ ?_; rotate_left)
  all_goals first
    | (dsimp only; first | rfl | omega)
    | rfl
    | omega
    | exact Nat.le_refl _
    | (have q : (dropK hh (m.take x.1.toNat)).length ≤ m.length := dropK_tlen; first | omega | (change (_ + 1) * 48 ≤ _; omega))
    | (rw [show dropB hh m = dropK hh m from rfl, ← dropK_end hI.2.1 ‹¬ x.1 < _›]; exact hI.2.2)
    | exact congrArg List.length (dropK_end hI.2.1 ‹¬ x.1 < _›)
    | exact congrArg (fun q => Ch.arr _ _ _ q _) (dropK_end hI.2.1 ‹¬ x.1 < _›)
    | (have e := dropK_in (m := m) (d := ((0, 0), 0, 0, 0, 0)) hI.1 ‹x.1 < _› (fun e => ‹¬ (_ ∧ _)› (pt_eq.1 e)); dsimp only; rw [e]; first | (rw [List.length_append]; first | rfl | exact h) | (rw [List.take_length]; rfl))
    | (have e := dropK_in (m := m) (d := ((0, 0), 0, 0, 0, 0)) hI.1 ‹x.1 < _› (fun e => absurd (pt_eq.1 e) (by simpa using h)); dsimp only; rw [e]; first | (rw [List.length_append]; rfl) | (rw [List.take_length]; rfl))
    | (have e := dropK_out (m := m) (d := ((0, 0), 0, 0, 0, 0)) hI.1 ‹x.1 < _› (pt_eq.2 (Classical.not_not.1 h)); dsimp only; rw [e]; first | done | exact hI.2.2)
    | (have e := dropK_out (m := m) (d := ((0, 0), 0, 0, 0, 0)) hI.1 ‹x.1 < _› (pt_eq.2 (by simpa using h)); dsimp only; rw [e])

set_option maxHeartbeats 1000000 in
theorem rput_z (E : Nat → Addr) (m : Spans) (n k : Nat) (s : (Int × Int) × Int × Int) (h : n = m.length ∧ m.length ≤ 1000) : Does (Gm E) 22 ⟨[.sl 0 n k, .agg [.int .i64 s.1.1, .int .i64 s.1.2, .int .i64 s.2.1, .int .i64 s.2.2]], [(0, .arr ((Int × Int) × Int × Int) (Zz.encP (Zz.encP Zz.encI Zz.encI) (Zz.encP Zz.encI Zz.encI)) 51 m k)], 1, 2, Nat, fun k1 => (putM m s).length ≤ k1, fun k1 => .sl 1 (putM m s).length k1, fun k1 => [(0, .arr ((Int × Int) × Int × Int) (Zz.encP (Zz.encP Zz.encI Zz.encI) (Zz.encP Zz.encI Zz.encI)) 51 m k), (1, .arr ((Int × Int) × Int × Int) (Zz.encP (Zz.encP Zz.encI Zz.encI) (Zz.encP Zz.encI Zz.encI)) 51 (putM m s) k1)]⟩ := by
  obtain ⟨rfl, hm⟩ := h
  refine fn_intro (gmOk E) 14 1 [] Tryd.func22 rfl rfl rfl rfl rfl ?_
  repeat' first | (intro h; first | (exfalso; omega; done) | (exfalso; exact h trivial; done) | skip) | (refine And.intro ?_ ?_) | exact True.intro | (refine @Exists.intro Unit _ () ?_) | (refine @Exists.intro (_ = _) _ rfl ?_) | (refine @Exists.intro (Nat) _ ?_ ?_; rotate_left) | (change CallGoal _ _ _ _ _ _; first | (refine call_rule (rdrop_z E m _ k s.1 ⟨rfl, hm⟩) [0] rfl (And.intro rfl True.intro) rfl (fun (r1 : Nat) hr1 => ?_)))
  all_goals first
    | (dsimp only; first | rfl | omega)
    | rfl
    | omega
    | exact Nat.le_refl _
    | (have q := dropM_len s.1 m; first | omega | (change (_ + 1) * 32 ≤ _; omega))
    | (unfold putM; rw [List.length_append]; first | rfl | exact h | assumption)
    | (unfold putM; rw [List.take_length]; rfl)

set_option maxHeartbeats 1000000 in
theorem rputb_z (E : Nat → Addr) (m : Boxes) (n k : Nat) (s : (Int × Int) × Int × Int × Int × Int) (h : n = m.length ∧ m.length ≤ 1000) : Does (Gm E) 31 ⟨[.sl 0 n k, .agg [.int .i64 s.1.1, .int .i64 s.1.2, .int .i64 s.2.1, .int .i64 s.2.2.1, .int .i64 s.2.2.2.1, .int .i64 s.2.2.2.2]], [(0, .arr ((Int × Int) × Int × Int × Int × Int) (Zz.encP (Zz.encP Zz.encI Zz.encI) (Zz.encP Zz.encI (Zz.encP Zz.encI (Zz.encP Zz.encI Zz.encI)))) 70 m k)], 1, 2, Nat, fun k1 => (putB m s).length ≤ k1, fun k1 => .sl 1 (putB m s).length k1, fun k1 => [(0, .arr ((Int × Int) × Int × Int × Int × Int) (Zz.encP (Zz.encP Zz.encI Zz.encI) (Zz.encP Zz.encI (Zz.encP Zz.encI (Zz.encP Zz.encI Zz.encI)))) 70 m k), (1, .arr ((Int × Int) × Int × Int × Int × Int) (Zz.encP (Zz.encP Zz.encI Zz.encI) (Zz.encP Zz.encI (Zz.encP Zz.encI (Zz.encP Zz.encI Zz.encI)))) 70 (putB m s) k1)]⟩ := by
  obtain ⟨rfl, hm⟩ := h
  refine fn_intro (gmOk E) 14 1 [] Tryd.func31 rfl rfl rfl rfl rfl ?_
  repeat' first | (intro h; first | (exfalso; omega; done) | (exfalso; exact h trivial; done) | skip) | (refine And.intro ?_ ?_) | exact True.intro | (refine @Exists.intro Unit _ () ?_) | (refine @Exists.intro (_ = _) _ rfl ?_) | (refine @Exists.intro (Nat) _ ?_ ?_; rotate_left) | (change CallGoal _ _ _ _ _ _; first | (refine call_rule (rdropb_z E m _ k s.1 ⟨rfl, hm⟩) [0] rfl (And.intro rfl True.intro) rfl (fun (r1 : Nat) hr1 => ?_)))
  all_goals first
    | (dsimp only; first | rfl | omega)
    | rfl
    | omega
    | exact Nat.le_refl _
    | (have q := dropB_len s.1 m; first | omega | (change (_ + 1) * 48 ≤ _; omega))
    | (unfold putB; rw [List.length_append]; first | rfl | exact h | assumption)
    | (unfold putB; rw [List.take_length]; rfl)

end Go.Proofs.YtpojafdllcioiaaDoor

namespace Go.Proofs.YtpojafdllcioiaaDoor
open Go.Zz Go.Px
set_option linter.unusedVariables false
set_option linter.unusedSectionVars false
set_option linter.unusedSimpArgs false
set_option maxRecDepth 10000
/-- The pairs of a list, so far: in order, each once. -/
def PR (l : List ((Int × Int) × (Int × Int))) (i : Int) : List ((Int × Int) × (Int × Int)) := ordS ltP (normP (l.take i.toNat))
/-- So far all come ahead. -/
structure Fi {α : Type} (lt : α → α → Bool) (d : α) (out : List α) (q : α) (j : Int) : Prop where
  lo : 0 ≤ j
  hi : j ≤ (out.length : Nat)
  all : ∀ t, t < j.toNat → lt (out.getD t d) q = true
section
variable {α : Type} [DecidableEq α] {lt : α → α → Bool} {d : α} {out : List α} {q : α} {j : Int}
theorem Fi.start : Fi lt d out q 0 := ⟨Int.le_refl _, by omega, fun t h => by simp at h⟩
theorem Fi.next (h : Fi lt d out q j) (hj : j < (out.length : Nat)) (hl : lt (out.getD j.toNat d) q = true) : Fi lt d out q (j + 1) := ⟨by have := h.lo; omega, by omega, fun t ht => by
  have := h.lo
  by_cases e : t = j.toNat
  · exact e ▸ hl
  · exact h.all t (by omega)⟩
theorem Fi.pos (h : Fi lt d out q j) (hn : j < (out.length : Nat) → lt (out.getD j.toNat d) q = false) : pos lt out q = j.toNat :=
  (pos_unique (d := d) (by have := h.hi; omega) h.all fun hl => hn (by have := h.lo; omega)).symm
end
theorem PR_rises (l : List ((Int × Int) × (Int × Int))) (i : Int) : Rises ltP (PR l i) := ordS_rises ordP _
theorem PR_len (l : List ((Int × Int) × (Int × Int))) (i : Int) : (PR l i).length ≤ l.length := by
  unfold PR
  have e2 := ordS_len (lt := ltP) (normP (l.take i.toNat)); have e3 := normP_len (l.take i.toNat)
  rw [List.length_take] at e3; omega
section
variable {l : List ((Int × Int) × (Int × Int))} {i : Int} {p q : ((Int × Int) × (Int × Int))}
theorem PR_step (h0 : 0 ≤ i) (h : i < (l.length : Nat)) (hp : p = l.getD i.toNat ((0, 0), (0, 0))) : PR l (i + 1) = if p.1 = p.2 then PR l i else putS ltP (PR l i) (ordPair p.1 p.2) := by
  unfold PR
  rw [show (i + 1).toNat = i.toNat + 1 by omega, take_snoc (d := ((0, 0), (0, 0))) (by omega), ← hp]
  unfold normP
  rw [List.filter_append, List.map_append, List.filter_cons]
  by_cases e : p.1 = p.2
  · simp [e]
  · rw [if_neg e]; simp [e, ordS_snoc]
theorem PR_same (h0 : 0 ≤ i) (h : i < (l.length : Nat)) (hp : p = l.getD i.toNat ((0, 0), (0, 0))) (he : p.1 = p.2) : PR l (i + 1) = PR l i := by rw [PR_step h0 h hp, if_pos he]
theorem PR_in (h0 : 0 ≤ i) (h : i < (l.length : Nat)) (hp : p = l.getD i.toNat ((0, 0), (0, 0))) (he : ¬ p.1 = p.2) (hq : ordPair p.1 p.2 = q) {j : Int} (hf : Fi ltP ((0, 0), (0, 0)) (PR l i) q j) (hj : j < ((PR l i).length : Nat)) (hn : ltP ((PR l i).getD j.toNat ((0, 0), (0, 0))) q = false) (hs : (PR l i).getD j.toNat ((0, 0), (0, 0)) = q) : PR l (i + 1) = PR l i := by
  have e := hf.pos fun _ => hn
  rw [PR_step h0 h hp, if_neg he, hq, putS_in ((pos_mem ordP (PR_rises l i) q ((0, 0), (0, 0))).2 ⟨by rw [e]; have := hf.lo; omega, by rw [e]; exact hs⟩)]
theorem PR_out (h0 : 0 ≤ i) (h : i < (l.length : Nat)) (hp : p = l.getD i.toNat ((0, 0), (0, 0))) (he : ¬ p.1 = p.2) (hq : ordPair p.1 p.2 = q) {j : Int} (hf : Fi ltP ((0, 0), (0, 0)) (PR l i) q j) (hn : j < ((PR l i).length : Nat) → ltP ((PR l i).getD j.toNat ((0, 0), (0, 0))) q = false) (hs : j < ((PR l i).length : Nat) → ¬ (PR l i).getD j.toNat ((0, 0), (0, 0)) = q) : PR l (i + 1) = (PR l i).take j.toNat ++ q :: (PR l i).drop j.toNat := by
  have e := hf.pos hn
  rw [PR_step h0 h hp, if_neg he, hq, putS_out (fun hm => ?_), e]
  have := (pos_mem ordP (PR_rises l i) q ((0, 0), (0, 0))).1 hm
  rw [e] at this
  exact hs (by omega) this.2
theorem PR_end (h1 : i ≤ (l.length : Nat)) (h2 : ¬ i < (l.length : Nat)) : PR l i = ordS ltP (normP l) := by unfold PR; rw [List.take_of_length_le (by omega)]
theorem ordPair_sw {a b : Int × Int} (h : ltH b a = true) : ordPair a b = (b, a) := by
  rcases ordPair_of (a := a) (b := b) (fun e => by rw [e, ordH.irr] at h; cases h) with ⟨_, q⟩ | ⟨q, _⟩
  · have := ordH.tr _ _ _ h q; rw [ordH.irr] at this; cases this
  · exact q
theorem ordPair_st {a b : Int × Int} (hne : ¬ a = b) (h : ltH b a = false) : ordPair a b = (a, b) := by
  rcases ordPair_of hne with ⟨q, _⟩ | ⟨_, q⟩
  · exact q
  · rw [q] at h; cases h
end
theorem ins_eq {α : Type} {A : List α} {q : α} {y : Nat} : A.take y ++ (([q].take 1 ++ (A.drop y).take (A.length - y)).take (1 + (A.length - y))) = A.take y ++ q :: A.drop y := by
  show A.take y ++ (q :: (A.drop y).take (A.length - y)).take (1 + (A.length - y)) = _
  rw [List.take_of_length_le (l := A.drop y) (by rw [List.length_drop]; omega), List.take_of_length_le (l := q :: A.drop y) (by rw [List.length_cons, List.length_drop]; omega)]
theorem ins_len {α : Type} {A : List α} {q : α} {y : Nat} (h : y ≤ A.length) : (A.take y ++ q :: A.drop y).length = y + (1 + (A.length - y)) := by
  rw [List.length_append, List.length_take, List.length_cons, List.length_drop]; omega
theorem ins_len2 {α : Type} {A : List α} {q : α} {y : Nat} : 1 + (A.length - y) ≤ ([q].take 1 ++ (A.drop y).take (A.length - y)).length := by
  rw [List.length_append, List.length_take, List.length_take, List.length_drop]; simp only [List.length_singleton]; omega
section
variable {l : List ((Int × Int) × (Int × Int))} {i j : Int}
theorem PR_sameR (h0 : 0 ≤ i) (h : i < (l.length : Nat)) (he : (l.getD i.toNat ((0, 0), (0, 0))).1.1 = (l.getD i.toNat ((0, 0), (0, 0))).2.1 ∧ (l.getD i.toNat ((0, 0), (0, 0))).1.2 = (l.getD i.toNat ((0, 0), (0, 0))).2.2) : PR l (i + 1) = PR l i := PR_same h0 h rfl (pt_eq.2 he)
theorem PR_inS (h0 : 0 ≤ i) (h : i < (l.length : Nat)) (he : ¬ ((l.getD i.toNat ((0, 0), (0, 0))).1.1 = (l.getD i.toNat ((0, 0), (0, 0))).2.1 ∧ (l.getD i.toNat ((0, 0), (0, 0))).1.2 = (l.getD i.toNat ((0, 0), (0, 0))).2.2)) (hl : ltH (l.getD i.toNat ((0, 0), (0, 0))).2 (l.getD i.toNat ((0, 0), (0, 0))).1 = true) (hf : Fi ltP ((0, 0), (0, 0)) (PR l i) (ordPair (l.getD i.toNat ((0, 0), (0, 0))).1 (l.getD i.toNat ((0, 0), (0, 0))).2) j) (hn : ltP ((PR l i).getD j.toNat ((0, 0), (0, 0))) ((l.getD i.toNat ((0, 0), (0, 0))).2, (l.getD i.toNat ((0, 0), (0, 0))).1) = false)
    (hs : j < ((PR l i).length : Nat) ∧ ((PR l i).getD j.toNat ((0, 0), (0, 0))).1.1 = (l.getD i.toNat ((0, 0), (0, 0))).2.1 ∧ ((PR l i).getD j.toNat ((0, 0), (0, 0))).1.2 = (l.getD i.toNat ((0, 0), (0, 0))).2.2 ∧ ((PR l i).getD j.toNat ((0, 0), (0, 0))).2.1 = (l.getD i.toNat ((0, 0), (0, 0))).1.1 ∧ ((PR l i).getD j.toNat ((0, 0), (0, 0))).2.2 = (l.getD i.toNat ((0, 0), (0, 0))).1.2) : PR l (i + 1) = PR l i :=
  PR_in h0 h rfl (fun e => he (pt_eq.1 e)) (ordPair_sw hl) (ordPair_sw hl ▸ hf) hs.1 hn (pairEq.1 hs.2)
theorem PR_inN (h0 : 0 ≤ i) (h : i < (l.length : Nat)) (he : ¬ ((l.getD i.toNat ((0, 0), (0, 0))).1.1 = (l.getD i.toNat ((0, 0), (0, 0))).2.1 ∧ (l.getD i.toNat ((0, 0), (0, 0))).1.2 = (l.getD i.toNat ((0, 0), (0, 0))).2.2)) (hl : ltH (l.getD i.toNat ((0, 0), (0, 0))).2 (l.getD i.toNat ((0, 0), (0, 0))).1 = false) (hf : Fi ltP ((0, 0), (0, 0)) (PR l i) (ordPair (l.getD i.toNat ((0, 0), (0, 0))).1 (l.getD i.toNat ((0, 0), (0, 0))).2) j) (hn : ltP ((PR l i).getD j.toNat ((0, 0), (0, 0))) (l.getD i.toNat ((0, 0), (0, 0))) = false)
    (hs : j < ((PR l i).length : Nat) ∧ ((PR l i).getD j.toNat ((0, 0), (0, 0))).1.1 = (l.getD i.toNat ((0, 0), (0, 0))).1.1 ∧ ((PR l i).getD j.toNat ((0, 0), (0, 0))).1.2 = (l.getD i.toNat ((0, 0), (0, 0))).1.2 ∧ ((PR l i).getD j.toNat ((0, 0), (0, 0))).2.1 = (l.getD i.toNat ((0, 0), (0, 0))).2.1 ∧ ((PR l i).getD j.toNat ((0, 0), (0, 0))).2.2 = (l.getD i.toNat ((0, 0), (0, 0))).2.2) : PR l (i + 1) = PR l i :=
  PR_in h0 h rfl (fun e => he (pt_eq.1 e)) (ordPair_st (fun e => he (pt_eq.1 e)) hl) (ordPair_st (fun e => he (pt_eq.1 e)) hl ▸ hf) hs.1 hn (pairEq.1 hs.2)
theorem PR_outS (h0 : 0 ≤ i) (h : i < (l.length : Nat)) (he : ¬ ((l.getD i.toNat ((0, 0), (0, 0))).1.1 = (l.getD i.toNat ((0, 0), (0, 0))).2.1 ∧ (l.getD i.toNat ((0, 0), (0, 0))).1.2 = (l.getD i.toNat ((0, 0), (0, 0))).2.2)) (hl : ltH (l.getD i.toNat ((0, 0), (0, 0))).2 (l.getD i.toNat ((0, 0), (0, 0))).1 = true) (hf : Fi ltP ((0, 0), (0, 0)) (PR l i) (ordPair (l.getD i.toNat ((0, 0), (0, 0))).1 (l.getD i.toNat ((0, 0), (0, 0))).2) j) (hn : ¬ j < ((PR l i).length : Nat) ∨ ltP ((PR l i).getD j.toNat ((0, 0), (0, 0))) ((l.getD i.toNat ((0, 0), (0, 0))).2, (l.getD i.toNat ((0, 0), (0, 0))).1) = false)
    (hs : ¬ (j < ((PR l i).length : Nat) ∧ ((PR l i).getD j.toNat ((0, 0), (0, 0))).1.1 = (l.getD i.toNat ((0, 0), (0, 0))).2.1 ∧ ((PR l i).getD j.toNat ((0, 0), (0, 0))).1.2 = (l.getD i.toNat ((0, 0), (0, 0))).2.2 ∧ ((PR l i).getD j.toNat ((0, 0), (0, 0))).2.1 = (l.getD i.toNat ((0, 0), (0, 0))).1.1 ∧ ((PR l i).getD j.toNat ((0, 0), (0, 0))).2.2 = (l.getD i.toNat ((0, 0), (0, 0))).1.2)) : PR l (i + 1) = (PR l i).take j.toNat ++ ((l.getD i.toNat ((0, 0), (0, 0))).2, (l.getD i.toNat ((0, 0), (0, 0))).1) :: (PR l i).drop j.toNat :=
  PR_out h0 h rfl (fun e => he (pt_eq.1 e)) (ordPair_sw hl) (ordPair_sw hl ▸ hf) (fun hj => hn.elim (fun q => absurd hj q) id) fun hj e => hs ⟨hj, pairEq.2 e⟩
theorem PR_outN (h0 : 0 ≤ i) (h : i < (l.length : Nat)) (he : ¬ ((l.getD i.toNat ((0, 0), (0, 0))).1.1 = (l.getD i.toNat ((0, 0), (0, 0))).2.1 ∧ (l.getD i.toNat ((0, 0), (0, 0))).1.2 = (l.getD i.toNat ((0, 0), (0, 0))).2.2)) (hl : ltH (l.getD i.toNat ((0, 0), (0, 0))).2 (l.getD i.toNat ((0, 0), (0, 0))).1 = false) (hf : Fi ltP ((0, 0), (0, 0)) (PR l i) (ordPair (l.getD i.toNat ((0, 0), (0, 0))).1 (l.getD i.toNat ((0, 0), (0, 0))).2) j) (hn : ¬ j < ((PR l i).length : Nat) ∨ ltP ((PR l i).getD j.toNat ((0, 0), (0, 0))) (l.getD i.toNat ((0, 0), (0, 0))) = false)
    (hs : ¬ (j < ((PR l i).length : Nat) ∧ ((PR l i).getD j.toNat ((0, 0), (0, 0))).1.1 = (l.getD i.toNat ((0, 0), (0, 0))).1.1 ∧ ((PR l i).getD j.toNat ((0, 0), (0, 0))).1.2 = (l.getD i.toNat ((0, 0), (0, 0))).1.2 ∧ ((PR l i).getD j.toNat ((0, 0), (0, 0))).2.1 = (l.getD i.toNat ((0, 0), (0, 0))).2.1 ∧ ((PR l i).getD j.toNat ((0, 0), (0, 0))).2.2 = (l.getD i.toNat ((0, 0), (0, 0))).2.2)) : PR l (i + 1) = (PR l i).take j.toNat ++ (l.getD i.toNat ((0, 0), (0, 0))) :: (PR l i).drop j.toNat :=
  PR_out h0 h rfl (fun e => he (pt_eq.1 e)) (ordPair_st (fun e => he (pt_eq.1 e)) hl) (ordPair_st (fun e => he (pt_eq.1 e)) hl ▸ hf) (fun hj => hn.elim (fun q => absurd hj q) id) fun hj e => hs ⟨hj, pairEq.2 e⟩
theorem Fi_nextS (hl : ltH (l.getD i.toNat ((0, 0), (0, 0))).2 (l.getD i.toNat ((0, 0), (0, 0))).1 = true) (hf : Fi ltP ((0, 0), (0, 0)) (PR l i) (ordPair (l.getD i.toNat ((0, 0), (0, 0))).1 (l.getD i.toNat ((0, 0), (0, 0))).2) j) (hj : j < ((PR l i).length : Nat)) (hn : ltP ((PR l i).getD j.toNat ((0, 0), (0, 0))) ((l.getD i.toNat ((0, 0), (0, 0))).2, (l.getD i.toNat ((0, 0), (0, 0))).1) = true) : Fi ltP ((0, 0), (0, 0)) (PR l i) (ordPair (l.getD i.toNat ((0, 0), (0, 0))).1 (l.getD i.toNat ((0, 0), (0, 0))).2) (j + 1) := hf.next hj (by rw [ordPair_sw hl]; exact hn)
theorem Fi_nextN (he : ¬ ((l.getD i.toNat ((0, 0), (0, 0))).1.1 = (l.getD i.toNat ((0, 0), (0, 0))).2.1 ∧ (l.getD i.toNat ((0, 0), (0, 0))).1.2 = (l.getD i.toNat ((0, 0), (0, 0))).2.2)) (hl : ltH (l.getD i.toNat ((0, 0), (0, 0))).2 (l.getD i.toNat ((0, 0), (0, 0))).1 = false) (hf : Fi ltP ((0, 0), (0, 0)) (PR l i) (ordPair (l.getD i.toNat ((0, 0), (0, 0))).1 (l.getD i.toNat ((0, 0), (0, 0))).2) j) (hj : j < ((PR l i).length : Nat)) (hn : ltP ((PR l i).getD j.toNat ((0, 0), (0, 0))) (l.getD i.toNat ((0, 0), (0, 0))) = true) : Fi ltP ((0, 0), (0, 0)) (PR l i) (ordPair (l.getD i.toNat ((0, 0), (0, 0))).1 (l.getD i.toNat ((0, 0), (0, 0))).2) (j + 1) := hf.next hj (by rw [ordPair_st (fun e => he (pt_eq.1 e)) hl]; exact hn)
end
set_option maxHeartbeats 2000000 in
theorem rpairs_z (E : Nat → Addr) (l : List ((Int × Int) × (Int × Int))) (n k : Nat) (h : n = l.length ∧ l.length ≤ 1000000) : Does (Gm E) 59 ⟨[.sl 0 n k], [(0, .arr ((Int × Int) × (Int × Int)) (Zz.encP (Zz.encP Zz.encI Zz.encI) (Zz.encP Zz.encI Zz.encI)) 41 l k)], 1, 2, Nat, fun _ => True, fun k1 => .sl 1 (ordS ltP (normP l)).length k1, fun k1 => [(0, .arr ((Int × Int) × (Int × Int)) (Zz.encP (Zz.encP Zz.encI Zz.encI) (Zz.encP Zz.encI Zz.encI)) 41 l k), (1, .arr ((Int × Int) × (Int × Int)) (Zz.encP (Zz.encP Zz.encI Zz.encI) (Zz.encP Zz.encI Zz.encI)) 41 (ordS ltP (normP l)) k1)]⟩ := by
  obtain ⟨rfl, hm⟩ := h
  refine fn_intro (gmOk E) 67 1 [] Tryd.func59 rfl rfl rfl rfl rfl ?_
  repeat' first | (intro h; first | (exfalso; omega; done) | (exfalso; exact h trivial; done) | skip) | (refine And.intro ?_ ?_) | exact True.intro | (refine @Exists.intro Unit _ () ?_) | (refine @Exists.intro (_ = _) _ rfl ?_) | (change LoopGoal _ _ _ _ _ _; refine loop_at 3 (gmOk E) rfl [] (X := (Int × Nat)) (fun x => [(10, .int .i64 x.1), (3, .sl 2 (PR l x.1).length x.2)]) (fun x => [(2, .arr ((Int × Int) × (Int × Int)) (Zz.encP (Zz.encP Zz.encI Zz.encI) (Zz.encP Zz.encI Zz.encI)) 41 (PR l x.1) x.2)]) [1] (fun x => 0 ≤ x.1 ∧ x.1 ≤ (l.length : Nat) ∧ (PR l x.1).length ≤ x.2) (fun x => l.length - x.1.toNat) ⟨(0, 0), ?_⟩ (fun x hI => ?_)) | (change @Exists ((Int × Nat)) (fun _ => updK _ _ _ _ _ _); refine @Exists.intro ((Int × Nat)) _ ((?_, ?_)) ?_; rotate_left 2) | (change LoopGoal _ _ _ _ _ _; refine loop_at 9 (gmOk E) rfl [] (X := Int) (fun y => [(6, .int .i64 y)]) (fun y => []) [] (fun y => Fi ltP ((0, 0), (0, 0)) (PR l x.1) (ordPair (l.getD x.1.toNat ((0, 0), (0, 0))).1 (l.getD x.1.toNat ((0, 0), (0, 0))).2) y) (fun y => (PR l x.1).length - y.toNat) ⟨0, ?_⟩ (fun y hJ => ?_)) | (change @Exists (Int) (fun _ => updK _ _ _ _ _ _); refine @Exists.intro (Int) _ ((?_)) ?_; rotate_left 1) | (change DrawGoal _ _ _ _ _ _; first | (change DrawGoal _ _ _ [_, _, _, _, _, _, _, _, _, _, _, _] _ _; refine draw_tree (gmOk E) [2, 18] (.leaf [(0, true), (1, true), (2, true), (3, true), (4, true), (5, true), (6, true), (7, true), (8, true), (9, true), (10, false), (11, true)]) (by kernel_rfl) ?_) | (change DrawGoal _ _ _ [_, _, _, _, _, _, _, _, _, _, _, _] _ _; refine draw_tree (gmOk E) [2, 18] (.leaf [(0, true), (1, true), (2, true), (3, true), (4, true), (5, true), (6, true), (7, true), (8, true), (9, true), (10, true), (11, true)]) (by kernel_rfl) ?_) | (change DrawGoal _ _ _ [_, _, _, _, _, _, _, _, _, _, _] _ _; refine draw_tree (gmOk E) [18] (.leaf [(0, true), (1, true), (2, true), (3, true), (5, true), (6, true), (7, true), (4, false), (8, false), (9, false), (10, true)]) (by kernel_rfl) ?_)) | (refine @Exists.intro (Nat) _ ?_ ?_; rotate_left) | (change CallGoal _ _ _ _ _ _; first | (refine call0 (ref02less_z E _ _) [] rfl True.intro rfl ?_) | (refine call0 (pairless_z E ((PR l x.1).getD y.toNat ((0, 0), (0, 0))) ((l.getD x.1.toNat ((0, 0), (0, 0))).2, (l.getD x.1.toNat ((0, 0), (0, 0))).1)) [] rfl True.intro rfl ?_) | (refine call0 (pairless_z E ((PR l x.1).getD y.toNat ((0, 0), (0, 0))) (l.getD x.1.toNat ((0, 0), (0, 0)))) [] rfl True.intro rfl ?_))
  all_goals first
| (dsimp only; first | rfl | omega)
| rfl
| omega
| exact Nat.le_refl _
| exact Fi.start
| (have q1 := hJ.lo; have q2 := hJ.hi; have q3 := PR_len l x.1; first | omega | (change _ * 32 ≤ _; omega))
| exact congrArg List.length (PR_end hI.2.1 ‹¬ x.1 < _›)
| exact congrArg (fun q => Ch.arr _ _ _ q _) (PR_end hI.2.1 ‹¬ x.1 < _›)
| exact Fi_nextS ‹_› hJ ‹_› ‹_›
| exact Fi_nextN ‹_› ‹_› hJ ‹_› ‹_›
| (have e := @PR_sameR l x.1 hI.1 ‹_› ‹_›; dsimp only; rw [e]; done)
| (have e := @PR_sameR l x.1 hI.1 ‹_› ‹_›; dsimp only; rw [e]; exact hI.2.2)
| (have e := @PR_inS l x.1 y hI.1 ‹_› ‹_› ‹_› hJ ‹_› ‹_›; dsimp only; rw [e]; first | done | exact hI.2.2)
| (have e := @PR_inN l x.1 y hI.1 ‹_› ‹_› ‹_› hJ ‹_› ‹_›; dsimp only; rw [e]; first | done | exact hI.2.2)
| exact ins_len2 (q := ((l.getD x.1.toNat ((0, 0), (0, 0))).2, (l.getD x.1.toNat ((0, 0), (0, 0))).1))
| exact ins_len2 (q := (l.getD x.1.toNat ((0, 0), (0, 0))))
| (have e := @PR_outS l x.1 y hI.1 ‹_› ‹_› ‹_› hJ (by first | exact .inl ‹_› | exact .inr ‹_›) ‹_›; have q1 := hJ.hi; have q2 := hJ.lo; dsimp only; rw [e]; first | exact (ins_len (by omega)).symm | (rw [ins_len (by omega)]; exact h) | exact congrArg (fun q => Ch.arr _ _ _ q _) ins_eq)
| (have e := @PR_outN l x.1 y hI.1 ‹_› ‹_› ‹_› hJ (by first | exact .inl ‹_› | exact .inr ‹_›) ‹_›; have q1 := hJ.hi; have q2 := hJ.lo; dsimp only; rw [e]; first | exact (ins_len (by omega)).symm | (rw [ins_len (by omega)]; exact h) | exact congrArg (fun q => Ch.arr _ _ _ q _) ins_eq)

end Go.Proofs.YtpojafdllcioiaaDoor
