/- A part of the proof: texts put together. -/
import Derived.Test.YtpojafdllcioiaaDoorG6
import Derived.Test.YtpojafdllcioiaaDoorG5
import Derived.Test.YtpojafdllcioiaaDoorSh
import Derived.Test.YtpojafdllcioiaaDoorG4
import Derived.Test.YtpojafdllcioiaaDoorG2
set_option linter.unusedSectionVars false
set_option linter.unusedSimpArgs false
set_option linter.unusedVariables false
namespace Go.Proofs.YtpojafdllcioiaaDoor
open Go.Zz Go.Px
open Go.Qd (okC okC_iff upC cellB okB okC_cell chain cnt1 cntL)
set_option linter.unusedVariables false
set_option linter.unusedSectionVars false
set_option linter.unusedSimpArgs false
set_option maxRecDepth 10000
/-- Pointers, of which nothing more is asked. -/
def veP : VE (Option Nat) where
  sv x := .raw (pV x)
  val x := pV x
  of _ := none
  den Δ ρ x := by simp only [SV.den]
  bd x := by simp only [SV.bd]
  of_ok h := by cases h
theorem mapV : MapTy Tryd.prog 118 82 114 (Enc.ag (Zz.encP Zz.encI (Zz.encP Zz.encI Zz.encI))) veP none := ⟨Tryd.underlying118, keyC, by kernel_rfl⟩
set_option maxHeartbeats 4000000 in
theorem keysCIt_vc (E : Nat → Addr) (L : List ((Int × Int × Int) × Option Nat)) : KeysVc (Ge E) 82 138 4 "iter.go:27" "iter.go:28" (Enc.ag (Zz.encP Zz.encI (Zz.encP Zz.encI Zz.encI))) veP L := by
  intro y ga left cur
  repeat' first | (intro h; first | (exfalso; omega; done) | skip) | (refine And.intro ?_ ?_) | exact True.intro | (change OpGoal _ _ _ _ (.next _ _) _; refine next_rule L 1 0 rfl rfl rfl rfl ?_ ?_) | (change OpGoal _ _ _ _ (.entry _) _; refine entry_rule 1 rfl rfl ?_) | (exact ⟨_, _, _, ‹List.Perm _ _›, rfl, rfl, rfl, rfl, rfl, ‹_ ∈ L›⟩) | fail
  all_goals first | rfl | assumption
theorem keysC_gives (E : Nat → Addr) (L : List ((Int × Int × Int) × Option Nat)) (A : Addr) (gb : Nat) (W0 : World) (hA : W0.cell? A = some (.map (some gb))) (hm : MapAt W0 gb (Enc.ag (Zz.encP Zz.encI (Zz.encP Zz.encI Zz.encI))).val veP.val L) : GivesKeys Tryd.prog 97 A gb (Enc.ag (Zz.encP Zz.encI (Zz.encP Zz.encI Zz.encI))).val veP.val L W0 :=
  keys_gives (geOk E) rfl 118 82 138 4 "iter.go:27" "iter.go:28" Tryd.func97 rfl rfl rfl mapV rfl rfl (keysCIt_vc E L) A gb W0 hA hm
set_option maxHeartbeats 4000000 in
theorem keysHIt_vc (E : Nat → Addr) (L : List ((Int × Int) × Int × Int × Int)) : KeysVc (Ge E) 29 166 4 "iter.go:27" "iter.go:28" (Enc.ag (Zz.encP Zz.encI Zz.encI)) (Enc.ag (Zz.encP Zz.encI (Zz.encP Zz.encI Zz.encI))) L := by
  intro y ga left cur
  repeat' first | (intro h; first | (exfalso; omega; done) | skip) | (refine And.intro ?_ ?_) | exact True.intro | (change OpGoal _ _ _ _ (.next _ _) _; refine next_rule L 1 0 rfl rfl rfl rfl ?_ ?_) | (change OpGoal _ _ _ _ (.entry _) _; refine entry_rule 1 rfl rfl ?_) | (exact ⟨_, _, _, ‹List.Perm _ _›, rfl, rfl, rfl, rfl, rfl, ‹_ ∈ L›⟩) | fail
  all_goals first | rfl | assumption
theorem keysH_gives (E : Nat → Addr) (L : List ((Int × Int) × Int × Int × Int)) (A : Addr) (gb : Nat) (W0 : World) (hA : W0.cell? A = some (.map (some gb))) (hm : MapAt W0 gb (Enc.ag (Zz.encP Zz.encI Zz.encI)).val (Enc.ag (Zz.encP Zz.encI (Zz.encP Zz.encI Zz.encI))).val L) : GivesKeys Tryd.prog 102 A gb (Enc.ag (Zz.encP Zz.encI Zz.encI)).val (Enc.ag (Zz.encP Zz.encI (Zz.encP Zz.encI Zz.encI))).val L W0 :=
  keys_gives (geOk E) rfl 119 29 166 4 "iter.go:27" "iter.go:28" Tryd.func102 rfl rfl rfl mapC rfl rfl (keysHIt_vc E L) A gb W0 hA hm
set_option maxHeartbeats 4000000 in
theorem appC_z (E : Nat → Addr) (L : List ((Int × Int × Int) × Option Nat)) (h : L.length ≤ 1000000000) : Does (Gm E) 109 ⟨[.nils, .fn 97 [.ptr 0 0]], [(0, .cells 118 [.mp 1]), (1, .pr (mapPr (Enc.ag (Zz.encP Zz.encI (Zz.encP Zz.encI Zz.encI))) veP L))], 2, 3, List (Int × Int × Int) × Nat, fun x => x.1.Perm (L.map (·.1)) ∧ x.1.length ≤ x.2, fun x => .sl 2 x.1.length x.2, fun x => [(0, .cells 118 [.mp 1]), (1, .pr (mapPr (Enc.ag (Zz.encP Zz.encI (Zz.encP Zz.encI Zz.encI))) veP L)), (2, .arr (Int × Int × Int) (Zz.encP Zz.encI (Zz.encP Zz.encI Zz.encI)) 82 x.1 x.2)]⟩ := by
  refine fn_range (gmOk E) 13 2 [] Tryd.func109 rfl rfl rfl rfl rfl ?_
  repeat' first | (intro h; first | (exfalso; omega; done) | skip) | (refine And.intro ?_ ?_) | exact True.intro | (refine @Exists.intro Unit _ () ?_) | (refine @Exists.intro (_ = _) _ rfl ?_) | (change RangeAt _ _ _ _ _ _ _ _ _; refine rangeAt_rule (gmOk E) rfl 97 0 1 118 (Enc.ag (Zz.encP Zz.encI (Zz.encP Zz.encI Zz.encI))) veP L rfl rfl rfl rfl rfl ⟨_, Tryd.func97, rfl, rfl⟩ (keysC_gives E L) rfl (X := List (Int × Int × Int) × Nat) (fun x => [(2, .cells 76 [.sl 3 x.1.length x.2]), (3, .arr (Int × Int × Int) (Zz.encP Zz.encI (Zz.encP Zz.encI Zz.encI)) 82 x.1 x.2)]) [] (fun x => x.1.length ≤ x.2) (fun x => x.1) (fun _ => rfl) (fun _ => rfl) (fun ga => ?_) (fun ga x k hI hk hn => ?_) (fun D x hI hp => ?_)) | (change @Exists (List (Int × Int × Int) × Nat) (fun _ => _ ∧ phK _ _ _ _ _); first | (refine ⟨([], 0), rfl, ?_⟩) | (refine ⟨(x.1 ++ [k], ?_), rfl, ?_⟩; rotate_left)) | (refine @Exists.intro (List (Int × Int × Int) × Nat) _ x ?_)
  all_goals first | (dsimp only; first | rfl | omega) | rfl | omega | exact Nat.le_refl _ | exact hp | exact hI | (simp; done) | (have hn : x.1.length < L.length := hn; omega) | (have hn := hp.length_eq; rw [List.length_map] at hn; omega) | (rw [List.length_append]; assumption) | (refine congrArg (fun q => Ch.arr _ _ _ q _) ?_; dsimp only; rw [List.take_length]; rfl)
set_option maxHeartbeats 4000000 in
theorem appH_z (E : Nat → Addr) (L : List ((Int × Int) × Int × Int × Int)) (h : L.length ≤ 1000000000) : Does (Gm E) 101 ⟨[.nils, .fn 102 [.ptr 0 0]], [(0, .cells 119 [.mp 1]), (1, .pr (mapPr (Enc.ag (Zz.encP Zz.encI Zz.encI)) (Enc.ag (Zz.encP Zz.encI (Zz.encP Zz.encI Zz.encI))) L))], 2, 3, List (Int × Int) × Nat, fun x => x.1.Perm (L.map (·.1)) ∧ x.1.length ≤ x.2, fun x => .sl 2 x.1.length x.2, fun x => [(0, .cells 119 [.mp 1]), (1, .pr (mapPr (Enc.ag (Zz.encP Zz.encI Zz.encI)) (Enc.ag (Zz.encP Zz.encI (Zz.encP Zz.encI Zz.encI))) L)), (2, .arr (Int × Int) (Zz.encP Zz.encI Zz.encI) 29 x.1 x.2)]⟩ := by
  refine fn_range (gmOk E) 13 2 [] Tryd.func101 rfl rfl rfl rfl rfl ?_
  repeat' first | (intro h; first | (exfalso; omega; done) | skip) | (refine And.intro ?_ ?_) | exact True.intro | (refine @Exists.intro Unit _ () ?_) | (refine @Exists.intro (_ = _) _ rfl ?_) | (change RangeAt _ _ _ _ _ _ _ _ _; refine rangeAt_rule (gmOk E) rfl 102 0 1 119 (Enc.ag (Zz.encP Zz.encI Zz.encI)) (Enc.ag (Zz.encP Zz.encI (Zz.encP Zz.encI Zz.encI))) L rfl rfl rfl rfl rfl ⟨_, Tryd.func102, rfl, rfl⟩ (keysH_gives E L) rfl (X := List (Int × Int) × Nat) (fun x => [(2, .cells 79 [.sl 3 x.1.length x.2]), (3, .arr (Int × Int) (Zz.encP Zz.encI Zz.encI) 29 x.1 x.2)]) [] (fun x => x.1.length ≤ x.2) (fun x => x.1) (fun _ => rfl) (fun _ => rfl) (fun ga => ?_) (fun ga x k hI hk hn => ?_) (fun D x hI hp => ?_)) | (change @Exists (List (Int × Int) × Nat) (fun _ => _ ∧ phK _ _ _ _ _); first | (refine ⟨([], 0), rfl, ?_⟩) | (refine ⟨(x.1 ++ [k], ?_), rfl, ?_⟩; rotate_left)) | (refine @Exists.intro (List (Int × Int) × Nat) _ x ?_)
  all_goals first | (dsimp only; first | rfl | omega) | rfl | omega | exact Nat.le_refl _ | exact hp | exact hI | (simp; done) | (have hn : x.1.length < L.length := hn; omega) | (have hn := hp.length_eq; rw [List.length_map] at hn; omega) | (rw [List.length_append]; assumption) | (refine congrArg (fun q => Ch.arr _ _ _ q _) ?_; dsimp only; rw [List.take_length]; rfl)
set_option maxHeartbeats 1000000 in
theorem collC_z (E : Nat → Addr) (L : List ((Int × Int × Int) × Option Nat)) (h : L.length ≤ 1000000000) : Does (Gm E) 95 ⟨[.fn 97 [.ptr 0 0]], [(0, .cells 118 [.mp 1]), (1, .pr (mapPr (Enc.ag (Zz.encP Zz.encI (Zz.encP Zz.encI Zz.encI))) veP L))], 2, 3, List (Int × Int × Int) × Nat, fun x => x.1.Perm (L.map (·.1)) ∧ x.1.length ≤ x.2, fun x => .sl 2 x.1.length x.2, fun x => [(0, .cells 118 [.mp 1]), (1, .pr (mapPr (Enc.ag (Zz.encP Zz.encI (Zz.encP Zz.encI Zz.encI))) veP L)), (2, .arr (Int × Int × Int) (Zz.encP Zz.encI (Zz.encP Zz.encI Zz.encI)) 82 x.1 x.2)]⟩ := by
  refine fn_intro (gmOk E) 5 2 [] Tryd.func95 rfl rfl rfl rfl rfl ?_
  repeat' first | (intro h; first | (exfalso; omega; done) | skip) | (refine And.intro ?_ ?_) | exact True.intro | (refine @Exists.intro Unit _ () ?_) | (refine @Exists.intro (_ = _) _ rfl ?_) | (refine @Exists.intro (List (Int × Int × Int) × Nat) _ x ?_) | (change CallGoal _ _ _ _ _ _; first | (refine call_rule (appC_z E L h) [0, 1] rfl (And.intro rfl (And.intro rfl True.intro)) rfl (fun (x : List (Int × Int × Int) × Nat) (hx : x.1.Perm (L.map (·.1)) ∧ x.1.length ≤ x.2) => ?_)))
  all_goals first
| (dsimp only; first | rfl | omega)
| rfl
| omega
| assumption
| exact hx
| exact hx.1
| exact hx.2
| (have e := hx.1.length_eq; rw [List.length_map] at e; omega)

set_option maxHeartbeats 1000000 in
theorem collH_z (E : Nat → Addr) (L : List ((Int × Int) × Int × Int × Int)) (h : L.length ≤ 1000000000) : Does (Gm E) 70 ⟨[.fn 102 [.ptr 0 0]], [(0, .cells 119 [.mp 1]), (1, .pr (mapPr (Enc.ag (Zz.encP Zz.encI Zz.encI)) (Enc.ag (Zz.encP Zz.encI (Zz.encP Zz.encI Zz.encI))) L))], 2, 3, List (Int × Int) × Nat, fun x => x.1.Perm (L.map (·.1)) ∧ x.1.length ≤ x.2, fun x => .sl 2 x.1.length x.2, fun x => [(0, .cells 119 [.mp 1]), (1, .pr (mapPr (Enc.ag (Zz.encP Zz.encI Zz.encI)) (Enc.ag (Zz.encP Zz.encI (Zz.encP Zz.encI Zz.encI))) L)), (2, .arr (Int × Int) (Zz.encP Zz.encI Zz.encI) 29 x.1 x.2)]⟩ := by
  refine fn_intro (gmOk E) 5 2 [] Tryd.func70 rfl rfl rfl rfl rfl ?_
  repeat' first | (intro h; first | (exfalso; omega; done) | skip) | (refine And.intro ?_ ?_) | exact True.intro | (refine @Exists.intro Unit _ () ?_) | (refine @Exists.intro (_ = _) _ rfl ?_) | (refine @Exists.intro (List (Int × Int) × Nat) _ x ?_) | (change CallGoal _ _ _ _ _ _; first | (refine call_rule (appH_z E L h) [0, 1] rfl (And.intro rfl (And.intro rfl True.intro)) rfl (fun (x : List (Int × Int) × Nat) (hx : x.1.Perm (L.map (·.1)) ∧ x.1.length ≤ x.2) => ?_)))
  all_goals first
| (dsimp only; first | rfl | omega)
| rfl
| omega
| assumption
| exact hx
| exact hx.1
| exact hx.2
| (have e := hx.1.length_eq; rw [List.length_map] at e; omega)

def ltC (a b : Int × Int × Int) : Bool := decide (a.1 < b.1 ∨ a.1 = b.1 ∧ (a.2.2 < b.2.2 ∨ a.2.2 = b.2.2 ∧ a.2.1 < b.2.1))
def cmpC (a b : Int × Int × Int) : Int := if cmpI a.1 b.1 = 0 then (if cmpI a.2.2 b.2.2 = 0 then cmpI a.2.1 b.2.1 else cmpI a.2.2 b.2.2) else cmpI a.1 b.1
theorem ordC : Ord ltC := by
  refine ⟨fun x => by simp [ltC], fun x y z h1 h2 => ?_, fun x y => ?_⟩
  · simp only [ltC, decide_eq_true_eq] at *; omega
  · obtain ⟨a, b, c⟩ := x; obtain ⟨a', b', c'⟩ := y
    simp only [ltC, decide_eq_true_eq, Prod.mk.injEq]; omega
theorem cmpC_neg (a b : Int × Int × Int) : cmpC a b < 0 ↔ ltC a b = true := by
  have h1 := cmpI_neg a.1 b.1; have h2 := cmpI_zero a.1 b.1; have h3 := cmpI_neg a.2.2 b.2.2; have h4 := cmpI_zero a.2.2 b.2.2; have h5 := cmpI_neg a.2.1 b.2.1
  unfold cmpC
  simp only [ltC, decide_eq_true_eq]
  split
  · split <;> omega
  · omega
/-- In order, each once. -/
theorem sorted_ordS {α : Type} {lt : α → α → Bool} (ho : Ord lt) [DecidableEq α] {l l' : List α} (hp : l'.Perm l) (hn : l.Nodup) (hs : l'.Pairwise fun x y => lt y x = false) : l' = ordS lt l := by
  have hn' := hp.nodup_iff.2 hn
  refine Rises.ext ho ?_ (ordS_rises ho l) fun x => by rw [mem_ordS, hp.mem_iff]
  refine (List.Pairwise.and hs hn').imp fun {x y} h => ?_
  rcases ho.tri x y with q | q | q
  · exact q
  · exact absurd q h.2
  · rw [h.1] at q; cases q
set_option maxHeartbeats 4000000 in
theorem or3_e (E : Nat → Addr) (a b c : Int) : DoesC (Ge E) 67 (Sp0 [.sl 0 3 3] [(0, .ro Int Zz.encI [a, b, c] 3)] 1 (.int .i64 (if a = 0 then (if b = 0 then c else b) else a))) := by
  refine fn_calls (geOk E) 18 1 [] Tryd.func67 rfl rfl rfl rfl rfl ?_
  repeat' first | (intro h; first | (exfalso; omega; done) | skip) | (refine And.intro ?_ ?_) | exact True.intro | (refine @Exists.intro Unit _ () ?_) | (refine @Exists.intro (_ = _) _ rfl ?_) | (change LoopGoal _ _ _ _ _ _; refine loop_rounds (geOk E) [] 4 ?_)
  all_goals first | rfl | omega | (simp; done) | (simp_all; done)

set_option maxHeartbeats 4000000 in
theorem cmpC_e (E : Nat → Addr) (a b : Int × Int × Int) : DoesC (Ge E) 66 (Sp0 [.agg [.int .i64 a.1, .int .i64 a.2.1, .int .i64 a.2.2], .agg [.int .i64 b.1, .int .i64 b.2.1, .int .i64 b.2.2]] [] 0 (.int .i64 (cmpC a b))) := by
  refine fn_calls (geOk E) 22 0 [] Tryd.func66 rfl rfl rfl rfl rfl ?_
  repeat' first | (intro h; first | (exfalso; omega; done) | skip) | (refine And.intro ?_ ?_) | exact True.intro | (refine @Exists.intro Unit _ () ?_) | (refine @Exists.intro (_ = _) _ rfl ?_) | (change DrawGoal _ _ _ _ _ _; first | (change DrawGoal _ _ _ ({ dst := some 5, op := _, type := _, pos := _, after := _, guard := _ } :: _) _ _; refine draw_tree (geOk E) [0, 1] (.leaf [(0, true), (1, true), (2, true), (3, true), (5, true), (6, true), (7, true), (8, true), (10, true), (11, true), (12, true), (13, true), (4, false), (9, false), (14, false), (15, false), (16, false), (17, true)]) (by kernel_rfl) ?_)) | (change CallGoal _ _ _ _ _ _; first | (refine call0 (cmp_e E _ _).does [] rfl True.intro rfl ?_) | (refine call0 (or3_e E _ _ _).does [2] rfl (And.intro rfl True.intro) rfl ?_))
  all_goals first | omega | rfl

theorem sortC_z (E : Nat → Addr) (l : List (Int × Int × Int)) (n k : Nat) (h : n = l.length ∧ l.length ≤ 1099511627776) : Does (Gm E) 96 ⟨[.sl 0 n k, .fn 66 []], [(0, .arr (Int × Int × Int) (Zz.encP Zz.encI (Zz.encP Zz.encI Zz.encI)) 82 l k)], 1, 1, List (Int × Int × Int), fun l' => l'.Perm l ∧ l'.Pairwise fun x y => ltC y x = false, fun _ => .tup [], fun l' => [(0, .arr (Int × Int × Int) (Zz.encP Zz.encI (Zz.encP Zz.encI Zz.encI)) 82 l' k)]⟩ := by
  obtain ⟨rfl, h⟩ := h
  exact sort_does (Γ := Gm E) (en := Zz.encP Zz.encI (Zz.encP Zz.encI Zz.encI)) (lt := ltC) (cf := cmpC) (g := 66) (f := 96) Tryd.sortC (fun w => ((gmOk E).tb 82 _ rfl).isAgg w) (fun w => ((gmOk E).tb 82 _ rfl).size w) ordC cmpC_neg (fun x y => cmpC_e E x y) rfl ⟨_, Tryd.func96, rfl, rfl⟩ l k 82 (by omega)
theorem sortH_z (E : Nat → Addr) (l : List (Int × Int)) (n k : Nat) (h : n = l.length ∧ l.length ≤ 1099511627776) : Does (Gm E) 113 ⟨[.sl 0 n k, .fn 100 []], [(0, .arr (Int × Int) (Zz.encP Zz.encI Zz.encI) 29 l k)], 1, 1, List (Int × Int), fun l' => l'.Perm l ∧ l'.Pairwise fun x y => ltH y x = false, fun _ => .tup [], fun l' => [(0, .arr (Int × Int) (Zz.encP Zz.encI Zz.encI) 29 l' k)]⟩ := by
  obtain ⟨rfl, h⟩ := h
  exact sort_does (Γ := Gm E) (en := Zz.encP Zz.encI Zz.encI) (lt := ltH) (cf := cmpH) (g := 100) (f := 113) Tryd.sortH (fun w => ((gmOk E).tb 29 _ rfl).isAgg w) (fun w => ((gmOk E).tb 29 _ rfl).size w) ordH cmpH_neg (fun x y => cmpH_e E x y) rfl ⟨_, Tryd.func113, rfl, rfl⟩ l k 29 (by omega)
end Go.Proofs.YtpojafdllcioiaaDoor

namespace Go.Proofs.YtpojafdllcioiaaDoor
open Go.Zz Go.Px
open Go.Qd (okC okC_iff upC cellB okB okC_cell chain cnt1 cntL)
set_option linter.unusedVariables false
set_option linter.unusedSectionVars false
set_option linter.unusedSimpArgs false
set_option maxRecDepth 10000
theorem pt_eq {a b : Int × Int} : a = b ↔ a.1 = b.1 ∧ a.2 = b.2 := Prod.ext_iff
theorem pt_eq' {a b : Int × Int} : (a.1 = b.1 ∧ a.2 = b.2) ↔ a = b := pt_eq.symm
set_option maxHeartbeats 4000000 in
theorem cloneH_z (E : Nat → Addr) (l : List (Int × Int)) (n k : Nat) (h : n = l.length ∧ l.length ≤ 1099511627776) : Does (Gm E) 112 ⟨[.sl 0 n k], [(0, .arr (Int × Int) (Zz.encP Zz.encI Zz.encI) 29 l k)], 1, 2, Nat, fun k' => l.length ≤ k', fun k' => .sl 1 l.length k', fun k' => [(0, .arr (Int × Int) (Zz.encP Zz.encI Zz.encI) 29 l k), (1, .arr (Int × Int) (Zz.encP Zz.encI Zz.encI) 29 l k')]⟩ := by
  obtain ⟨rfl, h⟩ := h
  refine fn_intro (gmOk E) 8 1 [] Tryd.func112 rfl rfl rfl rfl rfl ?_
  repeat' first | (intro h; first | (exfalso; omega; done) | skip) | (refine And.intro ?_ ?_) | exact True.intro | (refine @Exists.intro Unit _ () ?_) | (refine @Exists.intro (_ = _) _ rfl ?_) | (refine @Exists.intro (Nat) _ ?_ ?_; rotate_left)
  all_goals first | rfl | omega | (simp_all; done) | (dsimp only; omega) | (change _ ≤ _; first | omega | (simp_all; done))

set_option maxHeartbeats 4000000 in
theorem compactH_z (E : Nat → Addr) (l : List (Int × Int)) (n k : Nat) (h : n = l.length ∧ l.length ≤ 1099511627776 ∧ l.length ≤ k) : Does (Gm E) 114 ⟨[.sl 0 n k], [(0, .arr (Int × Int) (Zz.encP Zz.encI Zz.encI) 29 l k)], 1, 1, Unit, fun _ => True, fun _ => .sl 0 (comp l).length k, fun _ => [(0, .arr (Int × Int) (Zz.encP Zz.encI Zz.encI) 29 (comp l ++ List.replicate (l.length - (comp l).length) (0, 0)) k)]⟩ := by
  obtain ⟨rfl, h⟩ := h
  refine fn_intro (gmOk E) 61 1 [] Tryd.func114 rfl rfl rfl rfl rfl ?_
  repeat' first | (intro h; first | (exfalso; omega; done) | skip) | (refine And.intro ?_ ?_) | exact True.intro | (refine @Exists.intro Unit _ () ?_) | (refine @Exists.intro (_ = _) _ rfl ?_) | (change OpGoal _ _ _ _ (.call { callee := .builtin .clear, args := _, argTypes := _ }) _; refine clear_rule (gmOk E) 0 _ _ _ _ _ _ rfl rfl rfl rfl rfl rfl rfl ?_ ?_) | (change LoopGoal _ _ _ _ _ _; refine loop_at 4 (gmOk E) rfl [] (X := Nat) (fun i => [(3, .int .i64 (i : Int))]) (fun i => []) [] (fun i => 1 ≤ i ∧ i ≤ l.length ∧ comp (l.take i) = l.take i) (fun i => l.length - i) ⟨1, ?_⟩ (fun i hI => ?_)) | (change @Exists (Nat) (fun _ => updK _ _ _ _ _ _); refine @Exists.intro (Nat) _ (i + 1) ?_) | (change LoopGoal _ _ _ _ _ _; refine loop_at 9 (gmOk E) rfl [] (X := (Int × Int × List (Int × Int))) (fun x => [(3, .int .i64 x.1), (5, .int .i64 x.2.1)]) (fun x => [(0, .arr (Int × Int) (Zz.encP Zz.encI Zz.encI) 29 x.2.2 k)]) [] (fun x => 1 ≤ x.1 ∧ 1 ≤ x.2.1 ∧ Cmp l x.2.2 x.1.toNat (i + x.2.1.toNat)) (fun x => (l.length - x.2.1).toNat) ⟨((i : Int), 1, l), ?_⟩ (fun x hI => ?_)) | (change @Exists ((Int × Int × List (Int × Int))) (fun _ => updK _ _ _ _ _ _); refine @Exists.intro ((Int × Int × List (Int × Int))) _ ((?_, ?_, ?_)) ?_; rotate_left 3) | (change DrawGoal _ _ _ _ _ _; first | (change DrawGoal _ _ _ ({ dst := some 16, op := _, type := _, pos := _, after := _, guard := _ } :: _) _ _; refine draw_tree (gmOk E) [0] (.leaf [(0, true), (1, true), (2, true), (3, true), (4, true), (5, true), (6, true), (7, true), (8, true), (9, true)]) (by kernel_rfl) ?_) | (change DrawGoal _ _ _ ({ dst := some 35, op := _, type := _, pos := _, after := _, guard := _ } :: _) _ _; refine draw_tree (gmOk E) [0] (.leaf [(0, true), (1, true), (2, true), (3, true), (4, true), (5, true), (6, true), (7, true), (8, true), (9, true)]) (by kernel_rfl) ?_))
  all_goals first
    | (dsimp only; first | rfl | omega)
    | rfl
    | omega
    | (have c := hI.2.2; have c1 := c.len; have c2 := c.le; have c3 := c.jl; (try dsimp only); omega)
    | (rw [comp_one l (by omega)]; done)
    | (rw [comp_one l (by omega)]; simp; done)
    | exact comp_one _ (by rw [List.length_take]; omega)
    | exact Cmp.startI (d := (0, 0)) hI (by omega) (pt_eq'.1 h)
    | exact Cmp.keepI (d := (0, 0)) hI ‹x.2.1 < _› (fun e => h (pt_eq'.2 e))
    | exact Cmp.skipI (d := (0, 0)) hI ‹x.2.1 < _› (pt_eq'.1 (Classical.not_not.1 h))
    | exact Cmp.skipI (d := (0, 0)) hI ‹x.2.1 < _› (pt_eq'.1 h)
    | exact comp_goI (d := (0, 0)) hI ‹_› (fun e => h (pt_eq'.2 e))
    | (have c := hI.2.2; exact c.lenEq (by omega))
    | (have c := hI.2.2; have c1 := c.len; rw [← c.lenEq (by omega), c1]; have c2 := c.done (by omega) []; simp only [List.append_nil, List.take_take, Nat.min_self] at c2; rw [c2])
    | (rw [comp_all hI ‹_›]; done)
    | (rw [comp_all hI ‹_›]; simp; done)

theorem compactH_s (E : Nat → Addr) (l : List (Int × Int)) (n k : Nat) (h : n = l.length ∧ l.length ≤ 1099511627776 ∧ l.length ≤ k) : Does (Gm E) 114 ⟨[.sl 0 n k], [(0, .arr (Int × Int) (Zz.encP Zz.encI Zz.encI) 29 l k)], 1, 1, Unit, fun _ => True, fun _ => .sl 0 (comp l).length k, fun _ => [(0, .arr (Int × Int) (Zz.encP Zz.encI Zz.encI) 29 (comp l) k)]⟩ :=
  Does.post_mono _ (compactH_z E l n k h) fun x En V w _ h => h.shrink (c := 0) rfl
set_option maxHeartbeats 4000000 in
theorem sortedH_z (E : Nat → Addr) (l : List (Int × Int)) (n k : Nat) (h : n = l.length ∧ l.length ≤ 1099511627776) : Does (Gm E) 99 ⟨[.sl 0 n k, .fn 100 []], [(0, .arr (Int × Int) (Zz.encP Zz.encI Zz.encI) 29 l k)], 1, 2, Nat, fun q => (ordS ltH l).length ≤ q, fun q => .sl 1 (ordS ltH l).length q, fun q => [(0, .arr (Int × Int) (Zz.encP Zz.encI Zz.encI) 29 l k), (1, .arr (Int × Int) (Zz.encP Zz.encI Zz.encI) 29 (ordS ltH l) q)]⟩ := by
  obtain ⟨rfl, h⟩ := h
  refine fn_intro (gmOk E) 13 1 [] Tryd.func99 rfl rfl rfl rfl rfl ?_
  repeat' first | (intro h; first | (exfalso; omega; done) | skip) | (refine And.intro ?_ ?_) | exact True.intro | (refine @Exists.intro Unit _ () ?_) | (refine @Exists.intro (_ = _) _ rfl ?_) | (refine @Exists.intro (Nat) _ ?_ ?_; rotate_left) | (change CallGoal _ _ _ _ _ _; first | (refine call_rule (cloneH_z E l _ _ ?_) [0] rfl (And.intro rfl True.intro) rfl (fun (q : Nat) (hq : l.length ≤ q) => ?_)) | (refine call_rule (sortH_z E _ _ _ ?_) [1] rfl (And.intro rfl True.intro) rfl (fun (l' : List (Int × Int)) (hl : l'.Perm l ∧ l'.Pairwise fun x y => ltH y x = false) => ?_)) | (refine call_rule (compactH_s E _ _ _ ?_) [1] rfl (And.intro rfl True.intro) rfl (fun x hx => ?_)))
  all_goals first | rfl | omega | (have e := hl.1.length_eq; omega) | (change (ordS ltH l).length ≤ _; have e := ordS_len (lt := ltH) l; omega) | (rw [comp_ordS ordH hl.1 hl.2])

set_option maxHeartbeats 4000000 in
theorem handles_z (E : Nat → Addr) (l : List (Int × Int)) (n k : Nat) (h : n = l.length ∧ l.length ≤ 1099511627776) : Does (Gm E) 69 ⟨[.sl 0 n k], [(0, .arr (Int × Int) (Zz.encP Zz.encI Zz.encI) 29 l k)], 1, 2, Nat, fun q => (ordS ltH l).length ≤ q, fun q => .sl 1 (ordS ltH l).length q, fun q => [(0, .arr (Int × Int) (Zz.encP Zz.encI Zz.encI) 29 l k), (1, .arr (Int × Int) (Zz.encP Zz.encI Zz.encI) 29 (ordS ltH l) q)]⟩ := by
  refine fn_intro (gmOk E) 5 1 [] Tryd.func69 rfl rfl rfl rfl rfl ?_
  repeat' first | (intro h; first | (exfalso; omega; done) | skip) | (refine And.intro ?_ ?_) | exact True.intro | (refine @Exists.intro Unit _ () ?_) | (refine @Exists.intro (_ = _) _ rfl ?_) | (refine @Exists.intro (Nat) _ ?_ ?_; rotate_left) | (change CallGoal _ _ _ _ _ _; first | (refine call_rule (sortedH_z E l n k h) [0] rfl (And.intro rfl True.intro) rfl (fun (q : Nat) hq => ?_)))
  all_goals first | rfl | omega | exact hq

set_option maxHeartbeats 4000000 in
theorem keysC_z (E : Nat → Addr) (M : List ((Int × Int × Int) × Option Nat)) : Does (Gm E) 65 ⟨[.mp 0], [(0, .pr (mapPr (Enc.ag (Zz.encP Zz.encI (Zz.encP Zz.encI Zz.encI))) veP M))], 1, 2, Unit, fun _ => True, fun _ => .fn 97 [.ptr 1 0], fun _ => [(0, .pr (mapPr (Enc.ag (Zz.encP Zz.encI (Zz.encP Zz.encI Zz.encI))) veP M)), (1, .cells 118 [.mp 0])]⟩ := by
  refine fn_intro (gmOk E) 4 1 [] Tryd.func65 rfl rfl rfl rfl rfl ?_
  repeat' first | (intro h; first | (exfalso; omega; done) | skip) | (refine And.intro ?_ ?_) | exact True.intro | (refine @Exists.intro Unit _ () ?_) | (refine @Exists.intro (_ = _) _ rfl ?_)
  all_goals first | rfl | omega

set_option maxHeartbeats 4000000 in
theorem keysH_z (E : Nat → Addr) (C : List ((Int × Int) × Int × Int × Int)) : Does (Gm E) 71 ⟨[.mp 0], [(0, .pr (mapPr (Enc.ag (Zz.encP Zz.encI Zz.encI)) (Enc.ag (Zz.encP Zz.encI (Zz.encP Zz.encI Zz.encI))) C))], 1, 2, Unit, fun _ => True, fun _ => .fn 102 [.ptr 1 0], fun _ => [(0, .pr (mapPr (Enc.ag (Zz.encP Zz.encI Zz.encI)) (Enc.ag (Zz.encP Zz.encI (Zz.encP Zz.encI Zz.encI))) C)), (1, .cells 119 [.mp 0])]⟩ := by
  refine fn_intro (gmOk E) 4 1 [] Tryd.func71 rfl rfl rfl rfl rfl ?_
  repeat' first | (intro h; first | (exfalso; omega; done) | skip) | (refine And.intro ?_ ?_) | exact True.intro | (refine @Exists.intro Unit _ () ?_) | (refine @Exists.intro (_ = _) _ rfl ?_)
  all_goals first | rfl | omega

set_option maxHeartbeats 1000000 in
theorem sortedC_z (E : Nat → Addr) (M : List ((Int × Int × Int) × Option Nat)) (h : M.length ≤ 1000000000 ∧ (M.map (·.1)).Nodup) : Does (Gm E) 64 ⟨[.fn 97 [.ptr 0 0], .fn 66 []], [(0, .cells 118 [.mp 1]), (1, .pr (mapPr (Enc.ag (Zz.encP Zz.encI (Zz.encP Zz.encI Zz.encI))) veP M))], 2, 3, Nat, fun _ => True, fun q => .sl 2 (ordS ltC (M.map (·.1))).length q, fun q => [(0, .cells 118 [.mp 1]), (1, .pr (mapPr (Enc.ag (Zz.encP Zz.encI (Zz.encP Zz.encI Zz.encI))) veP M)), (2, .arr (Int × Int × Int) (Zz.encP Zz.encI (Zz.encP Zz.encI Zz.encI)) 82 (ordS ltC (M.map (·.1))) q)]⟩ := by
  obtain ⟨h1, h2⟩ := h
  refine fn_intro (gmOk E) 12 2 [] Tryd.func64 rfl rfl rfl rfl rfl ?_
  repeat' first | (intro h; first | (exfalso; omega; done) | skip) | (refine And.intro ?_ ?_) | exact True.intro | (refine @Exists.intro Unit _ () ?_) | (refine @Exists.intro (_ = _) _ rfl ?_) | (refine @Exists.intro (Nat) _ ?_ ?_; rotate_left) | (change CallGoal _ _ _ _ _ _; first | (refine call_rule (collC_z E M h1) [0, 1] rfl (And.intro rfl (And.intro rfl True.intro)) rfl (fun (x : List (Int × Int × Int) × Nat) (hx : x.1.Perm (M.map (·.1)) ∧ x.1.length ≤ x.2) => ?_)) | (refine call_rule (sortC_z E _ _ _ ⟨rfl, ?_⟩) [2] rfl (And.intro rfl True.intro) rfl (fun (l' : List (Int × Int × Int)) (hl : l'.Perm x.1 ∧ l'.Pairwise fun x y => ltC y x = false) => ?_)))
  all_goals first
| rfl
| omega
| (have e := hx.1.length_eq; rw [List.length_map] at e; omega)
| (rw [← sorted_ordS ordC (hl.1.trans hx.1) h2 hl.2]; done)
| (rw [← sorted_ordS ordC (hl.1.trans hx.1) h2 hl.2]; first | rfl | exact hl.1.length_eq.symm | exact hl.1.length_eq)

set_option maxHeartbeats 1000000 in
theorem nodes_z (E : Nat → Addr) (M : List ((Int × Int × Int) × Option Nat)) (C : CM) (h : M.length ≤ 1000000000 ∧ (M.map (·.1)).Nodup) : Does (Gm E) 38 ⟨[.ptr 0 0], [(0, .cells 121 [.mp 1, .mp 2]), (1, .pr (mapPr (Enc.ag (Zz.encP Zz.encI (Zz.encP Zz.encI Zz.encI))) veP M)), (2, .pr (mapPr (Enc.ag (Zz.encP Zz.encI Zz.encI)) (Enc.ag (Zz.encP Zz.encI (Zz.encP Zz.encI Zz.encI))) C))], 3, 4, Nat, fun _ => True, fun q => .sl 3 (ordS ltC (M.map (·.1))).length q, fun q => [(0, .cells 121 [.mp 1, .mp 2]), (1, .pr (mapPr (Enc.ag (Zz.encP Zz.encI (Zz.encP Zz.encI Zz.encI))) veP M)), (2, .pr (mapPr (Enc.ag (Zz.encP Zz.encI Zz.encI)) (Enc.ag (Zz.encP Zz.encI (Zz.encP Zz.encI Zz.encI))) C)), (3, .arr (Int × Int × Int) (Zz.encP Zz.encI (Zz.encP Zz.encI Zz.encI)) 82 (ordS ltC (M.map (·.1))) q)]⟩ := by
  refine fn_intro (gmOk E) 9 3 [] Tryd.func38 rfl rfl rfl rfl rfl ?_
  repeat' first | (intro h; first | (exfalso; omega; done) | skip) | (refine And.intro ?_ ?_) | exact True.intro | (refine @Exists.intro Unit _ () ?_) | (refine @Exists.intro (_ = _) _ rfl ?_) | (refine @Exists.intro (Nat) _ ?_ ?_; rotate_left) | (change CallGoal _ _ _ _ _ _; first | (refine call_rule (keysC_z E M) [1] rfl (And.intro rfl True.intro) rfl (fun x hx => ?_)) | (refine call_rule (sortedC_z E M h) [3, 1] rfl (And.intro rfl (And.intro rfl True.intro)) rfl (fun (q : Nat) hq => ?_)))
  all_goals first | rfl | omega

set_option maxHeartbeats 1000000 in
theorem thandles_z (E : Nat → Addr) (N : NM) (C : CM) (h : C.length ≤ 1000000000) : Does (Gm E) 40 ⟨[.ptr 0 0], [(0, .cells 121 [.mp 1, .mp 2]), (2, .pr (mapPr (Enc.ag (Zz.encP Zz.encI Zz.encI)) (Enc.ag (Zz.encP Zz.encI (Zz.encP Zz.encI Zz.encI))) C))], 3, 4, Nat, fun _ => True, fun q => .sl 3 (ordS ltH (C.map (·.1))).length q, fun q => [(0, .cells 121 [.mp 1, .mp 2]), (2, .pr (mapPr (Enc.ag (Zz.encP Zz.encI Zz.encI)) (Enc.ag (Zz.encP Zz.encI (Zz.encP Zz.encI Zz.encI))) C)), (3, .arr (Int × Int) (Zz.encP Zz.encI Zz.encI) 29 (ordS ltH (C.map (·.1))) q)]⟩ := by
  refine fn_intro (gmOk E) 10 3 [] Tryd.func40 rfl rfl rfl rfl rfl ?_
  repeat' first | (intro h; first | (exfalso; omega; done) | skip) | (refine And.intro ?_ ?_) | exact True.intro | (refine @Exists.intro Unit _ () ?_) | (refine @Exists.intro (_ = _) _ rfl ?_) | (refine @Exists.intro (Nat) _ ?_ ?_; rotate_left) | (change CallGoal _ _ _ _ _ _; first | (refine call_rule (keysH_z E C) [2] rfl (And.intro rfl True.intro) rfl (fun x hx => ?_)) | (refine call_rule (collH_z E C h) [3, 2] rfl (And.intro rfl (And.intro rfl True.intro)) rfl (fun (x : List (Int × Int) × Nat) (hx : x.1.Perm (C.map (·.1)) ∧ x.1.length ≤ x.2) => ?_)) | (refine call_rule (handles_z E _ _ _ ⟨rfl, ?_⟩) [4] rfl (And.intro rfl True.intro) rfl (fun (q : Nat) hq => ?_)))
  all_goals first
| rfl
| omega
| (have e := hx.1.length_eq; rw [List.length_map] at e; omega)
| (rw [ordS_ext ordH fun y => hx.1.mem_iff]; done)
| (rw [ordS_ext ordH fun y => hx.1.mem_iff]; rfl)

/-- Two lists are the same so far. -/
structure SameTo {α : Type} (l r : List α) (i : Int) : Prop where
  lo : 0 ≤ i
  hi : i ≤ (l.length : Nat)
  eq : l.take i.toNat = r.take i.toNat
section
variable {α : Type} [DecidableEq α] {l r : List α} {i : Int} {d : α}
theorem SameTo.start : SameTo l r 0 := ⟨by omega, by omega, by simp⟩
theorem SameTo.step (h : SameTo l r i) (hi : i < (l.length : Nat)) (hl : l.length = r.length) (he : l.getD i.toNat d = r.getD i.toNat d) : SameTo l r (i + 1) := by
  have h1 := h.lo; have h2 := h.hi
  refine ⟨by omega, by omega, ?_⟩
  rw [show (i + 1).toNat = i.toNat + 1 by omega, take_snoc (d := d) (by omega), take_snoc (d := d) (l := r) (by omega), h.eq, he]
theorem SameTo.no (hi : i < (l.length : Nat)) (h0 : 0 ≤ i) (he : ¬ l.getD i.toNat d = r.getD i.toNat d) : decide (l = r) = false := decide_eq_false fun e => he (by rw [e])
theorem SameTo.yes (h : SameTo l r i) (hi : ¬ i < (l.length : Nat)) (hl : l.length = r.length) : decide (l = r) = true := by
  have h1 := h.hi
  have := h.eq
  rw [List.take_of_length_le (by omega), List.take_of_length_le (by omega)] at this
  exact decide_eq_true this
theorem SameTo.len (h : ¬ l.length = r.length) : decide (l = r) = false := decide_eq_false fun e => h (by rw [e])
end
set_option maxHeartbeats 4000000 in
theorem sameH_z (E : Nat → Addr) (l r : List (Int × Int)) (n k m q : Nat) (h : n = l.length ∧ m = r.length ∧ l.length ≤ 1099511627776 ∧ r.length ≤ 1099511627776) : Does (Gm E) 39 (Sp0 [.sl 0 n k, .sl 1 m q] [(0, .ro (Int × Int) (Zz.encP Zz.encI Zz.encI) l k), (1, .ro (Int × Int) (Zz.encP Zz.encI Zz.encI) r q)] 2 (.bl (decide (l = r)))) := by
  obtain ⟨rfl, rfl, h0⟩ := h
  refine fn_intro (gmOk E) 26 2 [] Tryd.func39 rfl rfl rfl rfl rfl ?_
  repeat' first | (intro h; first | (exfalso; omega; done) | skip) | (refine And.intro ?_ ?_) | exact True.intro | (refine @Exists.intro Unit _ () ?_) | (refine @Exists.intro (_ = _) _ rfl ?_) | (change LoopGoal _ _ _ _ _ _; refine loop_at 4 (gmOk E) rfl [] (X := Int) (fun i => [(13, .int .i64 i)]) (fun i => []) [] (fun i => SameTo l r i) (fun i => l.length - i.toNat) ⟨0, ?_⟩ (fun i hI => ?_)) | (change @Exists (Int) (fun _ => updK _ _ _ _ _ _); refine @Exists.intro (Int) _ ((?_)) ?_; rotate_left 1) | (change DrawGoal _ _ _ _ _ _; first | (change DrawGoal _ _ _ ({ dst := some 16, op := _, type := _, pos := _, after := _, guard := _ } :: _) _ _; refine draw_tree (gmOk E) [0, 1] (.leaf [(0, true), (1, true), (2, true), (3, true), (4, true), (5, true), (6, true), (7, true), (8, true)]) (by kernel_rfl) ?_))
  all_goals first
    | (dsimp only; first | rfl | omega)
    | rfl
    | omega
    | exact SameTo.start
    | (have b1 := hI.lo; have b2 := hI.hi; omega)
    | exact hI.step (d := (0, 0)) ‹i < _› (by omega) (pt_eq'.1 (Classical.not_not.1 h))
    | exact (SameTo.no (d := (0, 0)) ‹i < _› hI.lo (fun e => h (pt_eq'.2 e))).symm
    | exact (SameTo.no (d := (0, 0)) ‹i < _› hI.lo (fun e => h (pt_eq'.2 e)))
    | exact (hI.yes ‹¬ i < _› (by omega)).symm
    | exact (hI.yes ‹¬ i < _› (by omega))
    | exact (SameTo.len (by omega)).symm
    | exact (SameTo.len (by omega))

set_option maxHeartbeats 1000000 in
theorem qalive_z (E : Nat → Addr)  : Does (Gm E) 35 (Sp0 [] [] 0 .tt) := by
  refine fn_intro (gmOk E) 15 0 [] Tryd.func35 rfl rfl rfl rfl rfl ?_
  repeat' first | (intro h; first | (exfalso; omega; done) | (exfalso; first | exact h rfl | exact h ⟨rfl, rfl, rfl⟩ | exact h (by decide); done) | skip) | (refine And.intro ?_ ?_) | exact True.intro | (refine @Exists.intro Unit _ () ?_) | (refine @Exists.intro (_ = _) _ rfl ?_) | (change CallGoal _ _ _ _ _ _; first | (refine call0 (of_ok E ((0, 0, 10, 10) : Int × Int × Int × Int) (by decide)) [] rfl True.intro rfl ?_))
  all_goals first | rfl | omega

end Go.Proofs.YtpojafdllcioiaaDoor

namespace Go.Proofs.YtpojafdllcioiaaDoor
open Go.Zz Go.Px
open Go.Qd (okC okC_iff upC cellB okB okC_cell chain cnt1 cntL)
set_option linter.unusedVariables false
set_option linter.unusedSectionVars false
set_option linter.unusedSimpArgs false
set_option maxRecDepth 10000
def okP (b : Int × Int × Int × Int) : Prop := okB b = true
abbrev Bx := Int × Int × Int × Int
abbrev BRel := (Int × Int) → Bx → Prop
def Upd (R : BRel) (hh : Int × Int) (c : Bx) : BRel := fun h d => (h = hh ∧ d = c) ∨ (h ≠ hh ∧ R h d)
def CutR (R : BRel) (hh : Int × Int) : BRel := fun h d => h ≠ hh ∧ R h d

/-- Where the walk through the boxes begins. -/
def rO (f : Int) (n : Nat) : Int := (IntKind.u64.wrap f).tmod (IntKind.u64.wrap n)
def kO (f : Int) (n : Nat) (i : Int) : Int := (i + rO f n).tmod n
section
variable {f : Int} {n : Nat} {i : Int}
theorem wrap_n (hn : n ≤ 40) : IntKind.u64.wrap n = n := fitP_wrap (show 0 ≤ (n : Int) ∧ (n : Int) ≤ 18446744073709551615 by omega)
theorem wrap_lo (f : Int) : 0 ≤ IntKind.u64.wrap f := by rw [IntKind.wrap_u64]; omega
theorem rO_in (h0 : 0 < (n : Int)) (hn : n ≤ 40) : 0 ≤ rO f n ∧ rO f n < n := by
  have e := wrap_lo f
  unfold rO; rw [wrap_n hn, Int.tmod_eq_emod_of_nonneg e]
  exact ⟨Int.emod_nonneg _ (by omega), Int.emod_lt_of_pos _ h0⟩
theorem kO_emod (h0 : 0 < (n : Int)) (hn : n ≤ 40) (hi : 0 ≤ i) : kO f n i = (i + rO f n) % n := by
  have e := (rO_in (f := f) h0 hn).1
  unfold kO; rw [Int.tmod_eq_emod_of_nonneg (by omega)]
theorem kO_in (h0 : 0 < (n : Int)) (hn : n ≤ 40) (hi : 0 ≤ i) : 0 ≤ kO f n i ∧ kO f n i < n := by
  rw [kO_emod h0 hn hi]; exact ⟨Int.emod_nonneg _ (by omega), Int.emod_lt_of_pos _ h0⟩
theorem kO_all (hn : n ≤ 40) {t : Int} (h1 : 0 ≤ t) (h2 : t < n) : ∃ j : Int, 0 ≤ j ∧ j < n ∧ t = kO f n j := by
  have h0 : 0 < (n : Int) := by omega
  refine ⟨(t - rO f n) % n, Int.emod_nonneg _ (by omega), Int.emod_lt_of_pos _ h0, ?_⟩
  rw [kO_emod h0 hn (Int.emod_nonneg _ (by omega)), Int.emod_add_emod, Int.sub_add_cancel, Int.emod_eq_of_lt h1 h2]
end
def dB : Bx := (0, 0, 0, 0)
def RA (l : List Bx) (i : Int) : BRel := fun h c => h.2 = 1 ∧ 0 ≤ h.1 ∧ h.1 < i ∧ c = l.getD h.1.toNat dB
def RG (g : List Bx) (k i : Int) : BRel := fun h c => h.2 = 1 ∧ 50 + k ≤ h.1 ∧ h.1 < 50 + i ∧ c = g.getD (h.1 - 50).toNat dB
def RB (l g : List Bx) (f : Int) (i : Int) : BRel := fun h c => RG g 0 g.length h c ∨ (h.2 = 1 ∧ (∃ j, 0 ≤ j ∧ j < i ∧ h.1 = kO f l.length j) ∧ c = l.getD h.1.toNat dB)
def RC (l g : List Bx) (k : Int) : BRel := fun h c => RG g k g.length h c ∨ RA l l.length h c
section
variable {l g : List Bx} {f i k : Int}
theorem RA_none (h : Int × Int) (c : Bx) : ¬ RA l 0 h c := fun q => by have := q.2.1; have := q.2.2.1; omega
theorem RG_none (h : Int × Int) (c : Bx) : ¬ RG g 0 0 h c := fun q => by have := q.2.1; have := q.2.2.1; omega
theorem RA_next (h0 : 0 ≤ i) (h : Int × Int) (c : Bx) : Upd (RA l i) (i, 1) (l.getD i.toNat dB) h c ↔ RA l (i + 1) h c := by
  obtain ⟨h, g⟩ := h
  unfold Upd RA
  simp only [Prod.mk.injEq, ne_eq]
  constructor
  · rintro (⟨⟨rfl, rfl⟩, rfl⟩ | ⟨_, h1, h2, h3, h4⟩)
    · exact ⟨rfl, h0, by omega, rfl⟩
    · exact ⟨h1, h2, by omega, h4⟩
  · rintro ⟨rfl, h2, h3, rfl⟩
    by_cases e : h = i
    · subst e; exact .inl ⟨⟨rfl, rfl⟩, rfl⟩
    · exact .inr ⟨fun q => e q.1, rfl, h2, by omega, rfl⟩
theorem RG_next (h0 : 0 ≤ i) (h : Int × Int) (c : Bx) : Upd (RG g 0 i) (i + 50, 1) (g.getD i.toNat dB) h c ↔ RG g 0 (i + 1) h c := by
  obtain ⟨h, k⟩ := h
  unfold Upd RG
  simp only [Prod.mk.injEq, ne_eq]
  constructor
  · rintro (⟨⟨rfl, rfl⟩, rfl⟩ | ⟨_, h1, h2, h3, h4⟩)
    · exact ⟨rfl, by omega, by omega, by rw [show i + 50 - 50 = i by omega]⟩
    · exact ⟨h1, h2, by omega, h4⟩
  · rintro ⟨rfl, h2, h3, rfl⟩
    by_cases e : h = i + 50
    · subst e; exact .inl ⟨⟨rfl, rfl⟩, by rw [show i + 50 - 50 = i by omega]⟩
    · exact .inr ⟨fun q => e q.1, rfl, h2, by omega, rfl⟩
theorem RB_start (h : Int × Int) (c : Bx) : RG g 0 g.length h c ↔ RB l g f 0 h c :=
  ⟨.inl, fun q => q.elim id fun q => by obtain ⟨_, ⟨j, h1, h2, _⟩, _⟩ := q; omega⟩
theorem RB_next (h0 : 0 ≤ i) (h1 : i < (l.length : Nat)) (hn : l.length ≤ 40) (h : Int × Int) (c : Bx) : Upd (RB l g f i) (kO f l.length i, 1) (l.getD (kO f l.length i).toNat dB) h c ↔ RB l g f (i + 1) h c := by
  have hk := kO_in (f := f) (n := l.length) (i := i) (by omega) hn h0
  obtain ⟨h, k⟩ := h
  unfold Upd RB
  simp only [Prod.mk.injEq, ne_eq]
  constructor
  · rintro (⟨⟨rfl, rfl⟩, rfl⟩ | ⟨_, q | ⟨h1, ⟨j, h2, h3, h4⟩, h5⟩⟩)
    · exact .inr ⟨rfl, ⟨i, h0, by omega, rfl⟩, rfl⟩
    · exact .inl q
    · exact .inr ⟨h1, ⟨j, h2, by omega, h4⟩, h5⟩
  · rintro (q | ⟨rfl, ⟨j, h2, h3, rfl⟩, rfl⟩)
    · exact .inr ⟨fun e => by have := q.2.1; dsimp only at this; omega, .inl q⟩
    · by_cases e : kO f l.length j = kO f l.length i
      · exact .inl ⟨⟨e, rfl⟩, by rw [e]⟩
      · have : j ≠ i := fun q => e (congrArg _ q)
        exact .inr ⟨fun q => e q.1, .inr ⟨rfl, ⟨j, h2, by omega, rfl⟩, rfl⟩⟩
theorem RB_two (hh : Int × Int) (q p : Bx) (R : BRel) (h : Int × Int) (c : Bx) : Upd (Upd R hh q) hh p h c ↔ Upd R hh p h c := by
  unfold Upd
  constructor
  · rintro (q | ⟨h1, ⟨h2, _⟩ | ⟨_, h2⟩⟩)
    · exact .inl q
    · exact absurd h2 h1
    · exact .inr ⟨h1, h2⟩
  · rintro (q | ⟨h1, h2⟩)
    · exact .inl q
    · exact .inr ⟨h1, .inr ⟨h1, h2⟩⟩
theorem RB_all (hn : l.length ≤ 40) (h1 : i ≤ (l.length : Nat)) (h2 : ¬ i < (l.length : Nat)) (h : Int × Int) (c : Bx) : RB l g f i h c ↔ RC l g 0 h c := by
  obtain rfl : i = (l.length : Nat) := by omega
  constructor
  · rintro (q | ⟨q1, ⟨j, q2, q3, q4⟩, q5⟩)
    · exact .inl q
    · have := kO_in (f := f) (n := l.length) (i := j) (by omega) hn q2
      exact .inr ⟨q1, by omega, by omega, q5⟩
  · rintro (q | ⟨q1, q2, q3, q4⟩)
    · exact .inl q
    · exact .inr ⟨q1, kO_all hn q2 q3, q4⟩
theorem RC_next (h0 : 0 ≤ k) (h1 : k < (g.length : Nat)) (hn : l.length ≤ 40) (h : Int × Int) (c : Bx) : CutR (RC l g k) (k + 50, 1) h c ↔ RC l g (k + 1) h c := by
  obtain ⟨h, t⟩ := h
  unfold CutR RC RG RA
  simp only [Prod.mk.injEq, ne_eq]
  constructor
  · rintro ⟨h1, ⟨rfl, h3, h4, h5⟩ | q⟩
    · have : h ≠ k + 50 := fun e => h1 ⟨e, rfl⟩
      exact .inl ⟨rfl, by omega, h4, h5⟩
    · exact .inr q
  · rintro (⟨rfl, h3, h4, h5⟩ | q)
    · exact ⟨fun e => by omega, .inl ⟨rfl, by omega, h4, h5⟩⟩
    · exact ⟨fun e => by have := q.2.2.1; omega, .inr q⟩
theorem RC_has (h0 : 0 ≤ k) (h1 : k < (g.length : Nat)) : RC l g k (k + 50, 1) (g.getD k.toNat dB) := .inl ⟨rfl, by dsimp only; omega, by dsimp only; omega, by dsimp only; rw [show k + 50 - 50 = k by omega]⟩
theorem RC_all (h1 : k ≤ (g.length : Nat)) (h2 : ¬ k < (g.length : Nat)) (h : Int × Int) (c : Bx) : RC l g k h c ↔ RA l l.length h c :=
  ⟨fun q => q.elim (fun q => by have := q.2.1; have := q.2.2.1; omega) id, .inr⟩
end
structure AllR (l : List Bx) (i : Int) : Prop where
  p : ∀ j, 0 ≤ j → j < i → okP (l.getD j.toNat dB)
theorem AllR.nil (l : List Bx) : AllR l 0 := ⟨fun j h1 h2 => by omega⟩
theorem AllR.next {l : List Bx} {i : Int} (h : AllR l i) (hr : okP (l.getD i.toNat dB)) : AllR l (i + 1) := ⟨fun j h1 h2 => by
  by_cases e : j = i
  · exact e ▸ hr
  · exact h.p j h1 (by omega)⟩
theorem AllR.at {l : List Bx} {i j : Int} (h : AllR l i) (hi : ¬ i < (l.length : Nat)) (h1 : 0 ≤ j) (h2 : j < (l.length : Nat)) : okP (l.getD j.toNat dB) := h.p j h1 (by omega)
theorem tm_in {i n : Int} (h0 : 0 ≤ i) (hn : 0 < n) : 0 ≤ i.tmod n ∧ i.tmod n < n := by rw [Int.tmod_eq_emod_of_nonneg h0]; exact ⟨Int.emod_nonneg _ (by omega), Int.emod_lt_of_pos _ hn⟩
theorem RA_end {l : List Bx} {i : Int} (h1 : i ≤ (l.length : Nat)) (h2 : ¬ i < (l.length : Nat)) (h : Int × Int) (c : Bx) : RA l i h c ↔ RA l l.length h c := by rw [show i = (l.length : Nat) by omega]
theorem RG_end {l : List Bx} {i : Int} (h1 : i ≤ (l.length : Nat)) (h2 : ¬ i < (l.length : Nat)) (h : Int × Int) (c : Bx) : RG l 0 i h c ↔ RG l 0 l.length h c := by rw [show i = (l.length : Nat) by omega]
/-- A tree that holds just these boxes. -/
structure TreeR (R : BRel) (i : Int) (C : CM) (N : NM) : Prop where
  ex : ∃ bs : Go.Qd.BS, Go.Qd.TI bs C N ∧ (∀ h b, R h b ↔ (h, b) ∈ bs) ∧ (bs.length : Int) ≤ i
section
variable {R S : BRel} {i j : Int} {C D : CM} {N M : NM}
theorem TreeR.start (h : ∀ h c, ¬ R h c) : TreeR R 0 [] [((0, 0, 0), ([], 0))] := ⟨[], Go.Qd.TI.new, fun a b => ⟨fun q => absurd q (h a b), fun q => by cases q⟩, by simp⟩
theorem TreeR.ext (h : TreeR R i C N) (hij : i ≤ j) (e : ∀ h c, R h c ↔ S h c) : TreeR S j C N := by
  obtain ⟨bs, h1, h2, h3⟩ := h.ex
  exact ⟨bs, h1, fun a b => (e a b).symm.trans (h2 a b), by omega⟩
theorem TreeR.cb (h : TreeR R i C N) (hi : i ≤ 1000) : CB N 1000000 := by
  obtain ⟨bs, h1, h2, h3⟩ := h.ex
  exact ⟨fun z v hv => by have := h1.small hv; omega⟩
theorem ti_cb {bs : Go.Qd.BS} (h : Go.Qd.TI bs C N) (hl : bs.length ≤ 1000) : CB N 1000000 := ⟨fun z v hv => by have := h.small hv; omega⟩
theorem TreeR.clen (h : TreeR R i C N) (hi : i ≤ 1000) : C.length ≤ 1000 := by
  obtain ⟨bs, h1, h2, h3⟩ := h.ex
  rw [h1.cs, List.length_map]; omega
theorem TreeR.nlen (h : TreeR R i C N) (hi : i ≤ 1000) (p : (Int × Int × Int) → Nat) : (N.map fun x => (x.1, some (p x.1))).length ≤ 1000000000 ∧ ((N.map fun x => (x.1, some (p x.1))).map (·.1)).Nodup := by
  obtain ⟨bs, h1, h2, h3⟩ := h.ex
  have := h1.few
  refine ⟨by rw [List.length_map]; omega, ?_⟩
  rw [List.map_map]; exact h1.nf.nd
theorem TreeR.nodes (h : TreeR R i C N) (h' : TreeR R j D M) (p q : (Int × Int × Int) → Nat) : ordS ltC ((N.map fun x => (x.1, some (p x.1))).map (·.1)) = ordS ltC ((M.map fun x => (x.1, some (q x.1))).map (·.1)) := by
  obtain ⟨bs, h1, h2, h3⟩ := h.ex
  obtain ⟨bs', h1', h2', h3'⟩ := h'.ex
  refine ordS_ext ordC fun z => ?_
  rw [List.map_map, List.map_map]
  exact h1.keys h1' (fun x => (h2 x.1 x.2).symm.trans (h2' x.1 x.2)) z
theorem TreeR.hands (h : TreeR R i C N) (h' : TreeR R j D M) : ordS ltH (C.map (·.1)) = ordS ltH (D.map (·.1)) := by
  obtain ⟨bs, h1, h2, h3⟩ := h.ex
  obtain ⟨bs', h1', h2', h3'⟩ := h'.ex
  exact ordS_ext ordH fun z => h1.hands h1' (fun x => (h2 x.1 x.2).symm.trans (h2' x.1 x.2)) z
theorem upd_mem {bs bs' : Go.Qd.BS} {hh : Int × Int} {b : Bx} (h2 : ∀ h b, R h b ↔ (h, b) ∈ bs) (e : ∀ p, p ∈ bs' ↔ p = (hh, b) ∨ (p ∈ bs ∧ p.1 ≠ hh)) (a : Int × Int) (c : Bx) : Upd R hh b a c ↔ (a, c) ∈ bs' := by
  unfold Upd
  rw [e]
  constructor
  · rintro (⟨rfl, rfl⟩ | ⟨q, r⟩)
    · exact .inl rfl
    · exact .inr ⟨(h2 a c).1 r, q⟩
  · rintro (q | ⟨q, r⟩)
    · cases q; exact .inl ⟨rfl, rfl⟩
    · exact .inr ⟨r, (h2 a c).2 q⟩
theorem put_len (bs : Go.Qd.BS) (hh : Int × Int) (b : Bx) : (Go.Px.putK bs hh b).length ≤ bs.length + 1 := by
  unfold Go.Px.putK
  split
  · rw [List.length_map]; omega
  · rw [List.length_append]; simp
theorem cut_len (bs : Go.Qd.BS) (hh : Int × Int) : (Go.Px.delK bs hh).length ≤ bs.length := List.length_filter_le _ _
/-- Put, by what is held. -/
theorem put_t (E : Nat → Addr) (t : TreeR R i C N) (hi : i ≤ 1000) (hh : Int × Int) {b : Bx} (hb : okP b) : Does (Gm E) 37 ⟨[.ptr 0 0, .agg [.int .i64 hh.1, .int .i64 hh.2], .agg [.int .i64 b.1, .int .i64 b.2.1, .int .i64 b.2.2.1, .int .i64 b.2.2.2]], [(0, .cells 121 [.mp 1, .mp 2]), (1, .pr (mObj (Enc.ag (Zz.encP Zz.encI (Zz.encP Zz.encI Zz.encI))) (fun v => grp (Gm E) (ndT v)) N)), (2, .pr (mapPr (Enc.ag (Zz.encP Zz.encI Zz.encI)) (Enc.ag (Zz.encP Zz.encI (Zz.encP Zz.encI Zz.encI))) C))], 3, 3, CM × NM, fun y => TreeR (Upd R hh b) (i + 1) y.1 y.2, fun _ => .nili, fun y => [(0, .cells 121 [.mp 1, .mp 2]), (1, .pr (mObj (Enc.ag (Zz.encP Zz.encI (Zz.encP Zz.encI Zz.encI))) (fun v => grp (Gm E) (ndT v)) y.2)), (2, .pr (mapPr (Enc.ag (Zz.encP Zz.encI Zz.encI)) (Enc.ag (Zz.encP Zz.encI (Zz.encP Zz.encI Zz.encI))) y.1))]⟩ := by
  obtain ⟨bs, h1, h2, h3⟩ := t.ex
  have hcb := ti_cb h1 (by omega)
  rcases Classical.em (hasK bs hh = true) with hx | hx
  · obtain ⟨c, hc⟩ := Go.Qd.get_has hx
    have hm := (Go.Qd.get_mem h1.nd).1 hc
    have hC := h1.at hm
    rcases Classical.em (cellB c = cellB b) with he | he
    · obtain ⟨v, hv⟩ := Go.Qd.get_has (h1.node hm)
      rw [he] at hv hC
      exact Does.weak (_, _) (put_same E N C hh b v ⟨hC, hb, hv⟩) ⟨_, h1.same hm hb he hv, upd_mem h2 fun p => Go.Qd.put_mem h1.nd, by have := put_len bs hh b; omega⟩ rfl
    · obtain ⟨u, hu⟩ := Go.Qd.get_has (h1.node hm)
      have h4 := h1.drop hm hu
      have hl := cut_len bs hh
      have hno : hasK (Go.Px.delK bs hh) hh = false := by rw [Go.Qd.has_del]; simp
      obtain ⟨v, hv⟩ := h4.cnt_has hno hb
      refine Does.weak (_, _) (put_moved E N C hh b (cellB c) u v ⟨hC, hb, Go.Qd.okC_cell (h1.ok _ hm), hcb, h1.nf.nd, hu, ti_cb h4 (by omega), h4.nf.nd, hv, he⟩) ⟨_, h4.more hno hb hv, upd_mem h2 fun p => ?_, by have := put_len (Go.Px.delK bs hh) hh b; omega⟩ rfl
      rw [Go.Qd.put_mem h4.nd, Go.Qd.del_mem]
      exact ⟨fun q => q.imp id fun q => ⟨q.1.1, q.2⟩, fun q => q.imp id fun q => ⟨q, q.2⟩⟩
  · have hno : hasK bs hh = false := by simpa using hx
    have hC : hasK C hh = false := by rw [h1.cs, Go.Qd.has_cs]; exact hno
    obtain ⟨v, hv⟩ := h1.cnt_has hno hb
    exact Does.weak (_, _) (put_new E N C hh b v ⟨hC, hb, hcb, h1.nf.nd, hv⟩) ⟨_, h1.more hno hb hv, upd_mem h2 fun p => Go.Qd.put_mem h1.nd, by have := put_len bs hh b; omega⟩ rfl
end
set_option maxHeartbeats 1000000 in
theorem put_form (E : Nat → Addr) (N : NM) (C : CM) (hh : Int × Int) (b : Int × Int × Int × Int) (h : ¬ rightP b) : Does (Gm E) 37 ⟨[.ptr 0 0, .agg [.int .i64 hh.1, .int .i64 hh.2], .agg [.int .i64 b.1, .int .i64 b.2.1, .int .i64 b.2.2.1, .int .i64 b.2.2.2]], [(0, .cells 121 [.mp 1, .mp 2]), (1, .pr (mObj (Enc.ag (Zz.encP Zz.encI (Zz.encP Zz.encI Zz.encI))) (fun v => grp (Gm E) (ndT v)) N)), (2, .pr (mapPr (Enc.ag (Zz.encP Zz.encI Zz.encI)) (Enc.ag (Zz.encP Zz.encI (Zz.encP Zz.encI Zz.encI))) C))], 3, 3, Unit, fun _ => True, fun _ => .err 0, fun _ => [(0, .cells 121 [.mp 1, .mp 2]), (1, .pr (mObj (Enc.ag (Zz.encP Zz.encI (Zz.encP Zz.encI Zz.encI))) (fun v => grp (Gm E) (ndT v)) N)), (2, .pr (mapPr (Enc.ag (Zz.encP Zz.encI Zz.encI)) (Enc.ag (Zz.encP Zz.encI (Zz.encP Zz.encI Zz.encI))) C))]⟩ := by
  refine fn_intro (gmOk E) 58 3 [] Tryd.func37 rfl rfl rfl rfl rfl ?_
  repeat' first | (change CallGoal _ _ _ _ _ _; first | (change CallGoal _ 62 _ _ _ _; first | (refine call0 (of_form E b h) [] rfl True.intro rfl ?_))) | (intro h; first | (exfalso; omega; done) | skip) | (refine And.intro ?_ ?_) | exact True.intro | (refine @Exists.intro Unit _ () ?_) | (refine @Exists.intro (_ = _) _ rfl ?_)
  all_goals first
| (dsimp only; first | rfl | omega)
| rfl
| omega
| assumption
| exact has_putK _ _ _
| exact get_hasK ‹_›

set_option maxHeartbeats 1000000 in
theorem put_range (E : Nat → Addr) (N : NM) (C : CM) (hh : Int × Int) (b : Int × Int × Int × Int) (h : rightP b ∧ inWorld b.1 b.2.1 b.2.2.1 b.2.2.2 = false) : Does (Gm E) 37 ⟨[.ptr 0 0, .agg [.int .i64 hh.1, .int .i64 hh.2], .agg [.int .i64 b.1, .int .i64 b.2.1, .int .i64 b.2.2.1, .int .i64 b.2.2.2]], [(0, .cells 121 [.mp 1, .mp 2]), (1, .pr (mObj (Enc.ag (Zz.encP Zz.encI (Zz.encP Zz.encI Zz.encI))) (fun v => grp (Gm E) (ndT v)) N)), (2, .pr (mapPr (Enc.ag (Zz.encP Zz.encI Zz.encI)) (Enc.ag (Zz.encP Zz.encI (Zz.encP Zz.encI Zz.encI))) C))], 3, 3, Unit, fun _ => True, fun _ => .err 1, fun _ => [(0, .cells 121 [.mp 1, .mp 2]), (1, .pr (mObj (Enc.ag (Zz.encP Zz.encI (Zz.encP Zz.encI Zz.encI))) (fun v => grp (Gm E) (ndT v)) N)), (2, .pr (mapPr (Enc.ag (Zz.encP Zz.encI Zz.encI)) (Enc.ag (Zz.encP Zz.encI (Zz.encP Zz.encI Zz.encI))) C))]⟩ := by
  refine fn_intro (gmOk E) 58 3 [] Tryd.func37 rfl rfl rfl rfl rfl ?_
  repeat' first | (change CallGoal _ _ _ _ _ _; first | (change CallGoal _ 62 _ _ _ _; first | (refine call0 (of_range E b h) [] rfl True.intro rfl ?_))) | (intro h; first | (exfalso; omega; done) | skip) | (refine And.intro ?_ ?_) | exact True.intro | (refine @Exists.intro Unit _ () ?_) | (refine @Exists.intro (_ = _) _ rfl ?_)
  all_goals first
| (dsimp only; first | rfl | omega)
| rfl
| omega
| assumption
| exact has_putK _ _ _
| exact get_hasK ‹_›

end Go.Proofs.YtpojafdllcioiaaDoor

namespace Go.Proofs.YtpojafdllcioiaaDoor
open Go.Zz Go.Px
open Go.Qd (okC okC_iff upC cellB okB okC_cell chain cnt1 cntL)
set_option linter.unusedVariables false
set_option linter.unusedSectionVars false
set_option linter.unusedSimpArgs false
set_option maxRecDepth 10000
theorem same_no {p : Prop} {d : Decidable p} (h : (!@decide p d) = true) (hp : p) : False := by rw [decide_eq_true hp] at h; cases h
theorem hl_len {C : CM} (h : C.length ≤ 1000) : (ordS ltH (C.map (·.1))).length ≤ 1099511627776 := by have := ordS_len (lt := ltH) (C.map (·.1)); rw [List.length_map] at this; omega
theorem nl_len {M : List ((Int × Int × Int) × Option Nat)} (h : M.length ≤ 1000000000) : (ordS ltC (M.map (·.1))).length ≤ 1000000000 := by have := ordS_len (lt := ltC) (M.map (·.1)); rw [List.length_map] at this; omega
theorem bad_world {b : Int × Int × Int × Int} (h : ¬ okP b) (hr : rightP b) : inWorld b.1 b.2.1 b.2.2.1 b.2.2.2 = false := by
  cases e : inWorld b.1 b.2.1 b.2.2.1 b.2.2.2 with
  | false => rfl
  | true => exact absurd (Bool.and_eq_true_iff.2 ⟨right_iff.2 hr, e⟩) h
set_option maxHeartbeats 2000000 in
theorem again_z (E : Nat → Addr) (l : List (Int × Int × Int × Int)) (n k : Nat) (f : Int) (h : n = l.length) : DoesC (Gm E) 8 (Sp0 [.sl 0 n k, .int .i64 f] [(0, .ro (Int × Int × Int × Int) (Zz.encP Zz.encI (Zz.encP Zz.encI (Zz.encP Zz.encI Zz.encI))) l k)] 1 .tt) := by
  subst h
  refine fn_calls (gmOk E) 117 1 [] Tryd.func8 rfl rfl rfl rfl rfl ?_
  repeat' first | (change CallGoal _ _ _ _ _ _; first | (change CallGoal _ 35 _ _ _ _; first | (refine call0 (qalive_z E) [] rfl True.intro rfl ?_)) | (change CallGoal _ 36 _ _ _ _; first | (refine call_rule (new_z E) [] rfl True.intro rfl (fun y0 hy0 => ?_))) | (change CallGoal _ 37 _ _ _ _; first | (refine call_rule (put_t E hI.2.2.2 (by omega) (x.1, 1) hs) [1, 2, 3] rfl (And.intro rfl (And.intro rfl (And.intro rfl True.intro))) rfl (fun y1 hy1 => ?_)) | (refine call_rule (put_form E x.2.2 x.2.1 (x.1, 1) (l.getD x.1.toNat (0, 0, 0, 0)) hr) [1, 2, 3] rfl (And.intro rfl (And.intro rfl (And.intro rfl True.intro))) rfl (fun y2 hy2 => ?_)) | (refine call_rule (put_range E x.2.2 x.2.1 (x.1, 1) (l.getD x.1.toNat (0, 0, 0, 0)) ⟨hr, bad_world hs hr⟩) [1, 2, 3] rfl (And.intro rfl (And.intro rfl (And.intro rfl True.intro))) rfl (fun y3 hy3 => ?_)) | (refine call_rule (put_t E hK.2.2 (by omega) (kO f l.length z.1, 1) (b := (l.getD ((kO f l.length z.1 + 1).tmod l.length).toNat (0, 0, 0, 0))) (hI.2.2.1.at ‹¬ x.1 < _› (tm_in (i := kO f l.length z.1 + 1) (by have q := kO_in (f := f) (n := l.length) (i := z.1) (by omega) (by omega) hK.1; omega) (by omega)).1 (tm_in (i := kO f l.length z.1 + 1) (by have q := kO_in (f := f) (n := l.length) (i := z.1) (by omega) (by omega) hK.1; omega) (by omega)).2)) [4, 5, 6] rfl (And.intro rfl (And.intro rfl (And.intro rfl True.intro))) rfl (fun y4 hy4 => ?_)) | (refine call_rule (put_t E hy4 (by omega) (kO f l.length z.1, 1) (b := (l.getD (kO f l.length z.1).toNat (0, 0, 0, 0))) (hI.2.2.1.at ‹¬ x.1 < _› (kO_in (by omega) (by omega) hK.1).1 (kO_in (by omega) (by omega) hK.1).2)) [4, 5, 6] rfl (And.intro rfl (And.intro rfl (And.intro rfl True.intro))) rfl (fun y5 hy5 => ?_)) | ((fail_if_success (have _ := hs)); refine Or.elim (Classical.em (okP (l.getD x.1.toNat (0, 0, 0, 0)))) (fun hs => ?_) (fun hs => ?_)) | ((fail_if_success (have _ := hr)); refine Or.elim (Classical.em (rightP (l.getD x.1.toNat (0, 0, 0, 0)))) (fun hr => ?_) (fun hr => ?_))) | (change CallGoal _ 38 _ _ _ _; first | (refine call_rule (nodes_z E (x.2.2.map fun y : (Int × Int × Int) × NV => (y.1, some (p1 y.1))) x.2.1 (hI.2.2.2.nlen (by omega) p1)) [1, 2, 3] rfl (And.intro rfl (And.intro rfl (And.intro rfl True.intro))) rfl (fun (q1 : Nat) hq1 => ?_)) | (refine call_rule (nodes_z E (z.2.2.map fun y : (Int × Int × Int) × NV => (y.1, some (p2 y.1))) z.2.1 (hK.2.2.nlen (by omega) p2)) [4, 5, 6] rfl (And.intro rfl (And.intro rfl (And.intro rfl True.intro))) rfl (fun (q2 : Nat) hq2 => ?_)) | (change CallGoal _ _ [.ptr 1 0] _ _ _; refine call_split veP rfl 2 _ rfl (fun p1 => ?_)) | (change CallGoal _ _ [.ptr 4 0] _ _ _; refine call_split veP rfl 5 _ rfl (fun p2 => ?_))) | (change CallGoal _ 40 _ _ _ _; first | (refine call_rule (thandles_z E x.2.2 x.2.1 (by have q := hI.2.2.2.clen (by omega); omega)) [1, 2, 3] rfl (And.intro rfl (And.intro rfl True.intro)) rfl (fun (q3 : Nat) hq3 => ?_)) | (refine call_rule (thandles_z E z.2.2 z.2.1 (by have q := hK.2.2.clen (by omega); omega)) [4, 5, 6] rfl (And.intro rfl (And.intro rfl True.intro)) rfl (fun (q4 : Nat) hq4 => ?_))) | (change CallGoal _ 39 _ _ _ _; first | (refine call0 (sameH_z E _ _ _ _ _ _ ⟨rfl, rfl, hl_len (hI.2.2.2.clen (by omega)), hl_len (hK.2.2.clen (by omega))⟩) [43, 44] rfl (And.intro rfl (And.intro rfl True.intro)) rfl ?_))) | (intro h; first | (exfalso; omega; done) | (exfalso; first | exact h trivial | exact h rfl | exact same_no h ((hI.2.2.2.ext (j := 200) (by omega) (RA_end hI.2.1 ‹¬ x.1 < _›)).hands (hK.2.2.ext (j := 200) (by omega) (fun h c => (RB_all (g := []) (by omega) hK.2.1 ‹¬ z.1 < _› h c).trans (RC_all (g := []) (k := 0) (by simp) (by simp) h c)))) | exact h (congrArg (fun q : List (Int × Int × Int) => ((q.length : Nat) : Int)) ((hI.2.2.2.ext (j := 200) (by omega) (RA_end hI.2.1 ‹¬ x.1 < _›)).nodes (hK.2.2.ext (j := 200) (by omega) (fun h c => (RB_all (g := []) (by omega) hK.2.1 ‹¬ z.1 < _› h c).trans (RC_all (g := []) (k := 0) (by simp) (by simp) h c))) p1 p2)) | exact h (fun n => n (congrArg (fun q : List (Int × Int × Int) => ((q.length : Nat) : Int)) ((hI.2.2.2.ext (j := 200) (by omega) (RA_end hI.2.1 ‹¬ x.1 < _›)).nodes (hK.2.2.ext (j := 200) (by omega) (fun h c => (RB_all (g := []) (by omega) hK.2.1 ‹¬ z.1 < _› h c).trans (RC_all (g := []) (k := 0) (by simp) (by simp) h c))) p1 p2))) | exact h (by rw [((hI.2.2.2.ext (j := 200) (by omega) (RA_end hI.2.1 ‹¬ x.1 < _›)).nodes (hK.2.2.ext (j := 200) (by omega) (fun h c => (RB_all (g := []) (by omega) hK.2.1 ‹¬ z.1 < _› h c).trans (RC_all (g := []) (k := 0) (by simp) (by simp) h c))) p1 p2)]; exact ⟨rfl, rfl, rfl⟩); done) | skip) | (refine And.intro ?_ ?_) | exact True.intro | (refine @Exists.intro Unit _ () ?_) | (refine @Exists.intro (_ = _) _ rfl ?_) | (change LoopGoal _ _ _ _ _ _; refine loop_at 8 (gmOk E) rfl [] (X := (Int × CM × NM)) (fun x => [(37, .int .i64 x.1)]) (fun x => [(2, .pr (mObj (Enc.ag (Zz.encP Zz.encI (Zz.encP Zz.encI Zz.encI))) (fun v => grp (Gm E) (ndT v)) x.2.2)), (3, .pr (mapPr (Enc.ag (Zz.encP Zz.encI Zz.encI)) (Enc.ag (Zz.encP Zz.encI (Zz.encP Zz.encI Zz.encI))) x.2.1))]) [] (fun x => 0 ≤ x.1 ∧ x.1 ≤ (l.length : Nat) ∧ AllR l x.1 ∧ TreeR (RA l x.1) x.1 x.2.1 x.2.2) (fun x => l.length - x.1.toNat) ⟨(0, [], [((0, 0, 0), ([], 0))]), ?_⟩ (fun x hI => ?_)) | (change @Exists ((Int × CM × NM)) (fun _ => updK _ _ _ _ _ _); refine @Exists.intro ((Int × CM × NM)) _ ((?_, ?_, ?_)) ?_; rotate_left 3) | (change LoopGoal _ _ _ _ _ _; refine loop_at 14 (gmOk E) rfl [] (X := (Int × CM × NM)) (fun z => [(51, .int .i64 z.1)]) (fun z => [(5, .pr (mObj (Enc.ag (Zz.encP Zz.encI (Zz.encP Zz.encI Zz.encI))) (fun v => grp (Gm E) (ndT v)) z.2.2)), (6, .pr (mapPr (Enc.ag (Zz.encP Zz.encI Zz.encI)) (Enc.ag (Zz.encP Zz.encI (Zz.encP Zz.encI Zz.encI))) z.2.1))]) [] (fun z => 0 ≤ z.1 ∧ z.1 ≤ (l.length : Nat) ∧ TreeR (RB l [] f z.1) (2 * z.1) z.2.1 z.2.2) (fun z => l.length - z.1.toNat) ⟨(0, [], [((0, 0, 0), ([], 0))]), ?_⟩ (fun z hK => ?_)) | (change @Exists ((Int × CM × NM)) (fun _ => updK _ _ _ _ _ _); refine @Exists.intro ((Int × CM × NM)) _ ((?_, ?_, ?_)) ?_; rotate_left 3) | (change LoopGoal _ _ _ _ _ _; refine loop_at 25 (gmOk E) rfl [] (X := Int) (fun u => [(104, .int .i64 u)]) (fun u => []) [] (fun u => 0 ≤ u ∧ u ≤ ((ordS ltC ((x.2.2.map fun y : (Int × Int × Int) × NV => (y.1, some (p1 y.1))).map (·.1))).length : Nat)) (fun u => (ordS ltC ((x.2.2.map fun y : (Int × Int × Int) × NV => (y.1, some (p1 y.1))).map (·.1))).length - u.toNat) ⟨0, ?_⟩ (fun u hU => ?_)) | (change @Exists (Int) (fun _ => updK _ _ _ _ _ _); refine @Exists.intro (Int) _ ((?_)) ?_; rotate_left 1) | (change DrawGoal _ _ _ _ _ _; first | (change DrawGoal _ _ _ ({ dst := some 62, op := _, type := _, pos := _, after := _, guard := _ } :: _) _ _; refine draw_tree (gmOk E) [0, 39] (.leaf [(0, true), (1, true), (2, true), (3, true), (4, true), (5, true), (6, true), (7, true), (8, true), (9, true), (10, false), (11, true), (12, true), (13, true), (14, true), (15, true), (16, true), (17, true), (18, true), (19, false), (20, true), (21, true)]) (by kernel_rfl) ?_) | (change DrawGoal _ _ _ ({ dst := some 107, op := _, type := _, pos := _, after := _, guard := _ } :: _) _ _; refine draw_tree (gmOk E) [40, 42] (.leaf [(0, true), (1, true), (2, true), (3, true), (4, true), (5, true), (6, true), (7, true), (8, true)]) (by kernel_rfl) ?_))
  all_goals first
| (dsimp only; first | rfl | omega)
| rfl
| omega
| exact TreeR.start RA_none
| exact AllR.nil _
| exact hI.2.2.1.next hs
| exact hy1.ext (Int.le_refl _) (RA_next hI.1)
| exact (TreeR.start (R := RB l [] f 0) (fun h c q => RG_none (g := []) h c ((RB_start h c).2 q))).ext (by dsimp only; omega) (fun _ _ => Iff.rfl)
| exact hy5.ext (by dsimp only; omega) (fun h c => (RB_two _ _ _ _ h c).trans (RB_next hK.1 ‹z.1 < _› (by omega) h c))
| (rw [wrap_n (by omega)] at h; omega)
| (have q := kO_in (f := f) (n := l.length) (i := z.1) (by omega) (by omega) hK.1; unfold kO rO at q; omega)
| (have q := rO_in (f := f) (n := l.length) (by omega) (by omega); unfold rO at q; omega)
| (have q := kO_in (f := f) (n := l.length) (i := z.1) (by omega) (by omega) hK.1; have q2 := tm_in (i := kO f l.length z.1 + 1) (n := l.length) (by omega) (by omega); unfold kO rO at q q2; omega)
| (have q := nl_len (hI.2.2.2.nlen (by omega) p1).1; have q2 := Int.lt_of_lt_of_le ‹u < _› (Int.ofNat_le.2 q); omega)
| (have q := congrArg List.length ((hI.2.2.2.ext (j := 200) (by omega) (RA_end hI.2.1 ‹¬ x.1 < _›)).nodes (hK.2.2.ext (j := 200) (by omega) (fun h c => (RB_all (g := []) (by omega) hK.2.1 ‹¬ z.1 < _› h c).trans (RC_all (g := []) (k := 0) (by simp) (by simp) h c))) p1 p2); omega)

theorem box_dec (cs : List Value) (h : OkCs [some .i64, some .i64, some .i64, some .i64] cs) : ∃ x, cs = (Zz.encP Zz.encI (Zz.encP Zz.encI (Zz.encP Zz.encI Zz.encI))).val x ∧ True := by
  obtain ⟨_, _, rfl, ⟨x, rfl, _⟩, h1⟩ := h.cons
  obtain ⟨_, _, rfl, ⟨y, rfl, _⟩, h2⟩ := h1.cons
  obtain ⟨_, _, rfl, ⟨z, rfl, _⟩, h3⟩ := h2.cons
  obtain ⟨_, _, rfl, ⟨u, rfl, _⟩, h4⟩ := h3.cons
  obtain rfl := h4.nil
  exact ⟨(x, y, z, u), rfl, trivial⟩
theorem quadAgain_any (E : Nat → Addr) (av : Option Addr) (l : List (Int × Int × Int × Int)) (c : Nat) (f : Int) (W : World) (hG : Errs [1, 3, 0] W 227 E) (hav : Arr W 4 av l.length c (flat (Zz.encP Zz.encI (Zz.encP Zz.encI (Zz.encP Zz.encI Zz.encI))).val l)) :
    Calls Tryd.prog 8 #[.slice av l.length c, .int .i64 f] W (Ret fun v w' => v = .bool true ∧ Keep Nn W w') :=
  (again_z E l l.length c f rfl).law (fun _ => av) hG rfl (fun c α e l' k' hm => by cases List.mem_singleton.1 hm; exact ⟨hav, by decide⟩) (fun _ => rfl) (by simp [SV.denL, SV.den, Sp0])
end Go.Proofs.YtpojafdllcioiaaDoor
