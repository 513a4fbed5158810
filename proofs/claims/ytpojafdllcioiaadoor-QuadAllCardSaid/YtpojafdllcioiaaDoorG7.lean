/- A part of the proof: texts put together. -/
import Derived.Test.YtpojafdllcioiaaDoorG6
import Derived.Test.YtpojafdllcioiaaDoorG5
import Derived.Test.YtpojafdllcioiaaDoorSh
import Derived.Test.YtpojafdllcioiaaDoorG2
set_option linter.unusedSectionVars false
set_option linter.unusedSimpArgs false
set_option linter.unusedVariables false
namespace Go.Proofs.YtpojafdllcioiaaDoor
open Go.Zz Go.Px
open Go.Qd (okC okC_iff upC cellB okB okC_cell chain cnt1 cntL)
set_option linter.unusedVariables false
set_option linter.unusedSectionVars false
set_option linter.unusedSimpArgs false
set_option maxRecDepth 10000
/-- Pointers, of which nothing more is asked. -/
def veP : VE (Option Nat) where
  sv x := .raw (pV x)
  val x := pV x
  of _ := none
  den Δ ρ x := by simp only [SV.den]
  bd x := by simp only [SV.bd]
  of_ok h := by cases h
theorem mapV : MapTy Tryd.prog 118 82 114 (Enc.ag (Zz.encP Zz.encI (Zz.encP Zz.encI Zz.encI))) veP none := ⟨Tryd.underlying118, keyC, by kernel_rfl⟩
set_option maxHeartbeats 4000000 in
theorem keysCIt_vc (E : Nat → Addr) (L : List ((Int × Int × Int) × Option Nat)) : KeysVc (Ge E) 82 138 4 "iter.go:27" "iter.go:28" (Enc.ag (Zz.encP Zz.encI (Zz.encP Zz.encI Zz.encI))) veP L := by
  intro y ga left cur
  repeat' first | (intro h; first | (exfalso; omega; done) | skip) | (refine And.intro ?_ ?_) | exact True.intro | (change OpGoal _ _ _ _ (.next _ _) _; refine next_rule L 1 0 rfl rfl rfl rfl ?_ ?_) | (change OpGoal _ _ _ _ (.entry _) _; refine entry_rule 1 rfl rfl ?_) | (exact ⟨_, _, _, ‹List.Perm _ _›, rfl, rfl, rfl, rfl, rfl, ‹_ ∈ L›⟩) | fail
  all_goals first | rfl | assumption
theorem keysC_gives (E : Nat → Addr) (L : List ((Int × Int × Int) × Option Nat)) (A : Addr) (gb : Nat) (W0 : World) (hA : W0.cell? A = some (.map (some gb))) (hm : MapAt W0 gb (Enc.ag (Zz.encP Zz.encI (Zz.encP Zz.encI Zz.encI))).val veP.val L) : GivesKeys Tryd.prog 97 A gb (Enc.ag (Zz.encP Zz.encI (Zz.encP Zz.encI Zz.encI))).val veP.val L W0 :=
  keys_gives (geOk E) rfl 118 82 138 4 "iter.go:27" "iter.go:28" Tryd.func97 rfl rfl rfl mapV rfl rfl (keysCIt_vc E L) A gb W0 hA hm
set_option maxHeartbeats 4000000 in
theorem keysHIt_vc (E : Nat → Addr) (L : List ((Int × Int) × Int × Int × Int)) : KeysVc (Ge E) 29 166 4 "iter.go:27" "iter.go:28" (Enc.ag (Zz.encP Zz.encI Zz.encI)) (Enc.ag (Zz.encP Zz.encI (Zz.encP Zz.encI Zz.encI))) L := by
  intro y ga left cur
  repeat' first | (intro h; first | (exfalso; omega; done) | skip) | (refine And.intro ?_ ?_) | exact True.intro | (change OpGoal _ _ _ _ (.next _ _) _; refine next_rule L 1 0 rfl rfl rfl rfl ?_ ?_) | (change OpGoal _ _ _ _ (.entry _) _; refine entry_rule 1 rfl rfl ?_) | (exact ⟨_, _, _, ‹List.Perm _ _›, rfl, rfl, rfl, rfl, rfl, ‹_ ∈ L›⟩) | fail
  all_goals first | rfl | assumption
theorem keysH_gives (E : Nat → Addr) (L : List ((Int × Int) × Int × Int × Int)) (A : Addr) (gb : Nat) (W0 : World) (hA : W0.cell? A = some (.map (some gb))) (hm : MapAt W0 gb (Enc.ag (Zz.encP Zz.encI Zz.encI)).val (Enc.ag (Zz.encP Zz.encI (Zz.encP Zz.encI Zz.encI))).val L) : GivesKeys Tryd.prog 102 A gb (Enc.ag (Zz.encP Zz.encI Zz.encI)).val (Enc.ag (Zz.encP Zz.encI (Zz.encP Zz.encI Zz.encI))).val L W0 :=
  keys_gives (geOk E) rfl 119 29 166 4 "iter.go:27" "iter.go:28" Tryd.func102 rfl rfl rfl mapC rfl rfl (keysHIt_vc E L) A gb W0 hA hm
set_option maxHeartbeats 4000000 in
theorem appC_z (E : Nat → Addr) (L : List ((Int × Int × Int) × Option Nat)) (h : L.length ≤ 1000000000) : Does (Gm E) 109 ⟨[.nils, .fn 97 [.ptr 0 0]], [(0, .cells 118 [.mp 1]), (1, .pr (mapPr (Enc.ag (Zz.encP Zz.encI (Zz.encP Zz.encI Zz.encI))) veP L))], 2, 3, List (Int × Int × Int) × Nat, fun x => x.1.Perm (L.map (·.1)) ∧ x.1.length ≤ x.2, fun x => .sl 2 x.1.length x.2, fun x => [(0, .cells 118 [.mp 1]), (1, .pr (mapPr (Enc.ag (Zz.encP Zz.encI (Zz.encP Zz.encI Zz.encI))) veP L)), (2, .arr (Int × Int × Int) (Zz.encP Zz.encI (Zz.encP Zz.encI Zz.encI)) 82 x.1 x.2)]⟩ := by
  refine fn_range (gmOk E) 13 2 [] Tryd.func109 rfl rfl rfl rfl rfl ?_
  repeat' first | (intro h; first | (exfalso; omega; done) | skip) | (refine And.intro ?_ ?_) | exact True.intro | (refine @Exists.intro Unit _ () ?_) | (refine @Exists.intro (_ = _) _ rfl ?_) | (change RangeAt _ _ _ _ _ _ _ _ _; refine rangeAt_rule (gmOk E) rfl 97 0 1 118 (Enc.ag (Zz.encP Zz.encI (Zz.encP Zz.encI Zz.encI))) veP L rfl rfl rfl rfl rfl ⟨_, Tryd.func97, rfl, rfl⟩ (keysC_gives E L) rfl (X := List (Int × Int × Int) × Nat) (fun x => [(2, .cells 76 [.sl 3 x.1.length x.2]), (3, .arr (Int × Int × Int) (Zz.encP Zz.encI (Zz.encP Zz.encI Zz.encI)) 82 x.1 x.2)]) [] (fun x => x.1.length ≤ x.2) (fun x => x.1) (fun _ => rfl) (fun _ => rfl) (fun ga => ?_) (fun ga x k hI hk hn => ?_) (fun D x hI hp => ?_)) | (change @Exists (List (Int × Int × Int) × Nat) (fun _ => _ ∧ phK _ _ _ _ _); first | (refine ⟨([], 0), rfl, ?_⟩) | (refine ⟨(x.1 ++ [k], ?_), rfl, ?_⟩; rotate_left)) | (refine @Exists.intro (List (Int × Int × Int) × Nat) _ x ?_)
  all_goals first | (dsimp only; first | rfl | omega) | rfl | omega | exact Nat.le_refl _ | exact hp | exact hI | (simp; done) | (have hn : x.1.length < L.length := hn; omega) | (have hn := hp.length_eq; rw [List.length_map] at hn; omega) | (rw [List.length_append]; assumption) | (refine congrArg (fun q => Ch.arr _ _ _ q _) ?_; dsimp only; rw [List.take_length]; rfl)
set_option maxHeartbeats 4000000 in
theorem appH_z (E : Nat → Addr) (L : List ((Int × Int) × Int × Int × Int)) (h : L.length ≤ 1000000000) : Does (Gm E) 101 ⟨[.nils, .fn 102 [.ptr 0 0]], [(0, .cells 119 [.mp 1]), (1, .pr (mapPr (Enc.ag (Zz.encP Zz.encI Zz.encI)) (Enc.ag (Zz.encP Zz.encI (Zz.encP Zz.encI Zz.encI))) L))], 2, 3, List (Int × Int) × Nat, fun x => x.1.Perm (L.map (·.1)) ∧ x.1.length ≤ x.2, fun x => .sl 2 x.1.length x.2, fun x => [(0, .cells 119 [.mp 1]), (1, .pr (mapPr (Enc.ag (Zz.encP Zz.encI Zz.encI)) (Enc.ag (Zz.encP Zz.encI (Zz.encP Zz.encI Zz.encI))) L)), (2, .arr (Int × Int) (Zz.encP Zz.encI Zz.encI) 29 x.1 x.2)]⟩ := by
  refine fn_range (gmOk E) 13 2 [] Tryd.func101 rfl rfl rfl rfl rfl ?_
  repeat' first | (intro h; first | (exfalso; omega; done) | skip) | (refine And.intro ?_ ?_) | exact True.intro | (refine @Exists.intro Unit _ () ?_) | (refine @Exists.intro (_ = _) _ rfl ?_) | (change RangeAt _ _ _ _ _ _ _ _ _; refine rangeAt_rule (gmOk E) rfl 102 0 1 119 (Enc.ag (Zz.encP Zz.encI Zz.encI)) (Enc.ag (Zz.encP Zz.encI (Zz.encP Zz.encI Zz.encI))) L rfl rfl rfl rfl rfl ⟨_, Tryd.func102, rfl, rfl⟩ (keysH_gives E L) rfl (X := List (Int × Int) × Nat) (fun x => [(2, .cells 79 [.sl 3 x.1.length x.2]), (3, .arr (Int × Int) (Zz.encP Zz.encI Zz.encI) 29 x.1 x.2)]) [] (fun x => x.1.length ≤ x.2) (fun x => x.1) (fun _ => rfl) (fun _ => rfl) (fun ga => ?_) (fun ga x k hI hk hn => ?_) (fun D x hI hp => ?_)) | (change @Exists (List (Int × Int) × Nat) (fun _ => _ ∧ phK _ _ _ _ _); first | (refine ⟨([], 0), rfl, ?_⟩) | (refine ⟨(x.1 ++ [k], ?_), rfl, ?_⟩; rotate_left)) | (refine @Exists.intro (List (Int × Int) × Nat) _ x ?_)
  all_goals first | (dsimp only; first | rfl | omega) | rfl | omega | exact Nat.le_refl _ | exact hp | exact hI | (simp; done) | (have hn : x.1.length < L.length := hn; omega) | (have hn := hp.length_eq; rw [List.length_map] at hn; omega) | (rw [List.length_append]; assumption) | (refine congrArg (fun q => Ch.arr _ _ _ q _) ?_; dsimp only; rw [List.take_length]; rfl)
set_option maxHeartbeats 1000000 in
theorem collC_z (E : Nat → Addr) (L : List ((Int × Int × Int) × Option Nat)) (h : L.length ≤ 1000000000) : Does (Gm E) 95 ⟨[.fn 97 [.ptr 0 0]], [(0, .cells 118 [.mp 1]), (1, .pr (mapPr (Enc.ag (Zz.encP Zz.encI (Zz.encP Zz.encI Zz.encI))) veP L))], 2, 3, List (Int × Int × Int) × Nat, fun x => x.1.Perm (L.map (·.1)) ∧ x.1.length ≤ x.2, fun x => .sl 2 x.1.length x.2, fun x => [(0, .cells 118 [.mp 1]), (1, .pr (mapPr (Enc.ag (Zz.encP Zz.encI (Zz.encP Zz.encI Zz.encI))) veP L)), (2, .arr (Int × Int × Int) (Zz.encP Zz.encI (Zz.encP Zz.encI Zz.encI)) 82 x.1 x.2)]⟩ := by
  refine fn_intro (gmOk E) 5 2 [] Tryd.func95 rfl rfl rfl rfl rfl ?_
  repeat' first | (intro h; first | (exfalso; omega; done) | skip) | (refine And.intro ?_ ?_) | exact True.intro | (refine @Exists.intro Unit _ () ?_) | (refine @Exists.intro (_ = _) _ rfl ?_) | (refine @Exists.intro (List (Int × Int × Int) × Nat) _ x ?_) | (change CallGoal _ _ _ _ _ _; first | (refine call_rule (appC_z E L h) [0, 1] rfl (And.intro rfl (And.intro rfl True.intro)) rfl (fun (x : List (Int × Int × Int) × Nat) (hx : x.1.Perm (L.map (·.1)) ∧ x.1.length ≤ x.2) => ?_)))
  all_goals first
| (dsimp only; first | rfl | omega)
| rfl
| omega
| assumption
| exact hx
| exact hx.1
| exact hx.2
| (have e := hx.1.length_eq; rw [List.length_map] at e; omega)

set_option maxHeartbeats 1000000 in
theorem collH_z (E : Nat → Addr) (L : List ((Int × Int) × Int × Int × Int)) (h : L.length ≤ 1000000000) : Does (Gm E) 70 ⟨[.fn 102 [.ptr 0 0]], [(0, .cells 119 [.mp 1]), (1, .pr (mapPr (Enc.ag (Zz.encP Zz.encI Zz.encI)) (Enc.ag (Zz.encP Zz.encI (Zz.encP Zz.encI Zz.encI))) L))], 2, 3, List (Int × Int) × Nat, fun x => x.1.Perm (L.map (·.1)) ∧ x.1.length ≤ x.2, fun x => .sl 2 x.1.length x.2, fun x => [(0, .cells 119 [.mp 1]), (1, .pr (mapPr (Enc.ag (Zz.encP Zz.encI Zz.encI)) (Enc.ag (Zz.encP Zz.encI (Zz.encP Zz.encI Zz.encI))) L)), (2, .arr (Int × Int) (Zz.encP Zz.encI Zz.encI) 29 x.1 x.2)]⟩ := by
  refine fn_intro (gmOk E) 5 2 [] Tryd.func70 rfl rfl rfl rfl rfl ?_
  repeat' first | (intro h; first | (exfalso; omega; done) | skip) | (refine And.intro ?_ ?_) | exact True.intro | (refine @Exists.intro Unit _ () ?_) | (refine @Exists.intro (_ = _) _ rfl ?_) | (refine @Exists.intro (List (Int × Int) × Nat) _ x ?_) | (change CallGoal _ _ _ _ _ _; first | (refine call_rule (appH_z E L h) [0, 1] rfl (And.intro rfl (And.intro rfl True.intro)) rfl (fun (x : List (Int × Int) × Nat) (hx : x.1.Perm (L.map (·.1)) ∧ x.1.length ≤ x.2) => ?_)))
  all_goals first
| (dsimp only; first | rfl | omega)
| rfl
| omega
| assumption
| exact hx
| exact hx.1
| exact hx.2
| (have e := hx.1.length_eq; rw [List.length_map] at e; omega)

def ltC (a b : Int × Int × Int) : Bool := decide (a.1 < b.1 ∨ a.1 = b.1 ∧ (a.2.2 < b.2.2 ∨ a.2.2 = b.2.2 ∧ a.2.1 < b.2.1))
def cmpC (a b : Int × Int × Int) : Int := if cmpI a.1 b.1 = 0 then (if cmpI a.2.2 b.2.2 = 0 then cmpI a.2.1 b.2.1 else cmpI a.2.2 b.2.2) else cmpI a.1 b.1
theorem ordC : Ord ltC := by
  refine ⟨fun x => by simp [ltC], fun x y z h1 h2 => ?_, fun x y => ?_⟩
  · simp only [ltC, decide_eq_true_eq] at *; omega
  · obtain ⟨a, b, c⟩ := x; obtain ⟨a', b', c'⟩ := y
    simp only [ltC, decide_eq_true_eq, Prod.mk.injEq]; omega
theorem cmpC_neg (a b : Int × Int × Int) : cmpC a b < 0 ↔ ltC a b = true := by
  have h1 := cmpI_neg a.1 b.1; have h2 := cmpI_zero a.1 b.1; have h3 := cmpI_neg a.2.2 b.2.2; have h4 := cmpI_zero a.2.2 b.2.2; have h5 := cmpI_neg a.2.1 b.2.1
  unfold cmpC
  simp only [ltC, decide_eq_true_eq]
  split
  · split <;> omega
  · omega
/-- In order, each once. -/
theorem sorted_ordS {α : Type} {lt : α → α → Bool} (ho : Ord lt) [DecidableEq α] {l l' : List α} (hp : l'.Perm l) (hn : l.Nodup) (hs : l'.Pairwise fun x y => lt y x = false) : l' = ordS lt l := by
  have hn' := hp.nodup_iff.2 hn
  refine Rises.ext ho ?_ (ordS_rises ho l) fun x => by rw [mem_ordS, hp.mem_iff]
  refine (List.Pairwise.and hs hn').imp fun {x y} h => ?_
  rcases ho.tri x y with q | q | q
  · exact q
  · exact absurd q h.2
  · rw [h.1] at q; cases q
set_option maxHeartbeats 4000000 in
theorem or3_e (E : Nat → Addr) (a b c : Int) : DoesC (Ge E) 67 (Sp0 [.sl 0 3 3] [(0, .ro Int Zz.encI [a, b, c] 3)] 1 (.int .i64 (if a = 0 then (if b = 0 then c else b) else a))) := by
  refine fn_calls (geOk E) 18 1 [] Tryd.func67 rfl rfl rfl rfl rfl ?_
  repeat' first | (intro h; first | (exfalso; omega; done) | skip) | (refine And.intro ?_ ?_) | exact True.intro | (refine @Exists.intro Unit _ () ?_) | (refine @Exists.intro (_ = _) _ rfl ?_) | (change LoopGoal _ _ _ _ _ _; refine loop_rounds (geOk E) [] 4 ?_)
  all_goals first | rfl | omega | (simp; done) | (simp_all; done)

set_option maxHeartbeats 4000000 in
theorem cmpC_e (E : Nat → Addr) (a b : Int × Int × Int) : DoesC (Ge E) 66 (Sp0 [.agg [.int .i64 a.1, .int .i64 a.2.1, .int .i64 a.2.2], .agg [.int .i64 b.1, .int .i64 b.2.1, .int .i64 b.2.2]] [] 0 (.int .i64 (cmpC a b))) := by
  refine fn_calls (geOk E) 22 0 [] Tryd.func66 rfl rfl rfl rfl rfl ?_
  repeat' first | (intro h; first | (exfalso; omega; done) | skip) | (refine And.intro ?_ ?_) | exact True.intro | (refine @Exists.intro Unit _ () ?_) | (refine @Exists.intro (_ = _) _ rfl ?_) | (change DrawGoal _ _ _ _ _ _; first | (change DrawGoal _ _ _ ({ dst := some 5, op := _, type := _, pos := _, after := _, guard := _ } :: _) _ _; refine draw_tree (geOk E) [0, 1] (.leaf [(0, true), (1, true), (2, true), (3, true), (5, true), (6, true), (7, true), (8, true), (10, true), (11, true), (12, true), (13, true), (4, false), (9, false), (14, false), (15, false), (16, false), (17, true)]) (by kernel_rfl) ?_)) | (change CallGoal _ _ _ _ _ _; first | (refine call0 (cmp_e E _ _).does [] rfl True.intro rfl ?_) | (refine call0 (or3_e E _ _ _).does [2] rfl (And.intro rfl True.intro) rfl ?_))
  all_goals first | omega | rfl

theorem sortC_z (E : Nat → Addr) (l : List (Int × Int × Int)) (n k : Nat) (h : n = l.length ∧ l.length ≤ 1099511627776) : Does (Gm E) 96 ⟨[.sl 0 n k, .fn 66 []], [(0, .arr (Int × Int × Int) (Zz.encP Zz.encI (Zz.encP Zz.encI Zz.encI)) 82 l k)], 1, 1, List (Int × Int × Int), fun l' => l'.Perm l ∧ l'.Pairwise fun x y => ltC y x = false, fun _ => .tup [], fun l' => [(0, .arr (Int × Int × Int) (Zz.encP Zz.encI (Zz.encP Zz.encI Zz.encI)) 82 l' k)]⟩ := by
  obtain ⟨rfl, h⟩ := h
  exact sort_does (Γ := Gm E) (en := Zz.encP Zz.encI (Zz.encP Zz.encI Zz.encI)) (lt := ltC) (cf := cmpC) (g := 66) (f := 96) Tryd.sortC (fun w => ((gmOk E).tb 82 _ rfl).isAgg w) (fun w => ((gmOk E).tb 82 _ rfl).size w) ordC cmpC_neg (fun x y => cmpC_e E x y) rfl ⟨_, Tryd.func96, rfl, rfl⟩ l k 82 (by omega)
theorem sortH_z (E : Nat → Addr) (l : List (Int × Int)) (n k : Nat) (h : n = l.length ∧ l.length ≤ 1099511627776) : Does (Gm E) 113 ⟨[.sl 0 n k, .fn 100 []], [(0, .arr (Int × Int) (Zz.encP Zz.encI Zz.encI) 29 l k)], 1, 1, List (Int × Int), fun l' => l'.Perm l ∧ l'.Pairwise fun x y => ltH y x = false, fun _ => .tup [], fun l' => [(0, .arr (Int × Int) (Zz.encP Zz.encI Zz.encI) 29 l' k)]⟩ := by
  obtain ⟨rfl, h⟩ := h
  exact sort_does (Γ := Gm E) (en := Zz.encP Zz.encI Zz.encI) (lt := ltH) (cf := cmpH) (g := 100) (f := 113) Tryd.sortH (fun w => ((gmOk E).tb 29 _ rfl).isAgg w) (fun w => ((gmOk E).tb 29 _ rfl).size w) ordH cmpH_neg (fun x y => cmpH_e E x y) rfl ⟨_, Tryd.func113, rfl, rfl⟩ l k 29 (by omega)
end Go.Proofs.YtpojafdllcioiaaDoor

namespace Go.Proofs.YtpojafdllcioiaaDoor
open Go.Zz Go.Px
open Go.Qd (okC okC_iff upC cellB okB okC_cell chain cnt1 cntL)
set_option linter.unusedVariables false
set_option linter.unusedSectionVars false
set_option linter.unusedSimpArgs false
set_option maxRecDepth 10000
theorem pt_eq {a b : Int × Int} : a = b ↔ a.1 = b.1 ∧ a.2 = b.2 := Prod.ext_iff
theorem pt_eq' {a b : Int × Int} : (a.1 = b.1 ∧ a.2 = b.2) ↔ a = b := pt_eq.symm
set_option maxHeartbeats 4000000 in
theorem cloneH_z (E : Nat → Addr) (l : List (Int × Int)) (n k : Nat) (h : n = l.length ∧ l.length ≤ 1099511627776) : Does (Gm E) 112 ⟨[.sl 0 n k], [(0, .arr (Int × Int) (Zz.encP Zz.encI Zz.encI) 29 l k)], 1, 2, Nat, fun k' => l.length ≤ k', fun k' => .sl 1 l.length k', fun k' => [(0, .arr (Int × Int) (Zz.encP Zz.encI Zz.encI) 29 l k), (1, .arr (Int × Int) (Zz.encP Zz.encI Zz.encI) 29 l k')]⟩ := by
  obtain ⟨rfl, h⟩ := h
  refine fn_intro (gmOk E) 8 1 [] Tryd.func112 rfl rfl rfl rfl rfl ?_
  repeat' first | (intro h; first | (exfalso; omega; done) | skip) | (refine And.intro ?_ ?_) | exact True.intro | (refine @Exists.intro Unit _ () ?_) | (refine @Exists.intro (_ = _) _ rfl ?_) | (refine @Exists.intro (Nat) _ ?_ ?_; rotate_left)
  all_goals first | rfl | omega | (simp_all; done) | (dsimp only; omega) | (change _ ≤ _; first | omega | (simp_all; done))

set_option maxHeartbeats 4000000 in
theorem compactH_z (E : Nat → Addr) (l : List (Int × Int)) (n k : Nat) (h : n = l.length ∧ l.length ≤ 1099511627776 ∧ l.length ≤ k) : Does (Gm E) 114 ⟨[.sl 0 n k], [(0, .arr (Int × Int) (Zz.encP Zz.encI Zz.encI) 29 l k)], 1, 1, Unit, fun _ => True, fun _ => .sl 0 (comp l).length k, fun _ => [(0, .arr (Int × Int) (Zz.encP Zz.encI Zz.encI) 29 (comp l ++ List.replicate (l.length - (comp l).length) (0, 0)) k)]⟩ := by
  obtain ⟨rfl, h⟩ := h
  refine fn_intro (gmOk E) 61 1 [] Tryd.func114 rfl rfl rfl rfl rfl ?_
  repeat' first | (intro h; first | (exfalso; omega; done) | skip) | (refine And.intro ?_ ?_) | exact True.intro | (refine @Exists.intro Unit _ () ?_) | (refine @Exists.intro (_ = _) _ rfl ?_) | (change OpGoal _ _ _ _ (.call { callee := .builtin .clear, args := _, argTypes := _ }) _; refine clear_rule (gmOk E) 0 _ _ _ _ _ _ rfl rfl rfl rfl rfl rfl rfl ?_ ?_) | (change LoopGoal _ _ _ _ _ _; refine loop_at 4 (gmOk E) rfl [] (X := Nat) (fun i => [(3, .int .i64 (i : Int))]) (fun i => []) [] (fun i => 1 ≤ i ∧ i ≤ l.length ∧ comp (l.take i) = l.take i) (fun i => l.length - i) ⟨1, ?_⟩ (fun i hI => ?_)) | (change @Exists (Nat) (fun _ => updK _ _ _ _ _ _); refine @Exists.intro (Nat) _ (i + 1) ?_) | (change LoopGoal _ _ _ _ _ _; refine loop_at 9 (gmOk E) rfl [] (X := (Int × Int × List (Int × Int))) (fun x => [(3, .int .i64 x.1), (5, .int .i64 x.2.1)]) (fun x => [(0, .arr (Int × Int) (Zz.encP Zz.encI Zz.encI) 29 x.2.2 k)]) [] (fun x => 1 ≤ x.1 ∧ 1 ≤ x.2.1 ∧ Cmp l x.2.2 x.1.toNat (i + x.2.1.toNat)) (fun x => (l.length - x.2.1).toNat) ⟨((i : Int), 1, l), ?_⟩ (fun x hI => ?_)) | (change @Exists ((Int × Int × List (Int × Int))) (fun _ => updK _ _ _ _ _ _); refine @Exists.intro ((Int × Int × List (Int × Int))) _ ((?_, ?_, ?_)) ?_; rotate_left 3) | (change DrawGoal _ _ _ _ _ _; first | (change DrawGoal _ _ _ ({ dst := some 16, op := _, type := _, pos := _, after := _, guard := _ } :: _) _ _; refine draw_tree (gmOk E) [0] (.leaf [(0, true), (1, true), (2, true), (3, true), (4, true), (5, true), (6, true), (7, true), (8, true), (9, true)]) (by kernel_rfl) ?_) | (change DrawGoal _ _ _ ({ dst := some 35, op := _, type := _, pos := _, after := _, guard := _ } :: _) _ _; refine draw_tree (gmOk E) [0] (.leaf [(0, true), (1, true), (2, true), (3, true), (4, true), (5, true), (6, true), (7, true), (8, true), (9, true)]) (by kernel_rfl) ?_))
  all_goals first
    | (dsimp only; first | rfl | omega)
    | rfl
    | omega
    | (have c := hI.2.2; have c1 := c.len; have c2 := c.le; have c3 := c.jl; (try dsimp only); omega)
    | (rw [comp_one l (by omega)]; done)
    | (rw [comp_one l (by omega)]; simp; done)
    | exact comp_one _ (by rw [List.length_take]; omega)
    | exact Cmp.startI (d := (0, 0)) hI (by omega) (pt_eq'.1 h)
    | exact Cmp.keepI (d := (0, 0)) hI ‹x.2.1 < _› (fun e => h (pt_eq'.2 e))
    | exact Cmp.skipI (d := (0, 0)) hI ‹x.2.1 < _› (pt_eq'.1 (Classical.not_not.1 h))
    | exact Cmp.skipI (d := (0, 0)) hI ‹x.2.1 < _› (pt_eq'.1 h)
    | exact comp_goI (d := (0, 0)) hI ‹_› (fun e => h (pt_eq'.2 e))
    | (have c := hI.2.2; exact c.lenEq (by omega))
    | (have c := hI.2.2; have c1 := c.len; rw [← c.lenEq (by omega), c1]; have c2 := c.done (by omega) []; simp only [List.append_nil, List.take_take, Nat.min_self] at c2; rw [c2])
    | (rw [comp_all hI ‹_›]; done)
    | (rw [comp_all hI ‹_›]; simp; done)

theorem compactH_s (E : Nat → Addr) (l : List (Int × Int)) (n k : Nat) (h : n = l.length ∧ l.length ≤ 1099511627776 ∧ l.length ≤ k) : Does (Gm E) 114 ⟨[.sl 0 n k], [(0, .arr (Int × Int) (Zz.encP Zz.encI Zz.encI) 29 l k)], 1, 1, Unit, fun _ => True, fun _ => .sl 0 (comp l).length k, fun _ => [(0, .arr (Int × Int) (Zz.encP Zz.encI Zz.encI) 29 (comp l) k)]⟩ :=
  Does.post_mono _ (compactH_z E l n k h) fun x En V w _ h => h.shrink (c := 0) rfl
set_option maxHeartbeats 4000000 in
theorem sortedH_z (E : Nat → Addr) (l : List (Int × Int)) (n k : Nat) (h : n = l.length ∧ l.length ≤ 1099511627776) : Does (Gm E) 99 ⟨[.sl 0 n k, .fn 100 []], [(0, .arr (Int × Int) (Zz.encP Zz.encI Zz.encI) 29 l k)], 1, 2, Nat, fun q => (ordS ltH l).length ≤ q, fun q => .sl 1 (ordS ltH l).length q, fun q => [(0, .arr (Int × Int) (Zz.encP Zz.encI Zz.encI) 29 l k), (1, .arr (Int × Int) (Zz.encP Zz.encI Zz.encI) 29 (ordS ltH l) q)]⟩ := by
  obtain ⟨rfl, h⟩ := h
  refine fn_intro (gmOk E) 13 1 [] Tryd.func99 rfl rfl rfl rfl rfl ?_
  repeat' first | (intro h; first | (exfalso; omega; done) | skip) | (refine And.intro ?_ ?_) | exact True.intro | (refine @Exists.intro Unit _ () ?_) | (refine @Exists.intro (_ = _) _ rfl ?_) | (refine @Exists.intro (Nat) _ ?_ ?_; rotate_left) | (change CallGoal _ _ _ _ _ _; first | (refine call_rule (cloneH_z E l _ _ ?_) [0] rfl (And.intro rfl True.intro) rfl (fun (q : Nat) (hq : l.length ≤ q) => ?_)) | (refine call_rule (sortH_z E _ _ _ ?_) [1] rfl (And.intro rfl True.intro) rfl (fun (l' : List (Int × Int)) (hl : l'.Perm l ∧ l'.Pairwise fun x y => ltH y x = false) => ?_)) | (refine call_rule (compactH_s E _ _ _ ?_) [1] rfl (And.intro rfl True.intro) rfl (fun x hx => ?_)))
  all_goals first | rfl | omega | (have e := hl.1.length_eq; omega) | (change (ordS ltH l).length ≤ _; have e := ordS_len (lt := ltH) l; omega) | (rw [comp_ordS ordH hl.1 hl.2])

set_option maxHeartbeats 4000000 in
theorem handles_z (E : Nat → Addr) (l : List (Int × Int)) (n k : Nat) (h : n = l.length ∧ l.length ≤ 1099511627776) : Does (Gm E) 69 ⟨[.sl 0 n k], [(0, .arr (Int × Int) (Zz.encP Zz.encI Zz.encI) 29 l k)], 1, 2, Nat, fun q => (ordS ltH l).length ≤ q, fun q => .sl 1 (ordS ltH l).length q, fun q => [(0, .arr (Int × Int) (Zz.encP Zz.encI Zz.encI) 29 l k), (1, .arr (Int × Int) (Zz.encP Zz.encI Zz.encI) 29 (ordS ltH l) q)]⟩ := by
  refine fn_intro (gmOk E) 5 1 [] Tryd.func69 rfl rfl rfl rfl rfl ?_
  repeat' first | (intro h; first | (exfalso; omega; done) | skip) | (refine And.intro ?_ ?_) | exact True.intro | (refine @Exists.intro Unit _ () ?_) | (refine @Exists.intro (_ = _) _ rfl ?_) | (refine @Exists.intro (Nat) _ ?_ ?_; rotate_left) | (change CallGoal _ _ _ _ _ _; first | (refine call_rule (sortedH_z E l n k h) [0] rfl (And.intro rfl True.intro) rfl (fun (q : Nat) hq => ?_)))
  all_goals first | rfl | omega | exact hq

set_option maxHeartbeats 4000000 in
theorem keysC_z (E : Nat → Addr) (M : List ((Int × Int × Int) × Option Nat)) : Does (Gm E) 65 ⟨[.mp 0], [(0, .pr (mapPr (Enc.ag (Zz.encP Zz.encI (Zz.encP Zz.encI Zz.encI))) veP M))], 1, 2, Unit, fun _ => True, fun _ => .fn 97 [.ptr 1 0], fun _ => [(0, .pr (mapPr (Enc.ag (Zz.encP Zz.encI (Zz.encP Zz.encI Zz.encI))) veP M)), (1, .cells 118 [.mp 0])]⟩ := by
  refine fn_intro (gmOk E) 4 1 [] Tryd.func65 rfl rfl rfl rfl rfl ?_
  repeat' first | (intro h; first | (exfalso; omega; done) | skip) | (refine And.intro ?_ ?_) | exact True.intro | (refine @Exists.intro Unit _ () ?_) | (refine @Exists.intro (_ = _) _ rfl ?_)
  all_goals first | rfl | omega

set_option maxHeartbeats 4000000 in
theorem keysH_z (E : Nat → Addr) (C : List ((Int × Int) × Int × Int × Int)) : Does (Gm E) 71 ⟨[.mp 0], [(0, .pr (mapPr (Enc.ag (Zz.encP Zz.encI Zz.encI)) (Enc.ag (Zz.encP Zz.encI (Zz.encP Zz.encI Zz.encI))) C))], 1, 2, Unit, fun _ => True, fun _ => .fn 102 [.ptr 1 0], fun _ => [(0, .pr (mapPr (Enc.ag (Zz.encP Zz.encI Zz.encI)) (Enc.ag (Zz.encP Zz.encI (Zz.encP Zz.encI Zz.encI))) C)), (1, .cells 119 [.mp 0])]⟩ := by
  refine fn_intro (gmOk E) 4 1 [] Tryd.func71 rfl rfl rfl rfl rfl ?_
  repeat' first | (intro h; first | (exfalso; omega; done) | skip) | (refine And.intro ?_ ?_) | exact True.intro | (refine @Exists.intro Unit _ () ?_) | (refine @Exists.intro (_ = _) _ rfl ?_)
  all_goals first | rfl | omega

set_option maxHeartbeats 1000000 in
theorem sortedC_z (E : Nat → Addr) (M : List ((Int × Int × Int) × Option Nat)) (h : M.length ≤ 1000000000 ∧ (M.map (·.1)).Nodup) : Does (Gm E) 64 ⟨[.fn 97 [.ptr 0 0], .fn 66 []], [(0, .cells 118 [.mp 1]), (1, .pr (mapPr (Enc.ag (Zz.encP Zz.encI (Zz.encP Zz.encI Zz.encI))) veP M))], 2, 3, Nat, fun _ => True, fun q => .sl 2 (ordS ltC (M.map (·.1))).length q, fun q => [(0, .cells 118 [.mp 1]), (1, .pr (mapPr (Enc.ag (Zz.encP Zz.encI (Zz.encP Zz.encI Zz.encI))) veP M)), (2, .arr (Int × Int × Int) (Zz.encP Zz.encI (Zz.encP Zz.encI Zz.encI)) 82 (ordS ltC (M.map (·.1))) q)]⟩ := by
  obtain ⟨h1, h2⟩ := h
  refine fn_intro (gmOk E) 12 2 [] Tryd.func64 rfl rfl rfl rfl rfl ?_
  repeat' first | (intro h; first | (exfalso; omega; done) | skip) | (refine And.intro ?_ ?_) | exact True.intro | (refine @Exists.intro Unit _ () ?_) | (refine @Exists.intro (_ = _) _ rfl ?_) | (refine @Exists.intro (Nat) _ ?_ ?_; rotate_left) | (change CallGoal _ _ _ _ _ _; first | (refine call_rule (collC_z E M h1) [0, 1] rfl (And.intro rfl (And.intro rfl True.intro)) rfl (fun (x : List (Int × Int × Int) × Nat) (hx : x.1.Perm (M.map (·.1)) ∧ x.1.length ≤ x.2) => ?_)) | (refine call_rule (sortC_z E _ _ _ ⟨rfl, ?_⟩) [2] rfl (And.intro rfl True.intro) rfl (fun (l' : List (Int × Int × Int)) (hl : l'.Perm x.1 ∧ l'.Pairwise fun x y => ltC y x = false) => ?_)))
  all_goals first
| rfl
| omega
| (have e := hx.1.length_eq; rw [List.length_map] at e; omega)
| (rw [← sorted_ordS ordC (hl.1.trans hx.1) h2 hl.2]; done)
| (rw [← sorted_ordS ordC (hl.1.trans hx.1) h2 hl.2]; first | rfl | exact hl.1.length_eq.symm | exact hl.1.length_eq)

set_option maxHeartbeats 1000000 in
theorem nodes_z (E : Nat → Addr) (M : List ((Int × Int × Int) × Option Nat)) (C : CM) (h : M.length ≤ 1000000000 ∧ (M.map (·.1)).Nodup) : Does (Gm E) 38 ⟨[.ptr 0 0], [(0, .cells 121 [.mp 1, .mp 2]), (1, .pr (mapPr (Enc.ag (Zz.encP Zz.encI (Zz.encP Zz.encI Zz.encI))) veP M)), (2, .pr (mapPr (Enc.ag (Zz.encP Zz.encI Zz.encI)) (Enc.ag (Zz.encP Zz.encI (Zz.encP Zz.encI Zz.encI))) C))], 3, 4, Nat, fun _ => True, fun q => .sl 3 (ordS ltC (M.map (·.1))).length q, fun q => [(0, .cells 121 [.mp 1, .mp 2]), (1, .pr (mapPr (Enc.ag (Zz.encP Zz.encI (Zz.encP Zz.encI Zz.encI))) veP M)), (2, .pr (mapPr (Enc.ag (Zz.encP Zz.encI Zz.encI)) (Enc.ag (Zz.encP Zz.encI (Zz.encP Zz.encI Zz.encI))) C)), (3, .arr (Int × Int × Int) (Zz.encP Zz.encI (Zz.encP Zz.encI Zz.encI)) 82 (ordS ltC (M.map (·.1))) q)]⟩ := by
  refine fn_intro (gmOk E) 9 3 [] Tryd.func38 rfl rfl rfl rfl rfl ?_
  repeat' first | (intro h; first | (exfalso; omega; done) | skip) | (refine And.intro ?_ ?_) | exact True.intro | (refine @Exists.intro Unit _ () ?_) | (refine @Exists.intro (_ = _) _ rfl ?_) | (refine @Exists.intro (Nat) _ ?_ ?_; rotate_left) | (change CallGoal _ _ _ _ _ _; first | (refine call_rule (keysC_z E M) [1] rfl (And.intro rfl True.intro) rfl (fun x hx => ?_)) | (refine call_rule (sortedC_z E M h) [3, 1] rfl (And.intro rfl (And.intro rfl True.intro)) rfl (fun (q : Nat) hq => ?_)))
  all_goals first | rfl | omega

set_option maxHeartbeats 1000000 in
theorem thandles_z (E : Nat → Addr) (N : NM) (C : CM) (h : C.length ≤ 1000000000) : Does (Gm E) 40 ⟨[.ptr 0 0], [(0, .cells 121 [.mp 1, .mp 2]), (2, .pr (mapPr (Enc.ag (Zz.encP Zz.encI Zz.encI)) (Enc.ag (Zz.encP Zz.encI (Zz.encP Zz.encI Zz.encI))) C))], 3, 4, Nat, fun _ => True, fun q => .sl 3 (ordS ltH (C.map (·.1))).length q, fun q => [(0, .cells 121 [.mp 1, .mp 2]), (2, .pr (mapPr (Enc.ag (Zz.encP Zz.encI Zz.encI)) (Enc.ag (Zz.encP Zz.encI (Zz.encP Zz.encI Zz.encI))) C)), (3, .arr (Int × Int) (Zz.encP Zz.encI Zz.encI) 29 (ordS ltH (C.map (·.1))) q)]⟩ := by
  refine fn_intro (gmOk E) 10 3 [] Tryd.func40 rfl rfl rfl rfl rfl ?_
  repeat' first | (intro h; first | (exfalso; omega; done) | skip) | (refine And.intro ?_ ?_) | exact True.intro | (refine @Exists.intro Unit _ () ?_) | (refine @Exists.intro (_ = _) _ rfl ?_) | (refine @Exists.intro (Nat) _ ?_ ?_; rotate_left) | (change CallGoal _ _ _ _ _ _; first | (refine call_rule (keysH_z E C) [2] rfl (And.intro rfl True.intro) rfl (fun x hx => ?_)) | (refine call_rule (collH_z E C h) [3, 2] rfl (And.intro rfl (And.intro rfl True.intro)) rfl (fun (x : List (Int × Int) × Nat) (hx : x.1.Perm (C.map (·.1)) ∧ x.1.length ≤ x.2) => ?_)) | (refine call_rule (handles_z E _ _ _ ⟨rfl, ?_⟩) [4] rfl (And.intro rfl True.intro) rfl (fun (q : Nat) hq => ?_)))
  all_goals first
| rfl
| omega
| (have e := hx.1.length_eq; rw [List.length_map] at e; omega)
| (rw [ordS_ext ordH fun y => hx.1.mem_iff]; done)
| (rw [ordS_ext ordH fun y => hx.1.mem_iff]; rfl)

/-- Two lists are the same so far. -/
structure SameTo {α : Type} (l r : List α) (i : Int) : Prop where
  lo : 0 ≤ i
  hi : i ≤ (l.length : Nat)
  eq : l.take i.toNat = r.take i.toNat
section
variable {α : Type} [DecidableEq α] {l r : List α} {i : Int} {d : α}
theorem SameTo.start : SameTo l r 0 := ⟨by omega, by omega, by simp⟩
theorem SameTo.step (h : SameTo l r i) (hi : i < (l.length : Nat)) (hl : l.length = r.length) (he : l.getD i.toNat d = r.getD i.toNat d) : SameTo l r (i + 1) := by
  have h1 := h.lo; have h2 := h.hi
  refine ⟨by omega, by omega, ?_⟩
  rw [show (i + 1).toNat = i.toNat + 1 by omega, take_snoc (d := d) (by omega), take_snoc (d := d) (l := r) (by omega), h.eq, he]
theorem SameTo.no (hi : i < (l.length : Nat)) (h0 : 0 ≤ i) (he : ¬ l.getD i.toNat d = r.getD i.toNat d) : decide (l = r) = false := decide_eq_false fun e => he (by rw [e])
theorem SameTo.yes (h : SameTo l r i) (hi : ¬ i < (l.length : Nat)) (hl : l.length = r.length) : decide (l = r) = true := by
  have h1 := h.hi
  have := h.eq
  rw [List.take_of_length_le (by omega), List.take_of_length_le (by omega)] at this
  exact decide_eq_true this
theorem SameTo.len (h : ¬ l.length = r.length) : decide (l = r) = false := decide_eq_false fun e => h (by rw [e])
end
set_option maxHeartbeats 4000000 in
theorem sameH_z (E : Nat → Addr) (l r : List (Int × Int)) (n k m q : Nat) (h : n = l.length ∧ m = r.length ∧ l.length ≤ 1099511627776 ∧ r.length ≤ 1099511627776) : Does (Gm E) 39 (Sp0 [.sl 0 n k, .sl 1 m q] [(0, .ro (Int × Int) (Zz.encP Zz.encI Zz.encI) l k), (1, .ro (Int × Int) (Zz.encP Zz.encI Zz.encI) r q)] 2 (.bl (decide (l = r)))) := by
  obtain ⟨rfl, rfl, h0⟩ := h
  refine fn_intro (gmOk E) 26 2 [] Tryd.func39 rfl rfl rfl rfl rfl ?_
  repeat' first | (intro h; first | (exfalso; omega; done) | skip) | (refine And.intro ?_ ?_) | exact True.intro | (refine @Exists.intro Unit _ () ?_) | (refine @Exists.intro (_ = _) _ rfl ?_) | (change LoopGoal _ _ _ _ _ _; refine loop_at 4 (gmOk E) rfl [] (X := Int) (fun i => [(13, .int .i64 i)]) (fun i => []) [] (fun i => SameTo l r i) (fun i => l.length - i.toNat) ⟨0, ?_⟩ (fun i hI => ?_)) | (change @Exists (Int) (fun _ => updK _ _ _ _ _ _); refine @Exists.intro (Int) _ ((?_)) ?_; rotate_left 1) | (change DrawGoal _ _ _ _ _ _; first | (change DrawGoal _ _ _ ({ dst := some 16, op := _, type := _, pos := _, after := _, guard := _ } :: _) _ _; refine draw_tree (gmOk E) [0, 1] (.leaf [(0, true), (1, true), (2, true), (3, true), (4, true), (5, true), (6, true), (7, true), (8, true)]) (by kernel_rfl) ?_))
  all_goals first
    | (dsimp only; first | rfl | omega)
    | rfl
    | omega
    | exact SameTo.start
    | (have b1 := hI.lo; have b2 := hI.hi; omega)
    | exact hI.step (d := (0, 0)) ‹i < _› (by omega) (pt_eq'.1 (Classical.not_not.1 h))
    | exact (SameTo.no (d := (0, 0)) ‹i < _› hI.lo (fun e => h (pt_eq'.2 e))).symm
    | exact (SameTo.no (d := (0, 0)) ‹i < _› hI.lo (fun e => h (pt_eq'.2 e)))
    | exact (hI.yes ‹¬ i < _› (by omega)).symm
    | exact (hI.yes ‹¬ i < _› (by omega))
    | exact (SameTo.len (by omega)).symm
    | exact (SameTo.len (by omega))

set_option maxHeartbeats 1000000 in
theorem qalive_z (E : Nat → Addr)  : Does (Gm E) 35 (Sp0 [] [] 0 .tt) := by
  refine fn_intro (gmOk E) 15 0 [] Tryd.func35 rfl rfl rfl rfl rfl ?_
  repeat' first | (intro h; first | (exfalso; omega; done) | (exfalso; first | exact h rfl | exact h ⟨rfl, rfl, rfl⟩ | exact h (by decide); done) | skip) | (refine And.intro ?_ ?_) | exact True.intro | (refine @Exists.intro Unit _ () ?_) | (refine @Exists.intro (_ = _) _ rfl ?_) | (change CallGoal _ _ _ _ _ _; first | (refine call0 (of_ok E ((0, 0, 10, 10) : Int × Int × Int × Int) (by decide)) [] rfl True.intro rfl ?_))
  all_goals first | rfl | omega

end Go.Proofs.YtpojafdllcioiaaDoor

namespace Go.Proofs.YtpojafdllcioiaaDoor
open Go.Zz Go.Px
open Go.Qd (okC okC_iff upC cellB okB okC_cell chain cnt1 cntL)
set_option linter.unusedVariables false
set_option linter.unusedSectionVars false
set_option linter.unusedSimpArgs false
set_option maxRecDepth 10000
def okP (b : Int × Int × Int × Int) : Prop := okB b = true
abbrev Bx := Int × Int × Int × Int
abbrev BRel := (Int × Int) → Bx → Prop
def Upd (R : BRel) (hh : Int × Int) (c : Bx) : BRel := fun h d => (h = hh ∧ d = c) ∨ (h ≠ hh ∧ R h d)
def CutR (R : BRel) (hh : Int × Int) : BRel := fun h d => h ≠ hh ∧ R h d

/-- Where the walk through the boxes begins. -/
def rO (f : Int) (n : Nat) : Int := (IntKind.u64.wrap f).tmod (IntKind.u64.wrap n)
def kO (f : Int) (n : Nat) (i : Int) : Int := (i + rO f n).tmod n
section
variable {f : Int} {n : Nat} {i : Int}
theorem wrap_n (hn : n ≤ 40) : IntKind.u64.wrap n = n := fitP_wrap (show 0 ≤ (n : Int) ∧ (n : Int) ≤ 18446744073709551615 by omega)
theorem wrap_lo (f : Int) : 0 ≤ IntKind.u64.wrap f := by rw [IntKind.wrap_u64]; omega
theorem rO_in (h0 : 0 < (n : Int)) (hn : n ≤ 40) : 0 ≤ rO f n ∧ rO f n < n := by
  have e := wrap_lo f
  unfold rO; rw [wrap_n hn, Int.tmod_eq_emod_of_nonneg e]
  exact ⟨Int.emod_nonneg _ (by omega), Int.emod_lt_of_pos _ h0⟩
theorem kO_emod (h0 : 0 < (n : Int)) (hn : n ≤ 40) (hi : 0 ≤ i) : kO f n i = (i + rO f n) % n := by
  have e := (rO_in (f := f) h0 hn).1
  unfold kO; rw [Int.tmod_eq_emod_of_nonneg (by omega)]
theorem kO_in (h0 : 0 < (n : Int)) (hn : n ≤ 40) (hi : 0 ≤ i) : 0 ≤ kO f n i ∧ kO f n i < n := by
  rw [kO_emod h0 hn hi]; exact ⟨Int.emod_nonneg _ (by omega), Int.emod_lt_of_pos _ h0⟩
theorem kO_all (hn : n ≤ 40) {t : Int} (h1 : 0 ≤ t) (h2 : t < n) : ∃ j : Int, 0 ≤ j ∧ j < n ∧ t = kO f n j := by
  have h0 : 0 < (n : Int) := by omega
  refine ⟨(t - rO f n) % n, Int.emod_nonneg _ (by omega), Int.emod_lt_of_pos _ h0, ?_⟩
  rw [kO_emod h0 hn (Int.emod_nonneg _ (by omega)), Int.emod_add_emod, Int.sub_add_cancel, Int.emod_eq_of_lt h1 h2]
end
def dB : Bx := (0, 0, 0, 0)
def RA (l : List Bx) (i : Int) : BRel := fun h c => h.2 = 1 ∧ 0 ≤ h.1 ∧ h.1 < i ∧ c = l.getD h.1.toNat dB
def RG (g : List Bx) (k i : Int) : BRel := fun h c => h.2 = 1 ∧ 50 + k ≤ h.1 ∧ h.1 < 50 + i ∧ c = g.getD (h.1 - 50).toNat dB
def RB (l g : List Bx) (f : Int) (i : Int) : BRel := fun h c => RG g 0 g.length h c ∨ (h.2 = 1 ∧ (∃ j, 0 ≤ j ∧ j < i ∧ h.1 = kO f l.length j) ∧ c = l.getD h.1.toNat dB)
def RC (l g : List Bx) (k : Int) : BRel := fun h c => RG g k g.length h c ∨ RA l l.length h c
section
variable {l g : List Bx} {f i k : Int}
theorem RA_none (h : Int × Int) (c : Bx) : ¬ RA l 0 h c := fun q => by have := q.2.1; have := q.2.2.1; omega
theorem RG_none (h : Int × Int) (c : Bx) : ¬ RG g 0 0 h c := fun q => by have := q.2.1; have := q.2.2.1; omega
theorem RA_next (h0 : 0 ≤ i) (h : Int × Int) (c : Bx) : Upd (RA l i) (i, 1) (l.getD i.toNat dB) h c ↔ RA l (i + 1) h c := by
  obtain ⟨h, g⟩ := h
  unfold Upd RA
  simp only [Prod.mk.injEq, ne_eq]
  constructor
  · rintro (⟨⟨rfl, rfl⟩, rfl⟩ | ⟨_, h1, h2, h3, h4⟩)
    · exact ⟨rfl, h0, by omega, rfl⟩
    · exact ⟨h1, h2, by omega, h4⟩
  · rintro ⟨rfl, h2, h3, rfl⟩
    by_cases e : h = i
    · subst e; exact .inl ⟨⟨rfl, rfl⟩, rfl⟩
    · exact .inr ⟨fun q => e q.1, rfl, h2, by omega, rfl⟩
theorem RG_next (h0 : 0 ≤ i) (h : Int × Int) (c : Bx) : Upd (RG g 0 i) (i + 50, 1) (g.getD i.toNat dB) h c ↔ RG g 0 (i + 1) h c := by
  obtain ⟨h, k⟩ := h
  unfold Upd RG
  simp only [Prod.mk.injEq, ne_eq]
  constructor
  · rintro (⟨⟨rfl, rfl⟩, rfl⟩ | ⟨_, h1, h2, h3, h4⟩)
    · exact ⟨rfl, by omega, by omega, by rw [show i + 50 - 50 = i by omega]⟩
    · exact ⟨h1, h2, by omega, h4⟩
  · rintro ⟨rfl, h2, h3, rfl⟩
    by_cases e : h = i + 50
    · subst e; exact .inl ⟨⟨rfl, rfl⟩, by rw [show i + 50 - 50 = i by omega]⟩
    · exact .inr ⟨fun q => e q.1, rfl, h2, by omega, rfl⟩
theorem RB_start (h : Int × Int) (c : Bx) : RG g 0 g.length h c ↔ RB l g f 0 h c :=
  ⟨.inl, fun q => q.elim id fun q => by obtain ⟨_, ⟨j, h1, h2, _⟩, _⟩ := q; omega⟩
theorem RB_next (h0 : 0 ≤ i) (h1 : i < (l.length : Nat)) (hn : l.length ≤ 40) (h : Int × Int) (c : Bx) : Upd (RB l g f i) (kO f l.length i, 1) (l.getD (kO f l.length i).toNat dB) h c ↔ RB l g f (i + 1) h c := by
  have hk := kO_in (f := f) (n := l.length) (i := i) (by omega) hn h0
  obtain ⟨h, k⟩ := h
  unfold Upd RB
  simp only [Prod.mk.injEq, ne_eq]
  constructor
  · rintro (⟨⟨rfl, rfl⟩, rfl⟩ | ⟨_, q | ⟨h1, ⟨j, h2, h3, h4⟩, h5⟩⟩)
    · exact .inr ⟨rfl, ⟨i, h0, by omega, rfl⟩, rfl⟩
    · exact .inl q
    · exact .inr ⟨h1, ⟨j, h2, by omega, h4⟩, h5⟩
  · rintro (q | ⟨rfl, ⟨j, h2, h3, rfl⟩, rfl⟩)
    · exact .inr ⟨fun e => by have := q.2.1; dsimp only at this; omega, .inl q⟩
    · by_cases e : kO f l.length j = kO f l.length i
      · exact .inl ⟨⟨e, rfl⟩, by rw [e]⟩
      · have : j ≠ i := fun q => e (congrArg _ q)
        exact .inr ⟨fun q => e q.1, .inr ⟨rfl, ⟨j, h2, by omega, rfl⟩, rfl⟩⟩
theorem RB_two (hh : Int × Int) (q p : Bx) (R : BRel) (h : Int × Int) (c : Bx) : Upd (Upd R hh q) hh p h c ↔ Upd R hh p h c := by
  unfold Upd
  constructor
  · rintro (q | ⟨h1, ⟨h2, _⟩ | ⟨_, h2⟩⟩)
    · exact .inl q
    · exact absurd h2 h1
    · exact .inr ⟨h1, h2⟩
  · rintro (q | ⟨h1, h2⟩)
    · exact .inl q
    · exact .inr ⟨h1, .inr ⟨h1, h2⟩⟩
theorem RB_all (hn : l.length ≤ 40) (h1 : i ≤ (l.length : Nat)) (h2 : ¬ i < (l.length : Nat)) (h : Int × Int) (c : Bx) : RB l g f i h c ↔ RC l g 0 h c := by
  obtain rfl : i = (l.length : Nat) := by omega
  constructor
  · rintro (q | ⟨q1, ⟨j, q2, q3, q4⟩, q5⟩)
    · exact .inl q
    · have := kO_in (f := f) (n := l.length) (i := j) (by omega) hn q2
      exact .inr ⟨q1, by omega, by omega, q5⟩
  · rintro (q | ⟨q1, q2, q3, q4⟩)
    · exact .inl q
    · exact .inr ⟨q1, kO_all hn q2 q3, q4⟩
theorem RC_next (h0 : 0 ≤ k) (h1 : k < (g.length : Nat)) (hn : l.length ≤ 40) (h : Int × Int) (c : Bx) : CutR (RC l g k) (k + 50, 1) h c ↔ RC l g (k + 1) h c := by
  obtain ⟨h, t⟩ := h
  unfold CutR RC RG RA
  simp only [Prod.mk.injEq, ne_eq]
  constructor
  · rintro ⟨h1, ⟨rfl, h3, h4, h5⟩ | q⟩
    · have : h ≠ k + 50 := fun e => h1 ⟨e, rfl⟩
      exact .inl ⟨rfl, by omega, h4, h5⟩
    · exact .inr q
  · rintro (⟨rfl, h3, h4, h5⟩ | q)
    · exact ⟨fun e => by omega, .inl ⟨rfl, by omega, h4, h5⟩⟩
    · exact ⟨fun e => by have := q.2.2.1; omega, .inr q⟩
theorem RC_has (h0 : 0 ≤ k) (h1 : k < (g.length : Nat)) : RC l g k (k + 50, 1) (g.getD k.toNat dB) := .inl ⟨rfl, by dsimp only; omega, by dsimp only; omega, by dsimp only; rw [show k + 50 - 50 = k by omega]⟩
theorem RC_all (h1 : k ≤ (g.length : Nat)) (h2 : ¬ k < (g.length : Nat)) (h : Int × Int) (c : Bx) : RC l g k h c ↔ RA l l.length h c :=
  ⟨fun q => q.elim (fun q => by have := q.2.1; have := q.2.2.1; omega) id, .inr⟩
end
structure AllR (l : List Bx) (i : Int) : Prop where
  p : ∀ j, 0 ≤ j → j < i → okP (l.getD j.toNat dB)
theorem AllR.nil (l : List Bx) : AllR l 0 := ⟨fun j h1 h2 => by omega⟩
theorem AllR.next {l : List Bx} {i : Int} (h : AllR l i) (hr : okP (l.getD i.toNat dB)) : AllR l (i + 1) := ⟨fun j h1 h2 => by
  by_cases e : j = i
  · exact e ▸ hr
  · exact h.p j h1 (by omega)⟩
theorem AllR.at {l : List Bx} {i j : Int} (h : AllR l i) (hi : ¬ i < (l.length : Nat)) (h1 : 0 ≤ j) (h2 : j < (l.length : Nat)) : okP (l.getD j.toNat dB) := h.p j h1 (by omega)
theorem tm_in {i n : Int} (h0 : 0 ≤ i) (hn : 0 < n) : 0 ≤ i.tmod n ∧ i.tmod n < n := by rw [Int.tmod_eq_emod_of_nonneg h0]; exact ⟨Int.emod_nonneg _ (by omega), Int.emod_lt_of_pos _ hn⟩
theorem RA_end {l : List Bx} {i : Int} (h1 : i ≤ (l.length : Nat)) (h2 : ¬ i < (l.length : Nat)) (h : Int × Int) (c : Bx) : RA l i h c ↔ RA l l.length h c := by rw [show i = (l.length : Nat) by omega]
theorem RG_end {l : List Bx} {i : Int} (h1 : i ≤ (l.length : Nat)) (h2 : ¬ i < (l.length : Nat)) (h : Int × Int) (c : Bx) : RG l 0 i h c ↔ RG l 0 l.length h c := by rw [show i = (l.length : Nat) by omega]
/-- A tree that holds just these boxes. -/
structure TreeR (R : BRel) (i : Int) (C : CM) (N : NM) : Prop where
  ex : ∃ bs : Go.Qd.BS, Go.Qd.TI bs C N ∧ (∀ h b, R h b ↔ (h, b) ∈ bs) ∧ (bs.length : Int) ≤ i
section
variable {R S : BRel} {i j : Int} {C D : CM} {N M : NM}
theorem TreeR.start (h : ∀ h c, ¬ R h c) : TreeR R 0 [] [((0, 0, 0), ([], 0))] := ⟨[], Go.Qd.TI.new, fun a b => ⟨fun q => absurd q (h a b), fun q => by cases q⟩, by simp⟩
theorem TreeR.ext (h : TreeR R i C N) (hij : i ≤ j) (e : ∀ h c, R h c ↔ S h c) : TreeR S j C N := by
  obtain ⟨bs, h1, h2, h3⟩ := h.ex
  exact ⟨bs, h1, fun a b => (e a b).symm.trans (h2 a b), by omega⟩
theorem TreeR.cb (h : TreeR R i C N) (hi : i ≤ 1000) : CB N 1000000 := by
  obtain ⟨bs, h1, h2, h3⟩ := h.ex
  exact ⟨fun z v hv => by have := h1.small hv; omega⟩
theorem ti_cb {bs : Go.Qd.BS} (h : Go.Qd.TI bs C N) (hl : bs.length ≤ 1000) : CB N 1000000 := ⟨fun z v hv => by have := h.small hv; omega⟩
theorem TreeR.clen (h : TreeR R i C N) (hi : i ≤ 1000) : C.length ≤ 1000 := by
  obtain ⟨bs, h1, h2, h3⟩ := h.ex
  rw [h1.cs, List.length_map]; omega
theorem TreeR.nlen (h : TreeR R i C N) (hi : i ≤ 1000) (p : (Int × Int × Int) → Nat) : (N.map fun x => (x.1, some (p x.1))).length ≤ 1000000000 ∧ ((N.map fun x => (x.1, some (p x.1))).map (·.1)).Nodup := by
  obtain ⟨bs, h1, h2, h3⟩ := h.ex
  have := h1.few
  refine ⟨by rw [List.length_map]; omega, ?_⟩
  rw [List.map_map]; exact h1.nf.nd
theorem TreeR.nodes (h : TreeR R i C N) (h' : TreeR R j D M) (p q : (Int × Int × Int) → Nat) : ordS ltC ((N.map fun x => (x.1, some (p x.1))).map (·.1)) = ordS ltC ((M.map fun x => (x.1, some (q x.1))).map (·.1)) := by
  obtain ⟨bs, h1, h2, h3⟩ := h.ex
  obtain ⟨bs', h1', h2', h3'⟩ := h'.ex
  refine ordS_ext ordC fun z => ?_
  rw [List.map_map, List.map_map]
  exact h1.keys h1' (fun x => (h2 x.1 x.2).symm.trans (h2' x.1 x.2)) z
theorem TreeR.hands (h : TreeR R i C N) (h' : TreeR R j D M) : ordS ltH (C.map (·.1)) = ordS ltH (D.map (·.1)) := by
  obtain ⟨bs, h1, h2, h3⟩ := h.ex
  obtain ⟨bs', h1', h2', h3'⟩ := h'.ex
  exact ordS_ext ordH fun z => h1.hands h1' (fun x => (h2 x.1 x.2).symm.trans (h2' x.1 x.2)) z
theorem upd_mem {bs bs' : Go.Qd.BS} {hh : Int × Int} {b : Bx} (h2 : ∀ h b, R h b ↔ (h, b) ∈ bs) (e : ∀ p, p ∈ bs' ↔ p = (hh, b) ∨ (p ∈ bs ∧ p.1 ≠ hh)) (a : Int × Int) (c : Bx) : Upd R hh b a c ↔ (a, c) ∈ bs' := by
  unfold Upd
  rw [e]
  constructor
  · rintro (⟨rfl, rfl⟩ | ⟨q, r⟩)
    · exact .inl rfl
    · exact .inr ⟨(h2 a c).1 r, q⟩
  · rintro (q | ⟨q, r⟩)
    · cases q; exact .inl ⟨rfl, rfl⟩
    · exact .inr ⟨r, (h2 a c).2 q⟩
theorem put_len (bs : Go.Qd.BS) (hh : Int × Int) (b : Bx) : (Go.Px.putK bs hh b).length ≤ bs.length + 1 := by
  unfold Go.Px.putK
  split
  · rw [List.length_map]; omega
  · rw [List.length_append]; simp
theorem cut_len (bs : Go.Qd.BS) (hh : Int × Int) : (Go.Px.delK bs hh).length ≤ bs.length := List.length_filter_le _ _
/-- Put, by what is held. -/
theorem put_t (E : Nat → Addr) (t : TreeR R i C N) (hi : i ≤ 1000) (hh : Int × Int) {b : Bx} (hb : okP b) : Does (Gm E) 37 ⟨[.ptr 0 0, .agg [.int .i64 hh.1, .int .i64 hh.2], .agg [.int .i64 b.1, .int .i64 b.2.1, .int .i64 b.2.2.1, .int .i64 b.2.2.2]], [(0, .cells 121 [.mp 1, .mp 2]), (1, .pr (mObj (Enc.ag (Zz.encP Zz.encI (Zz.encP Zz.encI Zz.encI))) (fun v => grp (Gm E) (ndT v)) N)), (2, .pr (mapPr (Enc.ag (Zz.encP Zz.encI Zz.encI)) (Enc.ag (Zz.encP Zz.encI (Zz.encP Zz.encI Zz.encI))) C))], 3, 3, CM × NM, fun y => TreeR (Upd R hh b) (i + 1) y.1 y.2, fun _ => .nili, fun y => [(0, .cells 121 [.mp 1, .mp 2]), (1, .pr (mObj (Enc.ag (Zz.encP Zz.encI (Zz.encP Zz.encI Zz.encI))) (fun v => grp (Gm E) (ndT v)) y.2)), (2, .pr (mapPr (Enc.ag (Zz.encP Zz.encI Zz.encI)) (Enc.ag (Zz.encP Zz.encI (Zz.encP Zz.encI Zz.encI))) y.1))]⟩ := by
  obtain ⟨bs, h1, h2, h3⟩ := t.ex
  have hcb := ti_cb h1 (by omega)
  rcases Classical.em (hasK bs hh = true) with hx | hx
  · obtain ⟨c, hc⟩ := Go.Qd.get_has hx
    have hm := (Go.Qd.get_mem h1.nd).1 hc
    have hC := h1.at hm
    rcases Classical.em (cellB c = cellB b) with he | he
    · obtain ⟨v, hv⟩ := Go.Qd.get_has (h1.node hm)
      rw [he] at hv hC
      exact Does.weak (_, _) (put_same E N C hh b v ⟨hC, hb, hv⟩) ⟨_, h1.same hm hb he hv, upd_mem h2 fun p => Go.Qd.put_mem h1.nd, by have := put_len bs hh b; omega⟩ rfl
    · obtain ⟨u, hu⟩ := Go.Qd.get_has (h1.node hm)
      have h4 := h1.drop hm hu
      have hl := cut_len bs hh
      have hno : hasK (Go.Px.delK bs hh) hh = false := by rw [Go.Qd.has_del]; simp
      obtain ⟨v, hv⟩ := h4.cnt_has hno hb
      refine Does.weak (_, _) (put_moved E N C hh b (cellB c) u v ⟨hC, hb, Go.Qd.okC_cell (h1.ok _ hm), hcb, h1.nf.nd, hu, ti_cb h4 (by omega), h4.nf.nd, hv, he⟩) ⟨_, h4.more hno hb hv, upd_mem h2 fun p => ?_, by have := put_len (Go.Px.delK bs hh) hh b; omega⟩ rfl
      rw [Go.Qd.put_mem h4.nd, Go.Qd.del_mem]
      exact ⟨fun q => q.imp id fun q => ⟨q.1.1, q.2⟩, fun q => q.imp id fun q => ⟨q, q.2⟩⟩
  · have hno : hasK bs hh = false := by simpa using hx
    have hC : hasK C hh = false := by rw [h1.cs, Go.Qd.has_cs]; exact hno
    obtain ⟨v, hv⟩ := h1.cnt_has hno hb
    exact Does.weak (_, _) (put_new E N C hh b v ⟨hC, hb, hcb, h1.nf.nd, hv⟩) ⟨_, h1.more hno hb hv, upd_mem h2 fun p => Go.Qd.put_mem h1.nd, by have := put_len bs hh b; omega⟩ rfl
end
set_option maxHeartbeats 1000000 in
theorem put_form (E : Nat → Addr) (N : NM) (C : CM) (hh : Int × Int) (b : Int × Int × Int × Int) (h : ¬ rightP b) : Does (Gm E) 37 ⟨[.ptr 0 0, .agg [.int .i64 hh.1, .int .i64 hh.2], .agg [.int .i64 b.1, .int .i64 b.2.1, .int .i64 b.2.2.1, .int .i64 b.2.2.2]], [(0, .cells 121 [.mp 1, .mp 2]), (1, .pr (mObj (Enc.ag (Zz.encP Zz.encI (Zz.encP Zz.encI Zz.encI))) (fun v => grp (Gm E) (ndT v)) N)), (2, .pr (mapPr (Enc.ag (Zz.encP Zz.encI Zz.encI)) (Enc.ag (Zz.encP Zz.encI (Zz.encP Zz.encI Zz.encI))) C))], 3, 3, Unit, fun _ => True, fun _ => .err 0, fun _ => [(0, .cells 121 [.mp 1, .mp 2]), (1, .pr (mObj (Enc.ag (Zz.encP Zz.encI (Zz.encP Zz.encI Zz.encI))) (fun v => grp (Gm E) (ndT v)) N)), (2, .pr (mapPr (Enc.ag (Zz.encP Zz.encI Zz.encI)) (Enc.ag (Zz.encP Zz.encI (Zz.encP Zz.encI Zz.encI))) C))]⟩ := by
  refine fn_intro (gmOk E) 58 3 [] Tryd.func37 rfl rfl rfl rfl rfl ?_
  repeat' first | (change CallGoal _ _ _ _ _ _; first | (change CallGoal _ 62 _ _ _ _; first | (refine call0 (of_form E b h) [] rfl True.intro rfl ?_))) | (intro h; first | (exfalso; omega; done) | skip) | (refine And.intro ?_ ?_) | exact True.intro | (refine @Exists.intro Unit _ () ?_) | (refine @Exists.intro (_ = _) _ rfl ?_)
  all_goals first
| (dsimp only; first | rfl | omega)
| rfl
| omega
| assumption
| exact has_putK _ _ _
| exact get_hasK ‹_›

set_option maxHeartbeats 1000000 in
theorem put_range (E : Nat → Addr) (N : NM) (C : CM) (hh : Int × Int) (b : Int × Int × Int × Int) (h : rightP b ∧ inWorld b.1 b.2.1 b.2.2.1 b.2.2.2 = false) : Does (Gm E) 37 ⟨[.ptr 0 0, .agg [.int .i64 hh.1, .int .i64 hh.2], .agg [.int .i64 b.1, .int .i64 b.2.1, .int .i64 b.2.2.1, .int .i64 b.2.2.2]], [(0, .cells 121 [.mp 1, .mp 2]), (1, .pr (mObj (Enc.ag (Zz.encP Zz.encI (Zz.encP Zz.encI Zz.encI))) (fun v => grp (Gm E) (ndT v)) N)), (2, .pr (mapPr (Enc.ag (Zz.encP Zz.encI Zz.encI)) (Enc.ag (Zz.encP Zz.encI (Zz.encP Zz.encI Zz.encI))) C))], 3, 3, Unit, fun _ => True, fun _ => .err 1, fun _ => [(0, .cells 121 [.mp 1, .mp 2]), (1, .pr (mObj (Enc.ag (Zz.encP Zz.encI (Zz.encP Zz.encI Zz.encI))) (fun v => grp (Gm E) (ndT v)) N)), (2, .pr (mapPr (Enc.ag (Zz.encP Zz.encI Zz.encI)) (Enc.ag (Zz.encP Zz.encI (Zz.encP Zz.encI Zz.encI))) C))]⟩ := by
  refine fn_intro (gmOk E) 58 3 [] Tryd.func37 rfl rfl rfl rfl rfl ?_
  repeat' first | (change CallGoal _ _ _ _ _ _; first | (change CallGoal _ 62 _ _ _ _; first | (refine call0 (of_range E b h) [] rfl True.intro rfl ?_))) | (intro h; first | (exfalso; omega; done) | skip) | (refine And.intro ?_ ?_) | exact True.intro | (refine @Exists.intro Unit _ () ?_) | (refine @Exists.intro (_ = _) _ rfl ?_)
  all_goals first
| (dsimp only; first | rfl | omega)
| rfl
| omega
| assumption
| exact has_putK _ _ _
| exact get_hasK ‹_›

end Go.Proofs.YtpojafdllcioiaaDoor

namespace Go.Proofs.YtpojafdllcioiaaDoor
open Go.Zz Go.Px
open Go.Qd (okC okC_iff upC cellB okB okC_cell chain cnt1 cntL)
set_option linter.unusedVariables false
set_option linter.unusedSectionVars false
set_option linter.unusedSimpArgs false
set_option maxRecDepth 10000
/-- A cell's loose box. -/
def looseB (c : Int × Int × Int) : Int × Int × Int × Int := (c.2.1 * side c.1 - 2097152 - side c.1 / 2, c.2.2 * side c.1 - 2097152 - side c.1 / 2, c.2.1 * side c.1 - 2097152 + side c.1 + side c.1 / 2, c.2.2 * side c.1 - 2097152 + side c.1 + side c.1 / 2)
def meetR (a b : Int × Int × Int × Int) : Bool := decide ((rightP a ∧ rightP b) ∧ meetP a b)
def enterB (c : Int × Int × Int) (q : Int × Int × Int × Int) : Bool := decide (c.1 = 0) || meetR (looseB c) q
theorem loose_bd {c : Int × Int × Int} (h : okC c = true) : (0 ≤ c.2.1 * side c.1 ∧ c.2.1 * side c.1 ≤ 4194304) ∧ (0 ≤ c.2.2 * side c.1 ∧ c.2.2 * side c.1 ≤ 4194304) ∧ (16384 ≤ side c.1 ∧ side c.1 ≤ 4194304) ∧ (side c.1).tdiv 2 = side c.1 / 2 := by
  have h1 := okC_iff.1 h
  have h2 := side_bd (d := c.1) ⟨h1.1.1, by omega⟩
  have h3 := mul_side (d := c.1) (x := c.2.1) ⟨h1.1.1, by omega⟩ ⟨by omega, by omega⟩
  have h4 := mul_side (d := c.1) (x := c.2.2) ⟨h1.1.1, by omega⟩ ⟨by omega, by omega⟩
  exact ⟨by omega, by omega, by omega, Int.tdiv_eq_ediv_of_nonneg (by omega)⟩
theorem meetR_dc {a b : Int × Int × Int × Int} (h : rightP a) {P : Prop} {d : Decidable P} (hP : P ↔ ((((rightP b ∧ a.1 ≤ b.2.2.1) ∧ b.1 ≤ a.2.2.1) ∧ a.2.1 ≤ b.2.2.2) ∧ b.2.1 ≤ a.2.2.2)) : @decide P d = meetR a b := by
  unfold meetR meetP
  exact decide_eq_decide.2 (hP.trans ⟨fun q => ⟨⟨h, q.1.1.1.1⟩, q.1.1.1.2, q.1.1.2, q.1.2, q.2⟩, fun q => ⟨⟨⟨⟨q.1.2, q.2.1⟩, q.2.2.1⟩, q.2.2.2.1⟩, q.2.2.2.2⟩⟩)
/-- A cell whose loose box isn't met has no box that is. -/
theorem no_meet {bs : Go.Qd.BS} {C : CM} {N : NM} (t : Go.Qd.TI bs C N) {z : Int × Int × Int} {q : Int × Int × Int × Int} (hz : okC z = true) (he : enterB z q = false) : ∀ x ∈ Go.Qd.inT bs z, meetR x.2 q = false := fun x hx => by
  obtain ⟨h1, h2⟩ := Go.Qd.mem_inT.1 hx
  have h3 := Go.Qd.in_chain (t.ok x h1) z h2
  cases hm : meetR x.2 q with
  | false => rfl
  | true =>
    have hm := of_decide_eq_true hm
    have hb := loose_bd hz
    have ho := okC_iff.1 hz
    have s1 := mul_side (d := z.1) (x := z.2.1) ⟨ho.1.1, by omega⟩ ⟨by omega, by omega⟩
    have s2 := mul_side (d := z.1) (x := z.2.2) ⟨ho.1.1, by omega⟩ ⟨by omega, by omega⟩
    unfold enterB at he
    rw [Bool.or_eq_false_iff] at he
    have hn := of_decide_eq_false he.2
    refine absurd ⟨⟨?_, hm.1.2⟩, ?_⟩ hn
    · unfold rightP reachP looseB; dsimp only; omega
    · have h5 := hm.2
      unfold meetP at h5 ⊢
      unfold looseB; dsimp only; omega
set_option maxHeartbeats 1000000 in
theorem loose_z (E : Nat → Addr) (c : Int × Int × Int) (h : okC c = true) : Does (Gm E) 74 (Sp0 [.agg [.int .i64 c.1, .int .i64 c.2.1, .int .i64 c.2.2]] [] 0 (.tup [.agg [.int .i64 (looseB c).1, .int .i64 (looseB c).2.1, .int .i64 (looseB c).2.2.1, .int .i64 (looseB c).2.2.2], .nili])) := by
  rename okC c = true => h1
  refine fn_intro (gmOk E) 46 0 [] Tryd.func74 rfl rfl rfl rfl rfl ?_
  repeat' first | (intro h; first | (exfalso; omega; done) | (exfalso; (rw [h1] at h; cases h); done) | skip) | (refine And.intro ?_ ?_) | exact True.intro | (refine @Exists.intro Unit _ () ?_) | (refine @Exists.intro (_ = _) _ rfl ?_) | (change DrawGoal _ _ _ _ _ _; first | (change DrawGoal _ _ _ ({ dst := some 15, op := _, type := _, pos := _, after := _, guard := _ } :: _) _ _; refine draw_tree (gmOk E) [0, 1] (.leaf [(0, true), (1, true), (2, true), (3, true), (4, true), (5, true), (6, true), (7, true), (8, true), (9, true), (10, true), (11, true)]) (by kernel_rfl) ?_)) | (change CallGoal _ _ _ _ _ _; first | (refine call0 (cright_z E c) [] rfl True.intro rfl ?_) | (refine call0 (side_z E c.1 ⟨?_, ?_⟩) [] rfl True.intro rfl ?_))
  all_goals first | rfl | omega | exact (Go.Qd.okC_iff.1 h1).1.1 | exact (Go.Qd.okC_iff.1 h1).1.2 | (have q := loose_bd h1; omega) | (have q := loose_bd h1; unfold looseB; dsimp only; omega)

set_option maxHeartbeats 1000000 in
theorem pmeets_z (E : Nat → Addr) (a b : Int × Int × Int × Int) : Does (Gm E) 75 (Sp0 [.agg [.int .i64 a.1, .int .i64 a.2.1, .int .i64 a.2.2.1, .int .i64 a.2.2.2], .agg [.int .i64 b.1, .int .i64 b.2.1, .int .i64 b.2.2.1, .int .i64 b.2.2.2]] [] 0 (.bl (meetR a b))) := by
  refine fn_intro (gmOk E) 39 0 [] Tryd.func75 rfl rfl rfl rfl rfl ?_
  repeat' first | (intro h; first | (exfalso; omega; done) | skip) | (refine And.intro ?_ ?_) | exact True.intro | (refine @Exists.intro Unit _ () ?_) | (refine @Exists.intro (_ = _) _ rfl ?_) | (change CallGoal _ _ _ _ _ _; first | (refine call0 (right_z E a) [] rfl True.intro rfl ?_) | (refine call0 (right_z E b) [] rfl True.intro rfl ?_))
  all_goals first | rfl | omega | exact meetR_dc ‹_› Iff.rfl | (unfold meetR meetP; refine decide_eq_decide.2 ⟨fun q => ⟨⟨by first | exact q.1.1.1.1.1 | assumption, by first | exact q.1.1.1.1.2 | exact q.1.1.1.1 | assumption⟩, by omega⟩, fun q => by omega⟩) | (exact (decide_eq_false (fun q => ‹¬ rightP _› (by first | exact q.1.1 | exact q.1.2))).symm)

set_option maxHeartbeats 1000000 in
theorem enter_z (E : Nat → Addr) (c : Int × Int × Int) (q : Int × Int × Int × Int) (h : okC c = true) : Does (Gm E) 73 (Sp0 [.agg [.int .i64 c.1, .int .i64 c.2.1, .int .i64 c.2.2], .ptr 0 0] [(0, .cells 27 [.int .i64 q.1, .int .i64 q.2.1, .int .i64 q.2.2.1, .int .i64 q.2.2.2])] 1 (.bl (enterB c q))) := by
  rename okC c = true => h1
  refine fn_intro (gmOk E) 23 1 [] Tryd.func73 rfl rfl rfl rfl rfl ?_
  repeat' first | (intro h; first | (exfalso; omega; done) | skip) | (refine And.intro ?_ ?_) | exact True.intro | (refine @Exists.intro Unit _ () ?_) | (refine @Exists.intro (_ = _) _ rfl ?_) | (change CallGoal _ _ _ _ _ _; first | (refine call0 (loose_z E c h1) [] rfl True.intro rfl ?_) | (refine call0 (pmeets_z E (looseB c) q) [] rfl True.intro rfl ?_))
  all_goals first | rfl | omega | (unfold enterB; simp_all; done)

def outE (q : Int × Int × Int × Int) (l : List (Int × Int)) (h : Int × Int) (b : Int × Int × Int × Int) : List (Int × Int) := if meetR b q = true then l ++ [h] else l
set_option maxHeartbeats 1000000 in
theorem each_z (E : Nat → Addr) (h0 : Int × Int) (b q : Int × Int × Int × Int) (l : List (Int × Int)) (n k : Nat) (h : n = l.length ∧ l.length ≤ 1000000 ∧ l.length ≤ k) : Does (Gm E) 76 ⟨[.agg [.int .i64 h0.1, .int .i64 h0.2], .agg [.int .i64 b.1, .int .i64 b.2.1, .int .i64 b.2.2.1, .int .i64 b.2.2.2], .ptr 0 0, .ptr 1 0], [(0, .cells 27 [.int .i64 q.1, .int .i64 q.2.1, .int .i64 q.2.2.1, .int .i64 q.2.2.2]), (1, .cells 79 [.sl 2 n k]), (2, .arr (Int × Int) (Zz.encP Zz.encI Zz.encI) 29 l k)], 3, 4, Nat, fun k2 => (outE q l h0 b).length ≤ k2, fun _ => .tup [], fun k2 => [(0, .cells 27 [.int .i64 q.1, .int .i64 q.2.1, .int .i64 q.2.2.1, .int .i64 q.2.2.2]), (1, .cells 79 [.sl 3 (outE q l h0 b).length k2]), (3, .arr (Int × Int) (Zz.encP Zz.encI Zz.encI) 29 (outE q l h0 b) k2)]⟩ := by
  obtain ⟨rfl, hl, hk⟩ := h
  refine fn_intro (gmOk E) 13 3 [] Tryd.func76 rfl rfl rfl rfl rfl ?_
  repeat' first | (intro h; first | (exfalso; omega; done) | skip) | (refine And.intro ?_ ?_) | exact True.intro | (refine @Exists.intro Unit _ () ?_) | (refine @Exists.intro (_ = _) _ rfl ?_) | (refine @Exists.intro (Nat) _ ?_ ?_; rotate_left) | (change CallGoal _ _ _ _ _ _; first | (refine call0 (pmeets_z E b q) [] rfl True.intro rfl ?_))
  all_goals first
| rfl
| omega
| exact Nat.le_refl _
| (change _ * 16 ≤ _; omega)
| (unfold outE; rw [if_pos ‹meetR b q = true›, List.length_append]; first | rfl | omega | assumption)
| (unfold outE; rw [if_pos ‹meetR b q = true›]; first | done | (rw [List.take_length]; rfl))
| (show (outE q l h0 b).length ≤ k; unfold outE; rw [if_neg (by rw [‹meetR b q = false›]; simp)]; exact hk)
| (unfold outE; rw [if_neg (by rw [‹meetR b q = false›]; simp)]; first | done | rfl | omega)

end Go.Proofs.YtpojafdllcioiaaDoor

namespace Go.Proofs.YtpojafdllcioiaaDoor
open Go.Zz Go.Px
open Go.Qd (okC okC_iff upC cellB okB okC_cell chain cnt1 cntL)
set_option linter.unusedVariables false
set_option linter.unusedSectionVars false
set_option linter.unusedSimpArgs false
set_option maxRecDepth 10000
def metL (q : Int × Int × Int × Int) (vis : Go.Qd.BS) : List (Int × Int) := (vis.filter fun p => meetR p.2 q).map (·.1)
theorem metL_snoc (q : Int × Int × Int × Int) (vis : Go.Qd.BS) (h : Int × Int) (b : Int × Int × Int × Int) : metL q (vis ++ [(h, b)]) = outE q (metL q vis) h b := by
  unfold metL outE
  rw [List.filter_append, List.filter_cons]
  cases e : meetR b q <;> simp
theorem metL_len (q : Int × Int × Int × Int) (vis : Go.Qd.BS) : (metL q vis).length ≤ vis.length := by unfold metL; rw [List.length_map]; exact List.length_filter_le _ _
theorem take_last {S : List (Int × Int × Int)} (h : 0 < (S.length : Int)) : S = S.take ((S.length : Nat) - 1 : Int).toNat ++ [S.getD ((S.length : Nat) - 1 : Int).toNat (0, 0, 0)] := by
  rw [← take_snoc (by omega), show ((S.length : Nat) - 1 : Int).toNat + 1 = S.length by omega, List.take_length]
theorem wk_last {m : Int × Int × Int × Int → Bool} {bs vis : Go.Qd.BS} {S : List (Int × Int × Int)} (h : Go.Qd.Wk m bs S vis) (h0 : 0 < (S.length : Int)) : Go.Qd.Wk m bs (S.take ((S.length : Nat) - 1 : Int).toNat ++ [S.getD ((S.length : Nat) - 1 : Int).toNat (0, 0, 0)]) vis := by
  rw [← take_last h0]; exact h
theorem wk_end {m : Int × Int × Int × Int → Bool} {bs vis : Go.Qd.BS} {S : List (Int × Int × Int)} (h : Go.Qd.Wk m bs S vis) (h0 : ¬ 0 < (S.length : Int)) : Go.Qd.Wk m bs [] vis := by
  have e : S = [] := List.length_eq_zero_iff.1 (by omega)
  rw [← e]; exact h
theorem pop_wgt {S : List (Int × Int × Int)} (h : 0 < (S.length : Int)) : Go.Qd.wgtS (S.take ((S.length : Nat) - 1 : Int).toNat) < Go.Qd.wgtS S := by
  conv => rhs; rw [take_last h]
  exact Go.Qd.wgt_pop
theorem push_wgt {S : List (Int × Int × Int)} {z : Int × Int × Int} (h : 0 < (S.length : Int)) (hz : z = S.getD ((S.length : Nat) - 1 : Int).toNat (0, 0, 0)) (hk : okC z = true) (hd : z.1 < 8) : Go.Qd.wgtS (S.take ((S.length : Nat) - 1 : Int).toNat ++ Go.Qd.kids z) < Go.Qd.wgtS S := by
  conv => rhs; rw [take_last h, ← hz]
  exact Go.Qd.wgt_push hk hd
theorem push_wk {m : Int × Int × Int × Int → Bool} {bs vis lf : Go.Qd.BS} {C : CM} {N : NM} {S1 : List (Int × Int × Int)} {z : Int × Int × Int} (h : Go.Qd.Wn m bs S1 z vis lf) (hl : lf = []) (t : Go.Qd.TI bs C N) (hd : z.1 < 8) : Go.Qd.Wk m bs (S1 ++ Go.Qd.kids z) vis := by subst hl; exact h.push t hd
theorem deep_wk {m : Int × Int × Int × Int → Bool} {bs vis lf : Go.Qd.BS} {C : CM} {N : NM} {S1 : List (Int × Int × Int)} {z : Int × Int × Int} (h : Go.Qd.Wn m bs S1 z vis lf) (hl : lf = []) (t : Go.Qd.TI bs C N) (hd : ¬ z.1 < 8) : Go.Qd.Wk m bs S1 vis := by subst hl; exact h.deep t hd
theorem nb_ff {b : Bool} (h : (!b) = true) : b = false := by cases b <;> simp_all
theorem put_self {N : NM} {z : Int × Int × Int} {v : NV} (hn : (N.map (·.1)).Nodup) (hv : Go.Px.getK N z = some v) : Go.Px.putK N z v = N := by
  unfold Go.Px.putK
  rw [if_pos (get_hasK hv)]
  refine (List.map_congr_left fun p hp => ?_).trans (List.map_id _)
  split
  · rename_i e
    have h2 : Go.Px.getK N z = some p.2 := (Go.Qd.get_mem hn).2 (by rw [← e]; exact hp)
    rw [hv] at h2
    rw [← e, Option.some.inj h2]; rfl
  · rfl
theorem perm_nil_len {α : Type} {l r : List α} {x : α} (h : l.Perm (x :: r)) : r.length < l.length := by rw [h.length_eq, List.length_cons]; omega
set_option maxHeartbeats 1000000 in
theorem kids_z (E : Nat → Addr) (c : Int × Int × Int) (h : okC c = true) : Does (Gm E) 103 (Sp0 [.agg [.int .i64 c.1, .int .i64 c.2.1, .int .i64 c.2.2]] [] 0 (.agg [.int .i64 (c.1 + 1), .int .i64 (2 * c.2.1), .int .i64 (2 * c.2.2), .int .i64 (c.1 + 1), .int .i64 (2 * c.2.1 + 1), .int .i64 (2 * c.2.2), .int .i64 (c.1 + 1), .int .i64 (2 * c.2.1), .int .i64 (2 * c.2.2 + 1), .int .i64 (c.1 + 1), .int .i64 (2 * c.2.1 + 1), .int .i64 (2 * c.2.2 + 1)])) := by
  rename okC c = true => h1
  refine fn_intro (gmOk E) 36 0 [] Tryd.func103 rfl rfl rfl rfl rfl ?_
  repeat' first | (intro h; first | (exfalso; omega; done) | skip) | (refine And.intro ?_ ?_) | exact True.intro | (refine @Exists.intro Unit _ () ?_) | (refine @Exists.intro (_ = _) _ rfl ?_) | (change DrawGoal _ _ _ _ _ _; first | (change DrawGoal _ _ _ ({ dst := some 6, op := _, type := _, pos := _, after := _, guard := _ } :: _) _ _; refine draw_tree (gmOk E) [0] (.leaf [(0, true), (1, true), (2, true), (3, true), (4, true), (5, true), (6, true), (7, true), (8, true), (9, true), (10, true), (11, true)]) (by kernel_rfl) ?_))
  all_goals first | rfl | omega | (have q := Go.Qd.okC_iff.1 h1; have q3 := pow_bd (d := c.1) (by omega); omega)

set_option maxHeartbeats 3000000 in
theorem walk_z (E : Nat → Addr) (bs : Go.Qd.BS) (N : NM) (C : CM) (q : Int × Int × Int × Int) (h : Go.Qd.TI bs C N ∧ bs.length ≤ 1000) : Does (Gm E) 72 ⟨[.ptr 0 0, .fn 73 [.ptr 3 0], .fn 76 [.ptr 3 0, .ptr 4 0]], [(0, .cells 121 [.mp 1, .mp 2]), (1, .pr (mObj (Enc.ag (Zz.encP Zz.encI (Zz.encP Zz.encI Zz.encI))) (fun v => grp (Gm E) (ndT v)) N)), (2, .pr (mapPr (Enc.ag (Zz.encP Zz.encI Zz.encI)) (Enc.ag (Zz.encP Zz.encI (Zz.encP Zz.encI Zz.encI))) C)), (3, .cells 27 [.int .i64 q.1, .int .i64 q.2.1, .int .i64 q.2.2.1, .int .i64 q.2.2.2]), (4, .cells 79 [.nils])], 5, 6, Go.Qd.BS × Nat, fun r => Go.Qd.Wk (fun b => meetR b q) bs [] r.1 ∧ (metL q r.1).length ≤ r.2, fun _ => .tup [], fun r => [(0, .cells 121 [.mp 1, .mp 2]), (1, .pr (mObj (Enc.ag (Zz.encP Zz.encI (Zz.encP Zz.encI Zz.encI))) (fun v => grp (Gm E) (ndT v)) N)), (2, .pr (mapPr (Enc.ag (Zz.encP Zz.encI Zz.encI)) (Enc.ag (Zz.encP Zz.encI (Zz.encP Zz.encI Zz.encI))) C)), (3, .cells 27 [.int .i64 q.1, .int .i64 q.2.1, .int .i64 q.2.2.1, .int .i64 q.2.2.2]), (4, .cells 79 [.sl 5 (metL q r.1).length r.2]), (5, .arr (Int × Int) (Zz.encP Zz.encI Zz.encI) 29 (metL q r.1) r.2)]⟩ := by
  obtain ⟨h1, h2⟩ := h
  refine fn_intro (gmOk E) 68 5 [12] Tryd.func72 rfl rfl rfl rfl rfl ?_
  repeat' first | (change CallGoal _ _ _ _ _ _; first | (change CallGoal _ 73 _ _ _ _; first | (refine call0 (enter_z E (x.1.1.getD ((x.1.1.length : Nat) - 1 : Int).toNat (0, 0, 0)) q ((wk_last hI.1 (by assumption)).ok _ (by simp))) [3] rfl (And.intro rfl True.intro) rfl ?_)) | (change CallGoal _ 76 _ _ _ _; first | (refine call_rule (each_z E k0 b0 q (metL q y.2.2.1) _ _ ⟨rfl, by have q1 := metL_len q y.2.2.1; have q2 := hJ.1.vlen (by intro e; rw [e] at hp; exact absurd hp.length_eq (by simp)); omega, hJ.2⟩) [3, 4, 26] rfl (And.intro rfl (And.intro rfl (And.intro rfl True.intro))) rfl (fun (k2 : Nat) hk2 => ?_))) | (change CallGoal _ 103 _ _ _ _; first | (refine call0 (kids_z E (x.1.1.getD ((x.1.1.length : Nat) - 1 : Int).toNat (0, 0, 0)) ((wk_last hI.1 (by assumption)).ok _ (by simp))) [] rfl True.intro rfl ?_))) | (change JoinGoal _ _ _ _ _ _ _ _; refine join_stop (gmOk E) ?_) | (change HereGoal _ _ _ _ _ _ _; first | (refine here_shrink 6 (x.1.1.take ((x.1.1.length : Nat) - 1 : Int).toNat) [(x.1.1.getD ((x.1.1.length : Nat) - 1 : Int).toNat (0, 0, 0))] rfl (take_last (by assumption)) ?_) | (refine here_go (gmOk E) ?_)) | (change NextGoal _ _ _; first | (refine next_close (Γ0 := Gm E) (tm := ndT) rfl v [23, 24] 1 rfl (And.intro rfl (And.intro rfl True.intro)) rfl (get_hasK hv) ?_) | (refine next_shrink 6 (x.1.1.take ((x.1.1.length : Nat) - 1 : Int).toNat) [(x.1.1.getD ((x.1.1.length : Nat) - 1 : Int).toNat (0, 0, 0))] rfl (take_last (by assumption)) ?_) | (refine next_go ?_)) | (intro h; first | (exfalso; omega; done) | skip) | (refine And.intro ?_ ?_) | exact True.intro | (refine @Exists.intro Unit _ () ?_) | (refine @Exists.intro (_ = _) _ rfl ?_) | (change OpGoal _ _ _ _ (.lookup 118 _ _ true) _; refine lookupO_rule mapN rfl 1 N (x.1.1.getD ((x.1.1.length : Nat) - 1 : Int).toNat (0, 0, 0)) 2 (fun _ => rfl) rfl rfl rfl (fun hn => ?_) (fun v hv => ?_)) | (change OpGoal _ _ _ _ (.range _ _) _; refine range_rule mapB 24 v.1 rfl rfl (fun ga => ?_)) | (change OpGoal _ _ _ _ (.next _ _) _; refine next_rule v.1 25 24 rfl rfl rfl rfl (fun hl => ?_) (fun k0 b0 left hp hm => ?_)) | (change OpGoal _ _ _ _ (.entry _) _; refine entry_rule 25 rfl rfl ?_) | (refine @Exists.intro (Go.Qd.BS × Nat) _ (x.2.1, x.2.2) ?_) | (change LoopGoal _ _ _ _ _ _; refine loop_at2 1 (gmOk E) rfl [12] (X := ((List (Int × Int × Int) × Nat) × Go.Qd.BS × Nat)) (fun x => [(6, .sl 6 x.1.1.length x.1.2)]) (fun x => [(6, .arr (Int × Int × Int) (Zz.encP Zz.encI (Zz.encP Zz.encI Zz.encI)) 82 x.1.1 x.1.2), (4, .cells 79 [.sl 7 (metL q x.2.1).length x.2.2]), (7, .arr (Int × Int) (Zz.encP Zz.encI Zz.encI) 29 (metL q x.2.1) x.2.2)]) [5] (fun x => Go.Qd.Wk (fun b => meetR b q) bs x.1.1 x.2.1 ∧ x.1.1.length ≤ x.1.2 ∧ (metL q x.2.1).length ≤ x.2.2 ∧ Go.Qd.wgtS x.1.1 ≤ 2000000) (fun x => Go.Qd.wgtS x.1.1) ⟨(([(0, 0, 0)], 1), [], 0), ?_⟩ (fun x hI => ?_)) | (change @Exists (((List (Int × Int × Int) × Nat) × Go.Qd.BS × Nat)) (fun _ => updK _ _ _ _ _ _); refine @Exists.intro (((List (Int × Int × Int) × Nat) × Go.Qd.BS × Nat)) _ (((?_, ?_), ?_, ?_)) ?_; rotate_left 4) | (change LoopGoal _ _ _ _ _ _; refine loop_at 7 (gmOk E) rfl [12] (X := (Go.Qd.BS × Option ((Int × Int) × Int × Int × Int × Int) × Go.Qd.BS × Nat)) (fun y => []) (fun y => [(25, .pr (iterPr (Enc.ag (Zz.encP Zz.encI Zz.encI)) (Enc.ag (Zz.encP Zz.encI (Zz.encP Zz.encI (Zz.encP Zz.encI Zz.encI)))) ga v.1 y.1 y.2.1)), (4, .cells 79 [.sl 26 (metL q y.2.2.1).length y.2.2.2]), (26, .arr (Int × Int) (Zz.encP Zz.encI Zz.encI) 29 (metL q y.2.2.1) y.2.2.2)]) [7] (fun y => Go.Qd.Wn (fun b => meetR b q) bs (x.1.1.take ((x.1.1.length : Nat) - 1 : Int).toNat) (x.1.1.getD ((x.1.1.length : Nat) - 1 : Int).toNat (0, 0, 0)) y.2.2.1 y.1 ∧ (metL q y.2.2.1).length ≤ y.2.2.2) (fun y => y.1.length) ⟨(v.1, none, x.2.1, x.2.2), ?_⟩ (fun y hJ => ?_)) | (change @Exists ((Go.Qd.BS × Option ((Int × Int) × Int × Int × Int × Int) × Go.Qd.BS × Nat)) (fun _ => updK _ _ _ _ _ _); refine @Exists.intro ((Go.Qd.BS × Option ((Int × Int) × Int × Int × Int × Int) × Go.Qd.BS × Nat)) _ ((?_, ?_, y.2.2.1 ++ [(k0, b0)], ?_)) ?_; rotate_left 3) | (change DrawGoal _ _ _ _ _ _; first | (change DrawGoal _ _ _ ({ dst := some 30, op := _, type := _, pos := _, after := _, guard := _ } :: _) _ _; refine draw_tree (gmOk E) [0, 22] (.leaf [(0, true), (1, true), (2, true), (3, true), (4, true), (5, false), (6, true), (7, true), (8, true), (9, true), (10, true)]) (by kernel_rfl) ?_))
  all_goals try (show Ch.arr _ _ _ _ _ = Ch.arr _ _ _ _ _; first | rfl | (rw [metL_snoc]; done))
  all_goals first
| (dsimp only; first | rfl | omega)
| rfl
| omega
| exact Nat.le_refl _
| assumption
| exact hI.1
| exact hI.2.1
| exact hI.2.2.1
| exact hI.2.2.2
| (rw [List.length_take]; omega)
| exact Nat.le_trans (List.length_take_le' _ _) hI.2.1
| (dsimp only; rw [List.length_take]; omega)
| (dsimp only; rw [metL_snoc]; done)
| (dsimp only; rw [metL_snoc]; assumption)
| (have q1 := Go.Qd.wgtS_len x.1.1; omega)
| (have q1 := Go.Qd.wgtS_len x.1.1; change _ * 24 ≤ _; omega)
| (have q1 := pop_wgt (S := x.1.1) (by assumption); dsimp only; omega)
| exact (wk_last hI.1 (by assumption)).no (no_meet h1 ((wk_last hI.1 (by assumption)).ok _ (by simp)) (nb_ff ‹(!_) = true›))
| exact deep_wk hJ.1 hl h1 ‹¬ _ < _›
| (dsimp only; rw [List.take_take, Nat.min_self]; first | exact push_wk hJ.1 hl h1 (by assumption) | exact push_wgt (by assumption) rfl ((wk_last hI.1 (by assumption)).ok _ (by simp)) (by assumption) | exact Nat.le_trans (Nat.le_of_lt (push_wgt (by assumption) rfl ((wk_last hI.1 (by assumption)).ok _ (by simp)) (by assumption))) hI.2.2.2)
| (dsimp only; rw [List.take_take, Nat.min_self, List.length_append, List.length_take]; simp only [List.length_cons, List.length_nil]; omega)
| exact wk_end hI.1 (by assumption)
| exact pop_wgt (by assumption)
| (have q1 := pop_wgt (S := x.1.1) (by assumption); omega)
| (show Go.Qd.wgtS _ ≤ 2000000; decide)
| exact hJ.2
| exact hJ.1
| exact Go.Qd.Wk.start h1
| exact (wk_last hI.1 (by assumption)).none h1 hn
| exact (wk_last hI.1 (by assumption)).enter h1 hv
| exact hJ.1.next hp
| exact perm_nil_len hp
| exact congrArg (fun q => Ch.pr (mObj _ _ q)) (put_self h1.nf.nd hv)

end Go.Proofs.YtpojafdllcioiaaDoor

namespace Go.Proofs.YtpojafdllcioiaaDoor
open Go.Zz Go.Px
open Go.Qd (okC okC_iff upC cellB okB okC_cell chain cnt1 cntL)
set_option linter.unusedVariables false
set_option linter.unusedSectionVars false
set_option linter.unusedSimpArgs false
set_option maxRecDepth 10000
theorem met_all {q : Int × Int × Int × Int} {bs vis : Go.Qd.BS} (h : Go.Qd.Wk (fun b => meetR b q) bs [] vis) : ordS ltH (metL q vis) = ordS ltH (metL q bs) := ordS_ext ordH fun x => h.done.mem_iff
theorem Does.weakX {Γ : Ctx} {f : FuncId} {args : List SV} {H : Hp} {n0 n1 : Nat} {X Y : Type} {cond : X → Prop} {ret : X → SV} {post : X → Hp} {cond' : Y → Prop} {ret' : Y → SV} {post' : Y → Hp} (g : X → Y) (h : Does Γ f ⟨args, H, n0, n1, X, cond, ret, post⟩) (hc : ∀ x, cond x → cond' (g x)) (hr : ∀ x, ret' (g x) = ret x) (hp : ∀ x, post' (g x) = post x) :
    Does Γ f ⟨args, H, n0, n1, Y, cond', ret', post'⟩ := by
  refine ⟨h.1, h.2.1, h.2.2.1, fun V w hw => ?_⟩
  obtain ⟨R, hR, hq⟩ := h.2.2.2 V w hw
  refine ⟨R, hR, fun v w' hv => ?_⟩
  obtain ⟨x, V', h1, h2, h3, h4, h5⟩ := hq v w' hv
  refine ⟨g x, V', hc x h1, ?_, ?_, h4, ?_⟩
  · show v = (ret' (g x)).den _ _; rw [hr]; exact h2
  · show (ret' (g x)).bd n1; rw [hr]; exact h3
  · show HpOk Γ _ V' n1 (post' (g x)) w'; rw [hp]; exact h5
set_option maxHeartbeats 2000000 in
theorem meeting_z (E : Nat → Addr) (bs : Go.Qd.BS) (N : NM) (C : CM) (q : Int × Int × Int × Int) (h : Go.Qd.TI bs C N ∧ bs.length ≤ 1000 ∧ rightP q) : Does (Gm E) 41 ⟨[.ptr 0 0, .agg [.int .i64 q.1, .int .i64 q.2.1, .int .i64 q.2.2.1, .int .i64 q.2.2.2]], [(0, .cells 121 [.mp 1, .mp 2]), (1, .pr (mObj (Enc.ag (Zz.encP Zz.encI (Zz.encP Zz.encI Zz.encI))) (fun v => grp (Gm E) (ndT v)) N)), (2, .pr (mapPr (Enc.ag (Zz.encP Zz.encI Zz.encI)) (Enc.ag (Zz.encP Zz.encI (Zz.encP Zz.encI Zz.encI))) C))], 3, 4, Nat, fun _ => True, fun k => .tup [.sl 3 (ordS ltH (metL q bs)).length k, .nili], fun k => [(0, .cells 121 [.mp 1, .mp 2]), (1, .pr (mObj (Enc.ag (Zz.encP Zz.encI (Zz.encP Zz.encI Zz.encI))) (fun v => grp (Gm E) (ndT v)) N)), (2, .pr (mapPr (Enc.ag (Zz.encP Zz.encI Zz.encI)) (Enc.ag (Zz.encP Zz.encI (Zz.encP Zz.encI Zz.encI))) C)), (3, .arr (Int × Int) (Zz.encP Zz.encI Zz.encI) 29 (ordS ltH (metL q bs)) k)]⟩ := by
  obtain ⟨h1, h2, h3⟩ := h
  refine fn_intro (gmOk E) 17 3 [] Tryd.func41 rfl rfl rfl rfl rfl ?_
  repeat' first | (intro h; first | (exfalso; omega; done) | (exfalso; exact h h3; done) | skip) | (refine And.intro ?_ ?_) | exact True.intro | (refine @Exists.intro Unit _ () ?_) | (refine @Exists.intro (_ = _) _ rfl ?_) | (refine @Exists.intro (Nat) _ ?_ ?_; rotate_left) | (change CallGoal _ _ _ _ _ _; first | (refine call_rule (walk_z E bs N C q ⟨h1, h2⟩) [0, 1, 2, 3, 4] rfl (And.intro rfl (And.intro rfl (And.intro rfl (And.intro rfl (And.intro rfl True.intro))))) rfl (fun (r : Go.Qd.BS × Nat) hr => ?_)) | (refine call_rule (handles_z E (metL q r.1) _ _ ⟨rfl, ?_⟩) [5] rfl (And.intro rfl True.intro) rfl (fun (q2 : Nat) hq2 => ?_))) | (change CallGoal _ _ _ _ _ _; first | (refine call0 (right_z E q) [] rfl True.intro rfl ?_))
  all_goals first
| rfl
| omega
| (have q1 := metL_len q r.1; have q2 := hr.1.vlen; omega)
| exact congrArg List.length (met_all hr.1)
| (rw [met_all hr.1]; done)
| (rw [← met_all hr.1]; done)

set_option maxHeartbeats 1000000 in
theorem tlen_z (E : Nat → Addr) (C : CM) (h : C.length ≤ 1000) : Does (Gm E) 42 (Sp0 [.ptr 0 0] [(0, .cells 121 [.mp 1, .mp 2]), (2, .pr (mapPr (Enc.ag (Zz.encP Zz.encI Zz.encI)) (Enc.ag (Zz.encP Zz.encI (Zz.encP Zz.encI Zz.encI))) C))] 3 (.int .i64 (C.length : Nat))) := by
  refine fn_intro (gmOk E) 8 3 [] Tryd.func42 rfl rfl rfl rfl rfl ?_
  repeat' first | (intro h; first | (exfalso; omega; done) | skip) | (refine And.intro ?_ ?_) | exact True.intro | (refine @Exists.intro Unit _ () ?_) | (refine @Exists.intro (_ = _) _ rfl ?_) | (change RdGoal _ _ _ _ _; refine maplen_rule mapC 2 C rfl rfl ?_)
  all_goals first | rfl | omega

section
variable {l : List (Int × Int)} {i : Int} {h0 : Int × Int}
theorem has_yes (hi : 0 ≤ i) (hn : i < (l.length : Nat)) (e : l.getD i.toNat (0, 0) = h0) : h0 ∈ l := by
  rw [← e, List.getD_eq_getElem?_getD, List.getElem?_eq_getElem (by omega)]; exact List.getElem_mem _
theorem has_no (hi : 0 ≤ i) (hn : i < (l.length : Nat)) (h : h0 ∉ l.take i.toNat) (e : ¬ l.getD i.toNat (0, 0) = h0) : h0 ∉ l.take (i + 1).toNat := by
  rw [show (i + 1).toNat = i.toNat + 1 by omega, take_snoc (d := (0, 0)) (by omega), List.mem_append, List.mem_singleton]
  exact fun q => q.elim h fun q => e q.symm
theorem has_end (hi : i ≤ (l.length : Nat)) (hn : ¬ i < (l.length : Nat)) (h : h0 ∉ l.take i.toNat) : h0 ∉ l := by rw [List.take_of_length_le (by omega)] at h; exact h
end
set_option maxHeartbeats 1000000 in
theorem has_h (E : Nat → Addr) (l : List (Int × Int)) (n k : Nat) (h0 : Int × Int) (h : n = l.length ∧ l.length ≤ 1099511627776) : Does (Gm E) 43 (Sp0 [.sl 0 n k, .agg [.int .i64 h0.1, .int .i64 h0.2]] [(0, .ro (Int × Int) (Zz.encP Zz.encI Zz.encI) l k)] 1 (.bl (decide (h0 ∈ l)))) := by
  obtain ⟨rfl, hl⟩ := h
  refine fn_intro (gmOk E) 17 1 [] Tryd.func43 rfl rfl rfl rfl rfl ?_
  repeat' first | (intro h; first | (exfalso; omega; done) | skip) | (refine And.intro ?_ ?_) | exact True.intro | (refine @Exists.intro Unit _ () ?_) | (refine @Exists.intro (_ = _) _ rfl ?_) | (change LoopGoal _ _ _ _ _ _; refine loop_at 2 (gmOk E) rfl [] (X := Int) (fun i => [(9, .int .i64 i)]) (fun i => []) [] (fun i => 0 ≤ i ∧ i ≤ (l.length : Nat) ∧ h0 ∉ l.take i.toNat) (fun i => l.length - i.toNat) ⟨0, ?_⟩ (fun i hI => ?_)) | (change @Exists (Int) (fun _ => updK _ _ _ _ _ _); refine @Exists.intro (Int) _ ((?_)) ?_; rotate_left 1)
  all_goals first
| (dsimp only; first | rfl | omega)
| rfl
| omega
| (simp; done)
| exact (decide_eq_true (has_yes hI.1 (by assumption) (pt_eq'.1 h))).symm
| exact (decide_eq_true (has_yes hI.1 (by assumption) (pt_eq'.1 h)))
| exact has_no hI.1 (by assumption) hI.2.2 (fun e => h (pt_eq'.2 e))
| (rw [show Int.toNat 0 = 0 from rfl, List.take_zero] at h; cases h)
| exact has_no hI.1 (by assumption) hI.2.2 (fun e => ‹¬ (_ ∧ _)› (pt_eq'.2 e)) h
| exact (decide_eq_false (has_end hI.2.1 (by assumption) hI.2.2)).symm
| exact (decide_eq_false (has_end hI.2.1 (by assumption) hI.2.2))

section
variable {R : BRel} {i : Int} {C : CM} {N : NM}
/-- Meeting, by what is held. -/
theorem meeting_t (E : Nat → Addr) (t : TreeR R i C N) (hi : i ≤ 1000) {q : Int × Int × Int × Int} (hq : rightP q) : Does (Gm E) 41 ⟨[.ptr 0 0, .agg [.int .i64 q.1, .int .i64 q.2.1, .int .i64 q.2.2.1, .int .i64 q.2.2.2]], [(0, .cells 121 [.mp 1, .mp 2]), (1, .pr (mObj (Enc.ag (Zz.encP Zz.encI (Zz.encP Zz.encI Zz.encI))) (fun v => grp (Gm E) (ndT v)) N)), (2, .pr (mapPr (Enc.ag (Zz.encP Zz.encI Zz.encI)) (Enc.ag (Zz.encP Zz.encI (Zz.encP Zz.encI Zz.encI))) C))], 3, 4, List (Int × Int) × Nat, fun y => (∀ h, h ∈ y.1 ↔ ∃ b, R h b ∧ meetR b q = true) ∧ y.1.Nodup ∧ y.1.length ≤ 1000, fun y => .tup [.sl 3 y.1.length y.2, .nili], fun y => [(0, .cells 121 [.mp 1, .mp 2]), (1, .pr (mObj (Enc.ag (Zz.encP Zz.encI (Zz.encP Zz.encI Zz.encI))) (fun v => grp (Gm E) (ndT v)) N)), (2, .pr (mapPr (Enc.ag (Zz.encP Zz.encI Zz.encI)) (Enc.ag (Zz.encP Zz.encI (Zz.encP Zz.encI Zz.encI))) C)), (3, .arr (Int × Int) (Zz.encP Zz.encI Zz.encI) 29 y.1 y.2)]⟩ := by
  obtain ⟨bs, h1, h2, h3⟩ := t.ex
  refine Does.weakX (fun k : Nat => (ordS ltH (metL q bs), k)) (meeting_z E bs N C q ⟨h1, by omega, hq⟩) (fun _ _ => ⟨fun h => ?_, Rises.nodup ordH (ordS_rises ordH _), ?_⟩) (fun _ => rfl) (fun _ => rfl)
  · rw [mem_ordS]
    unfold metL
    rw [List.mem_map]
    constructor
    · rintro ⟨p, hp, rfl⟩
      have hp := List.mem_filter.1 hp
      exact ⟨p.2, (h2 _ _).2 hp.1, hp.2⟩
    · rintro ⟨b, hb, hm⟩
      exact ⟨(h, b), List.mem_filter.2 ⟨(h2 _ _).1 hb, hm⟩, rfl⟩
  · have q1 := ordS_len (lt := ltH) (metL q bs); have q2 := metL_len q bs; dsimp only; omega
/-- Drop, by what is held. -/
theorem drop_t (E : Nat → Addr) (t : TreeR R i C N) (hi : i ≤ 1000) (hh : Int × Int) {b : Bx} (hb : R hh b) : Does (Gm E) 44 ⟨[.ptr 0 0, .agg [.int .i64 hh.1, .int .i64 hh.2]], [(0, .cells 121 [.mp 1, .mp 2]), (1, .pr (mObj (Enc.ag (Zz.encP Zz.encI (Zz.encP Zz.encI Zz.encI))) (fun v => grp (Gm E) (ndT v)) N)), (2, .pr (mapPr (Enc.ag (Zz.encP Zz.encI Zz.encI)) (Enc.ag (Zz.encP Zz.encI (Zz.encP Zz.encI Zz.encI))) C))], 3, 3, CM × NM, fun y => TreeR (CutR R hh) i y.1 y.2, fun _ => .nili, fun y => [(0, .cells 121 [.mp 1, .mp 2]), (1, .pr (mObj (Enc.ag (Zz.encP Zz.encI (Zz.encP Zz.encI Zz.encI))) (fun v => grp (Gm E) (ndT v)) y.2)), (2, .pr (mapPr (Enc.ag (Zz.encP Zz.encI Zz.encI)) (Enc.ag (Zz.encP Zz.encI (Zz.encP Zz.encI Zz.encI))) y.1))]⟩ := by
  obtain ⟨bs, h1, h2, h3⟩ := t.ex
  have hm := (h2 _ _).1 hb
  obtain ⟨v, hv⟩ := Go.Qd.get_has (h1.node hm)
  have hl := cut_len bs hh
  refine Does.weak (_, _) (drop_some E N C hh (cellB b) v ⟨h1.at hm, hv, Go.Qd.okC_cell (h1.ok _ hm), ti_cb h1 (by omega), h1.nf.nd⟩) ⟨_, h1.drop hm hv, fun a c => ?_, by omega⟩ rfl
  rw [Go.Qd.del_mem]
  unfold CutR
  exact ⟨fun q => ⟨(h2 _ _).1 q.2, q.1⟩, fun q => ⟨q.2, (h2 _ _).2 q.1⟩⟩
theorem TreeR.hand (t : TreeR R i C N) (h : Int × Int) : h ∈ C.map (·.1) ↔ ∃ b, R h b := by
  obtain ⟨bs, h1, h2, h3⟩ := t.ex
  rw [h1.cs, List.map_map]
  constructor
  · intro q
    obtain ⟨p, hp, rfl⟩ := List.mem_map.1 q
    exact ⟨p.2, (h2 _ _).2 hp⟩
  · rintro ⟨b, hb⟩
    exact List.mem_map.2 ⟨(h, b), (h2 _ _).1 hb, rfl⟩
theorem TreeR.cnd (t : TreeR R i C N) : (C.map (·.1)).Nodup := by
  obtain ⟨bs, h1, h2, h3⟩ := t.ex
  rw [h1.cs, List.map_map]; exact h1.nd
theorem TreeR.okb (t : TreeR R i C N) {h : Int × Int} {b : Bx} (hb : R h b) : okP b := by
  obtain ⟨bs, h1, h2, h3⟩ := t.ex
  exact h1.ok _ ((h2 _ _).1 hb)
/-- A tree of no boxes has one node. -/
theorem TreeR.bare (t : TreeR R i C N) (hn : ∀ h b, ¬ R h b) (p : (Int × Int × Int) → Nat) : (ordS ltC ((N.map fun x => (x.1, some (p x.1))).map (·.1))).length = 1 ∧ C.length = 0 := by
  obtain ⟨bs, h1, h2, h3⟩ := t.ex
  have e : bs = [] := List.eq_nil_iff_forall_not_mem.2 fun x hx => hn x.1 x.2 ((h2 _ _).2 hx)
  subst e
  refine ⟨?_, by rw [h1.cs]; rfl⟩
  have hk : ordS ltC ((N.map fun x => (x.1, some (p x.1))).map (·.1)) = ordS ltC [(0, 0, 0)] := ordS_ext ordC fun z => by
    rw [List.map_map, List.mem_singleton]
    show z ∈ N.map (·.1) ↔ _
    rw [← hasK_iff, h1.nf.ex z]
    exact ⟨fun q => q.elim id fun q => absurd rfl q, .inl⟩
  rw [hk]; rfl
end
end Go.Proofs.YtpojafdllcioiaaDoor

namespace Go.Proofs.YtpojafdllcioiaaDoor
open Go.Zz Go.Px
open Go.Qd (okC okC_iff upC cellB okB okC_cell chain cnt1 cntL)
set_option linter.unusedVariables false
set_option linter.unusedSectionVars false
set_option linter.unusedSimpArgs false
set_option maxRecDepth 10000
theorem same_no {p : Prop} {d : Decidable p} (h : (!@decide p d) = true) (hp : p) : False := by rw [decide_eq_true hp] at h; cases h
theorem nl_len {M : List ((Int × Int × Int) × Option Nat)} (h : M.length ≤ 1000000000) : (ordS ltC (M.map (·.1))).length ≤ 1000000000 := by have := ordS_len (lt := ltC) (M.map (·.1)); rw [List.length_map] at this; omega
theorem bad_world {b : Int × Int × Int × Int} (h : ¬ okP b) (hr : rightP b) : inWorld b.1 b.2.1 b.2.2.1 b.2.2.2 = false := by
  cases e : inWorld b.1 b.2.1 b.2.2.1 b.2.2.2 with
  | false => rfl
  | true => exact absurd (Bool.and_eq_true_iff.2 ⟨right_iff.2 hr, e⟩) h
theorem ok_right {b : Int × Int × Int × Int} (h : okP b) : rightP b := right_iff.1 (Bool.and_eq_true_iff.1 h).1
theorem big_right : rightP ((-4194304, -4194304, 4194304, 4194304) : Int × Int × Int × Int) := by unfold rightP reachP; dsimp only; omega
theorem meet_big {b : Int × Int × Int × Int} (h : rightP b) : meetR b (-4194304, -4194304, 4194304, 4194304) = true := decide_eq_true ⟨⟨h, big_right⟩, by have := h; unfold rightP reachP at this; unfold meetP; dsimp only; omega⟩
theorem meet_self {b : Int × Int × Int × Int} (h : rightP b) : meetR b b = true := decide_eq_true ⟨⟨h, h⟩, by have := h; unfold rightP at this; unfold meetP; omega⟩
/-- All handles of so many boxes. -/
def hndL (n : Nat) : List (Int × Int) := (List.range n).map fun k : Nat => ((k : Int), 1)
theorem hndL_nd (n : Nat) : (hndL n).Nodup := List.Pairwise.map _ (fun a b h e => h (by have := congrArg (·.1) e; dsimp only at this; omega)) (List.nodup_range (n := n))
theorem hndL_mem {n : Nat} {h : Int × Int} : h ∈ hndL n ↔ h.2 = 1 ∧ 0 ≤ h.1 ∧ h.1 < n := by
  unfold hndL
  simp only [List.mem_map, List.mem_range]
  constructor
  · rintro ⟨k, hk, rfl⟩; dsimp only; omega
  · rintro ⟨h1, h2, h3⟩
    exact ⟨h.1.toNat, by omega, by obtain ⟨a, b⟩ := h; dsimp only at *; rw [h1, show ((a.toNat : Nat) : Int) = a by omega]⟩
theorem all_len {l : List (Int × Int × Int × Int)} {w : List (Int × Int)} (hn : w.Nodup) (hm : ∀ h, h ∈ w ↔ ∃ b, RA l l.length h b) : w.length = l.length := by
  have key : ∀ h, h ∈ w ↔ h ∈ hndL l.length := fun h => by
    rw [hm, hndL_mem]
    exact ⟨fun ⟨b, q⟩ => ⟨q.1, q.2.1, q.2.2.1⟩, fun q => ⟨_, q.1, q.2.1, q.2.2, rfl⟩⟩
  have e1 := Go.Qd.nodup_lenQ hn fun h hh => (key h).1 hh
  have e2 := Go.Qd.nodup_lenQ (hndL_nd l.length) fun h hh => (key h).2 hh
  have e3 : (hndL l.length).length = l.length := by unfold hndL; simp
  omega
theorem met_big {l : List (Int × Int × Int × Int)} {C : CM} {N : NM} {w : List (Int × Int)} {j : Int} (t : TreeR (RA l l.length) j C N) (hw : (∀ h, h ∈ w ↔ ∃ b, RA l l.length h b ∧ meetR b (-4194304, -4194304, 4194304, 4194304) = true) ∧ w.Nodup ∧ w.length ≤ 1000) : w.length = l.length :=
  all_len hw.2.1 fun h => (hw.1 h).trans ⟨fun ⟨b, q1, q2⟩ => ⟨b, q1⟩, fun ⟨b, q⟩ => ⟨b, q, meet_big (ok_right (t.okb q))⟩⟩
theorem cs_len {l : List (Int × Int × Int × Int)} {C : CM} {N : NM} {j : Int} (t : TreeR (RA l l.length) j C N) : C.length = l.length := by
  have := all_len (l := l) t.cnd t.hand
  rw [List.length_map] at this; exact this
theorem met_self {l : List (Int × Int × Int × Int)} {w : List (Int × Int)} {i : Int} (h0 : 0 ≤ i) (h1 : i < (l.length : Nat)) (hb : okP (l.getD i.toNat (0, 0, 0, 0))) (hw : (∀ h, h ∈ w ↔ ∃ b, RA l l.length h b ∧ meetR b (l.getD i.toNat (0, 0, 0, 0)) = true) ∧ w.Nodup ∧ w.length ≤ 1000) : (i, 1) ∈ w :=
  (hw.1 _).2 ⟨_, ⟨rfl, h0, h1, rfl⟩, meet_self (ok_right hb)⟩
/-- Those from a number on. -/
def RD (l : List (Int × Int × Int × Int)) (k : Int) : BRel := fun h c => h.2 = 1 ∧ k ≤ h.1 ∧ h.1 < (l.length : Nat) ∧ c = l.getD h.1.toNat dB
theorem RD_0 {l : List (Int × Int × Int × Int)} (h : Int × Int) (c : Bx) : RA l l.length h c ↔ RD l 0 h c := Iff.rfl
theorem RD_next {l : List (Int × Int × Int × Int)} {k : Int} (h : Int × Int) (c : Bx) : CutR (RD l k) (k, 1) h c ↔ RD l (k + 1) h c := by
  obtain ⟨a, b⟩ := h
  unfold CutR RD
  simp only [ne_eq, Prod.mk.injEq]
  constructor
  · rintro ⟨h1, h2, h3, h4, h5⟩
    exact ⟨h2, by have : a ≠ k := fun e => h1 ⟨e, h2⟩; omega, h4, h5⟩
  · rintro ⟨h2, h3, h4, h5⟩
    exact ⟨fun e => by omega, h2, by omega, h4, h5⟩
theorem RD_has {l : List (Int × Int × Int × Int)} {k : Int} (h : k < (l.length : Nat)) : RD l k (k, 1) (l.getD k.toNat dB) := ⟨rfl, Int.le_refl _, h, rfl⟩
theorem RD_end {l : List (Int × Int × Int × Int)} {k : Int} (hk : ¬ k < (l.length : Nat)) (h : Int × Int) (c : Bx) : ¬ RD l k h c := fun q => by have := q.2.1; have := q.2.2.1; omega
set_option maxHeartbeats 2000000 in
theorem all_z (E : Nat → Addr) (l : List (Int × Int × Int × Int)) (n k : Nat) (h : n = l.length) : DoesC (Gm E) 9 (Sp0 [.sl 0 n k] [(0, .ro (Int × Int × Int × Int) (Zz.encP Zz.encI (Zz.encP Zz.encI (Zz.encP Zz.encI Zz.encI))) l k)] 1 .tt) := by
  subst h
  refine fn_calls (gmOk E) 98 1 [] Tryd.func9 rfl rfl rfl rfl rfl ?_
  repeat' first | (change CallGoal _ _ _ _ _ _; first | (change CallGoal _ 35 _ _ _ _; first | (refine call0 (qalive_z E) [] rfl True.intro rfl ?_)) | (change CallGoal _ 36 _ _ _ _; first | (refine call_rule (new_z E) [] rfl True.intro rfl (fun y0 hy0 => ?_))) | (change CallGoal _ 37 _ _ _ _; first | (refine call_rule (put_t E hI.2.2.2 (by omega) (x.1, 1) hs) [1, 2, 3] rfl (And.intro rfl (And.intro rfl (And.intro rfl True.intro))) rfl (fun y1 hy1 => ?_)) | (refine call_rule (put_form E x.2.2 x.2.1 (x.1, 1) (l.getD x.1.toNat (0, 0, 0, 0)) hr) [1, 2, 3] rfl (And.intro rfl (And.intro rfl (And.intro rfl True.intro))) rfl (fun y2 hy2 => ?_)) | (refine call_rule (put_range E x.2.2 x.2.1 (x.1, 1) (l.getD x.1.toNat (0, 0, 0, 0)) ⟨hr, bad_world hs hr⟩) [1, 2, 3] rfl (And.intro rfl (And.intro rfl (And.intro rfl True.intro))) rfl (fun y3 hy3 => ?_)) | ((fail_if_success (have _ := hs)); refine Or.elim (Classical.em (okP (l.getD x.1.toNat (0, 0, 0, 0)))) (fun hs => ?_) (fun hs => ?_)) | ((fail_if_success (have _ := hr)); refine Or.elim (Classical.em (rightP (l.getD x.1.toNat (0, 0, 0, 0)))) (fun hr => ?_) (fun hr => ?_))) | (change CallGoal _ 41 _ _ _ _; first | (refine call_rule (meeting_t E (hI.2.2.2.ext (j := 200) (by omega) (RA_end hI.2.1 ‹¬ x.1 < _›)) (by omega) big_right) [1, 2, 3] rfl (And.intro rfl (And.intro rfl (And.intro rfl True.intro))) rfl (fun (w : List (Int × Int) × Nat) hw => ?_)) | (refine call_rule (meeting_t E (hI.2.2.2.ext (j := 200) (by omega) (RA_end hI.2.1 ‹¬ x.1 < _›)) (by omega) (ok_right (hI.2.2.1.at ‹¬ x.1 < _› hZ.1 ‹z < _›))) [1, 2, 3] rfl (And.intro rfl (And.intro rfl (And.intro rfl True.intro))) rfl (fun (u : List (Int × Int) × Nat) hu => ?_))) | (change CallGoal _ 42 _ _ _ _; first | (refine call0 (tlen_z E x.2.1 (hI.2.2.2.clen (by omega))) [1, 2, 3] rfl (And.intro rfl (And.intro rfl True.intro)) rfl ?_) | (refine call0 (tlen_z E z2.2.1 (hK.2.2.clen (by omega))) [1, 2, 3] rfl (And.intro rfl (And.intro rfl True.intro)) rfl ?_)) | (change CallGoal _ 43 _ _ _ _; first | (refine call0 (has_h E u.1 _ _ (z, 1) ⟨rfl, by have q := hu.2.2; omega⟩) [38] rfl (And.intro rfl True.intro) rfl ?_)) | (change CallGoal _ 44 _ _ _ _; first | (refine call_rule (drop_t E hK.2.2 (by omega) (z2.1, 1) (RD_has ‹z2.1 < _›)) [1, 2, 3] rfl (And.intro rfl (And.intro rfl (And.intro rfl True.intro))) rfl (fun y4 hy4 => ?_))) | (change CallGoal _ 38 _ _ _ _; first | (refine call_rule (nodes_z E (z2.2.2.map fun y : (Int × Int × Int) × NV => (y.1, some (p1 y.1))) z2.2.1 (hK.2.2.nlen (by omega) p1)) [1, 2, 3] rfl (And.intro rfl (And.intro rfl (And.intro rfl True.intro))) rfl (fun (q1 : Nat) hq1 => ?_)) | (refine call_split veP rfl 2 _ rfl (fun p1 => ?_)))) | (intro h; first | (exfalso; omega; done) | (exfalso; first | exact h trivial | exact h rfl | exact h (congrArg (fun q : Nat => (q : Int)) (met_big (hI.2.2.2.ext (j := 200) (by omega) (RA_end hI.2.1 ‹¬ x.1 < _›)) hw)) | exact h (congrArg (fun q : Nat => (q : Int)) (cs_len (hI.2.2.2.ext (j := 200) (by omega) (RA_end hI.2.1 ‹¬ x.1 < _›)))) | exact h (fun n => n (congrArg (fun q : Nat => (q : Int)) (met_big (hI.2.2.2.ext (j := 200) (by omega) (RA_end hI.2.1 ‹¬ x.1 < _›)) hw))) | exact h (congrArg (fun q : Nat => (q : Int)) ((hK.2.2.bare (RD_end ‹¬ z2.1 < _›) p1)).1) | exact same_no h (met_self hZ.1 (by assumption) (hI.2.2.1.at ‹¬ x.1 < _› hZ.1 ‹z < _›) hu); done) | skip) | (refine And.intro ?_ ?_) | exact True.intro | (refine @Exists.intro Unit _ () ?_) | (refine @Exists.intro (_ = _) _ rfl ?_) | (change LoopGoal _ _ _ _ _ _; refine loop_at 7 (gmOk E) rfl [] (X := (Int × CM × NM)) (fun x => [(21, .int .i64 x.1)]) (fun x => [(2, .pr (mObj (Enc.ag (Zz.encP Zz.encI (Zz.encP Zz.encI Zz.encI))) (fun v => grp (Gm E) (ndT v)) x.2.2)), (3, .pr (mapPr (Enc.ag (Zz.encP Zz.encI Zz.encI)) (Enc.ag (Zz.encP Zz.encI (Zz.encP Zz.encI Zz.encI))) x.2.1))]) [] (fun x => 0 ≤ x.1 ∧ x.1 ≤ (l.length : Nat) ∧ AllR l x.1 ∧ TreeR (RA l x.1) x.1 x.2.1 x.2.2) (fun x => l.length - x.1.toNat) ⟨(0, [], [((0, 0, 0), ([], 0))]), ?_⟩ (fun x hI => ?_)) | (change @Exists ((Int × CM × NM)) (fun _ => updK _ _ _ _ _ _); refine @Exists.intro ((Int × CM × NM)) _ ((?_, ?_, ?_)) ?_; rotate_left 3) | (change LoopGoal _ _ _ _ _ _; refine loop_at 16 (gmOk E) rfl [] (X := Int) (fun z => [(57, .int .i64 z)]) (fun z => []) [] (fun z => 0 ≤ z ∧ z ≤ (l.length : Nat)) (fun z => l.length - z.toNat) ⟨0, ?_⟩ (fun z hZ => ?_)) | (change @Exists (Int) (fun _ => updK _ _ _ _ _ _); refine @Exists.intro (Int) _ ((?_)) ?_; rotate_left 1) | (change LoopGoal _ _ _ _ _ _; refine loop_at 23 (gmOk E) rfl [] (X := (Int × CM × NM)) (fun z2 => [(80, .int .i64 z2.1)]) (fun z2 => [(2, .pr (mObj (Enc.ag (Zz.encP Zz.encI (Zz.encP Zz.encI Zz.encI))) (fun v => grp (Gm E) (ndT v)) z2.2.2)), (3, .pr (mapPr (Enc.ag (Zz.encP Zz.encI Zz.encI)) (Enc.ag (Zz.encP Zz.encI (Zz.encP Zz.encI Zz.encI))) z2.2.1))]) [] (fun z2 => 0 ≤ z2.1 ∧ z2.1 ≤ (l.length : Nat) ∧ TreeR (RD l z2.1) 200 z2.2.1 z2.2.2) (fun z2 => l.length - z2.1.toNat) ⟨(0, x.2.1, x.2.2), ?_⟩ (fun z2 hK => ?_)) | (change @Exists ((Int × CM × NM)) (fun _ => updK _ _ _ _ _ _); refine @Exists.intro ((Int × CM × NM)) _ ((?_, ?_, ?_)) ?_; rotate_left 3)
  all_goals first
| (dsimp only; first | rfl | omega)
| rfl
| omega
| exact TreeR.start RA_none
| exact AllR.nil _
| exact hI.2.2.1.next hs
| exact hy1.ext (Int.le_refl _) (RA_next hI.1)
| exact (hI.2.2.2.ext (j := 200) (by omega) (RA_end hI.2.1 ‹¬ x.1 < _›)).ext (Int.le_refl _) RD_0
| exact hy4.ext (Int.le_refl _) RD_next
| exact (decide_eq_true ⟨congrArg (fun q : Nat => (q : Int)) ((hK.2.2.bare (RD_end ‹¬ z2.1 < _›) p1)).1, congrArg (fun q : Nat => (q : Int)) ((hK.2.2.bare (RD_end ‹¬ z2.1 < _›) p1)).2⟩).symm
| exact decide_eq_true ⟨congrArg (fun q : Nat => (q : Int)) ((hK.2.2.bare (RD_end ‹¬ z2.1 < _›) p1)).1, congrArg (fun q : Nat => (q : Int)) ((hK.2.2.bare (RD_end ‹¬ z2.1 < _›) p1)).2⟩
| exact congrArg (fun q : Nat => (q : Int)) ((hK.2.2.bare (RD_end ‹¬ z2.1 < _›) p1)).1
| exact congrArg (fun q : Nat => (q : Int)) ((hK.2.2.bare (RD_end ‹¬ z2.1 < _›) p1)).2

theorem box_dec (cs : List Value) (h : OkCs [some .i64, some .i64, some .i64, some .i64] cs) : ∃ x, cs = (Zz.encP Zz.encI (Zz.encP Zz.encI (Zz.encP Zz.encI Zz.encI))).val x ∧ True := by
  obtain ⟨_, _, rfl, ⟨x, rfl, _⟩, h1⟩ := h.cons
  obtain ⟨_, _, rfl, ⟨y, rfl, _⟩, h2⟩ := h1.cons
  obtain ⟨_, _, rfl, ⟨z, rfl, _⟩, h3⟩ := h2.cons
  obtain ⟨_, _, rfl, ⟨u, rfl, _⟩, h4⟩ := h3.cons
  obtain rfl := h4.nil
  exact ⟨(x, y, z, u), rfl, trivial⟩
theorem quadAll_any (E : Nat → Addr) (av : Option Addr) (l : List (Int × Int × Int × Int)) (c : Nat) (W : World) (hG : Errs [1, 3, 0] W 227 E) (hav : Arr W 4 av l.length c (flat (Zz.encP Zz.encI (Zz.encP Zz.encI (Zz.encP Zz.encI Zz.encI))).val l)) :
    Calls Tryd.prog 9 #[.slice av l.length c] W (Ret fun v w' => v = .bool true ∧ Keep Nn W w') :=
  (all_z E l l.length c rfl).law (fun _ => av) hG rfl (fun c α e l' k' hm => by cases List.mem_singleton.1 hm; exact ⟨hav, by decide⟩) (fun _ => rfl) (by simp [SV.denL, SV.den, Sp0])
end Go.Proofs.YtpojafdllcioiaaDoor
