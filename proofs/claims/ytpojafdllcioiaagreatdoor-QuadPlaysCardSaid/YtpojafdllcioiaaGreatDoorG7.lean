/- A part of the proof: texts put together. -/
import Derived.Test.YtpojafdllcioiaaGreatDoorG6
import Derived.Test.YtpojafdllcioiaaGreatDoorG5
import Derived.Test.YtpojafdllcioiaaGreatDoorSh
import Derived.Test.YtpojafdllcioiaaGreatDoorG2
set_option linter.unusedSectionVars false
set_option linter.unusedSimpArgs false
set_option linter.unusedVariables false
namespace Go.Proofs.YtpojafdllcioiaaGreatDoor
open Go.Zz Go.Px
open Go.Qd (okC okC_iff upC cellB okB okC_cell chain cnt1 cntL)
set_option linter.unusedVariables false
set_option linter.unusedSectionVars false
set_option linter.unusedSimpArgs false
set_option maxRecDepth 10000
/-- Pointers, of which nothing more is asked. -/
def veP : VE (Option Nat) where
  sv x := .raw (pV x)
  val x := pV x
  of _ := none
  den Δ ρ x := by simp only [SV.den]
  bd x := by simp only [SV.bd]
  of_ok h := by cases h
theorem mapV : MapTy Tryz.prog 62 55 58 (Enc.ag (Zz.encP Zz.encI (Zz.encP Zz.encI Zz.encI))) veP none := ⟨Tryz.underlying62, keyC, by kernel_rfl⟩
set_option maxHeartbeats 4000000 in
theorem keysCIt_vc (E : Nat → Addr) (L : List ((Int × Int × Int) × Option Nat)) : KeysVc (Ge E) 55 76 4 "iter.go:27" "iter.go:28" (Enc.ag (Zz.encP Zz.encI (Zz.encP Zz.encI Zz.encI))) veP L := by
  intro y ga left cur
  repeat' first | (intro h; first | (exfalso; omega; done) | skip) | (refine And.intro ?_ ?_) | exact True.intro | (change OpGoal _ _ _ _ (.next _ _) _; refine next_rule L 1 0 rfl rfl rfl rfl ?_ ?_) | (change OpGoal _ _ _ _ (.entry _) _; refine entry_rule 1 rfl rfl ?_) | (exact ⟨_, _, _, ‹List.Perm _ _›, rfl, rfl, rfl, rfl, rfl, ‹_ ∈ L›⟩) | fail
  all_goals first | rfl | assumption
theorem keysC_gives (E : Nat → Addr) (L : List ((Int × Int × Int) × Option Nat)) (A : Addr) (gb : Nat) (W0 : World) (hA : W0.cell? A = some (.map (some gb))) (hm : MapAt W0 gb (Enc.ag (Zz.encP Zz.encI (Zz.encP Zz.encI Zz.encI))).val veP.val L) : GivesKeys Tryz.prog 68 A gb (Enc.ag (Zz.encP Zz.encI (Zz.encP Zz.encI Zz.encI))).val veP.val L W0 :=
  keys_gives (geOk E) rfl 62 55 76 4 "iter.go:27" "iter.go:28" Tryz.func68 rfl rfl rfl mapV rfl rfl (keysCIt_vc E L) A gb W0 hA hm
set_option maxHeartbeats 4000000 in
theorem keysHIt_vc (E : Nat → Addr) (L : List ((Int × Int) × Int × Int × Int)) : KeysVc (Ge E) 28 136 4 "iter.go:27" "iter.go:28" (Enc.ag (Zz.encP Zz.encI Zz.encI)) (Enc.ag (Zz.encP Zz.encI (Zz.encP Zz.encI Zz.encI))) L := by
  intro y ga left cur
  repeat' first | (intro h; first | (exfalso; omega; done) | skip) | (refine And.intro ?_ ?_) | exact True.intro | (change OpGoal _ _ _ _ (.next _ _) _; refine next_rule L 1 0 rfl rfl rfl rfl ?_ ?_) | (change OpGoal _ _ _ _ (.entry _) _; refine entry_rule 1 rfl rfl ?_) | (exact ⟨_, _, _, ‹List.Perm _ _›, rfl, rfl, rfl, rfl, rfl, ‹_ ∈ L›⟩) | fail
  all_goals first | rfl | assumption
theorem keysH_gives (E : Nat → Addr) (L : List ((Int × Int) × Int × Int × Int)) (A : Addr) (gb : Nat) (W0 : World) (hA : W0.cell? A = some (.map (some gb))) (hm : MapAt W0 gb (Enc.ag (Zz.encP Zz.encI Zz.encI)).val (Enc.ag (Zz.encP Zz.encI (Zz.encP Zz.encI Zz.encI))).val L) : GivesKeys Tryz.prog 71 A gb (Enc.ag (Zz.encP Zz.encI Zz.encI)).val (Enc.ag (Zz.encP Zz.encI (Zz.encP Zz.encI Zz.encI))).val L W0 :=
  keys_gives (geOk E) rfl 63 28 136 4 "iter.go:27" "iter.go:28" Tryz.func71 rfl rfl rfl mapC rfl rfl (keysHIt_vc E L) A gb W0 hA hm
set_option maxHeartbeats 4000000 in
theorem appC_z (E : Nat → Addr) (L : List ((Int × Int × Int) × Option Nat)) (h : L.length ≤ 1000000000) : Does (Gm E) 74 ⟨[.nils, .fn 68 [.ptr 0 0]], [(0, .cells 62 [.mp 1]), (1, .pr (mapPr (Enc.ag (Zz.encP Zz.encI (Zz.encP Zz.encI Zz.encI))) veP L))], 2, 3, List (Int × Int × Int) × Nat, fun x => x.1.Perm (L.map (·.1)) ∧ x.1.length ≤ x.2, fun x => .sl 2 x.1.length x.2, fun x => [(0, .cells 62 [.mp 1]), (1, .pr (mapPr (Enc.ag (Zz.encP Zz.encI (Zz.encP Zz.encI Zz.encI))) veP L)), (2, .arr (Int × Int × Int) (Zz.encP Zz.encI (Zz.encP Zz.encI Zz.encI)) 55 x.1 x.2)]⟩ := by
  refine fn_range (gmOk E) 13 2 [] Tryz.func74 rfl rfl rfl rfl rfl ?_
  repeat' first | (intro h; first | (exfalso; omega; done) | skip) | (refine And.intro ?_ ?_) | exact True.intro | (refine @Exists.intro Unit _ () ?_) | (refine @Exists.intro (_ = _) _ rfl ?_) | (change RangeAt _ _ _ _ _ _ _ _ _; refine rangeAt_rule (gmOk E) rfl 68 0 1 62 (Enc.ag (Zz.encP Zz.encI (Zz.encP Zz.encI Zz.encI))) veP L rfl rfl rfl rfl rfl ⟨_, Tryz.func68, rfl, rfl⟩ (keysC_gives E L) rfl (X := List (Int × Int × Int) × Nat) (fun x => [(2, .cells 82 [.sl 3 x.1.length x.2]), (3, .arr (Int × Int × Int) (Zz.encP Zz.encI (Zz.encP Zz.encI Zz.encI)) 55 x.1 x.2)]) [] (fun x => x.1.length ≤ x.2) (fun x => x.1) (fun _ => rfl) (fun _ => rfl) (fun ga => ?_) (fun ga x k hI hk hn => ?_) (fun D x hI hp => ?_)) | (change @Exists (List (Int × Int × Int) × Nat) (fun _ => _ ∧ phK _ _ _ _ _); first | (refine ⟨([], 0), rfl, ?_⟩) | (refine ⟨(x.1 ++ [k], ?_), rfl, ?_⟩; rotate_left)) | (refine @Exists.intro (List (Int × Int × Int) × Nat) _ x ?_)
  all_goals first | (dsimp only; first | rfl | omega) | rfl | omega | exact Nat.le_refl _ | exact hp | exact hI | (simp; done) | (have hn : x.1.length < L.length := hn; omega) | (have hn := hp.length_eq; rw [List.length_map] at hn; omega) | (rw [List.length_append]; assumption) | (refine congrArg (fun q => Ch.arr _ _ _ q _) ?_; dsimp only; rw [List.take_length]; rfl)
set_option maxHeartbeats 4000000 in
theorem appH_z (E : Nat → Addr) (L : List ((Int × Int) × Int × Int × Int)) (h : L.length ≤ 1000000000) : Does (Gm E) 70 ⟨[.nils, .fn 71 [.ptr 0 0]], [(0, .cells 63 [.mp 1]), (1, .pr (mapPr (Enc.ag (Zz.encP Zz.encI Zz.encI)) (Enc.ag (Zz.encP Zz.encI (Zz.encP Zz.encI Zz.encI))) L))], 2, 3, List (Int × Int) × Nat, fun x => x.1.Perm (L.map (·.1)) ∧ x.1.length ≤ x.2, fun x => .sl 2 x.1.length x.2, fun x => [(0, .cells 63 [.mp 1]), (1, .pr (mapPr (Enc.ag (Zz.encP Zz.encI Zz.encI)) (Enc.ag (Zz.encP Zz.encI (Zz.encP Zz.encI Zz.encI))) L)), (2, .arr (Int × Int) (Zz.encP Zz.encI Zz.encI) 28 x.1 x.2)]⟩ := by
  refine fn_range (gmOk E) 13 2 [] Tryz.func70 rfl rfl rfl rfl rfl ?_
  repeat' first | (intro h; first | (exfalso; omega; done) | skip) | (refine And.intro ?_ ?_) | exact True.intro | (refine @Exists.intro Unit _ () ?_) | (refine @Exists.intro (_ = _) _ rfl ?_) | (change RangeAt _ _ _ _ _ _ _ _ _; refine rangeAt_rule (gmOk E) rfl 71 0 1 63 (Enc.ag (Zz.encP Zz.encI Zz.encI)) (Enc.ag (Zz.encP Zz.encI (Zz.encP Zz.encI Zz.encI))) L rfl rfl rfl rfl rfl ⟨_, Tryz.func71, rfl, rfl⟩ (keysH_gives E L) rfl (X := List (Int × Int) × Nat) (fun x => [(2, .cells 47 [.sl 3 x.1.length x.2]), (3, .arr (Int × Int) (Zz.encP Zz.encI Zz.encI) 28 x.1 x.2)]) [] (fun x => x.1.length ≤ x.2) (fun x => x.1) (fun _ => rfl) (fun _ => rfl) (fun ga => ?_) (fun ga x k hI hk hn => ?_) (fun D x hI hp => ?_)) | (change @Exists (List (Int × Int) × Nat) (fun _ => _ ∧ phK _ _ _ _ _); first | (refine ⟨([], 0), rfl, ?_⟩) | (refine ⟨(x.1 ++ [k], ?_), rfl, ?_⟩; rotate_left)) | (refine @Exists.intro (List (Int × Int) × Nat) _ x ?_)
  all_goals first | (dsimp only; first | rfl | omega) | rfl | omega | exact Nat.le_refl _ | exact hp | exact hI | (simp; done) | (have hn : x.1.length < L.length := hn; omega) | (have hn := hp.length_eq; rw [List.length_map] at hn; omega) | (rw [List.length_append]; assumption) | (refine congrArg (fun q => Ch.arr _ _ _ q _) ?_; dsimp only; rw [List.take_length]; rfl)
set_option maxHeartbeats 1000000 in
theorem collC_z (E : Nat → Addr) (L : List ((Int × Int × Int) × Option Nat)) (h : L.length ≤ 1000000000) : Does (Gm E) 66 ⟨[.fn 68 [.ptr 0 0]], [(0, .cells 62 [.mp 1]), (1, .pr (mapPr (Enc.ag (Zz.encP Zz.encI (Zz.encP Zz.encI Zz.encI))) veP L))], 2, 3, List (Int × Int × Int) × Nat, fun x => x.1.Perm (L.map (·.1)) ∧ x.1.length ≤ x.2, fun x => .sl 2 x.1.length x.2, fun x => [(0, .cells 62 [.mp 1]), (1, .pr (mapPr (Enc.ag (Zz.encP Zz.encI (Zz.encP Zz.encI Zz.encI))) veP L)), (2, .arr (Int × Int × Int) (Zz.encP Zz.encI (Zz.encP Zz.encI Zz.encI)) 55 x.1 x.2)]⟩ := by
  refine fn_intro (gmOk E) 5 2 [] Tryz.func66 rfl rfl rfl rfl rfl ?_
  repeat' first | (intro h; first | (exfalso; omega; done) | skip) | (refine And.intro ?_ ?_) | exact True.intro | (refine @Exists.intro Unit _ () ?_) | (refine @Exists.intro (_ = _) _ rfl ?_) | (refine @Exists.intro (List (Int × Int × Int) × Nat) _ x ?_) | (change CallGoal _ _ _ _ _ _; first | (refine call_rule (appC_z E L h) [0, 1] rfl (And.intro rfl (And.intro rfl True.intro)) rfl (fun (x : List (Int × Int × Int) × Nat) (hx : x.1.Perm (L.map (·.1)) ∧ x.1.length ≤ x.2) => ?_)))
  all_goals first
| (dsimp only; first | rfl | omega)
| rfl
| omega
| assumption
| exact hx
| exact hx.1
| exact hx.2
| (have e := hx.1.length_eq; rw [List.length_map] at e; omega)

set_option maxHeartbeats 1000000 in
theorem collH_z (E : Nat → Addr) (L : List ((Int × Int) × Int × Int × Int)) (h : L.length ≤ 1000000000) : Does (Gm E) 58 ⟨[.fn 71 [.ptr 0 0]], [(0, .cells 63 [.mp 1]), (1, .pr (mapPr (Enc.ag (Zz.encP Zz.encI Zz.encI)) (Enc.ag (Zz.encP Zz.encI (Zz.encP Zz.encI Zz.encI))) L))], 2, 3, List (Int × Int) × Nat, fun x => x.1.Perm (L.map (·.1)) ∧ x.1.length ≤ x.2, fun x => .sl 2 x.1.length x.2, fun x => [(0, .cells 63 [.mp 1]), (1, .pr (mapPr (Enc.ag (Zz.encP Zz.encI Zz.encI)) (Enc.ag (Zz.encP Zz.encI (Zz.encP Zz.encI Zz.encI))) L)), (2, .arr (Int × Int) (Zz.encP Zz.encI Zz.encI) 28 x.1 x.2)]⟩ := by
  refine fn_intro (gmOk E) 5 2 [] Tryz.func58 rfl rfl rfl rfl rfl ?_
  repeat' first | (intro h; first | (exfalso; omega; done) | skip) | (refine And.intro ?_ ?_) | exact True.intro | (refine @Exists.intro Unit _ () ?_) | (refine @Exists.intro (_ = _) _ rfl ?_) | (refine @Exists.intro (List (Int × Int) × Nat) _ x ?_) | (change CallGoal _ _ _ _ _ _; first | (refine call_rule (appH_z E L h) [0, 1] rfl (And.intro rfl (And.intro rfl True.intro)) rfl (fun (x : List (Int × Int) × Nat) (hx : x.1.Perm (L.map (·.1)) ∧ x.1.length ≤ x.2) => ?_)))
  all_goals first
| (dsimp only; first | rfl | omega)
| rfl
| omega
| assumption
| exact hx
| exact hx.1
| exact hx.2
| (have e := hx.1.length_eq; rw [List.length_map] at e; omega)

def ltC (a b : Int × Int × Int) : Bool := decide (a.1 < b.1 ∨ a.1 = b.1 ∧ (a.2.2 < b.2.2 ∨ a.2.2 = b.2.2 ∧ a.2.1 < b.2.1))
def cmpC (a b : Int × Int × Int) : Int := if cmpI a.1 b.1 = 0 then (if cmpI a.2.2 b.2.2 = 0 then cmpI a.2.1 b.2.1 else cmpI a.2.2 b.2.2) else cmpI a.1 b.1
theorem ordC : Ord ltC := by
  refine ⟨fun x => by simp [ltC], fun x y z h1 h2 => ?_, fun x y => ?_⟩
  · simp only [ltC, decide_eq_true_eq] at *; omega
  · obtain ⟨a, b, c⟩ := x; obtain ⟨a', b', c'⟩ := y
    simp only [ltC, decide_eq_true_eq, Prod.mk.injEq]; omega
theorem cmpC_neg (a b : Int × Int × Int) : cmpC a b < 0 ↔ ltC a b = true := by
  have h1 := cmpI_neg a.1 b.1; have h2 := cmpI_zero a.1 b.1; have h3 := cmpI_neg a.2.2 b.2.2; have h4 := cmpI_zero a.2.2 b.2.2; have h5 := cmpI_neg a.2.1 b.2.1
  unfold cmpC
  simp only [ltC, decide_eq_true_eq]
  split
  · split <;> omega
  · omega
/-- In order, each once. -/
theorem sorted_ordS {α : Type} {lt : α → α → Bool} (ho : Ord lt) [DecidableEq α] {l l' : List α} (hp : l'.Perm l) (hn : l.Nodup) (hs : l'.Pairwise fun x y => lt y x = false) : l' = ordS lt l := by
  have hn' := hp.nodup_iff.2 hn
  refine Rises.ext ho ?_ (ordS_rises ho l) fun x => by rw [mem_ordS, hp.mem_iff]
  refine (List.Pairwise.and hs hn').imp fun {x y} h => ?_
  rcases ho.tri x y with q | q | q
  · exact q
  · exact absurd q h.2
  · rw [h.1] at q; cases q
set_option maxHeartbeats 4000000 in
theorem or3_e (E : Nat → Addr) (a b c : Int) : DoesC (Ge E) 56 (Sp0 [.sl 0 3 3] [(0, .ro Int Zz.encI [a, b, c] 3)] 1 (.int .i64 (if a = 0 then (if b = 0 then c else b) else a))) := by
  refine fn_calls (geOk E) 18 1 [] Tryz.func56 rfl rfl rfl rfl rfl ?_
  repeat' first | (intro h; first | (exfalso; omega; done) | skip) | (refine And.intro ?_ ?_) | exact True.intro | (refine @Exists.intro Unit _ () ?_) | (refine @Exists.intro (_ = _) _ rfl ?_) | (change LoopGoal _ _ _ _ _ _; refine loop_rounds (geOk E) [] 4 ?_)
  all_goals first | rfl | omega | (simp; done) | (simp_all; done)

set_option maxHeartbeats 4000000 in
theorem cmpC_e (E : Nat → Addr) (a b : Int × Int × Int) : DoesC (Ge E) 55 (Sp0 [.agg [.int .i64 a.1, .int .i64 a.2.1, .int .i64 a.2.2], .agg [.int .i64 b.1, .int .i64 b.2.1, .int .i64 b.2.2]] [] 0 (.int .i64 (cmpC a b))) := by
  refine fn_calls (geOk E) 22 0 [] Tryz.func55 rfl rfl rfl rfl rfl ?_
  repeat' first | (intro h; first | (exfalso; omega; done) | skip) | (refine And.intro ?_ ?_) | exact True.intro | (refine @Exists.intro Unit _ () ?_) | (refine @Exists.intro (_ = _) _ rfl ?_) | (change DrawGoal _ _ _ _ _ _; first | (change DrawGoal _ _ _ ({ dst := some 5, op := _, type := _, pos := _, after := _, guard := _ } :: _) _ _; refine draw_tree (geOk E) [0, 1] (.leaf [(0, true), (1, true), (2, true), (3, true), (5, true), (6, true), (7, true), (8, true), (10, true), (11, true), (12, true), (13, true), (4, false), (9, false), (14, false), (15, false), (16, false), (17, true)]) (by kernel_rfl) ?_)) | (change CallGoal _ _ _ _ _ _; first | (refine call0 (cmp_e E _ _).does [] rfl True.intro rfl ?_) | (refine call0 (or3_e E _ _ _).does [2] rfl (And.intro rfl True.intro) rfl ?_))
  all_goals first | omega | rfl

theorem sortC_z (E : Nat → Addr) (l : List (Int × Int × Int)) (n k : Nat) (h : n = l.length ∧ l.length ≤ 1099511627776) : Does (Gm E) 67 ⟨[.sl 0 n k, .fn 55 []], [(0, .arr (Int × Int × Int) (Zz.encP Zz.encI (Zz.encP Zz.encI Zz.encI)) 55 l k)], 1, 1, List (Int × Int × Int), fun l' => l'.Perm l ∧ l'.Pairwise fun x y => ltC y x = false, fun _ => .tup [], fun l' => [(0, .arr (Int × Int × Int) (Zz.encP Zz.encI (Zz.encP Zz.encI Zz.encI)) 55 l' k)]⟩ := by
  obtain ⟨rfl, h⟩ := h
  exact sort_does (Γ := Gm E) (en := Zz.encP Zz.encI (Zz.encP Zz.encI Zz.encI)) (lt := ltC) (cf := cmpC) (g := 55) (f := 67) Tryz.sortC (fun w => ((gmOk E).tb 55 _ rfl).isAgg w) (fun w => ((gmOk E).tb 55 _ rfl).size w) ordC cmpC_neg (fun x y => cmpC_e E x y) rfl ⟨_, Tryz.func67, rfl, rfl⟩ l k 55 (by omega)
theorem sortH_z (E : Nat → Addr) (l : List (Int × Int)) (n k : Nat) (h : n = l.length ∧ l.length ≤ 1099511627776) : Does (Gm E) 63 ⟨[.sl 0 n k, .fn 51 []], [(0, .arr (Int × Int) (Zz.encP Zz.encI Zz.encI) 28 l k)], 1, 1, List (Int × Int), fun l' => l'.Perm l ∧ l'.Pairwise fun x y => ltH y x = false, fun _ => .tup [], fun l' => [(0, .arr (Int × Int) (Zz.encP Zz.encI Zz.encI) 28 l' k)]⟩ := by
  obtain ⟨rfl, h⟩ := h
  exact sort_does (Γ := Gm E) (en := Zz.encP Zz.encI Zz.encI) (lt := ltH) (cf := cmpH) (g := 51) (f := 63) Tryz.sortH (fun w => ((gmOk E).tb 28 _ rfl).isAgg w) (fun w => ((gmOk E).tb 28 _ rfl).size w) ordH cmpH_neg (fun x y => cmpH_e E x y) rfl ⟨_, Tryz.func63, rfl, rfl⟩ l k 28 (by omega)
end Go.Proofs.YtpojafdllcioiaaGreatDoor

namespace Go.Proofs.YtpojafdllcioiaaGreatDoor
open Go.Zz Go.Px
open Go.Qd (okC okC_iff upC cellB okB okC_cell chain cnt1 cntL)
set_option linter.unusedVariables false
set_option linter.unusedSectionVars false
set_option linter.unusedSimpArgs false
set_option maxRecDepth 10000
theorem pt_eq {a b : Int × Int} : a = b ↔ a.1 = b.1 ∧ a.2 = b.2 := Prod.ext_iff
theorem pt_eq' {a b : Int × Int} : (a.1 = b.1 ∧ a.2 = b.2) ↔ a = b := pt_eq.symm
set_option maxHeartbeats 4000000 in
theorem cloneH_z (E : Nat → Addr) (l : List (Int × Int)) (n k : Nat) (h : n = l.length ∧ l.length ≤ 1099511627776) : Does (Gm E) 62 ⟨[.sl 0 n k], [(0, .arr (Int × Int) (Zz.encP Zz.encI Zz.encI) 28 l k)], 1, 2, Nat, fun k' => l.length ≤ k', fun k' => .sl 1 l.length k', fun k' => [(0, .arr (Int × Int) (Zz.encP Zz.encI Zz.encI) 28 l k), (1, .arr (Int × Int) (Zz.encP Zz.encI Zz.encI) 28 l k')]⟩ := by
  obtain ⟨rfl, h⟩ := h
  refine fn_intro (gmOk E) 8 1 [] Tryz.func62 rfl rfl rfl rfl rfl ?_
  repeat' first | (intro h; first | (exfalso; omega; done) | skip) | (refine And.intro ?_ ?_) | exact True.intro | (refine @Exists.intro Unit _ () ?_) | (refine @Exists.intro (_ = _) _ rfl ?_) | (refine @Exists.intro (Nat) _ ?_ ?_; rotate_left)
  all_goals first | rfl | omega | (simp_all; done) | (dsimp only; omega) | (change _ ≤ _; first | omega | (simp_all; done))

set_option maxHeartbeats 4000000 in
theorem compactH_z (E : Nat → Addr) (l : List (Int × Int)) (n k : Nat) (h : n = l.length ∧ l.length ≤ 1099511627776 ∧ l.length ≤ k) : Does (Gm E) 64 ⟨[.sl 0 n k], [(0, .arr (Int × Int) (Zz.encP Zz.encI Zz.encI) 28 l k)], 1, 1, Unit, fun _ => True, fun _ => .sl 0 (comp l).length k, fun _ => [(0, .arr (Int × Int) (Zz.encP Zz.encI Zz.encI) 28 (comp l ++ List.replicate (l.length - (comp l).length) (0, 0)) k)]⟩ := by
  obtain ⟨rfl, h⟩ := h
  refine fn_intro (gmOk E) 61 1 [] Tryz.func64 rfl rfl rfl rfl rfl ?_
  repeat' first | (intro h; first | (exfalso; omega; done) | skip) | (refine And.intro ?_ ?_) | exact True.intro | (refine @Exists.intro Unit _ () ?_) | (refine @Exists.intro (_ = _) _ rfl ?_) | (change OpGoal _ _ _ _ (.call { callee := .builtin .clear, args := _, argTypes := _ }) _; refine clear_rule (gmOk E) 0 _ _ _ _ _ _ rfl rfl rfl rfl rfl rfl rfl ?_ ?_) | (change LoopGoal _ _ _ _ _ _; refine loop_at 4 (gmOk E) rfl [] (X := Nat) (fun i => [(3, .int .i64 (i : Int))]) (fun i => []) [] (fun i => 1 ≤ i ∧ i ≤ l.length ∧ comp (l.take i) = l.take i) (fun i => l.length - i) ⟨1, ?_⟩ (fun i hI => ?_)) | (change @Exists (Nat) (fun _ => updK _ _ _ _ _ _); refine @Exists.intro (Nat) _ (i + 1) ?_) | (change LoopGoal _ _ _ _ _ _; refine loop_at 9 (gmOk E) rfl [] (X := (Int × Int × List (Int × Int))) (fun x => [(3, .int .i64 x.1), (5, .int .i64 x.2.1)]) (fun x => [(0, .arr (Int × Int) (Zz.encP Zz.encI Zz.encI) 28 x.2.2 k)]) [] (fun x => 1 ≤ x.1 ∧ 1 ≤ x.2.1 ∧ Cmp l x.2.2 x.1.toNat (i + x.2.1.toNat)) (fun x => (l.length - x.2.1).toNat) ⟨((i : Int), 1, l), ?_⟩ (fun x hI => ?_)) | (change @Exists ((Int × Int × List (Int × Int))) (fun _ => updK _ _ _ _ _ _); refine @Exists.intro ((Int × Int × List (Int × Int))) _ ((?_, ?_, ?_)) ?_; rotate_left 3) | (change DrawGoal _ _ _ _ _ _; first | (change DrawGoal _ _ _ ({ dst := some 16, op := _, type := _, pos := _, after := _, guard := _ } :: _) _ _; refine draw_tree (gmOk E) [0] (.leaf [(0, true), (1, true), (2, true), (3, true), (4, true), (5, true), (6, true), (7, true), (8, true), (9, true)]) (by kernel_rfl) ?_) | (change DrawGoal _ _ _ ({ dst := some 35, op := _, type := _, pos := _, after := _, guard := _ } :: _) _ _; refine draw_tree (gmOk E) [0] (.leaf [(0, true), (1, true), (2, true), (3, true), (4, true), (5, true), (6, true), (7, true), (8, true), (9, true)]) (by kernel_rfl) ?_))
  all_goals first
    | (dsimp only; first | rfl | omega)
    | rfl
    | omega
    | (have c := hI.2.2; have c1 := c.len; have c2 := c.le; have c3 := c.jl; (try dsimp only); omega)
    | (rw [comp_one l (by omega)]; done)
    | (rw [comp_one l (by omega)]; simp; done)
    | exact comp_one _ (by rw [List.length_take]; omega)
    | exact Cmp.startI (d := (0, 0)) hI (by omega) (pt_eq'.1 h)
    | exact Cmp.keepI (d := (0, 0)) hI ‹x.2.1 < _› (fun e => h (pt_eq'.2 e))
    | exact Cmp.skipI (d := (0, 0)) hI ‹x.2.1 < _› (pt_eq'.1 (Classical.not_not.1 h))
    | exact Cmp.skipI (d := (0, 0)) hI ‹x.2.1 < _› (pt_eq'.1 h)
    | exact comp_goI (d := (0, 0)) hI ‹_› (fun e => h (pt_eq'.2 e))
    | (have c := hI.2.2; exact c.lenEq (by omega))
    | (have c := hI.2.2; have c1 := c.len; rw [← c.lenEq (by omega), c1]; have c2 := c.done (by omega) []; simp only [List.append_nil, List.take_take, Nat.min_self] at c2; rw [c2])
    | (rw [comp_all hI ‹_›]; done)
    | (rw [comp_all hI ‹_›]; simp; done)

theorem compactH_s (E : Nat → Addr) (l : List (Int × Int)) (n k : Nat) (h : n = l.length ∧ l.length ≤ 1099511627776 ∧ l.length ≤ k) : Does (Gm E) 64 ⟨[.sl 0 n k], [(0, .arr (Int × Int) (Zz.encP Zz.encI Zz.encI) 28 l k)], 1, 1, Unit, fun _ => True, fun _ => .sl 0 (comp l).length k, fun _ => [(0, .arr (Int × Int) (Zz.encP Zz.encI Zz.encI) 28 (comp l) k)]⟩ :=
  Does.post_mono _ (compactH_z E l n k h) fun x En V w _ h => h.shrink (c := 0) rfl
set_option maxHeartbeats 4000000 in
theorem sortedH_z (E : Nat → Addr) (l : List (Int × Int)) (n k : Nat) (h : n = l.length ∧ l.length ≤ 1099511627776) : Does (Gm E) 50 ⟨[.sl 0 n k, .fn 51 []], [(0, .arr (Int × Int) (Zz.encP Zz.encI Zz.encI) 28 l k)], 1, 2, Nat, fun q => (ordS ltH l).length ≤ q, fun q => .sl 1 (ordS ltH l).length q, fun q => [(0, .arr (Int × Int) (Zz.encP Zz.encI Zz.encI) 28 l k), (1, .arr (Int × Int) (Zz.encP Zz.encI Zz.encI) 28 (ordS ltH l) q)]⟩ := by
  obtain ⟨rfl, h⟩ := h
  refine fn_intro (gmOk E) 13 1 [] Tryz.func50 rfl rfl rfl rfl rfl ?_
  repeat' first | (intro h; first | (exfalso; omega; done) | skip) | (refine And.intro ?_ ?_) | exact True.intro | (refine @Exists.intro Unit _ () ?_) | (refine @Exists.intro (_ = _) _ rfl ?_) | (refine @Exists.intro (Nat) _ ?_ ?_; rotate_left) | (change CallGoal _ _ _ _ _ _; first | (refine call_rule (cloneH_z E l _ _ ?_) [0] rfl (And.intro rfl True.intro) rfl (fun (q : Nat) (hq : l.length ≤ q) => ?_)) | (refine call_rule (sortH_z E _ _ _ ?_) [1] rfl (And.intro rfl True.intro) rfl (fun (l' : List (Int × Int)) (hl : l'.Perm l ∧ l'.Pairwise fun x y => ltH y x = false) => ?_)) | (refine call_rule (compactH_s E _ _ _ ?_) [1] rfl (And.intro rfl True.intro) rfl (fun x hx => ?_)))
  all_goals first | rfl | omega | (have e := hl.1.length_eq; omega) | (change (ordS ltH l).length ≤ _; have e := ordS_len (lt := ltH) l; omega) | (rw [comp_ordS ordH hl.1 hl.2])

set_option maxHeartbeats 4000000 in
theorem handles_z (E : Nat → Addr) (l : List (Int × Int)) (n k : Nat) (h : n = l.length ∧ l.length ≤ 1099511627776) : Does (Gm E) 31 ⟨[.sl 0 n k], [(0, .arr (Int × Int) (Zz.encP Zz.encI Zz.encI) 28 l k)], 1, 2, Nat, fun q => (ordS ltH l).length ≤ q, fun q => .sl 1 (ordS ltH l).length q, fun q => [(0, .arr (Int × Int) (Zz.encP Zz.encI Zz.encI) 28 l k), (1, .arr (Int × Int) (Zz.encP Zz.encI Zz.encI) 28 (ordS ltH l) q)]⟩ := by
  refine fn_intro (gmOk E) 5 1 [] Tryz.func31 rfl rfl rfl rfl rfl ?_
  repeat' first | (intro h; first | (exfalso; omega; done) | skip) | (refine And.intro ?_ ?_) | exact True.intro | (refine @Exists.intro Unit _ () ?_) | (refine @Exists.intro (_ = _) _ rfl ?_) | (refine @Exists.intro (Nat) _ ?_ ?_; rotate_left) | (change CallGoal _ _ _ _ _ _; first | (refine call_rule (sortedH_z E l n k h) [0] rfl (And.intro rfl True.intro) rfl (fun (q : Nat) hq => ?_)))
  all_goals first | rfl | omega | exact hq

set_option maxHeartbeats 4000000 in
theorem keysC_z (E : Nat → Addr) (M : List ((Int × Int × Int) × Option Nat)) : Does (Gm E) 54 ⟨[.mp 0], [(0, .pr (mapPr (Enc.ag (Zz.encP Zz.encI (Zz.encP Zz.encI Zz.encI))) veP M))], 1, 2, Unit, fun _ => True, fun _ => .fn 68 [.ptr 1 0], fun _ => [(0, .pr (mapPr (Enc.ag (Zz.encP Zz.encI (Zz.encP Zz.encI Zz.encI))) veP M)), (1, .cells 62 [.mp 0])]⟩ := by
  refine fn_intro (gmOk E) 4 1 [] Tryz.func54 rfl rfl rfl rfl rfl ?_
  repeat' first | (intro h; first | (exfalso; omega; done) | skip) | (refine And.intro ?_ ?_) | exact True.intro | (refine @Exists.intro Unit _ () ?_) | (refine @Exists.intro (_ = _) _ rfl ?_)
  all_goals first | rfl | omega

set_option maxHeartbeats 4000000 in
theorem keysH_z (E : Nat → Addr) (C : List ((Int × Int) × Int × Int × Int)) : Does (Gm E) 59 ⟨[.mp 0], [(0, .pr (mapPr (Enc.ag (Zz.encP Zz.encI Zz.encI)) (Enc.ag (Zz.encP Zz.encI (Zz.encP Zz.encI Zz.encI))) C))], 1, 2, Unit, fun _ => True, fun _ => .fn 71 [.ptr 1 0], fun _ => [(0, .pr (mapPr (Enc.ag (Zz.encP Zz.encI Zz.encI)) (Enc.ag (Zz.encP Zz.encI (Zz.encP Zz.encI Zz.encI))) C)), (1, .cells 63 [.mp 0])]⟩ := by
  refine fn_intro (gmOk E) 4 1 [] Tryz.func59 rfl rfl rfl rfl rfl ?_
  repeat' first | (intro h; first | (exfalso; omega; done) | skip) | (refine And.intro ?_ ?_) | exact True.intro | (refine @Exists.intro Unit _ () ?_) | (refine @Exists.intro (_ = _) _ rfl ?_)
  all_goals first | rfl | omega

set_option maxHeartbeats 1000000 in
theorem sortedC_z (E : Nat → Addr) (M : List ((Int × Int × Int) × Option Nat)) (h : M.length ≤ 1000000000 ∧ (M.map (·.1)).Nodup) : Does (Gm E) 53 ⟨[.fn 68 [.ptr 0 0], .fn 55 []], [(0, .cells 62 [.mp 1]), (1, .pr (mapPr (Enc.ag (Zz.encP Zz.encI (Zz.encP Zz.encI Zz.encI))) veP M))], 2, 3, Nat, fun _ => True, fun q => .sl 2 (ordS ltC (M.map (·.1))).length q, fun q => [(0, .cells 62 [.mp 1]), (1, .pr (mapPr (Enc.ag (Zz.encP Zz.encI (Zz.encP Zz.encI Zz.encI))) veP M)), (2, .arr (Int × Int × Int) (Zz.encP Zz.encI (Zz.encP Zz.encI Zz.encI)) 55 (ordS ltC (M.map (·.1))) q)]⟩ := by
  obtain ⟨h1, h2⟩ := h
  refine fn_intro (gmOk E) 12 2 [] Tryz.func53 rfl rfl rfl rfl rfl ?_
  repeat' first | (intro h; first | (exfalso; omega; done) | skip) | (refine And.intro ?_ ?_) | exact True.intro | (refine @Exists.intro Unit _ () ?_) | (refine @Exists.intro (_ = _) _ rfl ?_) | (refine @Exists.intro (Nat) _ ?_ ?_; rotate_left) | (change CallGoal _ _ _ _ _ _; first | (refine call_rule (collC_z E M h1) [0, 1] rfl (And.intro rfl (And.intro rfl True.intro)) rfl (fun (x : List (Int × Int × Int) × Nat) (hx : x.1.Perm (M.map (·.1)) ∧ x.1.length ≤ x.2) => ?_)) | (refine call_rule (sortC_z E _ _ _ ⟨rfl, ?_⟩) [2] rfl (And.intro rfl True.intro) rfl (fun (l' : List (Int × Int × Int)) (hl : l'.Perm x.1 ∧ l'.Pairwise fun x y => ltC y x = false) => ?_)))
  all_goals first
| rfl
| omega
| (have e := hx.1.length_eq; rw [List.length_map] at e; omega)
| (rw [← sorted_ordS ordC (hl.1.trans hx.1) h2 hl.2]; done)
| (rw [← sorted_ordS ordC (hl.1.trans hx.1) h2 hl.2]; first | rfl | exact hl.1.length_eq.symm | exact hl.1.length_eq)

set_option maxHeartbeats 1000000 in
theorem nodes_z (E : Nat → Addr) (M : List ((Int × Int × Int) × Option Nat)) (C : CM) (h : M.length ≤ 1000000000 ∧ (M.map (·.1)).Nodup) : Does (Gm E) 35 ⟨[.ptr 0 0], [(0, .cells 65 [.mp 1, .mp 2]), (1, .pr (mapPr (Enc.ag (Zz.encP Zz.encI (Zz.encP Zz.encI Zz.encI))) veP M)), (2, .pr (mapPr (Enc.ag (Zz.encP Zz.encI Zz.encI)) (Enc.ag (Zz.encP Zz.encI (Zz.encP Zz.encI Zz.encI))) C))], 3, 4, Nat, fun _ => True, fun q => .sl 3 (ordS ltC (M.map (·.1))).length q, fun q => [(0, .cells 65 [.mp 1, .mp 2]), (1, .pr (mapPr (Enc.ag (Zz.encP Zz.encI (Zz.encP Zz.encI Zz.encI))) veP M)), (2, .pr (mapPr (Enc.ag (Zz.encP Zz.encI Zz.encI)) (Enc.ag (Zz.encP Zz.encI (Zz.encP Zz.encI Zz.encI))) C)), (3, .arr (Int × Int × Int) (Zz.encP Zz.encI (Zz.encP Zz.encI Zz.encI)) 55 (ordS ltC (M.map (·.1))) q)]⟩ := by
  refine fn_intro (gmOk E) 9 3 [] Tryz.func35 rfl rfl rfl rfl rfl ?_
  repeat' first | (intro h; first | (exfalso; omega; done) | skip) | (refine And.intro ?_ ?_) | exact True.intro | (refine @Exists.intro Unit _ () ?_) | (refine @Exists.intro (_ = _) _ rfl ?_) | (refine @Exists.intro (Nat) _ ?_ ?_; rotate_left) | (change CallGoal _ _ _ _ _ _; first | (refine call_rule (keysC_z E M) [1] rfl (And.intro rfl True.intro) rfl (fun x hx => ?_)) | (refine call_rule (sortedC_z E M h) [3, 1] rfl (And.intro rfl (And.intro rfl True.intro)) rfl (fun (q : Nat) hq => ?_)))
  all_goals first | rfl | omega

set_option maxHeartbeats 1000000 in
theorem thandles_z (E : Nat → Addr) (N : NM) (C : CM) (h : C.length ≤ 1000000000) : Does (Gm E) 38 ⟨[.ptr 0 0], [(0, .cells 65 [.mp 1, .mp 2]), (2, .pr (mapPr (Enc.ag (Zz.encP Zz.encI Zz.encI)) (Enc.ag (Zz.encP Zz.encI (Zz.encP Zz.encI Zz.encI))) C))], 3, 4, Nat, fun _ => True, fun q => .sl 3 (ordS ltH (C.map (·.1))).length q, fun q => [(0, .cells 65 [.mp 1, .mp 2]), (2, .pr (mapPr (Enc.ag (Zz.encP Zz.encI Zz.encI)) (Enc.ag (Zz.encP Zz.encI (Zz.encP Zz.encI Zz.encI))) C)), (3, .arr (Int × Int) (Zz.encP Zz.encI Zz.encI) 28 (ordS ltH (C.map (·.1))) q)]⟩ := by
  refine fn_intro (gmOk E) 10 3 [] Tryz.func38 rfl rfl rfl rfl rfl ?_
  repeat' first | (intro h; first | (exfalso; omega; done) | skip) | (refine And.intro ?_ ?_) | exact True.intro | (refine @Exists.intro Unit _ () ?_) | (refine @Exists.intro (_ = _) _ rfl ?_) | (refine @Exists.intro (Nat) _ ?_ ?_; rotate_left) | (change CallGoal _ _ _ _ _ _; first | (refine call_rule (keysH_z E C) [2] rfl (And.intro rfl True.intro) rfl (fun x hx => ?_)) | (refine call_rule (collH_z E C h) [3, 2] rfl (And.intro rfl (And.intro rfl True.intro)) rfl (fun (x : List (Int × Int) × Nat) (hx : x.1.Perm (C.map (·.1)) ∧ x.1.length ≤ x.2) => ?_)) | (refine call_rule (handles_z E _ _ _ ⟨rfl, ?_⟩) [4] rfl (And.intro rfl True.intro) rfl (fun (q : Nat) hq => ?_)))
  all_goals first
| rfl
| omega
| (have e := hx.1.length_eq; rw [List.length_map] at e; omega)
| (rw [ordS_ext ordH fun y => hx.1.mem_iff]; done)
| (rw [ordS_ext ordH fun y => hx.1.mem_iff]; rfl)

/-- Two lists are the same so far. -/
structure SameTo {α : Type} (l r : List α) (i : Int) : Prop where
  lo : 0 ≤ i
  hi : i ≤ (l.length : Nat)
  eq : l.take i.toNat = r.take i.toNat
section
variable {α : Type} [DecidableEq α] {l r : List α} {i : Int} {d : α}
theorem SameTo.start : SameTo l r 0 := ⟨by omega, by omega, by simp⟩
theorem SameTo.step (h : SameTo l r i) (hi : i < (l.length : Nat)) (hl : l.length = r.length) (he : l.getD i.toNat d = r.getD i.toNat d) : SameTo l r (i + 1) := by
  have h1 := h.lo; have h2 := h.hi
  refine ⟨by omega, by omega, ?_⟩
  rw [show (i + 1).toNat = i.toNat + 1 by omega, take_snoc (d := d) (by omega), take_snoc (d := d) (l := r) (by omega), h.eq, he]
theorem SameTo.no (hi : i < (l.length : Nat)) (h0 : 0 ≤ i) (he : ¬ l.getD i.toNat d = r.getD i.toNat d) : decide (l = r) = false := decide_eq_false fun e => he (by rw [e])
theorem SameTo.yes (h : SameTo l r i) (hi : ¬ i < (l.length : Nat)) (hl : l.length = r.length) : decide (l = r) = true := by
  have h1 := h.hi
  have := h.eq
  rw [List.take_of_length_le (by omega), List.take_of_length_le (by omega)] at this
  exact decide_eq_true this
theorem SameTo.len (h : ¬ l.length = r.length) : decide (l = r) = false := decide_eq_false fun e => h (by rw [e])
end
set_option maxHeartbeats 4000000 in
theorem sameH_z (E : Nat → Addr) (l r : List (Int × Int)) (n k m q : Nat) (h : n = l.length ∧ m = r.length ∧ l.length ≤ 1099511627776 ∧ r.length ≤ 1099511627776) : Does (Gm E) 15 (Sp0 [.sl 0 n k, .sl 1 m q] [(0, .ro (Int × Int) (Zz.encP Zz.encI Zz.encI) l k), (1, .ro (Int × Int) (Zz.encP Zz.encI Zz.encI) r q)] 2 (.bl (decide (l = r)))) := by
  obtain ⟨rfl, rfl, h0⟩ := h
  refine fn_intro (gmOk E) 26 2 [] Tryz.func15 rfl rfl rfl rfl rfl ?_
  repeat' first | (intro h; first | (exfalso; omega; done) | skip) | (refine And.intro ?_ ?_) | exact True.intro | (refine @Exists.intro Unit _ () ?_) | (refine @Exists.intro (_ = _) _ rfl ?_) | (change LoopGoal _ _ _ _ _ _; refine loop_at 4 (gmOk E) rfl [] (X := Int) (fun i => [(13, .int .i64 i)]) (fun i => []) [] (fun i => SameTo l r i) (fun i => l.length - i.toNat) ⟨0, ?_⟩ (fun i hI => ?_)) | (change @Exists (Int) (fun _ => updK _ _ _ _ _ _); refine @Exists.intro (Int) _ ((?_)) ?_; rotate_left 1) | (change DrawGoal _ _ _ _ _ _; first | (change DrawGoal _ _ _ ({ dst := some 16, op := _, type := _, pos := _, after := _, guard := _ } :: _) _ _; refine draw_tree (gmOk E) [0, 1] (.leaf [(0, true), (1, true), (2, true), (3, true), (4, true), (5, true), (6, true), (7, true), (8, true)]) (by kernel_rfl) ?_))
  all_goals first
    | (dsimp only; first | rfl | omega)
    | rfl
    | omega
    | exact SameTo.start
    | (have b1 := hI.lo; have b2 := hI.hi; omega)
    | exact hI.step (d := (0, 0)) ‹i < _› (by omega) (pt_eq'.1 (Classical.not_not.1 h))
    | exact (SameTo.no (d := (0, 0)) ‹i < _› hI.lo (fun e => h (pt_eq'.2 e))).symm
    | exact (SameTo.no (d := (0, 0)) ‹i < _› hI.lo (fun e => h (pt_eq'.2 e)))
    | exact (hI.yes ‹¬ i < _› (by omega)).symm
    | exact (hI.yes ‹¬ i < _› (by omega))
    | exact (SameTo.len (by omega)).symm
    | exact (SameTo.len (by omega))

set_option maxHeartbeats 1000000 in
theorem qalive_z (E : Nat → Addr)  : Does (Gm E) 4 (Sp0 [] [] 0 .tt) := by
  refine fn_intro (gmOk E) 15 0 [] Tryz.func4 rfl rfl rfl rfl rfl ?_
  repeat' first | (intro h; first | (exfalso; omega; done) | (exfalso; first | exact h rfl | exact h ⟨rfl, rfl, rfl⟩ | exact h (by decide); done) | skip) | (refine And.intro ?_ ?_) | exact True.intro | (refine @Exists.intro Unit _ () ?_) | (refine @Exists.intro (_ = _) _ rfl ?_) | (change CallGoal _ _ _ _ _ _; first | (refine call0 (of_ok E ((0, 0, 10, 10) : Int × Int × Int × Int) (by decide)) [] rfl True.intro rfl ?_))
  all_goals first | rfl | omega

end Go.Proofs.YtpojafdllcioiaaGreatDoor

namespace Go.Proofs.YtpojafdllcioiaaGreatDoor
open Go.Zz Go.Px
open Go.Qd (okC okC_iff upC cellB okB okC_cell chain cnt1 cntL)
set_option linter.unusedVariables false
set_option linter.unusedSectionVars false
set_option linter.unusedSimpArgs false
set_option maxRecDepth 10000
def okP (b : Int × Int × Int × Int) : Prop := okB b = true
abbrev Bx := Int × Int × Int × Int
abbrev BRel := (Int × Int) → Bx → Prop
def Upd (R : BRel) (hh : Int × Int) (c : Bx) : BRel := fun h d => (h = hh ∧ d = c) ∨ (h ≠ hh ∧ R h d)
def CutR (R : BRel) (hh : Int × Int) : BRel := fun h d => h ≠ hh ∧ R h d

/-- Where the walk through the boxes begins. -/
def rO (f : Int) (n : Nat) : Int := (IntKind.u64.wrap f).tmod (IntKind.u64.wrap n)
def kO (f : Int) (n : Nat) (i : Int) : Int := (i + rO f n).tmod n
section
variable {f : Int} {n : Nat} {i : Int}
theorem wrap_n (hn : n ≤ 40) : IntKind.u64.wrap n = n := fitP_wrap (show 0 ≤ (n : Int) ∧ (n : Int) ≤ 18446744073709551615 by omega)
theorem wrap_lo (f : Int) : 0 ≤ IntKind.u64.wrap f := by rw [IntKind.wrap_u64]; omega
theorem rO_in (h0 : 0 < (n : Int)) (hn : n ≤ 40) : 0 ≤ rO f n ∧ rO f n < n := by
  have e := wrap_lo f
  unfold rO; rw [wrap_n hn, Int.tmod_eq_emod_of_nonneg e]
  exact ⟨Int.emod_nonneg _ (by omega), Int.emod_lt_of_pos _ h0⟩
theorem kO_emod (h0 : 0 < (n : Int)) (hn : n ≤ 40) (hi : 0 ≤ i) : kO f n i = (i + rO f n) % n := by
  have e := (rO_in (f := f) h0 hn).1
  unfold kO; rw [Int.tmod_eq_emod_of_nonneg (by omega)]
theorem kO_in (h0 : 0 < (n : Int)) (hn : n ≤ 40) (hi : 0 ≤ i) : 0 ≤ kO f n i ∧ kO f n i < n := by
  rw [kO_emod h0 hn hi]; exact ⟨Int.emod_nonneg _ (by omega), Int.emod_lt_of_pos _ h0⟩
theorem kO_all (hn : n ≤ 40) {t : Int} (h1 : 0 ≤ t) (h2 : t < n) : ∃ j : Int, 0 ≤ j ∧ j < n ∧ t = kO f n j := by
  have h0 : 0 < (n : Int) := by omega
  refine ⟨(t - rO f n) % n, Int.emod_nonneg _ (by omega), Int.emod_lt_of_pos _ h0, ?_⟩
  rw [kO_emod h0 hn (Int.emod_nonneg _ (by omega)), Int.emod_add_emod, Int.sub_add_cancel, Int.emod_eq_of_lt h1 h2]
end
def dB : Bx := (0, 0, 0, 0)
def RA (l : List Bx) (i : Int) : BRel := fun h c => h.2 = 1 ∧ 0 ≤ h.1 ∧ h.1 < i ∧ c = l.getD h.1.toNat dB
def RG (g : List Bx) (k i : Int) : BRel := fun h c => h.2 = 1 ∧ 50 + k ≤ h.1 ∧ h.1 < 50 + i ∧ c = g.getD (h.1 - 50).toNat dB
def RB (l g : List Bx) (f : Int) (i : Int) : BRel := fun h c => RG g 0 g.length h c ∨ (h.2 = 1 ∧ (∃ j, 0 ≤ j ∧ j < i ∧ h.1 = kO f l.length j) ∧ c = l.getD h.1.toNat dB)
def RC (l g : List Bx) (k : Int) : BRel := fun h c => RG g k g.length h c ∨ RA l l.length h c
section
variable {l g : List Bx} {f i k : Int}
theorem RA_none (h : Int × Int) (c : Bx) : ¬ RA l 0 h c := fun q => by have := q.2.1; have := q.2.2.1; omega
theorem RG_none (h : Int × Int) (c : Bx) : ¬ RG g 0 0 h c := fun q => by have := q.2.1; have := q.2.2.1; omega
theorem RA_next (h0 : 0 ≤ i) (h : Int × Int) (c : Bx) : Upd (RA l i) (i, 1) (l.getD i.toNat dB) h c ↔ RA l (i + 1) h c := by
  obtain ⟨h, g⟩ := h
  unfold Upd RA
  simp only [Prod.mk.injEq, ne_eq]
  constructor
  · rintro (⟨⟨rfl, rfl⟩, rfl⟩ | ⟨_, h1, h2, h3, h4⟩)
    · exact ⟨rfl, h0, by omega, rfl⟩
    · exact ⟨h1, h2, by omega, h4⟩
  · rintro ⟨rfl, h2, h3, rfl⟩
    by_cases e : h = i
    · subst e; exact .inl ⟨⟨rfl, rfl⟩, rfl⟩
    · exact .inr ⟨fun q => e q.1, rfl, h2, by omega, rfl⟩
theorem RG_next (h0 : 0 ≤ i) (h : Int × Int) (c : Bx) : Upd (RG g 0 i) (i + 50, 1) (g.getD i.toNat dB) h c ↔ RG g 0 (i + 1) h c := by
  obtain ⟨h, k⟩ := h
  unfold Upd RG
  simp only [Prod.mk.injEq, ne_eq]
  constructor
  · rintro (⟨⟨rfl, rfl⟩, rfl⟩ | ⟨_, h1, h2, h3, h4⟩)
    · exact ⟨rfl, by omega, by omega, by rw [show i + 50 - 50 = i by omega]⟩
    · exact ⟨h1, h2, by omega, h4⟩
  · rintro ⟨rfl, h2, h3, rfl⟩
    by_cases e : h = i + 50
    · subst e; exact .inl ⟨⟨rfl, rfl⟩, by rw [show i + 50 - 50 = i by omega]⟩
    · exact .inr ⟨fun q => e q.1, rfl, h2, by omega, rfl⟩
theorem RB_start (h : Int × Int) (c : Bx) : RG g 0 g.length h c ↔ RB l g f 0 h c :=
  ⟨.inl, fun q => q.elim id fun q => by obtain ⟨_, ⟨j, h1, h2, _⟩, _⟩ := q; omega⟩
theorem RB_next (h0 : 0 ≤ i) (h1 : i < (l.length : Nat)) (hn : l.length ≤ 40) (h : Int × Int) (c : Bx) : Upd (RB l g f i) (kO f l.length i, 1) (l.getD (kO f l.length i).toNat dB) h c ↔ RB l g f (i + 1) h c := by
  have hk := kO_in (f := f) (n := l.length) (i := i) (by omega) hn h0
  obtain ⟨h, k⟩ := h
  unfold Upd RB
  simp only [Prod.mk.injEq, ne_eq]
  constructor
  · rintro (⟨⟨rfl, rfl⟩, rfl⟩ | ⟨_, q | ⟨h1, ⟨j, h2, h3, h4⟩, h5⟩⟩)
    · exact .inr ⟨rfl, ⟨i, h0, by omega, rfl⟩, rfl⟩
    · exact .inl q
    · exact .inr ⟨h1, ⟨j, h2, by omega, h4⟩, h5⟩
  · rintro (q | ⟨rfl, ⟨j, h2, h3, rfl⟩, rfl⟩)
    · exact .inr ⟨fun e => by have := q.2.1; dsimp only at this; omega, .inl q⟩
    · by_cases e : kO f l.length j = kO f l.length i
      · exact .inl ⟨⟨e, rfl⟩, by rw [e]⟩
      · have : j ≠ i := fun q => e (congrArg _ q)
        exact .inr ⟨fun q => e q.1, .inr ⟨rfl, ⟨j, h2, by omega, rfl⟩, rfl⟩⟩
theorem RB_two (hh : Int × Int) (q p : Bx) (R : BRel) (h : Int × Int) (c : Bx) : Upd (Upd R hh q) hh p h c ↔ Upd R hh p h c := by
  unfold Upd
  constructor
  · rintro (q | ⟨h1, ⟨h2, _⟩ | ⟨_, h2⟩⟩)
    · exact .inl q
    · exact absurd h2 h1
    · exact .inr ⟨h1, h2⟩
  · rintro (q | ⟨h1, h2⟩)
    · exact .inl q
    · exact .inr ⟨h1, .inr ⟨h1, h2⟩⟩
theorem RB_all (hn : l.length ≤ 40) (h1 : i ≤ (l.length : Nat)) (h2 : ¬ i < (l.length : Nat)) (h : Int × Int) (c : Bx) : RB l g f i h c ↔ RC l g 0 h c := by
  obtain rfl : i = (l.length : Nat) := by omega
  constructor
  · rintro (q | ⟨q1, ⟨j, q2, q3, q4⟩, q5⟩)
    · exact .inl q
    · have := kO_in (f := f) (n := l.length) (i := j) (by omega) hn q2
      exact .inr ⟨q1, by omega, by omega, q5⟩
  · rintro (q | ⟨q1, q2, q3, q4⟩)
    · exact .inl q
    · exact .inr ⟨q1, kO_all hn q2 q3, q4⟩
theorem RC_next (h0 : 0 ≤ k) (h1 : k < (g.length : Nat)) (hn : l.length ≤ 40) (h : Int × Int) (c : Bx) : CutR (RC l g k) (k + 50, 1) h c ↔ RC l g (k + 1) h c := by
  obtain ⟨h, t⟩ := h
  unfold CutR RC RG RA
  simp only [Prod.mk.injEq, ne_eq]
  constructor
  · rintro ⟨h1, ⟨rfl, h3, h4, h5⟩ | q⟩
    · have : h ≠ k + 50 := fun e => h1 ⟨e, rfl⟩
      exact .inl ⟨rfl, by omega, h4, h5⟩
    · exact .inr q
  · rintro (⟨rfl, h3, h4, h5⟩ | q)
    · exact ⟨fun e => by omega, .inl ⟨rfl, by omega, h4, h5⟩⟩
    · exact ⟨fun e => by have := q.2.2.1; omega, .inr q⟩
theorem RC_has (h0 : 0 ≤ k) (h1 : k < (g.length : Nat)) : RC l g k (k + 50, 1) (g.getD k.toNat dB) := .inl ⟨rfl, by dsimp only; omega, by dsimp only; omega, by dsimp only; rw [show k + 50 - 50 = k by omega]⟩
theorem RC_all (h1 : k ≤ (g.length : Nat)) (h2 : ¬ k < (g.length : Nat)) (h : Int × Int) (c : Bx) : RC l g k h c ↔ RA l l.length h c :=
  ⟨fun q => q.elim (fun q => by have := q.2.1; have := q.2.2.1; omega) id, .inr⟩
end
structure AllR (l : List Bx) (i : Int) : Prop where
  p : ∀ j, 0 ≤ j → j < i → okP (l.getD j.toNat dB)
theorem AllR.nil (l : List Bx) : AllR l 0 := ⟨fun j h1 h2 => by omega⟩
theorem AllR.next {l : List Bx} {i : Int} (h : AllR l i) (hr : okP (l.getD i.toNat dB)) : AllR l (i + 1) := ⟨fun j h1 h2 => by
  by_cases e : j = i
  · exact e ▸ hr
  · exact h.p j h1 (by omega)⟩
theorem AllR.at {l : List Bx} {i j : Int} (h : AllR l i) (hi : ¬ i < (l.length : Nat)) (h1 : 0 ≤ j) (h2 : j < (l.length : Nat)) : okP (l.getD j.toNat dB) := h.p j h1 (by omega)
theorem tm_in {i n : Int} (h0 : 0 ≤ i) (hn : 0 < n) : 0 ≤ i.tmod n ∧ i.tmod n < n := by rw [Int.tmod_eq_emod_of_nonneg h0]; exact ⟨Int.emod_nonneg _ (by omega), Int.emod_lt_of_pos _ hn⟩
theorem RA_end {l : List Bx} {i : Int} (h1 : i ≤ (l.length : Nat)) (h2 : ¬ i < (l.length : Nat)) (h : Int × Int) (c : Bx) : RA l i h c ↔ RA l l.length h c := by rw [show i = (l.length : Nat) by omega]
theorem RG_end {l : List Bx} {i : Int} (h1 : i ≤ (l.length : Nat)) (h2 : ¬ i < (l.length : Nat)) (h : Int × Int) (c : Bx) : RG l 0 i h c ↔ RG l 0 l.length h c := by rw [show i = (l.length : Nat) by omega]
/-- A tree that holds just these boxes. -/
structure TreeR (R : BRel) (i : Int) (C : CM) (N : NM) : Prop where
  ex : ∃ bs : Go.Qd.BS, Go.Qd.TI bs C N ∧ (∀ h b, R h b ↔ (h, b) ∈ bs) ∧ (bs.length : Int) ≤ i
section
variable {R S : BRel} {i j : Int} {C D : CM} {N M : NM}
theorem TreeR.start (h : ∀ h c, ¬ R h c) : TreeR R 0 [] [((0, 0, 0), ([], 0))] := ⟨[], Go.Qd.TI.new, fun a b => ⟨fun q => absurd q (h a b), fun q => by cases q⟩, by simp⟩
theorem TreeR.ext (h : TreeR R i C N) (hij : i ≤ j) (e : ∀ h c, R h c ↔ S h c) : TreeR S j C N := by
  obtain ⟨bs, h1, h2, h3⟩ := h.ex
  exact ⟨bs, h1, fun a b => (e a b).symm.trans (h2 a b), by omega⟩
theorem TreeR.cb (h : TreeR R i C N) (hi : i ≤ 1000) : CB N 1000000 := by
  obtain ⟨bs, h1, h2, h3⟩ := h.ex
  exact ⟨fun z v hv => by have := h1.small hv; omega⟩
theorem ti_cb {bs : Go.Qd.BS} (h : Go.Qd.TI bs C N) (hl : bs.length ≤ 1000) : CB N 1000000 := ⟨fun z v hv => by have := h.small hv; omega⟩
theorem TreeR.clen (h : TreeR R i C N) (hi : i ≤ 1000) : C.length ≤ 1000 := by
  obtain ⟨bs, h1, h2, h3⟩ := h.ex
  rw [h1.cs, List.length_map]; omega
theorem TreeR.nlen (h : TreeR R i C N) (hi : i ≤ 1000) (p : (Int × Int × Int) → Nat) : (N.map fun x => (x.1, some (p x.1))).length ≤ 1000000000 ∧ ((N.map fun x => (x.1, some (p x.1))).map (·.1)).Nodup := by
  obtain ⟨bs, h1, h2, h3⟩ := h.ex
  have := h1.few
  refine ⟨by rw [List.length_map]; omega, ?_⟩
  rw [List.map_map]; exact h1.nf.nd
theorem TreeR.nodes (h : TreeR R i C N) (h' : TreeR R j D M) (p q : (Int × Int × Int) → Nat) : ordS ltC ((N.map fun x => (x.1, some (p x.1))).map (·.1)) = ordS ltC ((M.map fun x => (x.1, some (q x.1))).map (·.1)) := by
  obtain ⟨bs, h1, h2, h3⟩ := h.ex
  obtain ⟨bs', h1', h2', h3'⟩ := h'.ex
  refine ordS_ext ordC fun z => ?_
  rw [List.map_map, List.map_map]
  exact h1.keys h1' (fun x => (h2 x.1 x.2).symm.trans (h2' x.1 x.2)) z
theorem TreeR.hands (h : TreeR R i C N) (h' : TreeR R j D M) : ordS ltH (C.map (·.1)) = ordS ltH (D.map (·.1)) := by
  obtain ⟨bs, h1, h2, h3⟩ := h.ex
  obtain ⟨bs', h1', h2', h3'⟩ := h'.ex
  exact ordS_ext ordH fun z => h1.hands h1' (fun x => (h2 x.1 x.2).symm.trans (h2' x.1 x.2)) z
theorem upd_mem {bs bs' : Go.Qd.BS} {hh : Int × Int} {b : Bx} (h2 : ∀ h b, R h b ↔ (h, b) ∈ bs) (e : ∀ p, p ∈ bs' ↔ p = (hh, b) ∨ (p ∈ bs ∧ p.1 ≠ hh)) (a : Int × Int) (c : Bx) : Upd R hh b a c ↔ (a, c) ∈ bs' := by
  unfold Upd
  rw [e]
  constructor
  · rintro (⟨rfl, rfl⟩ | ⟨q, r⟩)
    · exact .inl rfl
    · exact .inr ⟨(h2 a c).1 r, q⟩
  · rintro (q | ⟨q, r⟩)
    · cases q; exact .inl ⟨rfl, rfl⟩
    · exact .inr ⟨r, (h2 a c).2 q⟩
theorem put_len (bs : Go.Qd.BS) (hh : Int × Int) (b : Bx) : (Go.Px.putK bs hh b).length ≤ bs.length + 1 := by
  unfold Go.Px.putK
  split
  · rw [List.length_map]; omega
  · rw [List.length_append]; simp
theorem cut_len (bs : Go.Qd.BS) (hh : Int × Int) : (Go.Px.delK bs hh).length ≤ bs.length := List.length_filter_le _ _
/-- Put, by what is held. -/
theorem put_t (E : Nat → Addr) (t : TreeR R i C N) (hi : i ≤ 1000) (hh : Int × Int) {b : Bx} (hb : okP b) : Does (Gm E) 8 ⟨[.ptr 0 0, .agg [.int .i64 hh.1, .int .i64 hh.2], .agg [.int .i64 b.1, .int .i64 b.2.1, .int .i64 b.2.2.1, .int .i64 b.2.2.2]], [(0, .cells 65 [.mp 1, .mp 2]), (1, .pr (mObj (Enc.ag (Zz.encP Zz.encI (Zz.encP Zz.encI Zz.encI))) (fun v => grp (Gm E) (ndT v)) N)), (2, .pr (mapPr (Enc.ag (Zz.encP Zz.encI Zz.encI)) (Enc.ag (Zz.encP Zz.encI (Zz.encP Zz.encI Zz.encI))) C))], 3, 3, CM × NM, fun y => TreeR (Upd R hh b) (i + 1) y.1 y.2, fun _ => .nili, fun y => [(0, .cells 65 [.mp 1, .mp 2]), (1, .pr (mObj (Enc.ag (Zz.encP Zz.encI (Zz.encP Zz.encI Zz.encI))) (fun v => grp (Gm E) (ndT v)) y.2)), (2, .pr (mapPr (Enc.ag (Zz.encP Zz.encI Zz.encI)) (Enc.ag (Zz.encP Zz.encI (Zz.encP Zz.encI Zz.encI))) y.1))]⟩ := by
  obtain ⟨bs, h1, h2, h3⟩ := t.ex
  have hcb := ti_cb h1 (by omega)
  rcases Classical.em (hasK bs hh = true) with hx | hx
  · obtain ⟨c, hc⟩ := Go.Qd.get_has hx
    have hm := (Go.Qd.get_mem h1.nd).1 hc
    have hC := h1.at hm
    rcases Classical.em (cellB c = cellB b) with he | he
    · obtain ⟨v, hv⟩ := Go.Qd.get_has (h1.node hm)
      rw [he] at hv hC
      exact Does.weak (_, _) (put_same E N C hh b v ⟨hC, hb, hv⟩) ⟨_, h1.same hm hb he hv, upd_mem h2 fun p => Go.Qd.put_mem h1.nd, by have := put_len bs hh b; omega⟩ rfl
    · obtain ⟨u, hu⟩ := Go.Qd.get_has (h1.node hm)
      have h4 := h1.drop hm hu
      have hl := cut_len bs hh
      have hno : hasK (Go.Px.delK bs hh) hh = false := by rw [Go.Qd.has_del]; simp
      obtain ⟨v, hv⟩ := h4.cnt_has hno hb
      refine Does.weak (_, _) (put_moved E N C hh b (cellB c) u v ⟨hC, hb, Go.Qd.okC_cell (h1.ok _ hm), hcb, h1.nf.nd, hu, ti_cb h4 (by omega), h4.nf.nd, hv, he⟩) ⟨_, h4.more hno hb hv, upd_mem h2 fun p => ?_, by have := put_len (Go.Px.delK bs hh) hh b; omega⟩ rfl
      rw [Go.Qd.put_mem h4.nd, Go.Qd.del_mem]
      exact ⟨fun q => q.imp id fun q => ⟨q.1.1, q.2⟩, fun q => q.imp id fun q => ⟨q, q.2⟩⟩
  · have hno : hasK bs hh = false := by simpa using hx
    have hC : hasK C hh = false := by rw [h1.cs, Go.Qd.has_cs]; exact hno
    obtain ⟨v, hv⟩ := h1.cnt_has hno hb
    exact Does.weak (_, _) (put_new E N C hh b v ⟨hC, hb, hcb, h1.nf.nd, hv⟩) ⟨_, h1.more hno hb hv, upd_mem h2 fun p => Go.Qd.put_mem h1.nd, by have := put_len bs hh b; omega⟩ rfl
end
set_option maxHeartbeats 1000000 in
theorem put_form (E : Nat → Addr) (N : NM) (C : CM) (hh : Int × Int) (b : Int × Int × Int × Int) (h : ¬ rightP b) : Does (Gm E) 8 ⟨[.ptr 0 0, .agg [.int .i64 hh.1, .int .i64 hh.2], .agg [.int .i64 b.1, .int .i64 b.2.1, .int .i64 b.2.2.1, .int .i64 b.2.2.2]], [(0, .cells 65 [.mp 1, .mp 2]), (1, .pr (mObj (Enc.ag (Zz.encP Zz.encI (Zz.encP Zz.encI Zz.encI))) (fun v => grp (Gm E) (ndT v)) N)), (2, .pr (mapPr (Enc.ag (Zz.encP Zz.encI Zz.encI)) (Enc.ag (Zz.encP Zz.encI (Zz.encP Zz.encI Zz.encI))) C))], 3, 3, Unit, fun _ => True, fun _ => .err 6, fun _ => [(0, .cells 65 [.mp 1, .mp 2]), (1, .pr (mObj (Enc.ag (Zz.encP Zz.encI (Zz.encP Zz.encI Zz.encI))) (fun v => grp (Gm E) (ndT v)) N)), (2, .pr (mapPr (Enc.ag (Zz.encP Zz.encI Zz.encI)) (Enc.ag (Zz.encP Zz.encI (Zz.encP Zz.encI Zz.encI))) C))]⟩ := by
  refine fn_intro (gmOk E) 58 3 [] Tryz.func8 rfl rfl rfl rfl rfl ?_
  repeat' first | (change CallGoal _ _ _ _ _ _; first | (change CallGoal _ 18 _ _ _ _; first | (refine call0 (of_form E b h) [] rfl True.intro rfl ?_))) | (intro h; first | (exfalso; omega; done) | skip) | (refine And.intro ?_ ?_) | exact True.intro | (refine @Exists.intro Unit _ () ?_) | (refine @Exists.intro (_ = _) _ rfl ?_)
  all_goals first
| (dsimp only; first | rfl | omega)
| rfl
| omega
| assumption
| exact has_putK _ _ _
| exact get_hasK ‹_›

set_option maxHeartbeats 1000000 in
theorem put_range (E : Nat → Addr) (N : NM) (C : CM) (hh : Int × Int) (b : Int × Int × Int × Int) (h : rightP b ∧ inWorld b.1 b.2.1 b.2.2.1 b.2.2.2 = false) : Does (Gm E) 8 ⟨[.ptr 0 0, .agg [.int .i64 hh.1, .int .i64 hh.2], .agg [.int .i64 b.1, .int .i64 b.2.1, .int .i64 b.2.2.1, .int .i64 b.2.2.2]], [(0, .cells 65 [.mp 1, .mp 2]), (1, .pr (mObj (Enc.ag (Zz.encP Zz.encI (Zz.encP Zz.encI Zz.encI))) (fun v => grp (Gm E) (ndT v)) N)), (2, .pr (mapPr (Enc.ag (Zz.encP Zz.encI Zz.encI)) (Enc.ag (Zz.encP Zz.encI (Zz.encP Zz.encI Zz.encI))) C))], 3, 3, Unit, fun _ => True, fun _ => .err 0, fun _ => [(0, .cells 65 [.mp 1, .mp 2]), (1, .pr (mObj (Enc.ag (Zz.encP Zz.encI (Zz.encP Zz.encI Zz.encI))) (fun v => grp (Gm E) (ndT v)) N)), (2, .pr (mapPr (Enc.ag (Zz.encP Zz.encI Zz.encI)) (Enc.ag (Zz.encP Zz.encI (Zz.encP Zz.encI Zz.encI))) C))]⟩ := by
  refine fn_intro (gmOk E) 58 3 [] Tryz.func8 rfl rfl rfl rfl rfl ?_
  repeat' first | (change CallGoal _ _ _ _ _ _; first | (change CallGoal _ 18 _ _ _ _; first | (refine call0 (of_range E b h) [] rfl True.intro rfl ?_))) | (intro h; first | (exfalso; omega; done) | skip) | (refine And.intro ?_ ?_) | exact True.intro | (refine @Exists.intro Unit _ () ?_) | (refine @Exists.intro (_ = _) _ rfl ?_)
  all_goals first
| (dsimp only; first | rfl | omega)
| rfl
| omega
| assumption
| exact has_putK _ _ _
| exact get_hasK ‹_›

end Go.Proofs.YtpojafdllcioiaaGreatDoor

namespace Go.Proofs.YtpojafdllcioiaaGreatDoor
open Go.Zz Go.Px
open Go.Qd (okC okC_iff upC cellB okB okC_cell chain cnt1 cntL)
set_option linter.unusedVariables false
set_option linter.unusedSectionVars false
set_option linter.unusedSimpArgs false
set_option maxRecDepth 10000
/-- A cell's loose box. -/
def looseB (c : Int × Int × Int) : Int × Int × Int × Int := (c.2.1 * side c.1 - 2097152 - side c.1 / 2, c.2.2 * side c.1 - 2097152 - side c.1 / 2, c.2.1 * side c.1 - 2097152 + side c.1 + side c.1 / 2, c.2.2 * side c.1 - 2097152 + side c.1 + side c.1 / 2)
def meetR (a b : Int × Int × Int × Int) : Bool := decide ((rightP a ∧ rightP b) ∧ meetP a b)
def enterB (c : Int × Int × Int) (q : Int × Int × Int × Int) : Bool := decide (c.1 = 0) || meetR (looseB c) q
theorem loose_bd {c : Int × Int × Int} (h : okC c = true) : (0 ≤ c.2.1 * side c.1 ∧ c.2.1 * side c.1 ≤ 4194304) ∧ (0 ≤ c.2.2 * side c.1 ∧ c.2.2 * side c.1 ≤ 4194304) ∧ (16384 ≤ side c.1 ∧ side c.1 ≤ 4194304) ∧ (side c.1).tdiv 2 = side c.1 / 2 := by
  have h1 := okC_iff.1 h
  have h2 := side_bd (d := c.1) ⟨h1.1.1, by omega⟩
  have h3 := mul_side (d := c.1) (x := c.2.1) ⟨h1.1.1, by omega⟩ ⟨by omega, by omega⟩
  have h4 := mul_side (d := c.1) (x := c.2.2) ⟨h1.1.1, by omega⟩ ⟨by omega, by omega⟩
  exact ⟨by omega, by omega, by omega, Int.tdiv_eq_ediv_of_nonneg (by omega)⟩
theorem meetR_dc {a b : Int × Int × Int × Int} (h : rightP a) {P : Prop} {d : Decidable P} (hP : P ↔ ((((rightP b ∧ a.1 ≤ b.2.2.1) ∧ b.1 ≤ a.2.2.1) ∧ a.2.1 ≤ b.2.2.2) ∧ b.2.1 ≤ a.2.2.2)) : @decide P d = meetR a b := by
  unfold meetR meetP
  exact decide_eq_decide.2 (hP.trans ⟨fun q => ⟨⟨h, q.1.1.1.1⟩, q.1.1.1.2, q.1.1.2, q.1.2, q.2⟩, fun q => ⟨⟨⟨⟨q.1.2, q.2.1⟩, q.2.2.1⟩, q.2.2.2.1⟩, q.2.2.2.2⟩⟩)
/-- A cell whose loose box isn't met has no box that is. -/
theorem no_meet {bs : Go.Qd.BS} {C : CM} {N : NM} (t : Go.Qd.TI bs C N) {z : Int × Int × Int} {q : Int × Int × Int × Int} (hz : okC z = true) (he : enterB z q = false) : ∀ x ∈ Go.Qd.inT bs z, meetR x.2 q = false := fun x hx => by
  obtain ⟨h1, h2⟩ := Go.Qd.mem_inT.1 hx
  have h3 := Go.Qd.in_chain (t.ok x h1) z h2
  cases hm : meetR x.2 q with
  | false => rfl
  | true =>
    have hm := of_decide_eq_true hm
    have hb := loose_bd hz
    have ho := okC_iff.1 hz
    have s1 := mul_side (d := z.1) (x := z.2.1) ⟨ho.1.1, by omega⟩ ⟨by omega, by omega⟩
    have s2 := mul_side (d := z.1) (x := z.2.2) ⟨ho.1.1, by omega⟩ ⟨by omega, by omega⟩
    unfold enterB at he
    rw [Bool.or_eq_false_iff] at he
    have hn := of_decide_eq_false he.2
    refine absurd ⟨⟨?_, hm.1.2⟩, ?_⟩ hn
    · unfold rightP reachP looseB; dsimp only; omega
    · have h5 := hm.2
      unfold meetP at h5 ⊢
      unfold looseB; dsimp only; omega
set_option maxHeartbeats 1000000 in
theorem loose_z (E : Nat → Addr) (c : Int × Int × Int) (h : okC c = true) : Does (Gm E) 28 (Sp0 [.agg [.int .i64 c.1, .int .i64 c.2.1, .int .i64 c.2.2]] [] 0 (.tup [.agg [.int .i64 (looseB c).1, .int .i64 (looseB c).2.1, .int .i64 (looseB c).2.2.1, .int .i64 (looseB c).2.2.2], .nili])) := by
  rename okC c = true => h1
  refine fn_intro (gmOk E) 46 0 [] Tryz.func28 rfl rfl rfl rfl rfl ?_
  repeat' first | (intro h; first | (exfalso; omega; done) | (exfalso; (rw [h1] at h; cases h); done) | skip) | (refine And.intro ?_ ?_) | exact True.intro | (refine @Exists.intro Unit _ () ?_) | (refine @Exists.intro (_ = _) _ rfl ?_) | (change DrawGoal _ _ _ _ _ _; first | (change DrawGoal _ _ _ ({ dst := some 15, op := _, type := _, pos := _, after := _, guard := _ } :: _) _ _; refine draw_tree (gmOk E) [0, 1] (.leaf [(0, true), (1, true), (2, true), (3, true), (4, true), (5, true), (6, true), (7, true), (8, true), (9, true), (10, true), (11, true)]) (by kernel_rfl) ?_)) | (change CallGoal _ _ _ _ _ _; first | (refine call0 (cright_z E c) [] rfl True.intro rfl ?_) | (refine call0 (side_z E c.1 ⟨?_, ?_⟩) [] rfl True.intro rfl ?_))
  all_goals first | rfl | omega | exact (Go.Qd.okC_iff.1 h1).1.1 | exact (Go.Qd.okC_iff.1 h1).1.2 | (have q := loose_bd h1; omega) | (have q := loose_bd h1; unfold looseB; dsimp only; omega)

set_option maxHeartbeats 1000000 in
theorem pmeets_z (E : Nat → Addr) (a b : Int × Int × Int × Int) : Does (Gm E) 29 (Sp0 [.agg [.int .i64 a.1, .int .i64 a.2.1, .int .i64 a.2.2.1, .int .i64 a.2.2.2], .agg [.int .i64 b.1, .int .i64 b.2.1, .int .i64 b.2.2.1, .int .i64 b.2.2.2]] [] 0 (.bl (meetR a b))) := by
  refine fn_intro (gmOk E) 39 0 [] Tryz.func29 rfl rfl rfl rfl rfl ?_
  repeat' first | (intro h; first | (exfalso; omega; done) | skip) | (refine And.intro ?_ ?_) | exact True.intro | (refine @Exists.intro Unit _ () ?_) | (refine @Exists.intro (_ = _) _ rfl ?_) | (change CallGoal _ _ _ _ _ _; first | (refine call0 (right_z E a) [] rfl True.intro rfl ?_) | (refine call0 (right_z E b) [] rfl True.intro rfl ?_))
  all_goals first | rfl | omega | exact meetR_dc ‹_› Iff.rfl | (unfold meetR meetP; refine decide_eq_decide.2 ⟨fun q => ⟨⟨by first | exact q.1.1.1.1.1 | assumption, by first | exact q.1.1.1.1.2 | exact q.1.1.1.1 | assumption⟩, by omega⟩, fun q => by omega⟩) | (exact (decide_eq_false (fun q => ‹¬ rightP _› (by first | exact q.1.1 | exact q.1.2))).symm)

set_option maxHeartbeats 1000000 in
theorem enter_z (E : Nat → Addr) (c : Int × Int × Int) (q : Int × Int × Int × Int) (h : okC c = true) : Does (Gm E) 27 (Sp0 [.agg [.int .i64 c.1, .int .i64 c.2.1, .int .i64 c.2.2], .ptr 0 0] [(0, .cells 30 [.int .i64 q.1, .int .i64 q.2.1, .int .i64 q.2.2.1, .int .i64 q.2.2.2])] 1 (.bl (enterB c q))) := by
  rename okC c = true => h1
  refine fn_intro (gmOk E) 23 1 [] Tryz.func27 rfl rfl rfl rfl rfl ?_
  repeat' first | (intro h; first | (exfalso; omega; done) | skip) | (refine And.intro ?_ ?_) | exact True.intro | (refine @Exists.intro Unit _ () ?_) | (refine @Exists.intro (_ = _) _ rfl ?_) | (change CallGoal _ _ _ _ _ _; first | (refine call0 (loose_z E c h1) [] rfl True.intro rfl ?_) | (refine call0 (pmeets_z E (looseB c) q) [] rfl True.intro rfl ?_))
  all_goals first | rfl | omega | (unfold enterB; simp_all; done)

def outE (q : Int × Int × Int × Int) (l : List (Int × Int)) (h : Int × Int) (b : Int × Int × Int × Int) : List (Int × Int) := if meetR b q = true then l ++ [h] else l
set_option maxHeartbeats 1000000 in
theorem each_z (E : Nat → Addr) (h0 : Int × Int) (b q : Int × Int × Int × Int) (l : List (Int × Int)) (n k : Nat) (h : n = l.length ∧ l.length ≤ 1000000 ∧ l.length ≤ k) : Does (Gm E) 30 ⟨[.agg [.int .i64 h0.1, .int .i64 h0.2], .agg [.int .i64 b.1, .int .i64 b.2.1, .int .i64 b.2.2.1, .int .i64 b.2.2.2], .ptr 0 0, .ptr 1 0], [(0, .cells 30 [.int .i64 q.1, .int .i64 q.2.1, .int .i64 q.2.2.1, .int .i64 q.2.2.2]), (1, .cells 47 [.sl 2 n k]), (2, .arr (Int × Int) (Zz.encP Zz.encI Zz.encI) 28 l k)], 3, 4, Nat, fun k2 => (outE q l h0 b).length ≤ k2, fun _ => .tup [], fun k2 => [(0, .cells 30 [.int .i64 q.1, .int .i64 q.2.1, .int .i64 q.2.2.1, .int .i64 q.2.2.2]), (1, .cells 47 [.sl 3 (outE q l h0 b).length k2]), (3, .arr (Int × Int) (Zz.encP Zz.encI Zz.encI) 28 (outE q l h0 b) k2)]⟩ := by
  obtain ⟨rfl, hl, hk⟩ := h
  refine fn_intro (gmOk E) 13 3 [] Tryz.func30 rfl rfl rfl rfl rfl ?_
  repeat' first | (intro h; first | (exfalso; omega; done) | skip) | (refine And.intro ?_ ?_) | exact True.intro | (refine @Exists.intro Unit _ () ?_) | (refine @Exists.intro (_ = _) _ rfl ?_) | (refine @Exists.intro (Nat) _ ?_ ?_; rotate_left) | (change CallGoal _ _ _ _ _ _; first | (refine call0 (pmeets_z E b q) [] rfl True.intro rfl ?_))
  all_goals first
| rfl
| omega
| exact Nat.le_refl _
| (change _ * 16 ≤ _; omega)
| (unfold outE; rw [if_pos ‹meetR b q = true›, List.length_append]; first | rfl | omega | assumption)
| (unfold outE; rw [if_pos ‹meetR b q = true›]; first | done | (rw [List.take_length]; rfl))
| (show (outE q l h0 b).length ≤ k; unfold outE; rw [if_neg (by rw [‹meetR b q = false›]; simp)]; exact hk)
| (unfold outE; rw [if_neg (by rw [‹meetR b q = false›]; simp)]; first | done | rfl | omega)

end Go.Proofs.YtpojafdllcioiaaGreatDoor

namespace Go.Proofs.YtpojafdllcioiaaGreatDoor
open Go.Zz Go.Px
open Go.Qd (okC okC_iff upC cellB okB okC_cell chain cnt1 cntL)
set_option linter.unusedVariables false
set_option linter.unusedSectionVars false
set_option linter.unusedSimpArgs false
set_option maxRecDepth 10000
def metL (q : Int × Int × Int × Int) (vis : Go.Qd.BS) : List (Int × Int) := (vis.filter fun p => meetR p.2 q).map (·.1)
theorem metL_snoc (q : Int × Int × Int × Int) (vis : Go.Qd.BS) (h : Int × Int) (b : Int × Int × Int × Int) : metL q (vis ++ [(h, b)]) = outE q (metL q vis) h b := by
  unfold metL outE
  rw [List.filter_append, List.filter_cons]
  cases e : meetR b q <;> simp
theorem metL_len (q : Int × Int × Int × Int) (vis : Go.Qd.BS) : (metL q vis).length ≤ vis.length := by unfold metL; rw [List.length_map]; exact List.length_filter_le _ _
theorem take_last {S : List (Int × Int × Int)} (h : 0 < (S.length : Int)) : S = S.take ((S.length : Nat) - 1 : Int).toNat ++ [S.getD ((S.length : Nat) - 1 : Int).toNat (0, 0, 0)] := by
  rw [← take_snoc (by omega), show ((S.length : Nat) - 1 : Int).toNat + 1 = S.length by omega, List.take_length]
theorem wk_last {m : Int × Int × Int × Int → Bool} {bs vis : Go.Qd.BS} {S : List (Int × Int × Int)} (h : Go.Qd.Wk m bs S vis) (h0 : 0 < (S.length : Int)) : Go.Qd.Wk m bs (S.take ((S.length : Nat) - 1 : Int).toNat ++ [S.getD ((S.length : Nat) - 1 : Int).toNat (0, 0, 0)]) vis := by
  rw [← take_last h0]; exact h
theorem wk_end {m : Int × Int × Int × Int → Bool} {bs vis : Go.Qd.BS} {S : List (Int × Int × Int)} (h : Go.Qd.Wk m bs S vis) (h0 : ¬ 0 < (S.length : Int)) : Go.Qd.Wk m bs [] vis := by
  have e : S = [] := List.length_eq_zero_iff.1 (by omega)
  rw [← e]; exact h
theorem pop_wgt {S : List (Int × Int × Int)} (h : 0 < (S.length : Int)) : Go.Qd.wgtS (S.take ((S.length : Nat) - 1 : Int).toNat) < Go.Qd.wgtS S := by
  conv => rhs; rw [take_last h]
  exact Go.Qd.wgt_pop
theorem push_wgt {S : List (Int × Int × Int)} {z : Int × Int × Int} (h : 0 < (S.length : Int)) (hz : z = S.getD ((S.length : Nat) - 1 : Int).toNat (0, 0, 0)) (hk : okC z = true) (hd : z.1 < 8) : Go.Qd.wgtS (S.take ((S.length : Nat) - 1 : Int).toNat ++ Go.Qd.kids z) < Go.Qd.wgtS S := by
  conv => rhs; rw [take_last h, ← hz]
  exact Go.Qd.wgt_push hk hd
theorem push_wk {m : Int × Int × Int × Int → Bool} {bs vis lf : Go.Qd.BS} {C : CM} {N : NM} {S1 : List (Int × Int × Int)} {z : Int × Int × Int} (h : Go.Qd.Wn m bs S1 z vis lf) (hl : lf = []) (t : Go.Qd.TI bs C N) (hd : z.1 < 8) : Go.Qd.Wk m bs (S1 ++ Go.Qd.kids z) vis := by subst hl; exact h.push t hd
theorem deep_wk {m : Int × Int × Int × Int → Bool} {bs vis lf : Go.Qd.BS} {C : CM} {N : NM} {S1 : List (Int × Int × Int)} {z : Int × Int × Int} (h : Go.Qd.Wn m bs S1 z vis lf) (hl : lf = []) (t : Go.Qd.TI bs C N) (hd : ¬ z.1 < 8) : Go.Qd.Wk m bs S1 vis := by subst hl; exact h.deep t hd
theorem nb_ff {b : Bool} (h : (!b) = true) : b = false := by cases b <;> simp_all
theorem put_self {N : NM} {z : Int × Int × Int} {v : NV} (hn : (N.map (·.1)).Nodup) (hv : Go.Px.getK N z = some v) : Go.Px.putK N z v = N := by
  unfold Go.Px.putK
  rw [if_pos (get_hasK hv)]
  refine (List.map_congr_left fun p hp => ?_).trans (List.map_id _)
  split
  · rename_i e
    have h2 : Go.Px.getK N z = some p.2 := (Go.Qd.get_mem hn).2 (by rw [← e]; exact hp)
    rw [hv] at h2
    rw [← e, Option.some.inj h2]; rfl
  · rfl
theorem perm_nil_len {α : Type} {l r : List α} {x : α} (h : l.Perm (x :: r)) : r.length < l.length := by rw [h.length_eq, List.length_cons]; omega
set_option maxHeartbeats 1000000 in
theorem kids_z (E : Nat → Addr) (c : Int × Int × Int) (h : okC c = true) : Does (Gm E) 48 (Sp0 [.agg [.int .i64 c.1, .int .i64 c.2.1, .int .i64 c.2.2]] [] 0 (.agg [.int .i64 (c.1 + 1), .int .i64 (2 * c.2.1), .int .i64 (2 * c.2.2), .int .i64 (c.1 + 1), .int .i64 (2 * c.2.1 + 1), .int .i64 (2 * c.2.2), .int .i64 (c.1 + 1), .int .i64 (2 * c.2.1), .int .i64 (2 * c.2.2 + 1), .int .i64 (c.1 + 1), .int .i64 (2 * c.2.1 + 1), .int .i64 (2 * c.2.2 + 1)])) := by
  rename okC c = true => h1
  refine fn_intro (gmOk E) 36 0 [] Tryz.func48 rfl rfl rfl rfl rfl ?_
  repeat' first | (intro h; first | (exfalso; omega; done) | skip) | (refine And.intro ?_ ?_) | exact True.intro | (refine @Exists.intro Unit _ () ?_) | (refine @Exists.intro (_ = _) _ rfl ?_) | (change DrawGoal _ _ _ _ _ _; first | (change DrawGoal _ _ _ ({ dst := some 6, op := _, type := _, pos := _, after := _, guard := _ } :: _) _ _; refine draw_tree (gmOk E) [0] (.leaf [(0, true), (1, true), (2, true), (3, true), (4, true), (5, true), (6, true), (7, true), (8, true), (9, true), (10, true), (11, true)]) (by kernel_rfl) ?_))
  all_goals first | rfl | omega | (have q := Go.Qd.okC_iff.1 h1; have q3 := pow_bd (d := c.1) (by omega); omega)

set_option maxHeartbeats 3000000 in
theorem walk_z (E : Nat → Addr) (bs : Go.Qd.BS) (N : NM) (C : CM) (q : Int × Int × Int × Int) (h : Go.Qd.TI bs C N ∧ bs.length ≤ 1000) : Does (Gm E) 26 ⟨[.ptr 0 0, .fn 27 [.ptr 3 0], .fn 30 [.ptr 3 0, .ptr 4 0]], [(0, .cells 65 [.mp 1, .mp 2]), (1, .pr (mObj (Enc.ag (Zz.encP Zz.encI (Zz.encP Zz.encI Zz.encI))) (fun v => grp (Gm E) (ndT v)) N)), (2, .pr (mapPr (Enc.ag (Zz.encP Zz.encI Zz.encI)) (Enc.ag (Zz.encP Zz.encI (Zz.encP Zz.encI Zz.encI))) C)), (3, .cells 30 [.int .i64 q.1, .int .i64 q.2.1, .int .i64 q.2.2.1, .int .i64 q.2.2.2]), (4, .cells 47 [.nils])], 5, 6, Go.Qd.BS × Nat, fun r => Go.Qd.Wk (fun b => meetR b q) bs [] r.1 ∧ (metL q r.1).length ≤ r.2, fun _ => .tup [], fun r => [(0, .cells 65 [.mp 1, .mp 2]), (1, .pr (mObj (Enc.ag (Zz.encP Zz.encI (Zz.encP Zz.encI Zz.encI))) (fun v => grp (Gm E) (ndT v)) N)), (2, .pr (mapPr (Enc.ag (Zz.encP Zz.encI Zz.encI)) (Enc.ag (Zz.encP Zz.encI (Zz.encP Zz.encI Zz.encI))) C)), (3, .cells 30 [.int .i64 q.1, .int .i64 q.2.1, .int .i64 q.2.2.1, .int .i64 q.2.2.2]), (4, .cells 47 [.sl 5 (metL q r.1).length r.2]), (5, .arr (Int × Int) (Zz.encP Zz.encI Zz.encI) 28 (metL q r.1) r.2)]⟩ := by
  obtain ⟨h1, h2⟩ := h
  refine fn_intro (gmOk E) 68 5 [12] Tryz.func26 rfl rfl rfl rfl rfl ?_
  repeat' first | (change CallGoal _ _ _ _ _ _; first | (change CallGoal _ 27 _ _ _ _; first | (refine call0 (enter_z E (x.1.1.getD ((x.1.1.length : Nat) - 1 : Int).toNat (0, 0, 0)) q ((wk_last hI.1 (by assumption)).ok _ (by simp))) [3] rfl (And.intro rfl True.intro) rfl ?_)) | (change CallGoal _ 30 _ _ _ _; first | (refine call_rule (each_z E k0 b0 q (metL q y.2.2.1) _ _ ⟨rfl, by have q1 := metL_len q y.2.2.1; have q2 := hJ.1.vlen (by intro e; rw [e] at hp; exact absurd hp.length_eq (by simp)); omega, hJ.2⟩) [3, 4, 26] rfl (And.intro rfl (And.intro rfl (And.intro rfl True.intro))) rfl (fun (k2 : Nat) hk2 => ?_))) | (change CallGoal _ 48 _ _ _ _; first | (refine call0 (kids_z E (x.1.1.getD ((x.1.1.length : Nat) - 1 : Int).toNat (0, 0, 0)) ((wk_last hI.1 (by assumption)).ok _ (by simp))) [] rfl True.intro rfl ?_))) | (change JoinGoal _ _ _ _ _ _ _ _; refine join_stop (gmOk E) ?_) | (change HereGoal _ _ _ _ _ _ _; first | (refine here_shrink 6 (x.1.1.take ((x.1.1.length : Nat) - 1 : Int).toNat) [(x.1.1.getD ((x.1.1.length : Nat) - 1 : Int).toNat (0, 0, 0))] rfl (take_last (by assumption)) ?_) | (refine here_go (gmOk E) ?_)) | (change NextGoal _ _ _; first | (refine next_close (Γ0 := Gm E) (tm := ndT) rfl v [23, 24] 1 rfl (And.intro rfl (And.intro rfl True.intro)) rfl (get_hasK hv) ?_) | (refine next_shrink 6 (x.1.1.take ((x.1.1.length : Nat) - 1 : Int).toNat) [(x.1.1.getD ((x.1.1.length : Nat) - 1 : Int).toNat (0, 0, 0))] rfl (take_last (by assumption)) ?_) | (refine next_go ?_)) | (intro h; first | (exfalso; omega; done) | skip) | (refine And.intro ?_ ?_) | exact True.intro | (refine @Exists.intro Unit _ () ?_) | (refine @Exists.intro (_ = _) _ rfl ?_) | (change OpGoal _ _ _ _ (.lookup 62 _ _ true) _; refine lookupO_rule mapN rfl 1 N (x.1.1.getD ((x.1.1.length : Nat) - 1 : Int).toNat (0, 0, 0)) 2 (fun _ => rfl) rfl rfl rfl (fun hn => ?_) (fun v hv => ?_)) | (change OpGoal _ _ _ _ (.range _ _) _; refine range_rule mapB 24 v.1 rfl rfl (fun ga => ?_)) | (change OpGoal _ _ _ _ (.next _ _) _; refine next_rule v.1 25 24 rfl rfl rfl rfl (fun hl => ?_) (fun k0 b0 left hp hm => ?_)) | (change OpGoal _ _ _ _ (.entry _) _; refine entry_rule 25 rfl rfl ?_) | (refine @Exists.intro (Go.Qd.BS × Nat) _ (x.2.1, x.2.2) ?_) | (change LoopGoal _ _ _ _ _ _; refine loop_at2 1 (gmOk E) rfl [12] (X := ((List (Int × Int × Int) × Nat) × Go.Qd.BS × Nat)) (fun x => [(6, .sl 6 x.1.1.length x.1.2)]) (fun x => [(6, .arr (Int × Int × Int) (Zz.encP Zz.encI (Zz.encP Zz.encI Zz.encI)) 55 x.1.1 x.1.2), (4, .cells 47 [.sl 7 (metL q x.2.1).length x.2.2]), (7, .arr (Int × Int) (Zz.encP Zz.encI Zz.encI) 28 (metL q x.2.1) x.2.2)]) [5] (fun x => Go.Qd.Wk (fun b => meetR b q) bs x.1.1 x.2.1 ∧ x.1.1.length ≤ x.1.2 ∧ (metL q x.2.1).length ≤ x.2.2 ∧ Go.Qd.wgtS x.1.1 ≤ 2000000) (fun x => Go.Qd.wgtS x.1.1) ⟨(([(0, 0, 0)], 1), [], 0), ?_⟩ (fun x hI => ?_)) | (change @Exists (((List (Int × Int × Int) × Nat) × Go.Qd.BS × Nat)) (fun _ => updK _ _ _ _ _ _); refine @Exists.intro (((List (Int × Int × Int) × Nat) × Go.Qd.BS × Nat)) _ (((?_, ?_), ?_, ?_)) ?_; rotate_left 4) | (change LoopGoal _ _ _ _ _ _; refine loop_at 7 (gmOk E) rfl [12] (X := (Go.Qd.BS × Option ((Int × Int) × Int × Int × Int × Int) × Go.Qd.BS × Nat)) (fun y => []) (fun y => [(25, .pr (iterPr (Enc.ag (Zz.encP Zz.encI Zz.encI)) (Enc.ag (Zz.encP Zz.encI (Zz.encP Zz.encI (Zz.encP Zz.encI Zz.encI)))) ga v.1 y.1 y.2.1)), (4, .cells 47 [.sl 26 (metL q y.2.2.1).length y.2.2.2]), (26, .arr (Int × Int) (Zz.encP Zz.encI Zz.encI) 28 (metL q y.2.2.1) y.2.2.2)]) [7] (fun y => Go.Qd.Wn (fun b => meetR b q) bs (x.1.1.take ((x.1.1.length : Nat) - 1 : Int).toNat) (x.1.1.getD ((x.1.1.length : Nat) - 1 : Int).toNat (0, 0, 0)) y.2.2.1 y.1 ∧ (metL q y.2.2.1).length ≤ y.2.2.2) (fun y => y.1.length) ⟨(v.1, none, x.2.1, x.2.2), ?_⟩ (fun y hJ => ?_)) | (change @Exists ((Go.Qd.BS × Option ((Int × Int) × Int × Int × Int × Int) × Go.Qd.BS × Nat)) (fun _ => updK _ _ _ _ _ _); refine @Exists.intro ((Go.Qd.BS × Option ((Int × Int) × Int × Int × Int × Int) × Go.Qd.BS × Nat)) _ ((?_, ?_, y.2.2.1 ++ [(k0, b0)], ?_)) ?_; rotate_left 3) | (change DrawGoal _ _ _ _ _ _; first | (change DrawGoal _ _ _ ({ dst := some 30, op := _, type := _, pos := _, after := _, guard := _ } :: _) _ _; refine draw_tree (gmOk E) [0, 22] (.leaf [(0, true), (1, true), (2, true), (3, true), (4, true), (5, false), (6, true), (7, true), (8, true), (9, true), (10, true)]) (by kernel_rfl) ?_))
  all_goals try (show Ch.arr _ _ _ _ _ = Ch.arr _ _ _ _ _; first | rfl | (rw [metL_snoc]; done))
  all_goals first
| (dsimp only; first | rfl | omega)
| rfl
| omega
| exact Nat.le_refl _
| assumption
| exact hI.1
| exact hI.2.1
| exact hI.2.2.1
| exact hI.2.2.2
| (rw [List.length_take]; omega)
| exact Nat.le_trans (List.length_take_le' _ _) hI.2.1
| (dsimp only; rw [List.length_take]; omega)
| (dsimp only; rw [metL_snoc]; done)
| (dsimp only; rw [metL_snoc]; assumption)
| (have q1 := Go.Qd.wgtS_len x.1.1; omega)
| (have q1 := Go.Qd.wgtS_len x.1.1; change _ * 24 ≤ _; omega)
| (have q1 := pop_wgt (S := x.1.1) (by assumption); dsimp only; omega)
| exact (wk_last hI.1 (by assumption)).no (no_meet h1 ((wk_last hI.1 (by assumption)).ok _ (by simp)) (nb_ff ‹(!_) = true›))
| exact deep_wk hJ.1 hl h1 ‹¬ _ < _›
| (dsimp only; rw [List.take_take, Nat.min_self]; first | exact push_wk hJ.1 hl h1 (by assumption) | exact push_wgt (by assumption) rfl ((wk_last hI.1 (by assumption)).ok _ (by simp)) (by assumption) | exact Nat.le_trans (Nat.le_of_lt (push_wgt (by assumption) rfl ((wk_last hI.1 (by assumption)).ok _ (by simp)) (by assumption))) hI.2.2.2)
| (dsimp only; rw [List.take_take, Nat.min_self, List.length_append, List.length_take]; simp only [List.length_cons, List.length_nil]; omega)
| exact wk_end hI.1 (by assumption)
| exact pop_wgt (by assumption)
| (have q1 := pop_wgt (S := x.1.1) (by assumption); omega)
| (show Go.Qd.wgtS _ ≤ 2000000; decide)
| exact hJ.2
| exact hJ.1
| exact Go.Qd.Wk.start h1
| exact (wk_last hI.1 (by assumption)).none h1 hn
| exact (wk_last hI.1 (by assumption)).enter h1 hv
| exact hJ.1.next hp
| exact perm_nil_len hp
| exact congrArg (fun q => Ch.pr (mObj _ _ q)) (put_self h1.nf.nd hv)

end Go.Proofs.YtpojafdllcioiaaGreatDoor

namespace Go.Proofs.YtpojafdllcioiaaGreatDoor
open Go.Zz Go.Px
open Go.Qd (okC okC_iff upC cellB okB okC_cell chain cnt1 cntL)
set_option linter.unusedVariables false
set_option linter.unusedSectionVars false
set_option linter.unusedSimpArgs false
set_option maxRecDepth 10000
theorem met_all {q : Int × Int × Int × Int} {bs vis : Go.Qd.BS} (h : Go.Qd.Wk (fun b => meetR b q) bs [] vis) : ordS ltH (metL q vis) = ordS ltH (metL q bs) := ordS_ext ordH fun x => h.done.mem_iff
theorem Does.weakX {Γ : Ctx} {f : FuncId} {args : List SV} {H : Hp} {n0 n1 : Nat} {X Y : Type} {cond : X → Prop} {ret : X → SV} {post : X → Hp} {cond' : Y → Prop} {ret' : Y → SV} {post' : Y → Hp} (g : X → Y) (h : Does Γ f ⟨args, H, n0, n1, X, cond, ret, post⟩) (hc : ∀ x, cond x → cond' (g x)) (hr : ∀ x, ret' (g x) = ret x) (hp : ∀ x, post' (g x) = post x) :
    Does Γ f ⟨args, H, n0, n1, Y, cond', ret', post'⟩ := by
  refine ⟨h.1, h.2.1, h.2.2.1, fun V w hw => ?_⟩
  obtain ⟨R, hR, hq⟩ := h.2.2.2 V w hw
  refine ⟨R, hR, fun v w' hv => ?_⟩
  obtain ⟨x, V', h1, h2, h3, h4, h5⟩ := hq v w' hv
  refine ⟨g x, V', hc x h1, ?_, ?_, h4, ?_⟩
  · show v = (ret' (g x)).den _ _; rw [hr]; exact h2
  · show (ret' (g x)).bd n1; rw [hr]; exact h3
  · show HpOk Γ _ V' n1 (post' (g x)) w'; rw [hp]; exact h5
set_option maxHeartbeats 2000000 in
theorem meeting_z (E : Nat → Addr) (bs : Go.Qd.BS) (N : NM) (C : CM) (q : Int × Int × Int × Int) (h : Go.Qd.TI bs C N ∧ bs.length ≤ 1000 ∧ rightP q) : Does (Gm E) 13 ⟨[.ptr 0 0, .agg [.int .i64 q.1, .int .i64 q.2.1, .int .i64 q.2.2.1, .int .i64 q.2.2.2]], [(0, .cells 65 [.mp 1, .mp 2]), (1, .pr (mObj (Enc.ag (Zz.encP Zz.encI (Zz.encP Zz.encI Zz.encI))) (fun v => grp (Gm E) (ndT v)) N)), (2, .pr (mapPr (Enc.ag (Zz.encP Zz.encI Zz.encI)) (Enc.ag (Zz.encP Zz.encI (Zz.encP Zz.encI Zz.encI))) C))], 3, 4, Nat, fun _ => True, fun k => .tup [.sl 3 (ordS ltH (metL q bs)).length k, .nili], fun k => [(0, .cells 65 [.mp 1, .mp 2]), (1, .pr (mObj (Enc.ag (Zz.encP Zz.encI (Zz.encP Zz.encI Zz.encI))) (fun v => grp (Gm E) (ndT v)) N)), (2, .pr (mapPr (Enc.ag (Zz.encP Zz.encI Zz.encI)) (Enc.ag (Zz.encP Zz.encI (Zz.encP Zz.encI Zz.encI))) C)), (3, .arr (Int × Int) (Zz.encP Zz.encI Zz.encI) 28 (ordS ltH (metL q bs)) k)]⟩ := by
  obtain ⟨h1, h2, h3⟩ := h
  refine fn_intro (gmOk E) 17 3 [] Tryz.func13 rfl rfl rfl rfl rfl ?_
  repeat' first | (intro h; first | (exfalso; omega; done) | (exfalso; exact h h3; done) | skip) | (refine And.intro ?_ ?_) | exact True.intro | (refine @Exists.intro Unit _ () ?_) | (refine @Exists.intro (_ = _) _ rfl ?_) | (refine @Exists.intro (Nat) _ ?_ ?_; rotate_left) | (change CallGoal _ _ _ _ _ _; first | (refine call_rule (walk_z E bs N C q ⟨h1, h2⟩) [0, 1, 2, 3, 4] rfl (And.intro rfl (And.intro rfl (And.intro rfl (And.intro rfl (And.intro rfl True.intro))))) rfl (fun (r : Go.Qd.BS × Nat) hr => ?_)) | (refine call_rule (handles_z E (metL q r.1) _ _ ⟨rfl, ?_⟩) [5] rfl (And.intro rfl True.intro) rfl (fun (q2 : Nat) hq2 => ?_))) | (change CallGoal _ _ _ _ _ _; first | (refine call0 (right_z E q) [] rfl True.intro rfl ?_))
  all_goals first
| rfl
| omega
| (have q1 := metL_len q r.1; have q2 := hr.1.vlen; omega)
| exact congrArg List.length (met_all hr.1)
| (rw [met_all hr.1]; done)
| (rw [← met_all hr.1]; done)

set_option maxHeartbeats 1000000 in
theorem tlen_z (E : Nat → Addr) (C : CM) (h : C.length ≤ 1000) : Does (Gm E) 37 (Sp0 [.ptr 0 0] [(0, .cells 65 [.mp 1, .mp 2]), (2, .pr (mapPr (Enc.ag (Zz.encP Zz.encI Zz.encI)) (Enc.ag (Zz.encP Zz.encI (Zz.encP Zz.encI Zz.encI))) C))] 3 (.int .i64 (C.length : Nat))) := by
  refine fn_intro (gmOk E) 8 3 [] Tryz.func37 rfl rfl rfl rfl rfl ?_
  repeat' first | (intro h; first | (exfalso; omega; done) | skip) | (refine And.intro ?_ ?_) | exact True.intro | (refine @Exists.intro Unit _ () ?_) | (refine @Exists.intro (_ = _) _ rfl ?_) | (change RdGoal _ _ _ _ _; refine maplen_rule mapC 2 C rfl rfl ?_)
  all_goals first | rfl | omega

section
variable {l : List (Int × Int)} {i : Int} {h0 : Int × Int}
theorem has_yes (hi : 0 ≤ i) (hn : i < (l.length : Nat)) (e : l.getD i.toNat (0, 0) = h0) : h0 ∈ l := by
  rw [← e, List.getD_eq_getElem?_getD, List.getElem?_eq_getElem (by omega)]; exact List.getElem_mem _
theorem has_no (hi : 0 ≤ i) (hn : i < (l.length : Nat)) (h : h0 ∉ l.take i.toNat) (e : ¬ l.getD i.toNat (0, 0) = h0) : h0 ∉ l.take (i + 1).toNat := by
  rw [show (i + 1).toNat = i.toNat + 1 by omega, take_snoc (d := (0, 0)) (by omega), List.mem_append, List.mem_singleton]
  exact fun q => q.elim h fun q => e q.symm
theorem has_end (hi : i ≤ (l.length : Nat)) (hn : ¬ i < (l.length : Nat)) (h : h0 ∉ l.take i.toNat) : h0 ∉ l := by rw [List.take_of_length_le (by omega)] at h; exact h
end
section
variable {R : BRel} {i : Int} {C : CM} {N : NM}
/-- Meeting, by what is held. -/
theorem meeting_t (E : Nat → Addr) (t : TreeR R i C N) (hi : i ≤ 1000) {q : Int × Int × Int × Int} (hq : rightP q) : Does (Gm E) 13 ⟨[.ptr 0 0, .agg [.int .i64 q.1, .int .i64 q.2.1, .int .i64 q.2.2.1, .int .i64 q.2.2.2]], [(0, .cells 65 [.mp 1, .mp 2]), (1, .pr (mObj (Enc.ag (Zz.encP Zz.encI (Zz.encP Zz.encI Zz.encI))) (fun v => grp (Gm E) (ndT v)) N)), (2, .pr (mapPr (Enc.ag (Zz.encP Zz.encI Zz.encI)) (Enc.ag (Zz.encP Zz.encI (Zz.encP Zz.encI Zz.encI))) C))], 3, 4, List (Int × Int) × Nat, fun y => (∀ h, h ∈ y.1 ↔ ∃ b, R h b ∧ meetR b q = true) ∧ y.1.Nodup ∧ y.1.length ≤ 1000, fun y => .tup [.sl 3 y.1.length y.2, .nili], fun y => [(0, .cells 65 [.mp 1, .mp 2]), (1, .pr (mObj (Enc.ag (Zz.encP Zz.encI (Zz.encP Zz.encI Zz.encI))) (fun v => grp (Gm E) (ndT v)) N)), (2, .pr (mapPr (Enc.ag (Zz.encP Zz.encI Zz.encI)) (Enc.ag (Zz.encP Zz.encI (Zz.encP Zz.encI Zz.encI))) C)), (3, .arr (Int × Int) (Zz.encP Zz.encI Zz.encI) 28 y.1 y.2)]⟩ := by
  obtain ⟨bs, h1, h2, h3⟩ := t.ex
  refine Does.weakX (fun k : Nat => (ordS ltH (metL q bs), k)) (meeting_z E bs N C q ⟨h1, by omega, hq⟩) (fun _ _ => ⟨fun h => ?_, Rises.nodup ordH (ordS_rises ordH _), ?_⟩) (fun _ => rfl) (fun _ => rfl)
  · rw [mem_ordS]
    unfold metL
    rw [List.mem_map]
    constructor
    · rintro ⟨p, hp, rfl⟩
      have hp := List.mem_filter.1 hp
      exact ⟨p.2, (h2 _ _).2 hp.1, hp.2⟩
    · rintro ⟨b, hb, hm⟩
      exact ⟨(h, b), List.mem_filter.2 ⟨(h2 _ _).1 hb, hm⟩, rfl⟩
  · have q1 := ordS_len (lt := ltH) (metL q bs); have q2 := metL_len q bs; dsimp only; omega
/-- Drop, by what is held. -/
theorem drop_t (E : Nat → Addr) (t : TreeR R i C N) (hi : i ≤ 1000) (hh : Int × Int) {b : Bx} (hb : R hh b) : Does (Gm E) 11 ⟨[.ptr 0 0, .agg [.int .i64 hh.1, .int .i64 hh.2]], [(0, .cells 65 [.mp 1, .mp 2]), (1, .pr (mObj (Enc.ag (Zz.encP Zz.encI (Zz.encP Zz.encI Zz.encI))) (fun v => grp (Gm E) (ndT v)) N)), (2, .pr (mapPr (Enc.ag (Zz.encP Zz.encI Zz.encI)) (Enc.ag (Zz.encP Zz.encI (Zz.encP Zz.encI Zz.encI))) C))], 3, 3, CM × NM, fun y => TreeR (CutR R hh) i y.1 y.2, fun _ => .nili, fun y => [(0, .cells 65 [.mp 1, .mp 2]), (1, .pr (mObj (Enc.ag (Zz.encP Zz.encI (Zz.encP Zz.encI Zz.encI))) (fun v => grp (Gm E) (ndT v)) y.2)), (2, .pr (mapPr (Enc.ag (Zz.encP Zz.encI Zz.encI)) (Enc.ag (Zz.encP Zz.encI (Zz.encP Zz.encI Zz.encI))) y.1))]⟩ := by
  obtain ⟨bs, h1, h2, h3⟩ := t.ex
  have hm := (h2 _ _).1 hb
  obtain ⟨v, hv⟩ := Go.Qd.get_has (h1.node hm)
  have hl := cut_len bs hh
  refine Does.weak (_, _) (drop_some E N C hh (cellB b) v ⟨h1.at hm, hv, Go.Qd.okC_cell (h1.ok _ hm), ti_cb h1 (by omega), h1.nf.nd⟩) ⟨_, h1.drop hm hv, fun a c => ?_, by omega⟩ rfl
  rw [Go.Qd.del_mem]
  unfold CutR
  exact ⟨fun q => ⟨(h2 _ _).1 q.2, q.1⟩, fun q => ⟨q.2, (h2 _ _).2 q.1⟩⟩
theorem TreeR.hand (t : TreeR R i C N) (h : Int × Int) : h ∈ C.map (·.1) ↔ ∃ b, R h b := by
  obtain ⟨bs, h1, h2, h3⟩ := t.ex
  rw [h1.cs, List.map_map]
  constructor
  · intro q
    obtain ⟨p, hp, rfl⟩ := List.mem_map.1 q
    exact ⟨p.2, (h2 _ _).2 hp⟩
  · rintro ⟨b, hb⟩
    exact List.mem_map.2 ⟨(h, b), (h2 _ _).1 hb, rfl⟩
theorem TreeR.cnd (t : TreeR R i C N) : (C.map (·.1)).Nodup := by
  obtain ⟨bs, h1, h2, h3⟩ := t.ex
  rw [h1.cs, List.map_map]; exact h1.nd
theorem TreeR.okb (t : TreeR R i C N) {h : Int × Int} {b : Bx} (hb : R h b) : okP b := by
  obtain ⟨bs, h1, h2, h3⟩ := t.ex
  exact h1.ok _ ((h2 _ _).1 hb)
/-- A tree of no boxes has one node. -/
theorem TreeR.bare (t : TreeR R i C N) (hn : ∀ h b, ¬ R h b) (p : (Int × Int × Int) → Nat) : (ordS ltC ((N.map fun x => (x.1, some (p x.1))).map (·.1))).length = 1 ∧ C.length = 0 := by
  obtain ⟨bs, h1, h2, h3⟩ := t.ex
  have e : bs = [] := List.eq_nil_iff_forall_not_mem.2 fun x hx => hn x.1 x.2 ((h2 _ _).2 hx)
  subst e
  refine ⟨?_, by rw [h1.cs]; rfl⟩
  have hk : ordS ltC ((N.map fun x => (x.1, some (p x.1))).map (·.1)) = ordS ltC [(0, 0, 0)] := ordS_ext ordC fun z => by
    rw [List.map_map, List.mem_singleton]
    show z ∈ N.map (·.1) ↔ _
    rw [← hasK_iff, h1.nf.ex z]
    exact ⟨fun q => q.elim id fun q => absurd rfl q, .inl⟩
  rw [hk]; rfl
end
end Go.Proofs.YtpojafdllcioiaaGreatDoor

namespace Go.Proofs.YtpojafdllcioiaaGreatDoor
open Go.Zz Go.Px
open Go.Qd (okC okC_iff upC cellB okB okC_cell chain cnt1 cntL)
set_option linter.unusedVariables false
set_option linter.unusedSectionVars false
set_option linter.unusedSimpArgs false
set_option maxRecDepth 10000
/-- So far all come ahead. -/
structure Fi {α : Type} (lt : α → α → Bool) (d : α) (out : List α) (q : α) (j : Int) : Prop where
  lo : 0 ≤ j
  hi : j ≤ (out.length : Nat)
  all : ∀ t, t < j.toNat → lt (out.getD t d) q = true
section
variable {α : Type} [DecidableEq α] {lt : α → α → Bool} {d : α} {out : List α} {q : α} {j : Int}
theorem Fi.start : Fi lt d out q 0 := ⟨Int.le_refl _, by omega, fun t h => by simp at h⟩
theorem Fi.next (h : Fi lt d out q j) (hj : j < (out.length : Nat)) (hl : lt (out.getD j.toNat d) q = true) : Fi lt d out q (j + 1) := ⟨by have := h.lo; omega, by omega, fun t ht => by
  have := h.lo
  by_cases e : t = j.toNat
  · exact e ▸ hl
  · exact h.all t (by omega)⟩
theorem Fi.pos (h : Fi lt d out q j) (hn : j < (out.length : Nat) → lt (out.getD j.toNat d) q = false) : pos lt out q = j.toNat :=
  (pos_unique (d := d) (by have := h.hi; omega) h.all fun hl => hn (by have := h.lo; omega)).symm
end
theorem ins_eq {α : Type} {A : List α} {q : α} {y : Nat} : A.take y ++ (([q].take 1 ++ (A.drop y).take (A.length - y)).take (1 + (A.length - y))) = A.take y ++ q :: A.drop y := by
  show A.take y ++ (q :: (A.drop y).take (A.length - y)).take (1 + (A.length - y)) = _
  rw [List.take_of_length_le (l := A.drop y) (by rw [List.length_drop]; omega), List.take_of_length_le (l := q :: A.drop y) (by rw [List.length_cons, List.length_drop]; omega)]
theorem ins_len {α : Type} {A : List α} {q : α} {y : Nat} (h : y ≤ A.length) : (A.take y ++ q :: A.drop y).length = y + (1 + (A.length - y)) := by
  rw [List.length_append, List.length_take, List.length_cons, List.length_drop]; omega
theorem ins_len2 {α : Type} {A : List α} {q : α} {y : Nat} : 1 + (A.length - y) ≤ ([q].take 1 ++ (A.drop y).take (A.length - y)).length := by
  rw [List.length_append, List.length_take, List.length_take, List.length_drop]; simp only [List.length_singleton]; omega
section
variable {β : Type} {m : List ((Int × Int) × β)} {hh : Int × Int} {i : Int} {d : (Int × Int) × β}
/-- What a list of named things is without one name's. -/
def dropK (hh : Int × Int) (m : List ((Int × Int) × β)) : List ((Int × Int) × β) := m.filter fun s => !decide (s.1 = hh)
theorem dropK_len (hh : Int × Int) (m : List ((Int × Int) × β)) : (dropK hh m).length ≤ m.length := List.length_filter_le _ _
theorem dropK_in (h0 : 0 ≤ i) (h : i < (m.length : Nat)) (he : ¬ (m.getD i.toNat d).1 = hh) : dropK hh (m.take (i + 1).toNat) = dropK hh (m.take i.toNat) ++ [m.getD i.toNat d] := by
  unfold dropK
  rw [show (i + 1).toNat = i.toNat + 1 by omega, take_snoc (d := d) (by omega), List.filter_append, List.filter_cons, decide_eq_false he]
  simp
theorem dropK_out (h0 : 0 ≤ i) (h : i < (m.length : Nat)) (he : (m.getD i.toNat d).1 = hh) : dropK hh (m.take (i + 1).toNat) = dropK hh (m.take i.toNat) := by
  unfold dropK
  rw [show (i + 1).toNat = i.toNat + 1 by omega, take_snoc (d := d) (by omega), List.filter_append, List.filter_cons, decide_eq_true he]
  simp
theorem dropK_end (h1 : i ≤ (m.length : Nat)) (h2 : ¬ i < (m.length : Nat)) : dropK hh (m.take i.toNat) = dropK hh m := by rw [List.take_of_length_le (by omega)]
theorem dropK_tlen : (dropK hh (m.take i.toNat)).length ≤ m.length := Nat.le_trans (dropK_len _ _) (by rw [List.length_take]; omega)
end
abbrev Boxes := List ((Int × Int) × Int × Int × Int × Int)
def dropB (hh : Int × Int) (m : Boxes) : Boxes := dropK hh m
def putB (m : Boxes) (s : (Int × Int) × Int × Int × Int × Int) : Boxes := dropB s.1 m ++ [s]
theorem dropB_len (hh : Int × Int) (m : Boxes) : (dropB hh m).length ≤ m.length := dropK_len _ _
theorem putB_len (m : Boxes) (s : (Int × Int) × Int × Int × Int × Int) : (putB m s).length ≤ m.length + 1 := by unfold putB; rw [List.length_append]; have := dropB_len s.1 m; simp only [List.length_singleton]; omega
set_option maxHeartbeats 1000000 in
theorem rdropb_z (E : Nat → Addr) (m : Boxes) (n k : Nat) (hh : Int × Int) (h : n = m.length ∧ m.length ≤ 1000) : Does (Gm E) 10 ⟨[.sl 0 n k, .agg [.int .i64 hh.1, .int .i64 hh.2]], [(0, .arr ((Int × Int) × Int × Int × Int × Int) (Zz.encP (Zz.encP Zz.encI Zz.encI) (Zz.encP Zz.encI (Zz.encP Zz.encI (Zz.encP Zz.encI Zz.encI)))) 43 m k)], 1, 2, Nat, fun k1 => (dropB hh m).length ≤ k1, fun k1 => .sl 1 (dropB hh m).length k1, fun k1 => [(0, .arr ((Int × Int) × Int × Int × Int × Int) (Zz.encP (Zz.encP Zz.encI Zz.encI) (Zz.encP Zz.encI (Zz.encP Zz.encI (Zz.encP Zz.encI Zz.encI)))) 43 m k), (1, .arr ((Int × Int) × Int × Int × Int × Int) (Zz.encP (Zz.encP Zz.encI Zz.encI) (Zz.encP Zz.encI (Zz.encP Zz.encI (Zz.encP Zz.encI Zz.encI)))) 43 (dropB hh m) k1)]⟩ := by
  obtain ⟨rfl, hm⟩ := h
  refine fn_intro (gmOk E) 25 1 [] Tryz.func10 rfl rfl rfl rfl rfl ?_
  repeat' first | (intro h; first | (exfalso; omega; done) | (exfalso; exact h trivial; done) | skip) | (refine And.intro ?_ ?_) | exact True.intro | (refine @Exists.intro Unit _ () ?_) | (refine @Exists.intro (_ = _) _ rfl ?_) | (change LoopGoal _ _ _ _ _ _; refine loop_at 3 (gmOk E) rfl [] (X := (Int × Nat)) (fun x => [(11, .int .i64 x.1), (5, .sl 3 (dropK hh (m.take x.1.toNat)).length x.2)]) (fun x => [(3, .arr ((Int × Int) × Int × Int × Int × Int) (Zz.encP (Zz.encP Zz.encI Zz.encI) (Zz.encP Zz.encI (Zz.encP Zz.encI (Zz.encP Zz.encI Zz.encI)))) 43 (dropK hh (m.take x.1.toNat)) x.2)]) [2] (fun x => 0 ≤ x.1 ∧ x.1 ≤ (m.length : Nat) ∧ (dropK hh (m.take x.1.toNat)).length ≤ x.2) (fun x => m.length - x.1.toNat) ⟨(0, 0), ?_⟩ (fun x hI => ?_)) | (change @Exists ((Int × Nat)) (fun _ => updK _ _ _ _ _ _); refine @Exists.intro ((Int × Nat)) _ ((?_, ?_)) ?_; rotate_left 2) | (refine @Exists.intro (Nat) _ ?_ ?_; rotate_left)
  all_goals first
    | (dsimp only; first | rfl | omega)
    | rfl
    | omega
    | exact Nat.le_refl _
    | (have q : (dropK hh (m.take x.1.toNat)).length ≤ m.length := dropK_tlen; first | omega | (change (_ + 1) * 48 ≤ _; omega))
    | (rw [show dropB hh m = dropK hh m from rfl, ← dropK_end hI.2.1 ‹¬ x.1 < _›]; exact hI.2.2)
    | exact congrArg List.length (dropK_end hI.2.1 ‹¬ x.1 < _›)
    | exact congrArg (fun q => Ch.arr _ _ _ q _) (dropK_end hI.2.1 ‹¬ x.1 < _›)
    | (have e := dropK_in (m := m) (d := ((0, 0), 0, 0, 0, 0)) hI.1 ‹x.1 < _› (fun e => ‹¬ (_ ∧ _)› (pt_eq.1 e)); dsimp only; rw [e]; first | (rw [List.length_append]; first | rfl | exact h) | (rw [List.take_length]; rfl))
    | (have e := dropK_in (m := m) (d := ((0, 0), 0, 0, 0, 0)) hI.1 ‹x.1 < _› (fun e => absurd (pt_eq.1 e) (by simpa using h)); dsimp only; rw [e]; first | (rw [List.length_append]; rfl) | (rw [List.take_length]; rfl))
    | (have e := dropK_out (m := m) (d := ((0, 0), 0, 0, 0, 0)) hI.1 ‹x.1 < _› (pt_eq.2 (Classical.not_not.1 h)); dsimp only; rw [e]; first | done | exact hI.2.2)
    | (have e := dropK_out (m := m) (d := ((0, 0), 0, 0, 0, 0)) hI.1 ‹x.1 < _› (pt_eq.2 (by simpa using h)); dsimp only; rw [e])
set_option maxHeartbeats 1000000 in
theorem rputb_z (E : Nat → Addr) (m : Boxes) (n k : Nat) (s : (Int × Int) × Int × Int × Int × Int) (h : n = m.length ∧ m.length ≤ 1000) : Does (Gm E) 9 ⟨[.sl 0 n k, .agg [.int .i64 s.1.1, .int .i64 s.1.2, .int .i64 s.2.1, .int .i64 s.2.2.1, .int .i64 s.2.2.2.1, .int .i64 s.2.2.2.2]], [(0, .arr ((Int × Int) × Int × Int × Int × Int) (Zz.encP (Zz.encP Zz.encI Zz.encI) (Zz.encP Zz.encI (Zz.encP Zz.encI (Zz.encP Zz.encI Zz.encI)))) 43 m k)], 1, 2, Nat, fun k1 => (putB m s).length ≤ k1, fun k1 => .sl 1 (putB m s).length k1, fun k1 => [(0, .arr ((Int × Int) × Int × Int × Int × Int) (Zz.encP (Zz.encP Zz.encI Zz.encI) (Zz.encP Zz.encI (Zz.encP Zz.encI (Zz.encP Zz.encI Zz.encI)))) 43 m k), (1, .arr ((Int × Int) × Int × Int × Int × Int) (Zz.encP (Zz.encP Zz.encI Zz.encI) (Zz.encP Zz.encI (Zz.encP Zz.encI (Zz.encP Zz.encI Zz.encI)))) 43 (putB m s) k1)]⟩ := by
  obtain ⟨rfl, hm⟩ := h
  refine fn_intro (gmOk E) 14 1 [] Tryz.func9 rfl rfl rfl rfl rfl ?_
  repeat' first | (intro h; first | (exfalso; omega; done) | (exfalso; exact h trivial; done) | skip) | (refine And.intro ?_ ?_) | exact True.intro | (refine @Exists.intro Unit _ () ?_) | (refine @Exists.intro (_ = _) _ rfl ?_) | (refine @Exists.intro (Nat) _ ?_ ?_; rotate_left) | (change CallGoal _ _ _ _ _ _; first | (refine call_rule (rdropb_z E m _ k s.1 ⟨rfl, hm⟩) [0] rfl (And.intro rfl True.intro) rfl (fun (r1 : Nat) hr1 => ?_)))
  all_goals first
    | (dsimp only; first | rfl | omega)
    | rfl
    | omega
    | exact Nat.le_refl _
    | (have q := dropB_len s.1 m; first | omega | (change (_ + 1) * 48 ≤ _; omega))
    | (unfold putB; rw [List.length_append]; first | rfl | exact h | assumption)
    | (unfold putB; rw [List.take_length]; rfl)
section
variable {l : List (Int × Int)} {q : Int × Int} {i : Int}
theorem puth_in (hl : Rises ltH l) (hf : Fi ltH (0, 0) l q i) (hn : ¬ i < (l.length : Nat) ∨ ltH (l.getD i.toNat (0, 0)) q = false) (hs : i < (l.length : Nat) ∧ (l.getD i.toNat (0, 0)).1 = q.1 ∧ (l.getD i.toNat (0, 0)).2 = q.2) : putS ltH l q = l := by
  have e := hf.pos fun hj => hn.elim (fun k => absurd hj k) id
  exact putS_in ((pos_mem ordH hl q (0, 0)).2 ⟨by rw [e]; have := hf.lo; omega, by rw [e]; exact pt_eq'.1 hs.2⟩)
theorem puth_out (hl : Rises ltH l) (hf : Fi ltH (0, 0) l q i) (hn : ¬ i < (l.length : Nat) ∨ ltH (l.getD i.toNat (0, 0)) q = false) (hs : ¬ (i < (l.length : Nat) ∧ (l.getD i.toNat (0, 0)).1 = q.1 ∧ (l.getD i.toNat (0, 0)).2 = q.2)) : putS ltH l q = l.take i.toNat ++ q :: l.drop i.toNat := by
  have e := hf.pos fun hj => hn.elim (fun k => absurd hj k) id
  rw [putS_out (fun hm => ?_), e]
  have := (pos_mem ordH hl q (0, 0)).1 hm
  rw [e] at this
  exact hs ⟨by omega, pt_eq'.2 this.2⟩
theorem ins3_len {α : Type} {l R : List α} {q : α} {y : Nat} (h : y ≤ l.length) (e : R = l.take y ++ q :: l.drop y) : 0 + y + 1 + (l.length - y) = R.length := by
  rw [e, List.length_append, List.length_take, List.length_cons, List.length_drop]; omega
theorem ins3_a {α : Type} {l : List α} {y : Nat} (h : y ≤ l.length) : 0 + y ≤ (([] : List α).take 0 ++ l.take y).length := by
  rw [List.take_zero, List.nil_append, List.length_take]; omega
theorem ins3_b {α : Type} {l : List α} {q : α} {y : Nat} (h : y ≤ l.length) : 0 + y + 1 ≤ ((([] : List α).take 0 ++ l.take y).take (0 + y) ++ [q].take 1).length := by
  rw [List.take_zero, List.nil_append, List.length_append, List.length_take, List.length_take, List.length_take]; simp only [List.length_singleton]; omega
theorem ins3_eq {α : Type} {l R : List α} {q : α} {y : Nat} (h : y ≤ l.length) (e : R = l.take y ++ q :: l.drop y) : (((([] : List α).take 0 ++ l.take y).take (0 + y) ++ [q].take 1).take (0 + y + 1) ++ (l.drop y).take (l.length - y)) = R := by
  rw [e, List.take_of_length_le (l := l.drop y) (by rw [List.length_drop]; omega), List.take_zero, List.nil_append, List.take_of_length_le (l := l.take y) (by rw [List.length_take]; omega), List.take_of_length_le (l := [q]) (by simp),
    List.take_of_length_le (by rw [List.length_append, List.length_take, List.length_singleton]; omega), List.append_assoc, List.singleton_append]
/-- The handles of a list, so far: in order, each once. -/
def OH (l : List (Int × Int)) (i : Int) : List (Int × Int) := ordS ltH (l.take i.toNat)
theorem OH_rises : Rises ltH (OH l i) := ordS_rises ordH _
theorem OH_len : (OH l i).length ≤ l.length := by
  have := ordS_len (lt := ltH) (l.take i.toNat); rw [List.length_take] at this; unfold OH; omega
theorem OH_next (h0 : 0 ≤ i) (h : i < (l.length : Nat)) : OH l (i + 1) = putS ltH (OH l i) (l.getD i.toNat (0, 0)) := by
  unfold OH; rw [show (i + 1).toNat = i.toNat + 1 by omega, take_snoc (d := (0, 0)) (by omega), ordS_snoc]
theorem OH_end (h1 : i ≤ (l.length : Nat)) (h2 : ¬ i < (l.length : Nat)) : OH l i = ordS ltH l := by unfold OH; rw [List.take_of_length_le (by omega)]
end
set_option maxHeartbeats 1000000 in
theorem rputh_z (E : Nat → Addr) (l : List (Int × Int)) (q : Int × Int) (n k : Nat) (h : n = l.length ∧ l.length ≤ 1000000 ∧ l.length ≤ k ∧ Rises ltH l) : Does (Gm E) 52 ⟨[.sl 0 n k, .agg [.int .i64 q.1, .int .i64 q.2]], [(0, .arr (Int × Int) (Zz.encP Zz.encI Zz.encI) 28 l k)], 1, 2, Nat, fun k1 => (putS ltH l q).length ≤ k1, fun k1 => .sl 1 (putS ltH l q).length k1, fun k1 => [(1, .arr (Int × Int) (Zz.encP Zz.encI Zz.encI) 28 (putS ltH l q) k1)]⟩ := by
  obtain ⟨rfl, hm, hk, hl⟩ := h
  refine fn_intro (gmOk E) 48 1 [] Tryz.func52 rfl rfl rfl rfl rfl ?_
  repeat' first | (intro h; first | (exfalso; omega; done) | skip) | (refine And.intro ?_ ?_) | exact True.intro | (refine @Exists.intro Unit _ () ?_) | (refine @Exists.intro (_ = _) _ rfl ?_) | (change LoopGoal _ _ _ _ _ _; refine loop_at 2 (gmOk E) rfl [] (X := Int) (fun i => [(5, .int .i64 i)]) (fun i => []) [] (fun i => Fi ltH (0, 0) l q i) (fun i => l.length - i.toNat) ⟨0, ?_⟩ (fun i hI => ?_)) | (change @Exists (Int) (fun _ => updK _ _ _ _ _ _); refine @Exists.intro (Int) _ ((?_)) ?_; rotate_left 1) | (change DrawGoal _ _ _ _ _ _; first | (change DrawGoal _ _ _ ({ dst := some 7, op := _, type := _, pos := _, after := _, guard := _ } :: _) _ _; refine draw_tree (gmOk E) [0, 1] (.leaf [(0, true), (1, true), (2, true), (3, true), (4, true), (5, true), (6, true), (7, true), (8, true), (9, true), (10, false), (11, true)]) (by kernel_rfl) ?_) | (change DrawGoal _ _ _ ({ dst := some 21, op := _, type := _, pos := _, after := _, guard := _ } :: _) _ _; refine draw_tree (gmOk E) [0, 1] (.leaf [(0, true), (1, true), (2, true), (3, true), (4, true), (5, true), (6, true), (7, true), (8, true), (9, true), (10, true), (11, true)]) (by kernel_rfl) ?_)) | (refine @Exists.intro (Nat) _ ?_ ?_; rotate_left) | (change CallGoal _ _ _ _ _ _; first | (refine call0 (ref02less_z E (l.getD i.toNat (0, 0)) q) [] rfl True.intro rfl ?_))
  all_goals first
| (dsimp only; first | rfl | omega)
| rfl
| omega
| exact Fi.start
| exact hI.next ‹_› ‹_›
| (have q1 := hI.lo; have q2 := hI.hi; omega)
| exact Nat.le_refl 1
| (have e := puth_in hl hI (by first | exact .inl ‹_› | exact .inr ‹_›) ‹_›; first | exact (congrArg List.length e).symm | exact congrArg (fun q => Ch.arr _ _ _ q _) e.symm | (rw [e]; exact hk) | exact Nat.le_trans (Nat.le_of_eq (congrArg List.length e)) hk)
| (have q1 := hI.lo; have q2 := hI.hi; first | exact ins3_a (l := l) (y := i.toNat) (by omega) | exact ins3_b (l := l) (q := q) (y := i.toNat) (by omega) | (change _ * 16 ≤ _; omega))
| (have e := puth_out hl hI (by first | exact .inl ‹_› | exact .inr ‹_›) ‹_›; have q1 := hI.lo; have q2 := hI.hi; exact (ins3_len (by omega) e))
| (have e := puth_out hl hI (by first | exact .inl ‹_› | exact .inr ‹_›) ‹_›; have q1 := hI.lo; have q2 := hI.hi; refine Nat.le_trans (Nat.le_of_eq (ins3_len (by omega) e).symm) ‹_›)
| (have e := puth_out hl hI (by first | exact .inl ‹_› | exact .inr ‹_›) ‹_›; have q1 := hI.lo; have q2 := hI.hi; exact congrArg (fun q => Ch.arr _ _ _ q _) (ins3_eq (l := l) (q := q) (y := i.toNat) (by omega) e))

set_option maxHeartbeats 1000000 in
theorem rhand_z (E : Nat → Addr) (l : List (Int × Int)) (n k : Nat) (h : n = l.length ∧ l.length ≤ 1000000) : Does (Gm E) 33 ⟨[.sl 0 n k], [(0, .ro (Int × Int) (Zz.encP Zz.encI Zz.encI) l k)], 1, 2, Nat, fun k1 => (ordS ltH l).length ≤ k1, fun k1 => .sl 1 (ordS ltH l).length k1, fun k1 => [(1, .arr (Int × Int) (Zz.encP Zz.encI Zz.encI) 28 (ordS ltH l) k1)]⟩ := by
  obtain ⟨rfl, hm⟩ := h
  refine fn_intro (gmOk E) 18 1 [] Tryz.func33 rfl rfl rfl rfl rfl ?_
  repeat' first | (intro h; first | (exfalso; omega; done) | skip) | (refine And.intro ?_ ?_) | exact True.intro | (refine @Exists.intro Unit _ () ?_) | (refine @Exists.intro (_ = _) _ rfl ?_) | (change LoopGoal _ _ _ _ _ _; refine loop_at 3 (gmOk E) rfl [] (X := (Int × Nat)) (fun x => [(9, .int .i64 x.1), (3, .sl 2 (OH l x.1).length x.2)]) (fun x => [(2, .arr (Int × Int) (Zz.encP Zz.encI Zz.encI) 28 (OH l x.1) x.2)]) [1] (fun x => 0 ≤ x.1 ∧ x.1 ≤ (l.length : Nat) ∧ (OH l x.1).length ≤ x.2) (fun x => l.length - x.1.toNat) ⟨(0, 0), ?_⟩ (fun x hI => ?_)) | (change @Exists ((Int × Nat)) (fun _ => updK _ _ _ _ _ _); refine @Exists.intro ((Int × Nat)) _ ((?_, ?_)) ?_; rotate_left 2) | (refine @Exists.intro (Nat) _ ?_ ?_; rotate_left) | (change CallGoal _ _ _ _ _ _; first | (refine call_rule (rputh_z E (OH l x.1) (l.getD x.1.toNat (0, 0)) _ x.2 ⟨rfl, ?_, hI.2.2, OH_rises⟩) [2] rfl (And.intro rfl True.intro) rfl (fun (r1 : Nat) hr1 => ?_)))
  all_goals first
| (dsimp only; first | rfl | omega)
| rfl
| omega
| exact Nat.le_refl _
| (have q := OH_len (l := l) (i := x.1); omega)
| (have e := OH_end hI.2.1 ‹¬ x.1 < _›; first | exact congrArg List.length e | exact congrArg (fun q => Ch.arr _ _ _ q _) e | exact Nat.le_trans (Nat.le_of_eq (congrArg List.length e.symm)) hI.2.2)
| (have e := OH_next hI.1 ‹x.1 < _›; first | exact (congrArg List.length e).symm | exact congrArg (fun q => Ch.arr _ _ _ q _) e.symm | exact Nat.le_trans (Nat.le_of_eq (congrArg List.length e)) hr1)

/-- The handles of the boxes that meet one, so far. -/
def MH (q : Int × Int × Int × Int) (m : Boxes) : List (Int × Int) := (m.filter fun p => decide (meetP p.2 q)).map (·.1)
section
variable {m : Boxes} {q : Int × Int × Int × Int} {i : Int}
theorem MH_len (m : Boxes) (q : Int × Int × Int × Int) : (MH q m).length ≤ m.length := by unfold MH; rw [List.length_map]; exact List.length_filter_le _ _
theorem MH_tlen : (MH q (m.take i.toNat)).length ≤ m.length := Nat.le_trans (MH_len _ _) (by rw [List.length_take]; omega)
theorem MH_in (h0 : 0 ≤ i) (h : i < (m.length : Nat)) (he : meetP (m.getD i.toNat ((0, 0), 0, 0, 0, 0)).2 q) : MH q (m.take (i + 1).toNat) = MH q (m.take i.toNat) ++ [(m.getD i.toNat ((0, 0), 0, 0, 0, 0)).1] := by
  unfold MH; rw [show (i + 1).toNat = i.toNat + 1 by omega, take_snoc (d := ((0, 0), 0, 0, 0, 0)) (by omega), List.filter_append, List.filter_cons, decide_eq_true he]; simp
theorem MH_out (h0 : 0 ≤ i) (h : i < (m.length : Nat)) (he : ¬ meetP (m.getD i.toNat ((0, 0), 0, 0, 0, 0)).2 q) : MH q (m.take (i + 1).toNat) = MH q (m.take i.toNat) := by
  unfold MH; rw [show (i + 1).toNat = i.toNat + 1 by omega, take_snoc (d := ((0, 0), 0, 0, 0, 0)) (by omega), List.filter_append, List.filter_cons, decide_eq_false he]; simp
theorem MH_end (h1 : i ≤ (m.length : Nat)) (h2 : ¬ i < (m.length : Nat)) : MH q (m.take i.toNat) = MH q m := by rw [List.take_of_length_le (by omega)]
end
set_option maxHeartbeats 1000000 in
theorem rmeeting_z (E : Nat → Addr) (m : Boxes) (n k : Nat) (q : Int × Int × Int × Int) (h : n = m.length ∧ m.length ≤ 1000) : Does (Gm E) 16 ⟨[.sl 0 n k, .agg [.int .i64 q.1, .int .i64 q.2.1, .int .i64 q.2.2.1, .int .i64 q.2.2.2]], [(0, .ro ((Int × Int) × Int × Int × Int × Int) (Zz.encP (Zz.encP Zz.encI Zz.encI) (Zz.encP Zz.encI (Zz.encP Zz.encI (Zz.encP Zz.encI Zz.encI)))) m k)], 1, 2, Nat, fun k1 => (ordS ltH (MH q m)).length ≤ k1, fun k1 => .sl 1 (ordS ltH (MH q m)).length k1, fun k1 => [(1, .arr (Int × Int) (Zz.encP Zz.encI Zz.encI) 28 (ordS ltH (MH q m)) k1)]⟩ := by
  obtain ⟨rfl, hm⟩ := h
  refine fn_intro (gmOk E) 27 1 [] Tryz.func16 rfl rfl rfl rfl rfl ?_
  repeat' first | (intro h; first | (exfalso; omega; done) | skip) | (refine And.intro ?_ ?_) | exact True.intro | (refine @Exists.intro Unit _ () ?_) | (refine @Exists.intro (_ = _) _ rfl ?_) | (change LoopGoal _ _ _ _ _ _; refine loop_at 3 (gmOk E) rfl [] (X := (Int × Nat)) (fun x => [(11, .int .i64 x.1), (5, .sl 3 (MH q (m.take x.1.toNat)).length x.2)]) (fun x => [(3, .arr (Int × Int) (Zz.encP Zz.encI Zz.encI) 28 (MH q (m.take x.1.toNat)) x.2)]) [2] (fun x => 0 ≤ x.1 ∧ x.1 ≤ (m.length : Nat) ∧ (MH q (m.take x.1.toNat)).length ≤ x.2) (fun x => m.length - x.1.toNat) ⟨(0, 0), ?_⟩ (fun x hI => ?_)) | (change @Exists ((Int × Nat)) (fun _ => updK _ _ _ _ _ _); refine @Exists.intro ((Int × Nat)) _ ((?_, ?_)) ?_; rotate_left 2) | (refine @Exists.intro (Nat) _ ?_ ?_; rotate_left) | (change CallGoal _ _ _ _ _ _; first | (refine call_rule (rhand_z E (MH q (m.take x.1.toNat)) _ _ ⟨rfl, ?_⟩) [3] rfl (And.intro rfl True.intro) rfl (fun (r1 : Nat) hr1 => ?_))) | (change CallGoal _ _ _ _ _ _; first | (refine call0 (meets_z E (m.getD x.1.toNat ((0, 0), 0, 0, 0, 0)).2 q) [] rfl True.intro rfl ?_))
  all_goals first
| (dsimp only; first | rfl | omega)
| rfl
| omega
| exact Nat.le_refl _
| exact Nat.le_refl 1
| (have q1 : (MH q (m.take x.1.toNat)).length ≤ m.length := MH_tlen; first | omega | (change (_ + 1) * 16 ≤ _; omega))
| (have e := MH_in (q := q) hI.1 ‹x.1 < _› ‹meetP _ _›; dsimp only; rw [e]; first | (rw [List.length_append]; first | done | rfl | exact h) | (rw [List.take_length]; rfl))
| (have e := MH_out (q := q) hI.1 ‹x.1 < _› ‹¬ meetP _ _›; dsimp only; rw [e]; first | done | exact hI.2.2)
| (have e := MH_end (q := q) hI.2.1 ‹¬ x.1 < _›; first | exact congrArg (fun q => (ordS ltH q).length) e | exact congrArg (fun q => Ch.arr _ _ _ (ordS ltH q) _) e | exact Nat.le_trans (Nat.le_of_eq (congrArg (fun q => (ordS ltH q).length) e.symm)) hr1)

end Go.Proofs.YtpojafdllcioiaaGreatDoor

namespace Go.Proofs.YtpojafdllcioiaaGreatDoor
open Go.Zz Go.Px
open Go.Qd (okC okC_iff upC cellB okB okC_cell chain cnt1 cntL)
set_option linter.unusedVariables false
set_option linter.unusedSectionVars false
set_option linter.unusedSimpArgs false
set_option maxRecDepth 10000
/-- All cells of the first so many boxes' chains. -/
def NW (m : Boxes) (i : Int) : List (Int × Int × Int) := (0, 0, 0) :: (m.take i.toNat).flatMap fun p => chain (cellB p.2)
/-- Where entering a chain stands. -/
structure Nd (m : Boxes) (i : Int) (c : Int × Int × Int) (O : List (Int × Int × Int)) : Prop where
  ris : Rises ltC O
  ok : okC c = true
  mem : ∀ z, (z ∈ O ∨ z ∈ chain c) ↔ z ∈ NW m (i + 1)
/-- All boxes are right ones. -/
structure AllB (m : Boxes) : Prop where
  h : ∀ p ∈ m, okB p.2 = true
section
variable {m : Boxes} {i : Int} {c : Int × Int × Int} {O : List (Int × Int × Int)}
theorem NW_len (m : Boxes) (i : Int) (h : AllB m) : (NW m i).length ≤ 1 + 9 * m.length := by
  unfold NW
  rw [List.length_cons]
  have h1 := Go.Qd.flat_len (fun p : (Int × Int) × Int × Int × Int × Int => chain (cellB p.2)) 9 (m.take i.toNat) (fun x hx => by
    have hc := Go.Qd.okC_iff.1 (okC_cell (h.h x (List.mem_of_mem_take hx)))
    show (Go.Qd.chainN _ _).length ≤ 9
    rw [Go.Qd.chainN_len]; omega)
  have h2 := List.length_take_le' i.toNat m
  omega
theorem NW_next (h0 : 0 ≤ i) (h : i < (m.length : Nat)) (z : Int × Int × Int) : z ∈ NW m (i + 1) ↔ z ∈ NW m i ∨ z ∈ chain (cellB (m.getD i.toNat ((0, 0), 0, 0, 0, 0)).2) := by
  unfold NW; rw [show (i + 1).toNat = i.toNat + 1 by omega, take_snoc (d := ((0, 0), 0, 0, 0, 0)) (by omega), List.flatMap_append]
  simp only [List.mem_cons, List.mem_append, List.flatMap_cons, List.flatMap_nil, List.append_nil, or_assoc]
theorem AllB.at (h : AllB m) (h0 : 0 ≤ i) (hi : i < (m.length : Nat)) : okB (m.getD i.toNat ((0, 0), 0, 0, 0, 0)).2 = true := by
  refine h.h _ ?_
  rw [List.getD_eq_getElem?_getD, List.getElem?_eq_getElem (by omega)]; exact List.getElem_mem _
theorem Nd.start (h : AllB m) (h0 : 0 ≤ i) (hi : i < (m.length : Nat)) : Nd m i (cellB (m.getD i.toNat ((0, 0), 0, 0, 0, 0)).2) (ordS ltC (NW m i)) :=
  ⟨ordS_rises ordC _, okC_cell (h.at h0 hi), fun z => by rw [mem_ordS, NW_next h0 hi]⟩
theorem Nd.len (h : Nd m i c O) (hb : AllB m) : O.length ≤ 1 + 9 * m.length :=
  Nat.le_trans (Go.Qd.nodup_lenQ (h.ris.nodup ordC) fun z hz => (h.mem z).1 (.inl hz)) (NW_len m (i + 1) hb)
theorem Nd.done (h : Nd m i c O) (h0 : ¬ 0 < c.1) : O = ordS ltC (NW m (i + 1)) ∨ ¬ (0, 0, 0) ∈ O := by
  have hz := Go.Qd.okC_iff.1 h.ok
  have e : c = (0, 0, 0) := Go.Qd.okC_root h.ok (by omega)
  by_cases hr : (0, 0, 0) ∈ O
  · refine .inl (Rises.ext ordC h.ris (ordS_rises ordC _) fun z => ?_)
    rw [mem_ordS, ← h.mem z]
    refine ⟨.inl, fun q => q.elim id fun q => ?_⟩
    rw [Go.Qd.chain_zero (by omega), List.mem_singleton] at q
    rw [q, e]; exact hr
  · exact .inr hr
/-- The root stands in. -/
structure Nr (O : List (Int × Int × Int)) : Prop where
  h : (0, 0, 0) ∈ O
theorem Nr.start : Nr (ordS ltC (NW m i)) := ⟨(mem_ordS _ _).2 (List.mem_cons_self ..)⟩
theorem Nd.fin (h : Nd m i c O) (hr : Nr O) (h0 : ¬ 0 < c.1) : O = ordS ltC (NW m (i + 1)) := (h.done h0).elim id fun q => absurd hr.h q
theorem Nr.put (h : Nr O) : Nr (putS ltC O c) := ⟨(mem_putS _ _ _).2 (.inl h.h)⟩
theorem Nd.next (h : Nd m i c O) (h0 : 0 < c.1) : Nd m i (upC c) (putS ltC O c) := by
  refine ⟨putS_rises ordC h.ris c, Go.Qd.okC_up h.ok (by omega), fun z => ?_⟩
  rw [mem_putS, ← h.mem z, Go.Qd.chain_step h.ok (by omega), List.mem_cons]
  constructor
  · rintro ((q | q) | q)
    · exact .inl q
    · exact .inr (.inl q)
    · exact .inr (.inr q)
  · rintro (q | q | q)
    · exact .inl (.inl q)
    · exact .inl (.inr q)
    · exact .inr q
theorem NW_end (h1 : i ≤ (m.length : Nat)) (h2 : ¬ i < (m.length : Nat)) : NW m i = NW m m.length := by rw [show i = (m.length : Nat) by omega]
/-- How far a list in order was looked through. -/
structure Sc (O : List (Int × Int × Int)) (c : Int × Int × Int) (j k : Int) (b : Bool) : Prop where
  lo : 0 ≤ k
  kj : k ≤ j
  hi : j ≤ (O.length : Nat)
  lt : ∀ t, t < k.toNat → ltC (O.getD t (0, 0, 0)) c = true
  ge : k < j → ltC (O.getD k.toNat (0, 0, 0)) c = false
  br : k < j ∨ k = j
  is : b = decide (c ∈ O.take j.toNat)
variable {j k : Int} {b : Bool}
theorem Sc.start : Sc O c 0 0 false := ⟨Int.le_refl _, Int.le_refl _, by omega, fun t h => by simp at h, fun h => by omega, .inr rfl, by simp⟩
theorem Sc.isN (h : Sc O c j k b) (hj : j < (O.length : Nat)) : (b || decide (O.getD j.toNat (0, 0, 0) = c)) = decide (c ∈ O.take (j + 1).toNat) := by
  have := h.lo; have := h.kj
  rw [h.is, show (j + 1).toNat = j.toNat + 1 by omega, take_snoc (d := (0, 0, 0)) (by omega), Bool.eq_iff_iff]
  simp only [Bool.or_eq_true, decide_eq_true_eq, List.mem_append, List.mem_singleton]
  exact ⟨fun q => q.imp id Eq.symm, fun q => q.imp id Eq.symm⟩
theorem rises_at {O : List (Int × Int × Int)} (h : Rises ltC O) {s t : Nat} (hs : s < t) (ht : t < O.length) : ltC (O.getD s (0, 0, 0)) (O.getD t (0, 0, 0)) = true := by
  have := List.pairwise_iff_getElem.1 h s t (by omega) ht hs
  rw [List.getD_eq_getElem?_getD, List.getD_eq_getElem?_getD, List.getElem?_eq_getElem (by omega), List.getElem?_eq_getElem ht]; exact this
theorem Sc.up (h : Sc O c j k b) (hr : Rises ltC O) (hj : j < (O.length : Nat)) (hl : ltC (O.getD j.toNat (0, 0, 0)) c = true) {b' : Bool} (hb : b' = (b || decide (O.getD j.toNat (0, 0, 0) = c))) : Sc O c (j + 1) (j + 1) b' := by
  have := h.lo; have := h.kj
  refine ⟨by omega, Int.le_refl _, by omega, fun t ht => ?_, fun q => by omega, .inr rfl, hb.trans (h.isN hj)⟩
  by_cases e : t = j.toNat
  · rw [e]; exact hl
  · exact ordC.tr _ _ _ (rises_at hr (by omega) (by omega)) hl
theorem Sc.stay (h : Sc O c j k b) (hr : Rises ltC O) (hj : j < (O.length : Nat)) (hl : ltC (O.getD j.toNat (0, 0, 0)) c = false) {b' : Bool} (hb : b' = (b || decide (O.getD j.toNat (0, 0, 0) = c))) : Sc O c (j + 1) k b' := by
  have := h.lo; have := h.kj
  refine ⟨h.lo, by omega, by omega, h.lt, fun _ => ?_, .inl (by omega), hb.trans (h.isN hj)⟩
  rcases h.br with q | q
  · exact h.ge q
  · rw [q]; exact hl
theorem Sc.pos (h : Sc O c j k b) (hj : ¬ j < (O.length : Nat)) : pos ltC O c = k.toNat := by
  have := h.lo; have := h.kj; have := h.hi
  exact (pos_unique (d := (0, 0, 0)) (by omega) h.lt fun hl => h.ge (by omega)).symm
theorem Sc.yes (h : Sc O c j k b) (hj : ¬ j < (O.length : Nat)) (hb : b = true) : putS ltC O c = O := by
  have q := h.is
  rw [List.take_of_length_le (by omega), hb] at q
  exact putS_in (of_decide_eq_true q.symm)
theorem Sc.no (h : Sc O c j k b) (hj : ¬ j < (O.length : Nat)) (hb : ¬ b = true) : putS ltC O c = O.take k.toNat ++ c :: O.drop k.toNat := by
  have q := h.is
  rw [List.take_of_length_le (by omega)] at q
  rw [putS_out (fun hm => hb (by rw [q]; exact decide_eq_true hm)), h.pos hj]
theorem cell_eqD {x c : Int × Int × Int} {d : Decidable (x.1 = c.1 ∧ x.2.1 = c.2.1 ∧ x.2.2 = c.2.2)} : @decide _ d = decide (x = c) := decide_eq_decide.2 ⟨fun h => by obtain ⟨a, b, e⟩ := x; obtain ⟨a', b', e'⟩ := c; simp only at h; rw [h.1, h.2.1, h.2.2], fun h => by rw [h]; exact ⟨rfl, rfl, rfl⟩⟩
theorem or_eqD {b : Bool} {x c : Int × Int × Int} {d : Decidable (b = true ∨ x.1 = c.1 ∧ x.2.1 = c.2.1 ∧ x.2.2 = c.2.2)} : @decide _ d = (b || decide (x = c)) := by
  rw [Bool.eq_iff_iff, decide_eq_true_iff, Bool.or_eq_true, decide_eq_true_iff, Prod.ext_iff, Prod.ext_iff]
theorem ltC_yes {x c : Int × Int × Int} (h : x.1 < c.1 ∨ x.1 = c.1 ∧ (x.2.2 < c.2.2 ∨ x.2.2 = c.2.2 ∧ x.2.1 < c.2.1)) : ltC x c = true := decide_eq_true h
theorem ltC_no {x c : Int × Int × Int} (h : ¬ (x.1 < c.1 ∨ x.1 = c.1 ∧ (x.2.2 < c.2.2 ∨ x.2.2 = c.2.2 ∧ x.2.1 < c.2.1))) : ltC x c = false := decide_eq_false h
end
set_option maxHeartbeats 3000000 in
theorem rnodes_z (E : Nat → Addr) (m : Boxes) (n k : Nat) (h : n = m.length ∧ m.length ≤ 1000 ∧ AllB m) : Does (Gm E) 36 ⟨[.sl 0 n k], [(0, .ro ((Int × Int) × Int × Int × Int × Int) (Zz.encP (Zz.encP Zz.encI Zz.encI) (Zz.encP Zz.encI (Zz.encP Zz.encI (Zz.encP Zz.encI Zz.encI)))) m k)], 1, 2, Nat, fun _ => True, fun k1 => .sl 1 (ordS ltC (NW m m.length)).length k1, fun k1 => [(1, .arr (Int × Int × Int) (Zz.encP Zz.encI (Zz.encP Zz.encI Zz.encI)) 34 (ordS ltC (NW m m.length)) k1)]⟩ := by
  obtain ⟨rfl, hm, hb⟩ := h
  refine fn_intro (gmOk E) 102 1 [] Tryz.func36 rfl rfl rfl rfl rfl ?_
  repeat' first | (intro h; first | (exfalso; omega; done) | skip) | (refine And.intro ?_ ?_) | exact True.intro | (refine @Exists.intro Unit _ () ?_) | (refine @Exists.intro (_ = _) _ rfl ?_) | (change LoopGoal _ _ _ _ _ _; refine loop_at 3 (gmOk E) rfl [] (X := (Int × Nat)) (fun x => [(16, .int .i64 x.1), (3, .sl 2 (ordS ltC (NW m x.1)).length x.2)]) (fun x => [(2, .arr (Int × Int × Int) (Zz.encP Zz.encI (Zz.encP Zz.encI Zz.encI)) 34 (ordS ltC (NW m x.1)) x.2)]) [1] (fun x => 0 ≤ x.1 ∧ x.1 ≤ (m.length : Nat) ∧ (ordS ltC (NW m x.1)).length ≤ x.2) (fun x => m.length - x.1.toNat) ⟨(0, 1), ?_⟩ (fun x hI => ?_)) | (change @Exists ((Int × Nat)) (fun _ => updK _ _ _ _ _ _); refine @Exists.intro ((Int × Nat)) _ ((?_, ?_)) ?_; rotate_left 2) | (change LoopGoal _ _ _ _ _ _; refine loop_at 6 (gmOk E) rfl [] (X := ((Int × Int × Int) × List (Int × Int × Int) × Nat)) (fun y => [(3, .sl 20 y.2.1.length y.2.2)]) (fun y => [(19, .cells 34 [.int .i64 y.1.1, .int .i64 y.1.2.1, .int .i64 y.1.2.2]), (20, .arr (Int × Int × Int) (Zz.encP Zz.encI (Zz.encP Zz.encI Zz.encI)) 34 y.2.1 y.2.2)]) [2] (fun y => Nd m x.1 y.1 y.2.1 ∧ Nr y.2.1 ∧ y.2.1.length ≤ y.2.2) (fun y => y.1.1.toNat) ⟨(cellB (m.getD x.1.toNat ((0, 0), 0, 0, 0, 0)).2, (ordS ltC (NW m x.1)), x.2), ?_⟩ (fun y hY => ?_)) | (change @Exists (((Int × Int × Int) × List (Int × Int × Int) × Nat)) (fun _ => updK _ _ _ _ _ _); refine @Exists.intro (((Int × Int × Int) × List (Int × Int × Int) × Nat)) _ ((upC y.1, putS ltC y.2.1 y.1, ?_)) ?_; rotate_left 1) | (change LoopGoal _ _ _ _ _ _; refine loop_at 9 (gmOk E) rfl [] (X := (Int × Int × Bool)) (fun z => [(31, .int .i64 z.1), (8, .int .i64 z.2.1), (9, .bl z.2.2)]) (fun z => []) [] (fun z => Sc y.2.1 y.1 z.1 z.2.1 z.2.2) (fun z => y.2.1.length - z.1.toNat) ⟨(0, 0, false), ?_⟩ (fun z hZ => ?_)) | (change @Exists ((Int × Int × Bool)) (fun _ => updK _ _ _ _ _ _); refine @Exists.intro ((Int × Int × Bool)) _ ((?_, ?_, ?_)) ?_; rotate_left 3) | (change DrawGoal _ _ _ _ _ _; first | (change DrawGoal _ _ _ ({ dst := some 80, op := _, type := _, pos := _, after := _, guard := _ } :: _) _ _; refine draw_tree (gmOk E) [19] (.leaf [(0, true), (1, true), (2, true), (3, true), (5, true), (6, true), (7, true), (4, false), (8, false), (9, false), (10, true)]) (by kernel_rfl) ?_)) | (refine @Exists.intro (Nat) _ ?_ ?_; rotate_left) | (change CallGoal _ _ _ _ _ _; first | (refine call0 (rof_ok E (m.getD x.1.toNat ((0, 0), 0, 0, 0, 0)).2 (hb.at hI.1 ‹x.1 < _›)) [] rfl True.intro rfl ?_))
  all_goals first
| (dsimp only; first | rfl | omega)
| rfl
| omega
| exact Nd.start hb hI.1 ‹x.1 < _›
| exact Nr.start
| exact Sc.start
| exact hI.2.2
| exact Nat.le_refl 1
| exact ins_len2 (q := (y.1.1, y.1.2.1, y.1.2.2))
| exact (upC_z hY.1.ok).1
| exact (upC_z hY.1.ok).2
| (have q1 := hZ.lo; have q2 := hZ.kj; have q3 := hZ.hi; have q4 := hY.1.len hb; have q5 := hY.2.2; first | omega | (change _ * 24 ≤ _; omega))
| (have q1 := Go.Qd.okC_iff.1 hY.1.ok; have q2 := pow_bd (d := y.1.1) (by omega); have q3 := (upC_z hY.1.ok).1; have q4 := (upC_z hY.1.ok).2; first | omega | (show (y.1.1 - 1).toNat < _; omega))
| exact hZ.up hY.1.ris ‹_› (ltC_yes h) or_eqD
| exact hZ.stay hY.1.ris ‹_› (ltC_no h) or_eqD
| exact hY.1.next ‹(0 : Int) < _›
| exact hY.2.1.put
| (have e := hZ.no ‹¬ z.1 < _› (by simpa using h); have q1 := hZ.lo; have q2 := hZ.kj; have q3 := hZ.hi; first | (rw [e]; exact (ins_len (by omega)).symm) | exact congrArg (fun q => Ch.arr _ _ _ q _) (ins_eq.trans e.symm))
| (have e := hZ.no ‹¬ z.1 < _› (by simpa using ‹(!z.2.2) = true›); have q1 := hZ.lo; have q2 := hZ.kj; have q3 := hZ.hi; first | (rw [e]; exact (ins_len (by omega)).symm) | exact congrArg (fun q => Ch.arr _ _ _ q _) (ins_eq.trans e.symm) | (show (putS ltC y.2.1 y.1).length ≤ _; rw [e, ins_len (by omega)]; exact h))
| (have e := hZ.yes ‹¬ z.1 < _› (by simpa using ‹(!z.2.2) = false›); first | exact (congrArg List.length e).symm | exact congrArg (fun q => Ch.arr _ _ _ q _) e.symm | (show (putS ltC y.2.1 y.1).length ≤ _; rw [e]; exact hY.2.2))
| (have e := hY.1.fin hY.2.1 ‹¬ (0 : Int) < _›; first | exact congrArg List.length e | exact congrArg (fun q => Ch.arr _ _ _ q _) e | exact Nat.le_trans (Nat.le_of_eq (congrArg List.length e.symm)) hY.2.2)
| (have e := NW_end (m := m) hI.2.1 ‹¬ x.1 < _›; first | exact congrArg (fun q => (ordS ltC q).length) e | exact congrArg (fun q => Ch.arr _ _ _ (ordS ltC q) _) e)

end Go.Proofs.YtpojafdllcioiaaGreatDoor

namespace Go.Proofs.YtpojafdllcioiaaGreatDoor
open Go.Zz Go.Px
open Go.Qd (okC okC_iff upC cellB okB okC_cell chain cnt1 cntL)
set_option linter.unusedVariables false
set_option linter.unusedSectionVars false
set_option linter.unusedSimpArgs false
set_option maxRecDepth 10000
set_option maxHeartbeats 1000000 in
theorem box_none (E : Nat → Addr) (N : NM) (C : CM) (hh : Int × Int) (h : hasK C hh = false) : Does (Gm E) 34 ⟨[.ptr 0 0, .agg [.int .i64 hh.1, .int .i64 hh.2]], [(0, .cells 65 [.mp 1, .mp 2]), (1, .pr (mObj (Enc.ag (Zz.encP Zz.encI (Zz.encP Zz.encI Zz.encI))) (fun v => grp (Gm E) (ndT v)) N)), (2, .pr (mapPr (Enc.ag (Zz.encP Zz.encI Zz.encI)) (Enc.ag (Zz.encP Zz.encI (Zz.encP Zz.encI Zz.encI))) C))], 3, 3, Unit, fun _ => True, fun _ => .tup [.agg [.int .i64 ((0, 0, 0, 0) : Int × Int × Int × Int).1, .int .i64 ((0, 0, 0, 0) : Int × Int × Int × Int).2.1, .int .i64 ((0, 0, 0, 0) : Int × Int × Int × Int).2.2.1, .int .i64 ((0, 0, 0, 0) : Int × Int × Int × Int).2.2.2], .ff], fun _ => [(0, .cells 65 [.mp 1, .mp 2]), (1, .pr (mObj (Enc.ag (Zz.encP Zz.encI (Zz.encP Zz.encI Zz.encI))) (fun v => grp (Gm E) (ndT v)) N)), (2, .pr (mapPr (Enc.ag (Zz.encP Zz.encI Zz.encI)) (Enc.ag (Zz.encP Zz.encI (Zz.encP Zz.encI Zz.encI))) C))]⟩ := by
  refine fn_intro (gmOk E) 31 3 [] Tryz.func34 rfl rfl rfl rfl rfl ?_
  repeat' first | (intro h; first | (exfalso; omega; done) | skip) | (refine And.intro ?_ ?_) | exact True.intro | (refine @Exists.intro Unit _ () ?_) | (refine @Exists.intro (_ = _) _ rfl ?_) | (change OpGoal _ _ _ _ (.lookup 63 _ _ true) _; refine lookupN_rule mapC 2 _ hh rfl rfl rfl h ?_) | (change DrawGoal _ _ _ _ _ _; first | (change DrawGoal _ _ _ ({ dst := some 9, op := _, type := _, pos := _, after := _, guard := _ } :: _) _ _; refine draw_tree (gmOk E) [0, 3] (.alt [(0, true), (1, true), (2, true), (3, true), (4, true)] (.leaf [(5, false), (6, true), (7, true), (8, true), (9, false), (10, false), (11, true)]) (.leaf [(9, false), (5, false), (6, true), (7, true), (8, true), (10, false), (11, true)])) (by kernel_rfl) ?_))
  all_goals first
| (dsimp only; first | rfl | omega)
| rfl
| omega
| assumption
| exact has_putK _ _ _
| exact get_hasK ‹_›

set_option maxHeartbeats 2000000 in
theorem box_some (E : Nat → Addr) (N : NM) (C : CM) (hh : Int × Int) (z0 : Int × Int × Int) (v : NV) (h : Go.Px.getK C hh = some z0 ∧ Go.Px.getK N z0 = some v) : Does (Gm E) 34 ⟨[.ptr 0 0, .agg [.int .i64 hh.1, .int .i64 hh.2]], [(0, .cells 65 [.mp 1, .mp 2]), (1, .pr (mObj (Enc.ag (Zz.encP Zz.encI (Zz.encP Zz.encI Zz.encI))) (fun v => grp (Gm E) (ndT v)) N)), (2, .pr (mapPr (Enc.ag (Zz.encP Zz.encI Zz.encI)) (Enc.ag (Zz.encP Zz.encI (Zz.encP Zz.encI Zz.encI))) C))], 3, 5, Unit, fun _ => True, fun _ => .tup [.agg [.int .i64 ((Go.Px.getK v.1 hh).getD (0, 0, 0, 0)).1, .int .i64 ((Go.Px.getK v.1 hh).getD (0, 0, 0, 0)).2.1, .int .i64 ((Go.Px.getK v.1 hh).getD (0, 0, 0, 0)).2.2.1, .int .i64 ((Go.Px.getK v.1 hh).getD (0, 0, 0, 0)).2.2.2], .tt], fun _ => [(0, .cells 65 [.mp 1, .mp 2]), (1, .hole (mObjH (Enc.ag (Zz.encP Zz.encI (Zz.encP Zz.encI Zz.encI))) (fun v => grp (Gm E) (ndT v)) N z0) [.ptr 3 0]), (2, .pr (mapPr (Enc.ag (Zz.encP Zz.encI Zz.encI)) (Enc.ag (Zz.encP Zz.encI (Zz.encP Zz.encI Zz.encI))) C)), (3, .cells 61 [.mp 4, .int .i64 v.2]), (4, .pr (mapPr (Enc.ag (Zz.encP Zz.encI Zz.encI)) (Enc.ag (Zz.encP Zz.encI (Zz.encP Zz.encI (Zz.encP Zz.encI Zz.encI)))) v.1))]⟩ := by
  obtain ⟨h1, h2⟩ := h
  refine fn_intro (gmOk E) 31 3 [] Tryz.func34 rfl rfl rfl rfl rfl ?_
  repeat' first | (change DrawGoal _ _ _ ({ dst := some 20, op := _, type := _, pos := _, after := _, guard := _ } :: _) _ _; refine draw_openV (Γ0 := Gm E) (tm := ndT) rfl 1 N z0 v 2 rfl rfl h2 ?_) | (intro h; first | (exfalso; omega; done) | skip) | (refine And.intro ?_ ?_) | exact True.intro | (refine @Exists.intro Unit _ () ?_) | (refine @Exists.intro (_ = _) _ rfl ?_) | (change OpGoal _ _ _ _ (.lookup 63 _ _ true) _; refine lookupY_rule mapC 2 _ hh z0 rfl rfl rfl h1 ?_) | (change OpGoal _ _ _ _ (.lookup 62 _ _ false) _; refine lookupH_rule mapN 1 _ _ rfl rfl rfl (get_hasK h2) ?_) | (change OpGoal _ _ _ _ (.lookup 59 _ _ false) _; refine lookup_rule mapB 7 _ hh rfl rfl rfl ?_) | (change DrawGoal _ _ _ _ _ _; first | (change DrawGoal _ _ _ ({ dst := some 9, op := _, type := _, pos := _, after := _, guard := _ } :: _) _ _; refine draw_tree (gmOk E) [0, 3] (.alt [(0, true), (1, true), (2, true), (3, true), (4, true)] (.leaf [(5, false), (6, true), (7, true), (8, true), (9, false), (10, false), (11, true)]) (.leaf [(9, false), (5, false), (6, true), (7, true), (8, true), (10, false), (11, true)])) (by kernel_rfl) ?_) | (change DrawGoal _ _ _ ({ dst := some 20, op := _, type := _, pos := _, after := _, guard := _ } :: _) _ _; refine draw_tree (gmOk E) [0, 3, 5, 6] (.leaf [(0, true), (1, true), (2, true), (3, true), (4, true), (9, true), (5, false), (6, true), (7, true), (8, false), (10, false), (11, false), (12, true)]) (by kernel_rfl) ?_))
  all_goals first
| (dsimp only; first | rfl | omega)
| rfl
| omega
| assumption
| exact has_putK _ _ _
| exact get_hasK ‹_›

theorem cv_merge2 {κ ν : Type} [DecidableEq κ] {Γ : Ctx} {nx c r : Nat} {H H' : Hp} {ke : VE κ} {el : ν → Pr} {ve : VE (Option Nat)} {L : List (κ × ν)} {p : κ → Nat} (hve : ve.val = Zz.pV) (hc : lk H c = some (.pr (mapPr ke ve (L.map fun x => (x.1, some (p x.1)))))) (hr : lk H r = some (.pr (restPr el L p))) (hne : c ≠ r) (hH : setH (delAll H [r]) c (.pr (mObj ke el L)) = H') : Cv Γ nx H nx H' := hH ▸ cv_merge hve hc hr hne
section
variable {R : BRel} {i : Int} {C : CM} {N : NM}
/-- Box, by what is held. -/
theorem box_t (E : Nat → Addr) (t : TreeR R i C N) (hh : Int × Int) {b : Bx} (hb : R hh b) : Does (Gm E) 34 ⟨[.ptr 0 0, .agg [.int .i64 hh.1, .int .i64 hh.2]], [(0, .cells 65 [.mp 1, .mp 2]), (1, .pr (mObj (Enc.ag (Zz.encP Zz.encI (Zz.encP Zz.encI Zz.encI))) (fun v => grp (Gm E) (ndT v)) N)), (2, .pr (mapPr (Enc.ag (Zz.encP Zz.encI Zz.encI)) (Enc.ag (Zz.encP Zz.encI (Zz.encP Zz.encI Zz.encI))) C))], 3, 5, Unit, fun _ => True, fun _ => .tup [.agg [.int .i64 b.1, .int .i64 b.2.1, .int .i64 b.2.2.1, .int .i64 b.2.2.2], .tt], fun _ => [(0, .cells 65 [.mp 1, .mp 2]), (1, .pr (mObj (Enc.ag (Zz.encP Zz.encI (Zz.encP Zz.encI Zz.encI))) (fun v => grp (Gm E) (ndT v)) N)), (2, .pr (mapPr (Enc.ag (Zz.encP Zz.encI Zz.encI)) (Enc.ag (Zz.encP Zz.encI (Zz.encP Zz.encI Zz.encI))) C))]⟩ := by
  obtain ⟨bs, h1, h2, h3⟩ := t.ex
  have hm := (h2 _ _).1 hb
  obtain ⟨v, hv⟩ := Go.Qd.get_has (h1.node hm)
  have hg : Go.Px.getK v.1 hh = some b := by
    have q := h1.nf.val _ _ ((Go.Qd.get_mem h1.nf.nd).1 hv)
    exact (Go.Qd.get_mem q.2.1).2 ((q.2.2 _).2 ⟨hm, rfl⟩)
  have key := Does.post_cv 5 (fun _ => [(0, .cells 65 [.mp 1, .mp 2]), (1, .pr (mObj (Enc.ag (Zz.encP Zz.encI (Zz.encP Zz.encI Zz.encI))) (fun v => grp (Gm E) (ndT v)) N)), (2, .pr (mapPr (Enc.ag (Zz.encP Zz.encI Zz.encI)) (Enc.ag (Zz.encP Zz.encI (Zz.encP Zz.encI Zz.encI))) C))]) (box_some E N C hh (cellB b) v ⟨h1.at hm, hv⟩) (fun _ _ => ?_) (Nat.le_refl _)
  · rw [hg] at key; exact key
  · have q := put_back (Γ := Gm E) (Γ0 := Gm E) (tm := ndT) (ke := (Enc.ag (Zz.encP Zz.encI (Zz.encP Zz.encI Zz.encI)))) (L := N) (x := cellB b) (v := v) (c := 1) (nx := 5) (σ := [3, 4]) (H := [(0, .cells 65 [.mp 1, .mp 2]), (1, .hole (mObjH (Enc.ag (Zz.encP Zz.encI (Zz.encP Zz.encI Zz.encI))) (fun v => grp (Gm E) (ndT v)) N (cellB b)) [.ptr 3 0]), (2, .pr (mapPr (Enc.ag (Zz.encP Zz.encI Zz.encI)) (Enc.ag (Zz.encP Zz.encI (Zz.encP Zz.encI Zz.encI))) C)), (3, .cells 61 [.mp 4, .int .i64 v.2]), (4, .pr (mapPr (Enc.ag (Zz.encP Zz.encI Zz.encI)) (Enc.ag (Zz.encP Zz.encI (Zz.encP Zz.encI (Zz.encP Zz.encI Zz.encI)))) v.1))]) rfl rfl (get_hasK hv) (And.intro rfl (And.intro rfl True.intro)) rfl
    rw [put_self h1.nf.nd hv] at q; exact q
theorem box_no (E : Nat → Addr) (t : TreeR R i C N) (hh : Int × Int) (hb : ∀ b, ¬ R hh b) : Does (Gm E) 34 ⟨[.ptr 0 0, .agg [.int .i64 hh.1, .int .i64 hh.2]], [(0, .cells 65 [.mp 1, .mp 2]), (1, .pr (mObj (Enc.ag (Zz.encP Zz.encI (Zz.encP Zz.encI Zz.encI))) (fun v => grp (Gm E) (ndT v)) N)), (2, .pr (mapPr (Enc.ag (Zz.encP Zz.encI Zz.encI)) (Enc.ag (Zz.encP Zz.encI (Zz.encP Zz.encI Zz.encI))) C))], 3, 3, Unit, fun _ => True, fun _ => .tup [.agg [.int .i64 ((0, 0, 0, 0) : Int × Int × Int × Int).1, .int .i64 ((0, 0, 0, 0) : Int × Int × Int × Int).2.1, .int .i64 ((0, 0, 0, 0) : Int × Int × Int × Int).2.2.1, .int .i64 ((0, 0, 0, 0) : Int × Int × Int × Int).2.2.2], .ff], fun _ => [(0, .cells 65 [.mp 1, .mp 2]), (1, .pr (mObj (Enc.ag (Zz.encP Zz.encI (Zz.encP Zz.encI Zz.encI))) (fun v => grp (Gm E) (ndT v)) N)), (2, .pr (mapPr (Enc.ag (Zz.encP Zz.encI Zz.encI)) (Enc.ag (Zz.encP Zz.encI (Zz.encP Zz.encI Zz.encI))) C))]⟩ := by
  refine box_none E N C hh ?_
  cases e : hasK C hh with
  | false => rfl
  | true => obtain ⟨b, q⟩ := (t.hand hh).1 (hasK_iff.1 e); exact absurd q (hb b)
theorem keys_pt (p : (Int × Int × Int) → Nat) (N : NM) : ((N.map fun x => (x.1, some (p x.1))).map (·.1)) = N.map (·.1) := by rw [List.map_map]; rfl
/-- Nodes, by what is held. -/
theorem nodes_t (E : Nat → Addr) (t : TreeR R i C N) (hi : i ≤ 1000) : Does (Gm E) 35 ⟨[.ptr 0 0], [(0, .cells 65 [.mp 1, .mp 2]), (1, .pr (mObj (Enc.ag (Zz.encP Zz.encI (Zz.encP Zz.encI Zz.encI))) (fun v => grp (Gm E) (ndT v)) N)), (2, .pr (mapPr (Enc.ag (Zz.encP Zz.encI Zz.encI)) (Enc.ag (Zz.encP Zz.encI (Zz.encP Zz.encI Zz.encI))) C))], 3, 5, Nat, fun _ => True, fun q => .sl 4 (ordS ltC (N.map (·.1))).length q, fun q => [(0, .cells 65 [.mp 1, .mp 2]), (1, .pr (mObj (Enc.ag (Zz.encP Zz.encI (Zz.encP Zz.encI Zz.encI))) (fun v => grp (Gm E) (ndT v)) N)), (2, .pr (mapPr (Enc.ag (Zz.encP Zz.encI Zz.encI)) (Enc.ag (Zz.encP Zz.encI (Zz.encP Zz.encI Zz.encI))) C)), (4, .arr (Int × Int × Int) (Zz.encP Zz.encI (Zz.encP Zz.encI Zz.encI)) 55 (ordS ltC (N.map (·.1))) q)]⟩ := by
  refine Does.of_goal (by omega) (by simp [SV.bdL, SV.bd]) (hbB_ok rfl) ?_
  refine call_split veP rfl 1 N rfl (fun p => ?_)
  change CallGoal _ _ _ _ _ _
  refine call_rule (nodes_z E (N.map fun x : (Int × Int × Int) × NV => (x.1, some (p x.1))) C (t.nlen hi p)) [0, 1, 2] rfl (And.intro rfl (And.intro rfl (And.intro rfl True.intro))) rfl (fun (q : Nat) hq => ?_)
  rw [keys_pt]
  refine @Exists.intro Nat _ q (And.intro True.intro (And.intro rfl ?_))
  refine cv_merge2 (ke := (Enc.ag (Zz.encP Zz.encI (Zz.encP Zz.encI Zz.encI)))) (c := 1) (r := 3) (L := N) (p := p) (ve := veP) (el := fun v => grp (Gm E) (ndT v)) rfl ?_ ?_ (by decide) ?_ <;> rfl
end
end Go.Proofs.YtpojafdllcioiaaGreatDoor

namespace Go.Proofs.YtpojafdllcioiaaGreatDoor
open Go.Zz Go.Px
open Go.Qd (okC okC_iff upC cellB okB okC_cell chain cnt1 cntL)
set_option linter.unusedVariables false
set_option linter.unusedSectionVars false
set_option linter.unusedSimpArgs false
set_option maxRecDepth 10000
/-- What a list of boxes holds. -/
def RM (m : Boxes) : BRel := fun h b => (h, b) ∈ m
abbrev HS (m : Boxes) : List (Int × Int) := m.map (·.1)
/-- A list of right boxes, each name once. -/
structure Bs (m : Boxes) : Prop where
  nd : (m.map (·.1)).Nodup
  ok : AllB m
def bOf (m : Boxes) (hh : Int × Int) : Bx := (Go.Px.getK m hh).getD (0, 0, 0, 0)
section
variable {m : Boxes} {i j : Int} {C : CM} {N : NM} {hh : Int × Int} {b : Bx}
theorem Bs.at (h0 : 0 ≤ i) (hi : i < (m.length : Nat)) : RM m (m.getD i.toNat ((0, 0), 0, 0, 0, 0)).1 (m.getD i.toNat ((0, 0), 0, 0, 0, 0)).2 := by
  unfold RM
  rw [List.getD_eq_getElem?_getD, List.getElem?_eq_getElem (by omega)]; exact List.getElem_mem _
theorem RM_key (h : RM m hh b) : hh ∈ m.map (·.1) := List.mem_map.2 ⟨_, h, rfl⟩
theorem RM_of (h : Bs m) (hk : hh ∈ m.map (·.1)) : RM m hh (bOf m hh) := by
  obtain ⟨p, hp, rfl⟩ := List.mem_map.1 hk
  have e : Go.Px.getK m p.1 = some p.2 := (Go.Qd.get_mem h.nd).2 hp
  unfold bOf RM; rw [e]; exact hp
theorem RM_no (hk : ¬ hh ∈ m.map (·.1)) (b : Bx) : ¬ RM m hh b := fun h => hk (RM_key h)
theorem RM_drop (hh : Int × Int) (h : Int × Int) (b : Bx) : CutR (RM m) hh h b ↔ RM (dropB hh m) h b := by
  unfold CutR RM dropB dropK
  simp only [List.mem_filter, Bool.not_eq_true', decide_eq_false_iff_not]
  exact ⟨fun q => ⟨q.2, q.1⟩, fun q => ⟨q.2, q.1⟩⟩
theorem RM_put (hh : Int × Int) (c : Bx) (h : Int × Int) (b : Bx) : Upd (RM m) hh c h b ↔ RM (putB m (hh, c)) h b := by
  unfold Upd putB
  show _ ↔ (h, b) ∈ dropB hh m ++ [(hh, c)]
  rw [List.mem_append, List.mem_singleton]
  have := RM_drop (m := m) hh h b
  unfold CutR RM at this
  rw [← this]
  exact ⟨fun q => q.elim (fun q => .inr (by rw [q.1, q.2])) .inl, fun q => q.elim .inr fun q => .inl ⟨congrArg (·.1) q, congrArg (·.2) q⟩⟩
theorem Bs.drop (h : Bs m) (hh : Int × Int) : Bs (dropB hh m) := by
  refine ⟨?_, ⟨fun p hp => h.ok.h p ((List.mem_filter.1 hp).1)⟩⟩
  exact (List.Sublist.map _ (List.filter_sublist (l := m))).nodup h.nd
theorem Bs.put (h : Bs m) (hh : Int × Int) (hb : okP b) : Bs (putB m (hh, b)) := by
  refine ⟨?_, ⟨fun p hp => ?_⟩⟩
  · unfold putB
    rw [List.map_append, List.nodup_append]
    refine ⟨(h.drop hh).nd, by simp, fun x hx y hy e => ?_⟩
    obtain rfl := List.mem_singleton.1 hy
    obtain ⟨p, hp, rfl⟩ := List.mem_map.1 hx
    have := (List.mem_filter.1 hp).2
    simp only [Bool.not_eq_true', decide_eq_false_iff_not] at this
    exact this e
  · rcases List.mem_append.1 hp with q | q
    · exact (h.drop hh).ok.h p q
    · obtain rfl := List.mem_singleton.1 q; exact hb
theorem Bs.nil : Bs [] := ⟨.nil, ⟨fun p hp => by cases hp⟩⟩
theorem drop_same (hk : ¬ hh ∈ m.map (·.1)) : dropB hh m = m := List.filter_eq_self.2 fun p hp => by
  simp only [Bool.not_eq_true', decide_eq_false_iff_not]
  exact fun e => hk (e ▸ List.mem_map.2 ⟨p, hp, rfl⟩)
theorem drop_less (hk : hh ∈ m.map (·.1)) : (dropB hh m).length ≠ m.length := fun e => by
  obtain ⟨p, hp, rfl⟩ := List.mem_map.1 hk
  have := (List.filter_eq_self.1 ((List.filter_sublist (l := m)).eq_of_length e)) p hp
  simp at this
/-- All of a tree that holds these. -/
theorem mem_bs {bs : Go.Qd.BS} (h2 : ∀ h b, RM m h b ↔ (h, b) ∈ bs) (p : (Int × Int) × Bx) : p ∈ bs ↔ p ∈ m := (h2 p.1 p.2).symm
theorem TreeR.cs (t : TreeR (RM m) i C N) (h : Bs m) : C.length = m.length := by
  have e1 := Go.Qd.nodup_lenQ t.cnd (m := m.map (·.1)) fun x hx => by obtain ⟨b, q⟩ := (t.hand x).1 hx; exact RM_key q
  have e2 := Go.Qd.nodup_lenQ h.nd (m := C.map (·.1)) fun x hx => (t.hand x).2 ⟨_, RM_of h hx⟩
  simp only [List.length_map] at e1 e2; omega
theorem TreeR.hs (t : TreeR (RM m) i C N) (h : Bs m) : ordS ltH (C.map (·.1)) = ordS ltH (m.map (·.1)) :=
  ordS_ext ordH fun x => ⟨fun hx => by obtain ⟨b, q⟩ := (t.hand x).1 hx; exact RM_key q, fun hx => (t.hand x).2 ⟨_, RM_of h hx⟩⟩
theorem TreeR.nds (t : TreeR (RM m) i C N) (h : Bs m) : ordS ltC (N.map (·.1)) = ordS ltC (NW m m.length) := by
  obtain ⟨bs, h1, h2, h3⟩ := t.ex
  refine ordS_ext ordC fun z => ?_
  rw [← hasK_iff, h1.nf.ex]
  unfold NW
  rw [List.take_of_length_le (by omega), List.mem_cons, List.mem_flatMap]
  refine or_congr Iff.rfl ⟨fun q => ?_, fun ⟨p, hp, q⟩ => ?_⟩
  · obtain ⟨k, hk, hz⟩ := Go.Qd.fK_ne q
    obtain ⟨p, hp, rfl⟩ := List.mem_map.1 hk
    exact ⟨p, (mem_bs h2 p).1 hp, hz⟩
  · exact Int.ne_of_gt (Go.Qd.fK_pos (List.mem_map.2 ⟨p, (mem_bs h2 p).2 hp, rfl⟩) q)
theorem TreeR.ms (t : TreeR (RM m) i C N) (h : Bs m) {bs : Go.Qd.BS} (h2 : ∀ h b, RM m h b ↔ (h, b) ∈ bs) {q : Bx} (hq : rightP q) : ordS ltH (metL q bs) = ordS ltH (MH q m) := by
  refine ordS_ext ordH fun x => ?_
  unfold metL MH
  simp only [List.mem_map, List.mem_filter]
  refine ⟨fun ⟨p, ⟨q1, q2⟩, e⟩ => ⟨p, ⟨(mem_bs h2 p).1 q1, decide_eq_true (of_decide_eq_true q2).2⟩, e⟩, fun ⟨p, ⟨q1, q2⟩, e⟩ => ⟨p, ⟨(mem_bs h2 p).2 q1, decide_eq_true ⟨⟨right_iff.1 (Bool.and_eq_true_iff.1 (h.ok.h p q1)).1, hq⟩, of_decide_eq_true q2⟩⟩, e⟩⟩
theorem tk_end (h1 : i ≤ (m.length : Nat)) (h2 : ¬ i < (m.length : Nat)) : (m.take i.toNat).map (·.1) = m.map (·.1) := by rw [List.take_of_length_le (by omega)]
theorem tk_has (h1 : i ≤ (m.length : Nat)) (h2 : ¬ i < (m.length : Nat)) {b : Bool} (hb : b = decide (hh ∈ (m.take i.toNat).map (·.1))) : b = decide (hh ∈ m.map (·.1)) := by rw [hb, tk_end h1 h2]
theorem tk_len : (m.take i.toNat).length ≤ m.length := by rw [List.length_take]; omega
theorem tk_map (h0 : 0 ≤ i) (hi : i < (m.length : Nat)) : HS (m.take (i + 1).toNat) = HS (m.take i.toNat) ++ [(m.getD i.toNat ((0, 0), 0, 0, 0, 0)).1] := by
  unfold HS
  rw [show (i + 1).toNat = i.toNat + 1 by omega, take_snoc (d := ((0, 0), 0, 0, 0, 0)) (by omega), List.map_append]; rfl
theorem hs_len : (HS (m.take i.toNat)).length ≤ m.length := by rw [List.length_map]; exact tk_len
theorem tk_dec (h0 : 0 ≤ i) (hi : i < (m.length : Nat)) {b : Bool} (hb : b = decide (hh ∈ HS (m.take i.toNat))) {d : Decidable (b = true ∨ (m.getD i.toNat ((0, 0), 0, 0, 0, 0)).1.1 = hh.1 ∧ (m.getD i.toNat ((0, 0), 0, 0, 0, 0)).1.2 = hh.2)} : @decide _ d = decide (hh ∈ HS (m.take (i + 1).toNat)) := by
  rw [tk_map h0 hi, decide_eq_decide, List.mem_append, List.mem_singleton, hb, decide_eq_true_iff]
  exact or_congr Iff.rfl ⟨fun q => Prod.ext q.1.symm q.2.symm, fun q => by rw [q]; exact ⟨rfl, rfl⟩⟩
theorem same_no {p : Prop} {d : Decidable p} (h : (!@decide p d) = true) (hp : p) : False := by rw [decide_eq_true hp] at h; cases h
theorem TreeR.hs2 (t : TreeR (RM m) i C N) (h : Bs m) (h1 : j ≤ (m.length : Nat)) (h2 : ¬ j < (m.length : Nat)) : ordS ltH (C.map (·.1)) = ordS ltH (HS (m.take j.toNat)) := by
  have e : HS (m.take j.toNat) = m.map (·.1) := tk_end h1 h2
  rw [e]; exact t.hs h
theorem TreeR.hl (t : TreeR (RM m) i C N) (hi : i ≤ 1000) : (ordS ltH (C.map (·.1))).length ≤ 1000 := by
  have q := ordS_len (lt := ltH) (C.map (·.1)); rw [List.length_map] at q; have := t.clen hi; omega
abbrev KN (N : NM) : List (Int × Int × Int) := ordS ltC (N.map (·.1))
theorem TreeR.kl (t : TreeR (RM m) i C N) (hi : i ≤ 1000) : (ordS ltC (N.map (·.1))).length ≤ 1000000000 := by
  have q := (t.nlen hi (fun _ => 0)).1; have q2 := ordS_len (lt := ltC) (N.map (·.1)); rw [List.length_map] at q q2; omega
theorem TreeR.nlen2 (t : TreeR (RM m) i C N) (h : Bs m) : (KN N).length = (ordS ltC (NW m m.length)).length := by rw [KN, t.nds h]
theorem TreeR.nat (t : TreeR (RM m) i C N) (h : Bs m) (k : Nat) (d : Int × Int × Int) : ((KN N).getD k d).1 = ((ordS ltC (NW m m.length)).getD k d).1 ∧ ((KN N).getD k d).2.1 = ((ordS ltC (NW m m.length)).getD k d).2.1 ∧ ((KN N).getD k d).2.2 = ((ordS ltC (NW m m.length)).getD k d).2.2 := by rw [KN, t.nds h]; exact ⟨rfl, rfl, rfl⟩
end
section
variable {i : Int} {C : CM} {N : NM} {m : Boxes}
set_option maxHeartbeats 2000000 in
theorem holds_z (E : Nat → Addr) (t : TreeR (RM m) i C N) (hb : Bs m) (hh : Int × Int) (n k : Nat) (h : n = m.length ∧ m.length ≤ 1000 ∧ i ≤ 1000) : Does (Gm E) 17 (Sp0 [.ptr 0 0, .sl 3 n k, .agg [.int .i64 hh.1, .int .i64 hh.2]] [(0, .cells 65 [.mp 1, .mp 2]), (1, .pr (mObj (Enc.ag (Zz.encP Zz.encI (Zz.encP Zz.encI Zz.encI))) (fun v => grp (Gm E) (ndT v)) N)), (2, .pr (mapPr (Enc.ag (Zz.encP Zz.encI Zz.encI)) (Enc.ag (Zz.encP Zz.encI (Zz.encP Zz.encI Zz.encI))) C)), (3, .ro ((Int × Int) × Int × Int × Int × Int) (Zz.encP (Zz.encP Zz.encI Zz.encI) (Zz.encP Zz.encI (Zz.encP Zz.encI (Zz.encP Zz.encI Zz.encI)))) m k)] 4 .tt) := by
  obtain ⟨rfl, hm, hj⟩ := h
  refine fn_intro (gmOk E) 112 4 [] Tryz.func17 rfl rfl rfl rfl rfl ?_
  repeat' first | (change CallGoal _ _ _ _ _ _; first | (change CallGoal _ 34 _ _ _ _; first | (refine call_rule (box_t E t (m.getD x.1.toNat ((0, 0), 0, 0, 0, 0)).1 (b := (m.getD x.1.toNat ((0, 0), 0, 0, 0, 0)).2) (Bs.at hI.1 ‹x.1 < _›)) [0, 1, 2] rfl (And.intro rfl (And.intro rfl (And.intro rfl True.intro))) rfl (fun y1 hy1 => ?_)) | (refine call_rule (box_t E t hh (RM_of hb hk)) [0, 1, 2] rfl (And.intro rfl (And.intro rfl (And.intro rfl True.intro))) rfl (fun y2 hy2 => ?_)) | (refine call_rule (box_no E t hh (RM_no hk)) [0, 1, 2] rfl (And.intro rfl (And.intro rfl (And.intro rfl True.intro))) rfl (fun y3 hy3 => ?_)) | ((fail_if_success (have _ := hk)); have hx := tk_has hI.2.1 ‹¬ x.1 < _› hI.2.2.2; refine Or.elim (Classical.em (hh ∈ m.map (·.1))) (fun hk => ?_) (fun hk => ?_) <;> first | rw [decide_eq_true hk] at hx | rw [decide_eq_false hk] at hx)) | (change CallGoal _ 35 _ _ _ _; first | (refine call_rule (nodes_t E t hj) [0, 1, 2] rfl (And.intro rfl (And.intro rfl (And.intro rfl True.intro))) rfl (fun (q1 : Nat) hq1 => ?_))) | (change CallGoal _ 36 _ _ _ _; first | (refine call_rule (rnodes_z E m _ _ ⟨rfl, hm, hb.ok⟩) [3] rfl (And.intro rfl True.intro) rfl (fun (q2 : Nat) hq2 => ?_))) | (change CallGoal _ 37 _ _ _ _; first | (refine call0 (tlen_z E C (t.clen hj)) [0, 1, 2] rfl (And.intro rfl (And.intro rfl True.intro)) rfl ?_)) | (change CallGoal _ 38 _ _ _ _; first | (refine call_rule (thandles_z E N C (by have q := t.clen hj; omega)) [0, 1, 2] rfl (And.intro rfl (And.intro rfl True.intro)) rfl (fun (q3 : Nat) hq3 => ?_))) | (change CallGoal _ 33 _ _ _ _; first | (refine call_rule (rhand_z E (HS (m.take x.1.toNat)) _ _ ⟨rfl, ?_⟩) [6] rfl (And.intro rfl True.intro) rfl (fun (q4 : Nat) hq4 => ?_))) | (change CallGoal _ 15 _ _ _ _; first | (refine call0 (sameH_z E _ _ _ _ _ _ ⟨rfl, rfl, ?_, ?_⟩) [28, 29] rfl (And.intro rfl (And.intro rfl True.intro)) rfl ?_) | (refine call0 (sameH_z E _ _ _ _ _ _ ⟨rfl, rfl, ?_, ?_⟩) [26, 27] rfl (And.intro rfl (And.intro rfl True.intro)) rfl ?_))) | (intro h; first | (exfalso; omega; done) | (exfalso; first | exact h trivial | exact h ⟨rfl, rfl, rfl, rfl⟩ | exact h rfl | (rw [hx] at h; revert h; decide) | exact h.elim (fun q => same_no q (t.hs2 hb hI.2.1 ‹¬ x.1 < _›)) (fun q => q (congrArg (fun q : Nat => (q : Int)) (t.nlen2 hb))) | exact same_no h (t.hs2 hb hI.2.1 ‹¬ x.1 < _›) | exact h (t.nat hb _ _) | exact h (fun q => q (congrArg (fun q : Nat => (q : Int)) (t.nlen2 hb))) | exact h (congrArg (fun q : Nat => (q : Int)) (t.nlen2 hb)) | exact h (fun q => q (congrArg (fun q : Nat => (q : Int)) (t.cs hb))) | exact h (congrArg (fun q : Nat => (q : Int)) (t.cs hb)); done) | skip) | (refine And.intro ?_ ?_) | exact True.intro | (refine @Exists.intro Unit _ () ?_) | (refine @Exists.intro (_ = _) _ rfl ?_) | (change LoopGoal _ _ _ _ _ _; refine loop_at 4 (gmOk E) rfl [] (X := (Int × Nat × Bool)) (fun x => [(21, .int .i64 x.1), (7, .sl 6 (HS (m.take x.1.toNat)).length x.2.1), (8, .bl x.2.2)]) (fun x => [(6, .arr (Int × Int) (Zz.encP Zz.encI Zz.encI) 28 (HS (m.take x.1.toNat)) x.2.1)]) [5] (fun x => 0 ≤ x.1 ∧ x.1 ≤ (m.length : Nat) ∧ (HS (m.take x.1.toNat)).length ≤ x.2.1 ∧ x.2.2 = decide (hh ∈ (HS (m.take x.1.toNat)))) (fun x => m.length - x.1.toNat) ⟨(0, 0, false), ?_⟩ (fun x hI => ?_)) | (change @Exists ((Int × Nat × Bool)) (fun _ => updK _ _ _ _ _ _); refine @Exists.intro ((Int × Nat × Bool)) _ ((?_, ?_, ?_)) ?_; rotate_left 3) | (change LoopGoal _ _ _ _ _ _; refine loop_at 17 (gmOk E) rfl [] (X := Int) (fun z => [(99, .int .i64 z)]) (fun z => []) [] (fun z => 0 ≤ z ∧ z ≤ ((ordS ltC (N.map (·.1))).length : Nat)) (fun z => (ordS ltC (N.map (·.1))).length - z.toNat) ⟨0, ?_⟩ (fun z hZ => ?_)) | (change @Exists (Int) (fun _ => updK _ _ _ _ _ _); refine @Exists.intro (Int) _ ((?_)) ?_; rotate_left 1) | (change DrawGoal _ _ _ _ _ _; first | (change DrawGoal _ _ _ ({ dst := some 102, op := _, type := _, pos := _, after := _, guard := _ } :: _) _ _; refine draw_tree (gmOk E) [24, 25, 26, 27] (.leaf [(0, true), (1, true), (2, true), (3, true), (4, true), (5, true), (6, true), (7, true), (8, true)]) (by kernel_rfl) ?_))
  all_goals first
| (dsimp only; first | rfl | omega)
| rfl
| omega
| exact Nat.le_refl _
| exact Nat.le_trans hs_len (by omega)
| exact Nat.le_trans (t.hl hj) (by omega)
| exact Nat.le_trans (ordS_len _) (Nat.le_trans hs_len (by omega))
| (have q := hs_len (m := m) (i := x.1); first | omega | (change (_ + 1) * 16 ≤ _; omega))
| (have q := t.kl hj; omega)
| exact (tk_dec hI.1 ‹x.1 < _› hI.2.2.2)
| (have e := tk_map (m := m) hI.1 ‹x.1 < _›; dsimp only; rw [e]; first | (rw [List.length_append]; first | done | rfl | exact h) | (rw [List.take_length]; rfl))
end
end Go.Proofs.YtpojafdllcioiaaGreatDoor

namespace Go.Proofs.YtpojafdllcioiaaGreatDoor
open Go.Zz Go.Px
open Go.Qd (okC okC_iff upC cellB okB okC_cell chain cnt1 cntL)
set_option linter.unusedVariables false
set_option linter.unusedSectionVars false
set_option linter.unusedSimpArgs false
set_option maxRecDepth 10000
set_option maxHeartbeats 1000000 in
theorem meeting_form (E : Nat → Addr) (N : NM) (C : CM) (q : Int × Int × Int × Int) (h : ¬ rightP q) : Does (Gm E) 13 ⟨[.ptr 0 0, .agg [.int .i64 q.1, .int .i64 q.2.1, .int .i64 q.2.2.1, .int .i64 q.2.2.2]], [(0, .cells 65 [.mp 1, .mp 2]), (1, .pr (mObj (Enc.ag (Zz.encP Zz.encI (Zz.encP Zz.encI Zz.encI))) (fun v => grp (Gm E) (ndT v)) N)), (2, .pr (mapPr (Enc.ag (Zz.encP Zz.encI Zz.encI)) (Enc.ag (Zz.encP Zz.encI (Zz.encP Zz.encI Zz.encI))) C))], 3, 3, Unit, fun _ => True, fun _ => .tup [.nils, .err 6], fun _ => [(0, .cells 65 [.mp 1, .mp 2]), (1, .pr (mObj (Enc.ag (Zz.encP Zz.encI (Zz.encP Zz.encI Zz.encI))) (fun v => grp (Gm E) (ndT v)) N)), (2, .pr (mapPr (Enc.ag (Zz.encP Zz.encI Zz.encI)) (Enc.ag (Zz.encP Zz.encI (Zz.encP Zz.encI Zz.encI))) C))]⟩ := by
  rename ¬ rightP q => hq
  refine fn_intro (gmOk E) 17 3 [] Tryz.func13 rfl rfl rfl rfl rfl ?_
  repeat' first | (intro h; first | (exfalso; omega; done) | (exfalso; exact h hq; done) | skip) | (refine And.intro ?_ ?_) | exact True.intro | (refine @Exists.intro Unit _ () ?_) | (refine @Exists.intro (_ = _) _ rfl ?_) | (change DrawGoal _ _ _ _ _ _; first | (change DrawGoal _ _ _ ({ dst := some 10, op := _, type := _, pos := _, after := _, guard := _ } :: _) _ _; refine draw_tree (gmOk E) [0, 1, 2] (.leaf [(0, true), (1, true), (2, true)]) (by kernel_rfl) ?_)) | (change CallGoal _ _ _ _ _ _; first | (refine call0 (right_z E q) [] rfl True.intro rfl ?_))
  all_goals first | rfl | omega

section
variable {i : Int} {C : CM} {N : NM} {m : Boxes} {hh : Int × Int}
theorem meeting_m (E : Nat → Addr) (t : TreeR (RM m) i C N) (h : Bs m) (hi : i ≤ 1000) {q : Int × Int × Int × Int} (hq : rightP q) : Does (Gm E) 13 ⟨[.ptr 0 0, .agg [.int .i64 q.1, .int .i64 q.2.1, .int .i64 q.2.2.1, .int .i64 q.2.2.2]], [(0, .cells 65 [.mp 1, .mp 2]), (1, .pr (mObj (Enc.ag (Zz.encP Zz.encI (Zz.encP Zz.encI Zz.encI))) (fun v => grp (Gm E) (ndT v)) N)), (2, .pr (mapPr (Enc.ag (Zz.encP Zz.encI Zz.encI)) (Enc.ag (Zz.encP Zz.encI (Zz.encP Zz.encI Zz.encI))) C))], 3, 4, Nat, fun _ => True, fun k => .tup [.sl 3 (ordS ltH (MH q m)).length k, .nili], fun k => [(0, .cells 65 [.mp 1, .mp 2]), (1, .pr (mObj (Enc.ag (Zz.encP Zz.encI (Zz.encP Zz.encI Zz.encI))) (fun v => grp (Gm E) (ndT v)) N)), (2, .pr (mapPr (Enc.ag (Zz.encP Zz.encI Zz.encI)) (Enc.ag (Zz.encP Zz.encI (Zz.encP Zz.encI Zz.encI))) C)), (3, .arr (Int × Int) (Zz.encP Zz.encI Zz.encI) 28 (ordS ltH (MH q m)) k)]⟩ := by
  obtain ⟨bs, h1, h2, h3⟩ := t.ex
  rw [← t.ms h h2 hq]
  exact meeting_z E bs N C q ⟨h1, by omega, hq⟩
theorem drop_no (E : Nat → Addr) (t : TreeR (RM m) i C N) (hk : ¬ hh ∈ m.map (·.1)) : Does (Gm E) 11 ⟨[.ptr 0 0, .agg [.int .i64 hh.1, .int .i64 hh.2]], [(0, .cells 65 [.mp 1, .mp 2]), (1, .pr (mObj (Enc.ag (Zz.encP Zz.encI (Zz.encP Zz.encI Zz.encI))) (fun v => grp (Gm E) (ndT v)) N)), (2, .pr (mapPr (Enc.ag (Zz.encP Zz.encI Zz.encI)) (Enc.ag (Zz.encP Zz.encI (Zz.encP Zz.encI Zz.encI))) C))], 3, 3, Unit, fun _ => True, fun _ => .err 2, fun _ => [(0, .cells 65 [.mp 1, .mp 2]), (1, .pr (mObj (Enc.ag (Zz.encP Zz.encI (Zz.encP Zz.encI Zz.encI))) (fun v => grp (Gm E) (ndT v)) N)), (2, .pr (mapPr (Enc.ag (Zz.encP Zz.encI Zz.encI)) (Enc.ag (Zz.encP Zz.encI (Zz.encP Zz.encI Zz.encI))) C))]⟩ := drop_none E N C hh (by
  cases e : hasK C hh with
  | false => rfl
  | true => obtain ⟨b, q⟩ := (t.hand hh).1 (hasK_iff.1 e); exact absurd (RM_key q) hk)
theorem gone_1 (E : Nat → Addr) (hk : ¬ hh ∈ m.map (·.1)) : Does (Gm E) 12 (Sp0 [.int .i64 (m.length : Nat), .int .i64 ((dropB hh m).length : Nat)] [] 0 (.int .i64 3)) := by
  have q := gone_z E (m.length : Nat) ((dropB hh m).length : Nat)
  rw [if_pos (by rw [drop_same hk])] at q; exact q
theorem gone_2 (E : Nat → Addr) (hk : hh ∈ m.map (·.1)) : Does (Gm E) 12 (Sp0 [.int .i64 (m.length : Nat), .int .i64 ((dropB hh m).length : Nat)] [] 0 (.int .i64 0)) := by
  have q := gone_z E (m.length : Nat) ((dropB hh m).length : Nat)
  rw [if_neg (fun e => drop_less hk (by omega))] at q; exact q
theorem bad_world {b : Int × Int × Int × Int} (h : ¬ okP b) (hr : rightP b) : inWorld b.1 b.2.1 b.2.2.1 b.2.2.2 = false := by
  cases e : inWorld b.1 b.2.1 b.2.2.1 b.2.2.2 with
  | false => rfl
  | true => exact absurd (Bool.and_eq_true_iff.2 ⟨right_iff.2 hr, e⟩) h
theorem mh_len {q : Int × Int × Int × Int} (h : m.length ≤ 1000) : (ordS ltH (MH q m)).length ≤ 1000 := Nat.le_trans (ordS_len _) (Nat.le_trans (MH_len _ _) h)
end
/-- What a tree and a list hold after so many calls. -/
structure Pl (i : Int) (C : CM) (N : NM) (m : Boxes) (k : Nat) : Prop where
  bs : Bs m
  t : TreeR (RM m) i C N
  cap : m.length ≤ k
  len : (m.length : Int) ≤ i
theorem Pl.nil : Pl 0 [] [((0, 0, 0), ([], 0))] [] 0 := ⟨Bs.nil, TreeR.start (fun h c q => by cases q), Nat.le_refl _, by simp⟩
section
variable {i : Int} {C C' : CM} {N N' : NM} {m : Boxes} {k k' : Nat} {hh : Int × Int} {b : Bx}
theorem Pl.up (h : Pl i C N m k) : Pl (i + 1) C N m k := ⟨h.bs, h.t.ext (by omega) (fun _ _ => Iff.rfl), h.cap, by have := h.len; omega⟩
theorem Pl.put (h : Pl i C N m k) (hb : okP b) (t : TreeR (Upd (RM m) hh b) (i + 1) C' N') (hk : (putB m (hh, b)).length ≤ k') : Pl (i + 1) C' N' (putB m (hh, b)) k' :=
  ⟨h.bs.put hh hb, t.ext (Int.le_refl _) (RM_put hh b), hk, by have := putB_len m (hh, b); have := h.len; omega⟩
theorem Pl.drop (h : Pl i C N m k) (t : TreeR (CutR (RM m) hh) i C' N') (hk : (dropB hh m).length ≤ k') : Pl (i + 1) C' N' (dropB hh m) k' :=
  ⟨h.bs.drop hh, t.ext (by omega) (RM_drop hh), hk, by have := dropB_len hh m; have := h.len; omega⟩
theorem Pl.dropN (h : Pl i C N m k) (hn : ¬ hh ∈ m.map (·.1)) (hk : (dropB hh m).length ≤ k') : Pl (i + 1) C N (dropB hh m) k' := by
  rw [drop_same hn] at hk ⊢; exact ⟨h.bs, h.up.t, hk, h.up.len⟩
theorem Pl.ml (h : Pl i C N m k) (hi : i ≤ 1000) : m.length ≤ 1000 := by have := h.len; omega
end
set_option maxHeartbeats 2000000 in
theorem plays_z (E : Nat → Addr) (l : List (Int × (Int × Int) × (Int × Int × Int × Int) × (Int × Int × Int × Int))) (n k : Nat) (h : n = l.length) : DoesC (Gt E) 3 (Sp0 [.sl 0 n k] [(0, .ro (Int × (Int × Int) × (Int × Int × Int × Int) × (Int × Int × Int × Int)) (Zz.encP Zz.encI (Zz.encP (Zz.encP Zz.encI Zz.encI) (Zz.encP (Zz.encP Zz.encI (Zz.encP Zz.encI (Zz.encP Zz.encI Zz.encI))) (Zz.encP Zz.encI (Zz.encP Zz.encI (Zz.encP Zz.encI Zz.encI)))))) l k)] 1 .tt) := by
  subst h
  refine fn_calls (gtOk E) 108 1 [22] Tryz.func3 rfl rfl rfl rfl rfl ?_
  repeat' first | (change CallGoal _ _ _ _ _ _; first | (change CallGoal _ 4 _ _ _ _; first | (refine call0 (liftT (qalive_z E)) [] rfl True.intro rfl ?_)) | (change CallGoal _ 5 _ _ _ _; first | (refine call_rule (liftT (new_z E)) [] rfl True.intro rfl (fun y0 hy0 => ?_))) | (change CallGoal _ 6 _ _ _ _; first | (refine call0 (liftT (rof_ok E (l.getD x.1.toNat (0, (0, 0), (0, 0, 0, 0), (0, 0, 0, 0))).2.2.1 hs)) [] rfl True.intro rfl ?_) | (refine call0 (liftT (rof_form E (l.getD x.1.toNat (0, (0, 0), (0, 0, 0, 0), (0, 0, 0, 0))).2.2.1 hr)) [] rfl True.intro rfl ?_) | (refine call0 (liftT (rof_range E (l.getD x.1.toNat (0, (0, 0), (0, 0, 0, 0), (0, 0, 0, 0))).2.2.1 ⟨hr, bad_world hs hr⟩)) [] rfl True.intro rfl ?_) | ((fail_if_success (have _ := hs)); refine Or.elim (Classical.em (okP (l.getD x.1.toNat (0, (0, 0), (0, 0, 0, 0), (0, 0, 0, 0))).2.2.1)) (fun hs => ?_) (fun hs => ?_)) | ((fail_if_success (have _ := hr)); refine Or.elim (Classical.em (rightP (l.getD x.1.toNat (0, (0, 0), (0, 0, 0, 0), (0, 0, 0, 0))).2.2.1)) (fun hr => ?_) (fun hr => ?_))) | (change CallGoal _ 8 _ _ _ _; first | (refine call_rule (liftT (put_t E hI.2.2.t (by omega) (l.getD x.1.toNat (0, (0, 0), (0, 0, 0, 0), (0, 0, 0, 0))).2.1 hs)) [1, 2, 3] rfl (And.intro rfl (And.intro rfl (And.intro rfl True.intro))) rfl (fun y1 hy1 => ?_)) | (refine call_rule (liftT (put_form E x.2.2.1 x.2.1 (l.getD x.1.toNat (0, (0, 0), (0, 0, 0, 0), (0, 0, 0, 0))).2.1 (l.getD x.1.toNat (0, (0, 0), (0, 0, 0, 0), (0, 0, 0, 0))).2.2.1 hr)) [1, 2, 3] rfl (And.intro rfl (And.intro rfl (And.intro rfl True.intro))) rfl (fun y2 hy2 => ?_)) | (refine call_rule (liftT (put_range E x.2.2.1 x.2.1 (l.getD x.1.toNat (0, (0, 0), (0, 0, 0, 0), (0, 0, 0, 0))).2.1 (l.getD x.1.toNat (0, (0, 0), (0, 0, 0, 0), (0, 0, 0, 0))).2.2.1 ⟨hr, bad_world hs hr⟩)) [1, 2, 3] rfl (And.intro rfl (And.intro rfl (And.intro rfl True.intro))) rfl (fun y3 hy3 => ?_))) | (change CallGoal _ 7 _ _ _ _; first | (refine call0 (num_range E) [] rfl True.intro rfl ?_) | (refine call0 (num_none E) [] rfl True.intro rfl ?_) | (refine call0 (num_form E) [] rfl True.intro rfl ?_) | (refine call0 (num_nil E) [] rfl True.intro rfl ?_)) | (change CallGoal _ 9 _ _ _ _; first | (refine call_rule (liftT (rputb_z E x.2.2.2.1 _ x.2.2.2.2 ((l.getD x.1.toNat (0, (0, 0), (0, 0, 0, 0), (0, 0, 0, 0))).2.1, (l.getD x.1.toNat (0, (0, 0), (0, 0, 0, 0), (0, 0, 0, 0))).2.2.1) ⟨rfl, hI.2.2.ml (by omega)⟩)) [5] rfl (And.intro rfl True.intro) rfl (fun (r2 : Nat) hr2 => ?_))) | (change CallGoal _ 10 _ _ _ _; first | (refine call_rule (liftT (rdropb_z E x.2.2.2.1 _ x.2.2.2.2 (l.getD x.1.toNat (0, (0, 0), (0, 0, 0, 0), (0, 0, 0, 0))).2.1 ⟨rfl, hI.2.2.ml (by omega)⟩)) [5] rfl (And.intro rfl True.intro) rfl (fun (r3 : Nat) hr3 => ?_))) | (change CallGoal _ 11 _ _ _ _; first | (refine call_rule (liftT (drop_t E hI.2.2.t (by omega) (l.getD x.1.toNat (0, (0, 0), (0, 0, 0, 0), (0, 0, 0, 0))).2.1 (RM_of hI.2.2.bs hk))) [1, 2, 3] rfl (And.intro rfl (And.intro rfl (And.intro rfl True.intro))) rfl (fun y4 hy4 => ?_)) | (refine call_rule (liftT (drop_no E hI.2.2.t hk)) [1, 2, 3] rfl (And.intro rfl (And.intro rfl (And.intro rfl True.intro))) rfl (fun y5 hy5 => ?_)) | ((fail_if_success (have _ := hk)); refine Or.elim (Classical.em ((l.getD x.1.toNat (0, (0, 0), (0, 0, 0, 0), (0, 0, 0, 0))).2.1 ∈ x.2.2.2.1.map (·.1))) (fun hk => ?_) (fun hk => ?_))) | (change CallGoal _ 12 _ _ _ _; first | (refine call0 (liftT (gone_1 E hk)) [] rfl True.intro rfl ?_) | (refine call0 (liftT (gone_2 E hk)) [] rfl True.intro rfl ?_)) | (change CallGoal _ 13 _ _ _ _; first | (refine call_rule (liftT (meeting_m E hJ.t hJ.bs (by omega) hq)) [1, 2, 3] rfl (And.intro rfl (And.intro rfl (And.intro rfl True.intro))) rfl (fun (q1 : Nat) hq1 => ?_)) | (refine call_rule (liftT (meeting_form E y.2.1 y.1 (l.getD x.1.toNat (0, (0, 0), (0, 0, 0, 0), (0, 0, 0, 0))).2.2.2 hq)) [1, 2, 3] rfl (And.intro rfl (And.intro rfl (And.intro rfl True.intro))) rfl (fun y6 hy6 => ?_)) | ((fail_if_success (have _ := hq)); refine Or.elim (Classical.em (rightP (l.getD x.1.toNat (0, (0, 0), (0, 0, 0, 0), (0, 0, 0, 0))).2.2.2)) (fun hq => ?_) (fun hq => ?_))) | (change CallGoal _ 14 _ _ _ _; first | (refine call0 (liftT (ref01right_z E (l.getD x.1.toNat (0, (0, 0), (0, 0, 0, 0), (0, 0, 0, 0))).2.2.2)) [] rfl True.intro rfl ?_)) | (change CallGoal _ 16 _ _ _ _; first | (refine call_rule (liftT (rmeeting_z E y.2.2.1 _ _ (l.getD x.1.toNat (0, (0, 0), (0, 0, 0, 0), (0, 0, 0, 0))).2.2.2 ⟨rfl, hJ.ml (by omega)⟩)) [5] rfl (And.intro rfl True.intro) rfl (fun (q2 : Nat) hq2 => ?_))) | (change CallGoal _ 15 _ _ _ _; first | (refine call0 (liftT (sameH_z E _ _ _ _ _ _ ⟨rfl, rfl, ?_, ?_⟩)) [38, 39] rfl (And.intro rfl (And.intro rfl True.intro)) rfl ?_)) | (change CallGoal _ 17 _ _ _ _; first | (refine call0 (liftT (holds_z E hJ.t hJ.bs (l.getD x.1.toNat (0, (0, 0), (0, 0, 0, 0), (0, 0, 0, 0))).2.1 _ _ ⟨rfl, hJ.ml (by omega), by omega⟩)) [1, 2, 3, 5] rfl (And.intro rfl (And.intro rfl (And.intro rfl (And.intro rfl True.intro)))) rfl ?_))) | (intro h; first | (exfalso; omega; done) | (exfalso; first | exact h trivial | exact h rfl | exact hs h | exact h hs | exact same_no h rfl | exact hq h | exact h hq; done) | skip) | (refine And.intro ?_ ?_) | exact True.intro | (refine @Exists.intro Unit _ () ?_) | (refine @Exists.intro (_ = _) _ rfl ?_) | (change LoopGoal _ _ _ _ _ _; refine loop_at 8 (gtOk E) rfl [22] (X := (Int × CM × NM × Boxes × Nat)) (fun x => [(21, .int .i64 x.1), (4, .sl 5 x.2.2.2.1.length x.2.2.2.2)]) (fun x => [(2, .pr (mObj (Enc.ag (Zz.encP Zz.encI (Zz.encP Zz.encI Zz.encI))) (fun v => grp (Gm E) (ndT v)) x.2.2.1)), (3, .pr (mapPr (Enc.ag (Zz.encP Zz.encI Zz.encI)) (Enc.ag (Zz.encP Zz.encI (Zz.encP Zz.encI Zz.encI))) x.2.1)), (5, .arr ((Int × Int) × Int × Int × Int × Int) (Zz.encP (Zz.encP Zz.encI Zz.encI) (Zz.encP Zz.encI (Zz.encP Zz.encI (Zz.encP Zz.encI Zz.encI)))) 43 x.2.2.2.1 x.2.2.2.2)]) [4] (fun x => 0 ≤ x.1 ∧ x.1 ≤ (l.length : Nat) ∧ Pl x.1 x.2.1 x.2.2.1 x.2.2.2.1 x.2.2.2.2) (fun x => l.length - x.1.toNat) ⟨(0, [], [((0, 0, 0), ([], 0))], [], 0), ?_⟩ (fun x hI => ?_)) | (change @Exists ((Int × CM × NM × Boxes × Nat)) (fun _ => updK _ _ _ _ _ _); refine @Exists.intro ((Int × CM × NM × Boxes × Nat)) _ ((?_, y)) ?_; rotate_left 1) | (change JoinGoal _ _ _ _ _ _ _ _; refine join_rule (gtOk E) (X := (CM × NM × Boxes × Nat)) (fun y => [(4, .sl 5 y.2.2.1.length y.2.2.2)]) (fun y => [(2, .pr (mObj (Enc.ag (Zz.encP Zz.encI (Zz.encP Zz.encI Zz.encI))) (fun v => grp (Gm E) (ndT v)) y.2.1)), (3, .pr (mapPr (Enc.ag (Zz.encP Zz.encI Zz.encI)) (Enc.ag (Zz.encP Zz.encI (Zz.encP Zz.encI Zz.encI))) y.1)), (5, .arr ((Int × Int) × Int × Int × Int × Int) (Zz.encP (Zz.encP Zz.encI Zz.encI) (Zz.encP Zz.encI (Zz.encP Zz.encI (Zz.encP Zz.encI Zz.encI)))) 43 y.2.2.1 y.2.2.2)]) [] (fun y => Pl (x.1 + 1) y.1 y.2.1 y.2.2.1 y.2.2.2) ?_ (fun y hJ => ?_)) | (change @Exists ((CM × NM × Boxes × Nat)) (fun _ => updK _ _ _ _ _ _); refine @Exists.intro ((CM × NM × Boxes × Nat)) _ ((?_, ?_, ?_, ?_)) ?_; rotate_left 4)
  all_goals first
| (dsimp only; first | rfl | omega)
| rfl
| omega
| exact Pl.nil
| exact hJ
| exact hI.2.2.up
| exact hI.2.2.put hs hy1 hr2
| exact hI.2.2.drop hy4 hr3
| exact hI.2.2.dropN hk hr3
| exact Nat.le_trans (mh_len (hJ.ml (by omega))) (by omega)

theorem op_dec (cs : List Value) (h : OkCs [some .i64, some .i64, some .i64, some .i64, some .i64, some .i64, some .i64, some .i64, some .i64, some .i64, some .i64] cs) : ∃ x, cs = (Zz.encP Zz.encI (Zz.encP (Zz.encP Zz.encI Zz.encI) (Zz.encP (Zz.encP Zz.encI (Zz.encP Zz.encI (Zz.encP Zz.encI Zz.encI))) (Zz.encP Zz.encI (Zz.encP Zz.encI (Zz.encP Zz.encI Zz.encI)))))).val x ∧ True := by
  obtain ⟨_, _, rfl, ⟨x1, rfl, _⟩, h1⟩ := h.cons
  obtain ⟨_, _, rfl, ⟨x2, rfl, _⟩, h2⟩ := h1.cons
  obtain ⟨_, _, rfl, ⟨x3, rfl, _⟩, h3⟩ := h2.cons
  obtain ⟨_, _, rfl, ⟨x4, rfl, _⟩, h4⟩ := h3.cons
  obtain ⟨_, _, rfl, ⟨x5, rfl, _⟩, h5⟩ := h4.cons
  obtain ⟨_, _, rfl, ⟨x6, rfl, _⟩, h6⟩ := h5.cons
  obtain ⟨_, _, rfl, ⟨x7, rfl, _⟩, h7⟩ := h6.cons
  obtain ⟨_, _, rfl, ⟨x8, rfl, _⟩, h8⟩ := h7.cons
  obtain ⟨_, _, rfl, ⟨x9, rfl, _⟩, h9⟩ := h8.cons
  obtain ⟨_, _, rfl, ⟨x10, rfl, _⟩, h10⟩ := h9.cons
  obtain ⟨_, _, rfl, ⟨x11, rfl, _⟩, h11⟩ := h10.cons
  obtain rfl := h11.nil
  exact ⟨(x1, (x2, x3), (x4, x5, x6, x7), (x8, x9, x10, x11)), rfl, trivial⟩
theorem quadPlays_any (E : Nat → Addr) (av : Option Addr) (l : List (Int × (Int × Int) × (Int × Int × Int × Int) × (Int × Int × Int × Int))) (c : Nat) (W : World) (hG : Errs [0, 1, 2, 3, 4, 5, 6, 7, 8, 9] W 170 E) (hav : Arr W 11 av l.length c (flat (Zz.encP Zz.encI (Zz.encP (Zz.encP Zz.encI Zz.encI) (Zz.encP (Zz.encP Zz.encI (Zz.encP Zz.encI (Zz.encP Zz.encI Zz.encI))) (Zz.encP Zz.encI (Zz.encP Zz.encI (Zz.encP Zz.encI Zz.encI)))))).val l)) :
    Calls Tryz.prog 3 #[.slice av l.length c] W (Ret fun v w' => v = .bool true ∧ Keep Nn W w') :=
  (plays_z E l l.length c rfl).law (fun _ => av) hG rfl (fun c α e l' k' hm => by cases List.mem_singleton.1 hm; exact ⟨hav, by decide⟩) (fun _ => rfl) (by simp [SV.denL, SV.den, Sp0])
end Go.Proofs.YtpojafdllcioiaaGreatDoor
