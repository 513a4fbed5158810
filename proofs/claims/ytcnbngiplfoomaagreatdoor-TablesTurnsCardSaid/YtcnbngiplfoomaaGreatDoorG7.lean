/- A part of the proof: texts put together. -/
import Derived.Test.YtcnbngiplfoomaaGreatDoorG6
import Derived.Test.YtcnbngiplfoomaaGreatDoorG4
set_option linter.unusedSectionVars false
set_option linter.unusedSimpArgs false
set_option linter.unusedVariables false
namespace Go.Proofs.YtcnbngiplfoomaaGreatDoor
open Go.Zz Go.Px
set_option linter.unusedVariables false
set_option linter.unusedSectionVars false
set_option linter.unusedSimpArgs false
set_option maxRecDepth 10000
set_option maxHeartbeats 4000000 in
theorem turns_no (E : Nat → Addr) (Qv : List (PRow V3)) (n k : Nat) (w : Int) (v : V3) (h : n = Qv.length ∧ ¬ ((1 ≤ Qv.length ∧ Qv.length ≤ 20) ∧ vcheck v = 0)) : DoesC (Gm E) 7 (Sp0 [.sl 0 n k, .int .i64 w, .agg [.int .i64 v.k, .int .i64 v.a, .int .i64 v.b]] [(0, .ro Hdr encS (headsV Qv) k), (1, .fo (roPool Zz.encV Qv)), (2, .fo (tzF 10))] 3 .tt) := by
  obtain ⟨rfl, hl⟩ := h; have hl := hl
  refine fn_calls (gmOk E) 125 3 [] Tryz.func7 rfl rfl rfl rfl rfl ?_
  repeat' first | (intro h; first | (exfalso; omega; done) | (exfalso; first | exact h trivial | omega; done) | skip) | (refine And.intro ?_ ?_) | exact True.intro | (refine @Exists.intro Unit _ () ?_) | (refine @Exists.intro (_ = _) _ rfl ?_) | (change CallGoal _ _ _ _ _ _; first | (refine call0 (alive_z E) [2] rfl (And.intro rfl True.intro) rfl ?_) | (refine call0 (rcheck_z E v) [] rfl True.intro rfl ?_))
  all_goals first | rfl | omega | exact hl ⟨⟨by omega, by omega⟩, by omega⟩
section
variable {Qv : List (PRow V3)} {jj n : Nat} {v : V3} {R : List Ey} {hd : Hd} {r r2 : Rw}
theorem hrt {b : Bool} (h : (!b) = false) : b = true := by cases b <;> simp at h ⊢
theorem rows_next {n : Nat} (hI : ∀ j, j < n → rightV (rowQ Qv j).2.2 = true ∧ (rowQ Qv j).2.2.length ≤ 20) (h1 : rightV (rowQ Qv n).2.2 = true) (h2 : (rowQ Qv n).2.2.length ≤ 20) (j : Nat) (hj : j < n + 1) : rightV (rowQ Qv j).2.2 = true ∧ (rowQ Qv j).2.2.length ≤ 20 := by
  by_cases e : j = n
  · subst e; exact ⟨h1, h2⟩
  · exact hI j (by omega)
theorem turn_set (hjj : jj < n) : insR (delR (rowsR (rowsV Qv) n) (hI jj)) (hI jj, r) = setR (rowsR (rowsV Qv) n) (hI jj) r := ins_del rowsR_rises (rowsR_has hjj)
theorem turn_get (hjj : jj < n) : getK (insR (delR (rowsR (rowsV Qv) n) (hI jj)) (hI jj, r)) (hI jj) = some r := by rw [turn_set hjj]; exact set_get (rowsR_has hjj) (ris_nd rowsR_rises)
theorem turn_len (hjj : jj < n) (hn : n ≤ 30) : (insR (delR (rowsR (rowsV Qv) n) (hI jj)) (hI jj, r)).length ≤ 30 := by rw [turn_set hjj, setR_len, rowsR_len]; exact hn
theorem turn_back (hjj : jj < n) (hr : rightV ((rowQ Qv jj).2.2) = true) (hv : vcheck v = 0) (hq : hasV ((rowQ Qv jj).2.2) v.k = false) : insR (delR (insR (delR (rowsR (rowsV Qv) n) (hI jj)) (hI jj, putR ((rowQ Qv jj).2.2) v)) (hI jj)) (hI jj, dropV (putR ((rowQ Qv jj).2.2) v) v.k) = rowsR (rowsV Qv) n := by
  rw [drop_put hr hv hq, turn_set hjj, ins_del (set_rises rowsR_rises) (by rw [set_has]; exact rowsR_has hjj), set_set]
  exact set_same (rowsV_at ▸ rowsR_get hjj) (ris_nd rowsR_rises)
theorem any_of (h : getK R hd = some r) : anyM R (mkI r) = true := by
  unfold anyM; exact List.any_eq_true.2 ⟨(hd, r), kmem_of h, by simp⟩
theorem turn_any (hjj : jj < n) : anyM (rowsR (rowsV Qv) n) (mkI ((rowQ Qv jj).2.2)) = true := any_of (hd := hI jj) (rowsV_at ▸ rowsR_get hjj)
theorem inR_pos (h : getK R hd = some r) : 0 < (inR R (mkI r)).length := by
  refine List.length_pos_of_mem (a := hd) ?_
  unfold inR
  exact List.mem_map.2 ⟨(hd, r), List.mem_filter.2 ⟨kmem_of h, by simp⟩, rfl⟩
theorem turn_in (hjj : jj < n) : 0 < (inR (rowsR (rowsV Qv) n) (mkI (rowQ Qv jj).2.2)).length := inR_pos (hd := hI jj) (rowsV_at ▸ rowsR_get hjj)
end
set_option maxHeartbeats 4000000 in
theorem turns_ok (E : Nat → Addr) (Qv : List (PRow V3)) (n k : Nat) (w : Int) (v : V3) (h : n = Qv.length ∧ (1 ≤ Qv.length ∧ Qv.length ≤ 20) ∧ vcheck v = 0) : DoesC (Gm E) 7 (Sp0 [.sl 0 n k, .int .i64 w, .agg [.int .i64 v.k, .int .i64 v.a, .int .i64 v.b]] [(0, .ro Hdr encS (headsV Qv) k), (1, .fo (roPool Zz.encV Qv)), (2, .fo (tzF 10))] 3 .tt) := by
  obtain ⟨rfl, hl, hv⟩ := h; obtain ⟨jj, hjj, ejj⟩ : ∃ jj : Nat, jj < Qv.length ∧ (IntKind.u64.wrap w).tmod (IntKind.u64.wrap ((Qv.length : Nat) : Int)) = ((jj : Nat) : Int) := by
    have q := rO_in (f := w) (n := Qv.length) (by omega) (by omega)
    unfold rO at q
    exact ⟨((IntKind.u64.wrap w).tmod (IntKind.u64.wrap ((Qv.length : Nat) : Int))).toNat, by omega, by omega⟩
  refine fn_calls (gmOk E) 125 3 [6, 9, 15, 20, 23] Tryz.func7 rfl rfl rfl rfl rfl ?_
  repeat' first | (change CallGoal _ _ _ _ _ _; first | (change CallGoal _ 16 _ _ _ _; first | (refine call_rule (sPut E x.2 (rowsR (rowsV Qv) x.1) (hI x.1) ((rowQ Qv x.1).2.2) _ _ ⟨rfl, rowsR_new, hrt (by assumption), by omega, by rw [rowsR_len]; omega, .inr (masks_few (by rw [rowsR_len]; omega))⟩) [4, 5, 22, 2] rfl (And.intro rfl (And.intro rfl (And.intro rfl (And.intro rfl True.intro)))) rfl (fun (S3 : List (PRow Int)) hS3 => ?_))) | (change CallGoal _ 17 _ _ _ _; first | (refine call_rule (sAddHas E xq (rowsR (rowsV Qv) Qv.length) (hI jj) ((rowQ Qv jj).2.2) v ⟨rowsV_at ▸ rowsR_get hjj, hv, hq⟩) [4, 5, 2] rfl (And.intro rfl (And.intro rfl (And.intro rfl True.intro))) rfl (fun (y2 : Unit) hy2 => ?_)) | (refine call_rule (sAddY E xq (rowsR (rowsV Qv) Qv.length) (hI jj) ((rowQ Qv jj).2.2) v ⟨rowsV_at ▸ rowsR_get hjj, hv, hq, room_few (by rw [rowsR_len]; omega)⟩) [4, 5, 2] rfl (And.intro rfl (And.intro rfl (And.intro rfl True.intro))) rfl (fun (S4 : List (PRow Int)) hS4 => ?_))) | (change CallGoal _ 33 _ _ _ _; first | (refine call_rule (sGetY E (xq ++ S4) (insR (delR (rowsR (rowsV Qv) Qv.length) (hI jj)) (hI jj, putR ((rowQ Qv jj).2.2) v)) (hI jj) (putR ((rowQ Qv jj).2.2) v) v.k ⟨turn_get hjj, has_put (hI_.2 jj hjj).1 hv⟩) [4] rfl (And.intro rfl True.intro) rfl (fun (y3 : Unit) hy3 => ?_))) | (change CallGoal _ 26 _ _ _ _; first | (refine call_rule (sRemY E (xq ++ S4) (insR (delR (rowsR (rowsV Qv) Qv.length) (hI jj)) (hI jj, putR ((rowQ Qv jj).2.2) v)) (hI jj) (putR ((rowQ Qv jj).2.2) v) v.k ⟨turn_get hjj, has_put (hI_.2 jj hjj).1 hv, room_few (turn_len hjj (by omega))⟩) [4, 5, 2] rfl (And.intro rfl (And.intro rfl (And.intro rfl True.intro))) rfl (fun (S5 : List (PRow Int)) hS5 => ?_))) | (change CallGoal _ 18 _ _ _ _; first | (refine call_rule (sEntity E ((xq ++ S4) ++ S5) (rowsR (rowsV Qv) Qv.length) (hI y.1) ((rowQ Qv y.1).2.2) (rowsV_at ▸ rowsR_get (by omega))) [4, 5] rfl (And.intro rfl (And.intro lends_pool True.intro)) rfl (fun (q1 : Nat) hq1 => ?_))) | (change CallGoal _ 19 _ _ _ _; first | (refine call0 (rsame_z E ((rowQ Qv y.1).2.2) ((rowQ Qv y.1).2.2) _ q1 _ _ ⟨⟨rfl, rfl⟩, by have := hI_.2 y.1 (by omega); omega, by have := hI_.2 y.1 (by omega); omega⟩) [42, 40] rfl (And.intro rfl (And.intro rfl True.intro)) rfl ?_)) | (change CallGoal _ 31 _ _ _ _; first | (refine callG.foOut 1 jj (rowQ Qv jj) rfl (rowQ_get hjj) ?_; change CallGoal _ _ _ _ _ _; refine call_args [.sl 40 (rowQ Qv jj).2.2.length (rowQ Qv jj).2.1] (fun _ => bdLB_ok _ rfl) (fun En V w hp => by simp only [SV.denL]; exact congrArg (fun z => [z]) ((head_den (i := jj) (rowQ Qv jj)).trans (says (c := 41) rfl hp).symm)) ?_; change CallGoal _ _ _ _ _ _; refine call0 (rmask_z E ((rowQ Qv jj).2.2) _ _ ⟨rfl, by have := hI_.2 jj hjj; omega, right_kinds (hI_.2 jj hjj).1⟩) [40] rfl (And.intro rfl True.intro) rfl ?_)) | (change CallGoal _ 28 _ _ _ _; first | (refine call_rule (sInY E ((xq ++ S4) ++ S5) (rowsR (rowsV Qv) Qv.length) (mkI ((rowQ Qv jj).2.2)) (turn_any hjj)) [4] rfl (And.intro rfl True.intro) rfl (fun (q2 : Nat) hq2 => ?_)))) | (change JoinGoal _ _ _ _ _ _ _ _; refine join_stop (gmOk E) ?_) | (change HereGoal _ _ _ _ _ _ _; refine here_at 6 rfl ?_; change HereGoal _ _ _ _ _ _ _; refine hereG.poolNil Zz.encI 3 ?_; change HereGoal _ _ _ _ _ _ _; refine here_go (gmOk E) ?_) | (change HereGoal _ _ _ _ _ _ _; refine here_at 9 rfl ?_; change HereGoal _ _ _ _ _ _ _; refine hereG.foOut 1 x.1 (rowQ Qv x.1) rfl (rowQ_get (by omega)) ?_; change HereGoal _ _ _ _ _ _ _; refine here_set 9 (.sl 22 (rowQ Qv x.1).2.2.length (rowQ Qv x.1).2.1) rfl (fun _ => by simp only [SV.bd]; omega) (fun En V w hp => (head_den (i := x.1) (rowQ Qv x.1)).trans (says (c := 23) rfl hp).symm) ?_; change HereGoal _ _ _ _ _ _ _; refine here_go (gmOk E) ?_) | (change HereGoal _ _ _ _ _ _ _; refine here_at 15 rfl ?_; change HereGoal _ _ _ _ _ _ _; (have ex : x.1 = Qv.length := by omega); (obtain ⟨xi, xq⟩ := x); dsimp only at *; subst ex; refine hereG.cells_ 22 [.int .i64 ((jj : Nat) : Int), .int .i64 1] rfl rfl (fun En V w hp => by simp only [SV.denL, SV.den]; rw [ejj]) ?_; change HereGoal _ _ _ _ _ _ _; cases hq : hasV ((rowQ Qv jj).2.2) v.k <;> (change HereGoal _ _ _ _ _ _ _; refine here_go (gmOk E) ?_)) | (change HereGoal _ _ _ _ _ _ _; refine here_at 20 rfl ?_; change HereGoal _ _ _ _ _ _ _; refine hereG.cast 4 (.pr (storePr E ((xq ++ S4) ++ S5) (rowsR (rowsV Qv) Qv.length))) rfl (by rw [turn_back hjj (hI_.2 jj hjj).1 hv hq]) ?_; change HereGoal _ _ _ _ _ _ _; refine here_go (gmOk E) ?_) | (change HereGoal _ _ _ _ _ _ _; refine here_at 23 rfl ?_; change HereGoal _ _ _ _ _ _ _; refine hereG.foOut 1 y.1 (rowQ Qv y.1) rfl (rowQ_get (by omega)) ?_; change HereGoal _ _ _ _ _ _ _; refine here_set 14 (.sl 40 (rowQ Qv y.1).2.2.length (rowQ Qv y.1).2.1) rfl (fun _ => by simp only [SV.bd]; omega) (fun En V w hp => (head_den (i := y.1) (rowQ Qv y.1)).trans (says (c := 41) rfl hp).symm) ?_; change HereGoal _ _ _ _ _ _ _; refine here_go (gmOk E) ?_) | with_reducible rfl | (intro h; first | (exfalso; omega; done) | (exfalso; first | exact h trivial | omega | (rw [wrap_n (by omega)] at h; omega) | (rw [sameL_refl] at h; cases h; done) | (exact h (sameL_refl _)) | (rw [putR_find (hI_.2 jj hjj).1 hv, if_pos rfl] at h; first | exact h ⟨rfl, rfl, rfl⟩ | (simp at h; done)); done) | skip) | (refine And.intro ?_ ?_) | exact True.intro | (refine @Exists.intro Unit _ () ?_) | (refine @Exists.intro (_ = _) _ rfl ?_) | (change NextGoal _ _ _; refine next_go ?_) | (change LoopGoal _ _ _ _ _ _; refine loop_keep 7 [0, 1, 5, 7, 33, 34] (gmOk E) rfl [6, 9, 15, 20, 23] (X := (Nat × List (PRow Int))) (fun x => [(35, .int .i64 ((x.1 : Nat) : Int))]) (fun x => [(4, .pr (storePr E x.2 (rowsR (rowsV Qv) x.1))), (5, .pr (poolPr Zz.encI 3 x.2))]) [] (fun x => x.1 ≤ Qv.length ∧ ∀ j, j < x.1 → rightV ((rowQ Qv j).2.2) = true ∧ ((rowQ Qv j).2.2).length ≤ 20) (fun x => Qv.length - x.1) ⟨(0, []), ?_⟩ (fun x hI_ => ?_)) | (change @Exists ((Nat × List (PRow Int))) (fun _ => updPK _ _ _ _ _ _); refine @Exists.intro ((Nat × List (PRow Int))) _ ((x.1 + 1, x.2 ++ S3)) ?_) | (change LoopGoal _ _ _ _ _ _; refine loop_keep 21 [0, 7, 10, 91, 92] (gmOk E) rfl [6, 9, 15, 20, 23] (X := (Nat × Unit)) (fun y => [(93, .int .i64 ((y.1 : Nat) : Int))]) (fun y => []) [] (fun y => y.1 ≤ Qv.length) (fun y => Qv.length - y.1) ⟨(0, ()), ?_⟩ (fun y hJ => ?_)) | (change @Exists ((Nat × Unit)) (fun _ => updPK _ _ _ _ _ _); refine @Exists.intro ((Nat × Unit)) _ ((y.1 + 1, ())) ?_) | (change CallGoal _ _ _ _ _ _; first | (refine call_rule (sNew E []) [] rfl True.intro rfl (fun (y1 : Unit) hy1 => ?_))) | (change CallGoal _ _ _ _ _ _; first | (refine call0 (alive_z E) [2] rfl (And.intro rfl True.intro) rfl ?_) | (refine call0 (rcheck_z E v) [] rfl True.intro rfl ?_) | (refine call0 (rright_z E ((rowQ Qv x.1).2.2) _ _ ⟨rfl, by omega⟩) [22] rfl (And.intro rfl True.intro) rfl ?_))
  all_goals first | (dsimp only; first | rfl | omega) | rfl | omega | (rw [heads_len]; omega) | (show _ < _; rw [heads_len]; omega) | (dsimp only; rw [← rowsR_ins, rowsV_at]) | exact (rows_next hI_.2 (hrt (by assumption)) (by omega) _ (by assumption)).1 | exact (rows_next hI_.2 (hrt (by assumption)) (by omega) _ (by assumption)).2 | (rw [wrap_n (by omega)]; omega) | exact Nat.zero_le _ | (have q := turn_in (Qv := Qv) hjj; first | omega | exact Int.ofNat_lt.2 q)
theorem turns_z (E : Nat → Addr) (Qv : List (PRow V3)) (n k : Nat) (w : Int) (v : V3) (h : n = Qv.length) : DoesC (Gm E) 7 (Sp0 [.sl 0 n k, .int .i64 w, .agg [.int .i64 v.k, .int .i64 v.a, .int .i64 v.b]] [(0, .ro Hdr encS (headsV Qv) k), (1, .fo (roPool Zz.encV Qv)), (2, .fo (tzF 10))] 3 .tt) := by
  by_cases hl : (1 ≤ Qv.length ∧ Qv.length ≤ 20) ∧ vcheck v = 0
  · exact turns_ok E Qv n k w v ⟨h, hl.1, hl.2⟩
  · exact turns_no E Qv n k w v ⟨h, hl⟩
end Go.Proofs.YtcnbngiplfoomaaGreatDoor
namespace Go.Proofs.YtcnbngiplfoomaaGreatDoor
open Go.Zz Go.Px
set_option linter.unusedVariables false
set_option linter.unusedSectionVars false
set_option linter.unusedSimpArgs false
set_option maxRecDepth 10000
open Go.Proofs
theorem turns_any (E : Nat → Addr) (av : Option Addr) (Qv : List (PRow V3)) (c : Nat) (w : Int) (v : V3) (W : World) (hG : Errs (Gm E).errs W (Gm E).Δ.eT E) (hT : TabAt 10 Lib.deBruijn64tab W) (hs : 10 < W.heap.size) (hav : Arr W 1 av Qv.length c (flat encS.val (headsV Qv))) (hQ : ∀ q ∈ Qv, Arr W 3 q.1 q.2.2.length q.2.1 (flat Zz.encV.val q.2.2)) :
    Calls Tryz.prog 7 #[.slice av Qv.length c, .int .i64 w, .agg #[.int .i64 v.k, .int .i64 v.a, .int .i64 v.b]] W (Ret fun v w' => v = .bool true ∧ Keep Nn W w') :=
  (turns_z E Qv Qv.length c w v rfl).law2 (fun _ => av) hG rfl (fun d α e l' k' hm => by
    rcases List.mem_cons.1 hm with hm | hm
    · cases hm; exact ⟨by rw [heads_len]; exact hav, by decide⟩
    · rcases List.mem_cons.1 hm with hm | hm
      · cases hm
      · cases List.mem_singleton.1 hm) (fun d Ψ hm => by
    rcases List.mem_cons.1 hm with hm | hm
    · cases hm
    · rcases List.mem_cons.1 hm with hm | hm
      · cases hm; exact rows_fo hQ _
      · cases List.mem_singleton.1 hm; exact ⟨hT, id, hs⟩) (fun _ => rfl) (by simp [SV.denL, SV.den, Sp0])
end Go.Proofs.YtcnbngiplfoomaaGreatDoor
