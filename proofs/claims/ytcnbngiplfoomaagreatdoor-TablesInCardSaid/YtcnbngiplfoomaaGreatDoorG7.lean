/- A part of the proof: texts put together. -/
import Derived.Test.YtcnbngiplfoomaaGreatDoorG6
import Derived.Test.YtcnbngiplfoomaaGreatDoorG4
set_option linter.unusedSectionVars false
set_option linter.unusedSimpArgs false
set_option linter.unusedVariables false
namespace Go.Proofs.YtcnbngiplfoomaaGreatDoor
open Go.Zz Go.Px
set_option linter.unusedVariables false
set_option linter.unusedSectionVars false
set_option linter.unusedSimpArgs false
set_option maxRecDepth 10000
section
variable {R : List Ey} {x : XT} {c : List Int}
theorem masks_ris (R : List Ey) : Rises ltZ (masksR R) := by
  unfold masksR Rises
  refine List.Pairwise.filter _ (List.Pairwise.map _ (fun a b h => ?_) (List.pairwise_lt_range (n := 1024)))
  simp only [ltZ, decide_eq_true_eq]; omega
theorem ord_ris {c : List Int} (hn : c.Nodup) (ho : OrdI c 0 c.length) : Rises ltZ c := by
  refine List.pairwise_iff_getElem.2 fun i j hi hj hij => ?_
  have h1 := ho.le i j (by omega) hij hj
  rw [gI_at hi, gI_at hj] at h1
  have h2 : c[i] ≠ c[j] := fun e => by have := (List.getElem_inj hn).1 e; omega
  simp only [ltZ, decide_eq_true_eq]; omega
theorem XOk.masks (hx : XOk R x) (hp : c.Perm (x.1.map fun y : Int × List Ey => y.1)) (ho : OrdI c 0 c.length) : c = masksR R := by
  have hn : c.Nodup := hp.nodup_iff.2 hx.inv.tnd
  refine Rises.ext ordZ (ord_ris hn ho) (masks_ris R) fun m => ?_
  rw [hp.mem_iff, mem_masksR hx.inv.row, ← hx.inv.hasT, hasK_iff]
end
set_option maxHeartbeats 4000000 in
theorem sortedFew_z (E : Nat → Addr) (L : List (Int × Option Nat)) (h : L.length ≤ 12) : Does (Gm E) 66 ⟨[.fn 108 [.ptr 0 0]], [(0, .cells 104 [.mp 1]), (1, .pr (mapPr veU veP L))], 2, 3, List Int × Nat, fun x => (x.1.Perm (L.map (·.1)) ∧ OrdI x.1 0 x.1.length) ∧ x.1.length ≤ x.2, fun x => .sl 2 x.1.length x.2, fun x => [(0, .cells 104 [.mp 1]), (1, .pr (mapPr veU veP L)), (2, .arr Int encU 56 x.1 x.2)]⟩ := by
  refine fn_intro (gmOk E) 9 2 [] Tryz.func66 rfl rfl rfl rfl rfl ?_
  repeat' first | (intro h; first | (exfalso; omega; done) | skip) | (refine And.intro ?_ ?_) | exact True.intro | (refine @Exists.intro Unit _ () ?_) | (refine @Exists.intro (_ = _) _ rfl ?_) | (refine @Exists.intro (List Int × Nat) _ (c, x.2) ?_) | (change CallGoal _ _ _ _ _ _; first | (refine call_rule (collU_z E L (by omega)) [0, 1] rfl (And.intro rfl (And.intro rfl True.intro)) rfl (fun (x : List Int × Nat) (hx : x.1.Perm (L.map (·.1)) ∧ x.1.length ≤ x.2) => ?_)) | (refine call_rule (sortFew_z E x.1 _ x.2 ⟨rfl, by have q := hx.1.length_eq; rw [List.length_map] at q; omega⟩) [2] rfl (And.intro rfl True.intro) rfl (fun (c : List Int) hc => ?_)))
  all_goals first | rfl | omega | exact hc.1.trans hx.1 | (have q := hc.1.length_eq; exact q ▸ hc.2) | (rw [hc.1.length_eq]; first | exact hc.2 | exact hx.2) | exact hc.1.length_eq.symm
set_option maxHeartbeats 4000000 in
theorem sMasks (E : Nat → Addr) (Q : List (PRow Int)) (R : List Ey) (h : (masksR R).length ≤ 12) : Does (Gm E) 20 ⟨[.ptr 0 0], [(0, .pr (storePr E Q R))], 1, 2, Nat, fun q => (masksR R).length ≤ q, fun q => .sl 1 (masksR R).length q, fun q => [(0, .pr (storePr E Q R)), (1, .arr Int encU 56 (masksR R) q)]⟩ := by
  rename _ ≤ 12 => hm
  refine DoesC.does (fn_start Tryz.func20 rfl rfl rfl ?_)
  change EntryGoal _ _ _ _ _
  refine entryG.ex 0 rfl (fun x hx => ?_)
  change EntryGoal _ _ _ _ _
  refine entryG.open_ 0 rfl 5 rfl rfl ?_
  change EntryGoal _ _ _ _ _
  refine entry_go (gmOk E) 9 1 [] Tryz.func20 rfl rfl rfl rfl ?_
  repeat' first | (change RetGoal _ _ _ _ _; first | (have hc := hx.masks (hy.1.1.trans (by rw [show ((ptrL (x.1.map (fun y : Int × List Ey => y.1)) x.2.2.2).map (·.1)) = _ from ptrL_keys])) hy.1.2; refine retG'.cast 7 (.arr Int encU 56 (masksR R) y.2) rfl (by rw [hc]) ?_; change RetGoal _ _ _ _ _; (refine retG'.shut (Γ0 := Gm E) rfl (.cells 108 [.mp 1, .mp 2, .mp 3]) [(1, .pr (mapPr veU veP (ptrL ((x).1.map (fun y : Int × List Ey => y.1)) (x).2.2.2))), (2, .pr (mapPr (Enc.ag (Zz.encP Zz.encI Zz.encI)) vePl (placL (x).2.1 (x).2.2.2))), (3, .pr (mapPr (Enc.ag (Zz.encP encU Zz.encI)) veU (x).2.2.1)), (4, .pr (restPr (tabP E Q) (tabL (x).1) (x).2.2.2))] [0, 2, 3, 4, 5] (And.intro rfl (And.intro rfl (And.intro rfl (And.intro rfl (And.intro rfl True.intro))))) rfl ?_; change RetGoal _ _ _ _ _; refine retG'.hide (X := XT) (p := XOk R) (Φ := fun x => grp (Gm E) (stoH E Q x)) 0 (x) (hx) rfl ?_; change RetGoal _ _ _ _ _; refine ret_done rfl ?_))) | (intro h; first | (exfalso; omega; done) | skip) | (refine And.intro ?_ ?_) | exact True.intro | (refine @Exists.intro Unit _ () ?_) | (refine @Exists.intro (_ = _) _ rfl ?_) | (refine @Exists.intro (Nat) _ ?_ ?_; rotate_left) | (change CallGoal _ _ _ _ _ _; first | (refine call_rule (keysU_z E (ptrL (x.1.map (fun y : Int × List Ey => y.1)) x.2.2.2)) [2] rfl (And.intro rfl True.intro) rfl (fun y1 hy1 => ?_)) | (refine call_rule (sortedFew_z E (ptrL (x.1.map (fun y : Int × List Ey => y.1)) x.2.2.2) (by rw [keys_len, hx.tlen]; exact hm)) [6, 2] rfl (And.intro rfl (And.intro rfl True.intro)) rfl (fun (y : List Int × Nat) hy => ?_)))
  all_goals first | rfl | omega | (rw [hc]; done) | (have q := hy.2; rw [hc] at q; exact q)
end Go.Proofs.YtcnbngiplfoomaaGreatDoor
namespace Go.Proofs.YtcnbngiplfoomaaGreatDoor
open Go.Zz Go.Px
set_option linter.unusedVariables false
set_option linter.unusedSectionVars false
set_option linter.unusedSimpArgs false
set_option maxRecDepth 10000
set_option maxHeartbeats 4000000 in
theorem sortedU_z (E : Nat → Addr) (L : List (Int × Option Nat)) (h : L.length ≤ 49) : Does (Gm E) 66 ⟨[.fn 108 [.ptr 0 0]], [(0, .cells 104 [.mp 1]), (1, .pr (mapPr veU veP L))], 2, 3, List Int × Nat, fun x => (x.1.Perm (L.map (·.1)) ∧ OrdI x.1 0 x.1.length) ∧ x.1.length ≤ x.2, fun x => .sl 2 x.1.length x.2, fun x => [(0, .cells 104 [.mp 1]), (1, .pr (mapPr veU veP L)), (2, .arr Int encU 56 x.1 x.2)]⟩ := by
  refine fn_intro (gmOk E) 9 2 [] Tryz.func66 rfl rfl rfl rfl rfl ?_
  repeat' first | (intro h; first | (exfalso; omega; done) | skip) | (refine And.intro ?_ ?_) | exact True.intro | (refine @Exists.intro Unit _ () ?_) | (refine @Exists.intro (_ = _) _ rfl ?_) | (refine @Exists.intro (List Int × Nat) _ (c, x.2) ?_) | (change CallGoal _ _ _ _ _ _; first | (refine call_rule (collU_z E L (by omega)) [0, 1] rfl (And.intro rfl (And.intro rfl True.intro)) rfl (fun (x : List Int × Nat) (hx : x.1.Perm (L.map (·.1)) ∧ x.1.length ≤ x.2) => ?_)) | (refine call_rule (sortU_z E x.1 _ x.2 ⟨rfl, by have q := hx.1.length_eq; rw [List.length_map] at q; omega⟩) [2] rfl (And.intro rfl True.intro) rfl (fun (c : List Int) hc => ?_)))
  all_goals first | rfl | omega | exact hc.1.trans hx.1 | (have q := hc.1.length_eq; exact q ▸ hc.2) | (rw [hc.1.length_eq]; first | exact hc.2 | exact hx.2) | exact hc.1.length_eq.symm
set_option maxHeartbeats 4000000 in
theorem sMasksA (E : Nat → Addr) (Q : List (PRow Int)) (R : List Ey) (h : (masksR R).length ≤ 49) : Does (Gm E) 20 ⟨[.ptr 0 0], [(0, .pr (storePr E Q R))], 1, 2, Nat, fun q => (masksR R).length ≤ q, fun q => .sl 1 (masksR R).length q, fun q => [(0, .pr (storePr E Q R)), (1, .arr Int encU 56 (masksR R) q)]⟩ := by
  rename _ ≤ 49 => hm
  refine DoesC.does (fn_start Tryz.func20 rfl rfl rfl ?_)
  change EntryGoal _ _ _ _ _
  refine entryG.ex 0 rfl (fun x hx => ?_)
  change EntryGoal _ _ _ _ _
  refine entryG.open_ 0 rfl 5 rfl rfl ?_
  change EntryGoal _ _ _ _ _
  refine entry_go (gmOk E) 9 1 [] Tryz.func20 rfl rfl rfl rfl ?_
  repeat' first | (change RetGoal _ _ _ _ _; first | (have hc := hx.masks (hy.1.1.trans (by rw [show ((ptrL (x.1.map (fun y : Int × List Ey => y.1)) x.2.2.2).map (·.1)) = _ from ptrL_keys])) hy.1.2; refine retG'.cast 7 (.arr Int encU 56 (masksR R) y.2) rfl (by rw [hc]) ?_; change RetGoal _ _ _ _ _; (refine retG'.shut (Γ0 := Gm E) rfl (.cells 108 [.mp 1, .mp 2, .mp 3]) [(1, .pr (mapPr veU veP (ptrL ((x).1.map (fun y : Int × List Ey => y.1)) (x).2.2.2))), (2, .pr (mapPr (Enc.ag (Zz.encP Zz.encI Zz.encI)) vePl (placL (x).2.1 (x).2.2.2))), (3, .pr (mapPr (Enc.ag (Zz.encP encU Zz.encI)) veU (x).2.2.1)), (4, .pr (restPr (tabP E Q) (tabL (x).1) (x).2.2.2))] [0, 2, 3, 4, 5] (And.intro rfl (And.intro rfl (And.intro rfl (And.intro rfl (And.intro rfl True.intro))))) rfl ?_; change RetGoal _ _ _ _ _; refine retG'.hide (X := XT) (p := XOk R) (Φ := fun x => grp (Gm E) (stoH E Q x)) 0 (x) (hx) rfl ?_; change RetGoal _ _ _ _ _; refine ret_done rfl ?_))) | (intro h; first | (exfalso; omega; done) | skip) | (refine And.intro ?_ ?_) | exact True.intro | (refine @Exists.intro Unit _ () ?_) | (refine @Exists.intro (_ = _) _ rfl ?_) | (refine @Exists.intro (Nat) _ ?_ ?_; rotate_left) | (change CallGoal _ _ _ _ _ _; first | (refine call_rule (keysU_z E (ptrL (x.1.map (fun y : Int × List Ey => y.1)) x.2.2.2)) [2] rfl (And.intro rfl True.intro) rfl (fun y1 hy1 => ?_)) | (refine call_rule (sortedU_z E (ptrL (x.1.map (fun y : Int × List Ey => y.1)) x.2.2.2) (by rw [keys_len, hx.tlen]; exact hm)) [6, 2] rfl (And.intro rfl (And.intro rfl True.intro)) rfl (fun (y : List Int × Nat) hy => ?_)))
  all_goals first | rfl | omega | (rw [hc]; done) | (have q := hy.2; rw [hc] at q; exact q)
end Go.Proofs.YtcnbngiplfoomaaGreatDoor
namespace Go.Proofs.YtcnbngiplfoomaaGreatDoor
open Go.Zz Go.Px
set_option linter.unusedVariables false
set_option linter.unusedSectionVars false
set_option linter.unusedSimpArgs false
set_option maxRecDepth 10000
def aH : Hd := (0, 1)
def aR : Rw := [⟨0, 0, 0⟩]
def aV : V3 := ⟨1, 0, 0⟩
def aR1 : List Ey := insR [] (aH, aR)
def aR2 : List Ey := insR (delR aR1 aH) (aH, putR aR aV)
theorem a_right : rightV aR = true := by decide
theorem a_none : anyM [] (mkI aR) = false := rfl
theorem a_masks0 : (masksR []).length < 32 := by decide +kernel
theorem a_get : getK aR1 aH = some aR := by decide
theorem a_check : vcheck aV = 0 := by decide
theorem a_has : hasV aR aV.k = false := by decide
theorem a_masks1 : (masksR aR1).length = 1 := by decide +kernel
theorem a_room (t : Int) : RoomR aR1 aR t := by
  unfold RoomR; right; rw [a_masks1]; split <;> omega
theorem a_masks2 : masksR aR2 = [3] := by decide +kernel
set_option maxHeartbeats 4000000 in
theorem alive_z (E : Nat → Addr)  : Does (Gm E) 13 (Sp0 [] [(0, .fo (tzF 10))] 1 .tt) := by
  refine DoesC.does (fn_start Tryz.func13 rfl rfl rfl ?_)
  change EntryGoal _ _ _ _ _
  refine entry_go (gmOk E) 32 1 [2] Tryz.func13 rfl rfl rfl rfl ?_
  repeat' first | (change JoinGoal _ _ _ _ _ _ _ _; refine join_stop (gmOk E) ?_) | (change HereGoal _ _ _ _ _ _ _; refine hereG.poolNil Zz.encI 3 ?_; change HereGoal _ _ _ _ _ _ _; refine here_go (gmOk E) ?_) | (change RetGoal _ _ _ _ _; first | (refine ret_done rfl ?_)) | (intro h; first | (exfalso; omega; done) | (exfalso; first | exact h trivial | (exact h (by rw [a_masks2]; rfl)); done) | skip) | (refine And.intro ?_ ?_) | exact True.intro | (refine @Exists.intro Unit _ () ?_) | (refine @Exists.intro (_ = _) _ rfl ?_) | (change CallGoal _ _ _ _ _ _; first | (refine call_rule (sNew E []) [] rfl True.intro rfl (fun y1 hy1 => ?_)) | (refine call_rule (sPutN E [] [] aH aR 1 1 ⟨rfl, rfl, a_right, by decide, by decide, a_none, a_masks0⟩) [1, 2, 3, 0] rfl (And.intro rfl (And.intro rfl (And.intro rfl (And.intro rfl True.intro)))) rfl (fun (S : List (PRow Int)) hS => ?_)) | (refine call_rule (sAddY E ([] ++ S) aR1 aH aR aV ⟨a_get, a_check, a_has, a_room _⟩) [1, 2, 0] rfl (And.intro rfl (And.intro rfl (And.intro rfl True.intro))) rfl (fun (S2 : List (PRow Int)) hS2 => ?_)) | (refine call_rule (sMasks E ([] ++ S ++ S2) aR2 (by rw [a_masks2]; decide)) [1] rfl (And.intro rfl True.intro) rfl (fun (q : Nat) hq => ?_)))
  all_goals first | rfl | omega | (rw [a_masks2]; done) | (rw [a_masks2]; rfl) | (rw [a_masks2]; decide)
end Go.Proofs.YtcnbngiplfoomaaGreatDoor
namespace Go.Proofs.YtcnbngiplfoomaaGreatDoor
open Go.Zz Go.Px
set_option linter.unusedVariables false
set_option linter.unusedSectionVars false
set_option linter.unusedSimpArgs false
set_option maxRecDepth 10000
set_option maxHeartbeats 4000000 in
theorem rin_z (E : Nat → Addr) (n a b : Int) : Does (Gm E) 79 (Sp0 [.int .i64 n, .int .i64 a, .int .i64 b] [] 0 (.dc (a ≤ n ∧ n ≤ b) inferInstance)) := by
  refine fn_intro (gmOk E) 15 0 [] Tryz.func79 rfl rfl rfl rfl rfl ?_
  repeat' first | (intro h; first | (exfalso; omega; done) | skip) | (refine And.intro ?_ ?_) | exact True.intro | (refine @Exists.intro Unit _ () ?_) | (refine @Exists.intro (_ = _) _ rfl ?_)
  all_goals first | rfl | omega | (refine decide_eq_decide.2 ?_; omega)
set_option maxHeartbeats 4000000 in
theorem rcheck_z (E : Nat → Addr) (v : V3) : Does (Gm E) 32 (Sp0 [.agg [.int .i64 v.k, .int .i64 v.a, .int .i64 v.b]] [] 0 (.int .i64 (vcheck v))) := by
  refine fn_intro (gmOk E) 72 0 [] Tryz.func32 rfl rfl rfl rfl rfl ?_
  repeat' first | (intro h; first | (exfalso; omega; done) | (exfalso; omega; done) | skip) | (refine And.intro ?_ ?_) | exact True.intro | (refine @Exists.intro Unit _ () ?_) | (refine @Exists.intro (_ = _) _ rfl ?_) | (change CallGoal _ _ _ _ _ _; first | (refine call0 (rin_z E _ _ _) [] rfl True.intro rfl ?_))
  all_goals first | rfl | (have q := vcheck_eq v.k v.a v.b; change vcheck v = _ at q; rw [q]; (repeat' split) <;> omega) | omega
theorem bad_start (l : List V3) : firstBad (l.drop (0 : Int).toNat) = firstBad l := rfl
theorem bad_next {l : List V3} {i : Int} (hI : 0 ≤ i ∧ i ≤ (l.length : Nat) ∧ firstBad (l.drop i.toNat) = firstBad l) (hi : i < (l.length : Nat)) (hc : vcheck (l.getD i.toNat v0) = 0) : firstBad (l.drop (i + 1).toNat) = firstBad l := by
  rw [← hI.2.2, firstBad_step (d := v0) (by omega : i.toNat < l.length), if_pos hc, show (i + 1).toNat = i.toNat + 1 by omega]
theorem bad_here {l : List V3} {i : Int} (hI : 0 ≤ i ∧ i ≤ (l.length : Nat) ∧ firstBad (l.drop i.toNat) = firstBad l) (hi : i < (l.length : Nat)) (hc : ¬ vcheck (l.getD i.toNat v0) = 0) : vcheck (l.getD i.toNat v0) = firstBad l := by
  rw [← hI.2.2, firstBad_step (d := v0) (by omega : i.toNat < l.length), if_neg hc]
theorem bad_end {l : List V3} {i : Int} (hI : 0 ≤ i ∧ i ≤ (l.length : Nat) ∧ firstBad (l.drop i.toNat) = firstBad l) (hi : ¬ i < (l.length : Nat)) : firstBad l = 0 := by
  rw [← hI.2.2, List.drop_eq_nil_of_le (by omega)]; rfl
theorem few_next {l : List V3} {kk i : Int} (hk0 : 0 ≤ kk) (hC : ∀ q : Int, 0 ≤ q → q < kk → (l.map (·.k)).count q ≤ 1) (hi : ¬ i < (l.length : Nat)) (hc : ¬ 1 < cntTo l kk i) : ∀ q : Int, 0 ≤ q → q < kk + 1 → (l.map (·.k)).count q ≤ 1 := fun q h1 h2 => by
  by_cases e : q = kk
  · subst e; rw [cntTo_end (by omega)] at hc; omega
  · exact hC q h1 (by omega)
theorem few_dup {l : List V3} {kk i : Int} (hi : ¬ i < (l.length : Nat)) (hc : 1 < cntTo l kk i) : noDup l = false := by
  rw [← Bool.not_eq_true]; intro hn
  have := count_one hn kk
  rw [cntTo_end (by omega)] at hc; omega
set_option maxHeartbeats 4000000 in
theorem rowBad (E : Nat → Addr) (l : List V3) (n k : Nat) (h : n = l.length ∧ l.length ≤ 1000 ∧ firstBad l ≠ 0) : Does (Gm E) 53 (Sp0 [.sl 0 n k] [(0, .ro V3 Zz.encV l k)] 1 (.tup [.nils, .int .i64 (firstBad l)])) := by
  obtain ⟨rfl, hm, hb⟩ := h
  refine fn_intro (gmOk E) 49 1 [] Tryz.func53 rfl rfl rfl rfl rfl ?_
  repeat' first | (intro h; first | (exfalso; omega; done) | (exfalso; exact hb (bad_end hI (by omega)); done) | skip) | (refine And.intro ?_ ?_) | exact True.intro | (refine @Exists.intro Unit _ () ?_) | (refine @Exists.intro (_ = _) _ rfl ?_) | (change LoopGoal _ _ _ _ _ _; refine loop_at 2 (gmOk E) rfl [] (X := Int) (fun i => [(14, .int .i64 i)]) (fun i => []) [] (fun i => 0 ≤ i ∧ i ≤ (l.length : Nat) ∧ firstBad (l.drop i.toNat) = firstBad l) (fun i => l.length - i.toNat) ⟨0, ?_⟩ (fun i hI => ?_)) | (change @Exists (Int) (fun _ => updK _ _ _ _ _ _); refine @Exists.intro (Int) _ ((?_)) ?_; rotate_left 1) | (change LoopGoal _ _ _ _ _ _; refine loop_at 10 (gmOk E) rfl [] (X := (Int × Nat)) (fun x => [(8, .int .i64 x.1), (7, .sl 18 (byKinds l x.1.toNat).length x.2)]) (fun x => [(18, .arr V3 Zz.encV 34 (byKinds l x.1.toNat) x.2)]) [17] (fun x => (0 ≤ x.1 ∧ x.1 ≤ 10) ∧ (byKinds l x.1.toNat).length ≤ x.2 ∧ (∀ q : Int, 0 ≤ q → q < x.1 → (l.map (·.k)).count q ≤ 1)) (fun x => (10 - x.1).toNat) ⟨(0, 0), ?_⟩ (fun x hJ => ?_)) | (change @Exists ((Int × Nat)) (fun _ => updK _ _ _ _ _ _); refine @Exists.intro ((Int × Nat)) _ ((x.1 + 1, y.2.1)) ?_) | (change LoopGoal _ _ _ _ _ _; refine loop_at 14 (gmOk E) rfl [] (X := (Int × Nat × Unit)) (fun y => [(31, .int .i64 y.1), (9, .int .i64 (cntTo l x.1 y.1)), (7, .sl 35 (upTo l x.1 y.1).length y.2.1)]) (fun y => [(35, .arr V3 Zz.encV 34 (upTo l x.1 y.1) y.2.1)]) [18] (fun y => (0 ≤ y.1 ∧ y.1 ≤ (l.length : Nat)) ∧ (upTo l x.1 y.1).length ≤ y.2.1) (fun y => l.length - y.1.toNat) ⟨(0, x.2, ()), ?_⟩ (fun y hK => ?_)) | (change @Exists ((Int × Nat × Unit)) (fun _ => updK _ _ _ _ _ _); refine @Exists.intro ((Int × Nat × Unit)) _ ((y.1 + 1, ?_, ())) ?_; rotate_left 1) | (change CallGoal _ _ _ _ _ _; first | (refine call0 (rcheck_z E (l.getD i.toNat v0)) [] rfl True.intro rfl ?_))
  all_goals first
| (dsimp only; first | rfl | omega)
| rfl
| omega
| exact bad_start l
| exact bad_next hI (by assumption) (by assumption)
| exact bad_next hI (by assumption) (Classical.not_not.1 (by assumption))
| exact bad_here hI (by assumption) (by assumption)
set_option maxHeartbeats 4000000 in
theorem rowOk (E : Nat → Addr) (l : List V3) (n k : Nat) (h : n = l.length ∧ l.length ≤ 1000 ∧ firstBad l = 0 ∧ noDup l = true) : Does (Gm E) 53 ⟨[.sl 0 n k], [(0, .ro V3 Zz.encV l k)], 1, 2, Nat, fun q => (byKinds l 10).length ≤ q, fun q => .tup [.sl 1 (byKinds l 10).length q, .int .i64 0], fun q => [(1, .arr V3 Zz.encV 34 (byKinds l 10) q)]⟩ := by
  obtain ⟨rfl, hm, hb, hn⟩ := h
  refine fn_intro (gmOk E) 49 1 [] Tryz.func53 rfl rfl rfl rfl rfl ?_
  repeat' first | (intro h; first | (exfalso; omega; done) | (exfalso; first | exact h (by rw [bad_here hI (by assumption) (by assumption)] at *; assumption) | (rw [few_dup (by assumption) (by assumption)] at hn; cases hn; done); done) | skip) | (refine And.intro ?_ ?_) | exact True.intro | (refine @Exists.intro Unit _ () ?_) | (refine @Exists.intro (_ = _) _ rfl ?_) | (change LoopGoal _ _ _ _ _ _; refine loop_at 2 (gmOk E) rfl [] (X := Int) (fun i => [(14, .int .i64 i)]) (fun i => []) [] (fun i => 0 ≤ i ∧ i ≤ (l.length : Nat) ∧ firstBad (l.drop i.toNat) = firstBad l) (fun i => l.length - i.toNat) ⟨0, ?_⟩ (fun i hI => ?_)) | (change @Exists (Int) (fun _ => updK _ _ _ _ _ _); refine @Exists.intro (Int) _ ((?_)) ?_; rotate_left 1) | (change LoopGoal _ _ _ _ _ _; refine loop_at 10 (gmOk E) rfl [] (X := (Int × Nat)) (fun x => [(8, .int .i64 x.1), (7, .sl 18 (byKinds l x.1.toNat).length x.2)]) (fun x => [(18, .arr V3 Zz.encV 34 (byKinds l x.1.toNat) x.2)]) [17] (fun x => (0 ≤ x.1 ∧ x.1 ≤ 10) ∧ (byKinds l x.1.toNat).length ≤ x.2 ∧ (∀ q : Int, 0 ≤ q → q < x.1 → (l.map (·.k)).count q ≤ 1)) (fun x => (10 - x.1).toNat) ⟨(0, 0), ?_⟩ (fun x hJ => ?_)) | (change @Exists ((Int × Nat)) (fun _ => updK _ _ _ _ _ _); refine @Exists.intro ((Int × Nat)) _ ((x.1 + 1, y.2.1)) ?_) | (change LoopGoal _ _ _ _ _ _; refine loop_at 14 (gmOk E) rfl [] (X := (Int × Nat × Unit)) (fun y => [(31, .int .i64 y.1), (9, .int .i64 (cntTo l x.1 y.1)), (7, .sl 35 (upTo l x.1 y.1).length y.2.1)]) (fun y => [(35, .arr V3 Zz.encV 34 (upTo l x.1 y.1) y.2.1)]) [18] (fun y => (0 ≤ y.1 ∧ y.1 ≤ (l.length : Nat)) ∧ (upTo l x.1 y.1).length ≤ y.2.1) (fun y => l.length - y.1.toNat) ⟨(0, x.2, ()), ?_⟩ (fun y hK => ?_)) | (change @Exists ((Int × Nat × Unit)) (fun _ => updK _ _ _ _ _ _); refine @Exists.intro ((Int × Nat × Unit)) _ ((y.1 + 1, ?_, ())) ?_; rotate_left 1) | (refine @Exists.intro (Nat) _ ?_ ?_; rotate_left) | (change CallGoal _ _ _ _ _ _; first | (refine call0 (rcheck_z E (l.getD i.toNat v0)) [] rfl True.intro rfl ?_))
  all_goals first
| (dsimp only; first | rfl | omega)
| rfl
| omega
| exact bad_start l
| exact bad_next hI (by assumption) (by assumption)
| exact bad_next hI (by assumption) (Classical.not_not.1 (by assumption))
| exact bad_here hI (by assumption) (by assumption)
| exact bad_end hI (by omega)
| exact Nat.le_refl _
| exact congrArg List.length (upTo_zero l x.1).symm
| exact congrArg (fun q => Ch.arr V3 encV _ q _) (upTo_zero l x.1).symm
| (show (upTo l x.1 0).length ≤ _; rw [upTo_zero]; exact hJ.2.1)
| (have q := upTo_len l x.1 y.1; first | omega | (change _ * 24 ≤ _; omega))
| (have q := cntTo_le l x.1 y.1; omega)
| exact (cntTo_in (d := v0) ⟨hK.1.1, by assumption⟩ (by assumption)).symm
| exact (cntTo_out (d := v0) ⟨hK.1.1, by assumption⟩ (by assumption)).symm
| (show _ = (upTo l x.1 (y.1 + 1)).length; rw [upTo_in (d := v0) ⟨hK.1.1, by assumption⟩ (by assumption), List.length_append]; rfl)
| (show _ = (upTo l x.1 (y.1 + 1)).length; rw [upTo_out (d := v0) ⟨hK.1.1, by assumption⟩ (by assumption)])
| (show (upTo l x.1 (y.1 + 1)).length ≤ _; rw [upTo_in (d := v0) ⟨hK.1.1, by assumption⟩ (by assumption), List.length_append]; assumption)
| (show (upTo l x.1 (y.1 + 1)).length ≤ _; rw [upTo_out (d := v0) ⟨hK.1.1, by assumption⟩ (by assumption)]; exact hK.2)
| (show _ = Ch.arr V3 encV _ (upTo l x.1 (y.1 + 1)) _; rw [upTo_in (d := v0) ⟨hK.1.1, by assumption⟩ (by assumption), List.take_length]; rfl)
| (show _ = Ch.arr V3 encV _ (upTo l x.1 (y.1 + 1)) _; rw [upTo_out (d := v0) ⟨hK.1.1, by assumption⟩ (by assumption)])
| exact congrArg List.length (upTo_end (by omega) hJ.1.1).symm
| exact congrArg (fun q => Ch.arr V3 encV _ q _) (upTo_end (by omega) hJ.1.1).symm
| (show (byKinds l (x.1 + 1).toNat).length ≤ _; rw [upTo_end (by omega) hJ.1.1]; exact hK.2)
| (show (byKinds l (x.1 + 1).toNat).length ≤ _; rw [upTo_end (i := y.1) (by omega) hJ.1.1]; exact hK.2)
| (rename_i q h0; exact few_next hJ.1.1 hJ.2.2 (by assumption) (by assumption) q h0 (by assumption))
| exact few_next hJ.1.1 hJ.2.2 (by assumption) (by assumption)
| (rw [show (10 : Nat) = x.1.toNat by omega]; first | rfl | exact hJ.2.1)
| (have e : x.1 = 10 := by omega
   rw [e] at hJ; exact hJ.2.1)
| exact congrArg (fun q : Nat => (byKinds l q).length) (show x.1.toNat = 10 by omega)
| exact congrArg (fun q : Nat => Ch.arr V3 encV _ (byKinds l q) _) (show x.1.toNat = 10 by omega)
set_option maxHeartbeats 4000000 in
theorem rowDup (E : Nat → Addr) (l : List V3) (n k : Nat) (h : n = l.length ∧ l.length ≤ 1000 ∧ firstBad l = 0 ∧ noDup l = false) : Does (Gm E) 53 (Sp0 [.sl 0 n k] [(0, .ro V3 Zz.encV l k)] 1 (.tup [.nils, .int .i64 4])) := by
  obtain ⟨rfl, hm, hb, hn⟩ := h
  refine fn_intro (gmOk E) 49 1 [] Tryz.func53 rfl rfl rfl rfl rfl ?_
  repeat' first | (intro h; first | (exfalso; omega; done) | (exfalso; first | exact h (by rw [bad_here hI (by assumption) (by assumption)] at *; assumption) | (rw [noDup_of hb (fun q h1 h2 => hJ.2.2 q h1 (by omega))] at hn; cases hn; done); done) | skip) | (refine And.intro ?_ ?_) | exact True.intro | (refine @Exists.intro Unit _ () ?_) | (refine @Exists.intro (_ = _) _ rfl ?_) | (change LoopGoal _ _ _ _ _ _; refine loop_at 2 (gmOk E) rfl [] (X := Int) (fun i => [(14, .int .i64 i)]) (fun i => []) [] (fun i => 0 ≤ i ∧ i ≤ (l.length : Nat) ∧ firstBad (l.drop i.toNat) = firstBad l) (fun i => l.length - i.toNat) ⟨0, ?_⟩ (fun i hI => ?_)) | (change @Exists (Int) (fun _ => updK _ _ _ _ _ _); refine @Exists.intro (Int) _ ((?_)) ?_; rotate_left 1) | (change LoopGoal _ _ _ _ _ _; refine loop_at 10 (gmOk E) rfl [] (X := (Int × Nat)) (fun x => [(8, .int .i64 x.1), (7, .sl 18 (byKinds l x.1.toNat).length x.2)]) (fun x => [(18, .arr V3 Zz.encV 34 (byKinds l x.1.toNat) x.2)]) [17] (fun x => (0 ≤ x.1 ∧ x.1 ≤ 10) ∧ (byKinds l x.1.toNat).length ≤ x.2 ∧ (∀ q : Int, 0 ≤ q → q < x.1 → (l.map (·.k)).count q ≤ 1)) (fun x => (10 - x.1).toNat) ⟨(0, 0), ?_⟩ (fun x hJ => ?_)) | (change @Exists ((Int × Nat)) (fun _ => updK _ _ _ _ _ _); refine @Exists.intro ((Int × Nat)) _ ((x.1 + 1, y.2.1)) ?_) | (change LoopGoal _ _ _ _ _ _; refine loop_at 14 (gmOk E) rfl [] (X := (Int × Nat × Unit)) (fun y => [(31, .int .i64 y.1), (9, .int .i64 (cntTo l x.1 y.1)), (7, .sl 35 (upTo l x.1 y.1).length y.2.1)]) (fun y => [(35, .arr V3 Zz.encV 34 (upTo l x.1 y.1) y.2.1)]) [18] (fun y => (0 ≤ y.1 ∧ y.1 ≤ (l.length : Nat)) ∧ (upTo l x.1 y.1).length ≤ y.2.1) (fun y => l.length - y.1.toNat) ⟨(0, x.2, ()), ?_⟩ (fun y hK => ?_)) | (change @Exists ((Int × Nat × Unit)) (fun _ => updK _ _ _ _ _ _); refine @Exists.intro ((Int × Nat × Unit)) _ ((y.1 + 1, ?_, ())) ?_; rotate_left 1) | (change CallGoal _ _ _ _ _ _; first | (refine call0 (rcheck_z E (l.getD i.toNat v0)) [] rfl True.intro rfl ?_))
  all_goals first
| (dsimp only; first | rfl | omega)
| rfl
| omega
| exact bad_start l
| exact bad_next hI (by assumption) (by assumption)
| exact bad_next hI (by assumption) (Classical.not_not.1 (by assumption))
| exact bad_here hI (by assumption) (by assumption)
| exact bad_end hI (by omega)
| exact Nat.le_refl _
| exact congrArg List.length (upTo_zero l x.1).symm
| exact congrArg (fun q => Ch.arr V3 encV _ q _) (upTo_zero l x.1).symm
| (show (upTo l x.1 0).length ≤ _; rw [upTo_zero]; exact hJ.2.1)
| (have q := upTo_len l x.1 y.1; first | omega | (change _ * 24 ≤ _; omega))
| (have q := cntTo_le l x.1 y.1; omega)
| exact (cntTo_in (d := v0) ⟨hK.1.1, by assumption⟩ (by assumption)).symm
| exact (cntTo_out (d := v0) ⟨hK.1.1, by assumption⟩ (by assumption)).symm
| (show _ = (upTo l x.1 (y.1 + 1)).length; rw [upTo_in (d := v0) ⟨hK.1.1, by assumption⟩ (by assumption), List.length_append]; rfl)
| (show _ = (upTo l x.1 (y.1 + 1)).length; rw [upTo_out (d := v0) ⟨hK.1.1, by assumption⟩ (by assumption)])
| (show (upTo l x.1 (y.1 + 1)).length ≤ _; rw [upTo_in (d := v0) ⟨hK.1.1, by assumption⟩ (by assumption), List.length_append]; assumption)
| (show (upTo l x.1 (y.1 + 1)).length ≤ _; rw [upTo_out (d := v0) ⟨hK.1.1, by assumption⟩ (by assumption)]; exact hK.2)
| (show _ = Ch.arr V3 encV _ (upTo l x.1 (y.1 + 1)) _; rw [upTo_in (d := v0) ⟨hK.1.1, by assumption⟩ (by assumption), List.take_length]; rfl)
| (show _ = Ch.arr V3 encV _ (upTo l x.1 (y.1 + 1)) _; rw [upTo_out (d := v0) ⟨hK.1.1, by assumption⟩ (by assumption)])
| exact congrArg List.length (upTo_end (by omega) hJ.1.1).symm
| exact congrArg (fun q => Ch.arr V3 encV _ q _) (upTo_end (by omega) hJ.1.1).symm
| (show (byKinds l (x.1 + 1).toNat).length ≤ _; rw [upTo_end (by omega) hJ.1.1]; exact hK.2)
| (show (byKinds l (x.1 + 1).toNat).length ≤ _; rw [upTo_end (i := y.1) (by omega) hJ.1.1]; exact hK.2)
| (rename_i q h0; exact few_next hJ.1.1 hJ.2.2 (by assumption) (by assumption) q h0 (by assumption))
| exact few_next hJ.1.1 hJ.2.2 (by assumption) (by assumption)
| (rw [show (10 : Nat) = x.1.toNat by omega]; first | rfl | exact hJ.2.1)
| (have e : x.1 = 10 := by omega
   rw [e] at hJ; exact hJ.2.1)
| exact congrArg (fun q : Nat => (byKinds l q).length) (show x.1.toNat = 10 by omega)
| exact congrArg (fun q : Nat => Ch.arr V3 encV _ (byKinds l q) _) (show x.1.toNat = 10 by omega)
set_option maxHeartbeats 4000000 in
theorem rsame_z (E : Nat → Addr) (l m : List V3) (n k n2 k2 : Nat) (h : (n = l.length ∧ n2 = m.length) ∧ l.length ≤ 1000000 ∧ m.length ≤ 1000000) : Does (Gm E) 19 (Sp0 [.sl 0 n k, .sl 1 n2 k2] [(0, .ro V3 Zz.encV l k), (1, .ro V3 Zz.encV m k2)] 2 (.bl (sameL l m))) := by
  obtain ⟨⟨rfl, rfl⟩, h1, h2⟩ := h
  refine fn_intro (gmOk E) 26 2 [] Tryz.func19 rfl rfl rfl rfl rfl ?_
  repeat' first | (intro h; first | (exfalso; omega; done) | skip) | (refine And.intro ?_ ?_) | exact True.intro | (refine @Exists.intro Unit _ () ?_) | (refine @Exists.intro (_ = _) _ rfl ?_) | (change LoopGoal _ _ _ _ _ _; refine loop_at 4 (gmOk E) rfl [] (X := Int) (fun i => [(13, .int .i64 i)]) (fun i => []) [] (fun i => 0 ≤ i ∧ i ≤ (l.length : Nat) ∧ l.length = m.length ∧ ∀ j, j < i.toNat → l.getD j v0 = m.getD j v0) (fun i => l.length - i.toNat) ⟨0, ?_⟩ (fun i hI => ?_)) | (change @Exists (Int) (fun _ => updK _ _ _ _ _ _); refine @Exists.intro (Int) _ ((?_)) ?_; rotate_left 1) | (change DrawGoal _ _ _ _ _ _; first | (change DrawGoal _ _ _ ({ dst := some 16, op := _, type := _, pos := _, after := _, guard := _ } :: _) _ _; refine draw_tree (gmOk E) [0, 1] (.leaf [(0, true), (1, true), (2, true), (3, true), (4, true), (5, true), (6, true), (7, true), (8, true)]) (by kernel_rfl) ?_))
  all_goals first
| (dsimp only; first | rfl | omega)
| rfl
| omega
| exact (sameL_len (by assumption)).symm
| exact (sameL_at (j := i.toNat) v0 (v3_ne (by assumption))).symm
| (rename_i j hj; exact same_next v0 hI.1 hI.2.2.2 (v3_eq (Classical.not_not.1 (by assumption))) j hj)
| (rename_i j; exact same_next v0 hI.1 hI.2.2.2 (v3_eq (Classical.not_not.1 (by assumption))) j h)
| exact (sameL_all v0 hI.2.2.1 (fun j hj => hI.2.2.2 j (by omega))).symm
set_option maxHeartbeats 4000000 in
theorem rrBad (E : Nat → Addr) (l : List V3) (n k : Nat) (h : n = l.length ∧ l.length ≤ 1000 ∧ firstBad l ≠ 0) : Does (Gm E) 14 (Sp0 [.sl 0 n k] [(0, .ro V3 Zz.encV l k)] 1 (.bl (rightV l))) := by
  obtain ⟨rfl, hm, hb⟩ := h
  refine fn_intro (gmOk E) 17 1 [] Tryz.func14 rfl rfl rfl rfl rfl ?_
  repeat' first | (intro h; first | (exfalso; omega; done) | (exfalso; first | exact h trivial | exact hb (by omega) | omega; done) | skip) | (refine And.intro ?_ ?_) | exact True.intro | (refine @Exists.intro Unit _ () ?_) | (refine @Exists.intro (_ = _) _ rfl ?_) | (change CallGoal _ _ _ _ _ _; first | (refine call0 (rowBad E l _ k ⟨rfl, hm, hb⟩) [0] rfl (And.intro rfl True.intro) rfl ?_))
  all_goals first | rfl | omega | exact (rightV_bad hb).symm
set_option maxHeartbeats 4000000 in
theorem rrDup (E : Nat → Addr) (l : List V3) (n k : Nat) (h : n = l.length ∧ l.length ≤ 1000 ∧ firstBad l = 0 ∧ noDup l = false) : Does (Gm E) 14 (Sp0 [.sl 0 n k] [(0, .ro V3 Zz.encV l k)] 1 (.bl (rightV l))) := by
  obtain ⟨rfl, hm, hb, hn⟩ := h
  refine fn_intro (gmOk E) 17 1 [] Tryz.func14 rfl rfl rfl rfl rfl ?_
  repeat' first | (intro h; first | (exfalso; omega; done) | (exfalso; first | exact h trivial | exact hb (by omega) | omega; done) | skip) | (refine And.intro ?_ ?_) | exact True.intro | (refine @Exists.intro Unit _ () ?_) | (refine @Exists.intro (_ = _) _ rfl ?_) | (change CallGoal _ _ _ _ _ _; first | (refine call0 (rowDup E l _ k ⟨rfl, hm, hb, hn⟩) [0] rfl (And.intro rfl True.intro) rfl ?_))
  all_goals first | rfl | omega | exact (rightV_dup hn).symm
theorem bk_len (l : List V3) (hm : l.length ≤ 1000) : (byKinds l 10).length ≤ 1000000 := by have := byKinds_len l 10; omega
set_option maxHeartbeats 4000000 in
theorem rrOk (E : Nat → Addr) (l : List V3) (n k : Nat) (h : n = l.length ∧ l.length ≤ 1000 ∧ firstBad l = 0 ∧ noDup l = true) : Does (Gm E) 14 (Sp0 [.sl 0 n k] [(0, .ro V3 Zz.encV l k)] 1 (.bl (rightV l))) := by
  obtain ⟨rfl, hm, hb, hn⟩ := h
  refine fn_intro (gmOk E) 17 1 [] Tryz.func14 rfl rfl rfl rfl rfl ?_
  repeat' first | (intro h; first | (exfalso; omega; done) | (exfalso; first | exact h trivial | exact hb (by omega) | omega; done) | skip) | (refine And.intro ?_ ?_) | exact True.intro | (refine @Exists.intro Unit _ () ?_) | (refine @Exists.intro (_ = _) _ rfl ?_) | (change CallGoal _ _ _ _ _ _; first | (refine call_rule (rowOk E l _ k ⟨rfl, hm, hb, hn⟩) [0] rfl (And.intro rfl True.intro) rfl (fun (q : Nat) hq => ?_))) | (change CallGoal _ _ _ _ _ _; first | (refine call0 (rsame_z E l (byKinds l 10) _ k _ q ⟨⟨rfl, rfl⟩, by omega, bk_len l hm⟩) [0, 1] rfl (And.intro rfl (And.intro rfl True.intro)) rfl ?_))
  all_goals first | rfl | omega | exact rright_eq hb hn | exact (rright_eq hb hn).symm
theorem rright_z (E : Nat → Addr) (l : List V3) (n k : Nat) (h : n = l.length ∧ l.length ≤ 1000) : Does (Gm E) 14 (Sp0 [.sl 0 n k] [(0, .ro V3 Zz.encV l k)] 1 (.bl (rightV l))) := by
  by_cases hb : firstBad l = 0
  · cases hn : noDup l with
    | true => exact rrOk E l n k ⟨h.1, h.2, hb, hn⟩
    | false => exact rrDup E l n k ⟨h.1, h.2, hb, hn⟩
  · exact rrBad E l n k ⟨h.1, h.2, hb⟩
set_option maxHeartbeats 4000000 in
theorem rmask_z (E : Nat → Addr) (l : List V3) (n k : Nat) (h : n = l.length ∧ l.length ≤ 1000000 ∧ ∀ v ∈ l, 0 ≤ v.k ∧ v.k ≤ 9) : Does (Gm E) 31 (Sp0 [.sl 0 n k] [(0, .ro V3 Zz.encV l k)] 1 (.int .u64 ((maskN l : Nat) : Int))) := by
  obtain ⟨rfl, hm, hk⟩ := h
  refine fn_intro (gmOk E) 19 1 [] Tryz.func31 rfl rfl rfl rfl rfl ?_
  repeat' first | (intro h; first | (exfalso; omega; done) | (exfalso; exact h trivial; done) | skip) | (refine And.intro ?_ ?_) | exact True.intro | (refine @Exists.intro Unit _ () ?_) | (refine @Exists.intro (_ = _) _ rfl ?_) | (change LoopGoal _ _ _ _ _ _; refine loop_at 3 (gmOk E) rfl [] (X := Int) (fun i => [(8, .int .i64 i), (3, .int .u64 (((maskN (l.take i.toNat)) : Nat) : Int))]) (fun i => []) [] (fun i => 0 ≤ i ∧ i ≤ (l.length : Nat)) (fun i => l.length - i.toNat) ⟨0, ?_⟩ (fun i hI => ?_)) | (change @Exists (Int) (fun _ => updK _ _ _ _ _ _); refine @Exists.intro (Int) _ ((?_)) ?_; rotate_left 1)
  all_goals first
| (dsimp only; first | rfl | omega)
| rfl
| omega
| (have q := kinds_at hk ⟨hI.1, (by assumption : i < _)⟩; exact q.1)
| (have q := kinds_at hk ⟨hI.1, (by assumption : i < _)⟩; have b := bitN_fit q; rw [← pw_bit q] at b; first | exact b.1 | exact b.2 | exact b)
| (have q := kinds_at hk ⟨hI.1, (by assumption : i < _)⟩; have e := bitI_or (maskN_lt64 (kinds_take hk i.toNat)) (bitN_lt' q); rw [← maskN_next ⟨hI.1, by assumption⟩, ← pw_bit q] at e; exact e)
| exact congrArg (fun q : Nat => (q : Int)) (maskN_all hI.2 ‹¬ i < _›)
| exact congrArg (fun q : Nat => (q : Int)) (maskN_all hI.2 ‹¬ i < _›).symm
end Go.Proofs.YtcnbngiplfoomaaGreatDoor
namespace Go.Proofs.YtcnbngiplfoomaaGreatDoor
open Go.Zz Go.Px
set_option linter.unusedVariables false
set_option linter.unusedSectionVars false
set_option linter.unusedSimpArgs false
set_option maxRecDepth 10000
section
variable {row : Rw} {f i : Int} {r : Rw} {v : V3}
theorem nodup_sub_lenT {α : Type} [DecidableEq α] : ∀ {l m : List α}, l.Nodup → (∀ x ∈ l, x ∈ m) → l.length ≤ m.length
  | [], _, _, _ => Nat.zero_le _
  | x :: r, m, hd, h => by
    have hd' := List.nodup_cons.1 hd
    have h1 : (r.length) ≤ (m.erase x).length := nodup_sub_lenT hd'.2 fun y hy => (List.mem_erase_of_ne (fun e => hd'.1 (by rw [← e]; exact hy))).2 (h y (List.mem_cons_of_mem _ hy))
    have h2 : x ∈ m := h x (List.mem_cons_self ..)
    rw [List.length_erase_of_mem h2] at h1
    have := List.length_pos_of_mem h2
    rw [List.length_cons]
    omega
theorem masks_len (R : List Ey) : (masksR R).length ≤ R.length := by
  have := nodup_sub_lenT (masksR_nd R) (m := R.map fun e => mkI e.2) fun m hm => by
    obtain ⟨_, h⟩ := List.mem_filter.1 hm
    obtain ⟨e, he, q⟩ := List.any_eq_true.1 h
    exact List.mem_map.2 ⟨e, he, by simpa using q⟩
  simpa using this
end
end Go.Proofs.YtcnbngiplfoomaaGreatDoor
namespace Go.Proofs.YtcnbngiplfoomaaGreatDoor
open Go.Zz Go.Px
set_option linter.unusedVariables false
set_option linter.unusedSectionVars false
set_option linter.unusedSimpArgs false
set_option maxRecDepth 10000
section
variable {R : List Ey} {h : Hd} {r r' : Rw} {v : V3} {rows : List Rw} {i j : Nat}
theorem all_lt (hR : ∀ y ∈ R, ltE y (h, r) = true) : insR R (h, r) = R ++ [(h, r)] := by
  unfold insR
  rw [List.filter_eq_self.2 hR, List.filter_eq_nil_iff.2 fun y hy => by rw [hR y hy]; simp]
def hI (i : Nat) : Hd := ((i : Int), 1)
def rowsR (rows : List Rw) (i : Nat) : List Ey := (List.range i).map fun j => (hI j, rows.getD j [])
theorem rowsR_len : (rowsR rows i).length = i := by unfold rowsR; rw [List.length_map, List.length_range]
theorem ltH_nat : ltH (hI i) (hI j) = true ↔ i < j := by
  unfold hI ltH; simp
theorem rowsR_lt (r : Rw) : ∀ y ∈ rowsR rows i, ltE y (hI i, r) = true := fun y hy => by
  unfold rowsR at hy
  obtain ⟨j, hj, rfl⟩ := List.mem_map.1 hy
  rw [List.mem_range] at hj
  exact ltH_nat.2 hj
theorem rowsR_ins : insR (rowsR rows i) (hI i, rows.getD i []) = rowsR rows (i + 1) := by
  rw [all_lt (rowsR_lt _)]
  unfold rowsR; rw [List.range_succ, List.map_append]; rfl
theorem rowsR_new : hasK (rowsR rows i) (hI i) = false := by
  rw [← Bool.not_eq_true, hasK_iff]
  intro h
  obtain ⟨y, hy, e⟩ := List.mem_map.1 h
  have := rowsR_lt [] y hy
  unfold ltE at this; rw [e, ordH.irr] at this; cases this
theorem rowsR_rises : Rises ltE (rowsR rows i) := by
  unfold rowsR Rises
  exact List.Pairwise.map _ (fun a b h => ltH_nat.2 h) List.pairwise_lt_range
end
section
variable {Qv : List (PRow V3)} {i j : Nat} {r : Rw} {f : Int}
theorem masks_few {R : List Ey} (h : R.length ≤ 30) : (masksR R).length < 32 := by have := masks_len R; omega
end
theorem sPut (E : Nat → Addr) (Q : List (PRow Int)) (R : List Ey) (hd : Hd) (row : Rw) (n k : Nat) (h : n = row.length ∧ hasK R hd = false ∧ rightV row = true ∧ row.length ≤ 1000000 ∧ R.length < 128 ∧ (anyM R (mkI row) = true ∨ (masksR R).length < 32)) : Does (Gm E) 16 ⟨[.ptr 0 0, .agg [.int .i64 hd.1, .int .i64 hd.2], .sl 2 n k], [(0, .pr (storePr E Q R)), (1, .pr (poolPr Zz.encI 3 Q)), (2, .ro V3 Zz.encV row k), (3, .fo (tzF 10))], 4, 4, (List (PRow Int)), fun _ => True, fun _ => .nili, fun S => [(0, .pr (storePr E (Q ++ S) (insR R (hd, row)))), (1, .pr (poolPr Zz.encI 3 (Q ++ S)))]⟩ := by
  cases hm : anyM R (mkI row) with
  | true => exact sPutY E Q R hd row n k ⟨h.1, h.2.1, h.2.2.1, h.2.2.2.1, h.2.2.2.2.1, hm⟩
  | false => exact sPutN E Q R hd row n k ⟨h.1, h.2.1, h.2.2.1, h.2.2.2.1, h.2.2.2.2.1, hm, h.2.2.2.2.2.resolve_left fun q => by rw [hm] at q; cases q⟩
end Go.Proofs.YtcnbngiplfoomaaGreatDoor
namespace Go.Proofs.YtcnbngiplfoomaaGreatDoor
open Go.Zz Go.Px
set_option linter.unusedVariables false
set_option linter.unusedSectionVars false
set_option linter.unusedSimpArgs false
set_option maxRecDepth 10000
section
variable {R : List Ey} {m : Int} {es : List Ey} {x : XT}
def inR (R : List Ey) (m : Int) : List (Int × Int) := (R.filter fun e => decide (mkI e.2 = m)).map fun e => e.1
theorem inR_rises (hx : XOk R x) : Rises ltH (inR R m) := by
  unfold inR Rises
  exact List.Pairwise.map _ (fun a b h => h) (List.Pairwise.filter _ hx.inv.ris)
theorem XOk.inR (hx : XOk R x) (hg : getK x.1 m = some es) : ordS ltH (es.map (fun e : Ey => e.1)) = inR R m := by
  refine Rises.ext ordH (ordS_rises ordH _) (inR_rises hx) fun h => ?_
  rw [mem_ordS]
  unfold Go.Proofs.YtcnbngiplfoomaaGreatDoor.inR
  simp only [List.mem_map, List.mem_filter, decide_eq_true_eq]
  have h1 := kmem_of hg
  constructor
  · rintro ⟨e, he, rfl⟩
    exact ⟨e, ⟨(hx.inv.mem e).2 ⟨m, es, h1, he⟩, hx.inv.mask _ _ h1 e he⟩, rfl⟩
  · rintro ⟨e, ⟨q1, q2⟩, rfl⟩
    obtain ⟨m', es', q3, q4⟩ := (hx.inv.mem e).1 q1
    have := hx.inv.mask _ _ q3 e q4
    have e1 : m' = m := this.symm.trans q2
    subst e1
    have := (kget hx.inv.tnd).2 q3
    rw [hg] at this
    exact ⟨e, by rw [Option.some.inj this]; exact q4, rfl⟩
theorem XOk.elen (hx : XOk R x) (hg : getK x.1 m = some es) : es.length ≤ 1000000 := by
  have h1 := kmem_of hg
  have hnd : es.Nodup := List.pairwise_iff_getElem.2 fun i j hi hj hij e => by
    have q1 : es[(i : Int).toNat]? = some (es[j].1, es[j].2) := by simp [List.getElem?_eq_getElem hi, e]
    have q2 : es[(j : Int).toNat]? = some (es[j].1, es[j].2) := by simp [List.getElem?_eq_getElem hj]
    have := (hx.inv.one h1 (Int.natCast_nonneg i) q1 h1 (Int.natCast_nonneg j) q2).2.1
    omega
  have hR : R.Nodup := List.Pairwise.imp (fun h e => h (by rw [e])) (List.pairwise_map.1 hx.inv.rnd)
  have := nodup_lens hnd (hR.filter fun e => es.contains e) fun e => by
    rw [List.mem_filter, List.contains_iff_mem]
    exact ⟨fun q => ⟨(hx.inv.mem e).2 ⟨m, es, h1, q⟩, q⟩, fun q => q.2⟩
  have h2 := hx.len
  have h3 := List.length_filter_le (fun e => es.contains e) R
  omega
end
set_option maxHeartbeats 4000000 in
theorem sInY (E : Nat → Addr) (Q : List (PRow Int)) (R : List Ey) (m : Int) (h : anyM R m = true) : Does (Gm E) 28 ⟨[.ptr 0 0, .int .u64 m], [(0, .pr (storePr E Q R))], 1, 2, Nat, fun q => (inR R m).length ≤ q, fun q => .sl 1 (inR R m).length q, fun q => [(0, .pr (storePr E Q R)), (1, .arr (Int × Int) (Zz.encP Zz.encI Zz.encI) 28 (inR R m) q)]⟩ := by
  rename anyM R m = true => hm
  refine DoesC.does (fn_start Tryz.func28 rfl rfl rfl ?_)
  change EntryGoal _ _ _ _ _
  refine entryG.ex 0 rfl (fun x hx => ?_)
  change EntryGoal _ _ _ _ _
  (obtain ⟨es, hes⟩ := khas.1 ((hx.anyM m).trans hm); have hel := hx.elen hes; change EntryGoal _ _ _ _ _; refine entryG.open_ 0 rfl 5 rfl rfl ?_)
  change EntryGoal _ _ _ _ _
  refine entry_go (gmOk E) 21 1 [] Tryz.func28 rfl rfl rfl rfl ?_
  repeat' first | (change CallGoal _ _ _ _ _ _; first | (change CallGoal _ 77 _ _ _ _; first | (refine callG.restOut 5 (tabL x.1) x.2.2.2 m (m.toNat, es) rfl (tabL_get hes) ?_; change CallGoal _ _ _ _ _ _; refine call_args [.ptr 6 0] (fun _ => bdLB_ok _ rfl) (fun En V w hp => by have q := rest_ptr (r := 5) (m := 6) rfl hp; simp only [SV.den, SV.denL] at q ⊢; rw [q]) ?_; change CallGoal _ _ _ _ _ _; refine call_rule (tHandles E Q m.toNat es) [6] rfl (And.intro rfl True.intro) rfl (fun (q1 : Nat) hq1 => ?_)))) | (change RetGoal _ _ _ _ _; first | (refine retG'.restIn 5 6 (m.toNat, es) rfl rfl rfl (tabP_placed _) (by rw [tabL_has]; exact khas.2 ⟨_, hes⟩) ?_; change RetGoal _ _ _ _ _; refine retG'.cast 5 (.pr (restPr (tabP E Q) (tabL x.1) x.2.2.2)) rfl (by rw [tabL_put, putK_id hx.inv.tnd hes]) ?_; change RetGoal _ _ _ _ _; refine retG'.cast 9 (.arr (Int × Int) (Zz.encP Zz.encI Zz.encI) 28 (inR R m) q2) rfl (by rw [hx.inR hes]) ?_; change RetGoal _ _ _ _ _; (refine retG'.shut (Γ0 := Gm E) rfl (.cells 108 [.mp 1, .mp 2, .mp 3]) [(1, .pr (mapPr veU veP (ptrL ((x).1.map (fun y : Int × List Ey => y.1)) (x).2.2.2))), (2, .pr (mapPr (Enc.ag (Zz.encP Zz.encI Zz.encI)) vePl (placL (x).2.1 (x).2.2.2))), (3, .pr (mapPr (Enc.ag (Zz.encP encU Zz.encI)) veU (x).2.2.1)), (4, .pr (restPr (tabP E Q) (tabL (x).1) (x).2.2.2))] [0, 2, 3, 4, 5] (And.intro rfl (And.intro rfl (And.intro rfl (And.intro rfl (And.intro rfl True.intro))))) rfl ?_; change RetGoal _ _ _ _ _; refine retG'.hide (X := XT) (p := XOk R) (Φ := fun x => grp (Gm E) (stoH E Q x)) 0 (x) (hx) rfl ?_; change RetGoal _ _ _ _ _; refine ret_done rfl ?_))) | (intro h; first | (exfalso; omega; done) | (exfalso; exact h trivial; done) | skip) | (refine And.intro ?_ ?_) | exact True.intro | (refine @Exists.intro Unit _ () ?_) | (refine @Exists.intro (_ = _) _ rfl ?_) | (change OpGoal _ _ _ _ (.lookup 104 _ _ true) _; refine lookupY_rule mapT 2 (ptrL (x.1.map (fun y : Int × List Ey => y.1)) x.2.2.2) m (some (x.2.2.2 m)) rfl rfl rfl (ptrL_get (mem_keys ((hx.anyM m).trans hm))) ?_) | (refine @Exists.intro (Nat) _ ?_ ?_; rotate_left) | (change CallGoal _ _ _ _ _ _; first | (refine call_rule (handles_z E (es.map (fun e : Ey => e.1)) _ q1 ⟨(hs_len es).symm, by rw [hs_len]; omega⟩) [7] rfl (And.intro rfl True.intro) rfl (fun (q2 : Nat) hq2 => ?_)))
  all_goals first | rfl | omega | (rw [hx.inR hes]; done) | (rw [hx.inR hes] at hq2; exact hq2)
end Go.Proofs.YtcnbngiplfoomaaGreatDoor
namespace Go.Proofs.YtcnbngiplfoomaaGreatDoor
open Go.Zz Go.Px
set_option linter.unusedVariables false
set_option linter.unusedSectionVars false
set_option linter.unusedSimpArgs false
set_option maxRecDepth 10000
section
variable {Qv : List (PRow V3)} {jj n : Nat} {v : V3} {R : List Ey} {hd : Hd} {r r2 : Rw}
theorem hrt {b : Bool} (h : (!b) = false) : b = true := by cases b <;> simp at h ⊢
theorem rows_next {n : Nat} (hI : ∀ j, j < n → rightV (rowQ Qv j).2.2 = true ∧ (rowQ Qv j).2.2.length ≤ 20) (h1 : rightV (rowQ Qv n).2.2 = true) (h2 : (rowQ Qv n).2.2.length ≤ 20) (j : Nat) (hj : j < n + 1) : rightV (rowQ Qv j).2.2 = true ∧ (rowQ Qv j).2.2.length ≤ 20 := by
  by_cases e : j = n
  · subst e; exact ⟨h1, h2⟩
  · exact hI j (by omega)
end
end Go.Proofs.YtcnbngiplfoomaaGreatDoor
namespace Go.Proofs.YtcnbngiplfoomaaGreatDoor
open Go.Zz Go.Px
set_option linter.unusedVariables false
set_option linter.unusedSectionVars false
set_option linter.unusedSimpArgs false
set_option maxRecDepth 10000
structure Fi {α : Type} (lt : α → α → Bool) (d : α) (out : List α) (q : α) (j : Int) : Prop where
  lo : 0 ≤ j
  hi : j ≤ (out.length : Nat)
  all : ∀ t, t < j.toNat → lt (out.getD t d) q = true
section
variable {α : Type} [DecidableEq α] {lt : α → α → Bool} {d : α} {out : List α} {q : α} {j : Int}
theorem Fi.start : Fi lt d out q 0 := ⟨Int.le_refl _, by omega, fun t h => by simp at h⟩
theorem Fi.next (h : Fi lt d out q j) (hj : j < (out.length : Nat)) (hl : lt (out.getD j.toNat d) q = true) : Fi lt d out q (j + 1) := ⟨by have := h.lo; omega, by omega, fun t ht => by
  have := h.lo
  by_cases e : t = j.toNat
  · exact e ▸ hl
  · exact h.all t (by omega)⟩
theorem Fi.pos (h : Fi lt d out q j) (hn : j < (out.length : Nat) → lt (out.getD j.toNat d) q = false) : pos lt out q = j.toNat :=
  (pos_unique (d := d) (by have := h.hi; omega) h.all fun hl => hn (by have := h.lo; omega)).symm
end
set_option maxHeartbeats 4000000 in
theorem ref02less_z (E : Nat → Addr) (a b : Int × Int) : Does (Gm E) 124 (Sp0 [.agg [.int .i64 a.1, .int .i64 a.2], .agg [.int .i64 b.1, .int .i64 b.2]] [] 0 (.bl (ltH a b))) := by
  refine fn_intro (gmOk E) 24 0 [] Tryz.func124 rfl rfl rfl rfl rfl ?_
  repeat' first | (intro h; first | (exfalso; omega; done) | skip) | (refine And.intro ?_ ?_) | exact True.intro | (refine @Exists.intro Unit _ () ?_) | (refine @Exists.intro (_ = _) _ rfl ?_)
  all_goals first | omega | rfl | (simp only [ltH]; simp; omega)
section
variable {l : List (Int × Int)} {q : Int × Int} {i : Int}
theorem puth_in (hl : Rises ltH l) (hf : Fi ltH (0, 0) l q i) (hn : ¬ i < (l.length : Nat) ∨ ltH (l.getD i.toNat (0, 0)) q = false) (hs : i < (l.length : Nat) ∧ (l.getD i.toNat (0, 0)).1 = q.1 ∧ (l.getD i.toNat (0, 0)).2 = q.2) : putS ltH l q = l := by
  have e := hf.pos fun hj => hn.elim (fun k => absurd hj k) id
  exact putS_in ((pos_mem ordH hl q (0, 0)).2 ⟨by rw [e]; have := hf.lo; omega, by rw [e]; exact pt_eq'.1 hs.2⟩)
theorem puth_out (hl : Rises ltH l) (hf : Fi ltH (0, 0) l q i) (hn : ¬ i < (l.length : Nat) ∨ ltH (l.getD i.toNat (0, 0)) q = false) (hs : ¬ (i < (l.length : Nat) ∧ (l.getD i.toNat (0, 0)).1 = q.1 ∧ (l.getD i.toNat (0, 0)).2 = q.2)) : putS ltH l q = l.take i.toNat ++ q :: l.drop i.toNat := by
  have e := hf.pos fun hj => hn.elim (fun k => absurd hj k) id
  rw [putS_out (fun hm => ?_), e]
  have := (pos_mem ordH hl q (0, 0)).1 hm
  rw [e] at this
  exact hs ⟨by omega, pt_eq'.2 this.2⟩
theorem ins3_len {α : Type} {l R : List α} {q : α} {y : Nat} (h : y ≤ l.length) (e : R = l.take y ++ q :: l.drop y) : 0 + y + 1 + (l.length - y) = R.length := by
  rw [e, List.length_append, List.length_take, List.length_cons, List.length_drop]; omega
theorem ins3_a {α : Type} {l : List α} {y : Nat} (h : y ≤ l.length) : 0 + y ≤ (([] : List α).take 0 ++ l.take y).length := by
  rw [List.take_zero, List.nil_append, List.length_take]; omega
theorem ins3_b {α : Type} {l : List α} {q : α} {y : Nat} (h : y ≤ l.length) : 0 + y + 1 ≤ ((([] : List α).take 0 ++ l.take y).take (0 + y) ++ [q].take 1).length := by
  rw [List.take_zero, List.nil_append, List.length_append, List.length_take, List.length_take, List.length_take]; simp only [List.length_singleton]; omega
theorem ins3_eq {α : Type} {l R : List α} {q : α} {y : Nat} (h : y ≤ l.length) (e : R = l.take y ++ q :: l.drop y) : (((([] : List α).take 0 ++ l.take y).take (0 + y) ++ [q].take 1).take (0 + y + 1) ++ (l.drop y).take (l.length - y)) = R := by
  rw [e, List.take_of_length_le (l := l.drop y) (by rw [List.length_drop]; omega), List.take_zero, List.nil_append, List.take_of_length_le (l := l.take y) (by rw [List.length_take]; omega), List.take_of_length_le (l := [q]) (by simp),
List.take_of_length_le (by rw [List.length_append, List.length_take, List.length_singleton]; omega), List.append_assoc, List.singleton_append]
def OH (l : List (Int × Int)) (i : Int) : List (Int × Int) := ordS ltH (l.take i.toNat)
theorem OH_rises : Rises ltH (OH l i) := ordS_rises ordH _
theorem OH_len : (OH l i).length ≤ l.length := by
  have := ordS_len (lt := ltH) (l.take i.toNat); rw [List.length_take] at this; unfold OH; omega
theorem OH_next (h0 : 0 ≤ i) (h : i < (l.length : Nat)) : OH l (i + 1) = putS ltH (OH l i) (l.getD i.toNat (0, 0)) := by
  unfold OH; rw [show (i + 1).toNat = i.toNat + 1 by omega, take_snoc (d := (0, 0)) (by omega), ordS_snoc]
theorem OH_end (h1 : i ≤ (l.length : Nat)) (h2 : ¬ i < (l.length : Nat)) : OH l i = ordS ltH l := by unfold OH; rw [List.take_of_length_le (by omega)]
end
set_option maxHeartbeats 1000000 in
theorem rputh_z (E : Nat → Addr) (l : List (Int × Int)) (q : Int × Int) (n k : Nat) (h : n = l.length ∧ l.length ≤ 1000000 ∧ l.length ≤ k ∧ Rises ltH l) : Does (Gm E) 78 ⟨[.sl 0 n k, .agg [.int .i64 q.1, .int .i64 q.2]], [(0, .arr (Int × Int) (Zz.encP Zz.encI Zz.encI) 28 l k)], 1, 2, Nat, fun k1 => (putS ltH l q).length ≤ k1, fun k1 => .sl 1 (putS ltH l q).length k1, fun k1 => [(1, .arr (Int × Int) (Zz.encP Zz.encI Zz.encI) 28 (putS ltH l q) k1)]⟩ := by
  obtain ⟨rfl, hm, hk, hl⟩ := h
  refine fn_intro (gmOk E) 48 1 [] Tryz.func78 rfl rfl rfl rfl rfl ?_
  repeat' first | (intro h; first | (exfalso; omega; done) | skip) | (refine And.intro ?_ ?_) | exact True.intro | (refine @Exists.intro Unit _ () ?_) | (refine @Exists.intro (_ = _) _ rfl ?_) | (change LoopGoal _ _ _ _ _ _; refine loop_at 2 (gmOk E) rfl [] (X := Int) (fun i => [(5, .int .i64 i)]) (fun i => []) [] (fun i => Fi ltH (0, 0) l q i) (fun i => l.length - i.toNat) ⟨0, ?_⟩ (fun i hI => ?_)) | (change @Exists (Int) (fun _ => updK _ _ _ _ _ _); refine @Exists.intro (Int) _ ((?_)) ?_; rotate_left 1) | (change DrawGoal _ _ _ _ _ _; first | (change DrawGoal _ _ _ ({ dst := some 7, op := _, type := _, pos := _, after := _, guard := _ } :: _) _ _; refine draw_tree (gmOk E) [0, 1] (.leaf [(0, true), (1, true), (2, true), (3, true), (4, true), (5, true), (6, true), (7, true), (8, true), (9, true), (10, false), (11, true)]) (by kernel_rfl) ?_) | (change DrawGoal _ _ _ ({ dst := some 21, op := _, type := _, pos := _, after := _, guard := _ } :: _) _ _; refine draw_tree (gmOk E) [0, 1] (.leaf [(0, true), (1, true), (2, true), (3, true), (4, true), (5, true), (6, true), (7, true), (8, true), (9, true), (10, true), (11, true)]) (by kernel_rfl) ?_)) | (refine @Exists.intro (Nat) _ ?_ ?_; rotate_left) | (change CallGoal _ _ _ _ _ _; first | (refine call0 (ref02less_z E (l.getD i.toNat (0, 0)) q) [] rfl True.intro rfl ?_))
  all_goals first
| (dsimp only; first | rfl | omega)
| rfl
| omega
| exact Fi.start
| exact hI.next ‹_› ‹_›
| (have q1 := hI.lo; have q2 := hI.hi; omega)
| exact Nat.le_refl 1
| (have e := puth_in hl hI (by first | exact .inl ‹_› | exact .inr ‹_›) ‹_›; first | exact (congrArg List.length e).symm | exact congrArg (fun q => Ch.arr _ _ _ q _) e.symm | (rw [e]; exact hk) | exact Nat.le_trans (Nat.le_of_eq (congrArg List.length e)) hk)
| (have q1 := hI.lo; have q2 := hI.hi; first | exact ins3_a (l := l) (y := i.toNat) (by omega) | exact ins3_b (l := l) (q := q) (y := i.toNat) (by omega) | (change _ * 16 ≤ _; omega))
| (have e := puth_out hl hI (by first | exact .inl ‹_› | exact .inr ‹_›) ‹_›; have q1 := hI.lo; have q2 := hI.hi; exact (ins3_len (by omega) e))
| (have e := puth_out hl hI (by first | exact .inl ‹_› | exact .inr ‹_›) ‹_›; have q1 := hI.lo; have q2 := hI.hi; refine Nat.le_trans (Nat.le_of_eq (ins3_len (by omega) e).symm) ‹_›)
| (have e := puth_out hl hI (by first | exact .inl ‹_› | exact .inr ‹_›) ‹_›; have q1 := hI.lo; have q2 := hI.hi; exact congrArg (fun q => Ch.arr _ _ _ q _) (ins3_eq (l := l) (q := q) (y := i.toNat) (by omega) e))
set_option maxHeartbeats 1000000 in
theorem rhand_z (E : Nat → Addr) (l : List (Int × Int)) (n k : Nat) (h : n = l.length ∧ l.length ≤ 1000000) : Does (Gm E) 30 ⟨[.sl 0 n k], [(0, .ro (Int × Int) (Zz.encP Zz.encI Zz.encI) l k)], 1, 2, Nat, fun k1 => (ordS ltH l).length ≤ k1, fun k1 => .sl 1 (ordS ltH l).length k1, fun k1 => [(1, .arr (Int × Int) (Zz.encP Zz.encI Zz.encI) 28 (ordS ltH l) k1)]⟩ := by
  obtain ⟨rfl, hm⟩ := h
  refine fn_intro (gmOk E) 18 1 [] Tryz.func30 rfl rfl rfl rfl rfl ?_
  repeat' first | (intro h; first | (exfalso; omega; done) | skip) | (refine And.intro ?_ ?_) | exact True.intro | (refine @Exists.intro Unit _ () ?_) | (refine @Exists.intro (_ = _) _ rfl ?_) | (change LoopGoal _ _ _ _ _ _; refine loop_at 3 (gmOk E) rfl [] (X := (Int × Nat)) (fun x => [(9, .int .i64 x.1), (3, .sl 2 (OH l x.1).length x.2)]) (fun x => [(2, .arr (Int × Int) (Zz.encP Zz.encI Zz.encI) 28 (OH l x.1) x.2)]) [1] (fun x => 0 ≤ x.1 ∧ x.1 ≤ (l.length : Nat) ∧ (OH l x.1).length ≤ x.2) (fun x => l.length - x.1.toNat) ⟨(0, 0), ?_⟩ (fun x hI => ?_)) | (change @Exists ((Int × Nat)) (fun _ => updK _ _ _ _ _ _); refine @Exists.intro ((Int × Nat)) _ ((?_, ?_)) ?_; rotate_left 2) | (refine @Exists.intro (Nat) _ ?_ ?_; rotate_left) | (change CallGoal _ _ _ _ _ _; first | (refine call_rule (rputh_z E (OH l x.1) (l.getD x.1.toNat (0, 0)) _ x.2 ⟨rfl, ?_, hI.2.2, OH_rises⟩) [2] rfl (And.intro rfl True.intro) rfl (fun (r1 : Nat) hr1 => ?_)))
  all_goals first
| (dsimp only; first | rfl | omega)
| rfl
| omega
| exact Nat.le_refl _
| (have q := OH_len (l := l) (i := x.1); omega)
| (have e := OH_end hI.2.1 ‹¬ x.1 < _›; first | exact congrArg List.length e | exact congrArg (fun q => Ch.arr _ _ _ q _) e | exact Nat.le_trans (Nat.le_of_eq (congrArg List.length e.symm)) hI.2.2)
| (have e := OH_next hI.1 ‹x.1 < _›; first | exact (congrArg List.length e).symm | exact congrArg (fun q => Ch.arr _ _ _ q _) e.symm | exact Nat.le_trans (Nat.le_of_eq (congrArg List.length e)) hr1)
set_option maxHeartbeats 4000000 in
theorem rsameH_z (E : Nat → Addr) (l m : List (Int × Int)) (n k n2 k2 : Nat) (h : (n = l.length ∧ n2 = m.length) ∧ l.length ≤ 1000000 ∧ m.length ≤ 1000000) : Does (Gm E) 29 (Sp0 [.sl 0 n k, .sl 1 n2 k2] [(0, .ro (Int × Int) (Zz.encP Zz.encI Zz.encI) l k), (1, .ro (Int × Int) (Zz.encP Zz.encI Zz.encI) m k2)] 2 (.bl (sameL l m))) := by
  obtain ⟨⟨rfl, rfl⟩, h1, h2⟩ := h
  refine fn_intro (gmOk E) 26 2 [] Tryz.func29 rfl rfl rfl rfl rfl ?_
  repeat' first | (intro h; first | (exfalso; omega; done) | skip) | (refine And.intro ?_ ?_) | exact True.intro | (refine @Exists.intro Unit _ () ?_) | (refine @Exists.intro (_ = _) _ rfl ?_) | (change LoopGoal _ _ _ _ _ _; refine loop_at 4 (gmOk E) rfl [] (X := Int) (fun i => [(13, .int .i64 i)]) (fun i => []) [] (fun i => 0 ≤ i ∧ i ≤ (l.length : Nat) ∧ l.length = m.length ∧ ∀ j, j < i.toNat → l.getD j (0, 0) = m.getD j (0, 0)) (fun i => l.length - i.toNat) ⟨0, ?_⟩ (fun i hI => ?_)) | (change @Exists (Int) (fun _ => updK _ _ _ _ _ _); refine @Exists.intro (Int) _ ((?_)) ?_; rotate_left 1) | (change DrawGoal _ _ _ _ _ _; first | (change DrawGoal _ _ _ ({ dst := some 16, op := _, type := _, pos := _, after := _, guard := _ } :: _) _ _; refine draw_tree (gmOk E) [0, 1] (.leaf [(0, true), (1, true), (2, true), (3, true), (4, true), (5, true), (6, true), (7, true), (8, true)]) (by kernel_rfl) ?_))
  all_goals first
| (dsimp only; first | rfl | omega)
| rfl
| omega
| exact (sameL_len (by assumption)).symm
| exact (sameL_at (j := i.toNat) (0, 0) (fun e => by have := pt_eq'.2 e; exact absurd this (by assumption))).symm
| (rename_i j hj; exact same_next (0, 0) hI.1 hI.2.2.2 (pt_eq'.1 (Classical.not_not.1 (by assumption))) j hj)
| (rename_i j; exact same_next (0, 0) hI.1 hI.2.2.2 (pt_eq'.1 (Classical.not_not.1 (by assumption))) j h)
| exact (sameL_all (0, 0) hI.2.2.1 (fun j hj => hI.2.2.2 j (by omega))).symm
end Go.Proofs.YtcnbngiplfoomaaGreatDoor
namespace Go.Proofs.YtcnbngiplfoomaaGreatDoor
open Go.Zz Go.Px
set_option linter.unusedVariables false
set_option linter.unusedSectionVars false
set_option linter.unusedSimpArgs false
set_option maxRecDepth 10000
section
variable {Qv : List (PRow V3)} {n i : Nat} {R : List Ey} {h : Hd} {m : Int}
theorem mem_inR : h ∈ inR R m ↔ ∃ r, (h, r) ∈ R ∧ mkI r = m := by
  unfold inR
  simp only [List.mem_map, List.mem_filter, decide_eq_true_eq]
  constructor
  · rintro ⟨e, ⟨h1, h2⟩, rfl⟩; exact ⟨e.2, h1, h2⟩
  · rintro ⟨r, h1, h2⟩; exact ⟨(h, r), ⟨h1, h2⟩, rfl⟩
theorem rowsR_mem {rows : List Rw} {h : Hd} {r : Rw} : (h, r) ∈ rowsR rows n ↔ ∃ j, j < n ∧ h = hI j ∧ r = rows.getD j [] := by
  unfold rowsR
  simp only [List.mem_map, List.mem_range, Prod.mk.injEq]
  constructor
  · rintro ⟨j, h1, h2, h3⟩; exact ⟨j, h1, h2.symm, h3.symm⟩
  · rintro ⟨j, h1, h2, h3⟩; exact ⟨j, h1, h2.symm, h3.symm⟩
theorem in_row (hi : i < (inR (rowsR (rowsV Qv) n) m).length) : ∃ j : Nat, j < n ∧ (inR (rowsR (rowsV Qv) n) m).getD i (0, 0) = hI j ∧ mkI (rowQ Qv j).2.2 = m := by
  have h1 : (inR (rowsR (rowsV Qv) n) m).getD i (0, 0) ∈ inR (rowsR (rowsV Qv) n) m := by
    rw [List.getD_eq_getElem?_getD, List.getElem?_eq_getElem hi]; exact List.getElem_mem _
  obtain ⟨r, h2, h3⟩ := mem_inR.1 h1
  obtain ⟨j, h4, h5, h6⟩ := rowsR_mem.1 h2
  exact ⟨j, h4, h5, by rw [← h3, h6, rowsV_at]⟩
theorem inR_ne (hR : ∀ e ∈ R, rightV e.2 = true) (hi : i < (masksR R).length) : 0 < (inR R ((masksR R).getD i 0)).length := by
  have h1 : (masksR R).getD i 0 ∈ masksR R := by rw [List.getD_eq_getElem?_getD, List.getElem?_eq_getElem hi]; exact List.getElem_mem _
  obtain ⟨e, he, q⟩ := (mem_masksR hR).1 h1
  exact List.length_pos_of_mem (mem_inR.2 ⟨e.2, he, q⟩)
theorem any_mask (hR : ∀ e ∈ R, rightV e.2 = true) (hi : i < (masksR R).length) : anyM R ((masksR R).getD i 0) = true := by
  have h1 : (masksR R).getD i 0 ∈ masksR R := by rw [List.getD_eq_getElem?_getD, List.getElem?_eq_getElem hi]; exact List.getElem_mem _
  obtain ⟨e, he, q⟩ := (mem_masksR hR).1 h1
  unfold anyM; exact List.any_eq_true.2 ⟨e, he, by simpa using q⟩
def sumIn (R : List Ey) (ms : List Int) : Nat := (ms.map fun m => (inR R m).length).foldr (· + ·) 0
theorem sumIn_app (R : List Ey) : ∀ (a b : List Int), sumIn R (a ++ b) = sumIn R a + sumIn R b
  | [], b => by simp [sumIn]
  | x :: a, b => by
    have := sumIn_app R a b
    unfold sumIn at this ⊢
    simp only [List.cons_append, List.map_cons, List.foldr_cons, this]; omega
theorem sumIn_nil (ms : List Int) : sumIn [] ms = 0 := by
  induction ms with
  | nil => rfl
  | cons x a ih => unfold sumIn at ih ⊢; simp only [List.map_cons, List.foldr_cons, ih]; rfl
theorem sumIn_cons (e : Ey) (R : List Ey) : ∀ (ms : List Int), ms.Nodup → sumIn (e :: R) ms = sumIn R ms + (if mkI e.2 ∈ ms then 1 else 0)
  | [], _ => by simp [sumIn]
  | x :: a, hn => by
    have hn' := List.nodup_cons.1 hn
    have ih := sumIn_cons e R a hn'.2
    unfold sumIn at ih ⊢
    simp only [List.map_cons, List.foldr_cons, ih]
    have e1 : (inR (e :: R) x).length = (inR R x).length + (if mkI e.2 = x then 1 else 0) := by
      unfold inR; rw [List.filter_cons]
      by_cases q : mkI e.2 = x
      · rw [if_pos (by simpa using q), if_pos q]; simp
      · rw [if_neg (by simpa using q), if_neg q]; simp
    rw [e1]
    by_cases q : mkI e.2 = x
    · subst q
      rw [if_pos rfl, if_pos (List.mem_cons_self ..), if_neg hn'.1]; omega
    · rw [if_neg q]
      by_cases q2 : mkI e.2 ∈ a
      · rw [if_pos q2, if_pos (List.mem_cons_of_mem _ q2)]; omega
      · rw [if_neg q2, if_neg (by simp [q, q2])]; omega
theorem sumIn_all : ∀ (R : List Ey) (ms : List Int), ms.Nodup → (∀ e ∈ R, mkI e.2 ∈ ms) → sumIn R ms = R.length
  | [], ms, _, _ => sumIn_nil ms
  | e :: R, ms, hn, h => by
    rw [sumIn_cons e R ms hn, sumIn_all R ms hn fun x hx => h x (List.mem_cons_of_mem _ hx), if_pos (h e (List.mem_cons_self ..)), List.length_cons]
theorem sumIn_next (hi : i < (masksR R).length) : sumIn R ((masksR R).take (i + 1)) = sumIn R ((masksR R).take i) + (inR R ((masksR R).getD i 0)).length := by
  rw [take_snoc (d := 0) hi, sumIn_app]; simp [sumIn]
theorem sumIn_end (hR : ∀ e ∈ R, rightV e.2 = true) : sumIn R (masksR R) = R.length := sumIn_all R _ (masksR_nd R) fun e he => (mem_masksR hR).2 ⟨e, he, rfl⟩
theorem rowsR_right (h : ∀ j, j < n → rightV (rowQ Qv j).2.2 = true ∧ (rowQ Qv j).2.2.length ≤ 20) : ∀ e ∈ rowsR (rowsV Qv) n, rightV e.2 = true := fun e he => by
  obtain ⟨j, h1, h2, h3⟩ := rowsR_mem.1 (show (e.1, e.2) ∈ _ from he)
  rw [h3, rowsV_at]; exact (h j h1).1
theorem inR_len : (inR R m).length ≤ R.length := by unfold inR; rw [List.length_map]; exact List.length_filter_le _ _
theorem sumIn_le (hR : ∀ e ∈ R, rightV e.2 = true) (hi : i < (masksR R).length) : sumIn R ((masksR R).take i) + (inR R ((masksR R).getD i 0)).length ≤ R.length := by
  rw [← sumIn_next hi, ← sumIn_end hR]
  have := sumIn_app R ((masksR R).take (i + 1)) ((masksR R).drop (i + 1))
  rw [List.take_append_drop] at this; omega
theorem sumIn_fin (hR : ∀ e ∈ R, rightV e.2 = true) (hi : ¬ i < (masksR R).length) : sumIn R ((masksR R).take i) = R.length := by
  rw [List.take_of_length_le (by omega), sumIn_end hR]
theorem inR_ord (hs : Rises ltE R) : ordS ltH (inR R m) = inR R m := by
  refine Rises.ext ordH (ordS_rises ordH _) ?_ fun h => mem_ordS _ h
  unfold inR Rises
  exact List.Pairwise.map _ (fun a b h => h) (List.Pairwise.filter _ hs)
end
set_option maxHeartbeats 4000000 in
theorem in_no (E : Nat → Addr) (Qv : List (PRow V3)) (n k : Nat) (h : n = Qv.length ∧ ¬ Qv.length ≤ 30) : DoesC (Gm E) 6 (Sp0 [.sl 0 n k] [(0, .ro Hdr encS (headsV Qv) k), (1, .fo (roPool Zz.encV Qv)), (2, .fo (tzF 10))] 3 .tt) := by
  obtain ⟨rfl, hl⟩ := h
  refine fn_calls (gmOk E) 89 3 [] Tryz.func6 rfl rfl rfl rfl rfl ?_
  repeat' first | (intro h; first | (exfalso; omega; done) | (exfalso; first | exact h trivial | omega; done) | skip) | (refine And.intro ?_ ?_) | exact True.intro | (refine @Exists.intro Unit _ () ?_) | (refine @Exists.intro (_ = _) _ rfl ?_) | (change CallGoal _ _ _ _ _ _; first | (refine call0 (alive_z E) [2] rfl (And.intro rfl True.intro) rfl ?_))
  all_goals first | rfl | omega
set_option maxHeartbeats 4000000 in
theorem in_ok (E : Nat → Addr) (Qv : List (PRow V3)) (n k : Nat) (h : n = Qv.length ∧ Qv.length ≤ 30) : DoesC (Gm E) 6 (Sp0 [.sl 0 n k] [(0, .ro Hdr encS (headsV Qv) k), (1, .fo (roPool Zz.encV Qv)), (2, .fo (tzF 10))] 3 .tt) := by
  obtain ⟨rfl, hl⟩ := h
  refine fn_calls (gmOk E) 89 3 [6, 9, 15, 26] Tryz.func6 rfl rfl rfl rfl rfl ?_
  repeat' first | (change CallGoal _ _ _ _ _ _; first | (change CallGoal _ 16 _ _ _ _; first | (refine call_rule (sPut E x.2 (rowsR (rowsV Qv) x.1) (hI x.1) (rowQ Qv x.1).2.2 _ _ ⟨rfl, rowsR_new, hrt (by assumption), by omega, by rw [rowsR_len]; omega, .inr (masks_few (by rw [rowsR_len]; omega))⟩) [3, 4, 21, 2] rfl (And.intro rfl (And.intro rfl (And.intro rfl (And.intro rfl True.intro)))) rfl (fun (S3 : List (PRow Int)) hS3 => ?_))) | (change CallGoal _ 20 _ _ _ _; first | (refine call_rule (sMasksA E xq (rowsR (rowsV Qv) Qv.length) (by have := masks_len (rowsR (rowsV Qv) Qv.length); rw [rowsR_len] at this; omega)) [3] rfl (And.intro rfl True.intro) rfl (fun (q1 : Nat) hq1 => ?_))) | (change CallGoal _ 28 _ _ _ _; first | (refine call_rule (sInY E xq (rowsR (rowsV Qv) Qv.length) ((masksR (rowsR (rowsV Qv) Qv.length)).getD y.1 0) (any_mask hR (by omega))) [3] rfl (And.intro rfl True.intro) rfl (fun (q2 : Nat) hq2 => ?_))) | (change CallGoal _ 30 _ _ _ _; first | (refine call_rule (rhand_z E (inR (rowsR (rowsV Qv) Qv.length) ((masksR (rowsR (rowsV Qv) Qv.length)).getD y.1 0)) _ q2 ⟨rfl, by have := inR_len (R := (rowsR (rowsV Qv) Qv.length)) (m := ((masksR (rowsR (rowsV Qv) Qv.length)).getD y.1 0)); rw [rowsR_len] at this; omega⟩) [38] rfl (And.intro rfl True.intro) rfl (fun (q3 : Nat) hq3 => ?_))) | (change CallGoal _ 29 _ _ _ _; first | (refine call0 (rsameH_z E (inR (rowsR (rowsV Qv) Qv.length) ((masksR (rowsR (rowsV Qv) Qv.length)).getD y.1 0)) (ordS ltH (inR (rowsR (rowsV Qv) Qv.length) ((masksR (rowsR (rowsV Qv) Qv.length)).getD y.1 0))) _ q2 _ q3 ⟨⟨rfl, rfl⟩, by have := inR_len (R := (rowsR (rowsV Qv) Qv.length)) (m := ((masksR (rowsR (rowsV Qv) Qv.length)).getD y.1 0)); rw [rowsR_len] at this; omega, by rw [inR_ord rowsR_rises]; have := inR_len (R := (rowsR (rowsV Qv) Qv.length)) (m := ((masksR (rowsR (rowsV Qv) Qv.length)).getD y.1 0)); rw [rowsR_len] at this; omega⟩) [38, 39] rfl (And.intro rfl (And.intro rfl True.intro)) rfl ?_)) | (change CallGoal _ 31 _ _ _ _; first | (refine callG.foOut 1 jj (rowQ Qv jj) rfl (rowQ_get hjj) ?_; change CallGoal _ _ _ _ _ _; refine call_args [.sl 57 (rowQ Qv jj).2.2.length (rowQ Qv jj).2.1] (fun _ => bdLB_ok _ rfl) (fun En V w hp => by simp only [SV.denL]; exact congrArg (fun z => [z]) ((head_den (i := jj) (rowQ Qv jj)).trans (says (c := 58) rfl hp).symm)) ?_; change CallGoal _ _ _ _ _ _; refine call0 (rmask_z E (rowQ Qv jj).2.2 _ _ ⟨rfl, by have := hI_.2 jj hjj; omega, right_kinds (hI_.2 jj hjj).1⟩) [57] rfl (And.intro rfl True.intro) rfl ?_))) | (change JoinGoal _ _ _ _ _ _ _ _; refine join_stop (gmOk E) ?_) | (change HereGoal _ _ _ _ _ _ _; refine here_at 6 rfl ?_; change HereGoal _ _ _ _ _ _ _; refine hereG.poolNil Zz.encI 3 ?_; change HereGoal _ _ _ _ _ _ _; refine here_go (gmOk E) ?_) | (change HereGoal _ _ _ _ _ _ _; refine here_at 9 rfl ?_; change HereGoal _ _ _ _ _ _ _; refine hereG.foOut 1 x.1 (rowQ Qv x.1) rfl (rowQ_get (by omega)) ?_; change HereGoal _ _ _ _ _ _ _; refine here_set 5 (.sl 21 (rowQ Qv x.1).2.2.length (rowQ Qv x.1).2.1) rfl (fun _ => by simp only [SV.bd]; omega) (fun En V w hp => (head_den (i := x.1) (rowQ Qv x.1)).trans (says (c := 22) rfl hp).symm) ?_; change HereGoal _ _ _ _ _ _ _; refine here_go (gmOk E) ?_) | (change HereGoal _ _ _ _ _ _ _; refine here_at 15 rfl ?_; change HereGoal _ _ _ _ _ _ _; (have ex : x.1 = Qv.length := by omega); (obtain ⟨xi, xq⟩ := x); dsimp only at *; subst ex; (have hR := rowsR_right hI_.2); change HereGoal _ _ _ _ _ _ _; refine here_go (gmOk E) ?_) | (change HereGoal _ _ _ _ _ _ _; refine here_at 26 rfl ?_; change HereGoal _ _ _ _ _ _ _; (obtain ⟨jj, hjj, ejj, emm⟩ := in_row (Qv := Qv) (n := Qv.length) (m := ((masksR (rowsR (rowsV Qv) Qv.length)).getD y.1 0)) (i := z.1) (by omega)); change HereGoal _ _ _ _ _ _ _; refine hereG.cells_ 56 [.int .i64 ((jj : Nat) : Int), .int .i64 1] rfl rfl (fun En V w hp => by simp only [SV.denL, SV.den]; exact congrArg (fun h : Hd => [Value.int .i64 h.1, Value.int .i64 h.2]) ejj) ?_; change HereGoal _ _ _ _ _ _ _; refine here_go (gmOk E) ?_) | with_reducible rfl | (intro h; first | (exfalso; omega; done) | (exfalso; first | exact h trivial | omega | (rw [inR_ord rowsR_rises, sameL_refl] at h; cases h; done) | exact h emm | (have q := inR_ne hR (i := y.1) (by omega); first | omega | (simp only [Int.toNat_natCast] at h; omega)); done) | skip) | (refine And.intro ?_ ?_) | exact True.intro | (refine @Exists.intro Unit _ () ?_) | (refine @Exists.intro (_ = _) _ rfl ?_) | (change NextGoal _ _ _; refine next_go ?_) | (change LoopGoal _ _ _ _ _ _; refine loop_keep 7 [0, 3, 19, 20] (gmOk E) rfl [6, 9, 15, 26] (X := (Nat × List (PRow Int))) (fun x => [(21, .int .i64 ((x.1 : Nat) : Int))]) (fun x => [(3, .pr (storePr E x.2 (rowsR (rowsV Qv) x.1))), (4, .pr (poolPr Zz.encI 3 x.2))]) [] (fun x => x.1 ≤ Qv.length ∧ ∀ j, j < x.1 → rightV (rowQ Qv j).2.2 = true ∧ (rowQ Qv j).2.2.length ≤ 20) (fun x => Qv.length - x.1) ⟨(0, []), ?_⟩ (fun x hI_ => ?_)) | (change @Exists ((Nat × List (PRow Int))) (fun _ => updPK _ _ _ _ _ _); refine @Exists.intro ((Nat × List (PRow Int))) _ ((x.1 + 1, x.2 ++ S3)) ?_) | (change LoopGoal _ _ _ _ _ _; refine loop_keep 17 [0, 3, 46, 47] (gmOk E) rfl [6, 9, 15, 26] (X := (Nat × Unit)) (fun y => [(48, .int .i64 ((y.1 : Nat) : Int)), (7, .int .i64 ((sumIn (rowsR (rowsV Qv) Qv.length) ((masksR (rowsR (rowsV Qv) Qv.length)).take y.1) : Nat) : Int))]) (fun y => []) [] (fun y => y.1 ≤ (masksR (rowsR (rowsV Qv) Qv.length)).length) (fun y => (masksR (rowsR (rowsV Qv) Qv.length)).length - y.1) ⟨(0, ()), ?_⟩ (fun y hJ => ?_)) | (change @Exists ((Nat × Unit)) (fun _ => updPK _ _ _ _ _ _); refine @Exists.intro ((Nat × Unit)) _ ((y.1 + 1, ())) ?_) | (change LoopGoal _ _ _ _ _ _; refine loop_keep 24 [0, 3, 7, 9, 10, 46, 47, 48, 49, 68, 69, 70] (gmOk E) rfl [6, 9, 15, 26] (X := (Nat × Unit × Unit)) (fun z => [(71, .int .i64 ((z.1 : Nat) : Int))]) (fun z => []) [] (fun z => z.1 ≤ (inR (rowsR (rowsV Qv) Qv.length) ((masksR (rowsR (rowsV Qv) Qv.length)).getD y.1 0)).length) (fun z => (inR (rowsR (rowsV Qv) Qv.length) ((masksR (rowsR (rowsV Qv) Qv.length)).getD y.1 0)).length - z.1) ⟨(0, (), ()), ?_⟩ (fun z hK => ?_)) | (change @Exists ((Nat × Unit × Unit)) (fun _ => updPK _ _ _ _ _ _); refine @Exists.intro ((Nat × Unit × Unit)) _ ((z.1 + 1, (), ())) ?_) | (change CallGoal _ _ _ _ _ _; first | (refine call_rule (sNew E []) [] rfl True.intro rfl (fun (y1 : Unit) hy1 => ?_))) | (change CallGoal _ _ _ _ _ _; first | (refine call0 (alive_z E) [2] rfl (And.intro rfl True.intro) rfl ?_) | (refine call0 (rright_z E (rowQ Qv x.1).2.2 _ _ ⟨rfl, by omega⟩) [21] rfl (And.intro rfl True.intro) rfl ?_))
  all_goals first | (dsimp only; first | rfl | omega) | rfl | omega | exact Nat.zero_le _ | (rw [heads_len]; omega) | (show _ < _; rw [heads_len]; omega) | (dsimp only; rw [← rowsR_ins, rowsV_at]) | exact (rows_next hI_.2 (hrt (by assumption)) (by omega) _ (by assumption)).1 | exact (rows_next hI_.2 (hrt (by assumption)) (by omega) _ (by assumption)).2 | (have q := sumIn_le hR (i := y.1) (by omega); rw [rowsR_len] at q; omega) | (have q := sumIn_fin hR (i := y.1) (by omega); rw [rowsR_len] at q; rw [q]) | (dsimp only; rw [sumIn_next (by omega)]; rfl) | (rw [sumIn_next (by omega)]; first | rfl | omega) | (have q := masks_len (rowsR (rowsV Qv) Qv.length); rw [rowsR_len] at q; omega)
theorem in_z (E : Nat → Addr) (Qv : List (PRow V3)) (n k : Nat) (h : n = Qv.length) : DoesC (Gm E) 6 (Sp0 [.sl 0 n k] [(0, .ro Hdr encS (headsV Qv) k), (1, .fo (roPool Zz.encV Qv)), (2, .fo (tzF 10))] 3 .tt) := by
  by_cases hl : Qv.length ≤ 30
  · exact in_ok E Qv n k ⟨h, hl⟩
  · exact in_no E Qv n k ⟨h, hl⟩
end Go.Proofs.YtcnbngiplfoomaaGreatDoor
namespace Go.Proofs.YtcnbngiplfoomaaGreatDoor
open Go.Zz Go.Px
set_option linter.unusedVariables false
set_option linter.unusedSectionVars false
set_option linter.unusedSimpArgs false
set_option maxRecDepth 10000
open Go.Proofs
theorem in_any (E : Nat → Addr) (av : Option Addr) (Qv : List (PRow V3)) (c : Nat)  (W : World) (hG : Errs (Gm E).errs W (Gm E).Δ.eT E) (hT : TabAt 10 Lib.deBruijn64tab W) (hs : 10 < W.heap.size) (hav : Arr W 1 av Qv.length c (flat encS.val (headsV Qv))) (hQ : ∀ q ∈ Qv, Arr W 3 q.1 q.2.2.length q.2.1 (flat Zz.encV.val q.2.2)) :
    Calls Tryz.prog 6 #[.slice av Qv.length c] W (Ret fun v w' => v = .bool true ∧ Keep Nn W w') :=
  (in_z E Qv Qv.length c  rfl).law2 (fun _ => av) hG rfl (fun d α e l' k' hm => by
    rcases List.mem_cons.1 hm with hm | hm
    · cases hm; exact ⟨by rw [heads_len]; exact hav, by decide⟩
    · rcases List.mem_cons.1 hm with hm | hm
      · cases hm
      · cases List.mem_singleton.1 hm) (fun d Ψ hm => by
    rcases List.mem_cons.1 hm with hm | hm
    · cases hm
    · rcases List.mem_cons.1 hm with hm | hm
      · cases hm; exact rows_fo hQ _
      · cases List.mem_singleton.1 hm; exact ⟨hT, id, hs⟩) (fun _ => rfl) (by simp [SV.denL, SV.den, Sp0])
end Go.Proofs.YtcnbngiplfoomaaGreatDoor
