/- A part of the proof: texts put together. -/
import Derived.Test.YtcnbngiplfoomaaGreatDoorG6
import Derived.Test.YtcnbngiplfoomaaGreatDoorG4
set_option linter.unusedSectionVars false
set_option linter.unusedSimpArgs false
set_option linter.unusedVariables false
namespace Go.Proofs.YtcnbngiplfoomaaGreatDoor
open Go.Zz Go.Px
set_option linter.unusedVariables false
set_option linter.unusedSectionVars false
set_option linter.unusedSimpArgs false
set_option maxRecDepth 10000
section
variable {Qv : List (PRow V3)} {R : List Ey} {hd : Hd} {row : Rw} {i : Nat} {m : Int}
def fillS (R : List Ey) (hd : Hd) (row : Rw) : List Ey := if hasK R hd = false ∧ rightV row = true ∧ (masksR (insR R (hd, row))).length ≤ 32 then insR R (hd, row) else R
def hF (i : Nat) : Hd := (((i * 7 % 41 : Nat) : Int), 1)
def fillR (Qv : List (PRow V3)) : Nat → List Ey
  | 0 => []
  | i + 1 => fillS (fillR Qv i) (hF i) (rowQ Qv i).2.2
theorem fillS_ris (h : Rises ltE R) : Rises ltE (fillS R hd row) := by
  unfold fillS; split
  · rename_i q; exact ins_rises h q.1
  · exact h
theorem fillS_right (h : ∀ e ∈ R, rightV e.2 = true) : ∀ e ∈ fillS R hd row, rightV e.2 = true := by
  unfold fillS; split
  · rename_i q; exact ins_right h q.2.1
  · exact h
theorem fillS_len : (fillS R hd row).length ≤ R.length + 1 := by
  unfold fillS; split
  · rw [insR_len]; exact Nat.le_refl _
  · exact Nat.le_succ _
theorem fillR_ris : ∀ i, Rises ltE (fillR Qv i)
  | 0 => List.Pairwise.nil
  | i + 1 => fillS_ris (fillR_ris i)
theorem fillR_right : ∀ i, ∀ e ∈ fillR Qv i, rightV e.2 = true
  | 0 => fun _ h => by cases h
  | i + 1 => fillS_right (fillR_right i)
theorem fillR_len : ∀ i, (fillR Qv i).length ≤ i
  | 0 => Nat.le_refl _
  | i + 1 => Nat.le_trans fillS_len (Nat.succ_le_succ (fillR_len i))
theorem fillS_masks (h : (masksR R).length ≤ 32) : (masksR (fillS R hd row)).length ≤ 32 := by
  unfold fillS; split
  · rename_i q; exact q.2.2
  · exact h
theorem fillR_masks : ∀ i, (masksR (fillR Qv i)).length ≤ 32
  | 0 => by show (masksR []).length ≤ 32; have : masksR [] = [] := by unfold masksR; simp
            rw [this]; simp
  | i + 1 => fillS_masks (fillR_masks i)
theorem put_cases (R : List Ey) (hd : Hd) (row : Rw) : hasK R hd = true ∨ (hasK R hd = false ∧ rightV row = false) ∨ (hasK R hd = false ∧ rightV row = true ∧ 32 < (masksR (insR R (hd, row))).length) ∨ (hasK R hd = false ∧ rightV row = true ∧ (masksR (insR R (hd, row))).length ≤ 32) := by
  cases hasK R hd
  · cases rightV row
    · simp
    · simp; omega
  · simp
theorem fillS_yes (h : hasK R hd = false ∧ rightV row = true ∧ (masksR (insR R (hd, row))).length ≤ 32) : fillS R hd row = insR R (hd, row) := by unfold fillS; rw [if_pos h]
theorem fillS_no (h : ¬ (hasK R hd = false ∧ rightV row = true ∧ (masksR (insR R (hd, row))).length ≤ 32)) : fillS R hd row = R := by unfold fillS; rw [if_neg h]
theorem room_ins (hr : ∀ e ∈ R, rightV e.2 = true) (h : rightV row = true) (hm : (masksR (insR R (hd, row))).length ≤ 32) : anyM R (mkI row) = true ∨ (masksR R).length < 32 := by
  cases q : anyM R (mkI row) with
  | true => exact .inl rfl
  | false =>
    refine .inr ?_
    have hn : mkI row ∉ masksR R := fun hm => by
      obtain ⟨e, he, q2⟩ := (mem_masksR hr).1 hm
      have : anyM R (mkI row) = true := by unfold anyM; exact List.any_eq_true.2 ⟨e, he, by simpa using q2⟩
      rw [q] at this; cases this
    have h1 := nodup_sub_lenT (l := mkI row :: masksR R) (m := masksR (insR R (hd, row))) (List.nodup_cons.2 ⟨hn, masksR_nd R⟩) fun x hx => by
      rw [mem_masksR (ins_right hr h)]
      rcases List.mem_cons.1 hx with rfl | hx
      · exact ⟨(hd, row), mem_insR.2 (.inr rfl), rfl⟩
      · obtain ⟨e, he, q2⟩ := (mem_masksR hr).1 hx
        exact ⟨e, mem_insR.2 (.inl he), q2⟩
    rw [List.length_cons] at h1; omega
theorem hF_eq : ((i : Int) * 7).tmod 41 = ((i * 7 % 41 : Nat) : Int) := by
  rw [Int.tmod_eq_emod_of_nonneg (by omega)]; omega
theorem len_next {x : Nat} (hI : ∀ j, j < x → (rowQ Qv j).2.2.length ≤ 20) (h : (rowQ Qv x).2.2.length ≤ 20) (j : Nat) (hj : j < x + 1) : (rowQ Qv j).2.2.length ≤ 20 := by
  by_cases e : j = x
  · subst e; exact h
  · exact hI j (by omega)
def longV (Qv : List (PRow V3)) : Bool := Qv.any fun q => decide (20 < q.2.2.length)
theorem longV_at (hi : i < Qv.length) (h : 20 < (rowQ Qv i).2.2.length) : longV Qv = true := by
  unfold longV
  refine List.any_eq_true.2 ⟨rowQ Qv i, List.mem_of_getElem? (rowQ_get hi), decide_eq_true h⟩
theorem longV_no (h : ∀ i, i < Qv.length → ¬ 20 < (rowQ Qv i).2.2.length) : longV Qv = false := by
  rw [← Bool.not_eq_true]; intro q
  unfold longV at q
  obtain ⟨q, hq, e⟩ := List.any_eq_true.1 q
  obtain ⟨j, hj, e2⟩ := List.mem_iff_getElem.1 hq
  refine h j hj ?_
  unfold rowQ; rw [List.getD_eq_getElem?_getD, List.getElem?_eq_getElem hj, Option.getD_some, e2]; exact of_decide_eq_true e
end
set_option maxHeartbeats 4000000 in
theorem long_z (E : Nat → Addr) (Qv : List (PRow V3)) (n k : Nat) (h : n = Qv.length ∧ Qv.length ≤ 1000000) : Does (Gm E) 40 (Sp0 [.sl 0 n k] [(0, .ro Hdr encS (headsV Qv) k), (1, .fo (roPool Zz.encV Qv))] 2 (.bl (longV Qv))) := by
  obtain ⟨rfl, hl⟩ := h
  refine fn_intro (gmOk E) 15 2 [4] Tryz.func40 rfl rfl rfl rfl rfl ?_
  repeat' first | (change JoinGoal _ _ _ _ _ _ _ _; refine join_stop (gmOk E) ?_) | (change HereGoal _ _ _ _ _ _ _; refine here_at 4 rfl ?_; change HereGoal _ _ _ _ _ _ _; refine hereG.foOut 1 x (rowQ Qv x) rfl (rowQ_get (by omega)) ?_; change HereGoal _ _ _ _ _ _ _; refine here_set 4 (.sl 18 (rowQ Qv x).2.2.length (rowQ Qv x).2.1) rfl (fun _ => by simp only [SV.bd]; omega) (fun En V w hp => (head_den (i := x) (rowQ Qv x)).trans (says (c := 19) rfl hp).symm) ?_; change HereGoal _ _ _ _ _ _ _; refine here_go (gmOk E) ?_) | with_reducible rfl | (intro h; first | (exfalso; omega; done) | skip) | (refine And.intro ?_ ?_) | exact True.intro | (refine @Exists.intro Unit _ () ?_) | (refine @Exists.intro (_ = _) _ rfl ?_) | (change NextGoal _ _ _; refine next_go ?_) | (change LoopGoal _ _ _ _ _ _; refine loop_keep 2 [5, 6] (gmOk E) rfl [4] (X := Nat) (fun x => [(7, .int .i64 ((x : Nat) : Int))]) (fun x => []) [] (fun x => x ≤ Qv.length ∧ ∀ j, j < x → ¬ 20 < (rowQ Qv j).2.2.length) (fun x => Qv.length - x) ⟨0, ?_⟩ (fun x hI => ?_)) | (change @Exists (Nat) (fun _ => updPK _ _ _ _ _ _); refine @Exists.intro (Nat) _ (x + 1) ?_)
  all_goals first | (dsimp only; first | rfl | omega) | rfl | omega | exact Nat.zero_le _ | (rw [heads_len]; omega) | (show _ < _; rw [heads_len]; omega) | exact (longV_at (i := x) (by omega) (by omega)).symm | exact (longV_no (fun j hj => hI.2 j (by omega))).symm | (rename_i hn j hj; exact (Nat.lt_or_ge j x).elim (fun e2 => hI.2 j e2 h) (fun e2 => by rw [show j = x from by omega] at h; omega))
set_option maxHeartbeats 4000000 in
theorem filled_ok (E : Nat → Addr) (Qv : List (PRow V3)) (n k : Nat) (h : n = Qv.length ∧ Qv.length ≤ 40 ∧ longV Qv = false) : Does (Gm E) 39 ⟨[.sl 0 n k], [(0, .ro Hdr encS (headsV Qv) k), (1, .fo (roPool Zz.encV Qv)), (2, .fo (tzF 10))], 3, 7, (List (PRow Int) × List (PRow V3)), fun _ => True, fun _ => .tup [.ptr 3 0, .ptr 4 0, .tt], fun x => [(3, .pr (storePr E x.1 (fillR Qv Qv.length))), (4, .pr (refPr E x.2 (fillR Qv Qv.length))), (5, .pr (poolPr Zz.encI 3 x.1)), (6, .pr (poolPr Zz.encV 34 x.2))]⟩ := by
  obtain ⟨rfl, hl, hlg⟩ := h
  refine fn_intro (gmOk E) 45 3 [2, 7, 10] Tryz.func39 rfl rfl rfl rfl rfl ?_
  repeat' first | (change CallGoal _ _ _ _ _ _; first | (change CallGoal _ 81 _ _ _ _; first | (refine call_rule (qPutHas E x.2.2 (fillR Qv x.1) (hF x.1) (rowQ Qv x.1).2.2 _ _ ⟨⟨rfl, by omega, by have := fillR_len (Qv := Qv) x.1; omega, fillR_ris _, fillR_right _⟩, hc⟩) [4, 6, 25] rfl (And.intro rfl (And.intro rfl (And.intro rfl True.intro))) rfl (fun (u1 : Unit) hu1 => ?_)) | (refine call_rule (qPutForm E x.2.2 (fillR Qv x.1) (hF x.1) (rowQ Qv x.1).2.2 _ _ ⟨⟨rfl, by omega, by have := fillR_len (Qv := Qv) x.1; omega, fillR_ris _, fillR_right _⟩, hc.1, hc.2⟩) [4, 6, 25] rfl (And.intro rfl (And.intro rfl (And.intro rfl True.intro))) rfl (fun (u1 : Unit) hu1 => ?_)) | (refine call_rule (qPutFull E x.2.2 (fillR Qv x.1) (hF x.1) (rowQ Qv x.1).2.2 _ _ ⟨⟨rfl, by omega, by have := fillR_len (Qv := Qv) x.1; omega, fillR_ris _, fillR_right _⟩, hc.1, hc.2.1, by have := fillR_len (Qv := Qv) x.1; omega, hc.2.2⟩) [4, 6, 25] rfl (And.intro rfl (And.intro rfl (And.intro rfl True.intro))) rfl (fun (S1 : List (PRow V3)) hS1 => ?_)) | (refine call_rule (qPutY E x.2.2 (fillR Qv x.1) (hF x.1) (rowQ Qv x.1).2.2 _ _ ⟨⟨rfl, by omega, by have := fillR_len (Qv := Qv) x.1; omega, fillR_ris _, fillR_right _⟩, hc.1, hc.2.1, by have := fillR_len (Qv := Qv) x.1; omega, hc.2.2⟩) [4, 6, 25] rfl (And.intro rfl (And.intro rfl (And.intro rfl True.intro))) rfl (fun (S2 : List (PRow V3)) hS2 => ?_))) | (change CallGoal _ 16 _ _ _ _; first | (refine call_rule (sPut E x.2.1 (fillR Qv x.1) (hF x.1) (rowQ Qv x.1).2.2 _ _ ⟨rfl, hc.1, hc.2.1, by omega, by have := fillR_len (Qv := Qv) x.1; omega, room_ins (fillR_right _) hc.2.1 hc.2.2⟩) [3, 5, 25, 2] rfl (And.intro rfl (And.intro rfl (And.intro rfl (And.intro rfl True.intro)))) rfl (fun (S3 : List (PRow Int)) hS3 => ?_)))) | (change JoinGoal _ _ _ _ _ _ _ _; refine join_stop (gmOk E) ?_) | (change HereGoal _ _ _ _ _ _ _; refine here_at 2 rfl ?_; change HereGoal _ _ _ _ _ _ _; refine hereG.poolNil Zz.encI 3 ?_; change HereGoal _ _ _ _ _ _ _; refine hereG.poolNil Zz.encV 34 ?_; change HereGoal _ _ _ _ _ _ _; refine hereG.nilArr encE 37 ?_; change HereGoal _ _ _ _ _ _ _; refine hereG.cells_ 4 [.sl 7 0 0] rfl rfl (fun En V w hp => by have q := says (c := 8) rfl hp; simp only [SV.denL, SV.den] at q ⊢; rw [q]) ?_; change HereGoal _ _ _ _ _ _ _; refine hereG.shut (Γ0 := Gm E) rfl (.cells 70 [.sl 1 ((([] : List EyI), 0)).1.length ((([] : List EyI), 0)).2]) [(1, .arr ((Int × Int) × Hdr) encE 37 (refL [] ((([] : List EyI), 0)).1) ((([] : List EyI), 0)).2)] [4, 7] (And.intro rfl (And.intro rfl True.intro)) rfl ?_; change HereGoal _ _ _ _ _ _ _; refine hereG.hide (X := (List EyI × Nat)) (p := RefOk [] []) (Φ := fun x => grp (Gm E) [(0, .cells 70 [.sl 1 x.1.length x.2]), (1, .arr ((Int × Int) × Hdr) encE 37 (refL [] x.1) x.2)]) 4 ((([] : List EyI), 0)) (⟨rfl, RefV.nil, Nat.le_refl _⟩) rfl ?_; change HereGoal _ _ _ _ _ _ _; refine here_go (gmOk E) ?_) | (change HereGoal _ _ _ _ _ _ _; refine here_at 7 rfl ?_; change HereGoal _ _ _ _ _ _ _; refine hereG.foOut 1 x.1 (rowQ Qv x.1) rfl (rowQ_get (by omega)) ?_; change HereGoal _ _ _ _ _ _ _; refine here_set 8 (.sl 25 (rowQ Qv x.1).2.2.length (rowQ Qv x.1).2.1) rfl (fun _ => by simp only [SV.bd]; omega) (fun En V w hp => (head_den (i := x.1) (rowQ Qv x.1)).trans (says (c := 26) rfl hp).symm) ?_; change HereGoal _ _ _ _ _ _ _; refine here_go (gmOk E) ?_) | (change HereGoal _ _ _ _ _ _ _; refine here_at 10 rfl ?_; change HereGoal _ _ _ _ _ _ _; refine hereG.cells_ 27 [.int .i64 ((x.1 * 7 % 41 : Nat) : Int), .int .i64 1] rfl rfl (fun En V w hp => by simp only [SV.denL, SV.den]; rw [hF_eq]) ?_; change HereGoal _ _ _ _ _ _ _; rcases put_cases (fillR Qv x.1) (hF x.1) (rowQ Qv x.1).2.2 with hc | hc | hc | hc <;> (change HereGoal _ _ _ _ _ _ _; refine here_go (gmOk E) ?_)) | (change @Exists (Nat × List (PRow Int) × List (PRow V3)) (fun _ => updPK _ _ _ _ _ _); first | (have _ := hS3; refine @Exists.intro (Nat × List (PRow Int) × List (PRow V3)) _ (x.1 + 1, x.2.1 ++ S3, x.2.2 ++ S2) ?_) | (have _ := hS1; refine @Exists.intro (Nat × List (PRow Int) × List (PRow V3)) _ (x.1 + 1, x.2.1, x.2.2 ++ S1) ?_) | (have _ := hc; refine @Exists.intro (Nat × List (PRow Int) × List (PRow V3)) _ (x.1 + 1, x.2.1, x.2.2) ?_) | (refine @Exists.intro (Nat × List (PRow Int) × List (PRow V3)) _ (0, [], []) ?_)) | with_reducible rfl | (intro h; first | (exfalso; omega; done) | (exfalso; first | exact h trivial | omega | (rw [longV_at (i := x.1) (by omega) (by omega)] at hlg; cases hlg; done); done) | skip) | (refine And.intro ?_ ?_) | exact True.intro | (refine @Exists.intro Unit _ () ?_) | (refine @Exists.intro (_ = _) _ rfl ?_) | (refine @Exists.intro (List (PRow Int) × List (PRow V3)) _ (x.2.1, x.2.2) ?_) | (change NextGoal _ _ _; refine next_go ?_) | (change LoopGoal _ _ _ _ _ _; refine loop_keep 5 [5, 6, 16, 17] (gmOk E) rfl [2, 7, 10] (X := (Nat × List (PRow Int) × List (PRow V3))) (fun x => [(18, .int .i64 ((x.1 : Nat) : Int))]) (fun x => [(3, .pr (storePr E x.2.1 (fillR Qv x.1))), (5, .pr (poolPr Zz.encI 3 x.2.1)), (4, .pr (refPr E x.2.2 (fillR Qv x.1))), (6, .pr (poolPr Zz.encV 34 x.2.2))]) [] (fun x => x.1 ≤ Qv.length ∧ ∀ j, j < x.1 → (rowQ Qv j).2.2.length ≤ 20) (fun x => Qv.length - x.1) ⟨(0, [], []), ?_⟩ (fun x hI => ?_)) | (change @Exists ((Nat × List (PRow Int) × List (PRow V3))) (fun _ => updPK _ _ _ _ _ _); refine @Exists.intro ((Nat × List (PRow Int) × List (PRow V3))) _ ((0, [], [])) ?_) | (change CallGoal _ _ _ _ _ _; first | (refine call_rule (sNew E []) [] rfl True.intro rfl (fun (y1 : Unit) hy1 => ?_)))
  all_goals first | (dsimp only; first | rfl | omega) | rfl | omega | exact Nat.zero_le _ | (rw [heads_len]; omega) | (show _ < _; rw [heads_len]; omega) | (rw [show x.1 = Qv.length from by omega]; done) | (have e := fillS_yes hc; show Ch.pr (storePr E _ (insR _ _)) = _; rw [← e]; rfl) | (have e := fillS_yes hc; show Ch.pr (refPr E _ (insR _ _)) = _; rw [← e]; rfl) | (have e := fillS_no (R := (fillR Qv x.1)) (hd := hF x.1) (row := (rowQ Qv x.1).2.2) (by intro q; first | (rw [hc] at q; exact absurd q.1 (by decide)) | (rw [hc.2] at q; exact absurd q.2.1 (by decide)) | omega); dsimp only; exact congrArg (fun R => Ch.pr (storePr E _ R)) e.symm) | (have e := fillS_no (R := (fillR Qv x.1)) (hd := hF x.1) (row := (rowQ Qv x.1).2.2) (by intro q; first | (rw [hc] at q; exact absurd q.1 (by decide)) | (rw [hc.2] at q; exact absurd q.2.1 (by decide)) | omega); dsimp only; exact congrArg (fun R => Ch.pr (refPr E _ R)) e.symm) | exact len_next hI.2 (by omega) _ (by assumption)
set_option maxHeartbeats 4000000 in
theorem filled_many (E : Nat → Addr) (Qv : List (PRow V3)) (n k : Nat) (h : n = Qv.length ∧ ¬ Qv.length ≤ 40) : Does (Gm E) 39 ⟨[.sl 0 n k], [(0, .ro Hdr encS (headsV Qv) k), (1, .fo (roPool Zz.encV Qv)), (2, .fo (tzF 10))], 3, 3, Unit, fun _ => True, fun _ => .tup [.nilp, .nilp, .ff], fun _ => []⟩ := by
  obtain ⟨rfl, hl⟩ := h
  refine fn_intro (gmOk E) 45 3 [] Tryz.func39 rfl rfl rfl rfl rfl ?_
  repeat' first | (intro h; first | (exfalso; omega; done) | (exfalso; first | exact h trivial | omega; done) | skip) | (refine And.intro ?_ ?_) | exact True.intro | (refine @Exists.intro Unit _ () ?_) | (refine @Exists.intro (_ = _) _ rfl ?_) | (change CallGoal _ _ _ _ _ _; first | (refine call_rule (sNew E []) [] rfl True.intro rfl (fun (y1 : Unit) hy1 => ?_)))
  all_goals first | rfl | omega
set_option maxHeartbeats 4000000 in
theorem filled_long (E : Nat → Addr) (Qv : List (PRow V3)) (n k : Nat) (h : n = Qv.length ∧ Qv.length ≤ 40 ∧ longV Qv = true) : Does (Gm E) 39 ⟨[.sl 0 n k], [(0, .ro Hdr encS (headsV Qv) k), (1, .fo (roPool Zz.encV Qv)), (2, .fo (tzF 10))], 3, 3, Unit, fun _ => True, fun _ => .tup [.nilp, .nilp, .ff], fun _ => []⟩ := by
  obtain ⟨rfl, hl, hlg⟩ := h
  refine fn_intro (gmOk E) 45 3 [2, 7, 10] Tryz.func39 rfl rfl rfl rfl rfl ?_
  repeat' first | (change CallGoal _ _ _ _ _ _; first | (change CallGoal _ 81 _ _ _ _; first | (refine call_rule (qPutHas E x.2.2 (fillR Qv x.1) (hF x.1) (rowQ Qv x.1).2.2 _ _ ⟨⟨rfl, by omega, by have := fillR_len (Qv := Qv) x.1; omega, fillR_ris _, fillR_right _⟩, hc⟩) [4, 6, 25] rfl (And.intro rfl (And.intro rfl (And.intro rfl True.intro))) rfl (fun (u1 : Unit) hu1 => ?_)) | (refine call_rule (qPutForm E x.2.2 (fillR Qv x.1) (hF x.1) (rowQ Qv x.1).2.2 _ _ ⟨⟨rfl, by omega, by have := fillR_len (Qv := Qv) x.1; omega, fillR_ris _, fillR_right _⟩, hc.1, hc.2⟩) [4, 6, 25] rfl (And.intro rfl (And.intro rfl (And.intro rfl True.intro))) rfl (fun (u1 : Unit) hu1 => ?_)) | (refine call_rule (qPutFull E x.2.2 (fillR Qv x.1) (hF x.1) (rowQ Qv x.1).2.2 _ _ ⟨⟨rfl, by omega, by have := fillR_len (Qv := Qv) x.1; omega, fillR_ris _, fillR_right _⟩, hc.1, hc.2.1, by have := fillR_len (Qv := Qv) x.1; omega, hc.2.2⟩) [4, 6, 25] rfl (And.intro rfl (And.intro rfl (And.intro rfl True.intro))) rfl (fun (S1 : List (PRow V3)) hS1 => ?_)) | (refine call_rule (qPutY E x.2.2 (fillR Qv x.1) (hF x.1) (rowQ Qv x.1).2.2 _ _ ⟨⟨rfl, by omega, by have := fillR_len (Qv := Qv) x.1; omega, fillR_ris _, fillR_right _⟩, hc.1, hc.2.1, by have := fillR_len (Qv := Qv) x.1; omega, hc.2.2⟩) [4, 6, 25] rfl (And.intro rfl (And.intro rfl (And.intro rfl True.intro))) rfl (fun (S2 : List (PRow V3)) hS2 => ?_))) | (change CallGoal _ 16 _ _ _ _; first | (refine call_rule (sPut E x.2.1 (fillR Qv x.1) (hF x.1) (rowQ Qv x.1).2.2 _ _ ⟨rfl, hc.1, hc.2.1, by omega, by have := fillR_len (Qv := Qv) x.1; omega, room_ins (fillR_right _) hc.2.1 hc.2.2⟩) [3, 5, 25, 2] rfl (And.intro rfl (And.intro rfl (And.intro rfl (And.intro rfl True.intro)))) rfl (fun (S3 : List (PRow Int)) hS3 => ?_)))) | (change JoinGoal _ _ _ _ _ _ _ _; refine join_stop (gmOk E) ?_) | (change HereGoal _ _ _ _ _ _ _; refine here_at 2 rfl ?_; change HereGoal _ _ _ _ _ _ _; refine hereG.poolNil Zz.encI 3 ?_; change HereGoal _ _ _ _ _ _ _; refine hereG.poolNil Zz.encV 34 ?_; change HereGoal _ _ _ _ _ _ _; refine hereG.nilArr encE 37 ?_; change HereGoal _ _ _ _ _ _ _; refine hereG.cells_ 4 [.sl 7 0 0] rfl rfl (fun En V w hp => by have q := says (c := 8) rfl hp; simp only [SV.denL, SV.den] at q ⊢; rw [q]) ?_; change HereGoal _ _ _ _ _ _ _; refine hereG.shut (Γ0 := Gm E) rfl (.cells 70 [.sl 1 ((([] : List EyI), 0)).1.length ((([] : List EyI), 0)).2]) [(1, .arr ((Int × Int) × Hdr) encE 37 (refL [] ((([] : List EyI), 0)).1) ((([] : List EyI), 0)).2)] [4, 7] (And.intro rfl (And.intro rfl True.intro)) rfl ?_; change HereGoal _ _ _ _ _ _ _; refine hereG.hide (X := (List EyI × Nat)) (p := RefOk [] []) (Φ := fun x => grp (Gm E) [(0, .cells 70 [.sl 1 x.1.length x.2]), (1, .arr ((Int × Int) × Hdr) encE 37 (refL [] x.1) x.2)]) 4 ((([] : List EyI), 0)) (⟨rfl, RefV.nil, Nat.le_refl _⟩) rfl ?_; change HereGoal _ _ _ _ _ _ _; refine here_go (gmOk E) ?_) | (change HereGoal _ _ _ _ _ _ _; refine here_at 7 rfl ?_; change HereGoal _ _ _ _ _ _ _; refine hereG.foOut 1 x.1 (rowQ Qv x.1) rfl (rowQ_get (by omega)) ?_; change HereGoal _ _ _ _ _ _ _; refine here_set 8 (.sl 25 (rowQ Qv x.1).2.2.length (rowQ Qv x.1).2.1) rfl (fun _ => by simp only [SV.bd]; omega) (fun En V w hp => (head_den (i := x.1) (rowQ Qv x.1)).trans (says (c := 26) rfl hp).symm) ?_; change HereGoal _ _ _ _ _ _ _; refine here_go (gmOk E) ?_) | (change HereGoal _ _ _ _ _ _ _; refine here_at 10 rfl ?_; change HereGoal _ _ _ _ _ _ _; refine hereG.cells_ 27 [.int .i64 ((x.1 * 7 % 41 : Nat) : Int), .int .i64 1] rfl rfl (fun En V w hp => by simp only [SV.denL, SV.den]; rw [hF_eq]) ?_; change HereGoal _ _ _ _ _ _ _; rcases put_cases (fillR Qv x.1) (hF x.1) (rowQ Qv x.1).2.2 with hc | hc | hc | hc <;> (change HereGoal _ _ _ _ _ _ _; refine here_go (gmOk E) ?_)) | (change @Exists (Nat × List (PRow Int) × List (PRow V3)) (fun _ => updPK _ _ _ _ _ _); first | (have _ := hS3; refine @Exists.intro (Nat × List (PRow Int) × List (PRow V3)) _ (x.1 + 1, x.2.1 ++ S3, x.2.2 ++ S2) ?_) | (have _ := hS1; refine @Exists.intro (Nat × List (PRow Int) × List (PRow V3)) _ (x.1 + 1, x.2.1, x.2.2 ++ S1) ?_) | (have _ := hc; refine @Exists.intro (Nat × List (PRow Int) × List (PRow V3)) _ (x.1 + 1, x.2.1, x.2.2) ?_) | (refine @Exists.intro (Nat × List (PRow Int) × List (PRow V3)) _ (0, [], []) ?_)) | with_reducible rfl | (intro h; first | (exfalso; omega; done) | (exfalso; first | exact h trivial | omega | (rw [longV_no (fun j hj => by have := hI.2 j (by omega); omega)] at hlg; cases hlg; done); done) | skip) | (refine And.intro ?_ ?_) | exact True.intro | (refine @Exists.intro Unit _ () ?_) | (refine @Exists.intro (_ = _) _ rfl ?_) | (change NextGoal _ _ _; refine next_go ?_) | (change LoopGoal _ _ _ _ _ _; refine loop_keep 5 [5, 6, 16, 17] (gmOk E) rfl [2, 7, 10] (X := (Nat × List (PRow Int) × List (PRow V3))) (fun x => [(18, .int .i64 ((x.1 : Nat) : Int))]) (fun x => [(3, .pr (storePr E x.2.1 (fillR Qv x.1))), (5, .pr (poolPr Zz.encI 3 x.2.1)), (4, .pr (refPr E x.2.2 (fillR Qv x.1))), (6, .pr (poolPr Zz.encV 34 x.2.2))]) [] (fun x => x.1 ≤ Qv.length ∧ ∀ j, j < x.1 → (rowQ Qv j).2.2.length ≤ 20) (fun x => Qv.length - x.1) ⟨(0, [], []), ?_⟩ (fun x hI => ?_)) | (change @Exists ((Nat × List (PRow Int) × List (PRow V3))) (fun _ => updPK _ _ _ _ _ _); refine @Exists.intro ((Nat × List (PRow Int) × List (PRow V3))) _ ((0, [], [])) ?_) | (change CallGoal _ _ _ _ _ _; first | (refine call_rule (sNew E []) [] rfl True.intro rfl (fun (y1 : Unit) hy1 => ?_)))
  all_goals first | (dsimp only; first | rfl | omega) | rfl | omega | exact Nat.zero_le _ | (rw [heads_len]; omega) | (show _ < _; rw [heads_len]; omega) | (have e := fillS_yes hc; show Ch.pr (storePr E _ (insR _ _)) = _; rw [← e]; rfl) | (have e := fillS_yes hc; show Ch.pr (refPr E _ (insR _ _)) = _; rw [← e]; rfl) | (have e := fillS_no (R := (fillR Qv x.1)) (hd := hF x.1) (row := (rowQ Qv x.1).2.2) (by intro q; first | (rw [hc] at q; exact absurd q.1 (by decide)) | (rw [hc.2] at q; exact absurd q.2.1 (by decide)) | omega); dsimp only; exact congrArg (fun R => Ch.pr (storePr E _ R)) e.symm) | (have e := fillS_no (R := (fillR Qv x.1)) (hd := hF x.1) (row := (rowQ Qv x.1).2.2) (by intro q; first | (rw [hc] at q; exact absurd q.1 (by decide)) | (rw [hc.2] at q; exact absurd q.2.1 (by decide)) | omega); dsimp only; exact congrArg (fun R => Ch.pr (refPr E _ R)) e.symm) | exact len_next hI.2 (by omega) _ (by assumption) | (exfalso; rw [longV_no (fun j hj => by have := hI.2 j (by omega); omega)] at hlg; cases hlg)
end Go.Proofs.YtcnbngiplfoomaaGreatDoor
namespace Go.Proofs.YtcnbngiplfoomaaGreatDoor
open Go.Zz Go.Px
set_option linter.unusedVariables false
set_option linter.unusedSectionVars false
set_option linter.unusedSimpArgs false
set_option maxRecDepth 10000
set_option maxHeartbeats 4000000 in
theorem sortedU_z (E : Nat → Addr) (L : List (Int × Option Nat)) (h : L.length ≤ 49) : Does (Gm E) 66 ⟨[.fn 108 [.ptr 0 0]], [(0, .cells 104 [.mp 1]), (1, .pr (mapPr veU veP L))], 2, 3, List Int × Nat, fun x => (x.1.Perm (L.map (·.1)) ∧ OrdI x.1 0 x.1.length) ∧ x.1.length ≤ x.2, fun x => .sl 2 x.1.length x.2, fun x => [(0, .cells 104 [.mp 1]), (1, .pr (mapPr veU veP L)), (2, .arr Int encU 56 x.1 x.2)]⟩ := by
  refine fn_intro (gmOk E) 9 2 [] Tryz.func66 rfl rfl rfl rfl rfl ?_
  repeat' first | (intro h; first | (exfalso; omega; done) | skip) | (refine And.intro ?_ ?_) | exact True.intro | (refine @Exists.intro Unit _ () ?_) | (refine @Exists.intro (_ = _) _ rfl ?_) | (refine @Exists.intro (List Int × Nat) _ (c, x.2) ?_) | (change CallGoal _ _ _ _ _ _; first | (refine call_rule (collU_z E L (by omega)) [0, 1] rfl (And.intro rfl (And.intro rfl True.intro)) rfl (fun (x : List Int × Nat) (hx : x.1.Perm (L.map (·.1)) ∧ x.1.length ≤ x.2) => ?_)) | (refine call_rule (sortU_z E x.1 _ x.2 ⟨rfl, by have q := hx.1.length_eq; rw [List.length_map] at q; omega⟩) [2] rfl (And.intro rfl True.intro) rfl (fun (c : List Int) hc => ?_)))
  all_goals first | rfl | omega | exact hc.1.trans hx.1 | (have q := hc.1.length_eq; exact q ▸ hc.2) | (rw [hc.1.length_eq]; first | exact hc.2 | exact hx.2) | exact hc.1.length_eq.symm
set_option maxHeartbeats 4000000 in
theorem sMasksA (E : Nat → Addr) (Q : List (PRow Int)) (R : List Ey) (h : (masksR R).length ≤ 49) : Does (Gm E) 20 ⟨[.ptr 0 0], [(0, .pr (storePr E Q R))], 1, 2, Nat, fun q => (masksR R).length ≤ q, fun q => .sl 1 (masksR R).length q, fun q => [(0, .pr (storePr E Q R)), (1, .arr Int encU 56 (masksR R) q)]⟩ := by
  rename _ ≤ 49 => hm
  refine DoesC.does (fn_start Tryz.func20 rfl rfl rfl ?_)
  change EntryGoal _ _ _ _ _
  refine entryG.ex 0 rfl (fun x hx => ?_)
  change EntryGoal _ _ _ _ _
  refine entryG.open_ 0 rfl 5 rfl rfl ?_
  change EntryGoal _ _ _ _ _
  refine entry_go (gmOk E) 9 1 [] Tryz.func20 rfl rfl rfl rfl ?_
  repeat' first | (change RetGoal _ _ _ _ _; first | (have hc := hx.masks (hy.1.1.trans (by rw [show ((ptrL (x.1.map (fun y : Int × List Ey => y.1)) x.2.2.2).map (·.1)) = _ from ptrL_keys])) hy.1.2; refine retG'.cast 7 (.arr Int encU 56 (masksR R) y.2) rfl (by rw [hc]) ?_; change RetGoal _ _ _ _ _; (refine retG'.shut (Γ0 := Gm E) rfl (.cells 108 [.mp 1, .mp 2, .mp 3]) [(1, .pr (mapPr veU veP (ptrL ((x).1.map (fun y : Int × List Ey => y.1)) (x).2.2.2))), (2, .pr (mapPr (Enc.ag (Zz.encP Zz.encI Zz.encI)) vePl (placL (x).2.1 (x).2.2.2))), (3, .pr (mapPr (Enc.ag (Zz.encP encU Zz.encI)) veU (x).2.2.1)), (4, .pr (restPr (tabP E Q) (tabL (x).1) (x).2.2.2))] [0, 2, 3, 4, 5] (And.intro rfl (And.intro rfl (And.intro rfl (And.intro rfl (And.intro rfl True.intro))))) rfl ?_; change RetGoal _ _ _ _ _; refine retG'.hide (X := XT) (p := XOk R) (Φ := fun x => grp (Gm E) (stoH E Q x)) 0 (x) (hx) rfl ?_; change RetGoal _ _ _ _ _; refine ret_done rfl ?_))) | (intro h; first | (exfalso; omega; done) | skip) | (refine And.intro ?_ ?_) | exact True.intro | (refine @Exists.intro Unit _ () ?_) | (refine @Exists.intro (_ = _) _ rfl ?_) | (refine @Exists.intro (Nat) _ ?_ ?_; rotate_left) | (change CallGoal _ _ _ _ _ _; first | (refine call_rule (keysU_z E (ptrL (x.1.map (fun y : Int × List Ey => y.1)) x.2.2.2)) [2] rfl (And.intro rfl True.intro) rfl (fun y1 hy1 => ?_)) | (refine call_rule (sortedU_z E (ptrL (x.1.map (fun y : Int × List Ey => y.1)) x.2.2.2) (by rw [keys_len, hx.tlen]; exact hm)) [6, 2] rfl (And.intro rfl (And.intro rfl True.intro)) rfl (fun (y : List Int × Nat) hy => ?_)))
  all_goals first | rfl | omega | (rw [hc]; done) | (have q := hy.2; rw [hc] at q; exact q)
end Go.Proofs.YtcnbngiplfoomaaGreatDoor
namespace Go.Proofs.YtcnbngiplfoomaaGreatDoor
open Go.Zz Go.Px
set_option linter.unusedVariables false
set_option linter.unusedSectionVars false
set_option linter.unusedSimpArgs false
set_option maxRecDepth 10000
section
variable {Qv : List (PRow V3)} {n i : Nat} {R : List Ey} {h : Hd} {m : Int}
theorem mem_inR : h ∈ inR R m ↔ ∃ r, (h, r) ∈ R ∧ mkI r = m := by
  unfold inR
  simp only [List.mem_map, List.mem_filter, decide_eq_true_eq]
  constructor
  · rintro ⟨e, ⟨h1, h2⟩, rfl⟩; exact ⟨e.2, h1, h2⟩
  · rintro ⟨r, h1, h2⟩; exact ⟨(h, r), ⟨h1, h2⟩, rfl⟩
theorem any_mask (hR : ∀ e ∈ R, rightV e.2 = true) (hi : i < (masksR R).length) : anyM R ((masksR R).getD i 0) = true := by
  have h1 : (masksR R).getD i 0 ∈ masksR R := by rw [List.getD_eq_getElem?_getD, List.getElem?_eq_getElem hi]; exact List.getElem_mem _
  obtain ⟨e, he, q⟩ := (mem_masksR hR).1 h1
  unfold anyM; exact List.any_eq_true.2 ⟨e, he, by simpa using q⟩
theorem inR_len : (inR R m).length ≤ R.length := by unfold inR; rw [List.length_map]; exact List.length_filter_le _ _
end
end Go.Proofs.YtcnbngiplfoomaaGreatDoor
namespace Go.Proofs.YtcnbngiplfoomaaGreatDoor
open Go.Zz Go.Px
set_option linter.unusedVariables false
set_option linter.unusedSectionVars false
set_option linter.unusedSimpArgs false
set_option maxRecDepth 10000
section
variable {R : List Ey} {w x M : Nat} {i : Nat} {h : Hd}
def fitsN (M w x : Nat) : Bool := decide (lessN w M = 0) && decide (M &&& x = 0)
def qR (R : List Ey) (w x : Nat) : List (Int × Int) := (R.filter fun e => fitsN (maskN e.2) w x).map fun e => e.1
def accH (R : List Ey) (w x : Nat) (i : Nat) : List (Int × Int) := ((masksR R).take i).flatMap fun m => if fitsN m.toNat w x = true then inR R m else []
theorem accH_next (hi : i < (masksR R).length) : accH R w x (i + 1) = accH R w x i ++ (if fitsN ((masksR R).getD i 0).toNat w x = true then inR R ((masksR R).getD i 0) else []) := by
  unfold accH; rw [take_snoc (d := 0) hi, List.flatMap_append]; simp
theorem accH_len : (accH R w x i).length ≤ i * R.length := by
  induction i with
  | zero => simp [accH]
  | succ i ih =>
    by_cases hi : i < (masksR R).length
    · rw [accH_next hi, List.length_append, Nat.succ_mul]
      have : (if fitsN ((masksR R).getD i 0).toNat w x = true then inR R ((masksR R).getD i 0) else []).length ≤ R.length := by
        split
        · exact inR_len
        · simp
      omega
    · unfold accH at ih ⊢
      rw [List.take_of_length_le (by omega)] at ih ⊢
      rw [Nat.succ_mul]; omega
theorem mask_nat (hr : ∀ e ∈ R, rightV e.2 = true) (hi : i < (masksR R).length) : ∃ M : Nat, (masksR R).getD i 0 = (M : Int) ∧ anyM R (M : Int) = true ∧ M < 1024 := by
  have h1 : (masksR R).getD i 0 ∈ masksR R := by rw [List.getD_eq_getElem?_getD, List.getElem?_eq_getElem hi]; exact List.getElem_mem _
  obtain ⟨e, he, q⟩ := (mem_masksR hr).1 h1
  refine ⟨maskN e.2, q.symm, ?_, maskN_lt (right_kinds (hr e he))⟩
  unfold anyM; exact List.any_eq_true.2 ⟨e, he, by simp [mkI]⟩
theorem qR_rises (hs : Rises ltE R) : Rises ltH (qR R w x) := by
  unfold qR Rises; exact List.Pairwise.map _ (fun a b h => h) (List.Pairwise.filter _ hs)
theorem qR_eq (hs : Rises ltE R) (hr : ∀ e ∈ R, rightV e.2 = true) (hi : ¬ i < (masksR R).length) : ordS ltH (accH R w x i) = qR R w x := by
  refine Rises.ext ordH (ordS_rises ordH _) (qR_rises hs) fun h => ?_
  rw [mem_ordS]
  unfold accH qR
  rw [List.take_of_length_le (by omega), List.mem_flatMap]
  simp only [List.mem_map, List.mem_filter]
  constructor
  · rintro ⟨m, hm, q⟩
    split at q
    · rename_i hf
      obtain ⟨r, h1, h2⟩ := mem_inR.1 q
      refine ⟨(h, r), ⟨h1, ?_⟩, rfl⟩
      rw [← h2] at hf; exact hf
    · cases q
  · rintro ⟨e, ⟨h1, h2⟩, rfl⟩
    exact ⟨mkI e.2, (mem_masksR hr).2 ⟨e, h1, rfl⟩, by rw [if_pos (show fitsN (mkI e.2).toNat w x = true from h2)]; exact mem_inR.2 ⟨e.2, h1, rfl⟩⟩
theorem qR_len : (qR R w x).length ≤ R.length := by unfold qR; rw [List.length_map]; exact List.length_filter_le _ _
end
set_option maxHeartbeats 4000000 in
theorem holds_z (E : Nat → Addr) (M w : Nat) (h : M < 2 ^ 64 ∧ w < 2 ^ 64) : Does (Gm E) 129 (Sp0 [.int .u64 ((M : Nat) : Int), .int .u64 ((w : Nat) : Int)] [] 0 (.bl (decide (lessN w M = 0)))) := by
  refine fn_intro (gmOk E) 9 0 [] Tryz.func129 rfl rfl rfl rfl rfl ?_
  repeat' first | (intro h; first | (exfalso; omega; done) | skip) | (refine And.intro ?_ ?_) | exact True.intro | (refine @Exists.intro Unit _ () ?_) | (refine @Exists.intro (_ = _) _ rfl ?_)
  all_goals first | rfl | omega | (rw [bitI_less h.2 h.1]; exact decide_eq_decide.2 (by omega))
set_option maxHeartbeats 4000000 in
theorem meets_z (E : Nat → Addr) (M x : Nat) (h : M < 2 ^ 64 ∧ x < 2 ^ 64) : Does (Gm E) 130 (Sp0 [.int .u64 ((M : Nat) : Int), .int .u64 ((x : Nat) : Int)] [] 0 (.bl (!decide (M &&& x = 0)))) := by
  refine fn_intro (gmOk E) 9 0 [] Tryz.func130 rfl rfl rfl rfl rfl ?_
  repeat' first | (intro h; first | (exfalso; omega; done) | skip) | (refine And.intro ?_ ?_) | exact True.intro | (refine @Exists.intro Unit _ () ?_) | (refine @Exists.intro (_ = _) _ rfl ?_)
  all_goals first | rfl | omega | (rw [bitI_and h.1 h.2, ← decide_not]; exact decide_eq_decide.2 (by omega))
set_option maxHeartbeats 4000000 in
theorem fits_z (E : Nat → Addr) (M w x : Nat) (h : M < 2 ^ 64 ∧ w < 2 ^ 64 ∧ x < 2 ^ 64) : Does (Gm E) 92 (Sp0 [.int .u64 ((M : Nat) : Int), .int .u64 ((w : Nat) : Int), .int .u64 ((x : Nat) : Int)] [] 0 (.bl (fitsN M w x))) := by
  have h0 := h
  refine fn_intro (gmOk E) 16 0 [] Tryz.func92 rfl rfl rfl rfl rfl ?_
  repeat' first | (intro h; first | (exfalso; omega; done) | skip) | (refine And.intro ?_ ?_) | exact True.intro | (refine @Exists.intro Unit _ () ?_) | (refine @Exists.intro (_ = _) _ rfl ?_) | (change CallGoal _ _ _ _ _ _; first | (refine call0 (holds_z E M w ⟨h0.1, h0.2.1⟩) [] rfl True.intro rfl ?_) | (refine call0 (meets_z E M x ⟨h0.1, h0.2.2⟩) [] rfl True.intro rfl ?_))
  all_goals first | rfl | omega | (unfold fitsN; simp_all; done)
theorem acc_bd {R : List Ey} {w x i : Nat} (hi : i ≤ 49) (hR : R.length ≤ 128) : (accH R w x i).length ≤ 6272 := Nat.le_trans accH_len (Nat.mul_le_mul hi hR)
theorem acc_yes {R : List Ey} {w x i M : Nat} (hi : i < (masksR R).length) (hM : (masksR R).getD i 0 = (M : Int)) (hf : fitsN M w x = true) : accH R w x (i + 1) = accH R w x i ++ inR R (M : Int) := by rw [accH_next hi, hM, Int.toNat_natCast, if_pos hf]
theorem acc_no {R : List Ey} {w x i M : Nat} (hi : i < (masksR R).length) (hM : (masksR R).getD i 0 = (M : Int)) (hf : fitsN M w x = false) : accH R w x (i + 1) = accH R w x i := by rw [accH_next hi, hM, Int.toNat_natCast, if_neg (by rw [hf]; simp), List.append_nil]
set_option maxHeartbeats 4000000 in
theorem qHandles (E : Nat → Addr) (Q : List (PRow Int)) (R : List Ey) (w x : Nat) (h : (w < 2 ^ 64 ∧ x < 2 ^ 64) ∧ (R.length ≤ 128 ∧ (masksR R).length ≤ 49) ∧ Rises ltE R ∧ ∀ e ∈ R, rightV e.2 = true) : Does (Gm E) 42 ⟨[.agg [.int .u64 ((w : Nat) : Int), .int .u64 ((x : Nat) : Int)], .ptr 0 0], [(0, .pr (storePr E Q R))], 1, 2, Nat, fun q => (qR R w x).length ≤ q, fun q => .sl 1 (qR R w x).length q, fun q => [(0, .pr (storePr E Q R)), (1, .arr (Int × Int) (Zz.encP Zz.encI Zz.encI) 28 (qR R w x) q)]⟩ := by
  obtain ⟨hw, hR, hs, hr⟩ := h
  refine fn_intro (gmOk E) 29 1 [2, 5] Tryz.func42 rfl rfl rfl rfl rfl ?_
  repeat' first | (change CallGoal _ _ _ _ _ _; first | (change CallGoal _ 20 _ _ _ _; first | (refine call_rule (sMasksA E Q R hR.2) [0] rfl (And.intro rfl True.intro) rfl (fun (q1 : Nat) hq1 => ?_))) | (change CallGoal _ 28 _ _ _ _; first | (refine call_rule (sInY E Q R ((M : Nat) : Int) hany) [0] rfl (And.intro rfl True.intro) rfl (fun (q2 : Nat) hq2 => ?_))) | (change CallGoal _ 76 _ _ _ _; first | (refine call_rule (handles_z E (accH R w x y.1) _ y.2 ⟨rfl, by have := acc_bd (w := w) (x := x) (i := y.1) (by omega) hR.1; omega⟩) [2] rfl (And.intro rfl True.intro) rfl (fun (q3 : Nat) hq3 => ?_)))) | (change JoinGoal _ _ _ _ _ _ _ _; refine join_stop (gmOk E) ?_) | (change HereGoal _ _ _ _ _ _ _; refine here_at 2 rfl ?_; change HereGoal _ _ _ _ _ _ _; refine hereG.nilArr (Zz.encP Zz.encI Zz.encI) 28 ?_; change HereGoal _ _ _ _ _ _ _; refine here_set 5 (.sl 2 0 0) rfl (fun _ => by simp only [SV.bd]; omega) (fun En V w hp => by have q := says (c := 3) rfl hp; simp only [SV.denL, SV.den] at q ⊢; rw [q]) ?_; change HereGoal _ _ _ _ _ _ _; refine hereG.drop 3 ?_; change HereGoal _ _ _ _ _ _ _; refine here_go (gmOk E) ?_) | (change HereGoal _ _ _ _ _ _ _; refine here_at 5 rfl ?_; change HereGoal _ _ _ _ _ _ _; (obtain ⟨M, hM, hany, hlt⟩ := mask_nat hr (i := y.1) (by omega)); change HereGoal _ _ _ _ _ _ _; refine here_set 7 (.int .u64 ((M : Nat) : Int)) rfl (fun _ => trivial) (fun En V w hp => by simp only [SV.den]; exact congrArg (fun z => Value.int .u64 z) hM) ?_; change HereGoal _ _ _ _ _ _ _; refine here_go (gmOk E) ?_) | with_reducible rfl | (intro h; first | (exfalso; omega; done) | (exfalso; omega; done) | skip) | (refine And.intro ?_ ?_) | exact True.intro | (refine @Exists.intro Unit _ () ?_) | (refine @Exists.intro (_ = _) _ rfl ?_) | (change NextGoal _ _ _; refine next_go ?_) | (change LoopGoal _ _ _ _ _ _; refine loop_keep 3 [1, 2, 4, 9, 10] (gmOk E) rfl [2, 5] (X := (Nat × Nat)) (fun y => [(11, .int .i64 ((y.1 : Nat) : Int)), (5, .sl 2 (accH R w x y.1).length y.2)]) (fun y => [(2, .arr (Int × Int) (Zz.encP Zz.encI Zz.encI) 28 (accH R w x y.1) y.2)]) [] (fun y => y.1 ≤ (masksR R).length ∧ (accH R w x y.1).length ≤ y.2) (fun y => (masksR R).length - y.1) ⟨(0, 0), ?_⟩ (fun y hI => ?_)) | (change @Exists ((Nat × Nat)) (fun _ => updPK _ _ _ _ _ _); refine @Exists.intro ((Nat × Nat)) _ ((y.1 + 1, ?_)) ?_; rotate_left 1) | (refine @Exists.intro (Nat) _ ?_ ?_; rotate_left) | (change CallGoal _ _ _ _ _ _; first | (refine call0 (fits_z E M w x ⟨by omega, hw.1, hw.2⟩) [] rfl True.intro rfl ?_))
  all_goals first
| (dsimp only; first | rfl | omega)
| rfl
| omega
| exact Nat.zero_le _
| (have q := acc_bd (w := w) (x := x) (i := y.1) (by omega) hR.1; have q4 := inR_len (R := R) (m := (M : Int)); first | omega | (change _ * 16 ≤ _; omega))
| (dsimp only; rw [acc_no (by omega) hM (by assumption)]; done)
| (dsimp only; rw [acc_yes (by omega) hM (by assumption), List.length_append]; done)
| (dsimp only; rw [acc_yes (by omega) hM (by assumption), List.take_length, List.take_length]; done)
| (rw [qR_eq hs hr (i := y.1) (by omega)]; done)
| (rw [qR_eq hs hr (i := y.1) (by omega)] at hq3; exact hq3)
| exact hI.2
| (dsimp only; rw [acc_no (by omega) hM (by assumption)]; exact hI.2)
| (refine Nat.le_trans (Nat.le_of_eq ?_) (by assumption); dsimp only; rw [acc_yes (by omega) hM (by assumption), List.length_append])
end Go.Proofs.YtcnbngiplfoomaaGreatDoor
namespace Go.Proofs.YtcnbngiplfoomaaGreatDoor
open Go.Zz Go.Px
set_option linter.unusedVariables false
set_option linter.unusedSectionVars false
set_option linter.unusedSimpArgs false
set_option maxRecDepth 10000
set_option maxHeartbeats 4000000 in
theorem qCount (E : Nat → Addr) (Q : List (PRow Int)) (R : List Ey) (w x : Nat) (h : (w < 2 ^ 64 ∧ x < 2 ^ 64) ∧ (R.length ≤ 128 ∧ (masksR R).length ≤ 49) ∧ Rises ltE R ∧ ∀ e ∈ R, rightV e.2 = true) : Does (Gm E) 44 ⟨[.agg [.int .u64 ((w : Nat) : Int), .int .u64 ((x : Nat) : Int)], .ptr 0 0], [(0, .pr (storePr E Q R))], 1, 1, Unit, fun _ => True, fun _ => .int .i64 (((qR R w x).length : Nat) : Int), fun _ => [(0, .pr (storePr E Q R))]⟩ := by
  refine fn_intro (gmOk E) 9 1 [] Tryz.func44 rfl rfl rfl rfl rfl ?_
  repeat' first | (intro h; first | (exfalso; omega; done) | skip) | (refine And.intro ?_ ?_) | exact True.intro | (refine @Exists.intro Unit _ () ?_) | (refine @Exists.intro (_ = _) _ rfl ?_) | (change CallGoal _ _ _ _ _ _; first | (refine call_rule (qHandles E Q R w x h) [0] rfl (And.intro rfl True.intro) rfl (fun (q : Nat) hq => ?_)))
  all_goals first | rfl | omega
set_option maxHeartbeats 4000000 in
theorem qBoth (E : Nat → Addr) (w x a b : Nat) (h : (w < 2 ^ 64 ∧ x < 2 ^ 64) ∧ a < 2 ^ 64 ∧ b < 2 ^ 64) : Does (Gm E) 46 (Sp0 [.agg [.int .u64 ((w : Nat) : Int), .int .u64 ((x : Nat) : Int)], .agg [.int .u64 ((a : Nat) : Int), .int .u64 ((b : Nat) : Int)]] [] 0 (.agg [.int .u64 (((w ||| a) : Nat) : Int), .int .u64 (((x ||| b) : Nat) : Int)])) := by
  refine fn_intro (gmOk E) 16 0 [] Tryz.func46 rfl rfl rfl rfl rfl ?_
  repeat' first | (intro h; first | (exfalso; omega; done) | skip) | (refine And.intro ?_ ?_) | exact True.intro | (refine @Exists.intro Unit _ () ?_) | (refine @Exists.intro (_ = _) _ rfl ?_)
  all_goals first | rfl | omega | exact bitI_or h.1.1 h.2.1 | exact bitI_or h.1.2 h.2.2 | exact (bitI_or h.1.1 h.2.1).symm | exact (bitI_or h.1.2 h.2.2).symm
set_option maxHeartbeats 4000000 in
theorem qFits (E : Nat → Addr) (row : Rw) (n k w x : Nat) (h : (n = row.length ∧ row.length ≤ 1000000 ∧ ∀ v ∈ row, 0 ≤ v.k ∧ v.k ≤ 9) ∧ w < 2 ^ 64 ∧ x < 2 ^ 64) : Does (Gm E) 48 (Sp0 [.agg [.int .u64 ((w : Nat) : Int), .int .u64 ((x : Nat) : Int)], .sl 0 n k] [(0, .ro V3 Zz.encV row k)] 1 (.bl (fitsN (maskN row) w x))) := by
  obtain ⟨⟨rfl, hm, hk⟩, hw⟩ := h; have h64 : maskN row < 2 ^ 64 := Nat.lt_trans (maskN_lt hk) (by decide)
  refine fn_intro (gmOk E) 12 1 [] Tryz.func48 rfl rfl rfl rfl rfl ?_
  repeat' first | (intro h; first | (exfalso; omega; done) | skip) | (refine And.intro ?_ ?_) | exact True.intro | (refine @Exists.intro Unit _ () ?_) | (refine @Exists.intro (_ = _) _ rfl ?_) | (change DrawGoal _ _ _ _ _ _; first | (change DrawGoal _ _ _ ({ dst := some 5, op := _, type := _, pos := _, after := _, guard := _ } :: _) _ _; refine draw_tree (gmOk E) [0, 1] (.leaf [(0, true), (2, true), (3, true), (4, true), (5, true), (1, false), (6, false), (7, true)]) (by kernel_rfl) ?_)) | (change CallGoal _ _ _ _ _ _; first | (refine call0 (mask_z E row _ k ⟨rfl, hm, hk⟩) [0] rfl (And.intro rfl True.intro) rfl ?_) | (refine call0 (fits_z E (maskN row) w x ⟨h64, hw⟩) [] rfl True.intro rfl ?_))
  all_goals first | rfl | omega
set_option maxHeartbeats 4000000 in
theorem qOf (E : Nat → Addr) (l m : List Int) (n k n2 k2 : Nat) (h : (n = l.length ∧ n2 = m.length) ∧ (kindsOk l = true ∧ kindsOk m = true) ∧ l.length ≤ 1000000 ∧ m.length ≤ 1000000) : Does (Gm E) 45 (Sp0 [.sl 0 n k, .sl 1 n2 k2] [(0, .ro Int Zz.encI l k), (1, .ro Int Zz.encI m k2)] 2 (.tup [.agg [.int .u64 (((maskI l) : Nat) : Int), .int .u64 (((maskI m) : Nat) : Int)], .nili])) := by
  obtain ⟨⟨rfl, rfl⟩, ⟨hl, hm⟩, h1, h2⟩ := h
  refine Does.back (a := false) (b := true) (fn_intro ((gmOk E).way false true) 40 2 [] Tryz.func45 rfl rfl rfl rfl rfl ?_)
  repeat' first | (intro h; first | (exfalso; omega; done) | (exfalso; first | exact h trivial | omega; done) | skip) | (refine And.intro ?_ ?_) | exact True.intro | (refine @Exists.intro Unit _ () ?_) | (refine @Exists.intro (_ = _) _ rfl ?_) | (change LoopGoal _ _ _ _ _ _; refine loop_rounds ((gmOk E).way false true) [] 3 ?_) | (change CallGoal _ _ _ _ _ _; first | (refine call0 (Does.way (mof_ok E l _ k ⟨rfl, hl, h1⟩) false true) [0] rfl (And.intro rfl True.intro) rfl ?_) | (refine call0 (Does.way (mof_ok E m _ k2 ⟨rfl, hm, h2⟩) false true) [1] rfl (And.intro rfl True.intro) rfl ?_))
  all_goals first | rfl | omega
theorem al_1 : maskI [0] = 1 ∧ maskI [1] = 2 := by decide
theorem al_2 : fitsN (maskN [⟨0, 0, 0⟩]) (maskI [0]) (maskI [1]) = true := by decide
theorem al_3 : fitsN (maskN [⟨0, 0, 0⟩, ⟨1, 0, 0⟩]) (maskI [0]) (maskI [1]) = false := by decide
set_option maxHeartbeats 4000000 in
theorem alive9_z (E : Nat → Addr)  : Does (Gm E) 38 (Sp0 [] [] 0 .tt) := by
  refine fn_intro (gmOk E) 30 0 [] Tryz.func38 rfl rfl rfl rfl rfl ?_
  repeat' first | (intro h; first | (exfalso; omega; done) | (exfalso; first | exact h trivial | omega | exact h al_2 | (rw [al_2] at h; cases h; done) | (rw [al_3] at h; cases h; done) | (rw [al_1.1, al_1.2] at h; exact h ⟨rfl, rfl⟩) | (have q1 := al_1.1; have q2 := al_1.2; rw [q1, q2] at h; omega); done) | skip) | (refine And.intro ?_ ?_) | exact True.intro | (refine @Exists.intro Unit _ () ?_) | (refine @Exists.intro (_ = _) _ rfl ?_) | (change CallGoal _ _ _ _ _ _; first | (refine call0 (qOf E [0] [1] _ _ _ _ ⟨⟨rfl, rfl⟩, ⟨rfl, rfl⟩, by decide, by decide⟩) [0, 1] rfl (And.intro rfl (And.intro rfl True.intro)) rfl ?_) | (refine call0 (qFits E [⟨0, 0, 0⟩] _ _ (maskI [0]) (maskI [1]) ⟨⟨rfl, by decide, by decide⟩, by decide, by decide⟩) [3] rfl (And.intro rfl True.intro) rfl ?_) | (refine call0 (qFits E [⟨0, 0, 0⟩, ⟨1, 0, 0⟩] _ _ (maskI [0]) (maskI [1]) ⟨⟨rfl, by decide, by decide⟩, by decide, by decide⟩) [4] rfl (And.intro rfl True.intro) rfl ?_))
  all_goals first | rfl | omega
end Go.Proofs.YtcnbngiplfoomaaGreatDoor
namespace Go.Proofs.YtcnbngiplfoomaaGreatDoor
open Go.Zz Go.Px
set_option linter.unusedVariables false
set_option linter.unusedSectionVars false
set_option linter.unusedSimpArgs false
set_option maxRecDepth 10000
section
variable {R : List Ey} {w b x M : Nat} {h : Hd}
theorem qR_mem : h ∈ qR R w x ↔ ∃ r, (h, r) ∈ R ∧ fitsN (maskN r) w x = true := by
  unfold qR
  simp only [List.mem_map, List.mem_filter]
  constructor
  · rintro ⟨e, ⟨h1, h2⟩, rfl⟩; exact ⟨e.2, h1, h2⟩
  · rintro ⟨r, h1, h2⟩; exact ⟨(h, r), ⟨h1, h2⟩, rfl⟩
theorem kd_in (kd : Int) : 0 ≤ (IntKind.u64.wrap kd).tmod 10 ∧ (IntKind.u64.wrap kd).tmod 10 ≤ 9 := by
  have e := wrap_lo kd
  rw [Int.tmod_eq_emod_of_nonneg e]; omega
end
end Go.Proofs.YtcnbngiplfoomaaGreatDoor
namespace Go.Proofs.YtcnbngiplfoomaaGreatDoor
open Go.Zz Go.Px
set_option linter.unusedVariables false
set_option linter.unusedSectionVars false
set_option linter.unusedSimpArgs false
set_option maxRecDepth 10000
section
variable {R : List Ey} {w b x M : Nat} {h : Hd} {k : Int}
theorem mz : maskI [] = 0 := rfl
theorem fits_with (hk : 0 ≤ k ∧ k ≤ 9) (hM : M < 2 ^ 64) : fitsN M (maskI [k]) (maskI []) = M.testBit k.toNat := by
  rw [maskI_one k, mz]
  unfold fitsN lessN
  rw [Bool.eq_iff_iff, Bool.and_eq_true, decide_eq_true_eq, decide_eq_true_eq]
  constructor
  · rintro ⟨h1, _⟩
    have := congrArg (fun q => Nat.testBit q k.toNat) h1
    simp only [Nat.testBit_and, bitN, Nat.testBit_two_pow_self, Bool.true_and, Nat.zero_testBit] at this
    have h64 : k.toNat < 64 := by omega
    rw [show 2 ^ 64 - 1 - M = 2 ^ 64 - (M + 1) by omega, Nat.testBit_two_pow_sub_succ hM] at this
    simp [h64] at this; exact this
  · intro h1
    refine ⟨?_, by simp⟩
    apply Nat.eq_of_testBit_eq
    intro i
    rw [Nat.testBit_and, bitN, Nat.testBit_two_pow, Nat.zero_testBit, show 2 ^ 64 - 1 - M = 2 ^ 64 - (M + 1) by omega, Nat.testBit_two_pow_sub_succ hM]
    by_cases e : k.toNat = i
    · subst e; simp [h1]
    · simp [e]
theorem fits_wout (hk : 0 ≤ k ∧ k ≤ 9) : fitsN M (maskI []) (maskI [k]) = !M.testBit k.toNat := by
  rw [maskI_one k, mz]
  unfold fitsN lessN
  have := and_bit M k.toNat
  rw [Nat.zero_and]
  unfold bitN
  rw [Bool.eq_iff_iff]
  simp [this]
theorem qR_all : qR R 0 0 = R.map fun e => e.1 := by
  unfold qR; rw [List.filter_eq_self.2 fun e he => by unfold fitsN lessN; simp]
theorem both_none (hk : 0 ≤ k ∧ k ≤ 9) (hM : M < 2 ^ 64) : fitsN M (maskI [k] ||| maskI []) (maskI [] ||| maskI [k]) = false := by
  have h1 := fits_with hk hM
  have h2 := fits_wout (M := M) hk
  rw [mz] at h1 h2 ⊢
  rw [Nat.or_zero, Nat.zero_or]
  unfold fitsN at *
  cases q : M.testBit k.toNat
  · rw [q] at h1
    have : decide (lessN (maskI [k]) M = 0) = false := by
      rw [Nat.and_zero] at h1; simpa using h1
    rw [this]; rfl
  · rw [q] at h2
    have : decide (M &&& maskI [k] = 0) = false := by
      unfold lessN at h2; rw [Nat.zero_and] at h2; simpa using h2
    rw [this, Bool.and_false]
theorem halves_len (hr : ∀ e ∈ R, rightV e.2 = true) (hk : 0 ≤ k ∧ k ≤ 9) : (qR R (maskI [k]) (maskI [])).length + (qR R (maskI []) (maskI [k])).length = (qR R 0 0).length := by
  rw [qR_all]
  unfold qR
  rw [List.length_map, List.length_map, List.length_map]
  induction R with
  | nil => rfl
  | cons e R ih =>
    have ih := ih fun x hx => hr x (List.mem_cons_of_mem _ hx)
    have h64 : maskN e.2 < 2 ^ 64 := Nat.lt_trans (maskN_lt (right_kinds (hr e (List.mem_cons_self ..)))) (by decide)
    rw [List.filter_cons, List.filter_cons, fits_with hk h64, fits_wout hk]
    cases (maskN e.2).testBit k.toNat <;> simp only [Bool.not_false, Bool.not_true, if_true, Bool.false_eq_true, if_false, List.length_cons] <;> omega
theorem halves_all (hs : Rises ltE R) (hr : ∀ e ∈ R, rightV e.2 = true) (hk : 0 ≤ k ∧ k ≤ 9) : ordS ltH (qR R (maskI [k]) (maskI []) ++ qR R (maskI []) (maskI [k])) = qR R 0 0 := by
  refine Rises.ext ordH (ordS_rises ordH _) (qR_rises hs) fun h => ?_
  rw [mem_ordS, List.mem_append, qR_mem, qR_mem, qR_mem]
  constructor
  · rintro (⟨r, h1, _⟩ | ⟨r, h1, _⟩) <;> exact ⟨r, h1, by unfold fitsN lessN; simp⟩
  · rintro ⟨r, h1, _⟩
    have h64 : maskN r < 2 ^ 64 := Nat.lt_trans (maskN_lt (right_kinds (hr _ h1))) (by decide)
    cases q : (maskN r).testBit k.toNat
    · exact .inr ⟨r, h1, by rw [fits_wout hk, q]; rfl⟩
    · exact .inl ⟨r, h1, by rw [fits_with hk h64, q]⟩
theorem app_a {α : Type} {l : List α} : 0 + l.length ≤ (([] : List α).take 0 ++ l.take l.length).length := by rw [List.take_zero, List.nil_append, List.take_length]; omega
theorem both_zero (hr : ∀ e ∈ R, rightV e.2 = true) (hk : 0 ≤ k ∧ k ≤ 9) : (qR R (maskI [k] ||| maskI []) (maskI [] ||| maskI [k])).length = 0 := by
  unfold qR
  rw [List.length_map, List.filter_eq_nil_iff.2 fun e he => by rw [both_none hk (Nat.lt_trans (maskN_lt (right_kinds (hr e he))) (by decide))]; simp]; rfl
end
set_option maxHeartbeats 4000000 in
theorem halves_many (E : Nat → Addr) (Qv : List (PRow V3)) (n k : Nat) (kd : Int) (h : n = Qv.length ∧ ¬ Qv.length ≤ 40) : DoesC (Gm E) 10 (Sp0 [.sl 0 n k, .int .i64 kd] [(0, .ro Hdr encS (headsV Qv) k), (1, .fo (roPool Zz.encV Qv)), (2, .fo (tzF 10))] 3 .tt) := by
  obtain ⟨rfl, hl⟩ := h
  refine fn_calls (gmOk E) 89 3 [] Tryz.func10 rfl rfl rfl rfl rfl ?_
  repeat' first | (intro h; first | (exfalso; omega; done) | (exfalso; first | exact h trivial | omega | (rw [hlg] at h; cases h; done); done) | skip) | (refine And.intro ?_ ?_) | exact True.intro | (refine @Exists.intro Unit _ () ?_) | (refine @Exists.intro (_ = _) _ rfl ?_) | (change CallGoal _ _ _ _ _ _; first | (refine call_rule (filled_many E Qv _ k ⟨rfl, hl⟩) [0, 1, 2] rfl (And.intro rfl (And.intro rfl (And.intro rfl True.intro))) rfl (fun (u1 : Unit) hu1 => ?_))) | (change CallGoal _ _ _ _ _ _; first | (refine call0 (alive9_z E) [] rfl True.intro rfl ?_))
  all_goals first | rfl | omega
set_option maxHeartbeats 4000000 in
theorem halves_long (E : Nat → Addr) (Qv : List (PRow V3)) (n k : Nat) (kd : Int) (h : n = Qv.length ∧ Qv.length ≤ 40 ∧ longV Qv = true) : DoesC (Gm E) 10 (Sp0 [.sl 0 n k, .int .i64 kd] [(0, .ro Hdr encS (headsV Qv) k), (1, .fo (roPool Zz.encV Qv)), (2, .fo (tzF 10))] 3 .tt) := by
  obtain ⟨rfl, hl, hlg⟩ := h
  refine fn_calls (gmOk E) 89 3 [] Tryz.func10 rfl rfl rfl rfl rfl ?_
  repeat' first | (intro h; first | (exfalso; omega; done) | (exfalso; first | exact h trivial | omega | (rw [hlg] at h; cases h; done); done) | skip) | (refine And.intro ?_ ?_) | exact True.intro | (refine @Exists.intro Unit _ () ?_) | (refine @Exists.intro (_ = _) _ rfl ?_) | (change CallGoal _ _ _ _ _ _; first | (refine call_rule (filled_long E Qv _ k ⟨rfl, hl, hlg⟩) [0, 1, 2] rfl (And.intro rfl (And.intro rfl (And.intro rfl True.intro))) rfl (fun (u1 : Unit) hu1 => ?_))) | (change CallGoal _ _ _ _ _ _; first | (refine call0 (alive9_z E) [] rfl True.intro rfl ?_) | (refine call0 (long_z E Qv _ k ⟨rfl, by omega⟩) [0, 1] rfl (And.intro rfl (And.intro rfl True.intro)) rfl ?_))
  all_goals first | rfl | omega | (rw [hlg]; done) | exact hlg.symm
set_option maxHeartbeats 4000000 in
theorem halves_ok (E : Nat → Addr) (Qv : List (PRow V3)) (n k : Nat) (kd : Int) (h : n = Qv.length ∧ Qv.length ≤ 40 ∧ longV Qv = false) : DoesC (Gm E) 10 (Sp0 [.sl 0 n k, .int .i64 kd] [(0, .ro Hdr encS (headsV Qv) k), (1, .fo (roPool Zz.encV Qv)), (2, .fo (tzF 10))] 3 .tt) := by
  obtain ⟨rfl, hl, hlg⟩ := h; have hk := kd_in kd; have hlen := halves_len (R := (fillR Qv Qv.length)) (fillR_right _) hk; have hbz := both_zero (R := (fillR Qv Qv.length)) (fillR_right _) hk; have hM : (maskI [((IntKind.u64.wrap kd).tmod 10)]) < 2 ^ 64 := maskI_lt64 (by simp only [kindsOk, okK, List.all_cons, List.all_nil, Bool.and_true, decide_eq_true_eq]; omega); have hb1 : (qR (fillR Qv Qv.length) (maskI [((IntKind.u64.wrap kd).tmod 10)]) (maskI [])).length ≤ 40 := (by have := qR_len (R := (fillR Qv Qv.length)) (w := (maskI [((IntKind.u64.wrap kd).tmod 10)])) (x := (maskI [])); have := fillR_len (Qv := Qv) Qv.length; omega); have hb2 : (qR (fillR Qv Qv.length) (maskI []) (maskI [((IntKind.u64.wrap kd).tmod 10)])).length ≤ 40 := (by have := qR_len (R := (fillR Qv Qv.length)) (w := (maskI [])) (x := (maskI [((IntKind.u64.wrap kd).tmod 10)])); have := fillR_len (Qv := Qv) Qv.length; omega)
  refine fn_calls (gmOk E) 89 3 [] Tryz.func10 rfl rfl rfl rfl rfl ?_
  repeat' first | (change CallGoal _ _ _ _ _ _; first | (change CallGoal _ 45 _ _ _ _; first | (change CallGoal _ _ [.sl 7 _ _, .nils] _ _ _; refine callG.nilArr Zz.encI 3 ?_; change CallGoal _ _ _ _ _ _; refine call_args [.sl 7 1 1, .sl 8 0 0] (fun _ => bdLB_ok _ rfl) (fun En V w hp => by have q := says (c := 9) rfl hp; simp only [SV.denL, SV.den] at q ⊢; rw [q]) ?_; change CallGoal _ _ _ _ _ _; refine call0 (qOf E [((IntKind.u64.wrap kd).tmod 10)] [] _ _ 0 0 ⟨⟨rfl, rfl⟩, ⟨by simp only [kindsOk, okK, List.all_cons, List.all_nil, Bool.and_true, decide_eq_true_eq]; omega, rfl⟩, by simp, by simp⟩) [7, 8] rfl (And.intro rfl (And.intro rfl True.intro)) rfl ?_) | (change CallGoal _ _ [.nils, .sl 11 _ _] _ _ _; refine callG.nilArr Zz.encI 3 ?_; change CallGoal _ _ _ _ _ _; refine call_args [.sl 12 0 0, .sl 11 1 1] (fun _ => bdLB_ok _ rfl) (fun En V w hp => by have q := says (c := 13) rfl hp; simp only [SV.denL, SV.den] at q ⊢; rw [q]) ?_; change CallGoal _ _ _ _ _ _; refine call0 (qOf E [] [((IntKind.u64.wrap kd).tmod 10)] 0 0 _ _ ⟨⟨rfl, rfl⟩, ⟨rfl, by simp only [kindsOk, okK, List.all_cons, List.all_nil, Bool.and_true, decide_eq_true_eq]; omega⟩, by simp, by simp⟩) [12, 11] rfl (And.intro rfl (And.intro rfl True.intro)) rfl ?_)) | (change CallGoal _ 42 _ _ _ _; first | (refine call_rule (qHandles E xq.1 (fillR Qv Qv.length) (maskI [((IntKind.u64.wrap kd).tmod 10)]) (maskI []) ⟨⟨hM, by decide⟩, ⟨by have := fillR_len (Qv := Qv) Qv.length; omega, by have := fillR_masks (Qv := Qv) Qv.length; omega⟩, fillR_ris _, fillR_right _⟩) [3] rfl (And.intro rfl True.intro) rfl (fun (q1 : Nat) hq1 => ?_)) | (refine call_rule (qHandles E xq.1 (fillR Qv Qv.length) (maskI []) (maskI [((IntKind.u64.wrap kd).tmod 10)]) ⟨⟨by decide, hM⟩, ⟨by have := fillR_len (Qv := Qv) Qv.length; omega, by have := fillR_masks (Qv := Qv) Qv.length; omega⟩, fillR_ris _, fillR_right _⟩) [3] rfl (And.intro rfl True.intro) rfl (fun (q2 : Nat) hq2 => ?_)) | (refine call_rule (qHandles E xq.1 (fillR Qv Qv.length) 0 0 ⟨⟨by decide, by decide⟩, ⟨by have := fillR_len (Qv := Qv) Qv.length; omega, by have := fillR_masks (Qv := Qv) Qv.length; omega⟩, fillR_ris _, fillR_right _⟩) [3] rfl (And.intro rfl True.intro) rfl (fun (q0 : Nat) hq0 => ?_))) | (change CallGoal _ 30 _ _ _ _; first | (rename_i kc; refine callG.cast 20 (.arr (Int × Int) (Zz.encP Zz.encI Zz.encI) 28 ((qR (fillR Qv Qv.length) (maskI [((IntKind.u64.wrap kd).tmod 10)]) (maskI [])) ++ (qR (fillR Qv Qv.length) (maskI []) (maskI [((IntKind.u64.wrap kd).tmod 10)]))) kc) rfl (by simp) ?_; change CallGoal _ _ _ _ _ _; refine call_rule (rhand_z E ((qR (fillR Qv Qv.length) (maskI [((IntKind.u64.wrap kd).tmod 10)]) (maskI [])) ++ (qR (fillR Qv Qv.length) (maskI []) (maskI [((IntKind.u64.wrap kd).tmod 10)]))) _ kc ⟨by rw [List.length_append]; omega, by rw [List.length_append]; have := qR_len (R := (fillR Qv Qv.length)) (w := (maskI [((IntKind.u64.wrap kd).tmod 10)])) (x := (maskI [])); have := qR_len (R := (fillR Qv Qv.length)) (w := (maskI [])) (x := (maskI [((IntKind.u64.wrap kd).tmod 10)])); have := fillR_len (Qv := Qv) Qv.length; omega⟩) [20] rfl (And.intro rfl True.intro) rfl (fun (q4 : Nat) hq4 => ?_))) | (change CallGoal _ 29 _ _ _ _; first | (refine call0 (rsameH_z E (ordS ltH ((qR (fillR Qv Qv.length) (maskI [((IntKind.u64.wrap kd).tmod 10)]) (maskI [])) ++ (qR (fillR Qv Qv.length) (maskI []) (maskI [((IntKind.u64.wrap kd).tmod 10)])))) (qR (fillR Qv Qv.length) 0 0) _ q4 _ q0 ⟨⟨rfl, rfl⟩, by rw [halves_all (fillR_ris _) (fillR_right _) hk]; have := qR_len (R := (fillR Qv Qv.length)) (w := 0) (x := 0); have := fillR_len (Qv := Qv) Qv.length; omega, by have := qR_len (R := (fillR Qv Qv.length)) (w := 0) (x := 0); have := fillR_len (Qv := Qv) Qv.length; omega⟩) [21, 17] rfl (And.intro rfl (And.intro rfl True.intro)) rfl ?_))) | (intro h; first | (exfalso; omega; done) | (exfalso; first | exact h trivial | omega | (rw [halves_all (fillR_ris _) (fillR_right _) hk, sameL_refl] at h; first | cases h; done | exact h rfl); done) | skip) | (refine And.intro ?_ ?_) | exact True.intro | (refine @Exists.intro Unit _ () ?_) | (refine @Exists.intro (_ = _) _ rfl ?_) | (change DrawGoal _ _ _ _ _ _; first | (change DrawGoal _ _ _ ({ dst := some 54, op := _, type := _, pos := _, after := _, guard := _ } :: _) _ _; refine draw_tree (gmOk E) [10, 14] (.leaf [(0, true), (1, true), (3, true), (4, true), (2, false), (5, false), (6, true), (7, true)]) (by kernel_rfl) ?_)) | (change CallGoal _ _ _ _ _ _; first | (refine call_rule (filled_ok E Qv _ k ⟨rfl, hl, hlg⟩) [0, 1, 2] rfl (And.intro rfl (And.intro rfl (And.intro rfl True.intro))) rfl (fun (xq : List (PRow Int) × List (PRow V3)) hxq => ?_)) | (refine call_rule (qCount E xq.1 (fillR Qv Qv.length) ((maskI [((IntKind.u64.wrap kd).tmod 10)]) ||| (maskI [])) ((maskI []) ||| (maskI [((IntKind.u64.wrap kd).tmod 10)])) ⟨⟨Nat.or_lt_two_pow hM (by decide), Nat.or_lt_two_pow (by decide) hM⟩, ⟨by have := fillR_len (Qv := Qv) Qv.length; omega, by have := fillR_masks (Qv := Qv) Qv.length; omega⟩, fillR_ris _, fillR_right _⟩) [3] rfl (And.intro rfl True.intro) rfl (fun (u2 : Unit) hu2 => ?_))) | (change CallGoal _ _ _ _ _ _; first | (refine call0 (alive9_z E) [] rfl True.intro rfl ?_) | (refine call0 (qBoth E (maskI [((IntKind.u64.wrap kd).tmod 10)]) (maskI []) (maskI []) (maskI [((IntKind.u64.wrap kd).tmod 10)]) ⟨⟨hM, by decide⟩, by decide, hM⟩) [] rfl True.intro rfl ?_))
  all_goals first | (dsimp only; first | rfl | omega) | rfl | omega | exact Nat.zero_le _ | (change _ * 16 ≤ _; omega) | exact ins3_a (l := (qR (fillR Qv Qv.length) (maskI [((IntKind.u64.wrap kd).tmod 10)]) (maskI []))) (y := (qR (fillR Qv Qv.length) (maskI [((IntKind.u64.wrap kd).tmod 10)]) (maskI [])).length) (Nat.le_refl _) | exact app_a
theorem halves_z (E : Nat → Addr) (Qv : List (PRow V3)) (n k : Nat) (kd : Int) (h : n = Qv.length) : DoesC (Gm E) 10 (Sp0 [.sl 0 n k, .int .i64 kd] [(0, .ro Hdr encS (headsV Qv) k), (1, .fo (roPool Zz.encV Qv)), (2, .fo (tzF 10))] 3 .tt) := by
  by_cases hl : Qv.length ≤ 40
  · cases hlg : longV Qv with
    | true => exact halves_long E Qv n k kd ⟨h, hl, hlg⟩
    | false => exact halves_ok E Qv n k kd ⟨h, hl, hlg⟩
  · exact halves_many E Qv n k kd ⟨h, hl⟩
end Go.Proofs.YtcnbngiplfoomaaGreatDoor
namespace Go.Proofs.YtcnbngiplfoomaaGreatDoor
open Go.Zz Go.Px
set_option linter.unusedVariables false
set_option linter.unusedSectionVars false
set_option linter.unusedSimpArgs false
set_option maxRecDepth 10000
open Go.Proofs
theorem halves_any (E : Nat → Addr) (av : Option Addr) (Qv : List (PRow V3)) (c : Nat) (kd : Int) (W : World) (hG : Errs (Gm E).errs W (Gm E).Δ.eT E) (hT : TabAt 10 Lib.deBruijn64tab W) (hs : 10 < W.heap.size) (hav : Arr W 1 av Qv.length c (flat encS.val (headsV Qv))) (hQ : ∀ q ∈ Qv, Arr W 3 q.1 q.2.2.length q.2.1 (flat Zz.encV.val q.2.2)) :
    Calls Tryz.prog 10 #[.slice av Qv.length c, .int .i64 kd] W (Ret fun v w' => v = .bool true ∧ Keep Nn W w') :=
  (halves_z E Qv Qv.length c kd rfl).law2 (fun _ => av) hG rfl (fun d α e l' k' hm => by
    rcases List.mem_cons.1 hm with hm | hm
    · cases hm; exact ⟨by rw [heads_len]; exact hav, by decide⟩
    · rcases List.mem_cons.1 hm with hm | hm
      · cases hm
      · cases List.mem_singleton.1 hm) (fun d Ψ hm => by
    rcases List.mem_cons.1 hm with hm | hm
    · cases hm
    · rcases List.mem_cons.1 hm with hm | hm
      · cases hm; exact rows_fo hQ _
      · cases List.mem_singleton.1 hm; exact ⟨hT, id, hs⟩) (fun _ => rfl) (by simp [SV.denL, SV.den, Sp0])
end Go.Proofs.YtcnbngiplfoomaaGreatDoor
