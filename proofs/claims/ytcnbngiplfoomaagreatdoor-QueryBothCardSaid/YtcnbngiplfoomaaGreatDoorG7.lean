/- A part of the proof: texts put together. -/
import Derived.Test.YtcnbngiplfoomaaGreatDoorG6
import Derived.Test.YtcnbngiplfoomaaGreatDoorG4
set_option linter.unusedSectionVars false
set_option linter.unusedSimpArgs false
set_option linter.unusedVariables false
namespace Go.Proofs.YtcnbngiplfoomaaGreatDoor
open Go.Zz Go.Px
set_option linter.unusedVariables false
set_option linter.unusedSectionVars false
set_option linter.unusedSimpArgs false
set_option maxRecDepth 10000
section
variable {R : List Ey} {m : Int} {es : List Ey} {x : XT}
def inR (R : List Ey) (m : Int) : List (Int × Int) := (R.filter fun e => decide (mkI e.2 = m)).map fun e => e.1
theorem inR_rises (hx : XOk R x) : Rises ltH (inR R m) := by
  unfold inR Rises
  exact List.Pairwise.map _ (fun a b h => h) (List.Pairwise.filter _ hx.inv.ris)
theorem XOk.inR (hx : XOk R x) (hg : getK x.1 m = some es) : ordS ltH (es.map (fun e : Ey => e.1)) = inR R m := by
  refine Rises.ext ordH (ordS_rises ordH _) (inR_rises hx) fun h => ?_
  rw [mem_ordS]
  unfold Go.Proofs.YtcnbngiplfoomaaGreatDoor.inR
  simp only [List.mem_map, List.mem_filter, decide_eq_true_eq]
  have h1 := kmem_of hg
  constructor
  · rintro ⟨e, he, rfl⟩
    exact ⟨e, ⟨(hx.inv.mem e).2 ⟨m, es, h1, he⟩, hx.inv.mask _ _ h1 e he⟩, rfl⟩
  · rintro ⟨e, ⟨q1, q2⟩, rfl⟩
    obtain ⟨m', es', q3, q4⟩ := (hx.inv.mem e).1 q1
    have := hx.inv.mask _ _ q3 e q4
    have e1 : m' = m := this.symm.trans q2
    subst e1
    have := (kget hx.inv.tnd).2 q3
    rw [hg] at this
    exact ⟨e, by rw [Option.some.inj this]; exact q4, rfl⟩
theorem XOk.elen (hx : XOk R x) (hg : getK x.1 m = some es) : es.length ≤ 1000000 := by
  have h1 := kmem_of hg
  have hnd : es.Nodup := List.pairwise_iff_getElem.2 fun i j hi hj hij e => by
    have q1 : es[(i : Int).toNat]? = some (es[j].1, es[j].2) := by simp [List.getElem?_eq_getElem hi, e]
    have q2 : es[(j : Int).toNat]? = some (es[j].1, es[j].2) := by simp [List.getElem?_eq_getElem hj]
    have := (hx.inv.one h1 (Int.natCast_nonneg i) q1 h1 (Int.natCast_nonneg j) q2).2.1
    omega
  have hR : R.Nodup := List.Pairwise.imp (fun h e => h (by rw [e])) (List.pairwise_map.1 hx.inv.rnd)
  have := nodup_lens hnd (hR.filter fun e => es.contains e) fun e => by
    rw [List.mem_filter, List.contains_iff_mem]
    exact ⟨fun q => ⟨(hx.inv.mem e).2 ⟨m, es, h1, q⟩, q⟩, fun q => q.2⟩
  have h2 := hx.len
  have h3 := List.length_filter_le (fun e => es.contains e) R
  omega
end
set_option maxHeartbeats 4000000 in
theorem sInY (E : Nat → Addr) (Q : List (PRow Int)) (R : List Ey) (m : Int) (h : anyM R m = true) : Does (Gm E) 28 ⟨[.ptr 0 0, .int .u64 m], [(0, .pr (storePr E Q R))], 1, 2, Nat, fun q => (inR R m).length ≤ q, fun q => .sl 1 (inR R m).length q, fun q => [(0, .pr (storePr E Q R)), (1, .arr (Int × Int) (Zz.encP Zz.encI Zz.encI) 28 (inR R m) q)]⟩ := by
  rename anyM R m = true => hm
  refine DoesC.does (fn_start Tryz.func28 rfl rfl rfl ?_)
  change EntryGoal _ _ _ _ _
  refine entryG.ex 0 rfl (fun x hx => ?_)
  change EntryGoal _ _ _ _ _
  (obtain ⟨es, hes⟩ := khas.1 ((hx.anyM m).trans hm); have hel := hx.elen hes; change EntryGoal _ _ _ _ _; refine entryG.open_ 0 rfl 5 rfl rfl ?_)
  change EntryGoal _ _ _ _ _
  refine entry_go (gmOk E) 21 1 [] Tryz.func28 rfl rfl rfl rfl ?_
  repeat' first | (change CallGoal _ _ _ _ _ _; first | (change CallGoal _ 77 _ _ _ _; first | (refine callG.restOut 5 (tabL x.1) x.2.2.2 m (m.toNat, es) rfl (tabL_get hes) ?_; change CallGoal _ _ _ _ _ _; refine call_args [.ptr 6 0] (fun _ => bdLB_ok _ rfl) (fun En V w hp => by have q := rest_ptr (r := 5) (m := 6) rfl hp; simp only [SV.den, SV.denL] at q ⊢; rw [q]) ?_; change CallGoal _ _ _ _ _ _; refine call_rule (tHandles E Q m.toNat es) [6] rfl (And.intro rfl True.intro) rfl (fun (q1 : Nat) hq1 => ?_)))) | (change RetGoal _ _ _ _ _; first | (refine retG'.restIn 5 6 (m.toNat, es) rfl rfl rfl (tabP_placed _) (by rw [tabL_has]; exact khas.2 ⟨_, hes⟩) ?_; change RetGoal _ _ _ _ _; refine retG'.cast 5 (.pr (restPr (tabP E Q) (tabL x.1) x.2.2.2)) rfl (by rw [tabL_put, putK_id hx.inv.tnd hes]) ?_; change RetGoal _ _ _ _ _; refine retG'.cast 9 (.arr (Int × Int) (Zz.encP Zz.encI Zz.encI) 28 (inR R m) q2) rfl (by rw [hx.inR hes]) ?_; change RetGoal _ _ _ _ _; (refine retG'.shut (Γ0 := Gm E) rfl (.cells 108 [.mp 1, .mp 2, .mp 3]) [(1, .pr (mapPr veU veP (ptrL ((x).1.map (fun y : Int × List Ey => y.1)) (x).2.2.2))), (2, .pr (mapPr (Enc.ag (Zz.encP Zz.encI Zz.encI)) vePl (placL (x).2.1 (x).2.2.2))), (3, .pr (mapPr (Enc.ag (Zz.encP encU Zz.encI)) veU (x).2.2.1)), (4, .pr (restPr (tabP E Q) (tabL (x).1) (x).2.2.2))] [0, 2, 3, 4, 5] (And.intro rfl (And.intro rfl (And.intro rfl (And.intro rfl (And.intro rfl True.intro))))) rfl ?_; change RetGoal _ _ _ _ _; refine retG'.hide (X := XT) (p := XOk R) (Φ := fun x => grp (Gm E) (stoH E Q x)) 0 (x) (hx) rfl ?_; change RetGoal _ _ _ _ _; refine ret_done rfl ?_))) | (intro h; first | (exfalso; omega; done) | (exfalso; exact h trivial; done) | skip) | (refine And.intro ?_ ?_) | exact True.intro | (refine @Exists.intro Unit _ () ?_) | (refine @Exists.intro (_ = _) _ rfl ?_) | (change OpGoal _ _ _ _ (.lookup 104 _ _ true) _; refine lookupY_rule mapT 2 (ptrL (x.1.map (fun y : Int × List Ey => y.1)) x.2.2.2) m (some (x.2.2.2 m)) rfl rfl rfl (ptrL_get (mem_keys ((hx.anyM m).trans hm))) ?_) | (refine @Exists.intro (Nat) _ ?_ ?_; rotate_left) | (change CallGoal _ _ _ _ _ _; first | (refine call_rule (handles_z E (es.map (fun e : Ey => e.1)) _ q1 ⟨(hs_len es).symm, by rw [hs_len]; omega⟩) [7] rfl (And.intro rfl True.intro) rfl (fun (q2 : Nat) hq2 => ?_)))
  all_goals first | rfl | omega | (rw [hx.inR hes]; done) | (rw [hx.inR hes] at hq2; exact hq2)
end Go.Proofs.YtcnbngiplfoomaaGreatDoor
namespace Go.Proofs.YtcnbngiplfoomaaGreatDoor
open Go.Zz Go.Px
set_option linter.unusedVariables false
set_option linter.unusedSectionVars false
set_option linter.unusedSimpArgs false
set_option maxRecDepth 10000
section
variable {Qv : List (PRow V3)} {R : List Ey} {hd : Hd} {row : Rw} {i : Nat} {m : Int}
def fillS (R : List Ey) (hd : Hd) (row : Rw) : List Ey := if hasK R hd = false ∧ rightV row = true ∧ (masksR (insR R (hd, row))).length ≤ 32 then insR R (hd, row) else R
def hF (i : Nat) : Hd := (((i * 7 % 41 : Nat) : Int), 1)
def fillR (Qv : List (PRow V3)) : Nat → List Ey
  | 0 => []
  | i + 1 => fillS (fillR Qv i) (hF i) (rowQ Qv i).2.2
theorem fillS_ris (h : Rises ltE R) : Rises ltE (fillS R hd row) := by
  unfold fillS; split
  · rename_i q; exact ins_rises h q.1
  · exact h
theorem fillS_right (h : ∀ e ∈ R, rightV e.2 = true) : ∀ e ∈ fillS R hd row, rightV e.2 = true := by
  unfold fillS; split
  · rename_i q; exact ins_right h q.2.1
  · exact h
theorem fillS_len : (fillS R hd row).length ≤ R.length + 1 := by
  unfold fillS; split
  · rw [insR_len]; exact Nat.le_refl _
  · exact Nat.le_succ _
theorem fillR_ris : ∀ i, Rises ltE (fillR Qv i)
  | 0 => List.Pairwise.nil
  | i + 1 => fillS_ris (fillR_ris i)
theorem fillR_right : ∀ i, ∀ e ∈ fillR Qv i, rightV e.2 = true
  | 0 => fun _ h => by cases h
  | i + 1 => fillS_right (fillR_right i)
theorem fillR_len : ∀ i, (fillR Qv i).length ≤ i
  | 0 => Nat.le_refl _
  | i + 1 => Nat.le_trans fillS_len (Nat.succ_le_succ (fillR_len i))
theorem fillS_masks (h : (masksR R).length ≤ 32) : (masksR (fillS R hd row)).length ≤ 32 := by
  unfold fillS; split
  · rename_i q; exact q.2.2
  · exact h
theorem fillR_masks : ∀ i, (masksR (fillR Qv i)).length ≤ 32
  | 0 => by show (masksR []).length ≤ 32; have : masksR [] = [] := by unfold masksR; simp
            rw [this]; simp
  | i + 1 => fillS_masks (fillR_masks i)
theorem put_cases (R : List Ey) (hd : Hd) (row : Rw) : hasK R hd = true ∨ (hasK R hd = false ∧ rightV row = false) ∨ (hasK R hd = false ∧ rightV row = true ∧ 32 < (masksR (insR R (hd, row))).length) ∨ (hasK R hd = false ∧ rightV row = true ∧ (masksR (insR R (hd, row))).length ≤ 32) := by
  cases hasK R hd
  · cases rightV row
    · simp
    · simp; omega
  · simp
theorem fillS_yes (h : hasK R hd = false ∧ rightV row = true ∧ (masksR (insR R (hd, row))).length ≤ 32) : fillS R hd row = insR R (hd, row) := by unfold fillS; rw [if_pos h]
theorem fillS_no (h : ¬ (hasK R hd = false ∧ rightV row = true ∧ (masksR (insR R (hd, row))).length ≤ 32)) : fillS R hd row = R := by unfold fillS; rw [if_neg h]
theorem room_ins (hr : ∀ e ∈ R, rightV e.2 = true) (h : rightV row = true) (hm : (masksR (insR R (hd, row))).length ≤ 32) : anyM R (mkI row) = true ∨ (masksR R).length < 32 := by
  cases q : anyM R (mkI row) with
  | true => exact .inl rfl
  | false =>
    refine .inr ?_
    have hn : mkI row ∉ masksR R := fun hm => by
      obtain ⟨e, he, q2⟩ := (mem_masksR hr).1 hm
      have : anyM R (mkI row) = true := by unfold anyM; exact List.any_eq_true.2 ⟨e, he, by simpa using q2⟩
      rw [q] at this; cases this
    have h1 := nodup_sub_lenT (l := mkI row :: masksR R) (m := masksR (insR R (hd, row))) (List.nodup_cons.2 ⟨hn, masksR_nd R⟩) fun x hx => by
      rw [mem_masksR (ins_right hr h)]
      rcases List.mem_cons.1 hx with rfl | hx
      · exact ⟨(hd, row), mem_insR.2 (.inr rfl), rfl⟩
      · obtain ⟨e, he, q2⟩ := (mem_masksR hr).1 hx
        exact ⟨e, mem_insR.2 (.inl he), q2⟩
    rw [List.length_cons] at h1; omega
theorem hF_eq : ((i : Int) * 7).tmod 41 = ((i * 7 % 41 : Nat) : Int) := by
  rw [Int.tmod_eq_emod_of_nonneg (by omega)]; omega
theorem len_next {x : Nat} (hI : ∀ j, j < x → (rowQ Qv j).2.2.length ≤ 20) (h : (rowQ Qv x).2.2.length ≤ 20) (j : Nat) (hj : j < x + 1) : (rowQ Qv j).2.2.length ≤ 20 := by
  by_cases e : j = x
  · subst e; exact h
  · exact hI j (by omega)
def longV (Qv : List (PRow V3)) : Bool := Qv.any fun q => decide (20 < q.2.2.length)
theorem longV_at (hi : i < Qv.length) (h : 20 < (rowQ Qv i).2.2.length) : longV Qv = true := by
  unfold longV
  refine List.any_eq_true.2 ⟨rowQ Qv i, List.mem_of_getElem? (rowQ_get hi), decide_eq_true h⟩
theorem longV_no (h : ∀ i, i < Qv.length → ¬ 20 < (rowQ Qv i).2.2.length) : longV Qv = false := by
  rw [← Bool.not_eq_true]; intro q
  unfold longV at q
  obtain ⟨q, hq, e⟩ := List.any_eq_true.1 q
  obtain ⟨j, hj, e2⟩ := List.mem_iff_getElem.1 hq
  refine h j hj ?_
  unfold rowQ; rw [List.getD_eq_getElem?_getD, List.getElem?_eq_getElem hj, Option.getD_some, e2]; exact of_decide_eq_true e
end
set_option maxHeartbeats 4000000 in
theorem long_z (E : Nat → Addr) (Qv : List (PRow V3)) (n k : Nat) (h : n = Qv.length ∧ Qv.length ≤ 1000000) : Does (Gm E) 40 (Sp0 [.sl 0 n k] [(0, .ro Hdr encS (headsV Qv) k), (1, .fo (roPool Zz.encV Qv))] 2 (.bl (longV Qv))) := by
  obtain ⟨rfl, hl⟩ := h
  refine fn_intro (gmOk E) 15 2 [4] Tryz.func40 rfl rfl rfl rfl rfl ?_
  repeat' first | (change JoinGoal _ _ _ _ _ _ _ _; refine join_stop (gmOk E) ?_) | (change HereGoal _ _ _ _ _ _ _; refine here_at 4 rfl ?_; change HereGoal _ _ _ _ _ _ _; refine hereG.foOut 1 x (rowQ Qv x) rfl (rowQ_get (by omega)) ?_; change HereGoal _ _ _ _ _ _ _; refine here_set 4 (.sl 18 (rowQ Qv x).2.2.length (rowQ Qv x).2.1) rfl (fun _ => by simp only [SV.bd]; omega) (fun En V w hp => (head_den (i := x) (rowQ Qv x)).trans (says (c := 19) rfl hp).symm) ?_; change HereGoal _ _ _ _ _ _ _; refine here_go (gmOk E) ?_) | with_reducible rfl | (intro h; first | (exfalso; omega; done) | skip) | (refine And.intro ?_ ?_) | exact True.intro | (refine @Exists.intro Unit _ () ?_) | (refine @Exists.intro (_ = _) _ rfl ?_) | (change NextGoal _ _ _; refine next_go ?_) | (change LoopGoal _ _ _ _ _ _; refine loop_keep 2 [5, 6] (gmOk E) rfl [4] (X := Nat) (fun x => [(7, .int .i64 ((x : Nat) : Int))]) (fun x => []) [] (fun x => x ≤ Qv.length ∧ ∀ j, j < x → ¬ 20 < (rowQ Qv j).2.2.length) (fun x => Qv.length - x) ⟨0, ?_⟩ (fun x hI => ?_)) | (change @Exists (Nat) (fun _ => updPK _ _ _ _ _ _); refine @Exists.intro (Nat) _ (x + 1) ?_)
  all_goals first | (dsimp only; first | rfl | omega) | rfl | omega | exact Nat.zero_le _ | (rw [heads_len]; omega) | (show _ < _; rw [heads_len]; omega) | exact (longV_at (i := x) (by omega) (by omega)).symm | exact (longV_no (fun j hj => hI.2 j (by omega))).symm | (rename_i hn j hj; exact (Nat.lt_or_ge j x).elim (fun e2 => hI.2 j e2 h) (fun e2 => by rw [show j = x from by omega] at h; omega))
set_option maxHeartbeats 4000000 in
theorem filled_ok (E : Nat → Addr) (Qv : List (PRow V3)) (n k : Nat) (h : n = Qv.length ∧ Qv.length ≤ 40 ∧ longV Qv = false) : Does (Gm E) 39 ⟨[.sl 0 n k], [(0, .ro Hdr encS (headsV Qv) k), (1, .fo (roPool Zz.encV Qv)), (2, .fo (tzF 10))], 3, 7, (List (PRow Int) × List (PRow V3)), fun _ => True, fun _ => .tup [.ptr 3 0, .ptr 4 0, .tt], fun x => [(3, .pr (storePr E x.1 (fillR Qv Qv.length))), (4, .pr (refPr E x.2 (fillR Qv Qv.length))), (5, .pr (poolPr Zz.encI 3 x.1)), (6, .pr (poolPr Zz.encV 34 x.2))]⟩ := by
  obtain ⟨rfl, hl, hlg⟩ := h
  refine fn_intro (gmOk E) 45 3 [2, 7, 10] Tryz.func39 rfl rfl rfl rfl rfl ?_
  repeat' first | (change CallGoal _ _ _ _ _ _; first | (change CallGoal _ 81 _ _ _ _; first | (refine call_rule (qPutHas E x.2.2 (fillR Qv x.1) (hF x.1) (rowQ Qv x.1).2.2 _ _ ⟨⟨rfl, by omega, by have := fillR_len (Qv := Qv) x.1; omega, fillR_ris _, fillR_right _⟩, hc⟩) [4, 6, 25] rfl (And.intro rfl (And.intro rfl (And.intro rfl True.intro))) rfl (fun (u1 : Unit) hu1 => ?_)) | (refine call_rule (qPutForm E x.2.2 (fillR Qv x.1) (hF x.1) (rowQ Qv x.1).2.2 _ _ ⟨⟨rfl, by omega, by have := fillR_len (Qv := Qv) x.1; omega, fillR_ris _, fillR_right _⟩, hc.1, hc.2⟩) [4, 6, 25] rfl (And.intro rfl (And.intro rfl (And.intro rfl True.intro))) rfl (fun (u1 : Unit) hu1 => ?_)) | (refine call_rule (qPutFull E x.2.2 (fillR Qv x.1) (hF x.1) (rowQ Qv x.1).2.2 _ _ ⟨⟨rfl, by omega, by have := fillR_len (Qv := Qv) x.1; omega, fillR_ris _, fillR_right _⟩, hc.1, hc.2.1, by have := fillR_len (Qv := Qv) x.1; omega, hc.2.2⟩) [4, 6, 25] rfl (And.intro rfl (And.intro rfl (And.intro rfl True.intro))) rfl (fun (S1 : List (PRow V3)) hS1 => ?_)) | (refine call_rule (qPutY E x.2.2 (fillR Qv x.1) (hF x.1) (rowQ Qv x.1).2.2 _ _ ⟨⟨rfl, by omega, by have := fillR_len (Qv := Qv) x.1; omega, fillR_ris _, fillR_right _⟩, hc.1, hc.2.1, by have := fillR_len (Qv := Qv) x.1; omega, hc.2.2⟩) [4, 6, 25] rfl (And.intro rfl (And.intro rfl (And.intro rfl True.intro))) rfl (fun (S2 : List (PRow V3)) hS2 => ?_))) | (change CallGoal _ 16 _ _ _ _; first | (refine call_rule (sPut E x.2.1 (fillR Qv x.1) (hF x.1) (rowQ Qv x.1).2.2 _ _ ⟨rfl, hc.1, hc.2.1, by omega, by have := fillR_len (Qv := Qv) x.1; omega, room_ins (fillR_right _) hc.2.1 hc.2.2⟩) [3, 5, 25, 2] rfl (And.intro rfl (And.intro rfl (And.intro rfl (And.intro rfl True.intro)))) rfl (fun (S3 : List (PRow Int)) hS3 => ?_)))) | (change JoinGoal _ _ _ _ _ _ _ _; refine join_stop (gmOk E) ?_) | (change HereGoal _ _ _ _ _ _ _; refine here_at 2 rfl ?_; change HereGoal _ _ _ _ _ _ _; refine hereG.poolNil Zz.encI 3 ?_; change HereGoal _ _ _ _ _ _ _; refine hereG.poolNil Zz.encV 34 ?_; change HereGoal _ _ _ _ _ _ _; refine hereG.nilArr encE 37 ?_; change HereGoal _ _ _ _ _ _ _; refine hereG.cells_ 4 [.sl 7 0 0] rfl rfl (fun En V w hp => by have q := says (c := 8) rfl hp; simp only [SV.denL, SV.den] at q ⊢; rw [q]) ?_; change HereGoal _ _ _ _ _ _ _; refine hereG.shut (Γ0 := Gm E) rfl (.cells 70 [.sl 1 ((([] : List EyI), 0)).1.length ((([] : List EyI), 0)).2]) [(1, .arr ((Int × Int) × Hdr) encE 37 (refL [] ((([] : List EyI), 0)).1) ((([] : List EyI), 0)).2)] [4, 7] (And.intro rfl (And.intro rfl True.intro)) rfl ?_; change HereGoal _ _ _ _ _ _ _; refine hereG.hide (X := (List EyI × Nat)) (p := RefOk [] []) (Φ := fun x => grp (Gm E) [(0, .cells 70 [.sl 1 x.1.length x.2]), (1, .arr ((Int × Int) × Hdr) encE 37 (refL [] x.1) x.2)]) 4 ((([] : List EyI), 0)) (⟨rfl, RefV.nil, Nat.le_refl _⟩) rfl ?_; change HereGoal _ _ _ _ _ _ _; refine here_go (gmOk E) ?_) | (change HereGoal _ _ _ _ _ _ _; refine here_at 7 rfl ?_; change HereGoal _ _ _ _ _ _ _; refine hereG.foOut 1 x.1 (rowQ Qv x.1) rfl (rowQ_get (by omega)) ?_; change HereGoal _ _ _ _ _ _ _; refine here_set 8 (.sl 25 (rowQ Qv x.1).2.2.length (rowQ Qv x.1).2.1) rfl (fun _ => by simp only [SV.bd]; omega) (fun En V w hp => (head_den (i := x.1) (rowQ Qv x.1)).trans (says (c := 26) rfl hp).symm) ?_; change HereGoal _ _ _ _ _ _ _; refine here_go (gmOk E) ?_) | (change HereGoal _ _ _ _ _ _ _; refine here_at 10 rfl ?_; change HereGoal _ _ _ _ _ _ _; refine hereG.cells_ 27 [.int .i64 ((x.1 * 7 % 41 : Nat) : Int), .int .i64 1] rfl rfl (fun En V w hp => by simp only [SV.denL, SV.den]; rw [hF_eq]) ?_; change HereGoal _ _ _ _ _ _ _; rcases put_cases (fillR Qv x.1) (hF x.1) (rowQ Qv x.1).2.2 with hc | hc | hc | hc <;> (change HereGoal _ _ _ _ _ _ _; refine here_go (gmOk E) ?_)) | (change @Exists (Nat × List (PRow Int) × List (PRow V3)) (fun _ => updPK _ _ _ _ _ _); first | (have _ := hS3; refine @Exists.intro (Nat × List (PRow Int) × List (PRow V3)) _ (x.1 + 1, x.2.1 ++ S3, x.2.2 ++ S2) ?_) | (have _ := hS1; refine @Exists.intro (Nat × List (PRow Int) × List (PRow V3)) _ (x.1 + 1, x.2.1, x.2.2 ++ S1) ?_) | (have _ := hc; refine @Exists.intro (Nat × List (PRow Int) × List (PRow V3)) _ (x.1 + 1, x.2.1, x.2.2) ?_) | (refine @Exists.intro (Nat × List (PRow Int) × List (PRow V3)) _ (0, [], []) ?_)) | with_reducible rfl | (intro h; first | (exfalso; omega; done) | (exfalso; first | exact h trivial | omega | (rw [longV_at (i := x.1) (by omega) (by omega)] at hlg; cases hlg; done); done) | skip) | (refine And.intro ?_ ?_) | exact True.intro | (refine @Exists.intro Unit _ () ?_) | (refine @Exists.intro (_ = _) _ rfl ?_) | (refine @Exists.intro (List (PRow Int) × List (PRow V3)) _ (x.2.1, x.2.2) ?_) | (change NextGoal _ _ _; refine next_go ?_) | (change LoopGoal _ _ _ _ _ _; refine loop_keep 5 [5, 6, 16, 17] (gmOk E) rfl [2, 7, 10] (X := (Nat × List (PRow Int) × List (PRow V3))) (fun x => [(18, .int .i64 ((x.1 : Nat) : Int))]) (fun x => [(3, .pr (storePr E x.2.1 (fillR Qv x.1))), (5, .pr (poolPr Zz.encI 3 x.2.1)), (4, .pr (refPr E x.2.2 (fillR Qv x.1))), (6, .pr (poolPr Zz.encV 34 x.2.2))]) [] (fun x => x.1 ≤ Qv.length ∧ ∀ j, j < x.1 → (rowQ Qv j).2.2.length ≤ 20) (fun x => Qv.length - x.1) ⟨(0, [], []), ?_⟩ (fun x hI => ?_)) | (change @Exists ((Nat × List (PRow Int) × List (PRow V3))) (fun _ => updPK _ _ _ _ _ _); refine @Exists.intro ((Nat × List (PRow Int) × List (PRow V3))) _ ((0, [], [])) ?_) | (change CallGoal _ _ _ _ _ _; first | (refine call_rule (sNew E []) [] rfl True.intro rfl (fun (y1 : Unit) hy1 => ?_)))
  all_goals first | (dsimp only; first | rfl | omega) | rfl | omega | exact Nat.zero_le _ | (rw [heads_len]; omega) | (show _ < _; rw [heads_len]; omega) | (rw [show x.1 = Qv.length from by omega]; done) | (have e := fillS_yes hc; show Ch.pr (storePr E _ (insR _ _)) = _; rw [← e]; rfl) | (have e := fillS_yes hc; show Ch.pr (refPr E _ (insR _ _)) = _; rw [← e]; rfl) | (have e := fillS_no (R := (fillR Qv x.1)) (hd := hF x.1) (row := (rowQ Qv x.1).2.2) (by intro q; first | (rw [hc] at q; exact absurd q.1 (by decide)) | (rw [hc.2] at q; exact absurd q.2.1 (by decide)) | omega); dsimp only; exact congrArg (fun R => Ch.pr (storePr E _ R)) e.symm) | (have e := fillS_no (R := (fillR Qv x.1)) (hd := hF x.1) (row := (rowQ Qv x.1).2.2) (by intro q; first | (rw [hc] at q; exact absurd q.1 (by decide)) | (rw [hc.2] at q; exact absurd q.2.1 (by decide)) | omega); dsimp only; exact congrArg (fun R => Ch.pr (refPr E _ R)) e.symm) | exact len_next hI.2 (by omega) _ (by assumption)
set_option maxHeartbeats 4000000 in
theorem filled_many (E : Nat → Addr) (Qv : List (PRow V3)) (n k : Nat) (h : n = Qv.length ∧ ¬ Qv.length ≤ 40) : Does (Gm E) 39 ⟨[.sl 0 n k], [(0, .ro Hdr encS (headsV Qv) k), (1, .fo (roPool Zz.encV Qv)), (2, .fo (tzF 10))], 3, 3, Unit, fun _ => True, fun _ => .tup [.nilp, .nilp, .ff], fun _ => []⟩ := by
  obtain ⟨rfl, hl⟩ := h
  refine fn_intro (gmOk E) 45 3 [] Tryz.func39 rfl rfl rfl rfl rfl ?_
  repeat' first | (intro h; first | (exfalso; omega; done) | (exfalso; first | exact h trivial | omega; done) | skip) | (refine And.intro ?_ ?_) | exact True.intro | (refine @Exists.intro Unit _ () ?_) | (refine @Exists.intro (_ = _) _ rfl ?_) | (change CallGoal _ _ _ _ _ _; first | (refine call_rule (sNew E []) [] rfl True.intro rfl (fun (y1 : Unit) hy1 => ?_)))
  all_goals first | rfl | omega
set_option maxHeartbeats 4000000 in
theorem filled_long (E : Nat → Addr) (Qv : List (PRow V3)) (n k : Nat) (h : n = Qv.length ∧ Qv.length ≤ 40 ∧ longV Qv = true) : Does (Gm E) 39 ⟨[.sl 0 n k], [(0, .ro Hdr encS (headsV Qv) k), (1, .fo (roPool Zz.encV Qv)), (2, .fo (tzF 10))], 3, 3, Unit, fun _ => True, fun _ => .tup [.nilp, .nilp, .ff], fun _ => []⟩ := by
  obtain ⟨rfl, hl, hlg⟩ := h
  refine fn_intro (gmOk E) 45 3 [2, 7, 10] Tryz.func39 rfl rfl rfl rfl rfl ?_
  repeat' first | (change CallGoal _ _ _ _ _ _; first | (change CallGoal _ 81 _ _ _ _; first | (refine call_rule (qPutHas E x.2.2 (fillR Qv x.1) (hF x.1) (rowQ Qv x.1).2.2 _ _ ⟨⟨rfl, by omega, by have := fillR_len (Qv := Qv) x.1; omega, fillR_ris _, fillR_right _⟩, hc⟩) [4, 6, 25] rfl (And.intro rfl (And.intro rfl (And.intro rfl True.intro))) rfl (fun (u1 : Unit) hu1 => ?_)) | (refine call_rule (qPutForm E x.2.2 (fillR Qv x.1) (hF x.1) (rowQ Qv x.1).2.2 _ _ ⟨⟨rfl, by omega, by have := fillR_len (Qv := Qv) x.1; omega, fillR_ris _, fillR_right _⟩, hc.1, hc.2⟩) [4, 6, 25] rfl (And.intro rfl (And.intro rfl (And.intro rfl True.intro))) rfl (fun (u1 : Unit) hu1 => ?_)) | (refine call_rule (qPutFull E x.2.2 (fillR Qv x.1) (hF x.1) (rowQ Qv x.1).2.2 _ _ ⟨⟨rfl, by omega, by have := fillR_len (Qv := Qv) x.1; omega, fillR_ris _, fillR_right _⟩, hc.1, hc.2.1, by have := fillR_len (Qv := Qv) x.1; omega, hc.2.2⟩) [4, 6, 25] rfl (And.intro rfl (And.intro rfl (And.intro rfl True.intro))) rfl (fun (S1 : List (PRow V3)) hS1 => ?_)) | (refine call_rule (qPutY E x.2.2 (fillR Qv x.1) (hF x.1) (rowQ Qv x.1).2.2 _ _ ⟨⟨rfl, by omega, by have := fillR_len (Qv := Qv) x.1; omega, fillR_ris _, fillR_right _⟩, hc.1, hc.2.1, by have := fillR_len (Qv := Qv) x.1; omega, hc.2.2⟩) [4, 6, 25] rfl (And.intro rfl (And.intro rfl (And.intro rfl True.intro))) rfl (fun (S2 : List (PRow V3)) hS2 => ?_))) | (change CallGoal _ 16 _ _ _ _; first | (refine call_rule (sPut E x.2.1 (fillR Qv x.1) (hF x.1) (rowQ Qv x.1).2.2 _ _ ⟨rfl, hc.1, hc.2.1, by omega, by have := fillR_len (Qv := Qv) x.1; omega, room_ins (fillR_right _) hc.2.1 hc.2.2⟩) [3, 5, 25, 2] rfl (And.intro rfl (And.intro rfl (And.intro rfl (And.intro rfl True.intro)))) rfl (fun (S3 : List (PRow Int)) hS3 => ?_)))) | (change JoinGoal _ _ _ _ _ _ _ _; refine join_stop (gmOk E) ?_) | (change HereGoal _ _ _ _ _ _ _; refine here_at 2 rfl ?_; change HereGoal _ _ _ _ _ _ _; refine hereG.poolNil Zz.encI 3 ?_; change HereGoal _ _ _ _ _ _ _; refine hereG.poolNil Zz.encV 34 ?_; change HereGoal _ _ _ _ _ _ _; refine hereG.nilArr encE 37 ?_; change HereGoal _ _ _ _ _ _ _; refine hereG.cells_ 4 [.sl 7 0 0] rfl rfl (fun En V w hp => by have q := says (c := 8) rfl hp; simp only [SV.denL, SV.den] at q ⊢; rw [q]) ?_; change HereGoal _ _ _ _ _ _ _; refine hereG.shut (Γ0 := Gm E) rfl (.cells 70 [.sl 1 ((([] : List EyI), 0)).1.length ((([] : List EyI), 0)).2]) [(1, .arr ((Int × Int) × Hdr) encE 37 (refL [] ((([] : List EyI), 0)).1) ((([] : List EyI), 0)).2)] [4, 7] (And.intro rfl (And.intro rfl True.intro)) rfl ?_; change HereGoal _ _ _ _ _ _ _; refine hereG.hide (X := (List EyI × Nat)) (p := RefOk [] []) (Φ := fun x => grp (Gm E) [(0, .cells 70 [.sl 1 x.1.length x.2]), (1, .arr ((Int × Int) × Hdr) encE 37 (refL [] x.1) x.2)]) 4 ((([] : List EyI), 0)) (⟨rfl, RefV.nil, Nat.le_refl _⟩) rfl ?_; change HereGoal _ _ _ _ _ _ _; refine here_go (gmOk E) ?_) | (change HereGoal _ _ _ _ _ _ _; refine here_at 7 rfl ?_; change HereGoal _ _ _ _ _ _ _; refine hereG.foOut 1 x.1 (rowQ Qv x.1) rfl (rowQ_get (by omega)) ?_; change HereGoal _ _ _ _ _ _ _; refine here_set 8 (.sl 25 (rowQ Qv x.1).2.2.length (rowQ Qv x.1).2.1) rfl (fun _ => by simp only [SV.bd]; omega) (fun En V w hp => (head_den (i := x.1) (rowQ Qv x.1)).trans (says (c := 26) rfl hp).symm) ?_; change HereGoal _ _ _ _ _ _ _; refine here_go (gmOk E) ?_) | (change HereGoal _ _ _ _ _ _ _; refine here_at 10 rfl ?_; change HereGoal _ _ _ _ _ _ _; refine hereG.cells_ 27 [.int .i64 ((x.1 * 7 % 41 : Nat) : Int), .int .i64 1] rfl rfl (fun En V w hp => by simp only [SV.denL, SV.den]; rw [hF_eq]) ?_; change HereGoal _ _ _ _ _ _ _; rcases put_cases (fillR Qv x.1) (hF x.1) (rowQ Qv x.1).2.2 with hc | hc | hc | hc <;> (change HereGoal _ _ _ _ _ _ _; refine here_go (gmOk E) ?_)) | (change @Exists (Nat × List (PRow Int) × List (PRow V3)) (fun _ => updPK _ _ _ _ _ _); first | (have _ := hS3; refine @Exists.intro (Nat × List (PRow Int) × List (PRow V3)) _ (x.1 + 1, x.2.1 ++ S3, x.2.2 ++ S2) ?_) | (have _ := hS1; refine @Exists.intro (Nat × List (PRow Int) × List (PRow V3)) _ (x.1 + 1, x.2.1, x.2.2 ++ S1) ?_) | (have _ := hc; refine @Exists.intro (Nat × List (PRow Int) × List (PRow V3)) _ (x.1 + 1, x.2.1, x.2.2) ?_) | (refine @Exists.intro (Nat × List (PRow Int) × List (PRow V3)) _ (0, [], []) ?_)) | with_reducible rfl | (intro h; first | (exfalso; omega; done) | (exfalso; first | exact h trivial | omega | (rw [longV_no (fun j hj => by have := hI.2 j (by omega); omega)] at hlg; cases hlg; done); done) | skip) | (refine And.intro ?_ ?_) | exact True.intro | (refine @Exists.intro Unit _ () ?_) | (refine @Exists.intro (_ = _) _ rfl ?_) | (change NextGoal _ _ _; refine next_go ?_) | (change LoopGoal _ _ _ _ _ _; refine loop_keep 5 [5, 6, 16, 17] (gmOk E) rfl [2, 7, 10] (X := (Nat × List (PRow Int) × List (PRow V3))) (fun x => [(18, .int .i64 ((x.1 : Nat) : Int))]) (fun x => [(3, .pr (storePr E x.2.1 (fillR Qv x.1))), (5, .pr (poolPr Zz.encI 3 x.2.1)), (4, .pr (refPr E x.2.2 (fillR Qv x.1))), (6, .pr (poolPr Zz.encV 34 x.2.2))]) [] (fun x => x.1 ≤ Qv.length ∧ ∀ j, j < x.1 → (rowQ Qv j).2.2.length ≤ 20) (fun x => Qv.length - x.1) ⟨(0, [], []), ?_⟩ (fun x hI => ?_)) | (change @Exists ((Nat × List (PRow Int) × List (PRow V3))) (fun _ => updPK _ _ _ _ _ _); refine @Exists.intro ((Nat × List (PRow Int) × List (PRow V3))) _ ((0, [], [])) ?_) | (change CallGoal _ _ _ _ _ _; first | (refine call_rule (sNew E []) [] rfl True.intro rfl (fun (y1 : Unit) hy1 => ?_)))
  all_goals first | (dsimp only; first | rfl | omega) | rfl | omega | exact Nat.zero_le _ | (rw [heads_len]; omega) | (show _ < _; rw [heads_len]; omega) | (have e := fillS_yes hc; show Ch.pr (storePr E _ (insR _ _)) = _; rw [← e]; rfl) | (have e := fillS_yes hc; show Ch.pr (refPr E _ (insR _ _)) = _; rw [← e]; rfl) | (have e := fillS_no (R := (fillR Qv x.1)) (hd := hF x.1) (row := (rowQ Qv x.1).2.2) (by intro q; first | (rw [hc] at q; exact absurd q.1 (by decide)) | (rw [hc.2] at q; exact absurd q.2.1 (by decide)) | omega); dsimp only; exact congrArg (fun R => Ch.pr (storePr E _ R)) e.symm) | (have e := fillS_no (R := (fillR Qv x.1)) (hd := hF x.1) (row := (rowQ Qv x.1).2.2) (by intro q; first | (rw [hc] at q; exact absurd q.1 (by decide)) | (rw [hc.2] at q; exact absurd q.2.1 (by decide)) | omega); dsimp only; exact congrArg (fun R => Ch.pr (refPr E _ R)) e.symm) | exact len_next hI.2 (by omega) _ (by assumption) | (exfalso; rw [longV_no (fun j hj => by have := hI.2 j (by omega); omega)] at hlg; cases hlg)
end Go.Proofs.YtcnbngiplfoomaaGreatDoor
namespace Go.Proofs.YtcnbngiplfoomaaGreatDoor
open Go.Zz Go.Px
set_option linter.unusedVariables false
set_option linter.unusedSectionVars false
set_option linter.unusedSimpArgs false
set_option maxRecDepth 10000
set_option maxHeartbeats 4000000 in
theorem sortedU_z (E : Nat → Addr) (L : List (Int × Option Nat)) (h : L.length ≤ 49) : Does (Gm E) 66 ⟨[.fn 108 [.ptr 0 0]], [(0, .cells 104 [.mp 1]), (1, .pr (mapPr veU veP L))], 2, 3, List Int × Nat, fun x => (x.1.Perm (L.map (·.1)) ∧ OrdI x.1 0 x.1.length) ∧ x.1.length ≤ x.2, fun x => .sl 2 x.1.length x.2, fun x => [(0, .cells 104 [.mp 1]), (1, .pr (mapPr veU veP L)), (2, .arr Int encU 56 x.1 x.2)]⟩ := by
  refine fn_intro (gmOk E) 9 2 [] Tryz.func66 rfl rfl rfl rfl rfl ?_
  repeat' first | (intro h; first | (exfalso; omega; done) | skip) | (refine And.intro ?_ ?_) | exact True.intro | (refine @Exists.intro Unit _ () ?_) | (refine @Exists.intro (_ = _) _ rfl ?_) | (refine @Exists.intro (List Int × Nat) _ (c, x.2) ?_) | (change CallGoal _ _ _ _ _ _; first | (refine call_rule (collU_z E L (by omega)) [0, 1] rfl (And.intro rfl (And.intro rfl True.intro)) rfl (fun (x : List Int × Nat) (hx : x.1.Perm (L.map (·.1)) ∧ x.1.length ≤ x.2) => ?_)) | (refine call_rule (sortU_z E x.1 _ x.2 ⟨rfl, by have q := hx.1.length_eq; rw [List.length_map] at q; omega⟩) [2] rfl (And.intro rfl True.intro) rfl (fun (c : List Int) hc => ?_)))
  all_goals first | rfl | omega | exact hc.1.trans hx.1 | (have q := hc.1.length_eq; exact q ▸ hc.2) | (rw [hc.1.length_eq]; first | exact hc.2 | exact hx.2) | exact hc.1.length_eq.symm
set_option maxHeartbeats 4000000 in
theorem sMasksA (E : Nat → Addr) (Q : List (PRow Int)) (R : List Ey) (h : (masksR R).length ≤ 49) : Does (Gm E) 20 ⟨[.ptr 0 0], [(0, .pr (storePr E Q R))], 1, 2, Nat, fun q => (masksR R).length ≤ q, fun q => .sl 1 (masksR R).length q, fun q => [(0, .pr (storePr E Q R)), (1, .arr Int encU 56 (masksR R) q)]⟩ := by
  rename _ ≤ 49 => hm
  refine DoesC.does (fn_start Tryz.func20 rfl rfl rfl ?_)
  change EntryGoal _ _ _ _ _
  refine entryG.ex 0 rfl (fun x hx => ?_)
  change EntryGoal _ _ _ _ _
  refine entryG.open_ 0 rfl 5 rfl rfl ?_
  change EntryGoal _ _ _ _ _
  refine entry_go (gmOk E) 9 1 [] Tryz.func20 rfl rfl rfl rfl ?_
  repeat' first | (change RetGoal _ _ _ _ _; first | (have hc := hx.masks (hy.1.1.trans (by rw [show ((ptrL (x.1.map (fun y : Int × List Ey => y.1)) x.2.2.2).map (·.1)) = _ from ptrL_keys])) hy.1.2; refine retG'.cast 7 (.arr Int encU 56 (masksR R) y.2) rfl (by rw [hc]) ?_; change RetGoal _ _ _ _ _; (refine retG'.shut (Γ0 := Gm E) rfl (.cells 108 [.mp 1, .mp 2, .mp 3]) [(1, .pr (mapPr veU veP (ptrL ((x).1.map (fun y : Int × List Ey => y.1)) (x).2.2.2))), (2, .pr (mapPr (Enc.ag (Zz.encP Zz.encI Zz.encI)) vePl (placL (x).2.1 (x).2.2.2))), (3, .pr (mapPr (Enc.ag (Zz.encP encU Zz.encI)) veU (x).2.2.1)), (4, .pr (restPr (tabP E Q) (tabL (x).1) (x).2.2.2))] [0, 2, 3, 4, 5] (And.intro rfl (And.intro rfl (And.intro rfl (And.intro rfl (And.intro rfl True.intro))))) rfl ?_; change RetGoal _ _ _ _ _; refine retG'.hide (X := XT) (p := XOk R) (Φ := fun x => grp (Gm E) (stoH E Q x)) 0 (x) (hx) rfl ?_; change RetGoal _ _ _ _ _; refine ret_done rfl ?_))) | (intro h; first | (exfalso; omega; done) | skip) | (refine And.intro ?_ ?_) | exact True.intro | (refine @Exists.intro Unit _ () ?_) | (refine @Exists.intro (_ = _) _ rfl ?_) | (refine @Exists.intro (Nat) _ ?_ ?_; rotate_left) | (change CallGoal _ _ _ _ _ _; first | (refine call_rule (keysU_z E (ptrL (x.1.map (fun y : Int × List Ey => y.1)) x.2.2.2)) [2] rfl (And.intro rfl True.intro) rfl (fun y1 hy1 => ?_)) | (refine call_rule (sortedU_z E (ptrL (x.1.map (fun y : Int × List Ey => y.1)) x.2.2.2) (by rw [keys_len, hx.tlen]; exact hm)) [6, 2] rfl (And.intro rfl (And.intro rfl True.intro)) rfl (fun (y : List Int × Nat) hy => ?_)))
  all_goals first | rfl | omega | (rw [hc]; done) | (have q := hy.2; rw [hc] at q; exact q)
end Go.Proofs.YtcnbngiplfoomaaGreatDoor
namespace Go.Proofs.YtcnbngiplfoomaaGreatDoor
open Go.Zz Go.Px
set_option linter.unusedVariables false
set_option linter.unusedSectionVars false
set_option linter.unusedSimpArgs false
set_option maxRecDepth 10000
section
variable {Qv : List (PRow V3)} {n i : Nat} {R : List Ey} {h : Hd} {m : Int}
theorem mem_inR : h ∈ inR R m ↔ ∃ r, (h, r) ∈ R ∧ mkI r = m := by
  unfold inR
  simp only [List.mem_map, List.mem_filter, decide_eq_true_eq]
  constructor
  · rintro ⟨e, ⟨h1, h2⟩, rfl⟩; exact ⟨e.2, h1, h2⟩
  · rintro ⟨r, h1, h2⟩; exact ⟨(h, r), ⟨h1, h2⟩, rfl⟩
theorem any_mask (hR : ∀ e ∈ R, rightV e.2 = true) (hi : i < (masksR R).length) : anyM R ((masksR R).getD i 0) = true := by
  have h1 : (masksR R).getD i 0 ∈ masksR R := by rw [List.getD_eq_getElem?_getD, List.getElem?_eq_getElem hi]; exact List.getElem_mem _
  obtain ⟨e, he, q⟩ := (mem_masksR hR).1 h1
  unfold anyM; exact List.any_eq_true.2 ⟨e, he, by simpa using q⟩
theorem inR_len : (inR R m).length ≤ R.length := by unfold inR; rw [List.length_map]; exact List.length_filter_le _ _
end
end Go.Proofs.YtcnbngiplfoomaaGreatDoor
namespace Go.Proofs.YtcnbngiplfoomaaGreatDoor
open Go.Zz Go.Px
set_option linter.unusedVariables false
set_option linter.unusedSectionVars false
set_option linter.unusedSimpArgs false
set_option maxRecDepth 10000
section
variable {R : List Ey} {w x M : Nat} {i : Nat} {h : Hd}
def fitsN (M w x : Nat) : Bool := decide (lessN w M = 0) && decide (M &&& x = 0)
def qR (R : List Ey) (w x : Nat) : List (Int × Int) := (R.filter fun e => fitsN (maskN e.2) w x).map fun e => e.1
def accH (R : List Ey) (w x : Nat) (i : Nat) : List (Int × Int) := ((masksR R).take i).flatMap fun m => if fitsN m.toNat w x = true then inR R m else []
theorem accH_next (hi : i < (masksR R).length) : accH R w x (i + 1) = accH R w x i ++ (if fitsN ((masksR R).getD i 0).toNat w x = true then inR R ((masksR R).getD i 0) else []) := by
  unfold accH; rw [take_snoc (d := 0) hi, List.flatMap_append]; simp
theorem accH_len : (accH R w x i).length ≤ i * R.length := by
  induction i with
  | zero => simp [accH]
  | succ i ih =>
    by_cases hi : i < (masksR R).length
    · rw [accH_next hi, List.length_append, Nat.succ_mul]
      have : (if fitsN ((masksR R).getD i 0).toNat w x = true then inR R ((masksR R).getD i 0) else []).length ≤ R.length := by
        split
        · exact inR_len
        · simp
      omega
    · unfold accH at ih ⊢
      rw [List.take_of_length_le (by omega)] at ih ⊢
      rw [Nat.succ_mul]; omega
theorem mask_nat (hr : ∀ e ∈ R, rightV e.2 = true) (hi : i < (masksR R).length) : ∃ M : Nat, (masksR R).getD i 0 = (M : Int) ∧ anyM R (M : Int) = true ∧ M < 1024 := by
  have h1 : (masksR R).getD i 0 ∈ masksR R := by rw [List.getD_eq_getElem?_getD, List.getElem?_eq_getElem hi]; exact List.getElem_mem _
  obtain ⟨e, he, q⟩ := (mem_masksR hr).1 h1
  refine ⟨maskN e.2, q.symm, ?_, maskN_lt (right_kinds (hr e he))⟩
  unfold anyM; exact List.any_eq_true.2 ⟨e, he, by simp [mkI]⟩
theorem qR_rises (hs : Rises ltE R) : Rises ltH (qR R w x) := by
  unfold qR Rises; exact List.Pairwise.map _ (fun a b h => h) (List.Pairwise.filter _ hs)
theorem qR_eq (hs : Rises ltE R) (hr : ∀ e ∈ R, rightV e.2 = true) (hi : ¬ i < (masksR R).length) : ordS ltH (accH R w x i) = qR R w x := by
  refine Rises.ext ordH (ordS_rises ordH _) (qR_rises hs) fun h => ?_
  rw [mem_ordS]
  unfold accH qR
  rw [List.take_of_length_le (by omega), List.mem_flatMap]
  simp only [List.mem_map, List.mem_filter]
  constructor
  · rintro ⟨m, hm, q⟩
    split at q
    · rename_i hf
      obtain ⟨r, h1, h2⟩ := mem_inR.1 q
      refine ⟨(h, r), ⟨h1, ?_⟩, rfl⟩
      rw [← h2] at hf; exact hf
    · cases q
  · rintro ⟨e, ⟨h1, h2⟩, rfl⟩
    exact ⟨mkI e.2, (mem_masksR hr).2 ⟨e, h1, rfl⟩, by rw [if_pos (show fitsN (mkI e.2).toNat w x = true from h2)]; exact mem_inR.2 ⟨e.2, h1, rfl⟩⟩
theorem qR_len : (qR R w x).length ≤ R.length := by unfold qR; rw [List.length_map]; exact List.length_filter_le _ _
end
set_option maxHeartbeats 4000000 in
theorem holds_z (E : Nat → Addr) (M w : Nat) (h : M < 2 ^ 64 ∧ w < 2 ^ 64) : Does (Gm E) 129 (Sp0 [.int .u64 ((M : Nat) : Int), .int .u64 ((w : Nat) : Int)] [] 0 (.bl (decide (lessN w M = 0)))) := by
  refine fn_intro (gmOk E) 9 0 [] Tryz.func129 rfl rfl rfl rfl rfl ?_
  repeat' first | (intro h; first | (exfalso; omega; done) | skip) | (refine And.intro ?_ ?_) | exact True.intro | (refine @Exists.intro Unit _ () ?_) | (refine @Exists.intro (_ = _) _ rfl ?_)
  all_goals first | rfl | omega | (rw [bitI_less h.2 h.1]; exact decide_eq_decide.2 (by omega))
set_option maxHeartbeats 4000000 in
theorem meets_z (E : Nat → Addr) (M x : Nat) (h : M < 2 ^ 64 ∧ x < 2 ^ 64) : Does (Gm E) 130 (Sp0 [.int .u64 ((M : Nat) : Int), .int .u64 ((x : Nat) : Int)] [] 0 (.bl (!decide (M &&& x = 0)))) := by
  refine fn_intro (gmOk E) 9 0 [] Tryz.func130 rfl rfl rfl rfl rfl ?_
  repeat' first | (intro h; first | (exfalso; omega; done) | skip) | (refine And.intro ?_ ?_) | exact True.intro | (refine @Exists.intro Unit _ () ?_) | (refine @Exists.intro (_ = _) _ rfl ?_)
  all_goals first | rfl | omega | (rw [bitI_and h.1 h.2, ← decide_not]; exact decide_eq_decide.2 (by omega))
set_option maxHeartbeats 4000000 in
theorem fits_z (E : Nat → Addr) (M w x : Nat) (h : M < 2 ^ 64 ∧ w < 2 ^ 64 ∧ x < 2 ^ 64) : Does (Gm E) 92 (Sp0 [.int .u64 ((M : Nat) : Int), .int .u64 ((w : Nat) : Int), .int .u64 ((x : Nat) : Int)] [] 0 (.bl (fitsN M w x))) := by
  have h0 := h
  refine fn_intro (gmOk E) 16 0 [] Tryz.func92 rfl rfl rfl rfl rfl ?_
  repeat' first | (intro h; first | (exfalso; omega; done) | skip) | (refine And.intro ?_ ?_) | exact True.intro | (refine @Exists.intro Unit _ () ?_) | (refine @Exists.intro (_ = _) _ rfl ?_) | (change CallGoal _ _ _ _ _ _; first | (refine call0 (holds_z E M w ⟨h0.1, h0.2.1⟩) [] rfl True.intro rfl ?_) | (refine call0 (meets_z E M x ⟨h0.1, h0.2.2⟩) [] rfl True.intro rfl ?_))
  all_goals first | rfl | omega | (unfold fitsN; simp_all; done)
theorem acc_bd {R : List Ey} {w x i : Nat} (hi : i ≤ 49) (hR : R.length ≤ 128) : (accH R w x i).length ≤ 6272 := Nat.le_trans accH_len (Nat.mul_le_mul hi hR)
theorem acc_yes {R : List Ey} {w x i M : Nat} (hi : i < (masksR R).length) (hM : (masksR R).getD i 0 = (M : Int)) (hf : fitsN M w x = true) : accH R w x (i + 1) = accH R w x i ++ inR R (M : Int) := by rw [accH_next hi, hM, Int.toNat_natCast, if_pos hf]
theorem acc_no {R : List Ey} {w x i M : Nat} (hi : i < (masksR R).length) (hM : (masksR R).getD i 0 = (M : Int)) (hf : fitsN M w x = false) : accH R w x (i + 1) = accH R w x i := by rw [accH_next hi, hM, Int.toNat_natCast, if_neg (by rw [hf]; simp), List.append_nil]
set_option maxHeartbeats 4000000 in
theorem qHandles (E : Nat → Addr) (Q : List (PRow Int)) (R : List Ey) (w x : Nat) (h : (w < 2 ^ 64 ∧ x < 2 ^ 64) ∧ (R.length ≤ 128 ∧ (masksR R).length ≤ 49) ∧ Rises ltE R ∧ ∀ e ∈ R, rightV e.2 = true) : Does (Gm E) 42 ⟨[.agg [.int .u64 ((w : Nat) : Int), .int .u64 ((x : Nat) : Int)], .ptr 0 0], [(0, .pr (storePr E Q R))], 1, 2, Nat, fun q => (qR R w x).length ≤ q, fun q => .sl 1 (qR R w x).length q, fun q => [(0, .pr (storePr E Q R)), (1, .arr (Int × Int) (Zz.encP Zz.encI Zz.encI) 28 (qR R w x) q)]⟩ := by
  obtain ⟨hw, hR, hs, hr⟩ := h
  refine fn_intro (gmOk E) 29 1 [2, 5] Tryz.func42 rfl rfl rfl rfl rfl ?_
  repeat' first | (change CallGoal _ _ _ _ _ _; first | (change CallGoal _ 20 _ _ _ _; first | (refine call_rule (sMasksA E Q R hR.2) [0] rfl (And.intro rfl True.intro) rfl (fun (q1 : Nat) hq1 => ?_))) | (change CallGoal _ 28 _ _ _ _; first | (refine call_rule (sInY E Q R ((M : Nat) : Int) hany) [0] rfl (And.intro rfl True.intro) rfl (fun (q2 : Nat) hq2 => ?_))) | (change CallGoal _ 76 _ _ _ _; first | (refine call_rule (handles_z E (accH R w x y.1) _ y.2 ⟨rfl, by have := acc_bd (w := w) (x := x) (i := y.1) (by omega) hR.1; omega⟩) [2] rfl (And.intro rfl True.intro) rfl (fun (q3 : Nat) hq3 => ?_)))) | (change JoinGoal _ _ _ _ _ _ _ _; refine join_stop (gmOk E) ?_) | (change HereGoal _ _ _ _ _ _ _; refine here_at 2 rfl ?_; change HereGoal _ _ _ _ _ _ _; refine hereG.nilArr (Zz.encP Zz.encI Zz.encI) 28 ?_; change HereGoal _ _ _ _ _ _ _; refine here_set 5 (.sl 2 0 0) rfl (fun _ => by simp only [SV.bd]; omega) (fun En V w hp => by have q := says (c := 3) rfl hp; simp only [SV.denL, SV.den] at q ⊢; rw [q]) ?_; change HereGoal _ _ _ _ _ _ _; refine hereG.drop 3 ?_; change HereGoal _ _ _ _ _ _ _; refine here_go (gmOk E) ?_) | (change HereGoal _ _ _ _ _ _ _; refine here_at 5 rfl ?_; change HereGoal _ _ _ _ _ _ _; (obtain ⟨M, hM, hany, hlt⟩ := mask_nat hr (i := y.1) (by omega)); change HereGoal _ _ _ _ _ _ _; refine here_set 7 (.int .u64 ((M : Nat) : Int)) rfl (fun _ => trivial) (fun En V w hp => by simp only [SV.den]; exact congrArg (fun z => Value.int .u64 z) hM) ?_; change HereGoal _ _ _ _ _ _ _; refine here_go (gmOk E) ?_) | with_reducible rfl | (intro h; first | (exfalso; omega; done) | (exfalso; omega; done) | skip) | (refine And.intro ?_ ?_) | exact True.intro | (refine @Exists.intro Unit _ () ?_) | (refine @Exists.intro (_ = _) _ rfl ?_) | (change NextGoal _ _ _; refine next_go ?_) | (change LoopGoal _ _ _ _ _ _; refine loop_keep 3 [1, 2, 4, 9, 10] (gmOk E) rfl [2, 5] (X := (Nat × Nat)) (fun y => [(11, .int .i64 ((y.1 : Nat) : Int)), (5, .sl 2 (accH R w x y.1).length y.2)]) (fun y => [(2, .arr (Int × Int) (Zz.encP Zz.encI Zz.encI) 28 (accH R w x y.1) y.2)]) [] (fun y => y.1 ≤ (masksR R).length ∧ (accH R w x y.1).length ≤ y.2) (fun y => (masksR R).length - y.1) ⟨(0, 0), ?_⟩ (fun y hI => ?_)) | (change @Exists ((Nat × Nat)) (fun _ => updPK _ _ _ _ _ _); refine @Exists.intro ((Nat × Nat)) _ ((y.1 + 1, ?_)) ?_; rotate_left 1) | (refine @Exists.intro (Nat) _ ?_ ?_; rotate_left) | (change CallGoal _ _ _ _ _ _; first | (refine call0 (fits_z E M w x ⟨by omega, hw.1, hw.2⟩) [] rfl True.intro rfl ?_))
  all_goals first
| (dsimp only; first | rfl | omega)
| rfl
| omega
| exact Nat.zero_le _
| (have q := acc_bd (w := w) (x := x) (i := y.1) (by omega) hR.1; have q4 := inR_len (R := R) (m := (M : Int)); first | omega | (change _ * 16 ≤ _; omega))
| (dsimp only; rw [acc_no (by omega) hM (by assumption)]; done)
| (dsimp only; rw [acc_yes (by omega) hM (by assumption), List.length_append]; done)
| (dsimp only; rw [acc_yes (by omega) hM (by assumption), List.take_length, List.take_length]; done)
| (rw [qR_eq hs hr (i := y.1) (by omega)]; done)
| (rw [qR_eq hs hr (i := y.1) (by omega)] at hq3; exact hq3)
| exact hI.2
| (dsimp only; rw [acc_no (by omega) hM (by assumption)]; exact hI.2)
| (refine Nat.le_trans (Nat.le_of_eq ?_) (by assumption); dsimp only; rw [acc_yes (by omega) hM (by assumption), List.length_append])
end Go.Proofs.YtcnbngiplfoomaaGreatDoor
namespace Go.Proofs.YtcnbngiplfoomaaGreatDoor
open Go.Zz Go.Px
set_option linter.unusedVariables false
set_option linter.unusedSectionVars false
set_option linter.unusedSimpArgs false
set_option maxRecDepth 10000
set_option maxHeartbeats 4000000 in
theorem qCount (E : Nat → Addr) (Q : List (PRow Int)) (R : List Ey) (w x : Nat) (h : (w < 2 ^ 64 ∧ x < 2 ^ 64) ∧ (R.length ≤ 128 ∧ (masksR R).length ≤ 49) ∧ Rises ltE R ∧ ∀ e ∈ R, rightV e.2 = true) : Does (Gm E) 44 ⟨[.agg [.int .u64 ((w : Nat) : Int), .int .u64 ((x : Nat) : Int)], .ptr 0 0], [(0, .pr (storePr E Q R))], 1, 1, Unit, fun _ => True, fun _ => .int .i64 (((qR R w x).length : Nat) : Int), fun _ => [(0, .pr (storePr E Q R))]⟩ := by
  refine fn_intro (gmOk E) 9 1 [] Tryz.func44 rfl rfl rfl rfl rfl ?_
  repeat' first | (intro h; first | (exfalso; omega; done) | skip) | (refine And.intro ?_ ?_) | exact True.intro | (refine @Exists.intro Unit _ () ?_) | (refine @Exists.intro (_ = _) _ rfl ?_) | (change CallGoal _ _ _ _ _ _; first | (refine call_rule (qHandles E Q R w x h) [0] rfl (And.intro rfl True.intro) rfl (fun (q : Nat) hq => ?_)))
  all_goals first | rfl | omega
set_option maxHeartbeats 4000000 in
theorem qBoth (E : Nat → Addr) (w x a b : Nat) (h : (w < 2 ^ 64 ∧ x < 2 ^ 64) ∧ a < 2 ^ 64 ∧ b < 2 ^ 64) : Does (Gm E) 46 (Sp0 [.agg [.int .u64 ((w : Nat) : Int), .int .u64 ((x : Nat) : Int)], .agg [.int .u64 ((a : Nat) : Int), .int .u64 ((b : Nat) : Int)]] [] 0 (.agg [.int .u64 (((w ||| a) : Nat) : Int), .int .u64 (((x ||| b) : Nat) : Int)])) := by
  refine fn_intro (gmOk E) 16 0 [] Tryz.func46 rfl rfl rfl rfl rfl ?_
  repeat' first | (intro h; first | (exfalso; omega; done) | skip) | (refine And.intro ?_ ?_) | exact True.intro | (refine @Exists.intro Unit _ () ?_) | (refine @Exists.intro (_ = _) _ rfl ?_)
  all_goals first | rfl | omega | exact bitI_or h.1.1 h.2.1 | exact bitI_or h.1.2 h.2.2 | exact (bitI_or h.1.1 h.2.1).symm | exact (bitI_or h.1.2 h.2.2).symm
set_option maxHeartbeats 4000000 in
theorem qFits (E : Nat → Addr) (row : Rw) (n k w x : Nat) (h : (n = row.length ∧ row.length ≤ 1000000 ∧ ∀ v ∈ row, 0 ≤ v.k ∧ v.k ≤ 9) ∧ w < 2 ^ 64 ∧ x < 2 ^ 64) : Does (Gm E) 48 (Sp0 [.agg [.int .u64 ((w : Nat) : Int), .int .u64 ((x : Nat) : Int)], .sl 0 n k] [(0, .ro V3 Zz.encV row k)] 1 (.bl (fitsN (maskN row) w x))) := by
  obtain ⟨⟨rfl, hm, hk⟩, hw⟩ := h; have h64 : maskN row < 2 ^ 64 := Nat.lt_trans (maskN_lt hk) (by decide)
  refine fn_intro (gmOk E) 12 1 [] Tryz.func48 rfl rfl rfl rfl rfl ?_
  repeat' first | (intro h; first | (exfalso; omega; done) | skip) | (refine And.intro ?_ ?_) | exact True.intro | (refine @Exists.intro Unit _ () ?_) | (refine @Exists.intro (_ = _) _ rfl ?_) | (change DrawGoal _ _ _ _ _ _; first | (change DrawGoal _ _ _ ({ dst := some 5, op := _, type := _, pos := _, after := _, guard := _ } :: _) _ _; refine draw_tree (gmOk E) [0, 1] (.leaf [(0, true), (2, true), (3, true), (4, true), (5, true), (1, false), (6, false), (7, true)]) (by kernel_rfl) ?_)) | (change CallGoal _ _ _ _ _ _; first | (refine call0 (mask_z E row _ k ⟨rfl, hm, hk⟩) [0] rfl (And.intro rfl True.intro) rfl ?_) | (refine call0 (fits_z E (maskN row) w x ⟨h64, hw⟩) [] rfl True.intro rfl ?_))
  all_goals first | rfl | omega
set_option maxHeartbeats 4000000 in
theorem qOf (E : Nat → Addr) (l m : List Int) (n k n2 k2 : Nat) (h : (n = l.length ∧ n2 = m.length) ∧ (kindsOk l = true ∧ kindsOk m = true) ∧ l.length ≤ 1000000 ∧ m.length ≤ 1000000) : Does (Gm E) 45 (Sp0 [.sl 0 n k, .sl 1 n2 k2] [(0, .ro Int Zz.encI l k), (1, .ro Int Zz.encI m k2)] 2 (.tup [.agg [.int .u64 (((maskI l) : Nat) : Int), .int .u64 (((maskI m) : Nat) : Int)], .nili])) := by
  obtain ⟨⟨rfl, rfl⟩, ⟨hl, hm⟩, h1, h2⟩ := h
  refine Does.back (a := false) (b := true) (fn_intro ((gmOk E).way false true) 40 2 [] Tryz.func45 rfl rfl rfl rfl rfl ?_)
  repeat' first | (intro h; first | (exfalso; omega; done) | (exfalso; first | exact h trivial | omega; done) | skip) | (refine And.intro ?_ ?_) | exact True.intro | (refine @Exists.intro Unit _ () ?_) | (refine @Exists.intro (_ = _) _ rfl ?_) | (change LoopGoal _ _ _ _ _ _; refine loop_rounds ((gmOk E).way false true) [] 3 ?_) | (change CallGoal _ _ _ _ _ _; first | (refine call0 (Does.way (mof_ok E l _ k ⟨rfl, hl, h1⟩) false true) [0] rfl (And.intro rfl True.intro) rfl ?_) | (refine call0 (Does.way (mof_ok E m _ k2 ⟨rfl, hm, h2⟩) false true) [1] rfl (And.intro rfl True.intro) rfl ?_))
  all_goals first | rfl | omega
theorem al_1 : maskI [0] = 1 ∧ maskI [1] = 2 := by decide
theorem al_2 : fitsN (maskN [⟨0, 0, 0⟩]) (maskI [0]) (maskI [1]) = true := by decide
theorem al_3 : fitsN (maskN [⟨0, 0, 0⟩, ⟨1, 0, 0⟩]) (maskI [0]) (maskI [1]) = false := by decide
set_option maxHeartbeats 4000000 in
theorem alive9_z (E : Nat → Addr)  : Does (Gm E) 38 (Sp0 [] [] 0 .tt) := by
  refine fn_intro (gmOk E) 30 0 [] Tryz.func38 rfl rfl rfl rfl rfl ?_
  repeat' first | (intro h; first | (exfalso; omega; done) | (exfalso; first | exact h trivial | omega | exact h al_2 | (rw [al_2] at h; cases h; done) | (rw [al_3] at h; cases h; done) | (rw [al_1.1, al_1.2] at h; exact h ⟨rfl, rfl⟩) | (have q1 := al_1.1; have q2 := al_1.2; rw [q1, q2] at h; omega); done) | skip) | (refine And.intro ?_ ?_) | exact True.intro | (refine @Exists.intro Unit _ () ?_) | (refine @Exists.intro (_ = _) _ rfl ?_) | (change CallGoal _ _ _ _ _ _; first | (refine call0 (qOf E [0] [1] _ _ _ _ ⟨⟨rfl, rfl⟩, ⟨rfl, rfl⟩, by decide, by decide⟩) [0, 1] rfl (And.intro rfl (And.intro rfl True.intro)) rfl ?_) | (refine call0 (qFits E [⟨0, 0, 0⟩] _ _ (maskI [0]) (maskI [1]) ⟨⟨rfl, by decide, by decide⟩, by decide, by decide⟩) [3] rfl (And.intro rfl True.intro) rfl ?_) | (refine call0 (qFits E [⟨0, 0, 0⟩, ⟨1, 0, 0⟩] _ _ (maskI [0]) (maskI [1]) ⟨⟨rfl, by decide, by decide⟩, by decide, by decide⟩) [4] rfl (And.intro rfl True.intro) rfl ?_))
  all_goals first | rfl | omega
end Go.Proofs.YtcnbngiplfoomaaGreatDoor
namespace Go.Proofs.YtcnbngiplfoomaaGreatDoor
open Go.Zz Go.Px
set_option linter.unusedVariables false
set_option linter.unusedSectionVars false
set_option linter.unusedSimpArgs false
set_option maxRecDepth 10000
section
variable {R : List Ey} {w x i : Nat} {V S : List (PRow V3)} {Z : List EyI} {a : Option Addr} {k : Nat}
def fitR (R : List Ey) (w x : Nat) : List Ey := R.filter fun e => fitsN (maskN e.2) w x
theorem fitR_q : qR R w x = (fitR R w x).map fun e => e.1 := rfl
theorem fitR_len : (fitR R w x).length = (qR R w x).length := by unfold qR fitR; rw [List.length_map]
theorem fitR_at (hi : i < (qR R w x).length) : (qR R w x).getD i (0, 0) = ((fitR R w x).getD i dE).1 := by
  have hj := hi
  rw [← fitR_len] at hj
  rw [fitR_q, List.getD_eq_getElem?_getD, List.getD_eq_getElem?_getD, List.getElem?_map, List.getElem?_eq_getElem hj]; rfl
theorem fitR_in (hi : i < (qR R w x).length) : (fitR R w x).getD i dE ∈ fitR R w x := by
  rw [← fitR_len] at hi
  rw [List.getD_eq_getElem?_getD, List.getElem?_eq_getElem hi]; exact List.getElem_mem _
theorem fit_get (hs : Rises ltE R) (hi : i < (qR R w x).length) : getK R ((qR R w x).getD i (0, 0)) = some ((fitR R w x).getD i dE).2 := by
  rw [fitR_at hi]
  have h1 : (fitR R w x).getD i dE ∈ R := (List.mem_filter.1 (fitR_in hi)).1
  refine (kget ?_).2 h1
  have h2 : Rises ltH (R.map (·.1)) := List.Pairwise.map _ (fun a b h => h) hs
  exact h2.nodup ordH
theorem fit_take (hI : rowsZ Z = (fitR R w x).take i) (hi : i < (qR R w x).length) {j : Nat} : rowsZ (Z ++ [((fitR R w x).getD i dE, j)]) = (fitR R w x).take (i + 1) := by
  rw [take_snoc (d := dE) (by rw [fitR_len]; exact hi), ← hI]; unfold rowsZ; rw [List.map_append]; rfl
theorem RefV.snoc (hv : RefV V Z) {e : Ey} : RefV (V ++ [(a, k, e.2)]) (Z ++ [(e, V.length)]) := ⟨fun z hz => by
  rcases List.mem_append.1 hz with hz | hz
  · exact hv.more.ok z hz
  · cases List.mem_singleton.1 hz
    exact ⟨by rw [List.length_append]; simp, by rw [rowQ_new]⟩⟩
theorem ref_snoc {e : Ey} : refL (V ++ [(a, k, e.2)]) (Z ++ [(e, V.length)]) = refL (V ++ [(a, k, e.2)]) Z ++ [(e.1, (a, e.2.length, k))] := by
  unfold refL; rw [List.map_append]; simp only [List.map_cons, List.map_nil, headZ]; rw [rowQ_new]
theorem fit_bd (hI : rowsZ Z = (fitR R w x).take i) : Z.length ≤ R.length := by
  have e := congrArg List.length hI
  rw [rowsZ_len, List.length_take, fitR_len] at e
  have := qR_len (R := R) (w := w) (x := x); omega
theorem ent_app {e : Ey} : (refL (V ++ [(a, k, e.2)]) Z).take Z.length ++ ([(e.1, (a, e.2.length, k))] : List ((Int × Int) × Hdr)).take 1 = refL (V ++ [(a, k, e.2)]) (Z ++ [(e, V.length)]) := by
  rw [ref_snoc, List.take_of_length_le (by rw [refL_len]; exact Nat.le_refl _)]; rfl
end
set_option maxHeartbeats 4000000 in
theorem qEnts (E : Nat → Addr) (Q : List (PRow Int)) (R : List Ey) (w x : Nat) (h : (w < 2 ^ 64 ∧ x < 2 ^ 64) ∧ (R.length ≤ 128 ∧ (masksR R).length ≤ 49) ∧ Rises ltE R ∧ ∀ e ∈ R, rightV e.2 = true) : Does (Gm E) 47 ⟨[.agg [.int .u64 ((w : Nat) : Int), .int .u64 ((x : Nat) : Int)], .ptr 0 0], [(0, .pr (storePr E Q R)), (1, .fo (roPool Zz.encI Q))], 2, 6, (List (PRow V3) × List EyI × Nat), fun X => rowsZ X.2.1 = (fitR R w x) ∧ RefV X.1 X.2.1 ∧ X.2.1.length ≤ X.2.2, fun X => .sl 3 X.2.1.length X.2.2, fun X => [(0, .pr (storePr E Q R)), (3, .arr ((Int × Int) × Hdr) encE 37 (refL X.1 X.2.1) X.2.2), (5, .pr (poolPr Zz.encV 34 X.1))]⟩ := by
  have h0 := h; obtain ⟨hw, hR, hs, hr⟩ := h
  refine fn_intro (gmOk E) 32 2 [2, 6] Tryz.func47 rfl rfl rfl rfl rfl ?_
  repeat' first | (change CallGoal _ _ _ _ _ _; first | (change CallGoal _ 42 _ _ _ _; first | (refine call_rule (qHandles E Q R w x h0) [0] rfl (And.intro rfl True.intro) rfl (fun (q1 : Nat) hq1 => ?_))) | (change CallGoal _ 18 _ _ _ _; first | (refine call_rule (sEntity E Q R ((qR R w x).getD y.1 (0, 0)) ((fitR R w x).getD y.1 dE).2 (fit_get hs (by omega))) [0, 1] rfl (And.intro rfl (And.intro rfl True.intro)) rfl (fun (q2 : Nat) hq2 => ?_)))) | (change JoinGoal _ _ _ _ _ _ _ _; refine join_stop (gmOk E) ?_) | (change HereGoal _ _ _ _ _ _ _; refine here_at 2 rfl ?_; change HereGoal _ _ _ _ _ _ _; refine hereG.nilArr encE 37 ?_; change HereGoal _ _ _ _ _ _ _; refine here_set 5 (.sl 3 0 0) rfl (fun _ => by simp only [SV.bd]; omega) (fun En V w hp => by have q := says (c := 4) rfl hp; simp only [SV.denL, SV.den] at q ⊢; rw [q]) ?_; change HereGoal _ _ _ _ _ _ _; refine hereG.drop 4 ?_; change HereGoal _ _ _ _ _ _ _; refine hereG.poolNil Zz.encV 34 ?_; change HereGoal _ _ _ _ _ _ _; refine here_go (gmOk E) ?_) | (change HereGoal _ _ _ _ _ _ _; refine here_at 6 rfl ?_; change HereGoal _ _ _ _ _ _ _; refine hereG.poolAdd 5 24 rfl rfl rfl (fun a => ?_); change HereGoal _ _ _ _ _ _ _; refine hereG.cast 3 (.arr ((Int × Int) × Hdr) encE 37 (refL (y.2.1 ++ [(a, q2, ((fitR R w x).getD y.1 dE).2)]) y.2.2.1) y.2.2.2) rfl (by rw [hI.2.2.1.same]) ?_; change HereGoal _ _ _ _ _ _ _; refine hereG.cells_ 25 [.int .i64 ((fitR R w x).getD y.1 dE).1.1, .int .i64 ((fitR R w x).getD y.1 dE).1.2, .raw (.slice a ((fitR R w x).getD y.1 dE).2.length q2)] rfl rfl (fun En V w hp => by have q := says (c := 26) rfl hp; simp only [SV.denL, SV.den] at q ⊢; change [Value.int .i64 _, Value.int .i64 _, Value.slice (V.ρ 24) _ _] = _; rw [q, fitR_at (by omega)]) ?_; change HereGoal _ _ _ _ _ _ _; refine here_go (gmOk E) ?_) | (change @Exists (Nat × List (PRow V3) × List EyI × Nat) (fun _ => updPK _ _ _ _ _ _); first | (have _ := q2; refine @Exists.intro (Nat × List (PRow V3) × List EyI × Nat) _ (y.1 + 1, y.2.1 ++ [(a, q2, ((fitR R w x).getD y.1 dE).2)], y.2.2.1 ++ [(((fitR R w x).getD y.1 dE), y.2.1.length)], ?_) ?_; rotate_left 1) | (refine @Exists.intro (Nat × List (PRow V3) × List EyI × Nat) _ (0, [], [], 0) ?_)) | (refine @Exists.intro (List (PRow V3) × List EyI × Nat) _ (y.2.1, y.2.2.1, y.2.2.2) ?_) | with_reducible rfl | (intro h; first | (exfalso; omega; done) | (exfalso; first | exact h trivial | omega; done) | skip) | (refine And.intro ?_ ?_) | exact True.intro | (refine @Exists.intro Unit _ () ?_) | (refine @Exists.intro (_ = _) _ rfl ?_) | (change NextGoal _ _ _; refine next_go ?_) | (change LoopGoal _ _ _ _ _ _; refine loop_keep 3 [1, 4, 12, 13] (gmOk E) rfl [2, 6] (X := (Nat × List (PRow V3) × List EyI × Nat)) (fun y => [(14, .int .i64 ((y.1 : Nat) : Int)), (5, .sl 3 y.2.2.1.length y.2.2.2)]) (fun y => [(3, .arr ((Int × Int) × Hdr) encE 37 (refL y.2.1 y.2.2.1) y.2.2.2), (5, .pr (poolPr Zz.encV 34 y.2.1))]) [] (fun y => y.1 ≤ (qR R w x).length ∧ rowsZ y.2.2.1 = (fitR R w x).take y.1 ∧ RefV y.2.1 y.2.2.1 ∧ y.2.2.1.length ≤ y.2.2.2) (fun y => (qR R w x).length - y.1) ⟨(0, [], [], 0), ?_⟩ (fun y hI => ?_)) | (change @Exists ((Nat × List (PRow V3) × List EyI × Nat)) (fun _ => updPK _ _ _ _ _ _); refine @Exists.intro ((Nat × List (PRow V3) × List EyI × Nat)) _ ((0, [], [], 0)) ?_)
  all_goals first | (dsimp only; first | rfl | omega) | rfl | omega | exact Nat.zero_le _ | exact RefV.nil | exact hI.2.2.1 | exact hI.2.2.2 | (dsimp only; rw [hI.2.1, List.take_of_length_le (by rw [fitR_len]; omega)]; done) | exact fit_take hI.2.1 (by omega) | exact hI.2.2.1.snoc | exact Nat.le_refl 1 | exact Nat.le_of_eq refL_len.symm | (have q5 := fit_bd hI.2.1; have q6 := qR_len (R := R) (w := w) (x := x); first | omega | (change _ * 40 ≤ _; omega)) | (dsimp only; rw [List.length_append]; first | rfl | exact h) | (refine congrArg (fun l => Ch.arr ((Int × Int) × Hdr) encE 37 l _) ?_; exact ent_app) | (refine Nat.le_trans (Nat.le_of_eq ?_) (by assumption); exact (congrArg List.length ent_app).symm ▸ refL_len.symm)
set_option maxHeartbeats 4000000 in
theorem qFitsP (E : Nat → Addr) (V : List (PRow V3)) (j w x : Nat) (h : j < V.length ∧ (rowQ V j).2.2.length ≤ 1000000 ∧ (∀ v ∈ (rowQ V j).2.2, 0 ≤ v.k ∧ v.k ≤ 9) ∧ w < 2 ^ 64 ∧ x < 2 ^ 64) : Does (Gm E) 48 (Sp0 [.agg [.int .u64 ((w : Nat) : Int), .int .u64 ((x : Nat) : Int)], .raw (.slice (rowQ V j).1 (rowQ V j).2.2.length (rowQ V j).2.1)] [(0, .fo (roPool Zz.encV V))] 1 (.bl (fitsN (maskN (rowQ V j).2.2) w x))) := by
  obtain ⟨hj, hm, hk, hw⟩ := h; have h64 : maskN (rowQ V j).2.2 < 2 ^ 64 := Nat.lt_trans (maskN_lt hk) (by decide)
  refine fn_intro (gmOk E) 12 1 [1] Tryz.func48 rfl rfl rfl rfl rfl ?_
  repeat' first | (change JoinGoal _ _ _ _ _ _ _ _; refine join_stop (gmOk E) ?_) | (change HereGoal _ _ _ _ _ _ _; refine here_at 1 rfl ?_; change HereGoal _ _ _ _ _ _ _; refine hereG.foOut 0 j (rowQ V j) rfl (rowQ_get hj) ?_; change HereGoal _ _ _ _ _ _ _; refine here_set 1 (.sl 2 (rowQ V j).2.2.length (rowQ V j).2.1) rfl (fun _ => by simp only [SV.bd]; omega) (fun En V_ w hp => (says (c := 3) rfl hp).symm) ?_; change HereGoal _ _ _ _ _ _ _; refine here_go (gmOk E) ?_) | (intro h; first | (exfalso; omega; done) | skip) | (refine And.intro ?_ ?_) | exact True.intro | (refine @Exists.intro Unit _ () ?_) | (refine @Exists.intro (_ = _) _ rfl ?_) | (change DrawGoal _ _ _ _ _ _; first | (change DrawGoal _ _ _ ({ dst := some 5, op := _, type := _, pos := _, after := _, guard := _ } :: _) _ _; refine draw_tree (gmOk E) [1, 2] (.leaf [(0, true), (2, true), (3, true), (4, true), (5, true), (1, false), (6, false), (7, true)]) (by kernel_rfl) ?_)) | (change CallGoal _ _ _ _ _ _; first | (refine call0 (mask_z E (rowQ V j).2.2 _ (rowQ V j).2.1 ⟨rfl, hm, hk⟩) [2] rfl (And.intro rfl True.intro) rfl ?_) | (refine call0 (fits_z E (maskN (rowQ V j).2.2) w x ⟨h64, hw⟩) [] rfl True.intro rfl ?_))
  all_goals first | rfl | omega
end Go.Proofs.YtcnbngiplfoomaaGreatDoor
namespace Go.Proofs.YtcnbngiplfoomaaGreatDoor
open Go.Zz Go.Px
set_option linter.unusedVariables false
set_option linter.unusedSectionVars false
set_option linter.unusedSimpArgs false
set_option maxRecDepth 10000
section
variable {R : List Ey} {w x a b M i : Nat} {V : List (PRow V3)} {Z : List EyI}
theorem or_zero {p q : Nat} : p ||| q = 0 ↔ p = 0 ∧ q = 0 := by
  constructor
  · intro h
    constructor <;> (apply Nat.eq_of_testBit_eq; intro i; have := congrArg (fun z => Nat.testBit z i) h; simp only [Nat.testBit_or, Nat.zero_testBit, Bool.or_eq_false_iff] at this ⊢)
    · exact this.1
    · exact this.2
  · rintro ⟨rfl, rfl⟩; rfl
theorem both_fits : fitsN M (a ||| w) (b ||| x) = (fitsN M w x && fitsN M a b) := by
  unfold fitsN lessN
  rw [Nat.and_or_distrib_right, Nat.and_or_distrib_left, Bool.eq_iff_iff]
  simp only [Bool.and_eq_true, decide_eq_true_eq, or_zero]
  constructor <;> (rintro ⟨⟨h1, h2⟩, h3, h4⟩; first | exact ⟨⟨h2, h4⟩, h1, h3⟩ | exact ⟨⟨h3, h1⟩, h4, h2⟩)
theorem fitR_all : fitR R 0 0 = R := by
  unfold fitR; rw [List.filter_eq_self.2 fun e he => by unfold fitsN lessN; simp]
def cntQ (Z : List EyI) (w x : Nat) (i : Nat) : Nat := ((Z.take i).filter fun z => fitsN (maskN z.1.2) w x).length
theorem cntQ_yes (hi : i < Z.length) (h : fitsN (maskN (Z.getD i z0).1.2) w x = true) : cntQ Z w x (i + 1) = cntQ Z w x i + 1 := by
  unfold cntQ; rw [take_snoc (d := z0) hi, List.filter_append, List.length_append, List.filter_cons, if_pos h]; rfl
theorem cntQ_no (hi : i < Z.length) (h : fitsN (maskN (Z.getD i z0).1.2) w x = false) : cntQ Z w x (i + 1) = cntQ Z w x i := by
  unfold cntQ; rw [take_snoc (d := z0) hi, List.filter_append, List.length_append, List.filter_cons, if_neg (by rw [h]; simp)]; rfl
theorem cntQ_le : cntQ Z w x i ≤ Z.length := Nat.le_trans (List.length_filter_le _ _) (by rw [List.length_take]; omega)
theorem cntQ_all (hZ : rowsZ Z = fitR R 0 0) (hi : ¬ i < Z.length) : cntQ Z w x i = (qR R w x).length := by
  unfold cntQ; rw [List.take_of_length_le (by omega), ← fitR_len]
  unfold fitR; rw [← (fitR_all (R := R)), ← hZ]; unfold rowsZ
  rw [List.filter_map, List.length_map]; rfl
theorem ref_cells (hi : i < Z.length) : [Value.int .i64 ((refL V Z).getD i encE.d).1.1, Value.int .i64 ((refL V Z).getD i encE.d).1.2, Value.slice ((refL V Z).getD i encE.d).2.1 ((refL V Z).getD i encE.d).2.2.1 ((refL V Z).getD i encE.d).2.2.2] = [Value.int .i64 (Z.getD i z0).1.1.1, Value.int .i64 (Z.getD i z0).1.1.2, Value.slice (rowQ V (Z.getD i z0).2).1 (rowQ V (Z.getD i z0).2).2.2.length (rowQ V (Z.getD i z0).2).2.1] := by rw [refL_at hi]; rfl
theorem row_mask (hv : RefV V Z) (hi : i < Z.length) : maskN (rowQ V (Z.getD i z0).2).2.2 = maskN (Z.getD i z0).1.2 := by rw [(hv.ok _ (z_in hi)).2]
theorem both_t (h1 : fitsN M w x = true) : fitsN M (a ||| w) (b ||| x) = fitsN M a b := by rw [both_fits, h1, Bool.true_and]
theorem both_f (h1 : fitsN M w x = false) : fitsN M (a ||| w) (b ||| x) = false := by rw [both_fits, h1, Bool.false_and]
theorem cnt_y (hv : RefV V Z) (hi : i < Z.length) (h1 : fitsN (maskN (rowQ V (Z.getD i z0).2).2.2) w x = true) (h2 : fitsN (maskN (rowQ V (Z.getD i z0).2).2.2) a b = true) : ((cntQ Z (a ||| w) (b ||| x) i : Nat) : Int) + 1 = ((cntQ Z (a ||| w) (b ||| x) (i + 1) : Nat) : Int) := by
  rw [cntQ_yes hi (by rw [← row_mask hv hi, both_t h1, h2])]; omega
theorem cnt_n1 (hv : RefV V Z) (hi : i < Z.length) (h1 : fitsN (maskN (rowQ V (Z.getD i z0).2).2.2) w x = true) (h2 : fitsN (maskN (rowQ V (Z.getD i z0).2).2.2) a b = false) : ((cntQ Z (a ||| w) (b ||| x) i : Nat) : Int) = ((cntQ Z (a ||| w) (b ||| x) (i + 1) : Nat) : Int) := by
  rw [cntQ_no hi (by rw [← row_mask hv hi, both_t h1, h2])]
theorem cnt_n2 (hv : RefV V Z) (hi : i < Z.length) (h1 : fitsN (maskN (rowQ V (Z.getD i z0).2).2.2) w x = false) : ((cntQ Z (a ||| w) (b ||| x) i : Nat) : Int) = ((cntQ Z (a ||| w) (b ||| x) (i + 1) : Nat) : Int) := by
  rw [cntQ_no hi (by rw [← row_mask hv hi, both_f h1])]
theorem rightX {Qv : List (PRow V3)} {n : Nat} (hX : rowsZ Z = fitR (fillR Qv n) 0 0) : ∀ e ∈ rowsZ Z, rightV e.2 = true := by
  rw [hX, fitR_all]; exact fillR_right _
theorem lenX {n : Nat} {Qv : List (PRow V3)} (hX : rowsZ Z = fitR (fillR Qv n) 0 0) : Z.length ≤ n := by
  have e := congrArg List.length hX
  rw [rowsZ_len, fitR_all] at e
  have := fillR_len (Qv := Qv) n; omega
end
set_option maxHeartbeats 4000000 in
theorem both_many (E : Nat → Addr) (w x a b : Nat) (Qv : List (PRow V3)) (n k : Nat) (h : (n = Qv.length ∧ (w < 2 ^ 64 ∧ x < 2 ^ 64) ∧ a < 2 ^ 64 ∧ b < 2 ^ 64) ∧ ¬ Qv.length ≤ 40) : DoesC (Gm E) 11 (Sp0 [.agg [.int .u64 ((w : Nat) : Int), .int .u64 ((x : Nat) : Int)], .agg [.int .u64 ((a : Nat) : Int), .int .u64 ((b : Nat) : Int)], .sl 0 n k] [(0, .ro Hdr encS (headsV Qv) k), (1, .fo (roPool Zz.encV Qv)), (2, .fo (tzF 10))] 3 .tt) := by
  obtain ⟨⟨rfl, hw, hab⟩, hl⟩ := h
  refine fn_calls (gmOk E) 68 3 [] Tryz.func11 rfl rfl rfl rfl rfl ?_
  repeat' first | (intro h; first | (exfalso; omega; done) | (exfalso; first | exact h trivial | omega | (rw [hlg] at h; cases h; done); done) | skip) | (refine And.intro ?_ ?_) | exact True.intro | (refine @Exists.intro Unit _ () ?_) | (refine @Exists.intro (_ = _) _ rfl ?_) | (change CallGoal _ _ _ _ _ _; first | (refine call_rule (filled_many E Qv _ k ⟨rfl, hl⟩) [0, 1, 2] rfl (And.intro rfl (And.intro rfl (And.intro rfl True.intro))) rfl (fun (u1 : Unit) hu1 => ?_))) | (change CallGoal _ _ _ _ _ _; first | (refine call0 (alive9_z E) [] rfl True.intro rfl ?_))
  all_goals first | rfl | omega
set_option maxHeartbeats 4000000 in
theorem both_long (E : Nat → Addr) (w x a b : Nat) (Qv : List (PRow V3)) (n k : Nat) (h : (n = Qv.length ∧ (w < 2 ^ 64 ∧ x < 2 ^ 64) ∧ a < 2 ^ 64 ∧ b < 2 ^ 64) ∧ Qv.length ≤ 40 ∧ longV Qv = true) : DoesC (Gm E) 11 (Sp0 [.agg [.int .u64 ((w : Nat) : Int), .int .u64 ((x : Nat) : Int)], .agg [.int .u64 ((a : Nat) : Int), .int .u64 ((b : Nat) : Int)], .sl 0 n k] [(0, .ro Hdr encS (headsV Qv) k), (1, .fo (roPool Zz.encV Qv)), (2, .fo (tzF 10))] 3 .tt) := by
  obtain ⟨⟨rfl, hw, hab⟩, hl, hlg⟩ := h
  refine fn_calls (gmOk E) 68 3 [] Tryz.func11 rfl rfl rfl rfl rfl ?_
  repeat' first | (intro h; first | (exfalso; omega; done) | (exfalso; first | exact h trivial | omega | (rw [hlg] at h; cases h; done); done) | skip) | (refine And.intro ?_ ?_) | exact True.intro | (refine @Exists.intro Unit _ () ?_) | (refine @Exists.intro (_ = _) _ rfl ?_) | (change CallGoal _ _ _ _ _ _; first | (refine call_rule (filled_long E Qv _ k ⟨rfl, hl, hlg⟩) [0, 1, 2] rfl (And.intro rfl (And.intro rfl (And.intro rfl True.intro))) rfl (fun (u1 : Unit) hu1 => ?_))) | (change CallGoal _ _ _ _ _ _; first | (refine call0 (alive9_z E) [] rfl True.intro rfl ?_) | (refine call0 (long_z E Qv _ k ⟨rfl, by omega⟩) [0, 1] rfl (And.intro rfl (And.intro rfl True.intro)) rfl ?_))
  all_goals first | rfl | omega | (rw [hlg]; done) | exact hlg.symm
set_option maxHeartbeats 4000000 in
theorem both_ok (E : Nat → Addr) (w x a b : Nat) (Qv : List (PRow V3)) (n k : Nat) (h : (n = Qv.length ∧ (w < 2 ^ 64 ∧ x < 2 ^ 64) ∧ a < 2 ^ 64 ∧ b < 2 ^ 64) ∧ Qv.length ≤ 40 ∧ longV Qv = false) : DoesC (Gm E) 11 (Sp0 [.agg [.int .u64 ((w : Nat) : Int), .int .u64 ((x : Nat) : Int)], .agg [.int .u64 ((a : Nat) : Int), .int .u64 ((b : Nat) : Int)], .sl 0 n k] [(0, .ro Hdr encS (headsV Qv) k), (1, .fo (roPool Zz.encV Qv)), (2, .fo (tzF 10))] 3 .tt) := by
  obtain ⟨⟨rfl, hw, hab⟩, hl, hlg⟩ := h
  refine fn_calls (gmOk E) 68 3 [11] Tryz.func11 rfl rfl rfl rfl rfl ?_
  repeat' first | (change CallGoal _ _ _ _ _ _; first | (change CallGoal _ 47 _ _ _ _; first | (refine call_rule (qEnts E xq.1 (fillR Qv Qv.length) 0 0 ⟨⟨by decide, by decide⟩, ⟨by have := fillR_len (Qv := Qv) Qv.length; omega, by have := fillR_masks (Qv := Qv) Qv.length; omega⟩, fillR_ris _, fillR_right _⟩) [5, 7] rfl (And.intro rfl (And.intro lends_pool True.intro)) rfl (fun (xe : (List (PRow V3) × List EyI × Nat)) hxe => ?_))) | (change CallGoal _ 48 _ _ _ _; first | (refine call0 (qFitsP E xe.1 (xe.2.1.getD y.1 z0).2 w x ⟨(hxe.2.1.ok _ (z_in (by omega))).1, by have := ref_rlen hxe.2.1 (rightX hxe.1) (j := y.1) (by omega); omega, ref_kinds hxe.2.1 (rightX hxe.1) (by omega), hw.1, hw.2⟩) [13] rfl (And.intro lends_pool True.intro) rfl ?_) | (refine call0 (qFitsP E xe.1 (xe.2.1.getD y.1 z0).2 a b ⟨(hxe.2.1.ok _ (z_in (by omega))).1, by have := ref_rlen hxe.2.1 (rightX hxe.1) (j := y.1) (by omega); omega, ref_kinds hxe.2.1 (rightX hxe.1) (by omega), hab.1, hab.2⟩) [13] rfl (And.intro lends_pool True.intro) rfl ?_) | (refine call0 (qFitsP E xe.1 (xe.2.1.getD y.1 z0).2 (a ||| w) (b ||| x) ⟨(hxe.2.1.ok _ (z_in (by omega))).1, by have := ref_rlen hxe.2.1 (rightX hxe.1) (j := y.1) (by omega); omega, ref_kinds hxe.2.1 (rightX hxe.1) (by omega), (Nat.or_lt_two_pow hab.1 hw.1), (Nat.or_lt_two_pow hab.2 hw.2)⟩) [13] rfl (And.intro lends_pool True.intro) rfl ?_))) | (change JoinGoal _ _ _ _ _ _ _ _; refine join_stop (gmOk E) ?_) | (change HereGoal _ _ _ _ _ _ _; refine here_at 11 rfl ?_; change HereGoal _ _ _ _ _ _ _; refine hereG.cells_ 30 [.int .i64 (xe.2.1.getD y.1 z0).1.1.1, .int .i64 (xe.2.1.getD y.1 z0).1.1.2, .raw (.slice (rowQ xe.1 (xe.2.1.getD y.1 z0).2).1 (rowQ xe.1 (xe.2.1.getD y.1 z0).2).2.2.length (rowQ xe.1 (xe.2.1.getD y.1 z0).2).2.1)] rfl rfl (fun En V w hp => by simp only [SV.denL, SV.den]; exact ref_cells (by omega)) ?_; change HereGoal _ _ _ _ _ _ _; refine here_go (gmOk E) ?_) | with_reducible rfl | (intro h; first | (exfalso; omega; done) | (exfalso; first | exact h trivial | omega | exact h (both_t (by assumption)) | exact h (both_f (Bool.eq_false_iff.2 (by assumption))); done) | skip) | (refine And.intro ?_ ?_) | exact True.intro | (refine @Exists.intro Unit _ () ?_) | (refine @Exists.intro (_ = _) _ rfl ?_) | (change NextGoal _ _ _; refine next_go ?_) | (change LoopGoal _ _ _ _ _ _; refine loop_keep 9 [3, 4, 7, 10, 37, 38] (gmOk E) rfl [11] (X := (Nat × Unit)) (fun y => [(39, .int .i64 ((y.1 : Nat) : Int)), (11, .int .i64 ((cntQ xe.2.1 (a ||| w) (b ||| x) y.1 : Nat) : Int))]) (fun y => []) [] (fun y => y.1 ≤ xe.2.1.length) (fun y => xe.2.1.length - y.1) ⟨(0, ()), ?_⟩ (fun y hI => ?_)) | (change @Exists ((Nat × Unit)) (fun _ => updPK _ _ _ _ _ _); refine @Exists.intro ((Nat × Unit)) _ ((y.1 + 1, ())) ?_) | (change CallGoal _ _ _ _ _ _; first | (refine call_rule (filled_ok E Qv _ k ⟨rfl, hl, hlg⟩) [0, 1, 2] rfl (And.intro rfl (And.intro rfl (And.intro rfl True.intro))) rfl (fun (xq : List (PRow Int) × List (PRow V3)) hxq => ?_)) | (refine call_rule (qCount E xq.1 (fillR Qv Qv.length) (a ||| w) (b ||| x) ⟨⟨(Nat.or_lt_two_pow hab.1 hw.1), (Nat.or_lt_two_pow hab.2 hw.2)⟩, ⟨by have := fillR_len (Qv := Qv) Qv.length; omega, by have := fillR_masks (Qv := Qv) Qv.length; omega⟩, fillR_ris _, fillR_right _⟩) [5] rfl (And.intro rfl True.intro) rfl (fun (u2 : Unit) hu2 => ?_))) | (change CallGoal _ _ _ _ _ _; first | (refine call0 (alive9_z E) [] rfl True.intro rfl ?_) | (refine call0 (qBoth E a b w x ⟨hab, hw⟩) [] rfl True.intro rfl ?_))
  all_goals first | (dsimp only; first | rfl | omega) | rfl | omega | exact Nat.zero_le _ | (rw [refL_len]; omega) | (show _ < _; rw [refL_len]; omega) | (rw [cntQ_all hxe.1 (by omega)]; done) | exact cnt_y hxe.2.1 (by omega) (by assumption) (by assumption) | exact cnt_n1 hxe.2.1 (by omega) (by assumption) (by assumption) | exact cnt_n2 hxe.2.1 (by omega) (Bool.eq_false_iff.2 (by assumption)) | (have q5 := cntQ_le (Z := xe.2.1) (w := (a ||| w)) (x := (b ||| x)) (i := y.1); have q6 := lenX hxe.1; omega)
theorem both_z (E : Nat → Addr) (w x a b : Nat) (Qv : List (PRow V3)) (n k : Nat) (h : n = Qv.length ∧ (w < 2 ^ 64 ∧ x < 2 ^ 64) ∧ a < 2 ^ 64 ∧ b < 2 ^ 64) : DoesC (Gm E) 11 (Sp0 [.agg [.int .u64 ((w : Nat) : Int), .int .u64 ((x : Nat) : Int)], .agg [.int .u64 ((a : Nat) : Int), .int .u64 ((b : Nat) : Int)], .sl 0 n k] [(0, .ro Hdr encS (headsV Qv) k), (1, .fo (roPool Zz.encV Qv)), (2, .fo (tzF 10))] 3 .tt) := by
  by_cases hl : Qv.length ≤ 40
  · cases hlg : longV Qv with
    | true => exact both_long E w x a b Qv n k ⟨h, hl, hlg⟩
    | false => exact both_ok E w x a b Qv n k ⟨h, hl, hlg⟩
  · exact both_many E w x a b Qv n k ⟨h, hl⟩
end Go.Proofs.YtcnbngiplfoomaaGreatDoor
namespace Go.Proofs.YtcnbngiplfoomaaGreatDoor
open Go.Zz Go.Px
set_option linter.unusedVariables false
set_option linter.unusedSectionVars false
set_option linter.unusedSimpArgs false
set_option maxRecDepth 10000
open Go.Proofs
theorem both_any (E : Nat → Addr) (wi xi ai bi : Int) (hw : 0 ≤ wi ∧ wi ≤ 18446744073709551615) (hx : 0 ≤ xi ∧ xi ≤ 18446744073709551615) (ha : 0 ≤ ai ∧ ai ≤ 18446744073709551615) (hb : 0 ≤ bi ∧ bi ≤ 18446744073709551615) (av : Option Addr) (Qv : List (PRow V3)) (c : Nat) (W : World) (hG : Errs (Gm E).errs W (Gm E).Δ.eT E) (hT : TabAt 10 Lib.deBruijn64tab W) (hs : 10 < W.heap.size) (hav : Arr W 1 av Qv.length c (flat encS.val (headsV Qv))) (hQ : ∀ q ∈ Qv, Arr W 3 q.1 q.2.2.length q.2.1 (flat Zz.encV.val q.2.2)) :
    Calls Tryz.prog 11 #[.agg #[.int .u64 wi, .int .u64 xi], .agg #[.int .u64 ai, .int .u64 bi], .slice av Qv.length c] W (Ret fun v w' => v = .bool true ∧ Keep Nn W w') := by
  obtain ⟨w, rfl⟩ : ∃ n : Nat, wi = (n : Int) := ⟨wi.toNat, by omega⟩
  obtain ⟨x, rfl⟩ : ∃ n : Nat, xi = (n : Int) := ⟨xi.toNat, by omega⟩
  obtain ⟨a, rfl⟩ : ∃ n : Nat, ai = (n : Int) := ⟨ai.toNat, by omega⟩
  obtain ⟨b, rfl⟩ : ∃ n : Nat, bi = (n : Int) := ⟨bi.toNat, by omega⟩
  exact (both_z E w x a b Qv Qv.length c ⟨rfl, ⟨by omega, by omega⟩, by omega, by omega⟩).law2 (fun _ => av) hG rfl (fun d α e l' k' hm => by
    rcases List.mem_cons.1 hm with hm | hm
    · cases hm; exact ⟨by rw [heads_len]; exact hav, by decide⟩
    · rcases List.mem_cons.1 hm with hm | hm
      · cases hm
      · cases List.mem_singleton.1 hm) (fun d Ψ hm => by
    rcases List.mem_cons.1 hm with hm | hm
    · cases hm
    · rcases List.mem_cons.1 hm with hm | hm
      · cases hm; exact rows_fo hQ _
      · cases List.mem_singleton.1 hm; exact ⟨hT, id, hs⟩) (fun _ => rfl) (by simp [SV.denL, SV.den, Sp0])
end Go.Proofs.YtcnbngiplfoomaaGreatDoor
