/- A part of the proof: texts put together. -/
import Derived.Shelf.Spec.TrailingZeros
import Derived.Test.YtcnbngiplfoomaaGreatDoorG5
import Derived.Test.YtcnbngiplfoomaaGreatDoorSh
import Derived.Test.YtcnbngiplfoomaaGreatDoorG4
import Derived.Test.YtcnbngiplfoomaaGreatDoorG3
import Derived.Sort.LotB
set_option linter.unusedSectionVars false
set_option linter.unusedSimpArgs false
set_option linter.unusedVariables false
namespace Go.Proofs.YtcnbngiplfoomaaGreatDoor
open Go.Zz Go.Px
set_option linter.unusedVariables false
set_option linter.unusedSectionVars false
set_option linter.unusedSimpArgs false
set_option maxRecDepth 10000
open Go.Proofs
def tzF (g : Nat) : PrF where
  ok _ F w := TabAt g Lib.deBruijn64tab w ∧ ¬ F g ∧ g < w.heap.size
  carry := by
    rintro a F F' w w' ⟨h1, h2, h3⟩ hk hF
    refine ⟨fun j hj => hk.cell (h1 j hj) h2, fun hf => ?_, Nat.lt_of_lt_of_le h3 hk.size⟩
    rcases hF _ hf with h | h
    · exact h2 h
    · omega
theorem tz_z (E : Nat → Addr) (x : Nat) (h : x < 18446744073709551616) : Does (Gm E) 154 (Sp0 [.int .u64 ((x : Nat) : Int)] [(0, .fo (tzF 10))] 1 (.int .i64 ((Lib.ctz 64 x : Nat) : Int))) := by
  refine Does.of_calls (by exact ⟨_, Tryz.func154, rfl, rfl⟩) (by simp only [SV.bdL, SV.bd, and_self]) (hbB_ok rfl) (by simp only [SV.bd]) fun V w hp => ?_
  obtain ⟨⟨h1, h2, h3⟩, _⟩ := hp.hr.ok 0 _ rfl
  have h1 : TabAt 10 Lib.deBruijn64tab w := fun j hj => hp.hr.keep.cell (h1 j hj) h2
  refine Calls.mono (Any7.bits_TrailingZeros64 Tryz.tz x h w fun _ => h1) fun e w' he => ?_
  obtain ⟨rfl, rfl⟩ := he
  exact ⟨_, rfl, by simp only [SV.den], Keep.refl _ _⟩
def kindsN (m : Nat) : List Int := ((List.range 10).filter fun k => m.testBit k).map fun k : Nat => (k : Int)
theorem kinds_step : ∀ r : Nat, r < 1024 → r ≠ 0 → kindsN r = ((Lib.ctz 64 r : Nat) : Int) :: kindsN (r &&& (r - 1)) ∧ (r &&& (r - 1)) < r := by decide +kernel
theorem kindsN_zero : kindsN 0 = [] := by decide
theorem kindsN_len (m : Nat) : (kindsN m).length ≤ 10 := by unfold kindsN; rw [List.length_map]; exact Nat.le_trans (List.length_filter_le _ _) (by simp)
structure KI (m r : Nat) (l : List Int) : Prop where
  lt : r < 1024
  eq : l ++ kindsN r = kindsN m
theorem KI.start {m : Nat} (h : m < 1024) : KI m m [] := ⟨h, rfl⟩
theorem KI.next {m r : Nat} {l : List Int} (h : KI m r l) (hr : ¬ ((r : Nat) : Int) = 0) : KI m (r &&& (r - 1)) (l ++ [((Lib.ctz 64 r : Nat) : Int)]) := by
  have q := kinds_step r h.lt (by omega)
  refine ⟨by have := h.lt; omega, ?_⟩
  rw [← h.eq, q.1, List.append_assoc]; rfl
theorem KI.less {m r : Nat} {l : List Int} (h : KI m r l) (hr : ¬ ((r : Nat) : Int) = 0) : (r &&& (r - 1)) < r := (kinds_step r h.lt (by omega)).2
theorem KI.done {m r : Nat} {l : List Int} (h : KI m r l) (hr : ((r : Nat) : Int) = 0) : l = kindsN m := by
  obtain rfl : r = 0 := by omega
  have := h.eq; rw [kindsN_zero, List.append_nil] at this; exact this
theorem KI.len {m r : Nat} {l : List Int} (h : KI m r l) : l.length ≤ 10 := by have := congrArg List.length h.eq; rw [List.length_append] at this; have := kindsN_len m; omega
theorem and_pred {r : Nat} (h : r < 1024) (hr : ¬ ((r : Nat) : Int) = 0) : bitI .and .u64 (r : Int) ((r : Int) - 1) = ((r &&& (r - 1) : Nat) : Int) := by
  rw [show ((r : Int) - 1) = ((r - 1 : Nat) : Int) by omega]; exact bitI_and (by omega) (by omega)
set_option maxHeartbeats 1000000 in
theorem kinds_z (E : Nat → Addr) (m : Nat) (h : m < 1024) : Does (Gm E) 136 ⟨[.int .u64 ((m : Nat) : Int)], [(0, .fo (tzF 10))], 1, 2, Nat, fun k => (kindsN m).length ≤ k, fun k => .sl 1 (kindsN m).length k, fun k => [(1, .arr Int Zz.encI 3 (kindsN m) k)]⟩ := by
  rename m < 1024 => hm
  refine fn_intro (gmOk E) 18 1 [] Tryz.func136 rfl rfl rfl rfl rfl ?_
  repeat' first | (intro h; first | (exfalso; omega; done) | skip) | (refine And.intro ?_ ?_) | exact True.intro | (refine @Exists.intro Unit _ () ?_) | (refine @Exists.intro (_ = _) _ rfl ?_) | (change LoopGoal _ _ _ _ _ _; refine loop_at 3 (gmOk E) rfl [] (X := (Nat × List Int × Nat)) (fun x => [(4, .int .u64 ((x.1 : Nat) : Int)), (3, .sl 2 x.2.1.length x.2.2)]) (fun x => [(2, .arr Int Zz.encI 3 x.2.1 x.2.2)]) [] (fun x => KI m x.1 x.2.1 ∧ x.2.1.length ≤ x.2.2) (fun x => x.1) ⟨(m, [], 0), ?_⟩ (fun x hI => ?_)) | (change @Exists ((Nat × List Int × Nat)) (fun _ => updK _ _ _ _ _ _); refine @Exists.intro ((Nat × List Int × Nat)) _ ((x.1 &&& (x.1 - 1), x.2.1 ++ [((Lib.ctz 64 x.1 : Nat) : Int)], ?_)) ?_; rotate_left 1) | (refine @Exists.intro (Nat) _ ?_ ?_; rotate_left) | (change CallGoal _ _ _ _ _ _; first | (refine call0 (tz_z E x.1 (by have q := hI.1.lt; omega)) [0] rfl (And.intro rfl True.intro) rfl ?_))
  all_goals first
| (dsimp only; first | rfl | omega)
| rfl
| omega
| exact KI.start hm
| exact Nat.le_refl _
| exact hI.1.next ‹_›
| exact hI.1.less ‹_›
| (have q := hI.1.len; first | omega | (change _ * 8 ≤ _; omega))
| (have q := hI.1.lt; omega)
| (dsimp only; rw [List.length_append]; first | done | rfl | exact h)
| (dsimp only; rw [List.take_length]; rfl)
| (dsimp only; exact and_pred hI.1.lt ‹_›)
| (dsimp only; exact (and_pred hI.1.lt ‹_›).symm)
| exact congrArg List.length (hI.1.done (Classical.not_not.1 h))
| exact congrArg (fun q => Ch.arr _ _ _ q _) (hI.1.done (Classical.not_not.1 h))
| (rw [← hI.1.done (Classical.not_not.1 h)]; exact hI.2)
end Go.Proofs.YtcnbngiplfoomaaGreatDoor
namespace Go.Proofs.YtcnbngiplfoomaaGreatDoor
open Go.Zz Go.Px
set_option linter.unusedVariables false
set_option linter.unusedSectionVars false
set_option linter.unusedSimpArgs false
set_option maxRecDepth 10000
def ltZ (a b : Int) : Bool := decide (a < b)
theorem ordZ : Ord ltZ := ⟨fun x => by simp [ltZ], fun x y z h1 h2 => by simp only [ltZ, decide_eq_true_eq] at *; omega, fun x y => by simp only [ltZ, decide_eq_true_eq]; omega⟩
theorem kindsN_mem {m : Nat} {k : Int} : k ∈ kindsN m ↔ (0 ≤ k ∧ k ≤ 9) ∧ m.testBit k.toNat = true := by
  unfold kindsN
  simp only [List.mem_map, List.mem_filter, List.mem_range]
  constructor
  · rintro ⟨j, ⟨h1, h2⟩, rfl⟩; exact ⟨by omega, by simpa using h2⟩
  · rintro ⟨h1, h2⟩; exact ⟨k.toNat, ⟨by omega, h2⟩, by omega⟩
theorem kindsN_ris (m : Nat) : Rises ltZ (kindsN m) := by
  unfold kindsN Rises
  refine List.Pairwise.map _ (fun a b h => by simp only [ltZ, decide_eq_true_eq]; omega) (R := fun a b : Nat => a < b) ?_
  exact List.pairwise_lt_range.filter _
theorem kindsN_nd (m : Nat) : (kindsN m).Nodup := (kindsN_ris m).nodup ordZ
theorem row_kinds {r : Rw} (hr : rightV r = true) : kindsN (maskN r) = r.map (·.k) := by
  refine Rises.ext ordZ (kindsN_ris _) ?_ fun k => ?_
  · exact List.Pairwise.map _ (fun a b h => by simp only [ltZ, decide_eq_true_eq]; exact h) (right_strict hr)
  · rw [kindsN_mem, maskN_bit, List.mem_map]
    simp only [List.any_eq_true, beq_iff_eq]
    constructor
    · rintro ⟨h1, v, hv, e⟩; have := right_kinds hr v hv; exact ⟨v, hv, by omega⟩
    · rintro ⟨v, hv, rfl⟩; have := right_kinds hr v hv; exact ⟨by omega, v, hv, rfl⟩
theorem row_nd {r : Rw} (hr : rightV r = true) : (r.map (·.k)).Nodup := noDup_iff.1 (rightV_parts hr).2
theorem find_in : ∀ {r : Rw} {v : V3}, (r.map (·.k)).Nodup → v ∈ r → findV r v.k = v
  | u :: r, v, hn, hv => by
    rw [List.map_cons, List.nodup_cons] at hn
    unfold findV
    rw [List.find?_cons]
    rcases List.mem_cons.1 hv with rfl | hv
    · simp
    · have : (u.k == v.k) = false := by simp; exact fun e => hn.1 (e ▸ List.mem_map.2 ⟨v, hv, rfl⟩)
      rw [this]; exact find_in hn.2 hv
theorem row_eq {r : Rw} (hr : rightV r = true) : (kindsN (maskN r)).map (findV r) = r := by
  rw [row_kinds hr, List.map_map]
  exact (List.map_congr_left fun v hv => find_in (row_nd hr) hv).trans (List.map_id _)
theorem row_len {r : Rw} (hr : rightV r = true) : r.length ≤ 10 := by
  have := congrArg List.length (row_kinds hr); rw [List.length_map] at this; have := kindsN_len (maskN r); omega
def colOf (es : List Ey) (k : Int) : List V3 := es.map fun e => findV e.2 k
def colsL (m : Nat) (es : List Ey) : List (Int × List V3) := (kindsN m).map fun k => (k, colOf es k)
theorem colOf_len (es : List Ey) (k : Int) : (colOf es k).length = es.length := by unfold colOf; rw [List.length_map]
theorem colOf_at {es : List Ey} {i : Nat} (k : Int) : (colOf es k).getD i v0 = findV (es.getD i dE).2 k := by
  unfold colOf
  rw [List.getD_eq_getElem?_getD, List.getD_eq_getElem?_getD, List.getElem?_map]
  cases es[i]? with
  | some e => rfl
  | none => rfl
abbrev PT := (Int → Nat) × List Int × Nat × Option Addr × Nat
structure TOk (Q : List (PRow Int)) (m : Nat) (es : List Ey) (x : PT) : Prop where
  pool : Q[x.2.2.1]? = some (x.2.2.2.1, x.2.2.2.2, kindsN m)
  perm : x.2.1.Perm (kindsN m)
  lt : m < 1024
  rows : ∀ e ∈ es, rightV e.2 = true ∧ maskN e.2 = m
  len : es.length ≤ 128
noncomputable def tblH (E : Nat → Addr) (m : Nat) (es : List Ey) (x : PT) : Hp := [(0, .cells 133 [.ptr 1 0, .int .u64 ((m : Nat) : Int), .raw (.slice x.2.2.2.1 (kindsN m).length x.2.2.2.2), .mp 2]), (1, .pr (colH E (es.map (fun e : Ey => e.1)))), (2, .pr (mapPr veI veP (ptrL x.2.1 x.1))), (3, .pr (restPr (colV E) (colsL m es) x.1))]
noncomputable def tblPr (E : Nat → Addr) (Q : List (PRow Int)) (m : Nat) (es : List Ey) : Pr := exPr (TOk Q m es) fun x => grp (Gm E) (tblH E m es x)
theorem tbl_placed (E : Nat → Addr) (Q : List (PRow Int)) (m : Nat) (es : List Ey) : Placed (tblPr E Q m es) := placed_ex fun x => placed_grp
theorem tbl_more {E : Nat → Addr} {Q : List (PRow Int)} {m : Nat} {es : List Ey} (R : List (PRow Int)) (a : Option Addr) (B : Nat → Prop) (w : World) (h : (tblPr E Q m es).ok a B w) : (tblPr E (Q ++ R) m es).ok a B w := by
  obtain ⟨x, h1, h2⟩ := h
  exact ⟨x, ⟨by rw [List.getElem?_append_left (List.getElem?_eq_some_iff.1 h1.pool).1]; exact h1.pool, h1.perm, h1.lt, h1.rows, h1.len⟩, h2⟩
theorem mapCol : MapTy Tryz.prog 131 3 178 veI veP none := ⟨Tryz.underlying131, KeyT.int Tryz.underlying3, by kernel_rfl⟩
end Go.Proofs.YtcnbngiplfoomaaGreatDoor
namespace Go.Proofs.YtcnbngiplfoomaaGreatDoor
open Go.Zz Go.Px
set_option linter.unusedVariables false
set_option linter.unusedSectionVars false
set_option linter.unusedSimpArgs false
set_option maxRecDepth 10000
theorem hs_at {es : List Ey} {i : Nat} : (es.map (fun e : Ey => e.1)).getD i ((0, 0) : Int × Int) = (es.getD i dE).1 := by
  rw [List.getD_eq_getElem?_getD, List.getD_eq_getElem?_getD, List.getElem?_map]
  cases es[i]? with
  | some e => rfl
  | none => rfl
theorem hs_len (es : List Ey) : (es.map (fun e : Ey => e.1)).length = es.length := List.length_map _
section
variable {E : Nat → Addr} {es : List Ey} {i : Int}
theorem hget (h : 0 ≤ i ∧ i < (es.length : Nat)) : Does (Gm E) 115 ⟨[.ptr 0 0, .int .i64 i], [(0, .pr (colH E (es.map (fun e : Ey => e.1))))], 1, 2, Unit, fun _ => True, fun _ => .tup [.agg [.int .i64 (es.getD i.toNat dE).1.1, .int .i64 (es.getD i.toNat dE).1.2], .nili], fun _ => [(0, .pr (colH E (es.map (fun e : Ey => e.1))))]⟩ := by
  have q := colGetH E (es.map (fun e : Ey => e.1)) i (by rw [hs_len]; exact h)
  rw [hs_at] at q; exact q
theorem hlen : Does (Gm E) 71 ⟨[.ptr 0 0], [(0, .pr (colH E (es.map (fun e : Ey => e.1))))], 1, 2, Unit, fun _ => True, fun _ => .int .i64 (es.length : Nat), fun _ => [(0, .pr (colH E (es.map (fun e : Ey => e.1))))]⟩ := by
  have q := colLenH E (es.map (fun e : Ey => e.1)); rw [hs_len] at q; exact q
end
set_option maxHeartbeats 4000000 in
theorem tHandle (E : Nat → Addr) (Q : List (PRow Int)) (m : Nat) (es : List Ey) (i : Int) (h : 0 ≤ i ∧ i < (es.length : Nat)) : Does (Gm E) 72 ⟨[.ptr 0 0, .int .i64 i], [(0, .pr (tblPr E Q m es))], 1, 2, Unit, fun _ => True, fun _ => .tup [.agg [.int .i64 (es.getD i.toNat dE).1.1, .int .i64 (es.getD i.toNat dE).1.2], .nili], fun _ => [(0, .pr (tblPr E Q m es))]⟩ := by
  rename 0 ≤ i ∧ i < _ => hi
  refine DoesC.does (fn_start Tryz.func72 rfl rfl rfl ?_)
  change EntryGoal _ _ _ _ _
  refine entryG.ex 0 rfl (fun t ht => ?_)
  change EntryGoal _ _ _ _ _
  refine entryG.open_ 0 rfl 4 rfl rfl ?_
  change EntryGoal _ _ _ _ _
  refine entry_go (gmOk E) 14 1 [] Tryz.func72 rfl rfl rfl rfl ?_
  repeat' first | (change RetGoal _ _ _ _ _; first | (refine retG'.shut (Γ0 := Gm E) rfl (.cells 133 [.ptr 1 0, .int .u64 ((m : Nat) : Int), .raw (.slice t.2.2.2.1 (kindsN m).length t.2.2.2.2), .mp 2]) [(1, .pr (colH E (es.map (fun e : Ey => e.1)))), (2, .pr (mapPr veI veP (ptrL t.2.1 t.1))), (3, .pr (restPr (colV E) (colsL m es) t.1))] [0, 2, 3, 4] (And.intro rfl (And.intro rfl (And.intro rfl (And.intro rfl True.intro)))) rfl ?_; change RetGoal _ _ _ _ _; refine retG'.hide (X := PT) (p := TOk Q m es) (Φ := fun x => grp (Gm E) (tblH E m es x)) 0 t ht rfl ?_; change RetGoal _ _ _ _ _; refine ret_done rfl ?_)) | (intro h; first | (exfalso; omega; done) | skip) | (refine And.intro ?_ ?_) | exact True.intro | (refine @Exists.intro Unit _ () ?_) | (refine @Exists.intro (_ = _) _ rfl ?_) | (change CallGoal _ _ _ _ _ _; first | (refine call_rule (hget (E := E) (es := es) hi) [2] rfl (And.intro rfl True.intro) rfl (fun y1 hy1 => ?_)))
  all_goals first | rfl | omega | assumption
set_option maxHeartbeats 4000000 in
theorem tHandles (E : Nat → Addr) (Q : List (PRow Int)) (m : Nat) (es : List Ey) : Does (Gm E) 77 ⟨[.ptr 0 0], [(0, .pr (tblPr E Q m es))], 1, 3, Nat, fun q => es.length ≤ q, fun q => .sl 1 es.length q, fun q => [(0, .pr (tblPr E Q m es)), (1, .arr (Int × Int) (Zz.encP Zz.encI Zz.encI) 28 (es.map (fun e : Ey => e.1)) q)]⟩ := by
  refine DoesC.does (fn_start Tryz.func77 rfl rfl rfl ?_)
  change EntryGoal _ _ _ _ _
  refine entryG.ex 0 rfl (fun t ht => ?_)
  change EntryGoal _ _ _ _ _
  refine entryG.open_ 0 rfl 4 rfl rfl ?_
  change EntryGoal _ _ _ _ _
  refine entry_go (gmOk E) 8 1 [] Tryz.func77 rfl rfl rfl rfl ?_
  repeat' first | (change RetGoal _ _ _ _ _; first | (refine retG'.shut (Γ0 := Gm E) rfl (.cells 133 [.ptr 1 0, .int .u64 ((m : Nat) : Int), .raw (.slice t.2.2.2.1 (kindsN m).length t.2.2.2.2), .mp 2]) [(1, .pr (colH E (es.map (fun e : Ey => e.1)))), (2, .pr (mapPr veI veP (ptrL t.2.1 t.1))), (3, .pr (restPr (colV E) (colsL m es) t.1))] [0, 2, 3, 4] (And.intro rfl (And.intro rfl (And.intro rfl (And.intro rfl True.intro)))) rfl ?_; change RetGoal _ _ _ _ _; refine retG'.hide (X := PT) (p := TOk Q m es) (Φ := fun x => grp (Gm E) (tblH E m es x)) 0 t ht rfl ?_; change RetGoal _ _ _ _ _; refine ret_done rfl ?_)) | (intro h; first | (exfalso; omega; done) | skip) | (refine And.intro ?_ ?_) | exact True.intro | (refine @Exists.intro Unit _ () ?_) | (refine @Exists.intro (_ = _) _ rfl ?_) | (refine @Exists.intro (Nat) _ ?_ ?_; rotate_left) | (change CallGoal _ _ _ _ _ _; first | (refine call_rule (colAllH E (es.map (fun e : Ey => e.1))) [2] rfl (And.intro rfl True.intro) rfl (fun (q1 : Nat) hq1 => ?_)))
  all_goals first | rfl | omega | assumption | exact hs_len es | exact (hs_len es).symm | exact (hs_len es) ▸ hq1
end Go.Proofs.YtcnbngiplfoomaaGreatDoor
namespace Go.Proofs.YtcnbngiplfoomaaGreatDoor
open Go.Zz Go.Px
set_option linter.unusedVariables false
set_option linter.unusedSectionVars false
set_option linter.unusedSimpArgs false
set_option maxRecDepth 10000
section
variable {m : Nat} {es : List Ey} {f g : Int → List V3} {k : Int} {l : List V3}
def colsF (m : Nat) (f : Int → List V3) : List (Int × List V3) := (kindsN m).map fun k => (k, f k)
def updF (f : Int → List V3) (k : Int) (l : List V3) : Int → List V3 := fun j => if j = k then l else f j
theorem colsF_put (hk : k ∈ kindsN m) : Go.Px.putK (colsF m f) k l = colsF m (updF f k l) := by
  unfold Go.Px.putK
  rw [if_pos (show hasK (colsF m f) k = true from hasK_iff.2 (List.mem_map.2 ⟨(k, f k), List.mem_map.2 ⟨k, hk, rfl⟩, rfl⟩))]
  unfold colsF
  rw [List.map_map]
  refine List.map_congr_left fun j hj => ?_
  simp only [Function.comp, updF]
  split
  · rename_i e; rw [e]
  · rfl
theorem colsF_nd (m : Nat) (f : Int → List V3) : ((colsF m f).map (·.1)).Nodup := by
  unfold colsF; rw [List.map_map]
  have : ((fun x : Int × List V3 => x.1) ∘ fun k => (k, f k)) = id := rfl
  rw [this, List.map_id]; exact kindsN_nd m
theorem colsF_get (hk : k ∈ kindsN m) : getK (colsF m f) k = some (f k) := (kget (colsF_nd m f)).2 (List.mem_map.2 ⟨k, hk, rfl⟩)
theorem colsF_has (hk : k ∈ kindsN m) : hasK (colsF m f) k = true := hasK_iff.2 (List.mem_map.2 ⟨(k, f k), List.mem_map.2 ⟨k, hk, rfl⟩, rfl⟩)
theorem updF_same : updF f k (f k) = f := by funext j; unfold updF; split
                                             · rename_i e; rw [e]
                                             · rfl
theorem colsF_cong (h : ∀ k ∈ kindsN m, f k = g k) : colsF m f = colsF m g := List.map_congr_left fun k hk => by rw [h k hk]
theorem colsF_same (hk : k ∈ kindsN m) : Go.Px.putK (colsF m f) k (f k) = colsF m f := by rw [colsF_put hk, updF_same]
end
section
variable {r r' : Rw} {k : Int} {v : V3} {m : Nat} {es : List Ey} {i : Nat} {h : Hd} {Q : List (PRow Int)} {x : PT}
def putR (r : Rw) (v : V3) : Rw := byKinds (putL r v) 10
theorem putR_mask (hr : rightV r = true) (hv : vcheck v = 0) (hk : v.k ∈ kindsN (maskN r)) : maskN (putR r v) = maskN r := by
  unfold putR
  rw [put_mask hr hv]
  apply Nat.eq_of_testBit_eq
  intro j
  rw [Nat.testBit_or]
  unfold bitN
  rw [Nat.testBit_two_pow]
  by_cases e : v.k.toNat = j
  · subst e; rw [(kindsN_mem.1 hk).2]; rfl
  · simp [e]
theorem row_at (ht : TOk Q m es x) (hi : i < es.length) : rightV (es.getD i dE).2 = true ∧ maskN (es.getD i dE).2 = m :=
  ht.rows _ (by rw [List.getD_eq_getElem?_getD, List.getElem?_eq_getElem hi]; exact List.getElem_mem hi)
theorem TOk.set (ht : TOk Q m es x) (hi : i < es.length) (hv : vcheck v = 0) (hk : v.k ∈ kindsN m) : TOk Q m (es.set i ((es.getD i dE).1, putR (es.getD i dE).2 v)) x where
  pool := ht.pool
  perm := ht.perm
  lt := ht.lt
  len := by rw [List.length_set]; exact ht.len
  rows := fun e he => by
    obtain ⟨q1, q2⟩ := row_at ht hi
    rcases List.mem_or_eq_of_mem_set he with he | rfl
    · exact ht.rows e he
    · exact ⟨put_right q1 hv, (putR_mask q1 hv (by rw [q2]; exact hk)).trans q2⟩
end
theorem colGetAt (E : Nat → Addr) {es : List Ey} {i : Int} (k : Int) (h : 0 ≤ i ∧ i < (es.length : Nat)) : Does (Gm E) 105 ⟨[.ptr 0 0, .int .i64 i], [(0, .pr (colV E (colOf es k)))], 1, 2, Unit, fun _ => True, fun _ => .tup [.agg [.int .i64 (findV (es.getD i.toNat dE).2 k).k, .int .i64 (findV (es.getD i.toNat dE).2 k).a, .int .i64 (findV (es.getD i.toNat dE).2 k).b], .nili], fun _ => [(0, .pr (colV E (colOf es k)))]⟩ := by
  have q := colGetV E (colOf es k) i (by rw [colOf_len]; exact h)
  rw [colOf_at] at q; exact q
end Go.Proofs.YtcnbngiplfoomaaGreatDoor
namespace Go.Proofs.YtcnbngiplfoomaaGreatDoor
open Go.Zz Go.Px
set_option linter.unusedVariables false
set_option linter.unusedSectionVars false
set_option linter.unusedSimpArgs false
set_option maxRecDepth 10000
theorem kat {m : Nat} {i : Int} (h0 : 0 ≤ i) (h : i < ((kindsN m).length : Nat)) : (kindsN m).getD i.toNat 0 ∈ kindsN m := by
  rw [List.getD_eq_getElem?_getD, List.getElem?_eq_getElem (by omega)]; exact List.getElem_mem (by omega)
def rowTo (m : Nat) (r : Rw) (i : Int) : Rw := ((kindsN m).take i.toNat).map (findV r)
theorem rowTo_next {m : Nat} {r : Rw} {i : Int} (h0 : 0 ≤ i) (h : i < ((kindsN m).length : Nat)) : rowTo m r i ++ [findV r ((kindsN m).getD i.toNat 0)] = rowTo m r (i + 1) := by
  unfold rowTo; rw [take_nextI (d := 0) ⟨h0, h⟩, List.map_append]; rfl
theorem rowTo_end {m : Nat} {r : Rw} {i : Int} (hr : rightV r = true) (hm : maskN r = m) (h : ¬ i < ((kindsN m).length : Nat)) : rowTo m r i = r := by
  unfold rowTo; rw [List.take_of_length_le (by omega), ← hm]; exact row_eq hr
theorem rowTo_len {m : Nat} {r : Rw} {i : Int} : (rowTo m r i).length ≤ 10 := by
  unfold rowTo; rw [List.length_map, List.length_take]; have := kindsN_len m; omega
set_option maxHeartbeats 4000000 in
theorem tEntity (E : Nat → Addr) (Q : List (PRow Int)) (m : Nat) (es : List Ey) (i : Int) (h : 0 ≤ i ∧ i < (es.length : Nat)) : Does (Gm E) 65 ⟨[.ptr 0 0, .int .i64 i], [(0, .pr (tblPr E Q m es)), (1, .fo (roPool Zz.encI Q))], 2, 3, Nat, fun q => (es.getD i.toNat dE).2.length ≤ q, fun q => .tup [.agg [.int .i64 (es.getD i.toNat dE).1.1, .int .i64 (es.getD i.toNat dE).1.2, .sl 2 (es.getD i.toNat dE).2.length q], .nili], fun q => [(0, .pr (tblPr E Q m es)), (2, .arr V3 Zz.encV 34 (es.getD i.toNat dE).2 q)]⟩ := by
  rename 0 ≤ i ∧ i < _ => hi
  refine DoesC.does (fn_start Tryz.func65 rfl rfl rfl ?_)
  change EntryGoal _ _ _ _ _
  refine entry_go (gmOk E) 54 2 [3] Tryz.func65 rfl rfl rfl rfl ?_
  repeat' first | (change JoinGoal _ _ _ _ _ _ _ _; refine join_stop (gmOk E) ?_) | (change HereGoal _ _ _ _ _ _ _; refine hereG.ex 0 rfl (fun t ht => ?_); change HereGoal _ _ _ _ _ _ _; refine hereG.open_ 0 rfl 4 rfl rfl ?_; change HereGoal _ _ _ _ _ _ _; refine hereG.foOut 1 t.2.2.1 _ rfl ht.pool ?_; change HereGoal _ _ _ _ _ _ _; refine hereG.cast 10 (.ro Int Zz.encI (kindsN m) t.2.2.2.2) rfl rfl ?_; change HereGoal _ _ _ _ _ _ _; refine hereG.cells_ 0 [.ptr 7 0, .int .u64 ((m : Nat) : Int), .sl 10 (kindsN m).length t.2.2.2.2, .mp 8] rfl rfl (fun En V w hp => by have q := says (c := 11) rfl hp; simp only [SV.renL, SV.ren, SV.denL, SV.den, PRow.val] at q ⊢; rw [q]) ?_; change HereGoal _ _ _ _ _ _ _; refine here_go (gmOk E) ?_) | (change OpGoal _ _ _ _ (.lookup 131 _ _ false) _; refine op_retell ?_; change OpGoal _ _ _ _ _ _; refine lookupG_rule mapCol 8 _ ((kindsN m).getD x.1.toNat 0) (some (t.1 ((kindsN m).getD x.1.toNat 0))) rfl rfl rfl (ptrL_get (ht.perm.mem_iff.2 (kat hI.1 (by assumption)))) ?_; change Retell _ _ _ _ _; refine retellG.restOut 9 (colsL m es) t.1 ((kindsN m).getD x.1.toNat 0) (colOf es ((kindsN m).getD x.1.toNat 0)) rfl (colsF_get (kat hI.1 (by assumption))) ?_; change Retell _ _ _ _ _; refine retell_to (.ptr 28 0) (fun _ => bdB_ok _ rfl) (by intro h; cases h) (fun En V w hp => by have q := rest_ptr (r := 9) (m := 28) rfl hp; first | exact q.symm | (simp only [SV.den, SV.denL, veP] at q ⊢; rw [q])) ?_; change Retell _ _ _ _ _; refine retell_done ?_) | (change NextGoal _ _ _; refine nextG.restIn 9 28 (colOf es ((kindsN m).getD x.1.toNat 0)) rfl rfl rfl (colV_placed E _) (colsF_has (kat hI.1 (by assumption))) ?_; change NextGoal _ _ _; refine nextG.cast 9 (.pr (restPr (colV E) (colsL m es) t.1)) rfl (by rw [show colsL m es = colsF m (colOf es) from rfl, colsF_same (kat hI.1 (by assumption))]) ?_; change NextGoal _ _ _; refine next_go ?_) | (change RetGoal _ _ _ _ _; first | (change RetGoal _ _ _ _ _; refine retG'.cells_ 0 [.ptr 7 0, .int .u64 ((m : Nat) : Int), .raw (.slice t.2.2.2.1 (kindsN m).length t.2.2.2.2), .mp 8] rfl rfl (fun En V w hp => by have q := says (c := 11) rfl hp; simp only [SV.renL, SV.ren, SV.denL, SV.den, PRow.val] at q ⊢; rw [q]) ?_; change RetGoal _ _ _ _ _; refine retG'.cast 12 (.arr V3 Zz.encV 34 (es.getD i.toNat dE).2 x.2) rfl (by rw [rowTo_end (row_at ht (by omega)).1 (row_at ht (by omega)).2 (by assumption)]) ?_; change RetGoal _ _ _ _ _; (refine retG'.shut (Γ0 := Gm E) rfl (.cells 133 [.ptr 1 0, .int .u64 ((m : Nat) : Int), .raw (.slice t.2.2.2.1 (kindsN m).length t.2.2.2.2), .mp 2]) [(1, .pr (colH E (es.map (fun e : Ey => e.1)))), (2, .pr (mapPr veI veP (ptrL t.2.1 t.1))), (3, .pr (restPr (colV E) (colsL m es) t.1))] [0, 7, 8, 9] (And.intro rfl (And.intro rfl (And.intro rfl (And.intro rfl True.intro)))) rfl ?_; change RetGoal _ _ _ _ _; refine retG'.hide (X := PT) (p := TOk Q m es) (Φ := fun x => grp (Gm E) (tblH E m es x)) 0 t ht rfl ?_; change RetGoal _ _ _ _ _; refine ret_done rfl ?_))) | (intro h; first | (exfalso; omega; done) | (exfalso; exact h trivial; done) | skip) | (refine And.intro ?_ ?_) | exact True.intro | (refine @Exists.intro Unit _ () ?_) | (refine @Exists.intro (_ = _) _ rfl ?_) | (change LoopGoal _ _ _ _ _ _; refine loop_at2 4 (gmOk E) rfl [3] (X := (Int × Nat)) (fun x => [(26, .int .i64 x.1)]) (fun x => [(5, .cells 37 [.int .i64 (es.getD i.toNat dE).1.1, .int .i64 (es.getD i.toNat dE).1.2, .sl 12 (rowTo m (es.getD i.toNat dE).2 x.1).length x.2]), (12, .arr V3 Zz.encV 34 (rowTo m (es.getD i.toNat dE).2 x.1) x.2)]) [] (fun x => 0 ≤ x.1 ∧ x.1 ≤ ((kindsN m).length : Nat) ∧ (rowTo m (es.getD i.toNat dE).2 x.1).length ≤ x.2) (fun x => (kindsN m).length - x.1.toNat) ⟨(0, 0), ?_⟩ (fun x hI => ?_)) | (change @Exists ((Int × Nat)) (fun _ => updK _ _ _ _ _ _); refine @Exists.intro ((Int × Nat)) _ ((x.1 + 1, ?_)) ?_; rotate_left 1) | (refine @Exists.intro (Nat) _ ?_ ?_; rotate_left) | (change CallGoal _ _ _ _ _ _; first | (refine call_rule (tHandle E Q m es i hi) [0] rfl (And.intro rfl True.intro) rfl (fun y1 hy1 => ?_)) | (refine call_rule (colGetAt E ((kindsN m).getD x.1.toNat 0) hi) [28] rfl (And.intro rfl True.intro) rfl (fun y2 hy2 => ?_)))
  all_goals first | rfl | omega | assumption | exact Nat.zero_le _ | exact Nat.le_refl 1 | (change _ * 24 ≤ _; have := rowTo_len (m := m) (r := (es.getD i.toNat dE).2) (i := x.1); omega) | (have := kindsN_len m; omega) | (rw [List.take_length]; exact congrArg (fun q => Ch.arr _ _ _ q _) (rowTo_next hI.1 (by assumption))) | (rw [List.take_length, ← rowTo_next hI.1 (by assumption)]; rfl) | (have q := hI.2.2; rw [show rowTo m (es.getD i.toNat dE).2 x.1 = (es.getD i.toNat dE).2 from rowTo_end (row_at ht (by omega)).1 (row_at ht (by omega)).2 (by assumption)] at q; exact q) | (dsimp only; omega) | (rw [← rowTo_next hI.1 (by assumption), List.length_append]; assumption) | (show (rowTo _ _ (x.1 + 1)).length ≤ _; rw [← rowTo_next hI.1 (by assumption), List.length_append]; assumption) | (rw [rowTo_end (row_at ht (by omega)).1 (row_at ht (by omega)).2 (by assumption)]; done) | exact rowTo_next hI.1 (by assumption) | (have := rowTo_len (m := m) (r := ((es.getD i.toNat dE).2)) (i := x.1); omega) | (show _ = (rowTo _ _ (x.1 + 1)).length; rw [← rowTo_next hI.1 (by assumption), List.length_append]; rfl)
end Go.Proofs.YtcnbngiplfoomaaGreatDoor
namespace Go.Proofs.YtcnbngiplfoomaaGreatDoor
open Go.Zz Go.Px
set_option linter.unusedVariables false
set_option linter.unusedSectionVars false
set_option linter.unusedSimpArgs false
set_option maxRecDepth 10000
section
variable {m : Nat} {es : List Ey} {row : Rw} {i k : Int} {h : Hd} {Q : List (PRow Int)} {x : PT}
def addC (es : List Ey) (row : Rw) (i : Int) (k : Int) : List V3 := if (row.take i.toNat).any (fun v => v.k == k) then colOf es k ++ [findV row k] else colOf es k
theorem row_in (h : 0 ≤ i ∧ i < (row.length : Nat)) : row.getD i.toNat v0 ∈ row := by
  rw [List.getD_eq_getElem?_getD, List.getElem?_eq_getElem (by omega)]; exact List.getElem_mem (by omega)
theorem addC_at (hr : rightV row = true) (h : 0 ≤ i ∧ i < (row.length : Nat)) : addC es row i (row.getD i.toNat v0).k = colOf es (row.getD i.toNat v0).k := by
  unfold addC
  rw [if_neg]
  intro q
  obtain ⟨u, hu, e⟩ := List.any_eq_true.1 q
  have e := beq_iff_eq.1 e
  obtain ⟨j, hj⟩ := List.getElem?_of_mem hu
  rw [List.getElem?_take] at hj
  split at hj
  · rename_i hji
    have hs := right_strict hr
    have h1 : row[i.toNat]? = some (row.getD i.toNat v0) := by rw [List.getD_eq_getElem?_getD, List.getElem?_eq_getElem (by omega)]; rfl
    rw [List.getElem?_eq_some_iff] at hj h1
    obtain ⟨hj1, hj2⟩ := hj
    obtain ⟨hi1, hi2⟩ := h1
    have := List.pairwise_iff_getElem.1 hs j i.toNat hj1 hi1 hji
    rw [hj2, hi2, e] at this
    exact absurd this (by omega)
  · cases hj
theorem addC_len (hr : rightV row = true) (h : 0 ≤ i ∧ i < (row.length : Nat)) : (addC es row i (row.getD i.toNat v0).k).length = es.length := by rw [addC_at hr h, colOf_len]
theorem addC_next (hr : rightV row = true) (h : 0 ≤ i ∧ i < (row.length : Nat)) : colsF m (updF (addC es row i) (row.getD i.toNat v0).k (addC es row i (row.getD i.toNat v0).k ++ [row.getD i.toNat v0])) = colsF m (addC es row (i + 1)) := by
  refine colsF_cong fun k _ => ?_
  unfold updF
  split
  · rename_i e
    rw [e, addC_at hr h]
    unfold addC
    rw [if_pos (by rw [take_nextI (d := v0) h, List.any_append]; simp), find_in (row_nd hr) (row_in h)]
  · rename_i e
    unfold addC
    have : ((row.take (i + 1).toNat).any fun v => v.k == k) = (row.take i.toNat).any fun v => v.k == k := by
      rw [take_nextI (d := v0) h, List.any_append, List.any_cons, List.any_nil, Bool.or_false]
      rw [show ((row.getD i.toNat v0).k == k) = false by simp; exact fun q => e q.symm, Bool.or_false]
    rw [this]
theorem row_kin (hr : rightV row = true) (hm : maskN row = m) (h : 0 ≤ i ∧ i < (row.length : Nat)) : (row.getD i.toNat v0).k ∈ kindsN m := by
  rw [← hm, row_kinds hr]; exact List.mem_map.2 ⟨_, row_in h, rfl⟩
theorem addC_end (hr : rightV row = true) (hm : maskN row = m) (hi : ¬ i < (row.length : Nat)) : colsF m (addC es row i) = colsF m (colOf (es ++ [(h, row)])) := by
  refine colsF_cong fun k hk => ?_
  unfold addC
  rw [List.take_of_length_le (by omega), if_pos]
  · unfold colOf; rw [List.map_append]; rfl
  · rw [← hm, row_kinds hr] at hk
    obtain ⟨u, hu, e⟩ := List.mem_map.1 hk
    exact List.any_eq_true.2 ⟨u, hu, by simp [e]⟩
theorem TOk.add (ht : TOk Q m es x) (hr : rightV row = true) (hm : maskN row = m) (hl : es.length < 128) : TOk Q m (es ++ [(h, row)]) x where
  pool := ht.pool
  perm := ht.perm
  lt := ht.lt
  len := by rw [List.length_append]; exact hl
  rows := fun e he => by
    rcases List.mem_append.1 he with he | he
    · exact ht.rows e he
    · obtain rfl := List.mem_singleton.1 he; exact ⟨hr, hm⟩
theorem maskN_cong {a b : Nat} (h : a = b) : ((a : Nat) : Int) = ((b : Nat) : Int) := by rw [h]
end
set_option maxHeartbeats 4000000 in
theorem tAdd (E : Nat → Addr) (Q : List (PRow Int)) (m : Nat) (es : List Ey) (hd : Hd) (row : Rw) (n k : Nat) (h : n = row.length ∧ rightV row = true ∧ maskN row = m ∧ es.length < 128) : Does (Gm E) 98 ⟨[.ptr 0 0, .agg [.int .i64 hd.1, .int .i64 hd.2], .sl 1 n k], [(0, .pr (tblPr E Q m es)), (1, .ro V3 Zz.encV row k)], 2, 2, Unit, fun _ => True, fun _ => .tup [.int .i64 (es.length : Nat), .nili], fun _ => [(0, .pr (tblPr E Q m (es ++ [(hd, row)])))]⟩ := by
  obtain ⟨rfl, hr, hm, hl⟩ := h; have hrl := row_len hr
  refine DoesC.does (fn_start Tryz.func98 rfl rfl rfl ?_)
  change EntryGoal _ _ _ _ _
  refine entryG.ex 0 rfl (fun t ht => ?_)
  change EntryGoal _ _ _ _ _
  refine entryG.open_ 0 rfl 4 rfl rfl ?_
  change EntryGoal _ _ _ _ _
  refine entry_go (gmOk E) 62 2 [] Tryz.func98 rfl rfl rfl rfl ?_
  repeat' first | (change OpGoal _ _ _ _ (.lookup 131 _ _ false) _; refine op_retell ?_; change OpGoal _ _ _ _ _ _; refine lookupG_rule mapCol 4 _ (row.getD x.toNat v0).k (some (t.1 (row.getD x.toNat v0).k)) rfl rfl rfl (ptrL_get (ht.perm.mem_iff.2 (row_kin hr hm ⟨hI.1, (by assumption)⟩))) ?_; change Retell _ _ _ _ _; refine retellG.restOut 5 (colsF m (addC es row x)) t.1 (row.getD x.toNat v0).k (addC es row x (row.getD x.toNat v0).k) rfl (colsF_get (row_kin hr hm ⟨hI.1, (by assumption)⟩)) ?_; change Retell _ _ _ _ _; refine retell_to (.ptr 26 0) (fun _ => bdB_ok _ rfl) (by intro h; cases h) (fun En V w hp => by have q := rest_ptr (r := 5) (m := 26) rfl hp; first | exact q.symm | (simp only [SV.den, SV.denL, veP] at q ⊢; rw [q])) ?_; change Retell _ _ _ _ _; refine retell_done ?_) | (change OpGoal _ _ _ _ (.lookup 131 _ _ false) _; refine op_retell ?_; change OpGoal _ _ _ _ _ _; refine lookupG_rule mapCol 4 _ (row.getD x.toNat v0).k (some (t.1 (row.getD x.toNat v0).k)) rfl rfl rfl (ptrL_get (ht.perm.mem_iff.2 (row_kin hr hm ⟨hI.1, (by assumption)⟩))) ?_; change Retell _ _ _ _ _; refine retellG.restOut 5 (colsF m (addC es row x)) t.1 (row.getD x.toNat v0).k (addC es row x (row.getD x.toNat v0).k) rfl (colsF_get (row_kin hr hm ⟨hI.1, (by assumption)⟩)) ?_; change Retell _ _ _ _ _; refine retell_to (.ptr 27 0) (fun _ => bdB_ok _ rfl) (by intro h; cases h) (fun En V w hp => by have q := rest_ptr (r := 5) (m := 27) rfl hp; first | exact q.symm | (simp only [SV.den, SV.denL, veP] at q ⊢; rw [q])) ?_; change Retell _ _ _ _ _; refine retell_done ?_) | (change NextGoal _ _ _; refine nextG.restIn 5 26 (addC es row x (row.getD x.toNat v0).k ++ [(row.getD x.toNat v0)]) rfl rfl rfl (colV_placed E _) (colsF_has (row_kin hr hm ⟨hI.1, (by assumption)⟩)) ?_; change NextGoal _ _ _; refine nextG.cast 5 (.pr (restPr (colV E) (colsF m (addC es row (x + 1))) t.1)) rfl (by rw [colsF_put (row_kin hr hm ⟨hI.1, (by assumption)⟩), addC_next hr ⟨hI.1, (by assumption)⟩]) ?_; change NextGoal _ _ _; refine next_go ?_) | (change NextGoal _ _ _; refine nextG.restIn 5 27 (addC es row x (row.getD x.toNat v0).k ++ [(row.getD x.toNat v0)]) rfl rfl rfl (colV_placed E _) (colsF_has (row_kin hr hm ⟨hI.1, (by assumption)⟩)) ?_; change NextGoal _ _ _; refine nextG.cast 5 (.pr (restPr (colV E) (colsF m (addC es row (x + 1))) t.1)) rfl (by rw [colsF_put (row_kin hr hm ⟨hI.1, (by assumption)⟩), addC_next hr ⟨hI.1, (by assumption)⟩]) ?_; change NextGoal _ _ _; refine next_go ?_) | (change RetGoal _ _ _ _ _; first | (refine retG'.cast 5 (.pr (restPr (colV E) (colsL m (es ++ [(hd, row)])) t.1)) rfl (by rw [show colsL m (es ++ [(hd, row)]) = colsF m (colOf (es ++ [(hd, row)])) from rfl, addC_end (h := hd) hr hm (by assumption)]) ?_; change RetGoal _ _ _ _ _; refine retG'.cast 3 (.pr (colH E ((es ++ [(hd, row)]).map (fun e : Ey => e.1)))) rfl (by rw [List.map_append]; rfl) ?_; change RetGoal _ _ _ _ _; (refine retG'.shut (Γ0 := Gm E) rfl (.cells 133 [.ptr 1 0, .int .u64 ((m : Nat) : Int), .raw (.slice t.2.2.2.1 (kindsN m).length t.2.2.2.2), .mp 2]) [(1, .pr (colH E ((es ++ [(hd, row)]).map (fun e : Ey => e.1)))), (2, .pr (mapPr veI veP (ptrL t.2.1 t.1))), (3, .pr (restPr (colV E) (colsL m (es ++ [(hd, row)])) t.1))] [0, 3, 4, 5] (And.intro rfl (And.intro rfl (And.intro rfl (And.intro rfl True.intro)))) rfl ?_; change RetGoal _ _ _ _ _; refine retG'.hide (X := PT) (p := TOk Q m (es ++ [(hd, row)])) (Φ := fun x => grp (Gm E) (tblH E m (es ++ [(hd, row)]) x)) 0 t (ht.add hr hm hl) rfl ?_; change RetGoal _ _ _ _ _; refine ret_done rfl ?_))) | (intro h; first | (exfalso; omega; done) | (exfalso; first | exact h trivial | exact h (by rw [hr]; rfl) | exact h (maskN_cong hm); done) | skip) | (refine And.intro ?_ ?_) | exact True.intro | (refine @Exists.intro Unit _ () ?_) | (refine @Exists.intro (_ = _) _ rfl ?_) | (change LoopGoal _ _ _ _ _ _; refine loop_at2 8 (gmOk E) rfl [] (X := Int) (fun x => [(43, .int .i64 x)]) (fun x => [(5, .pr (restPr (colV E) (colsF m (addC es row x)) t.1))]) [] (fun x => 0 ≤ x ∧ x ≤ (row.length : Nat)) (fun x => row.length - x.toNat) ⟨0, ?_⟩ (fun x hI => ?_)) | (change @Exists (Int) (fun _ => updK _ _ _ _ _ _); refine @Exists.intro (Int) _ ((?_)) ?_; rotate_left 1) | (change DrawGoal _ _ _ _ _ _; first | (change DrawGoal _ _ _ ({ dst := some 13, op := _, type := _, pos := _, after := _, guard := _ } :: _) _ _; refine draw_tree (gmOk E) [0, 1] (.leaf [(0, true), (1, false), (2, true), (3, true), (4, true), (6, true), (7, true), (8, true), (9, true), (5, false), (10, true), (11, true)]) (by kernel_rfl) ?_) | (change DrawGoal _ _ _ ({ dst := some 25, op := _, type := _, pos := _, after := _, guard := _ } :: _) _ _; refine draw_tree (gmOk E) [] (.leaf [(0, true), (1, true), (2, true)]) (by kernel_rfl) ?_) | (change DrawGoal _ _ _ ({ dst := some 31, op := _, type := _, pos := _, after := _, guard := _ } :: _) _ _; refine draw_tree (gmOk E) [0, 6] (.leaf [(0, true), (1, true), (2, true), (3, true), (4, true), (5, false), (6, false), (7, true)]) (by kernel_rfl) ?_) | (change DrawGoal _ _ _ ({ dst := some 47, op := _, type := _, pos := _, after := _, guard := _ } :: _) _ _; refine draw_tree (gmOk E) [0, 25] (.alt [(0, true), (1, true), (2, true), (3, true), (4, true), (5, true), (7, true)] (.leaf [(6, false), (8, false), (9, false), (10, true)]) (.leaf [(8, false), (6, false), (9, false), (10, true)])) (by kernel_rfl) ?_)) | (change CallGoal _ _ _ _ _ _; first | (refine call_rule (hlen (E := E) (es := es)) [3] rfl (And.intro rfl True.intro) rfl (fun y1 hy1 => ?_)) | (refine call_rule (colPushH E (es.map (fun e : Ey => e.1)) hd 1 (by rw [hs_len]; exact hl)) [3, 8] rfl (And.intro rfl (And.intro rfl True.intro)) rfl (fun y2 hy2 => ?_)) | (refine call_rule (colPushV E (addC es row x (row.getD x.toNat v0).k) (row.getD x.toNat v0) 1 (by rw [addC_len hr ⟨hI.1, (by assumption)⟩]; exact hl)) [26, 27] rfl (And.intro rfl (And.intro rfl True.intro)) rfl (fun y3 hy3 => ?_)) | (refine call_rule (colPushV E (addC es row x (row.getD x.toNat v0).k) (row.getD x.toNat v0) 1 (by rw [addC_len hr ⟨hI.1, (by assumption)⟩]; exact hl)) [27, 26] rfl (And.intro rfl (And.intro rfl True.intro)) rfl (fun y3 hy3 => ?_))) | (change CallGoal _ _ _ _ _ _; first | (refine call0 (right_z E row _ k ⟨rfl, by omega⟩) [1] rfl (And.intro rfl True.intro) rfl ?_) | (refine call0 (mask_z E row _ k ⟨rfl, by omega, right_kinds hr⟩) [1] rfl (And.intro rfl True.intro) rfl ?_))
  all_goals first | rfl | omega | assumption | exact maskN_cong hm | (rw [hm]; done) | (exact absurd hr (by assumption)) | (exact absurd (maskN_cong hm) (by assumption))
end Go.Proofs.YtcnbngiplfoomaaGreatDoor
namespace Go.Proofs.YtcnbngiplfoomaaGreatDoor
open Go.Zz Go.Px
set_option linter.unusedVariables false
set_option linter.unusedSectionVars false
set_option linter.unusedSimpArgs false
set_option maxRecDepth 10000
section
variable {κ ν : Type} [DecidableEq κ] {L left left' : List (κ × ν)} {k : κ} {v : ν}
structure WL (L left : List (κ × ν)) : Prop where
  ex : ∃ pre, L.Perm (pre ++ left)
theorem WL.start (L : List (κ × ν)) : WL L L := ⟨[], List.Perm.refl _⟩
theorem WL.next (h : WL L left) (hp : left.Perm ((k, v) :: left')) : WL L left' := by
  obtain ⟨pre, q⟩ := h.ex
  exact ⟨pre ++ [(k, v)], q.trans (by rw [List.append_assoc]; exact List.Perm.append_left pre hp)⟩
theorem WL.sub (h : WL L left) {y : κ × ν} (hy : y ∈ left) : y ∈ L := by
  obtain ⟨pre, q⟩ := h.ex
  exact q.mem_iff.2 (List.mem_append.2 (.inr hy))
theorem WL.nd (h : WL L left) (hn : (L.map (·.1)).Nodup) : (left.map (·.1)).Nodup := by
  obtain ⟨pre, q⟩ := h.ex
  have := (q.map (·.1)).nodup_iff.1 hn
  rw [List.map_append] at this
  exact (List.nodup_append.1 this).2.1
theorem WL.fresh (h : WL L left) (hn : (L.map (·.1)).Nodup) (hp : left.Perm ((k, v) :: left')) : ¬ k ∈ left'.map (·.1) := by
  have := (hp.map (·.1)).nodup_iff.1 (h.nd hn)
  exact (List.nodup_cons.1 this).1
theorem WL.less (hp : left.Perm ((k, v) :: left')) : left'.length < left.length := by
  have := hp.length_eq; simp only [List.length_cons] at this; omega
end
end Go.Proofs.YtcnbngiplfoomaaGreatDoor
namespace Go.Proofs.YtcnbngiplfoomaaGreatDoor
open Go.Zz Go.Px
set_option linter.unusedVariables false
set_option linter.unusedSectionVars false
set_option linter.unusedSimpArgs false
set_option maxRecDepth 10000
section
variable {m : Nat} {es : List Ey} {f : Int → List V3} {k : Int} {ks : List Int} {l : List V3}
def colsK (ks : List Int) (f : Int → List V3) : List (Int × List V3) := ks.map fun k => (k, f k)
theorem colsK_mem {y : Int × List V3} : y ∈ colsK ks f ↔ y.1 ∈ ks ∧ y.2 = f y.1 := by
  unfold colsK; rw [List.mem_map]
  constructor
  · rintro ⟨k, hk, rfl⟩; exact ⟨hk, rfl⟩
  · rintro ⟨h1, h2⟩; exact ⟨y.1, h1, by rw [← h2]⟩
theorem colsK_hasN (h : ¬ k ∈ ks) : hasK (colsK ks f) k = false := by
  rw [← Bool.not_eq_true, hasK_iff]
  intro q
  obtain ⟨y, hy, rfl⟩ := List.mem_map.1 q
  exact h (colsK_mem.1 hy).1
theorem colsK_hasY (h : k ∈ ks) : hasK (colsK ks f) k = true := hasK_iff.2 (List.mem_map.2 ⟨(k, f k), colsK_mem.2 ⟨h, rfl⟩, rfl⟩)
theorem colsK_new (h : ¬ k ∈ ks) : Go.Px.putK (colsK ks f) k (f k) = colsK (ks ++ [k]) f := by
  unfold Go.Px.putK
  rw [colsK_hasN h, if_neg (by simp)]
  unfold colsK; rw [List.map_append]; rfl
theorem colsK_same (h : k ∈ ks) : Go.Px.putK (colsK ks f) k (f k) = colsK ks f := by
  unfold Go.Px.putK
  rw [colsK_hasY h, if_pos rfl]
  unfold colsK
  rw [List.map_map]
  refine List.map_congr_left fun j hj => ?_
  simp only [Function.comp]
  split
  · rename_i e; rw [e]
  · rfl
theorem colsK_two (h : ¬ k ∈ ks) : Go.Px.putK (Go.Px.putK (colsK ks f) k (f k)) k (f k) = colsK (ks ++ [k]) f := by
  rw [colsK_new h, colsK_same (List.mem_append.2 (.inr (List.mem_singleton.2 rfl)))]
def kTo (m : Nat) (i : Int) : List Int := (kindsN m).take i.toNat
theorem kTo_next {i : Int} (h0 : 0 ≤ i) (h : i < ((kindsN m).length : Nat)) : kTo m i ++ [(kindsN m).getD i.toNat 0] = kTo m (i + 1) := (take_nextI (d := 0) ⟨h0, h⟩).symm
theorem kTo_end {i : Int} (h : ¬ i < ((kindsN m).length : Nat)) : kTo m i = kindsN m := List.take_of_length_le (by omega)
theorem kTo_new {i : Int} (h0 : 0 ≤ i) (h : i < ((kindsN m).length : Nat)) : ¬ (kindsN m).getD i.toNat 0 ∈ kTo m i := fun q => by
  have hn := kindsN_nd m
  rw [← List.take_append_drop (i + 1).toNat (kindsN m), show (kindsN m).take (i + 1).toNat = kTo m i ++ [(kindsN m).getD i.toNat 0] from (kTo_next h0 h).symm] at hn
  have := (List.nodup_append.1 hn).1
  exact (List.nodup_append.1 this).2.2 _ q _ (List.mem_singleton.2 rfl) rfl
end
theorem atP_here {κ : Type} [DecidableEq κ] {p : κ → Nat} {x : κ} {g : Nat} : atP p x g x = g := if_pos rfl
set_option maxHeartbeats 4000000 in
theorem right_m (E : Nat → Addr) (m : Nat) (h : m < 1024) : Does (Gm E) 134 (Sp0 [.int .u64 ((m : Nat) : Int)] [] 0 .tt) := by
  refine fn_intro (gmOk E) 6 0 [] Tryz.func134 rfl rfl rfl rfl rfl ?_
  repeat' first | (intro h; first | (exfalso; omega; done) | skip) | (refine And.intro ?_ ?_) | exact True.intro | (refine @Exists.intro Unit _ () ?_) | (refine @Exists.intro (_ = _) _ rfl ?_)
  all_goals first | rfl | omega | (rename m < 1024 => hm; decide +revert)
theorem TOk.new {Q : List (PRow Int)} {m : Nat} {p : Int → Nat} {a : Option Addr} {k : Nat} (hm : m < 1024) : TOk (Q ++ [(a, k, kindsN m)]) m [] (p, kindsN m, Q.length, a, k) where
  pool := by simp
  perm := List.Perm.refl _
  lt := hm
  len := Nat.zero_le _
  rows := fun e he => by cases he
set_option maxHeartbeats 4000000 in
theorem tNew (E : Nat → Addr) (Q : List (PRow Int)) (m : Nat) (h : m < 1024) : Does (Gm E) 97 ⟨[.int .u64 ((m : Nat) : Int)], [(0, .pr (poolPr Zz.encI 3 Q)), (1, .fo (tzF 10))], 2, 3, (Option Addr × Nat), fun _ => True, fun _ => .tup [.ptr 2 0, .nili], fun x => [(0, .pr (poolPr Zz.encI 3 (Q ++ [(x.1, x.2, kindsN m)]))), (2, .pr (tblPr E (Q ++ [(x.1, x.2, kindsN m)]) m []))]⟩ := by
  rename m < 1024 => hm
  refine DoesC.does (fn_start Tryz.func97 rfl rfl rfl ?_)
  change EntryGoal _ _ _ _ _
  refine entry_go (gmOk E) 35 2 [4] Tryz.func97 rfl rfl rfl rfl ?_
  repeat' first | (change CallGoal _ _ _ _ _ _; first | (change CallGoal _ 137 _ _ _ _; first | (refine call_retell ?_; change CallGoal _ _ _ _ _ _; refine call_rule (colNewV E) [] rfl True.intro rfl (fun y hy => ?_)))) | (change JoinGoal _ _ _ _ _ _ _ _; refine join_stop (gmOk E) ?_) | (change HereGoal _ _ _ _ _ _ _; refine hereG.restNil (colV E) (fun _ : Int => 0) ?_; change HereGoal _ _ _ _ _ _ _; refine here_go (gmOk E) ?_) | (change NextGoal _ _ _; refine nextG.restIn 6 23 (colOf [] ((kindsN m).getD x.1.toNat 0)) rfl rfl rfl (colV_placed E _) (by rw [colsK_new (kTo_new hI.1 (by assumption))]; exact colsK_hasY (List.mem_append.2 (.inr (List.mem_singleton.2 rfl)))) ?_; change NextGoal _ _ _; refine nextG.cast 6 (.pr (restPr (colV E) (colsK (kTo m (x.1 + 1)) (colOf [])) (atP x.2 ((kindsN m).getD x.1.toNat 0) g))) rfl (by rw [colsK_two (kTo_new hI.1 (by assumption)), kTo_next hI.1 (by assumption)]) ?_; change NextGoal _ _ _; refine nextG.cast 4 (.pr (mapPr veI veP (ptrL (kTo m (x.1 + 1)) (atP x.2 ((kindsN m).getD x.1.toNat 0) g)))) rfl (by rw [ptrL_at (kTo_new hI.1 (by assumption)), kTo_next hI.1 (by assumption)]) ?_; change NextGoal _ _ _; refine next_go ?_) | (change Retell _ _ _ _ _; refine retellG.restNew 6 23 ((kindsN m).getD x.1.toNat 0) (colOf [] ((kindsN m).getD x.1.toNat 0)) rfl rfl (colV_placed E _) (colsK_hasN (kTo_new hI.1 (by assumption))) (fun g => ?_); change Retell _ _ _ _ _; refine retell_done ?_) | (change RetGoal _ _ _ _ _; first | (refine retG'.cast 4 (.pr (mapPr veI veP (ptrL (kindsN m) x.2))) rfl (by rw [kTo_end (by assumption)]) ?_; change RetGoal _ _ _ _ _; refine retG'.cast 6 (.pr (restPr (colV E) (colsL m []) x.2)) rfl (by rw [kTo_end (by assumption)]; rfl) ?_; change RetGoal _ _ _ _ _; refine retG'.poolAdd 0 3 rfl rfl rfl (fun a => ?_); change RetGoal _ _ _ _ _; refine retG'.cells_ 5 [.ptr 2 0, .int .u64 ((m : Nat) : Int), .raw (.slice a (kindsN m).length q1), .mp 4] rfl rfl (fun En V w hp => by have q := says (c := 23) rfl hp; simp only [SV.renL, SV.ren, SV.denL, SV.den, PRow.val] at q ⊢; first | rw [q] | exact congrArg (fun z => [_, _, z, _]) q) ?_; change RetGoal _ _ _ _ _; refine retG'.shut (Γ0 := Gm E) rfl (.cells 133 [.ptr 1 0, .int .u64 ((m : Nat) : Int), .raw (.slice (x.2, kindsN m, Q.length, a, q1).2.2.2.1 (kindsN m).length (x.2, kindsN m, Q.length, a, q1).2.2.2.2), .mp 2]) [(1, .pr (colH E ([].map (fun e : Ey => e.1)))), (2, .pr (mapPr veI veP (ptrL (x.2, kindsN m, Q.length, a, q1).2.1 (x.2, kindsN m, Q.length, a, q1).1))), (3, .pr (restPr (colV E) (colsL m []) (x.2, kindsN m, Q.length, a, q1).1))] [5, 2, 4, 6] (And.intro rfl (And.intro rfl (And.intro rfl (And.intro rfl True.intro)))) rfl ?_; change RetGoal _ _ _ _ _; refine retG'.hide (X := PT) (p := TOk (Q ++ [(a, q1, kindsN m)]) m []) (Φ := fun x => grp (Gm E) (tblH E m [] x)) 5 (x.2, kindsN m, Q.length, a, q1) (TOk.new hm) rfl ?_; change RetGoal _ _ _ _ _; refine ret_done rfl ⟨(a, q1), ?_⟩)) | (intro h; first | (exfalso; omega; done) | (exfalso; exact h trivial; done) | skip) | (refine And.intro ?_ ?_) | exact True.intro | (refine @Exists.intro Unit _ () ?_) | (refine @Exists.intro (_ = _) _ rfl ?_) | (change OpGoal _ _ _ _ (.makeMap _ _) _; refine mapnew_rule veI veP ?_) | (change OpGoal _ _ _ _ (.mapUpdate _ _ _ _) _; refine mapset_ruleS mapCol 4 (ptrL (kTo m x.1) x.2) ((kindsN m).getD x.1.toNat 0) (some g) rfl rfl (fun En V w hp => by have q := rest_ptr (r := 6) (m := 23) rfl hp; rw [atP_here] at q; exact q) rfl ?_) | (change LoopGoal _ _ _ _ _ _; refine loop_at2 5 (gmOk E) rfl [4] (X := (Int × (Int → Nat))) (fun x => [(23, .int .i64 x.1)]) (fun x => [(4, .pr (mapPr veI veP (ptrL (kTo m x.1) x.2))), (6, .pr (restPr (colV E) (colsK (kTo m x.1) (colOf [])) x.2))]) [] (fun x => 0 ≤ x.1 ∧ x.1 ≤ ((kindsN m).length : Nat)) (fun x => (kindsN m).length - x.1.toNat) ⟨(0, fun _ => 0), ?_⟩ (fun x hI => ?_)) | (change @Exists ((Int × (Int → Nat))) (fun _ => updK _ _ _ _ _ _); refine @Exists.intro ((Int × (Int → Nat))) _ (((x.1 + 1, atP x.2 ((kindsN m).getD x.1.toNat 0) g))) ?_) | (change DrawGoal _ _ _ _ _ _; first | (change DrawGoal _ _ _ ({ dst := some 10, op := _, type := _, pos := _, after := _, guard := _ } :: _) _ _; refine draw_tree (gmOk E) [] (.leaf [(0, true), (1, true), (2, true)]) (by kernel_rfl) ?_) | (change DrawGoal _ _ _ ({ dst := some 27, op := _, type := _, pos := _, after := _, guard := _ } :: _) _ _; refine draw_tree (gmOk E) [5] (.leaf [(0, true), (1, true), (2, true), (3, true), (4, true), (5, false), (6, false)]) (by kernel_rfl) ?_)) | (change CallGoal _ _ _ _ _ _; first | (refine call_rule (colNewH E) [] rfl True.intro rfl (fun y1 hy1 => ?_)) | (refine call_rule (kinds_z E m hm) [1] rfl (And.intro rfl True.intro) rfl (fun (q1 : Nat) hq1 => ?_))) | (change CallGoal _ _ _ _ _ _; first | (refine call0 (right_m E m hm) [] rfl True.intro rfl ?_))
  all_goals first | rfl | omega | assumption | (have := kindsN_len m; omega)
end Go.Proofs.YtcnbngiplfoomaaGreatDoor
namespace Go.Proofs.YtcnbngiplfoomaaGreatDoor
open Go.Zz Go.Px
set_option linter.unusedVariables false
set_option linter.unusedSectionVars false
set_option linter.unusedSimpArgs false
set_option maxRecDepth 10000
section
variable {m : Nat} {es : List Ey} {k : Int} {v : Option Nat} {left left' : List (Int × Option Nat)} {ks vis : List Int} {p p' : Int → Nat} {Q : List (PRow Int)} {x : PT}
structure WV (L : List (Int × Option Nat)) (left : List (Int × Option Nat)) (vis : List Int) : Prop where
  wl : WL L left
  perm : (L.map (·.1)).Perm (vis ++ left.map (·.1))
theorem WV.start (L : List (Int × Option Nat)) : WV L L [] := ⟨WL.start L, List.Perm.refl _⟩
theorem WV.next {L : List (Int × Option Nat)} (h : WV L left vis) (hp : left.Perm ((k, v) :: left')) : WV L left' (vis ++ [k]) :=
  ⟨h.wl.next hp, h.perm.trans (by rw [List.append_assoc]; exact List.Perm.append_left vis (hp.map (·.1)))⟩
theorem WV.new {L : List (Int × Option Nat)} (h : WV L left vis) (hn : (L.map (·.1)).Nodup) (hp : left.Perm ((k, v) :: left')) : ¬ k ∈ vis := fun q => by
  have := h.perm.nodup_iff.1 hn
  exact (List.nodup_append.1 this).2.2 k q k ((hp.map (·.1)).mem_iff.2 (by rw [List.map_cons]; exact List.mem_cons_self)) rfl
theorem WV.done {L : List (Int × Option Nat)} (h : WV L left vis) (hl : left = []) : (L.map (·.1)).Perm vis := by
  have := h.perm; rw [hl, List.map_nil, List.append_nil] at this; exact this
end
end Go.Proofs.YtcnbngiplfoomaaGreatDoor
namespace Go.Proofs.YtcnbngiplfoomaaGreatDoor
open Go.Zz Go.Px
set_option linter.unusedVariables false
set_option linter.unusedSectionVars false
set_option linter.unusedSimpArgs false
set_option maxRecDepth 10000
section
abbrev EL := List ((Int × Int) × Int)
abbrev XT := TL × PL × EL × (Int → Nat)
def tabL (T : TL) : List (Int × Nat × List Ey) := T.map fun y => (y.1, y.1.toNat, y.2)
def placL (P : PL) (p : Int → Nat) : List ((Int × Int) × Option Nat × Int) := P.map fun y => (y.1, some (p y.2.1), y.2.2)
def stepI (f k : Int) : Int := if hasM f.toNat k then ((lessN f.toNat (bitN k) : Nat) : Int) else ((f.toNat ||| bitN k : Nat) : Int)
structure XOk (R : List Ey) (x : XT) : Prop where
  inv : SInv x.1 x.2.1 R
  ed : ∀ y ∈ x.2.2.1, y.2 = stepI y.1.1 y.1.2
  len : R.length ≤ 128
noncomputable def tabP (E : Nat → Addr) (Q : List (PRow Int)) (v : Nat × List Ey) : Pr := tblPr E Q v.1 v.2
noncomputable def stoH (E : Nat → Addr) (Q : List (PRow Int)) (x : XT) : Hp := [(0, .cells 108 [.mp 1, .mp 2, .mp 3]), (1, .pr (mapPr veU veP (ptrL (x.1.map (fun y : Int × List Ey => y.1)) x.2.2.2))), (2, .pr (mapPr (Enc.ag (Zz.encP Zz.encI Zz.encI)) vePl (placL x.2.1 x.2.2.2))), (3, .pr (mapPr (Enc.ag (Zz.encP encU Zz.encI)) veU x.2.2.1)), (4, .pr (restPr (tabP E Q) (tabL x.1) x.2.2.2))]
noncomputable def storePr (E : Nat → Addr) (Q : List (PRow Int)) (R : List Ey) : Pr := exPr (XOk R) fun x => grp (Gm E) (stoH E Q x)
variable {E : Nat → Addr} {Q : List (PRow Int)} {T : TL} {P : PL} {R : List Ey} {m i : Int} {h : Hd} {es : List Ey} {p : Int → Nat} {x : XT} {r : Rw}
theorem tabP_placed (v : Nat × List Ey) : Placed (tabP E Q v) := tbl_placed E Q v.1 v.2
theorem getK_map {κ ν μ : Type} [DecidableEq κ] (f : κ → ν → μ) (k : κ) : ∀ L : List (κ × ν), getK (L.map fun y => (y.1, f y.1 y.2)) k = (getK L k).map (f k)
  | [] => rfl
  | y :: L => by
    unfold getK
    rw [List.map_cons, List.find?_cons, List.find?_cons]
    by_cases e : y.1 = k
    · rw [decide_eq_true e]; subst e; rfl
    · rw [decide_eq_false e]; exact getK_map f k L
theorem hasK_map {κ ν μ : Type} [DecidableEq κ] (f : κ → ν → μ) (k : κ) (L : List (κ × ν)) : hasK (L.map fun y => (y.1, f y.1 y.2)) k = hasK L k := by rw [hasK_get, hasK_get, getK_map]; cases getK L k <;> rfl
theorem putK_map {κ ν μ : Type} [DecidableEq κ] (f : κ → ν → μ) (k : κ) (v : ν) (L : List (κ × ν)) : Go.Px.putK (L.map fun y => (y.1, f y.1 y.2)) k (f k v) = (Go.Px.putK L k v).map fun y => (y.1, f y.1 y.2) := by
  unfold Go.Px.putK
  rw [hasK_map f k L]
  split
  · rw [List.map_map, List.map_map]
    refine List.map_congr_left fun y hy => ?_
    simp only [Function.comp]
    by_cases e : y.1 = k
    · rw [if_pos e, if_pos e]
    · rw [if_neg e, if_neg e]
  · rw [List.map_append]; rfl
theorem tabL_get (hg : getK T m = some es) : getK (tabL T) m = some (m.toNat, es) := by
  unfold tabL; rw [getK_map (fun (a : Int) (b : List Ey) => (a.toNat, b)), hg]; rfl
theorem tabL_has : hasK (tabL T) m = hasK T m := hasK_map (fun (a : Int) (b : List Ey) => (a.toNat, b)) m T
theorem tabL_put : Go.Px.putK (tabL T) m (m.toNat, es) = tabL (Go.Px.putK T m es) := putK_map (fun (a : Int) (b : List Ey) => (a.toNat, b)) m es T
theorem placL_map : placL P p = P.map fun y => (y.1, (fun (_ : Hd) (b : Int × Int) => (some (p b.1), b.2)) y.1 y.2) := rfl
theorem placL_get (hg : getK P h = some (m, i)) : getK (placL P p) h = some (some (p m), i) := by
  rw [placL_map, getK_map (fun (_ : Hd) (b : Int × Int) => (some (p b.1), b.2)), hg]; rfl
theorem placL_has : hasK (placL P p) h = hasK P h := by rw [placL_map]; exact hasK_map (fun (_ : Hd) (b : Int × Int) => (some (p b.1), b.2)) h P
theorem placL_put : Go.Px.putK (placL P p) h (some (p m), i) = placL (Go.Px.putK P h (m, i)) p := by
  rw [placL_map, placL_map]; exact putK_map (fun (_ : Hd) (b : Int × Int) => (some (p b.1), b.2)) h (m, i) P
theorem placL_len : (placL P p).length = P.length := List.length_map _
theorem XOk.nil : XOk [] ([], [], [], fun _ => 0) := ⟨SInv.nil, (fun _ h => by cases h), Nat.zero_le _⟩
theorem XOk.find (hx : XOk R x) (hR : hasK R h = true) : ∃ m i es r, getK x.2.1 h = some (m, i) ∧ getK x.1 m = some es ∧ (0 ≤ i ∧ i < (es.length : Nat)) ∧ es.getD i.toNat dE = (h, r) ∧ getK R h = some r ∧ mkI r = m ∧ rightV r = true ∧ (h, r) ∈ R := by
  rw [← hx.inv.has] at hR
  obtain ⟨⟨m, i⟩, hP⟩ := khas.1 hR
  obtain ⟨es, r, q1, q2, q3, q4, q5, q6, q7⟩ := hx.inv.find hP
  refine ⟨m, i, es, r, hP, q1, ⟨q2, ?_⟩, ?_, q5, q6, q7, q4⟩
  · have := (List.getElem?_eq_some_iff.1 q3).1; omega
  · rw [List.getD_eq_getElem?_getD, q3]; rfl
end
theorem keyHd : KeyT Tryz.prog 28 (Enc.ag (Zz.encP Zz.encI Zz.encI)).val := KeyT.wide (by rw [Tryz.underlying28]) (fun w x y => by
    have h := eqVal_sound (P := Tryz.prog) (w := w) Op.maxDepth 28 _ _ _ (eqv28 x.1 x.2 y.1 y.2)
    have e : leavesB [.int .i64 x.1, .int .i64 x.2] [.int .i64 y.1, .int .i64 y.2] = decide (x = y) := by
      obtain ⟨a1, a2⟩ := x; obtain ⟨b1, b2⟩ := y
      rw [Bool.eq_iff_iff]
      simp [leavesB, leafB]
    rw [e] at h
    exact h) (fun w em x => by kernel_rfl) (fun w x => by simp [Instr.keyThatStays, Instr.sameBits, Enc.ag, Zz.encP, Zz.encI])
theorem mapT : MapTy Tryz.prog 104 56 111 veU veP none := ⟨Tryz.underlying104, KeyT.int Tryz.underlying56, by kernel_rfl⟩
theorem mapP : MapTy Tryz.prog 105 28 113 (Enc.ag (Zz.encP Zz.encI Zz.encI)) vePl (none, 0) := ⟨Tryz.underlying105, keyHd, by kernel_rfl⟩
set_option maxHeartbeats 4000000 in
theorem sNew (E : Nat → Addr) (Q : List (PRow Int)) : Does (Gm E) 15 ⟨[], [], 0, 1, Unit, fun _ => True, fun _ => .ptr 0 0, fun _ => [(0, .pr (storePr E Q []))]⟩ := by
  refine DoesC.does (fn_start Tryz.func15 rfl rfl rfl ?_)
  change EntryGoal _ _ _ _ _
  refine entry_go (gmOk E) 6 0 [] Tryz.func15 rfl rfl rfl rfl ?_
  repeat' first | (change RetGoal _ _ _ _ _; first | (refine retG'.restNil (tabP E Q) (fun _ : Int => 0) ?_; change RetGoal _ _ _ _ _; (refine retG'.shut (Γ0 := Gm E) rfl (.cells 108 [.mp 1, .mp 2, .mp 3]) [(1, .pr (mapPr veU veP (ptrL (((([], [], [], fun _ => 0) : XT)).1.map (fun y : Int × List Ey => y.1)) ((([], [], [], fun _ => 0) : XT)).2.2.2))), (2, .pr (mapPr (Enc.ag (Zz.encP Zz.encI Zz.encI)) vePl (placL ((([], [], [], fun _ => 0) : XT)).2.1 ((([], [], [], fun _ => 0) : XT)).2.2.2))), (3, .pr (mapPr (Enc.ag (Zz.encP encU Zz.encI)) veU ((([], [], [], fun _ => 0) : XT)).2.2.1)), (4, .pr (restPr (tabP E Q) (tabL ((([], [], [], fun _ => 0) : XT)).1) ((([], [], [], fun _ => 0) : XT)).2.2.2))] [3, 0, 1, 2, 4] (And.intro rfl (And.intro rfl (And.intro rfl (And.intro rfl (And.intro rfl True.intro))))) rfl ?_; change RetGoal _ _ _ _ _; refine retG'.hide (X := XT) (p := XOk []) (Φ := fun x => grp (Gm E) (stoH E Q x)) 3 ((([], [], [], fun _ => 0) : XT)) (XOk.nil) rfl ?_; change RetGoal _ _ _ _ _; refine ret_done rfl ?_))) | (intro h; first | (exfalso; omega; done) | skip) | (refine And.intro ?_ ?_) | exact True.intro | (refine @Exists.intro Unit _ () ?_) | (refine @Exists.intro (_ = _) _ rfl ?_) | (change OpGoal _ _ _ _ (.makeMap 104 _) _; refine mapnew_rule veU veP ?_) | (change OpGoal _ _ _ _ (.makeMap 105 _) _; refine mapnew_rule (Enc.ag (Zz.encP Zz.encI Zz.encI)) vePl ?_) | (change OpGoal _ _ _ _ (.makeMap 106 _) _; refine mapnew_rule (Enc.ag (Zz.encP encU Zz.encI)) veU ?_)
  all_goals first | rfl | omega
set_option maxHeartbeats 4000000 in
theorem sHasN (E : Nat → Addr) (Q : List (PRow Int)) (R : List Ey) (hd : Hd) (h : hasK R hd = false) : Does (Gm E) 23 ⟨[.ptr 0 0, .agg [.int .i64 hd.1, .int .i64 hd.2]], [(0, .pr (storePr E Q R))], 1, 1, Unit, fun _ => True, fun _ => .ff, fun _ => [(0, .pr (storePr E Q R))]⟩ := by
  rename hasK R hd = _ => hh
  refine DoesC.does (fn_start Tryz.func23 rfl rfl rfl ?_)
  change EntryGoal _ _ _ _ _
  refine entryG.ex 0 rfl (fun x hx => ?_)
  change EntryGoal _ _ _ _ _
  refine entryG.open_ 0 rfl 5 rfl rfl ?_
  change EntryGoal _ _ _ _ _
  refine entry_go (gmOk E) 17 1 [] Tryz.func23 rfl rfl rfl rfl ?_
  repeat' first | (change RetGoal _ _ _ _ _; first | (refine retG'.shut (Γ0 := Gm E) rfl (.cells 108 [.mp 1, .mp 2, .mp 3]) [(1, .pr (mapPr veU veP (ptrL ((x).1.map (fun y : Int × List Ey => y.1)) (x).2.2.2))), (2, .pr (mapPr (Enc.ag (Zz.encP Zz.encI Zz.encI)) vePl (placL (x).2.1 (x).2.2.2))), (3, .pr (mapPr (Enc.ag (Zz.encP encU Zz.encI)) veU (x).2.2.1)), (4, .pr (restPr (tabP E Q) (tabL (x).1) (x).2.2.2))] [0, 2, 3, 4, 5] (And.intro rfl (And.intro rfl (And.intro rfl (And.intro rfl (And.intro rfl True.intro))))) rfl ?_; change RetGoal _ _ _ _ _; refine retG'.hide (X := XT) (p := XOk R) (Φ := fun x => grp (Gm E) (stoH E Q x)) 0 (x) (hx) rfl ?_; change RetGoal _ _ _ _ _; refine ret_done rfl ?_)) | (intro h; first | (exfalso; omega; done) | skip) | (refine And.intro ?_ ?_) | exact True.intro | (refine @Exists.intro Unit _ () ?_) | (refine @Exists.intro (_ = _) _ rfl ?_) | (change OpGoal _ _ _ _ (.lookup 105 _ _ true) _; refine lookupN_rule mapP 3 (placL x.2.1 x.2.2.2) hd  rfl rfl rfl (by rw [placL_has, hx.inv.has]; exact hh) ?_) | (change DrawGoal _ _ _ _ _ _; first | (change DrawGoal _ _ _ ({ dst := some 8, op := _, type := _, pos := _, after := _, guard := _ } :: _) _ _; refine draw_tree (gmOk E) [0, 6] (.alt [(0, true), (1, true), (2, true), (3, true), (4, true)] (.leaf [(5, false), (6, true), (7, true), (8, true), (9, false), (10, false), (11, true)]) (.leaf [(9, false), (5, false), (6, true), (7, true), (8, true), (10, false), (11, true)])) (by kernel_rfl) ?_))
  all_goals first | rfl | omega
set_option maxHeartbeats 4000000 in
theorem sLen (E : Nat → Addr) (Q : List (PRow Int)) (R : List Ey) : Does (Gm E) 22 ⟨[.ptr 0 0], [(0, .pr (storePr E Q R))], 1, 1, Unit, fun _ => True, fun _ => .int .i64 (R.length : Nat), fun _ => [(0, .pr (storePr E Q R))]⟩ := by
  refine DoesC.does (fn_start Tryz.func22 rfl rfl rfl ?_)
  change EntryGoal _ _ _ _ _
  refine entryG.ex 0 rfl (fun x hx => ?_)
  change EntryGoal _ _ _ _ _
  refine entryG.open_ 0 rfl 5 rfl rfl ?_
  change EntryGoal _ _ _ _ _
  refine entry_go (gmOk E) 8 1 [] Tryz.func22 rfl rfl rfl rfl ?_
  repeat' first | (change RetGoal _ _ _ _ _; first | (refine retG'.shut (Γ0 := Gm E) rfl (.cells 108 [.mp 1, .mp 2, .mp 3]) [(1, .pr (mapPr veU veP (ptrL ((x).1.map (fun y : Int × List Ey => y.1)) (x).2.2.2))), (2, .pr (mapPr (Enc.ag (Zz.encP Zz.encI Zz.encI)) vePl (placL (x).2.1 (x).2.2.2))), (3, .pr (mapPr (Enc.ag (Zz.encP encU Zz.encI)) veU (x).2.2.1)), (4, .pr (restPr (tabP E Q) (tabL (x).1) (x).2.2.2))] [0, 2, 3, 4, 5] (And.intro rfl (And.intro rfl (And.intro rfl (And.intro rfl (And.intro rfl True.intro))))) rfl ?_; change RetGoal _ _ _ _ _; refine retG'.hide (X := XT) (p := XOk R) (Φ := fun x => grp (Gm E) (stoH E Q x)) 0 (x) (hx) rfl ?_; change RetGoal _ _ _ _ _; refine ret_done rfl ?_)) | (intro h; first | (exfalso; omega; done) | skip) | (refine And.intro ?_ ?_) | exact True.intro | (refine @Exists.intro Unit _ () ?_) | (refine @Exists.intro (_ = _) _ rfl ?_) | (change RdGoal _ _ _ _ _; refine maplen_rule mapP 3 (placL x.2.1 x.2.2.2) rfl rfl ?_)
  all_goals first | rfl | omega | (have := hx.inv.count; rw [placL_len]; omega) | (have := hx.inv.count; have := hx.len; rw [placL_len]; omega)
end Go.Proofs.YtcnbngiplfoomaaGreatDoor
namespace Go.Proofs.YtcnbngiplfoomaaGreatDoor
open Go.Zz Go.Px
set_option linter.unusedVariables false
set_option linter.unusedSectionVars false
set_option linter.unusedSimpArgs false
set_option maxRecDepth 10000
section
variable {E : Nat → Addr} {Q : List (PRow Int)} {T : TL} {P : PL} {R : List Ey} {m i k : Int} {h : Hd} {es es' : List Ey} {p : Int → Nat} {x : XT} {r r' : Rw} {v : V3}
theorem putK_id {κ ν : Type} [DecidableEq κ] {L : List (κ × ν)} {k : κ} {v : ν} (hn : (L.map (·.1)).Nodup) (hg : getK L k = some v) : Go.Px.putK L k v = L := by
  unfold Go.Px.putK
  rw [if_pos (khas.2 ⟨v, hg⟩)]
  refine (List.map_congr_left fun y hy => ?_).trans (List.map_id L)
  split
  · rename_i e
    have := (kget hn).2 (show (y.1, y.2) ∈ L from hy)
    rw [e, hg] at this
    rw [Option.some.inj this, ← e]; rfl
  · rfl
theorem putK_keys {κ ν : Type} [DecidableEq κ] {L : List (κ × ν)} {k : κ} {v u : ν} (hg : getK L k = some u) : (Go.Px.putK L k v).map (fun y : κ × ν => y.1) = L.map (fun y : κ × ν => y.1) := by
  unfold Go.Px.putK
  rw [if_pos (khas.2 ⟨u, hg⟩), List.map_map]
  refine List.map_congr_left fun y hy => ?_
  simp only [Function.comp]
  split
  · rename_i e; exact e.symm
  · rfl
theorem kin_has (hr : rightV r = true) : k ∈ kindsN (maskN r) ↔ hasV r k = true := by
  rw [row_kinds hr, List.mem_map]
  unfold hasV
  rw [List.find?_isSome]
  simp only [beq_iff_eq]
structure AtS (R : List Ey) (x : XT) (h : Hd) (r : Rw) (m i : Int) (es : List Ey) : Prop where
  pl : getK x.2.1 h = some (m, i)
  tb : getK x.1 m = some es
  lo : 0 ≤ i
  hi : i < (es.length : Nat)
  at_ : es.getD i.toNat dE = (h, r)
  mki : mkI r = m
  right : rightV r = true
  mem : (h, r) ∈ R
theorem XOk.at_ (hx : XOk R x) (hR : getK R h = some r) : ∃ m i es, AtS R x h r m i es := by
  obtain ⟨m, i, es, r', q1, q2, q3, q4, q5, q6, q7, q8⟩ := hx.find (khas.2 ⟨r, hR⟩)
  rw [hR] at q5
  obtain rfl := Option.some.inj q5
  exact ⟨m, i, es, q1, q2, q3.1, q3.2, q4, q6, q7, q8⟩
theorem AtS.rg (a : AtS R x h r m i es) : 0 ≤ i ∧ i < (es.length : Nat) := ⟨a.lo, a.hi⟩
theorem AtS.same (a : AtS R x h r m i es) (hx : XOk R x) : Go.Px.putK (tabL x.1) m (m.toNat, es) = tabL x.1 := by rw [tabL_put, putK_id hx.inv.tnd a.tb]
theorem AtS.has (a : AtS R x h r m i es) : hasK (tabL x.1) m = true := by rw [tabL_has]; exact khas.2 ⟨_, a.tb⟩
theorem AtS.key (a : AtS R x h r m i es) : m ∈ x.1.map (fun y : Int × List Ey => y.1) := List.mem_map.2 ⟨_, kmem_of a.tb, rfl⟩
theorem setR_len : (setR R h r).length = R.length := List.length_map _
theorem AtS.e1 (a : AtS R x h r m i es) : (es.getD i.toNat dE).1 = h := by rw [a.at_]
theorem AtS.e2 (a : AtS R x h r m i es) : (es.getD i.toNat dE).2 = r := by rw [a.at_]
theorem XOk.set (hx : XOk R x) (a : AtS R x h r m i es) (hv : vcheck v = 0) (hk : hasV r v.k = true) : XOk (setR R h (putR r v)) (Go.Px.putK x.1 m (es.set i.toNat ((es.getD i.toNat dE).1, putR (es.getD i.toNat dE).2 v)), x.2.1, x.2.2.1, x.2.2.2) where
  inv := by
    rw [a.e1, a.e2]
    exact hx.inv.set a.pl a.tb (by unfold mkI; rw [putR_mask a.right hv ((kin_has a.right).2 hk)]; exact a.mki) (put_right a.right hv)
  ed := hx.ed
  len := by rw [setR_len]; exact hx.len
end
set_option maxHeartbeats 4000000 in
theorem sFindY (E : Nat → Addr) (P : PL) (p : Int → Nat) (hd : Hd) (m i : Int) (h : getK P hd = some (m, i)) : Does (Gm E) 58 ⟨[.ptr 0 0, .agg [.int .i64 hd.1, .int .i64 hd.2]], [(0, .cells 108 [.mp 1, .mp 2, .mp 3]), (2, .pr (mapPr (Enc.ag (Zz.encP Zz.encI Zz.encI)) vePl (placL P p)))], 5, 5, Unit, fun _ => True, fun _ => .tup [.agg [.raw (pV (some (p m))), .int .i64 i], .nili], fun _ => [(0, .cells 108 [.mp 1, .mp 2, .mp 3]), (2, .pr (mapPr (Enc.ag (Zz.encP Zz.encI Zz.encI)) vePl (placL P p)))]⟩ := by
  rename getK P hd = _ => hP
  refine fn_intro (gmOk E) 22 5 [] Tryz.func58 rfl rfl rfl rfl rfl ?_
  repeat' first | (intro h; first | (exfalso; omega; done) | skip) | (refine And.intro ?_ ?_) | exact True.intro | (refine @Exists.intro Unit _ () ?_) | (refine @Exists.intro (_ = _) _ rfl ?_) | (change OpGoal _ _ _ _ (.lookup 105 _ _ true) _; refine lookupY_rule mapP 2 (placL P p) hd (some (p m), i) rfl rfl rfl (placL_get hP) ?_) | (change DrawGoal _ _ _ _ _ _; first | (change DrawGoal _ _ _ ({ dst := some 9, op := _, type := _, pos := _, after := _, guard := _ } :: _) _ _; refine draw_tree (gmOk E) [0, 5] (.alt [(0, true), (1, true), (2, true), (3, true), (4, true)] (.leaf [(5, false), (6, true), (7, true), (8, true), (9, false), (10, false), (11, true)]) (.leaf [(9, false), (5, false), (6, true), (7, true), (8, true), (10, false), (11, true)])) (by kernel_rfl) ?_) | (change DrawGoal _ _ _ ({ dst := some 19, op := _, type := _, pos := _, after := _, guard := _ } :: _) _ _; refine draw_tree (gmOk E) [] (.leaf [(0, true), (1, true), (2, false), (3, true)]) (by kernel_rfl) ?_))
  all_goals first | rfl | omega
set_option maxHeartbeats 4000000 in
theorem sEntity (E : Nat → Addr) (Q : List (PRow Int)) (R : List Ey) (hd : Hd) (r : Rw) (h : getK R hd = some r) : Does (Gm E) 18 ⟨[.ptr 0 0, .agg [.int .i64 hd.1, .int .i64 hd.2]], [(0, .pr (storePr E Q R)), (1, .fo (roPool Zz.encI Q))], 2, 3, Nat, fun q => r.length ≤ q, fun q => .tup [.agg [.int .i64 hd.1, .int .i64 hd.2, .sl 2 r.length q], .nili], fun q => [(0, .pr (storePr E Q R)), (2, .arr V3 Zz.encV 34 r q)]⟩ := by
  rename getK R hd = _ => hR
  refine DoesC.does (fn_start Tryz.func18 rfl rfl rfl ?_)
  change EntryGoal _ _ _ _ _
  refine entryG.ex 0 rfl (fun x hx => ?_)
  change EntryGoal _ _ _ _ _
  (obtain ⟨m, i, es, ha⟩ := hx.at_ hR; change EntryGoal _ _ _ _ _; refine entryG.open_ 0 rfl 5 rfl rfl ?_)
  change EntryGoal _ _ _ _ _
  refine entry_go (gmOk E) 25 2 [] Tryz.func18 rfl rfl rfl rfl ?_
  repeat' first | (change CallGoal _ _ _ _ _ _; first | (change CallGoal _ 65 _ _ _ _; first | (refine callG.restOut 6 (tabL x.1) x.2.2.2 m (m.toNat, es) rfl (tabL_get ha.tb) ?_; change CallGoal _ _ _ _ _ _; refine call_args [.ptr 10 0, .int .i64 i] (fun _ => bdLB_ok _ rfl) (fun En V w hp => by have q := rest_ptr (r := 6) (m := 10) rfl hp; simp only [SV.den, SV.denL] at q ⊢; rw [q]) ?_; change CallGoal _ _ _ _ _ _; refine call_rule (tEntity E Q m.toNat es i ha.rg) [10, 1] rfl (And.intro rfl (And.intro rfl True.intro)) rfl (fun (q : Nat) hq => ?_)))) | (change RetGoal _ _ _ _ _; first | (refine retG'.restIn 6 10 (m.toNat, es) rfl rfl rfl (tabP_placed _) ha.has ?_; change RetGoal _ _ _ _ _; refine retG'.cast 6 (.pr (restPr (tabP E Q) (tabL x.1) x.2.2.2)) rfl (by rw [ha.same hx]) ?_; change RetGoal _ _ _ _ _; refine retG'.cast 11 (.arr V3 Zz.encV 34 r q) rfl (by rw [ha.e2]) ?_; change RetGoal _ _ _ _ _; (refine retG'.shut (Γ0 := Gm E) rfl (.cells 108 [.mp 1, .mp 2, .mp 3]) [(1, .pr (mapPr veU veP (ptrL ((x).1.map (fun y : Int × List Ey => y.1)) (x).2.2.2))), (2, .pr (mapPr (Enc.ag (Zz.encP Zz.encI Zz.encI)) vePl (placL (x).2.1 (x).2.2.2))), (3, .pr (mapPr (Enc.ag (Zz.encP encU Zz.encI)) veU (x).2.2.1)), (4, .pr (restPr (tabP E Q) (tabL (x).1) (x).2.2.2))] [0, 3, 4, 5, 6] (And.intro rfl (And.intro rfl (And.intro rfl (And.intro rfl (And.intro rfl True.intro))))) rfl ?_; change RetGoal _ _ _ _ _; refine retG'.hide (X := XT) (p := XOk R) (Φ := fun x => grp (Gm E) (stoH E Q x)) 0 (x) (hx) rfl ?_; change RetGoal _ _ _ _ _; refine ret_done rfl ?_))) | (intro h; first | (exfalso; omega; done) | (exfalso; exact h trivial; done) | skip) | (refine And.intro ?_ ?_) | exact True.intro | (refine @Exists.intro Unit _ () ?_) | (refine @Exists.intro (_ = _) _ rfl ?_) | (refine @Exists.intro (Nat) _ ?_ ?_; rotate_left) | (change CallGoal _ _ _ _ _ _; first | (refine call_rule (sFindY E x.2.1 x.2.2.2 hd m i ha.pl) [0, 3, 4, 5, 6] rfl (And.intro rfl (And.intro rfl True.intro)) rfl (fun y1 hy1 => ?_)))
  all_goals first | rfl | omega | assumption | (rw [ha.e2]; done) | (rw [ha.e1]; done) | exact (congrArg _ (ha.e2)) | (rw [ha.e2] at hq; exact hq) | (have q2 := ha.e2 ▸ hq; exact q2)
end Go.Proofs.YtcnbngiplfoomaaGreatDoor
namespace Go.Proofs.YtcnbngiplfoomaaGreatDoor
open Go.Zz Go.Px
set_option linter.unusedVariables false
set_option linter.unusedSectionVars false
set_option linter.unusedSimpArgs false
set_option maxRecDepth 10000
section
variable {E : Nat → Addr} {Q : List (PRow Int)} {T : TL} {P : PL} {R : List Ey} {m i k : Int} {h hd : Hd} {es es' : List Ey} {p : Int → Nat} {x : XT} {r r' row : Rw} {v : V3} {g : Nat}
def anyM (R : List Ey) (m : Int) : Bool := R.any fun e => decide (mkI e.2 = m)
theorem XOk.anyM (hx : XOk R x) (m : Int) : hasK x.1 m = anyM R m := by
  rw [Bool.eq_iff_iff, hx.inv.hasT m]; unfold Go.Proofs.YtcnbngiplfoomaaGreatDoor.anyM; simp
theorem XOk.tlen (hx : XOk R x) : x.1.length = (masksR R).length := hx.inv.tables
theorem masksR_le (R : List Ey) : (masksR R).length ≤ 1024 := by
  unfold masksR; refine Nat.le_trans (List.length_filter_le _ _) ?_; rw [List.length_map, List.length_range]; exact Nat.le_refl _
theorem tab_more (S : List (PRow Int)) (v : Nat × List Ey) (a : Option Addr) (B : Nat → Prop) (w : World) (h : (tabP E Q v).ok a B w) : (tabP E (Q ++ S) v).ok a B w := tbl_more S a B w h
theorem XOk.ins (hx : XOk R x) (hn : hasK R hd = false) (hr : rightV row = true) (hl : R.length < 128) (p : Int → Nat) : XOk (insR R (hd, row)) (Go.Px.putK x.1 (mkI row) (rowsAt x.1 (mkI row) ++ [(hd, row)]), Go.Px.putK x.2.1 hd (mkI row, ((rowsAt x.1 (mkI row)).length : Int)), x.2.2.1, p) where
  inv := hx.inv.ins hn hr
  ed := hx.ed
  len := by rw [insR_len]; exact hl
theorem rowsAt_get (hg : getK T m = some es) : rowsAt T m = es := by unfold rowsAt; rw [hg]; rfl
theorem rowsAt_no (hg : hasK T m = false) : rowsAt T m = [] := by unfold rowsAt; rw [khasF.1 hg]; rfl
theorem putK_keysN {κ ν : Type} [DecidableEq κ] {L : List (κ × ν)} {k : κ} {v : ν} (hg : hasK L k = false) : (Go.Px.putK L k v).map (fun y : κ × ν => y.1) = L.map (fun y : κ × ν => y.1) ++ [k] := by
  unfold Go.Px.putK
  rw [hg, if_neg (by simp), List.map_append]; rfl
theorem XOk.noKey (hx : XOk R x) (hn : hasK x.1 m = false) : ¬ m ∈ x.1.map (fun y : Int × List Ey => y.1) := fun q => by
  obtain ⟨y, hy, rfl⟩ := List.mem_map.1 q
  rw [← Bool.not_eq_true] at hn; exact hn (hasK_iff.2 (List.mem_map.2 ⟨y, hy, rfl⟩))
theorem XOk.placN (hx : XOk R x) (hn : hasK x.1 m = false) : placL x.2.1 p = placL x.2.1 (atP p m g) := by
  unfold placL
  refine List.map_congr_left fun y hy => ?_
  obtain ⟨es, r, q1, _⟩ := (hx.inv.at_ y.1 y.2.1 y.2.2).1 hy
  have hne : y.2.1 ≠ m := fun e => by
    subst e
    exact hx.noKey hn (List.mem_map.2 ⟨_, q1, rfl⟩)
  show (y.1, some (p y.2.1), y.2.2) = (y.1, some (atP p m g y.2.1), y.2.2)
  rw [show atP p m g y.2.1 = p y.2.1 from if_neg hne]
theorem XOk.place_new (hx : XOk R x) (hn : hasK x.1 m = false) : Go.Px.putK (placL x.2.1 p) hd (some g, i) = placL (Go.Px.putK x.2.1 hd (m, i)) (atP p m g) := by
  rw [hx.placN (p := p) (g := g) hn, ← placL_put, show atP p m g m = g from atP_here]
theorem tabL_two : Go.Px.putK (Go.Px.putK (tabL T) m (m.toNat, es)) m (m.toNat, es) = tabL (Go.Px.putK T m es) := by rw [putK_two, tabL_put]
theorem tab_one (es : List Ey) (hn : hasK (tabL T) m = false) : hasK (Go.Px.putK (tabL T) m (m.toNat, es)) m = true := hasK_iff.2 (List.mem_map.2 ⟨(m, m.toNat, es), (kmem_new hn).2 (.inl rfl), rfl⟩)
theorem mk_lt (hr : rightV r = true) : maskN r < 1024 := maskN_lt (right_kinds hr)
end
theorem mem_keys {T : TL} {m : Int} (h : hasK T m = true) : m ∈ T.map (fun y : Int × List Ey => y.1) := by obtain ⟨v, hv⟩ := khas.1 h; exact List.mem_map.2 ⟨_, kmem_of hv, rfl⟩
theorem keys_len {T : TL} {p : Int → Nat} : (ptrL (T.map (fun y : Int × List Ey => y.1)) p).length = T.length := by unfold ptrL; rw [List.length_map, List.length_map]
set_option maxHeartbeats 4000000 in
theorem sRoomY (E : Nat → Addr) (Q : List (PRow Int)) (R : List Ey) (m gg : Int) (h : anyM R m = true ∧ 0 ≤ gg ∧ gg ≤ 1) : Does (Gm E) 55 ⟨[.ptr 0 0, .int .u64 m, .int .i64 gg], [(0, .pr (storePr E Q R))], 1, 1, Unit, fun _ => True, fun _ => .tt, fun _ => [(0, .pr (storePr E Q R))]⟩ := by
  obtain ⟨hm, hg0, hg1⟩ := h; have hML := masksR_le R
  refine DoesC.does (fn_start Tryz.func55 rfl rfl rfl ?_)
  change EntryGoal _ _ _ _ _
  refine entryG.ex 0 rfl (fun x hx => ?_)
  change EntryGoal _ _ _ _ _
  refine entryG.open_ 0 rfl 5 rfl rfl ?_
  change EntryGoal _ _ _ _ _
  refine entry_go (gmOk E) 29 1 [] Tryz.func55 rfl rfl rfl rfl ?_
  repeat' first | (change RdGoal _ _ _ _ _; refine maplen_rule mapT 2 (ptrL (x.1.map (fun y : Int × List Ey => y.1)) x.2.2.2) rfl rfl ?_) | (change RetGoal _ _ _ _ _; first | (refine retG'.shut (Γ0 := Gm E) rfl (.cells 108 [.mp 1, .mp 2, .mp 3]) [(1, .pr (mapPr veU veP (ptrL ((x).1.map (fun y : Int × List Ey => y.1)) (x).2.2.2))), (2, .pr (mapPr (Enc.ag (Zz.encP Zz.encI Zz.encI)) vePl (placL (x).2.1 (x).2.2.2))), (3, .pr (mapPr (Enc.ag (Zz.encP encU Zz.encI)) veU (x).2.2.1)), (4, .pr (restPr (tabP E Q) (tabL (x).1) (x).2.2.2))] [0, 2, 3, 4, 5] (And.intro rfl (And.intro rfl (And.intro rfl (And.intro rfl (And.intro rfl True.intro))))) rfl ?_; change RetGoal _ _ _ _ _; refine retG'.hide (X := XT) (p := XOk R) (Φ := fun x => grp (Gm E) (stoH E Q x)) 0 (x) (hx) rfl ?_; change RetGoal _ _ _ _ _; refine ret_done rfl ?_)) | (intro h; first | (exfalso; omega; done) | skip) | (refine And.intro ?_ ?_) | exact True.intro | (refine @Exists.intro Unit _ () ?_) | (refine @Exists.intro (_ = _) _ rfl ?_) | (change OpGoal _ _ _ _ (.lookup 104 _ _ true) _; refine lookupY_rule mapT 2 (ptrL (x.1.map (fun y : Int × List Ey => y.1)) x.2.2.2) m (some (x.2.2.2 m)) rfl rfl rfl (by have q := hx.anyM m; rw [hm] at q; first | exact (ptrL_get (mem_keys q)) | exact ptrL_none (hx.noKey q)) ?_)
  all_goals first | rfl | omega | (rw [keys_len, hx.tlen]; first | done | omega) | (have := hx.tlen; have := keys_len (T := x.1) (p := x.2.2.2); first | omega | (rw [keys_len, hx.tlen]; done))
set_option maxHeartbeats 4000000 in
theorem sRoomN (E : Nat → Addr) (Q : List (PRow Int)) (R : List Ey) (m gg : Int) (h : anyM R m = false ∧ 0 ≤ gg ∧ gg ≤ 1) : Does (Gm E) 55 ⟨[.ptr 0 0, .int .u64 m, .int .i64 gg], [(0, .pr (storePr E Q R))], 1, 1, Unit, fun _ => True, fun _ => .dc (((masksR R).length : Nat) - gg < 32) inferInstance, fun _ => [(0, .pr (storePr E Q R))]⟩ := by
  obtain ⟨hm, hg0, hg1⟩ := h; have hML := masksR_le R
  refine DoesC.does (fn_start Tryz.func55 rfl rfl rfl ?_)
  change EntryGoal _ _ _ _ _
  refine entryG.ex 0 rfl (fun x hx => ?_)
  change EntryGoal _ _ _ _ _
  refine entryG.open_ 0 rfl 5 rfl rfl ?_
  change EntryGoal _ _ _ _ _
  refine entry_go (gmOk E) 29 1 [] Tryz.func55 rfl rfl rfl rfl ?_
  repeat' first | (change RdGoal _ _ _ _ _; refine maplen_rule mapT 2 (ptrL (x.1.map (fun y : Int × List Ey => y.1)) x.2.2.2) rfl rfl ?_) | (change RetGoal _ _ _ _ _; first | (refine retG'.shut (Γ0 := Gm E) rfl (.cells 108 [.mp 1, .mp 2, .mp 3]) [(1, .pr (mapPr veU veP (ptrL ((x).1.map (fun y : Int × List Ey => y.1)) (x).2.2.2))), (2, .pr (mapPr (Enc.ag (Zz.encP Zz.encI Zz.encI)) vePl (placL (x).2.1 (x).2.2.2))), (3, .pr (mapPr (Enc.ag (Zz.encP encU Zz.encI)) veU (x).2.2.1)), (4, .pr (restPr (tabP E Q) (tabL (x).1) (x).2.2.2))] [0, 2, 3, 4, 5] (And.intro rfl (And.intro rfl (And.intro rfl (And.intro rfl (And.intro rfl True.intro))))) rfl ?_; change RetGoal _ _ _ _ _; refine retG'.hide (X := XT) (p := XOk R) (Φ := fun x => grp (Gm E) (stoH E Q x)) 0 (x) (hx) rfl ?_; change RetGoal _ _ _ _ _; refine ret_done rfl ?_)) | (intro h; first | (exfalso; omega; done) | skip) | (refine And.intro ?_ ?_) | exact True.intro | (refine @Exists.intro Unit _ () ?_) | (refine @Exists.intro (_ = _) _ rfl ?_) | (change OpGoal _ _ _ _ (.lookup 104 _ _ true) _; refine lookupN_rule mapT 2 (ptrL (x.1.map (fun y : Int × List Ey => y.1)) x.2.2.2) m  rfl rfl rfl (by have q := hx.anyM m; rw [hm] at q; first | exact (ptrL_get (mem_keys q)) | exact ptrL_none (hx.noKey q)) ?_)
  all_goals first | rfl | omega | (rw [keys_len, hx.tlen]; first | done | omega) | (have := hx.tlen; have := keys_len (T := x.1) (p := x.2.2.2); first | omega | (rw [keys_len, hx.tlen]; done))
theorem XOk.short {R : List Ey} {x : XT} {hd : Hd} {m : Int} {es : List Ey} (hx : XOk R x) (hn : hasK R hd = false) (hl : R.length < 128) (hes : getK x.1 m = some es) : es.length < 128 := by
  refine Nat.lt_of_le_of_lt ?_ hl
  have h1 := kmem_of hes
  have hnd : es.Nodup := List.pairwise_iff_getElem.2 fun i j hi hj hij e => by
    have q1 : es[(i : Int).toNat]? = some (es[j].1, es[j].2) := by simp [List.getElem?_eq_getElem hi, e]
    have q2 : es[(j : Int).toNat]? = some (es[j].1, es[j].2) := by simp [List.getElem?_eq_getElem hj]
    have := (hx.inv.one h1 (Int.natCast_nonneg i) q1 h1 (Int.natCast_nonneg j) q2).2.1
    omega
  have hR : R.Nodup := List.Pairwise.imp (fun h e => h (by rw [e])) (List.pairwise_map.1 hx.inv.rnd)
  have := nodup_lens hnd (hR.filter fun e => es.contains e) fun e => by
    rw [List.mem_filter, List.contains_iff_mem]
    exact ⟨fun q => ⟨(hx.inv.mem e).2 ⟨m, es, h1, q⟩, q⟩, fun q => q.2⟩
  rw [this]; exact List.length_filter_le _ _
set_option maxHeartbeats 4000000 in
theorem sInsY (E : Nat → Addr) (Q : List (PRow Int)) (R : List Ey) (hd : Hd) (row : Rw) (n k : Nat) (h : n = row.length ∧ rightV row = true ∧ hasK R hd = false ∧ R.length < 128 ∧ anyM R (mkI row) = true) : Does (Gm E) 57 ⟨[.ptr 0 0, .agg [.int .i64 hd.1, .int .i64 hd.2], .sl 2 n k], [(0, .pr (storePr E Q R)), (1, .pr (poolPr Zz.encI 3 Q)), (2, .ro V3 Zz.encV row k), (3, .fo (tzF 10))], 4, 4, (List (PRow Int)), fun _ => True, fun _ => .nili, fun S => [(0, .pr (storePr E (Q ++ S) (insR R (hd, row)))), (1, .pr (poolPr Zz.encI 3 (Q ++ S)))]⟩ := by
  obtain ⟨rfl, hr, hn, hl, hm⟩ := h; have hrl := row_len hr
  refine DoesC.does (fn_start Tryz.func57 rfl rfl rfl ?_)
  change EntryGoal _ _ _ _ _
  refine entryG.ex 0 rfl (fun x hx => ?_)
  change EntryGoal _ _ _ _ _
  (obtain ⟨es, hes⟩ := khas.1 ((hx.anyM (mkI row)).trans hm); change EntryGoal _ _ _ _ _; refine entryG.open_ 0 rfl 5 rfl rfl ?_)
  change EntryGoal _ _ _ _ _
  refine entry_go (gmOk E) 62 4 [] Tryz.func57 rfl rfl rfl rfl ?_
  repeat' first | (change CallGoal _ _ _ _ _ _; first | (change CallGoal _ 98 _ _ _ _; first | (refine callG.restOut 8 (tabL x.1) x.2.2.2 (mkI row) ((mkI row).toNat, es) rfl (tabL_get hes) ?_; change CallGoal _ _ _ _ _ _; refine call_args [.ptr 10 0, .agg [.int .i64 hd.1, .int .i64 hd.2], .sl 2 row.length k] (fun _ => bdLB_ok _ rfl) (fun En V w hp => by have q := rest_ptr (r := 8) (m := 10) rfl hp; simp only [SV.den, SV.denL] at q ⊢; rw [q]) ?_; change CallGoal _ _ _ _ _ _; refine call_rule (tAdd E Q (mkI row).toNat es hd row _ k ⟨rfl, hr, rfl, hx.short hn hl hes⟩) [10, 2] rfl (And.intro rfl (And.intro rfl True.intro)) rfl (fun y hy => ?_)))) | (change RetGoal _ _ _ _ _; first | (refine retG'.restIn 8 10 ((mkI row).toNat, es ++ [(hd, row)]) rfl rfl rfl (tabP_placed _) (by rw [tabL_has, hx.anyM]; exact hm) ?_; change RetGoal _ _ _ _ _; refine retG'.cast 8 (.pr (restPr (tabP E Q) (tabL (Go.Px.putK x.1 (mkI row) (rowsAt x.1 (mkI row) ++ [(hd, row)]))) x.2.2.2)) rfl (by rw [tabL_put, rowsAt_get hes]) ?_; change RetGoal _ _ _ _ _; refine retG'.cast 5 (.pr (mapPr veU veP (ptrL ((Go.Px.putK x.1 (mkI row) (rowsAt x.1 (mkI row) ++ [(hd, row)])).map (fun y : Int × List Ey => y.1)) x.2.2.2))) rfl (by rw [ptrL_same (mem_keys ((hx.anyM _).trans hm)), putK_keys hes]) ?_; change RetGoal _ _ _ _ _; refine retG'.cast 6 (.pr (mapPr (Enc.ag (Zz.encP Zz.encI Zz.encI)) vePl (placL (Go.Px.putK x.2.1 hd (mkI row, ((rowsAt x.1 (mkI row)).length : Int))) x.2.2.2))) rfl (by rw [placL_put, rowsAt_get hes]) ?_; change RetGoal _ _ _ _ _; refine retG'.shut (Γ0 := Gm E) rfl (.cells 108 [.mp 1, .mp 2, .mp 3]) [(1, .pr (mapPr veU veP (ptrL (((((Go.Px.putK x.1 (mkI row) (rowsAt x.1 (mkI row) ++ [(hd, row)])), (Go.Px.putK x.2.1 hd (mkI row, ((rowsAt x.1 (mkI row)).length : Int))), x.2.2.1, x.2.2.2) : XT)).1.map (fun y : Int × List Ey => y.1)) ((((Go.Px.putK x.1 (mkI row) (rowsAt x.1 (mkI row) ++ [(hd, row)])), (Go.Px.putK x.2.1 hd (mkI row, ((rowsAt x.1 (mkI row)).length : Int))), x.2.2.1, x.2.2.2) : XT)).2.2.2))), (2, .pr (mapPr (Enc.ag (Zz.encP Zz.encI Zz.encI)) vePl (placL ((((Go.Px.putK x.1 (mkI row) (rowsAt x.1 (mkI row) ++ [(hd, row)])), (Go.Px.putK x.2.1 hd (mkI row, ((rowsAt x.1 (mkI row)).length : Int))), x.2.2.1, x.2.2.2) : XT)).2.1 ((((Go.Px.putK x.1 (mkI row) (rowsAt x.1 (mkI row) ++ [(hd, row)])), (Go.Px.putK x.2.1 hd (mkI row, ((rowsAt x.1 (mkI row)).length : Int))), x.2.2.1, x.2.2.2) : XT)).2.2.2))), (3, .pr (mapPr (Enc.ag (Zz.encP encU Zz.encI)) veU ((((Go.Px.putK x.1 (mkI row) (rowsAt x.1 (mkI row) ++ [(hd, row)])), (Go.Px.putK x.2.1 hd (mkI row, ((rowsAt x.1 (mkI row)).length : Int))), x.2.2.1, x.2.2.2) : XT)).2.2.1)), (4, .pr (restPr (tabP E Q) (tabL ((((Go.Px.putK x.1 (mkI row) (rowsAt x.1 (mkI row) ++ [(hd, row)])), (Go.Px.putK x.2.1 hd (mkI row, ((rowsAt x.1 (mkI row)).length : Int))), x.2.2.1, x.2.2.2) : XT)).1) ((((Go.Px.putK x.1 (mkI row) (rowsAt x.1 (mkI row) ++ [(hd, row)])), (Go.Px.putK x.2.1 hd (mkI row, ((rowsAt x.1 (mkI row)).length : Int))), x.2.2.1, x.2.2.2) : XT)).2.2.2))] [0, 5, 6, 7, 8] (And.intro rfl (And.intro rfl (And.intro rfl (And.intro rfl (And.intro rfl True.intro))))) rfl ?_; change RetGoal _ _ _ _ _; refine retG'.hide (X := XT) (p := XOk (insR R (hd, row))) (Φ := fun x => grp (Gm E) (stoH E Q x)) 0 ((((Go.Px.putK x.1 (mkI row) (rowsAt x.1 (mkI row) ++ [(hd, row)])), (Go.Px.putK x.2.1 hd (mkI row, ((rowsAt x.1 (mkI row)).length : Int))), x.2.2.1, x.2.2.2) : XT)) (hx.ins hn hr hl _) rfl ?_; change RetGoal _ _ _ _ _; refine retG'.cast 0 (.pr (storePr E (Q ++ []) (insR R (hd, row)))) rfl (by rw [List.append_nil]; rfl) ?_; change RetGoal _ _ _ _ _; refine retG'.cast 1 (.pr (poolPr Zz.encI 3 (Q ++ []))) rfl (by rw [List.append_nil]) ?_; change RetGoal _ _ _ _ _; refine ret_done rfl ⟨[], ?_⟩)) | (intro h; first | (exfalso; omega; done) | (exfalso; exact h trivial; done) | skip) | (refine And.intro ?_ ?_) | exact True.intro | (refine @Exists.intro Unit _ () ?_) | (refine @Exists.intro (_ = _) _ rfl ?_) | (change OpGoal _ _ _ _ (.lookup 104 _ _ true) _; refine lookupY_rule mapT 5 (ptrL (x.1.map (fun y : Int × List Ey => y.1)) x.2.2.2) (mkI row) (some (x.2.2.2 (mkI row))) rfl rfl rfl (ptrL_get (mem_keys ((hx.anyM _).trans hm))) ?_) | (change OpGoal _ _ _ _ (.mapEntry 104 _ _) _; refine mapent_rule mapT 5 (ptrL (x.1.map (fun y : Int × List Ey => y.1)) x.2.2.2) (mkI row) rfl rfl rfl (fun st1 => ?_)) | (change OpGoal _ _ _ _ (.mapEntry 105 _ _) _; refine mapent_rule mapP 6 (placL x.2.1 x.2.2.2) hd rfl rfl rfl (fun st2 => ?_)) | (change OpGoal _ _ _ _ (.entryStore 104 _ _ _) _; refine entstore_rule mapT 5 (some (x.2.2.2 (mkI row))) rfl rfl (fun _ _ _ _ => rfl) rfl ?_) | (change OpGoal _ _ _ _ (.entryStore 105 _ _ _) _; refine entstore_rule mapP 6 (some (x.2.2.2 (mkI row)), ((es.length : Nat) : Int)) rfl rfl (fun _ _ _ _ => rfl) rfl ?_) | (change DrawGoal _ _ _ _ _ _; first | (change DrawGoal _ _ _ ({ dst := some 44, op := _, type := _, pos := _, after := _, guard := _ } :: _) _ _; refine draw_tree (gmOk E) [0, 9] (.leaf [(0, true), (1, true), (2, true), (3, true), (4, true), (5, true), (6, true), (7, true), (8, true), (9, true), (10, true), (11, true), (12, true), (13, true), (14, false), (15, true), (16, false), (17, false), (18, true), (19, false)]) (by kernel_rfl) ?_)) | (change CallGoal _ _ _ _ _ _; first | (refine call0 (mask_z E row _ k ⟨rfl, by omega, right_kinds hr⟩) [2] rfl (And.intro rfl True.intro) rfl ?_))
  all_goals first | rfl | omega
set_option maxHeartbeats 4000000 in
theorem sInsN (E : Nat → Addr) (Q : List (PRow Int)) (R : List Ey) (hd : Hd) (row : Rw) (n k : Nat) (h : n = row.length ∧ rightV row = true ∧ hasK R hd = false ∧ R.length < 128 ∧ anyM R (mkI row) = false) : Does (Gm E) 57 ⟨[.ptr 0 0, .agg [.int .i64 hd.1, .int .i64 hd.2], .sl 2 n k], [(0, .pr (storePr E Q R)), (1, .pr (poolPr Zz.encI 3 Q)), (2, .ro V3 Zz.encV row k), (3, .fo (tzF 10))], 4, 4, (List (PRow Int)), fun _ => True, fun _ => .nili, fun S => [(0, .pr (storePr E (Q ++ S) (insR R (hd, row)))), (1, .pr (poolPr Zz.encI 3 (Q ++ S)))]⟩ := by
  obtain ⟨rfl, hr, hn, hl, hm⟩ := h; have hrl := row_len hr
  refine DoesC.does (fn_start Tryz.func57 rfl rfl rfl ?_)
  change EntryGoal _ _ _ _ _
  refine entryG.ex 0 rfl (fun x hx => ?_)
  change EntryGoal _ _ _ _ _
  (have hno := (hx.anyM (mkI row)).trans hm; have hno2 : hasK (tabL x.1) (mkI row) = false := tabL_has.trans hno; change EntryGoal _ _ _ _ _; refine entryG.open_ 0 rfl 5 rfl rfl ?_)
  change EntryGoal _ _ _ _ _
  refine entry_go (gmOk E) 62 4 [] Tryz.func57 rfl rfl rfl rfl ?_
  repeat' first | (change DrawGoal _ _ _ ({ dst := some 44, op := _, type := _, pos := _, after := _, guard := _ } :: _) _ _; refine drawG.imp 8 (Φ := restPr (tabP E Q) (tabL x.1) x.2.2.2) (Ψ := restPr (tabP E (Q ++ [(z.1, z.2, kindsN (maskN row))])) (tabL x.1) x.2.2.2) rfl (rest_el (fun y _ a B w q => tab_more [(z.1, z.2, kindsN (maskN row))] y.2 a B w q)) ?_; change DrawGoal _ _ _ _ _ _; refine drawG.restNew 8 10 (mkI row) ((mkI row).toNat, [(hd, row)]) rfl rfl (tbl_placed _ _ _ _) hno2 (fun g => ?_); change DrawGoal _ _ _ _ _ _; refine draw_tree (gmOk E) [0, 9] (.leaf [(0, true), (1, true), (2, true), (3, true), (4, true), (5, true), (6, true), (7, true), (8, true), (9, true), (10, true), (11, true), (12, true), (13, true), (14, false), (15, true), (16, false), (17, false), (18, true), (19, false)]) (by kernel_rfl) ?_) | (change RetGoal _ _ _ _ _; first | (refine retG'.restIn 8 10 ((mkI row).toNat, [(hd, row)]) rfl rfl rfl (tabP_placed _) (tab_one _ hno2) ?_; change RetGoal _ _ _ _ _; refine retG'.cast 8 (.pr (restPr (tabP E (Q ++ [(z.1, z.2, kindsN (maskN row))])) (tabL (Go.Px.putK x.1 (mkI row) (rowsAt x.1 (mkI row) ++ [(hd, row)]))) (atP x.2.2.2 (mkI row) g))) rfl (by rw [tabL_two, rowsAt_no hno]; rfl) ?_; change RetGoal _ _ _ _ _; refine retG'.cast 5 (.pr (mapPr veU veP (ptrL ((Go.Px.putK x.1 (mkI row) (rowsAt x.1 (mkI row) ++ [(hd, row)])).map (fun y : Int × List Ey => y.1)) (atP x.2.2.2 (mkI row) g)))) rfl (by rw [ptrL_at (hx.noKey hno), putK_keysN hno]) ?_; change RetGoal _ _ _ _ _; refine retG'.cast 6 (.pr (mapPr (Enc.ag (Zz.encP Zz.encI Zz.encI)) vePl (placL (Go.Px.putK x.2.1 hd (mkI row, ((rowsAt x.1 (mkI row)).length : Int))) (atP x.2.2.2 (mkI row) g)))) rfl (by rw [hx.place_new hno, rowsAt_no hno]; rfl) ?_; change RetGoal _ _ _ _ _; refine retG'.shut (Γ0 := Gm E) rfl (.cells 108 [.mp 1, .mp 2, .mp 3]) [(1, .pr (mapPr veU veP (ptrL (((((Go.Px.putK x.1 (mkI row) (rowsAt x.1 (mkI row) ++ [(hd, row)])), (Go.Px.putK x.2.1 hd (mkI row, ((rowsAt x.1 (mkI row)).length : Int))), x.2.2.1, (atP x.2.2.2 (mkI row) g)) : XT)).1.map (fun y : Int × List Ey => y.1)) ((((Go.Px.putK x.1 (mkI row) (rowsAt x.1 (mkI row) ++ [(hd, row)])), (Go.Px.putK x.2.1 hd (mkI row, ((rowsAt x.1 (mkI row)).length : Int))), x.2.2.1, (atP x.2.2.2 (mkI row) g)) : XT)).2.2.2))), (2, .pr (mapPr (Enc.ag (Zz.encP Zz.encI Zz.encI)) vePl (placL ((((Go.Px.putK x.1 (mkI row) (rowsAt x.1 (mkI row) ++ [(hd, row)])), (Go.Px.putK x.2.1 hd (mkI row, ((rowsAt x.1 (mkI row)).length : Int))), x.2.2.1, (atP x.2.2.2 (mkI row) g)) : XT)).2.1 ((((Go.Px.putK x.1 (mkI row) (rowsAt x.1 (mkI row) ++ [(hd, row)])), (Go.Px.putK x.2.1 hd (mkI row, ((rowsAt x.1 (mkI row)).length : Int))), x.2.2.1, (atP x.2.2.2 (mkI row) g)) : XT)).2.2.2))), (3, .pr (mapPr (Enc.ag (Zz.encP encU Zz.encI)) veU ((((Go.Px.putK x.1 (mkI row) (rowsAt x.1 (mkI row) ++ [(hd, row)])), (Go.Px.putK x.2.1 hd (mkI row, ((rowsAt x.1 (mkI row)).length : Int))), x.2.2.1, (atP x.2.2.2 (mkI row) g)) : XT)).2.2.1)), (4, .pr (restPr (tabP E (Q ++ [(z.1, z.2, kindsN (maskN row))])) (tabL ((((Go.Px.putK x.1 (mkI row) (rowsAt x.1 (mkI row) ++ [(hd, row)])), (Go.Px.putK x.2.1 hd (mkI row, ((rowsAt x.1 (mkI row)).length : Int))), x.2.2.1, (atP x.2.2.2 (mkI row) g)) : XT)).1) ((((Go.Px.putK x.1 (mkI row) (rowsAt x.1 (mkI row) ++ [(hd, row)])), (Go.Px.putK x.2.1 hd (mkI row, ((rowsAt x.1 (mkI row)).length : Int))), x.2.2.1, (atP x.2.2.2 (mkI row) g)) : XT)).2.2.2))] [0, 5, 6, 7, 8] (And.intro rfl (And.intro rfl (And.intro rfl (And.intro rfl (And.intro rfl True.intro))))) rfl ?_; change RetGoal _ _ _ _ _; refine retG'.hide (X := XT) (p := XOk (insR R (hd, row))) (Φ := fun x => grp (Gm E) (stoH E (Q ++ [(z.1, z.2, kindsN (maskN row))]) x)) 0 ((((Go.Px.putK x.1 (mkI row) (rowsAt x.1 (mkI row) ++ [(hd, row)])), (Go.Px.putK x.2.1 hd (mkI row, ((rowsAt x.1 (mkI row)).length : Int))), x.2.2.1, (atP x.2.2.2 (mkI row) g)) : XT)) (hx.ins hn hr hl _) rfl ?_; change RetGoal _ _ _ _ _; refine ret_done rfl ⟨[(z.1, z.2, kindsN (maskN row))], ?_⟩)) | (intro h; first | (exfalso; omega; done) | (exfalso; exact h trivial; done) | skip) | (refine And.intro ?_ ?_) | exact True.intro | (refine @Exists.intro Unit _ () ?_) | (refine @Exists.intro (_ = _) _ rfl ?_) | (change OpGoal _ _ _ _ (.lookup 104 _ _ true) _; refine lookupN_rule mapT 5 (ptrL (x.1.map (fun y : Int × List Ey => y.1)) x.2.2.2) (mkI row)  rfl rfl rfl (ptrL_none (hx.noKey hno)) ?_) | (change OpGoal _ _ _ _ (.mapEntry 104 _ _) _; refine mapent_rule mapT 5 (ptrL (x.1.map (fun y : Int × List Ey => y.1)) x.2.2.2) (mkI row) rfl rfl rfl (fun st1 => ?_)) | (change OpGoal _ _ _ _ (.mapEntry 105 _ _) _; refine mapent_rule mapP 6 (placL x.2.1 x.2.2.2) hd rfl rfl rfl (fun st2 => ?_)) | (change OpGoal _ _ _ _ (.entryStore 104 _ _ _) _; refine entstore_rule mapT 5 (some g) rfl rfl (fun En V w hp => by have q := rest_ptr (r := 8) (m := 10) rfl hp; rw [atP_here] at q; first | exact q | (exact congrArg (fun z => Value.agg #[z, _]) q) | (simp only [SV.den, SV.denL, vePl] at q ⊢; rw [q])) rfl ?_) | (change OpGoal _ _ _ _ (.entryStore 105 _ _ _) _; refine entstore_rule mapP 6 (some g, (0 : Int)) rfl rfl (fun En V w hp => by have q := rest_ptr (r := 8) (m := 10) rfl hp; rw [atP_here] at q; first | exact q | (exact congrArg (fun z => Value.agg #[z, _]) q) | (simp only [SV.den, SV.denL, vePl] at q ⊢; rw [q])) rfl ?_) | (change CallGoal _ _ _ _ _ _; first | (refine call_rule (tNew E Q (maskN row) (mk_lt hr)) [1, 3] rfl (And.intro rfl (And.intro rfl True.intro)) rfl (fun z hz => ?_)) | (refine call_rule (tAdd E (Q ++ [(z.1, z.2, kindsN (maskN row))]) (maskN row) [] hd row _ k ⟨rfl, hr, rfl, by decide⟩) [10, 2] rfl (And.intro rfl (And.intro rfl True.intro)) rfl (fun y hy => ?_))) | (change CallGoal _ _ _ _ _ _; first | (refine call0 (mask_z E row _ k ⟨rfl, by omega, right_kinds hr⟩) [2] rfl (And.intro rfl True.intro) rfl ?_))
  all_goals first | rfl | omega
theorem sIns (E : Nat → Addr) (Q : List (PRow Int)) (R : List Ey) (hd : Hd) (row : Rw) (n k : Nat) (h : n = row.length ∧ rightV row = true ∧ hasK R hd = false ∧ R.length < 128) : Does (Gm E) 57 ⟨[.ptr 0 0, .agg [.int .i64 hd.1, .int .i64 hd.2], .sl 2 n k], [(0, .pr (storePr E Q R)), (1, .pr (poolPr Zz.encI 3 Q)), (2, .ro V3 Zz.encV row k), (3, .fo (tzF 10))], 4, 4, (List (PRow Int)), fun _ => True, fun _ => .nili, fun S => [(0, .pr (storePr E (Q ++ S) (insR R (hd, row)))), (1, .pr (poolPr Zz.encI 3 (Q ++ S)))]⟩ := by
  cases hm : anyM R (mkI row) with
  | true => exact sInsY E Q R hd row n k ⟨h.1, h.2.1, h.2.2.1, h.2.2.2, hm⟩
  | false => exact sInsN E Q R hd row n k ⟨h.1, h.2.1, h.2.2.1, h.2.2.2, hm⟩
end Go.Proofs.YtcnbngiplfoomaaGreatDoor
namespace Go.Proofs.YtcnbngiplfoomaaGreatDoor
open Go.Zz Go.Px
set_option linter.unusedVariables false
set_option linter.unusedSectionVars false
set_option linter.unusedSimpArgs false
set_option maxRecDepth 10000
set_option maxHeartbeats 4000000 in
theorem sPutY (E : Nat → Addr) (Q : List (PRow Int)) (R : List Ey) (hd : Hd) (row : Rw) (n k : Nat) (h : n = row.length ∧ hasK R hd = false ∧ rightV row = true ∧ row.length ≤ 1000000 ∧ R.length < 128 ∧ anyM R (mkI row) = true) : Does (Gm E) 16 ⟨[.ptr 0 0, .agg [.int .i64 hd.1, .int .i64 hd.2], .sl 2 n k], [(0, .pr (storePr E Q R)), (1, .pr (poolPr Zz.encI 3 Q)), (2, .ro V3 Zz.encV row k), (3, .fo (tzF 10))], 4, 4, (List (PRow Int)), fun _ => True, fun _ => .nili, fun S => [(0, .pr (storePr E (Q ++ S) (insR R (hd, row)))), (1, .pr (poolPr Zz.encI 3 (Q ++ S)))]⟩ := by
  obtain ⟨rfl, hh, hr, hl, hc, hm⟩ := h
  refine fn_intro (gmOk E) 33 4 [] Tryz.func16 rfl rfl rfl rfl rfl ?_
  repeat' first | (intro h; first | (exfalso; omega; done) | (exfalso; first | exact h trivial | (rw [hr] at h; cases h; done) | exact h (by rw [hr]; rfl); done) | skip) | (refine And.intro ?_ ?_) | exact True.intro | (refine @Exists.intro Unit _ () ?_) | (refine @Exists.intro (_ = _) _ rfl ?_) | (refine @Exists.intro (List (PRow Int)) _ ?_ ?_; rotate_left) | (change CallGoal _ _ _ _ _ _; first | (refine call_rule (sHasN E Q R hd hh) [0] rfl (And.intro rfl True.intro) rfl (fun y1 hy1 => ?_)) | (refine call_rule (sLen E Q R) [0] rfl (And.intro rfl True.intro) rfl (fun y2 hy2 => ?_)) | (refine call_rule (sRoomY E Q R (mkI row) 0 ⟨hm, by decide, by decide⟩) [0] rfl (And.intro rfl True.intro) rfl (fun y3 hy3 => ?_)) | (refine call_rule (sIns E Q R hd row _ k ⟨rfl, hr, hh, hc⟩) [0, 1, 2, 3] rfl (And.intro rfl (And.intro rfl (And.intro rfl (And.intro rfl True.intro)))) rfl (fun (S : List (PRow Int)) hS => ?_))) | (change CallGoal _ _ _ _ _ _; first | (refine call0 (right_z E row _ k ⟨rfl, hl⟩) [2] rfl (And.intro rfl True.intro) rfl ?_) | (refine call0 (mask_z E row _ k ⟨rfl, hl, right_kinds hr⟩) [2] rfl (And.intro rfl True.intro) rfl ?_))
  all_goals first | rfl | omega | assumption
set_option maxHeartbeats 4000000 in
theorem sPutN (E : Nat → Addr) (Q : List (PRow Int)) (R : List Ey) (hd : Hd) (row : Rw) (n k : Nat) (h : n = row.length ∧ hasK R hd = false ∧ rightV row = true ∧ row.length ≤ 1000000 ∧ R.length < 128 ∧ anyM R (mkI row) = false ∧ (masksR R).length < 32) : Does (Gm E) 16 ⟨[.ptr 0 0, .agg [.int .i64 hd.1, .int .i64 hd.2], .sl 2 n k], [(0, .pr (storePr E Q R)), (1, .pr (poolPr Zz.encI 3 Q)), (2, .ro V3 Zz.encV row k), (3, .fo (tzF 10))], 4, 4, (List (PRow Int)), fun _ => True, fun _ => .nili, fun S => [(0, .pr (storePr E (Q ++ S) (insR R (hd, row)))), (1, .pr (poolPr Zz.encI 3 (Q ++ S)))]⟩ := by
  obtain ⟨rfl, hh, hr, hl, hc, hm, ht⟩ := h
  refine fn_intro (gmOk E) 33 4 [] Tryz.func16 rfl rfl rfl rfl rfl ?_
  repeat' first | (intro h; first | (exfalso; omega; done) | (exfalso; first | exact h trivial | (rw [hr] at h; cases h; done) | exact h (by rw [hr]; rfl); done) | skip) | (refine And.intro ?_ ?_) | exact True.intro | (refine @Exists.intro Unit _ () ?_) | (refine @Exists.intro (_ = _) _ rfl ?_) | (refine @Exists.intro (List (PRow Int)) _ ?_ ?_; rotate_left) | (change CallGoal _ _ _ _ _ _; first | (refine call_rule (sHasN E Q R hd hh) [0] rfl (And.intro rfl True.intro) rfl (fun y1 hy1 => ?_)) | (refine call_rule (sLen E Q R) [0] rfl (And.intro rfl True.intro) rfl (fun y2 hy2 => ?_)) | (refine call_rule (sRoomN E Q R (mkI row) 0 ⟨hm, by decide, by decide⟩) [0] rfl (And.intro rfl True.intro) rfl (fun y3 hy3 => ?_)) | (refine call_rule (sIns E Q R hd row _ k ⟨rfl, hr, hh, hc⟩) [0, 1, 2, 3] rfl (And.intro rfl (And.intro rfl (And.intro rfl (And.intro rfl True.intro)))) rfl (fun (S : List (PRow Int)) hS => ?_))) | (change CallGoal _ _ _ _ _ _; first | (refine call0 (right_z E row _ k ⟨rfl, hl⟩) [2] rfl (And.intro rfl True.intro) rfl ?_) | (refine call0 (mask_z E row _ k ⟨rfl, hl, right_kinds hr⟩) [2] rfl (And.intro rfl True.intro) rfl ?_))
  all_goals first | rfl | omega | assumption
end Go.Proofs.YtcnbngiplfoomaaGreatDoor
namespace Go.Proofs.YtcnbngiplfoomaaGreatDoor
open Go.Zz Go.Px
set_option linter.unusedVariables false
set_option linter.unusedSectionVars false
set_option linter.unusedSimpArgs false
set_option maxRecDepth 10000
noncomputable def Ge (E : Nat → Addr) : Ctx := { Gm E with errs := [] }
theorem geOk (E : Nat → Addr) : (Ge E).Ok := (gmOk E).noErrs
set_option maxHeartbeats 4000000 in
theorem isnan_e (E : Nat → Addr) (n : Int) : DoesC (Ge E) 166 (Sp0 [.int .i64 n] [] 0 .ff) := by
  refine fn_calls (geOk E) 6 0 [] Tryz.func166 rfl rfl rfl rfl rfl ?_
  repeat' first | (intro h; first | (exfalso; omega; done) | skip) | (refine And.intro ?_ ?_) | exact True.intro | (refine @Exists.intro Unit _ () ?_) | (refine @Exists.intro (_ = _) _ rfl ?_)
  all_goals first | omega | rfl | skip
set_option maxHeartbeats 4000000 in
theorem cmp_e (E : Nat → Addr) (a b : Int) : DoesC (Ge E) 143 (Sp0 [.int .i64 a, .int .i64 b] [] 0 (.int .i64 (cmpI a b))) := by
  refine fn_calls (geOk E) 20 0 [] Tryz.func143 rfl rfl rfl rfl rfl ?_
  repeat' first | (intro h; first | (exfalso; omega; done) | skip) | (refine And.intro ?_ ?_) | exact True.intro | (refine @Exists.intro Unit _ () ?_) | (refine @Exists.intro (_ = _) _ rfl ?_) | (change CallGoal _ _ _ _ _ _; first | (refine call0 (isnan_e E _).does [] rfl True.intro rfl ?_))
  all_goals first | omega | (simp only [cmpI]; repeat (split <;> try omega)) | skip
set_option maxHeartbeats 4000000 in
theorem or_e (E : Nat → Addr) (a b : Int) : DoesC (Ge E) 153 (Sp0 [.sl 0 2 2] [(0, .ro Int Zz.encI [a, b] 2)] 1 (.int .i64 (if a = 0 then b else a))) := by
  refine fn_calls (geOk E) 18 1 [] Tryz.func153 rfl rfl rfl rfl rfl ?_
  repeat' first | (intro h; first | (exfalso; omega; done) | skip) | (refine And.intro ?_ ?_) | exact True.intro | (refine @Exists.intro Unit _ () ?_) | (refine @Exists.intro (_ = _) _ rfl ?_) | (change LoopGoal _ _ _ _ _ _; refine loop_rounds (geOk E) [] 3 ?_)
  all_goals first | rfl | omega | (simp; done) | (simp_all; done) | skip
set_option maxHeartbeats 4000000 in
theorem cmpH_e (E : Nat → Addr) (a b : Int × Int) : DoesC (Ge E) 122 (Sp0 [.agg [.int .i64 a.1, .int .i64 a.2], .agg [.int .i64 b.1, .int .i64 b.2]] [] 0 (.int .i64 (cmpH a b))) := by
  refine fn_calls (geOk E) 17 0 [] Tryz.func122 rfl rfl rfl rfl rfl ?_
  repeat' first | (intro h; first | (exfalso; omega; done) | skip) | (refine And.intro ?_ ?_) | exact True.intro | (refine @Exists.intro Unit _ () ?_) | (refine @Exists.intro (_ = _) _ rfl ?_) | (change DrawGoal _ _ _ _ _ _; first | (change DrawGoal _ _ _ ({ dst := some 5, op := _, type := _, pos := _, after := _, guard := _ } :: _) _ _; refine draw_tree (geOk E) [0, 1] (.leaf [(0, true), (1, true), (2, true), (3, true), (5, true), (6, true), (7, true), (8, true), (4, false), (9, false), (10, false), (11, false), (12, true)]) (by kernel_rfl) ?_)) | (change CallGoal _ _ _ _ _ _; first | (refine call0 (cmp_e E _ _).does [] rfl True.intro rfl ?_) | (refine call0 (or_e E _ _).does [2] rfl (And.intro rfl True.intro) rfl ?_))
  all_goals first | omega | rfl | skip
instance : Inhabited V3 := ⟨v0⟩
theorem sortH_z (E : Nat → Addr) (l : List (Int × Int)) (n k : Nat) (h : n = l.length ∧ l.length ≤ 1099511627776) : Does (Gm E) 151 ⟨[.sl 0 n k, .fn 122 []], [(0, .arr (Int × Int) (Zz.encP Zz.encI Zz.encI) 28 l k)], 1, 1, List (Int × Int), fun l' => l'.Perm l ∧ l'.Pairwise fun x y => ltH y x = false, fun _ => .tup [], fun l' => [(0, .arr (Int × Int) (Zz.encP Zz.encI Zz.encI) 28 l' k)]⟩ := by
  obtain ⟨rfl, h⟩ := h
  exact sort_does (Γ := Gm E) (en := Zz.encP Zz.encI Zz.encI) (lt := ltH) (cf := cmpH) (g := 122) (f := 151) Tryz.sortH (fun w => ((gmOk E).tb 28 _ rfl).isAgg w) (fun w => ((gmOk E).tb 28 _ rfl).size w) ordH cmpH_neg (fun x y => cmpH_e E x y) rfl ⟨_, Tryz.func151, rfl, rfl⟩ l k 28 (by omega)
end Go.Proofs.YtcnbngiplfoomaaGreatDoor
namespace Go.Proofs.YtcnbngiplfoomaaGreatDoor
open Go.Zz Go.Px
set_option linter.unusedVariables false
set_option linter.unusedSectionVars false
set_option linter.unusedSimpArgs false
set_option maxRecDepth 10000
theorem pt_eq {a b : Int × Int} : a = b ↔ a.1 = b.1 ∧ a.2 = b.2 := Prod.ext_iff
theorem pt_eq' {a b : Int × Int} : (a.1 = b.1 ∧ a.2 = b.2) ↔ a = b := pt_eq.symm
set_option maxHeartbeats 4000000 in
theorem compactH_z (E : Nat → Addr) (l : List (Int × Int)) (n k : Nat) (h : n = l.length ∧ l.length ≤ 1099511627776 ∧ l.length ≤ k) : Does (Gm E) 152 ⟨[.sl 0 n k], [(0, .arr (Int × Int) (Zz.encP Zz.encI Zz.encI) 28 l k)], 1, 1, Unit, fun _ => True, fun _ => .sl 0 (comp l).length k, fun _ => [(0, .arr (Int × Int) (Zz.encP Zz.encI Zz.encI) 28 (comp l ++ List.replicate (l.length - (comp l).length) (0, 0)) k)]⟩ := by
  obtain ⟨rfl, h⟩ := h
  refine fn_intro (gmOk E) 61 1 [] Tryz.func152 rfl rfl rfl rfl rfl ?_
  repeat' first | (intro h; first | (exfalso; omega; done) | skip) | (refine And.intro ?_ ?_) | exact True.intro | (refine @Exists.intro Unit _ () ?_) | (refine @Exists.intro (_ = _) _ rfl ?_) | (change OpGoal _ _ _ _ (.call { callee := .builtin .clear, args := _, argTypes := _ }) _; refine clear_rule (gmOk E) 0 _ _ _ _ _ _ rfl rfl rfl rfl rfl rfl rfl ?_ ?_) | (change LoopGoal _ _ _ _ _ _; refine loop_at 4 (gmOk E) rfl [] (X := Nat) (fun i => [(3, .int .i64 (i : Int))]) (fun i => []) [] (fun i => 1 ≤ i ∧ i ≤ l.length ∧ comp (l.take i) = l.take i) (fun i => l.length - i) ⟨1, ?_⟩ (fun i hI => ?_)) | (change @Exists (Nat) (fun _ => updK _ _ _ _ _ _); refine @Exists.intro (Nat) _ (i + 1) ?_) | (change LoopGoal _ _ _ _ _ _; refine loop_at 9 (gmOk E) rfl [] (X := (Int × Int × List (Int × Int))) (fun x => [(3, .int .i64 x.1), (5, .int .i64 x.2.1)]) (fun x => [(0, .arr (Int × Int) (Zz.encP Zz.encI Zz.encI) 28 x.2.2 k)]) [] (fun x => 1 ≤ x.1 ∧ 1 ≤ x.2.1 ∧ Cmp l x.2.2 x.1.toNat (i + x.2.1.toNat)) (fun x => (l.length - x.2.1).toNat) ⟨((i : Int), 1, l), ?_⟩ (fun x hI => ?_)) | (change @Exists ((Int × Int × List (Int × Int))) (fun _ => updK _ _ _ _ _ _); refine @Exists.intro ((Int × Int × List (Int × Int))) _ ((?_, ?_, ?_)) ?_; rotate_left 3) | (change DrawGoal _ _ _ _ _ _; first | (change DrawGoal _ _ _ ({ dst := some 16, op := _, type := _, pos := _, after := _, guard := _ } :: _) _ _; refine draw_tree (gmOk E) [0] (.leaf [(0, true), (1, true), (2, true), (3, true), (4, true), (5, true), (6, true), (7, true), (8, true), (9, true)]) (by kernel_rfl) ?_) | (change DrawGoal _ _ _ ({ dst := some 35, op := _, type := _, pos := _, after := _, guard := _ } :: _) _ _; refine draw_tree (gmOk E) [0] (.leaf [(0, true), (1, true), (2, true), (3, true), (4, true), (5, true), (6, true), (7, true), (8, true), (9, true)]) (by kernel_rfl) ?_))
  all_goals first
    | (dsimp only; first | rfl | omega)
    | rfl
    | omega
    | (have c := hI.2.2; have c1 := c.len; have c2 := c.le; have c3 := c.jl; (try dsimp only); omega)
    | (rw [comp_one l (by omega)]; done)
    | (rw [comp_one l (by omega)]; simp; done)
    | exact comp_one _ (by rw [List.length_take]; omega)
    | exact Cmp.startI (d := (0, 0)) hI (by omega) (pt_eq'.1 h)
    | exact Cmp.keepI (d := (0, 0)) hI ‹x.2.1 < _› (fun e => h (pt_eq'.2 e))
    | exact Cmp.skipI (d := (0, 0)) hI ‹x.2.1 < _› (pt_eq'.1 (Classical.not_not.1 h))
    | exact Cmp.skipI (d := (0, 0)) hI ‹x.2.1 < _› (pt_eq'.1 h)
    | exact comp_goI (d := (0, 0)) hI ‹_› (fun e => h (pt_eq'.2 e))
    | (have c := hI.2.2; exact c.lenEq (by omega))
    | (have c := hI.2.2; have c1 := c.len; rw [← c.lenEq (by omega), c1]; have c2 := c.done (by omega) []; simp only [List.append_nil, List.take_take, Nat.min_self] at c2; rw [c2])
    | (rw [comp_all hI ‹_›]; done)
    | (rw [comp_all hI ‹_›]; simp; done)
theorem compactH_s (E : Nat → Addr) (l : List (Int × Int)) (n k : Nat) (h : n = l.length ∧ l.length ≤ 1099511627776 ∧ l.length ≤ k) : Does (Gm E) 152 ⟨[.sl 0 n k], [(0, .arr (Int × Int) (Zz.encP Zz.encI Zz.encI) 28 l k)], 1, 1, Unit, fun _ => True, fun _ => .sl 0 (comp l).length k, fun _ => [(0, .arr (Int × Int) (Zz.encP Zz.encI Zz.encI) 28 (comp l) k)]⟩ :=
  Does.post_mono _ (compactH_z E l n k h) fun x En V w _ h => h.shrink (c := 0) rfl
set_option maxHeartbeats 4000000 in
theorem sortedH_z (E : Nat → Addr) (l : List (Int × Int)) (n k : Nat) (h : n = l.length ∧ l.length ≤ 1000000000) : Does (Gm E) 121 ⟨[.sl 0 n k, .fn 122 []], [(0, .ro (Int × Int) (Zz.encP Zz.encI Zz.encI) l k)], 1, 2, Nat, fun q => (ordS ltH l).length ≤ q, fun q => .sl 1 (ordS ltH l).length q, fun q => [(1, .arr (Int × Int) (Zz.encP Zz.encI Zz.encI) 28 (ordS ltH l) q)]⟩ := by
  obtain ⟨rfl, h⟩ := h
  refine fn_intro (gmOk E) 13 1 [] Tryz.func121 rfl rfl rfl rfl rfl ?_
  repeat' first | (intro h; first | (exfalso; omega; done) | skip) | (refine And.intro ?_ ?_) | exact True.intro | (refine @Exists.intro Unit _ () ?_) | (refine @Exists.intro (_ = _) _ rfl ?_) | (refine @Exists.intro (Nat) _ ?_ ?_; rotate_left) | (change CallGoal _ _ _ _ _ _; first | (refine call_rule (scloneH E l _ _ ⟨rfl, by omega⟩) [0] rfl (And.intro rfl True.intro) rfl (fun (q : Nat) (hq : l.length ≤ q) => ?_)) | (refine call_rule (sortH_z E _ _ _ ?_) [1] rfl (And.intro rfl True.intro) rfl (fun (l' : List (Int × Int)) (hl : l'.Perm l ∧ l'.Pairwise fun x y => ltH y x = false) => ?_)) | (refine call_rule (compactH_s E _ _ _ ?_) [1] rfl (And.intro rfl True.intro) rfl (fun x hx => ?_)))
  all_goals first | rfl | omega | (have e := hl.1.length_eq; omega) | (change (ordS ltH l).length ≤ _; have e := ordS_len (lt := ltH) l; omega) | (rw [comp_ordS ordH hl.1 hl.2])
set_option maxHeartbeats 4000000 in
theorem handles_z (E : Nat → Addr) (l : List (Int × Int)) (n k : Nat) (h : n = l.length ∧ l.length ≤ 1000000000) : Does (Gm E) 76 ⟨[.sl 0 n k], [(0, .ro (Int × Int) (Zz.encP Zz.encI Zz.encI) l k)], 1, 2, Nat, fun q => (ordS ltH l).length ≤ q, fun q => .sl 1 (ordS ltH l).length q, fun q => [(1, .arr (Int × Int) (Zz.encP Zz.encI Zz.encI) 28 (ordS ltH l) q)]⟩ := by
  refine fn_intro (gmOk E) 5 1 [] Tryz.func76 rfl rfl rfl rfl rfl ?_
  repeat' first | (intro h; first | (exfalso; omega; done) | skip) | (refine And.intro ?_ ?_) | exact True.intro | (refine @Exists.intro Unit _ () ?_) | (refine @Exists.intro (_ = _) _ rfl ?_) | (refine @Exists.intro (Nat) _ ?_ ?_; rotate_left) | (change CallGoal _ _ _ _ _ _; first | (refine call_rule (sortedH_z E l n k h) [0] rfl (And.intro rfl True.intro) rfl (fun (q : Nat) hq => ?_)))
  all_goals first | rfl | omega | exact hq
end Go.Proofs.YtcnbngiplfoomaaGreatDoor
namespace Go.Proofs.YtcnbngiplfoomaaGreatDoor
open Go.Zz Go.Px
set_option linter.unusedVariables false
set_option linter.unusedSectionVars false
set_option linter.unusedSimpArgs false
set_option maxRecDepth 10000
structure EdOk (D : EL) : Prop where
  h : ∀ y ∈ D, y.2 = stepI y.1.1 y.1.2
theorem EdOk.put {D : EL} (hD : EdOk D) (e : Int × Int) : EdOk (Go.Px.putK D e (stepI e.1 e.2)) := ⟨fun y hy => by
  rcases kmem_putA.1 hy with rfl | ⟨h, _⟩
  · rfl
  · exact hD.h y h⟩
end Go.Proofs.YtcnbngiplfoomaaGreatDoor
namespace Go.Proofs.YtcnbngiplfoomaaGreatDoor
open Go.Zz Go.Px
set_option linter.unusedVariables false
set_option linter.unusedSectionVars false
set_option linter.unusedSimpArgs false
set_option maxRecDepth 10000
section
variable {E : Nat → Addr} {Q : List (PRow Int)} {T : TL} {P : PL} {R : List Ey} {m i k : Int} {h hd : Hd} {es es' : List Ey} {p : Int → Nat} {x : XT} {r r' row : Rw} {v : V3} {g : Nat} {D : EL}
theorem delR_lt (hm : (h, r) ∈ R) : (delR R h).length < R.length := List.length_filter_lt_length_iff_exists.2 ⟨(h, r), hm, by simp⟩
theorem AtS.room (hx : XOk R x) (a : AtS R x hd r m i es) : (delR R hd).length < 128 := Nat.lt_of_lt_of_le (delR_lt a.mem) hx.len
end
end Go.Proofs.YtcnbngiplfoomaaGreatDoor
namespace Go.Proofs.YtcnbngiplfoomaaGreatDoor
open Go.Zz Go.Px
set_option linter.unusedVariables false
set_option linter.unusedSectionVars false
set_option linter.unusedSimpArgs false
set_option maxRecDepth 10000
set_option maxHeartbeats 4000000 in
theorem keysUIt_vc (E : Nat → Addr) (L : List (Int × Option Nat)) : KeysVcS (Ge E) 56 181 4 "iter.go:27" "iter.go:28" veU veP L := by
  intro y ga left cur
  repeat' first | (intro h; first | (exfalso; omega; done) | skip) | (refine And.intro ?_ ?_) | exact True.intro | (change OpGoal _ _ _ _ (.next _ _) _; refine next_rule L 1 0 rfl rfl rfl rfl ?_ ?_) | (change OpGoal _ _ _ _ (.entry _) _; refine entry_rule 1 rfl rfl ?_) | (exact ⟨_, _, _, ‹List.Perm _ _›, rfl, rfl, rfl, rfl, rfl, ‹_ ∈ L›⟩) | fail
  all_goals first | rfl | assumption
theorem keysU_gives (E : Nat → Addr) (L : List (Int × Option Nat)) (A : Addr) (gb : Nat) (W0 : World) (hA : W0.cell? A = some (.map (some gb))) (hm : MapAt W0 gb veU.val veP.val L) : GivesKeys Tryz.prog 108 A gb veU.val veP.val L W0 :=
  keys_givesS (geOk E) rfl 104 56 181 4 "iter.go:27" "iter.go:28" Tryz.func108 rfl rfl rfl mapT rfl rfl (keysUIt_vc E L) A gb W0 hA hm
set_option maxHeartbeats 4000000 in
theorem appU_z (E : Nat → Addr) (L : List (Int × Option Nat)) (h : L.length ≤ 1000000000) : Does (Gm E) 145 ⟨[.nils, .fn 108 [.ptr 0 0]], [(0, .cells 104 [.mp 1]), (1, .pr (mapPr veU veP L))], 2, 3, List Int × Nat, fun x => x.1.Perm (L.map (·.1)) ∧ x.1.length ≤ x.2, fun x => .sl 2 x.1.length x.2, fun x => [(0, .cells 104 [.mp 1]), (1, .pr (mapPr veU veP L)), (2, .arr Int encU 56 x.1 x.2)]⟩ := by
  refine fn_range (gmOk E) 13 2 [] Tryz.func145 rfl rfl rfl rfl rfl ?_
  repeat' first | (intro h; first | (exfalso; omega; done) | skip) | (refine And.intro ?_ ?_) | exact True.intro | (refine @Exists.intro Unit _ () ?_) | (refine @Exists.intro (_ = _) _ rfl ?_) | (change RangeAt _ _ _ _ _ _ _ _ _; refine rangeAt_rule (gmOk E) rfl 108 0 1 104 veU veP L rfl rfl rfl rfl rfl ⟨_, Tryz.func108, rfl, rfl⟩ (keysU_gives E L) rfl (X := List Int × Nat) (fun x => [(2, .cells 41 [.sl 3 x.1.length x.2]), (3, .arr Int encU 56 x.1 x.2)]) [] (fun x => x.1.length ≤ x.2) (fun x => x.1) (fun _ => rfl) (fun _ => rfl) (fun ga => ?_) (fun ga x k hI hk hn => ?_) (fun D x hI hp => ?_)) | (change @Exists (List Int × Nat) (fun _ => _ ∧ phK _ _ _ _ _); first | (refine ⟨([], 0), rfl, ?_⟩) | (refine ⟨(x.1 ++ [k], ?_), rfl, ?_⟩; rotate_left)) | (refine @Exists.intro (List Int × Nat) _ x ?_)
  all_goals first | (dsimp only; first | rfl | omega) | rfl | omega | exact Nat.le_refl _ | exact hp | exact hI | (simp; done) | (have hn : x.1.length < L.length := hn; omega) | (have hn := hp.length_eq; rw [List.length_map] at hn; omega) | (rw [List.length_append]; assumption) | (refine congrArg (fun q => Ch.arr _ _ _ q _) ?_; dsimp only; rw [List.take_length]; rfl)
set_option maxHeartbeats 4000000 in
theorem collU_z (E : Nat → Addr) (L : List (Int × Option Nat)) (h : L.length ≤ 1000000000) : Does (Gm E) 106 ⟨[.fn 108 [.ptr 0 0]], [(0, .cells 104 [.mp 1]), (1, .pr (mapPr veU veP L))], 2, 3, List Int × Nat, fun x => x.1.Perm (L.map (·.1)) ∧ x.1.length ≤ x.2, fun x => .sl 2 x.1.length x.2, fun x => [(0, .cells 104 [.mp 1]), (1, .pr (mapPr veU veP L)), (2, .arr Int encU 56 x.1 x.2)]⟩ := by
  refine fn_intro (gmOk E) 5 2 [] Tryz.func106 rfl rfl rfl rfl rfl ?_
  repeat' first | (intro h; first | (exfalso; omega; done) | skip) | (refine And.intro ?_ ?_) | exact True.intro | (refine @Exists.intro Unit _ () ?_) | (refine @Exists.intro (_ = _) _ rfl ?_) | (refine @Exists.intro (List Int × Nat) _ x ?_) | (change CallGoal _ _ _ _ _ _; first | (refine call_rule (appU_z E L h) [0, 1] rfl (And.intro rfl (And.intro rfl True.intro)) rfl (fun (x : List Int × Nat) (hx : x.1.Perm (L.map (·.1)) ∧ x.1.length ≤ x.2) => ?_)))
  all_goals first
| (dsimp only; first | rfl | omega)
| rfl
| omega
| assumption
| exact hx
| exact hx.1
| exact hx.2
| (have e := hx.1.length_eq; rw [List.length_map] at e; omega)
set_option maxHeartbeats 4000000 in
theorem keysU_z (E : Nat → Addr) (M : List (Int × Option Nat)) : Does (Gm E) 67 ⟨[.mp 0], [(0, .pr (mapPr veU veP M))], 1, 2, Unit, fun _ => True, fun _ => .fn 108 [.ptr 1 0], fun _ => [(0, .pr (mapPr veU veP M)), (1, .cells 104 [.mp 0])]⟩ := by
  refine fn_intro (gmOk E) 4 1 [] Tryz.func67 rfl rfl rfl rfl rfl ?_
  repeat' first | (intro h; first | (exfalso; omega; done) | skip) | (refine And.intro ?_ ?_) | exact True.intro | (refine @Exists.intro Unit _ () ?_) | (refine @Exists.intro (_ = _) _ rfl ?_)
  all_goals first | rfl | omega
end Go.Proofs.YtcnbngiplfoomaaGreatDoor
namespace Go.Proofs.YtcnbngiplfoomaaGreatDoor
open Go.Zz Go.Px
set_option linter.unusedVariables false
set_option linter.unusedSectionVars false
set_option linter.unusedSimpArgs false
set_option maxRecDepth 10000
section
variable {l l' c : List Int} {a b i j p q n : Nat}
abbrev gI (l : List Int) (j : Nat) : Int := l.getD j 0
theorem gI_set {l : List Int} {j p : Nat} {v : Int} (hj : j < l.length) : gI (l.set j v) p = if p = j then v else gI l p := by
  unfold gI
  rw [List.getD_eq_getElem?_getD, List.getD_eq_getElem?_getD, List.getElem?_set]
  by_cases e : j = p
  · subst e; rw [if_pos rfl, if_pos hj, if_pos rfl]; rfl
  · rw [if_neg e, if_neg (Ne.symm e)]
structure SameI (l c : List Int) (a b : Nat) : Prop where
  perm : c.Perm l
  out : ∀ p, p < a ∨ b ≤ p → gI c p = gI l p
theorem SameI.len (h : SameI l c a b) : c.length = l.length := h.perm.length_eq
theorem SameI.refl (l : List Int) (a b : Nat) : SameI l l a b := ⟨List.Perm.refl _, fun _ _ => rfl⟩
theorem SameI.trans {d : List Int} (h : SameI l c a b) (h2 : SameI c d a b) : SameI l d a b := ⟨h2.perm.trans h.perm, fun p hp => (h2.out p hp).trans (h.out p hp)⟩
def swapI (l : List Int) (i j : Nat) : List Int := (l.set i (gI l j)).set j (gI l i)
theorem gI_at (h : j < l.length) : gI l j = l[j] := by unfold gI; rw [List.getD_eq_getElem?_getD, List.getElem?_eq_getElem h]; rfl
theorem swapI_perm (hi : i < l.length) (hj : j < l.length) : (swapI l i j).Perm l := by
  unfold swapI; rw [gI_at hi, gI_at hj]; exact List.set_set_perm hi hj
theorem swapI_len : (swapI l i j).length = l.length := by unfold swapI; rw [List.length_set, List.length_set]
theorem swapI_at (hi : i < l.length) (hj : j < l.length) (p : Nat) : gI (swapI l i j) p = if p = j then gI l i else if p = i then gI l j else gI l p := by
  unfold swapI; rw [gI_set (by rw [List.length_set]; exact hj), gI_set hi]
theorem SameI.swap (h : SameI l c a b) (hi : a ≤ i ∧ i < b) (hj : a ≤ j ∧ j < b) (hb : b ≤ l.length) : SameI l (swapI c i j) a b := by
  have hl := h.len
  refine ⟨(swapI_perm (by omega) (by omega)).trans h.perm, fun p hp => ?_⟩
  rw [swapI_at (by omega) (by omega), if_neg (by omega), if_neg (by omega)]; exact h.out p hp
structure OrdI (c : List Int) (a b : Nat) : Prop where
  le : ∀ p q, a ≤ p → p < q → q < b → gI c p ≤ gI c q
structure InsI (c : List Int) (a j i : Nat) : Prop where
  le : ∀ p q, a ≤ p → p < q → q ≤ i → p ≠ j → q ≠ j → gI c p ≤ gI c q
  hi : ∀ q, j < q → q ≤ i → gI c j ≤ gI c q
theorem InsI.start (h : OrdI c a i) : InsI c a i i := ⟨fun p q h1 h2 h3 h4 h5 => h.le p q h1 h2 (by omega), fun q h1 h2 => by omega⟩
theorem InsI.step (h : InsI c a j i) (hj : a < j) (hji : j ≤ i) (hi : i < c.length) (hlt : gI c j < gI c (j - 1)) : InsI (swapI c j (j - 1)) a (j - 1) i := by
  refine ⟨fun p q h1 h2 h3 h4 h5 => ?_, fun q h1 h2 => ?_⟩
  · rw [swapI_at (by omega) (by omega), swapI_at (by omega) (by omega), if_neg h4, if_neg h5]
    by_cases e1 : p = j
    · rw [if_pos e1, if_neg (by omega)]
      exact h.le (j - 1) q (by omega) (by omega) h3 (by omega) (by omega)
    · rw [if_neg e1]
      by_cases e2 : q = j
      · rw [if_pos e2]
        exact h.le p (j - 1) h1 (by omega) (by omega) e1 (by omega)
      · rw [if_neg e2]; exact h.le p q h1 h2 h3 e1 e2
  · rw [swapI_at (by omega) (by omega), swapI_at (by omega) (by omega), if_pos rfl, if_neg (by omega)]
    by_cases e2 : q = j
    · rw [if_pos e2]; omega
    · rw [if_neg e2]; exact h.hi q (by omega) h2
theorem InsI.stop (h : InsI c a j i) (hs : ¬ (a < j ∧ gI c j < gI c (j - 1))) : OrdI c a (i + 1) := ⟨fun p q h1 h2 h3 => by
  by_cases e1 : p = j
  · subst e1; exact h.hi q h2 (by omega)
  · by_cases e2 : q = j
    · subst e2
      have h4 : gI c (q - 1) ≤ gI c q := Int.not_lt.1 fun q2 => hs ⟨by omega, q2⟩
      by_cases e3 : p = q - 1
      · subst e3; exact h4
      · exact Int.le_trans (h.le p (q - 1) h1 (by omega) (by omega) e1 (by omega)) h4
    · exact h.le p q h1 h2 (by omega) e1 e2⟩
theorem OrdI.one (c : List Int) (a : Nat) : OrdI c a (a + 1) := ⟨fun p q h1 h2 h3 => by omega⟩
end
set_option maxHeartbeats 4000000 in
theorem isnanU_z (E : Nat → Addr) (n : Int) : Does (Gm E) 185 (Sp0 [.int .u64 n] [] 0 .ff) := by
  refine fn_intro (gmOk E) 6 0 [] Tryz.func185 rfl rfl rfl rfl rfl ?_
  repeat' first | (intro h; first | (exfalso; omega; done) | skip) | (refine And.intro ?_ ?_) | exact True.intro | (refine @Exists.intro Unit _ () ?_) | (refine @Exists.intro (_ = _) _ rfl ?_)
  all_goals first | rfl | omega
set_option maxHeartbeats 4000000 in
theorem lessU_z (E : Nat → Addr) (a b : Int) : Does (Gm E) 173 (Sp0 [.int .u64 a, .int .u64 b] [] 0 (.dc (a < b) inferInstance)) := by
  refine fn_intro (gmOk E) 17 0 [] Tryz.func173 rfl rfl rfl rfl rfl ?_
  repeat' first | (intro h; first | (exfalso; omega; done) | skip) | (refine And.intro ?_ ?_) | exact True.intro | (refine @Exists.intro Unit _ () ?_) | (refine @Exists.intro (_ = _) _ rfl ?_) | (change CallGoal _ _ _ _ _ _; first | (refine call0 (isnanU_z E _) [] rfl True.intro rfl ?_))
  all_goals first | rfl | omega
set_option maxHeartbeats 4000000 in
theorem insU_z (E : Nat → Addr) (l : List Int) (n k : Nat) (a b : Nat) (h : n = l.length ∧ a ≤ b ∧ b ≤ l.length ∧ l.length ≤ 1000000) : Does (Gm E) 167 ⟨[.sl 0 n k, .int .i64 (a : Nat), .int .i64 (b : Nat)], [(0, .arr Int encU 56 l k)], 1, 1, List Int, fun c => SameI l c a b ∧ OrdI c a b, fun _ => .tup [], fun c => [(0, .arr Int encU 56 c k)]⟩ := by
  obtain ⟨rfl, hab, hb, hm⟩ := h
  refine fn_intro (gmOk E) 49 1 [] Tryz.func167 rfl rfl rfl rfl rfl ?_
  repeat' first | exact placedPr_ok | (change DrawGoal _ _ _ _ _ _; first | (change DrawGoal _ _ _ [_, _, _, _, _, _, _, _, _, _, _, _, _, _, _, _, _, _] _ _; refine draw_weak (gmOk E) 0 [] (.alt [(0, true), (1, true), (2, true), (3, true), (4, true), (5, true), (6, true), (7, true), (8, true), (10, true), (11, true), (12, true)] (.leaf [(9, false), (13, false), (14, true), (15, false), (16, true), (17, false)]) (.leaf [(13, false), (9, false), (14, true), (15, false), (16, true), (17, false)])) (by kernel_rfl) rfl ?_ ?_)) | (intro h; first | (exfalso; omega; done) | skip) | (refine And.intro ?_ ?_) | exact True.intro | (refine @Exists.intro Unit _ () ?_) | (refine @Exists.intro (_ = _) _ rfl ?_) | (change LoopGoal _ _ _ _ _ _; refine loop_at 1 (gmOk E) rfl [] (X := (Nat × List Int)) (fun x => [(6, .int .i64 ((x.1 : Nat) : Int))]) (fun x => [(0, .arr Int encU 56 x.2 k)]) [] (fun x => a + 1 ≤ x.1 ∧ (x.1 ≤ b ∨ x.1 = a + 1) ∧ SameI l x.2 a b ∧ OrdI x.2 a x.1) (fun x => l.length + 1 - x.1) ⟨(a + 1, l), ?_⟩ (fun x hI => ?_)) | (change @Exists ((Nat × List Int)) (fun _ => updK _ _ _ _ _ _); refine @Exists.intro ((Nat × List Int)) _ ((x.1 + 1, y.2.1)) ?_) | (change LoopGoal _ _ _ _ _ _; refine loop_at 4 (gmOk E) rfl [] (X := (Nat × List Int × Unit)) (fun y => [(7, .int .i64 ((y.1 : Nat) : Int))]) (fun y => [(0, .arr Int encU 56 y.2.1 k)]) [] (fun y => a ≤ y.1 ∧ y.1 ≤ x.1 ∧ SameI l y.2.1 a b ∧ InsI y.2.1 a y.1 x.1) (fun y => y.1) ⟨(x.1, x.2, ()), ?_⟩ (fun y hJ => ?_)) | (change @Exists ((Nat × List Int × Unit)) (fun _ => updK _ _ _ _ _ _); refine @Exists.intro ((Nat × List Int × Unit)) _ ((y.1 - 1, swapI y.2.1 y.1 (y.1 - 1), ())) ?_) | (change DrawGoal _ _ _ _ _ _; first | (change DrawGoal _ _ _ ({ dst := some 16, op := _, type := _, pos := _, after := _, guard := _ } :: _) _ _; refine draw_tree (gmOk E) [0] (.leaf [(0, true), (1, true), (2, true), (3, true), (4, true), (5, true), (6, true), (7, true), (8, true), (9, true), (10, true), (11, true), (12, true), (13, false), (14, true)]) (by kernel_rfl) ?_)) | (refine @Exists.intro (List Int) _ ?_ ?_; rotate_left) | (change CallGoal _ _ _ _ _ _; first | (refine call0 (lessU_z E _ _) [] rfl True.intro rfl ?_))
  all_goals first
| (dsimp only; first | rfl | omega)
| rfl
| omega
| exact SameI.refl _ _ _
| exact OrdI.one _ _
| exact hI.2.2.1
| exact InsI.start hI.2.2.2
| exact hJ.2.2.1
| (have q := hJ.2.2.1.len; first | omega | (show _ < _; omega) | (show _ ≤ _; omega))
| exact hJ.2.2.2.stop (by intro q; simp only [gI] at q; omega)
| exact hI.2.2.2
| exact hJ.2.2.2.stop (fun q => h (by rw [Int.toNat_natCast, show ((y.1 : Int) - 1).toNat = y.1 - 1 by omega]; exact q.2))
| (have q := hJ.2.2.1.len; rw [List.length_set]; first | omega | (show _ < _; omega) | (show _ ≤ _; omega))
| (rw [Int.toNat_natCast, show ((y.1 : Int) - 1).toNat = y.1 - 1 by omega]; rfl)
| exact hJ.2.2.1.swap (by omega) (by omega) hb
| (have q := hJ.2.2.1.len; exact hJ.2.2.2.step (by omega) (by omega) (by omega) (by simp only [gI, Int.toNat_natCast, show ((y.1 : Int) - 1).toNat = y.1 - 1 by omega] at *; assumption))
| (rw [show b = x.1 by omega]; exact hI.2.2.2)
| (refine ⟨fun p q h1 h2 h3 => ?_⟩; rcases hI.2.1 with e | e; (exact hI.2.2.2.le p q h1 h2 (by omega)); omega)
end Go.Proofs.YtcnbngiplfoomaaGreatDoor
namespace Go.Proofs.YtcnbngiplfoomaaGreatDoor
open Go.Zz Go.Px
set_option linter.unusedVariables false
set_option linter.unusedSectionVars false
set_option linter.unusedSimpArgs false
set_option maxRecDepth 10000
theorem wrap8 {x : Int} (h : 0 ≤ x ∧ x ≤ 200) : IntKind.u8.wrap x = x := by
  have : IntKind.u8.wrap x = x % 256 := by simp [IntKind.wrap, IntKind.bits, IntKind.signed]
  rw [this]; omega
end Go.Proofs.YtcnbngiplfoomaaGreatDoor
namespace Go.Proofs.YtcnbngiplfoomaaGreatDoor
open Go.Zz Go.Px
set_option linter.unusedVariables false
set_option linter.unusedSectionVars false
set_option linter.unusedSimpArgs false
set_option maxRecDepth 10000
section
variable {l l' c c1 c2 d : List Int} {a b i j p q n m a' b' : Nat}
theorem SameI.mono (h : SameI l c a' b') (h1 : a ≤ a') (h2 : b' ≤ b) : SameI l c a b := ⟨h.perm, fun p hp => h.out p (by omega)⟩
theorem take_eqI (hl : c.length = l.length) (h : ∀ p, p < a → gI c p = gI l p) : c.take a = l.take a := by
  apply List.ext_getElem (by rw [List.length_take, List.length_take, hl])
  intro k h1 h2
  rw [List.length_take] at h1 h2
  rw [List.getElem_take, List.getElem_take, ← gI_at (by omega), ← gI_at (by omega)]
  exact h k (by omega)
theorem drop_eqI (hl : c.length = l.length) (h : ∀ p, b ≤ p → gI c p = gI l p) : c.drop b = l.drop b := by
  apply List.ext_getElem (by rw [List.length_drop, List.length_drop, hl])
  intro k h1 h2
  rw [List.length_drop] at h1 h2
  rw [List.getElem_drop, List.getElem_drop, ← gI_at (by omega), ← gI_at (by omega)]
  exact h (b + k) (by omega)
theorem cut_eqI (hab : a ≤ b) (l : List Int) : l = l.take a ++ ((l.drop a).take (b - a) ++ l.drop b) := by
  have h1 : (l.drop a).drop (b - a) = l.drop b := by rw [List.drop_drop]; congr 1; omega
  rw [← h1, List.take_append_drop, List.take_append_drop]
theorem SameI.mid (h : SameI l c a b) (hab : a ≤ b) : ((c.drop a).take (b - a)).Perm ((l.drop a).take (b - a)) := by
  have h0 := h.perm
  rw [cut_eqI hab c, cut_eqI hab l, take_eqI h.len (fun p hp => h.out p (.inl hp)), drop_eqI h.len (fun p hp => h.out p (.inr hp)), List.perm_append_left_iff, List.perm_append_right_iff] at h0
  exact h0
theorem SameI.mem (h : SameI l c a b) (hb : b ≤ l.length) (hp : a ≤ p ∧ p < b) : ∃ q, (a ≤ q ∧ q < b) ∧ gI c p = gI l q := by
  have hl := h.len
  have h1 : gI c p ∈ (c.drop a).take (b - a) := by
    rw [gI_at (by omega)]
    refine List.mem_iff_getElem.2 ⟨p - a, by rw [List.length_take, List.length_drop]; omega, ?_⟩
    rw [List.getElem_take, List.getElem_drop]; congr 1; omega
  obtain ⟨k, hk, e⟩ := List.mem_iff_getElem.1 ((h.mid (by omega)).mem_iff.1 h1)
  rw [List.length_take, List.length_drop] at hk
  rw [List.getElem_take, List.getElem_drop] at e
  exact ⟨a + k, by omega, e.symm.trans (gI_at (by omega)).symm⟩
structure BelI (c : List Int) (a b : Nat) : Prop where
  le : 0 < a → ∀ p, a ≤ p → p < b → gI c (a - 1) ≤ gI c p
theorem BelI.same (h : BelI l a b) (hs : SameI l c a b) (hb : b ≤ l.length) : BelI c a b := ⟨fun h0 p h1 h2 => by
  obtain ⟨q, hq, e⟩ := hs.mem hb ⟨h1, h2⟩
  rw [e, hs.out (a - 1) (by omega)]; exact h.le h0 q hq.1 hq.2⟩
structure PdqI (l c : List Int) (a b a' b' : Nat) : Prop where
  lo : a ≤ a'
  mid : a' ≤ b'
  hi : b' ≤ b
  len : b ≤ l.length
  same : SameI l c a b
  bel : BelI c a' b'
  rest : ∀ d, SameI c d a' b' → OrdI d a' b' → OrdI d a b
theorem PdqI.start (hab : a ≤ b) (hb : b ≤ l.length) (h : BelI l a b) : PdqI l l a b a b := ⟨Nat.le_refl _, hab, Nat.le_refl _, hb, SameI.refl _ _ _, h, fun _ _ h => h⟩
theorem PdqI.clen (h : PdqI l c a b a' b') : c.length = l.length := h.same.len
theorem PdqI.done (h : PdqI l c a b a' b') (hs : SameI c d a' b') (ho : OrdI d a' b') : SameI l d a b ∧ OrdI d a b := ⟨h.same.trans (hs.mono h.lo h.hi), h.rest d hs ho⟩
theorem PdqI.turn (h : PdqI l c a b a' b') (hs : SameI c d a' b') : PdqI l d a b a' b' :=
  ⟨h.lo, h.mid, h.hi, h.len, h.same.trans (hs.mono h.lo h.hi), h.bel.same hs (by rw [h.clen]; exact Nat.le_trans h.hi h.len), fun e he ho => h.rest e (hs.trans he) ho⟩
structure PartI (c : List Int) (a b m : Nat) : Prop where
  lo : a ≤ m
  hi : m < b
  less : ∀ p, a ≤ p → p < m → gI c p ≤ gI c m
  more : ∀ p, m < p → p < b → gI c m ≤ gI c p
theorem PartI.same (h : PartI c a b m) (hb : b ≤ c.length) (hs : SameI c d a m ∨ SameI c d (m + 1) b) : PartI d a b m := by
  have h1 := h.lo
  have h2 := h.hi
  refine ⟨h.lo, h.hi, fun p hp hm => ?_, fun p hp hm => ?_⟩
  · rcases hs with hs | hs
    · obtain ⟨q, hq, e⟩ := hs.mem (by omega) ⟨hp, hm⟩
      rw [e, hs.out m (by omega)]; exact h.less q hq.1 hq.2
    · rw [hs.out p (by omega), hs.out m (by omega)]; exact h.less p hp hm
  · rcases hs with hs | hs
    · rw [hs.out p (by omega), hs.out m (by omega)]; exact h.more p hp hm
    · obtain ⟨q, hq, e⟩ := hs.mem (by omega) ⟨hp, hm⟩
      rw [e, hs.out m (by omega)]; exact h.more q (by omega) hq.2
theorem PartI.join (h : PartI d a b m) (h1 : OrdI d a m) (h2 : OrdI d (m + 1) b) : OrdI d a b := ⟨fun p q hp hpq hq => by
  by_cases e1 : q < m
  · exact h1.le p q hp hpq e1
  by_cases e2 : m < p
  · exact h2.le p q (by omega) hpq hq
  by_cases e3 : p = m
  · subst e3; exact h.more q hpq hq
  by_cases e4 : q = m
  · subst e4; exact h.less p hp hpq
  exact Int.le_trans (h.less p hp (by omega)) (h.more q (by omega) hq)⟩
theorem PdqI.right (h : PdqI l c a b a' b') (hp : PartI c a' b' m) (hs : SameI c d a' m) (ho : OrdI d a' m) : PdqI l d a b (m + 1) b' := by
  have h1 := hp.lo; have h2 := hp.hi; have h3 := h.lo; have h4 := h.hi; have h5 := h.len; have h6 := h.clen
  refine ⟨by omega, by omega, h.hi, h.len, h.same.trans (hs.mono h.lo (by omega)), ⟨fun _ p q1 q2 => ?_⟩, fun e he hoe => ?_⟩
  · exact (hp.same (by omega) (.inl hs)).more p (by omega) q2
  · have hd := hp.same (by omega) (.inl hs)
    have hl := hs.len
    refine h.rest e ((hs.mono (Nat.le_refl _) (by omega)).trans (he.mono (by omega) (Nat.le_refl _))) ?_
    refine (hd.same (by omega) (.inr he)).join ⟨fun p q q1 q2 q3 => ?_⟩ hoe
    rw [he.out p (by omega), he.out q (by omega)]; exact ho.le p q q1 q2 q3
theorem PdqI.left (h : PdqI l c a b a' b') (hp : PartI c a' b' m) (hs : SameI c d (m + 1) b') (ho : OrdI d (m + 1) b') : PdqI l d a b a' m := by
  have h1 := hp.lo; have h2 := hp.hi; have h3 := h.lo; have h4 := h.hi; have h5 := h.len; have h6 := h.clen
  have hd := hp.same (by omega) (.inr hs)
  have hl := hs.len
  refine ⟨h.lo, hp.lo, by omega, h.len, h.same.trans (hs.mono (by omega) h.hi), ⟨fun h0 p q1 q2 => ?_⟩, fun e he hoe => ?_⟩
  · rw [hs.out (a' - 1) (by omega), hs.out p (by omega)]; exact h.bel.le h0 p q1 (by omega)
  · refine h.rest e ((hs.mono (by omega) (Nat.le_refl _)).trans (he.mono (Nat.le_refl _) (by omega))) ?_
    refine (hd.same (by omega) (.inl he)).join hoe ⟨fun p q q1 q2 q3 => ?_⟩
    rw [he.out p (by omega), he.out q (by omega)]; exact ho.le p q q1 q2 q3
structure EqI (c : List Int) (a b m : Nat) : Prop where
  lo : a < m
  hi : m ≤ b
  same : ∀ p q, a ≤ p → p < m → a ≤ q → q < b → gI c p ≤ gI c q
theorem PdqI.equal (h : PdqI l c a b a' b') (hp : EqI c a' b' m) : PdqI l c a b m b' := by
  have h1 := hp.lo; have h2 := hp.hi; have h3 := h.lo; have h4 := h.hi; have h5 := h.len; have h6 := h.clen
  refine ⟨by omega, by omega, h.hi, h.len, h.same, ⟨fun _ p q1 q2 => hp.same (m - 1) p (by omega) (by omega) (by omega) q2⟩, fun e he hoe => ?_⟩
  refine h.rest e (he.mono (by omega) (Nat.le_refl _)) ⟨fun p q q1 q2 q3 => ?_⟩
  by_cases e1 : m ≤ p
  · exact hoe.le p q e1 q2 q3
  rw [he.out p (by omega)]
  by_cases e2 : m ≤ q
  · obtain ⟨k, hk, e3⟩ := he.mem (by omega) ⟨e2, q3⟩
    rw [e3]; exact hp.same p k q1 (by omega) (by omega) hk.2
  · rw [he.out q (by omega)]; exact hp.same p q q1 (by omega) (by omega) q3
end
section
variable {l c d : List Int} {a b i j p q m : Nat}
structure ScanI (c : List Int) (a b i j : Nat) : Prop where
  lo : a + 1 ≤ i
  hi : j < b
  ij : i ≤ j + 1
  less : ∀ p, a < p → p < i → gI c p < gI c a
  more : ∀ p, j < p → p < b → gI c a ≤ gI c p
theorem ScanI.start (h : a < b) : ScanI c a b (a + 1) (b - 1) := ⟨Nat.le_refl _, by omega, by omega, fun p h1 h2 => by omega, fun p h1 h2 => by omega⟩
theorem ScanI.up (h : ScanI c a b i j) (hij : i ≤ j) (hl : gI c i < gI c a) : ScanI c a b (i + 1) j := ⟨by have := h.lo; omega, h.hi, by omega, fun p h1 h2 => by
  by_cases e : p = i
  · subst e; exact hl
  · exact h.less p h1 (by omega), h.more⟩
theorem ScanI.down (h : ScanI c a b i j) (hij : i ≤ j) (hl : ¬ gI c j < gI c a) : ScanI c a b i (j - 1) := ⟨h.lo, by have := h.hi; omega, by have := h.lo; omega, h.less, fun p h1 h2 => by
  by_cases e : p = j
  · subst e; omega
  · exact h.more p (by have := h.lo; omega) h2⟩
theorem ScanI.swap (h : ScanI c a b i j) (hb : b ≤ c.length) (hij : i ≤ j) (h1 : ¬ gI c i < gI c a) (h2 : gI c j < gI c a) : ScanI (swapI c i j) a b (i + 1) (j - 1) := by
  have q1 := h.lo; have q2 := h.hi
  have hne : i ≠ j := fun e => h1 (e ▸ h2)
  refine ⟨by omega, by omega, by omega, fun p h3 h4 => ?_, fun p h3 h4 => ?_⟩
  · rw [swapI_at (by omega) (by omega), swapI_at (by omega) (by omega), if_neg (show ¬ p = j by omega), if_neg (show ¬ a = j by omega), if_neg (show ¬ a = i by omega)]
    by_cases e : p = i
    · rw [if_pos e]; exact h2
    · rw [if_neg e]; exact h.less p h3 (by omega)
  · rw [swapI_at (by omega) (by omega), swapI_at (by omega) (by omega), if_neg (show ¬ a = j by omega), if_neg (show ¬ a = i by omega)]
    by_cases e : p = j
    · rw [if_pos e]; omega
    · rw [if_neg e, if_neg (by omega)]; exact h.more p (by omega) h4
theorem ScanI.done (h : ScanI c a b i j) (hb : b ≤ c.length) (hij : ¬ i ≤ j) : PartI (swapI c j a) a b j := by
  have q1 := h.lo; have q2 := h.hi; have q3 := h.ij
  refine ⟨by omega, h.hi, fun p h3 h4 => ?_, fun p h3 h4 => ?_⟩
  · rw [swapI_at (by omega) (by omega), swapI_at (by omega) (by omega)]
    by_cases e : p = a
    · subst e
      rw [if_pos rfl, if_neg (show ¬ j = p by omega), if_pos rfl]
      exact Int.le_of_lt (h.less j (by omega) (by omega))
    · rw [if_neg e, if_neg (show ¬ p = j by omega)]
      by_cases e2 : j = a
      · omega
      · rw [if_neg e2, if_pos rfl]; exact Int.le_of_lt (h.less p (by omega) (by omega))
  · rw [swapI_at (by omega) (by omega), swapI_at (by omega) (by omega)]
    rw [if_neg (show ¬ p = a by omega), if_neg (show ¬ p = j by omega)]
    by_cases e2 : j = a
    · rw [if_pos e2]; have := h.more p h3 h4; rw [e2]; exact this
    · rw [if_neg e2, if_pos rfl]; exact h.more p h3 h4
structure EqS (c : List Int) (a b i j : Nat) : Prop where
  lo : a + 1 ≤ i
  hi : j < b
  ij : i ≤ j + 1
  less : ∀ p, a < p → p < i → gI c p ≤ gI c a
  all : ∀ p, a ≤ p → p < b → gI c a ≤ gI c p
theorem EqS.start (h : a < b) (hb : b ≤ l.length) (hp : a ≤ p ∧ p < b) (hall : ∀ q, a ≤ q → q < b → gI l p ≤ gI l q) : EqS (swapI l a p) a b (a + 1) (b - 1) := ⟨Nat.le_refl _, by omega, by omega, fun p h1 h2 => by omega, fun q h1 h2 => by
  have e : gI (swapI l a p) a = gI l p := by
    rw [swapI_at (by omega) (by omega), if_pos rfl]; split
    · rename_i e; rw [← e]
    · rfl
  rw [e, swapI_at (by omega) (by omega)]
  split
  · exact hall a (by omega) (by omega)
  · split
    · exact Int.le_refl _
    · exact hall q h1 h2⟩
theorem EqS.up (h : EqS c a b i j) (hij : i ≤ j) (hl : ¬ gI c a < gI c i) : EqS c a b (i + 1) j := ⟨by have := h.lo; omega, h.hi, by omega, fun p h1 h2 => by
  by_cases e : p = i
  · subst e; omega
  · exact h.less p h1 (by omega), h.all⟩
theorem EqS.down (h : EqS c a b i j) (hij : i ≤ j) : EqS c a b i (j - 1) := ⟨h.lo, by have := h.hi; omega, by have := h.lo; omega, h.less, h.all⟩
theorem EqS.swap (h : EqS c a b i j) (hb : b ≤ c.length) (hij : i ≤ j) (h1 : gI c a < gI c i) (h2 : ¬ gI c a < gI c j) : EqS (swapI c i j) a b (i + 1) (j - 1) := by
  have q1 := h.lo; have q2 := h.hi
  have hne : i ≠ j := fun e => h2 (e ▸ h1)
  have e : gI (swapI c i j) a = gI c a := by rw [swapI_at (by omega) (by omega), if_neg (show ¬ a = j by omega), if_neg (show ¬ a = i by omega)]
  refine ⟨by omega, by omega, by omega, fun p h3 h4 => ?_, fun p h3 h4 => ?_⟩
  · rw [e, swapI_at (by omega) (by omega), if_neg (show ¬ p = j by omega)]
    by_cases e : p = i
    · rw [if_pos e]; omega
    · rw [if_neg e]; exact h.less p h3 (by omega)
  · rw [e, swapI_at (by omega) (by omega)]
    split
    · exact Int.le_of_lt h1
    · split
      · exact h.all j (by omega) (by omega)
      · exact h.all p h3 h4
theorem EqS.done (h : EqS c a b i j) (hij : ¬ i ≤ j) : EqI c a b i := by
  have q1 := h.lo; have q2 := h.hi; have q3 := h.ij
  refine ⟨by omega, by omega, fun p q h1 h2 h3 h4 => ?_⟩
  have h5 : gI c p ≤ gI c a := by
    by_cases e : p = a
    · subst e; exact Int.le_refl _
    · exact h.less p (by omega) h2
  exact Int.le_trans h5 (h.all q h3 h4)
end
section
open Go.Sort
variable {l c d : List Int} {a b i j p q m hi first root : Nat} {t : Array Int}
theorem gI_arr (l : List Int) (i : Nat) : l.toArray[i]! = gI l i := by
  unfold gI
  rw [List.getElem!_toArray, List.getD_eq_getElem?_getD, List.getElem!_eq_getElem?_getD]; rfl
theorem swapI_arr (hi : i < l.length) (hj : j < l.length) : (swapI l i j).toArray = swp l.toArray i j := by
  unfold swp swapI
  rw [gI_arr, gI_arr]; simp
theorem SameI.of (hb : b ≤ l.length) (hab : a ≤ b) (h : PermIn a b l.toArray c.toArray) : SameI l c a b := by
  obtain ⟨h1, h2, h3⟩ := h
  have hl : c.length = l.length := by simpa using h1
  have ho : ∀ p, p < a ∨ b ≤ p → gI c p = gI l p := fun p hp => by rw [← gI_arr, ← gI_arr]; exact h2 p hp
  refine ⟨?_, ho⟩
  rw [cut_eqI hab c, cut_eqI hab l, take_eqI hl (fun p hp => ho p (.inl hp)), drop_eqI hl (fun p hp => ho p (.inr hp)), List.perm_append_left_iff, List.perm_append_right_iff]
  simpa [List.extract_eq_take_drop] using h3
theorem swoI : SWO ltInt := ⟨fun x => by simp [ltInt], fun x y z h1 h2 => by simp only [ltInt, decide_eq_true_eq] at *; omega, fun x y z h1 h2 => by simp only [ltInt, decide_eq_false_iff_not] at *; omega⟩
theorem heapI_done (hab : a ≤ b) (hb : b ≤ l.length) (h : c.toArray = heapSort ltInt l.toArray a b) : SameI l c a b ∧ OrdI c a b := by
  obtain ⟨h1, h2⟩ := heapSort_holds swoI l.toArray a b hab (by simpa using hb)
  rw [← h] at h1 h2
  refine ⟨SameI.of hb hab h1, ⟨fun p q q1 q2 q3 => ?_⟩⟩
  have := h2 p q q1 q2 q3
  rw [gI_arr, gI_arr] at this
  simp only [ltInt, decide_eq_false_iff_not] at this; omega
structure SiftI (t : Array Int) (hi first root : Nat) (c : List Int) : Prop where
  eq : siftDown ltInt hi first root c.toArray = t
  len : first + hi ≤ c.length
theorem SiftI.stop (h : SiftI t hi first root c) (h1 : hi ≤ 2 * root + 1) : c.toArray = t := by
  have := h.eq; unfold siftDown at this; rw [dif_pos (show 2 * root + 1 ≥ hi by omega)] at this; exact this
theorem SiftI.two (h : SiftI t hi first root c) (h1 : 2 * root + 2 < hi) (h2 : gI c (first + (2 * root + 1)) < gI c (first + (2 * root + 2))) : (¬ gI c (first + root) < gI c (first + (2 * root + 2)) → c.toArray = t) ∧ (gI c (first + root) < gI c (first + (2 * root + 2)) → SiftI t hi first (2 * root + 2) (swapI c (first + root) (first + (2 * root + 2)))) := by
  have e := h.eq; have hl := h.len
  unfold siftDown at e
  rw [dif_neg (show ¬ 2 * root + 1 ≥ hi by omega), gI_arr, Nat.add_assoc first (2 * root + 1) 1, gI_arr, gI_arr] at e
  rw [if_pos (by simp only [ltInt, Bool.and_eq_true, decide_eq_true_eq]; exact ⟨by omega, h2⟩)] at e
  refine ⟨fun q => ?_, fun q => ⟨?_, by rw [swapI_len]; exact hl⟩⟩
  · rw [if_pos (by simp only [ltInt, gI_arr]; simpa using q)] at e; exact e
  · rw [if_neg (by simp only [ltInt, gI_arr]; simpa using q), dif_pos h1] at e
    rw [swapI_arr (by omega) (by omega)]; exact e
theorem SiftI.one (h : SiftI t hi first root c) (h0 : 2 * root + 1 < hi) (h1 : ¬ (2 * root + 2 < hi ∧ gI c (first + (2 * root + 1)) < gI c (first + (2 * root + 2)))) : (¬ gI c (first + root) < gI c (first + (2 * root + 1)) → c.toArray = t) ∧ (gI c (first + root) < gI c (first + (2 * root + 1)) → SiftI t hi first (2 * root + 1) (swapI c (first + root) (first + (2 * root + 1)))) := by
  have e := h.eq; have hl := h.len
  unfold siftDown at e
  rw [dif_neg (show ¬ 2 * root + 1 ≥ hi by omega), gI_arr, Nat.add_assoc first (2 * root + 1) 1, gI_arr, gI_arr] at e
  rw [if_neg (by simp only [ltInt, Bool.and_eq_true, decide_eq_true_eq]; intro q; exact h1 ⟨by omega, q.2⟩)] at e
  refine ⟨fun q => ?_, fun q => ⟨?_, by rw [swapI_len]; exact hl⟩⟩
  · rw [if_pos (by simp only [ltInt, gI_arr]; simpa using q)] at e; exact e
  · rw [if_neg (by simp only [ltInt, gI_arr]; simpa using q)] at e
    rw [swapI_arr (by omega) (by omega)]; exact e
structure HeapB (l : List Int) (a b k : Nat) (c : List Int) : Prop where
  eq : heapPop ltInt a (b - a) (heapBuild ltInt (b - a) a k c.toArray) = heapSort ltInt l.toArray a b
  len : c.length = l.length
structure HeapP (l : List Int) (a b k : Nat) (c : List Int) : Prop where
  eq : heapPop ltInt a k c.toArray = heapSort ltInt l.toArray a b
  len : c.length = l.length
theorem HeapB.start : HeapB l a b ((b - a - 1) / 2 + 1) l := ⟨rfl, rfl⟩
theorem HeapB.next {k : Nat} (h : HeapB l a b (k + 1) c) (hd : d.length = c.length ∧ d.toArray = siftDown ltInt (b - a) a k c.toArray) : HeapB l a b k d := ⟨by rw [hd.2]; exact h.eq, hd.1.trans h.len⟩
theorem HeapB.pop (h : HeapB l a b 0 c) : HeapP l a b (b - a) c := ⟨h.eq, h.len⟩
theorem HeapP.next {k : Nat} (h : HeapP l a b (k + 1) c) (hk : a + k < l.length) (hd : d.length = (swapI c a (a + k)).length ∧ d.toArray = siftDown ltInt k a 0 (swapI c a (a + k)).toArray) : HeapP l a b k d := ⟨by rw [hd.2, swapI_arr (by rw [h.len]; omega) (by rw [h.len]; omega)]; exact h.eq, by rw [hd.1, swapI_len]; exact h.len⟩
theorem HeapP.done (h : HeapP l a b 0 c) (hab : a ≤ b) (hb : b ≤ l.length) : SameI l c a b ∧ OrdI c a b := heapI_done hab hb h.eq
end
section
open Go.Sort
variable {l c d : List Int} {a b i j p q m hi first : Nat} {root : Int} {t : Array Int}
structure SiftZ (t : Array Int) (hi first : Nat) (root : Int) (c : List Int) : Prop where
  lo : 0 ≤ root ∧ root ≤ hi
  sift : SiftI t hi first root.toNat c
theorem SiftZ.len (h : SiftZ t hi first root c) : first + hi ≤ c.length := h.sift.len
theorem SiftZ.start {r : Nat} (hr : r ≤ hi) (h : first + hi ≤ c.length) : SiftZ (siftDown ltInt hi first r c.toArray) hi first (r : Int) c := ⟨by omega, ⟨by rw [Int.toNat_natCast], h⟩⟩
theorem SiftZ.stop (h : SiftZ t hi first root c) (h1 : (hi : Int) ≤ 2 * root + 1) : c.toArray = t := h.sift.stop (by have := h.lo; omega)
theorem SiftZ.two (h : SiftZ t hi first root c) (h1 : 2 * root + 1 + 1 < (hi : Int)) (h2 : gI c (first + (2 * root + 1)).toNat < gI c (first + (2 * root + 1) + 1).toNat) : (¬ gI c (first + root).toNat < gI c (first + (2 * root + 1 + 1)).toNat → c.toArray = t) ∧ (gI c (first + root).toNat < gI c (first + (2 * root + 1 + 1)).toNat → SiftZ t hi first (2 * root + 1 + 1) (swapI c (first + root).toNat (first + (2 * root + 1 + 1)).toNat)) := by
  have h0 := h.lo
  have e1 : ((first : Int) + (2 * root + 1)).toNat = first + (2 * root.toNat + 1) := by omega
  have e2 : ((first : Int) + (2 * root + 1) + 1).toNat = first + (2 * root.toNat + 2) := by omega
  have e3 : ((first : Int) + (2 * root + 1 + 1)).toNat = first + (2 * root.toNat + 2) := by omega
  have e4 : ((first : Int) + root).toNat = first + root.toNat := by omega
  rw [e1, e2] at h2
  rw [e3, e4]
  obtain ⟨q1, q2⟩ := h.sift.two (by omega) h2
  refine ⟨q1, fun q => ⟨by omega, ?_⟩⟩
  rw [show (2 * root + 1 + 1).toNat = 2 * root.toNat + 2 by omega]; exact q2 q
theorem SiftZ.one (h : SiftZ t hi first root c) (h0 : 2 * root + 1 < (hi : Int)) (h1 : ¬ (2 * root + 1 + 1 < (hi : Int) ∧ gI c (first + (2 * root + 1)).toNat < gI c (first + (2 * root + 1) + 1).toNat)) : (¬ gI c (first + root).toNat < gI c (first + (2 * root + 1)).toNat → c.toArray = t) ∧ (gI c (first + root).toNat < gI c (first + (2 * root + 1)).toNat → SiftZ t hi first (2 * root + 1) (swapI c (first + root).toNat (first + (2 * root + 1)).toNat)) := by
  have hl := h.lo
  have e1 : ((first : Int) + (2 * root + 1)).toNat = first + (2 * root.toNat + 1) := by omega
  have e2 : ((first : Int) + (2 * root + 1) + 1).toNat = first + (2 * root.toNat + 2) := by omega
  have e4 : ((first : Int) + root).toNat = first + root.toNat := by omega
  rw [e1, e2] at h1
  rw [e1, e4]
  obtain ⟨q1, q2⟩ := h.sift.one (by omega) (fun q => h1 ⟨by omega, q.2⟩)
  refine ⟨q1, fun q => ⟨by omega, ?_⟩⟩
  rw [show (2 * root + 1).toNat = 2 * root.toNat + 1 by omega]; exact q2 q
end
theorem gD (l : List Int) (i : Nat) : l.getD i encU.d = gI l i := rfl
theorem sw_eq (l : List Int) (i j : Nat) : (l.set i (gI l j)).set j (gI l i) = swapI l i j := rfl
set_option maxHeartbeats 4000000 in
theorem partU_z (E : Nat → Addr) (l : List Int) (n k a b pv : Nat) (h : n = l.length ∧ a < b ∧ b ≤ l.length ∧ (a ≤ pv ∧ pv < b) ∧ l.length ≤ 1000000) : Does (Gm E) 175 ⟨[.sl 0 n k, .int .i64 ((a : Nat) : Int), .int .i64 ((b : Nat) : Int), .int .i64 ((pv : Nat) : Int)], [(0, .arr Int encU 56 l k)], 1, 1, (Nat × List Int × Bool), fun c => (SameI l c.2.1 a b ∧ PartI c.2.1 a b c.1), fun c => .tup [.int .i64 ((c.1 : Nat) : Int), .bl c.2.2], fun c => [(0, .arr Int encU 56 c.2.1 k)]⟩ := by
  obtain ⟨rfl, hab, hb, hp, hm⟩ := h
  refine fn_intro (gmOk E) 168 1 [5, 7, 15, 17] Tryz.func175 rfl rfl rfl rfl rfl ?_
  repeat' first | exact placedPr_ok | (change DrawGoal _ _ _ _ _ _; first | (change DrawGoal _ _ _ [_, _, _, _, _, _, _, _, _, _, _, _, _, _, _, _] _ _; refine draw_weak (gmOk E) 0 [] (.alt [(0, true), (1, true), (2, true), (3, true), (4, true), (5, true), (6, true), (8, true), (9, true), (10, true)] (.leaf [(7, false), (11, false), (12, true), (13, false), (14, true), (15, false)]) (.leaf [(11, false), (7, false), (12, true), (13, false), (14, true), (15, false)])) (by kernel_rfl) rfl ?_ ?_) | (change DrawGoal _ _ _ [_, _, _, _, _, _, _, _, _, _, _, _, _, _, _, _] _ _; refine draw_weak (gmOk E) 0 [] (.alt [(0, true), (1, true), (2, true), (3, true), (4, true), (5, true), (6, true), (8, true), (9, true), (10, true)] (.leaf [(7, false), (11, false), (12, true), (13, false), (14, true), (15, false)]) (.leaf [(11, false), (7, false), (12, true), (13, false), (14, true), (15, false)])) (by kernel_rfl) rfl ?_ ?_) | (change DrawGoal _ _ _ [_, _, _, _, _, _, _, _, _, _, _, _, _, _, _, _] _ _; refine draw_weak (gmOk E) 0 [] (.alt [(0, true), (1, true), (2, true), (3, true), (4, true), (5, true), (6, true), (8, true), (9, true), (10, true)] (.leaf [(7, false), (11, false), (12, true), (13, false), (14, true), (15, false)]) (.leaf [(11, false), (7, false), (12, true), (13, false), (14, true), (15, false)])) (by kernel_rfl) rfl ?_ ?_) | (change DrawGoal _ _ _ [_, _, _, _, _, _, _, _, _, _, _, _, _, _, _, _] _ _; refine draw_weak (gmOk E) 0 [] (.alt [(0, true), (1, true), (2, true), (3, true), (4, true), (5, true), (6, true), (8, true), (9, true), (10, true)] (.leaf [(7, false), (11, false), (12, true), (13, false), (14, true), (15, false)]) (.leaf [(11, false), (7, false), (12, true), (13, false), (14, true), (15, false)])) (by kernel_rfl) rfl ?_ ?_) | (change DrawGoal _ _ _ [_, _, _, _, _, _, _, _, _, _, _, _, _, _, _, _] _ _; refine draw_weak (gmOk E) 0 [] (.alt [(0, true), (1, true), (2, true), (3, true), (4, true), (5, true), (6, true), (8, true), (9, true), (10, true)] (.leaf [(7, false), (11, false), (12, true), (13, false), (14, true), (15, false)]) (.leaf [(11, false), (7, false), (12, true), (13, false), (14, true), (15, false)])) (by kernel_rfl) rfl ?_ ?_)) | with_reducible rfl | (intro h; first | (exfalso; omega; done) | skip) | (refine And.intro ?_ ?_) | exact True.intro | (refine @Exists.intro Unit _ () ?_) | (refine @Exists.intro (_ = _) _ rfl ?_) | (refine @Exists.intro (Nat × List Int × Bool) _ (?_, ?_, ?_) ?_; rotate_left 3) | (change NextGoal _ _ _; refine next_go ?_) | (change LoopGoal _ _ _ _ _ _; refine loop_keep 3 [0, 1, 8, 9, 11] (gmOk E) rfl [5, 7, 15, 17] (X := (Nat × Unit)) (fun y => [(10, .int .i64 ((y.1 : Nat) : Int))]) (fun y => []) [] (fun y => ScanI (swapI l a pv) a b y.1 (b - 1)) (fun y => b - y.1) ⟨(a + 1, ()), ?_⟩ (fun y hJ => ?_)) | (change @Exists ((Nat × Unit)) (fun _ => updPK _ _ _ _ _ _); refine @Exists.intro ((Nat × Unit)) _ ((y.1 + 1, ())) ?_) | (change LoopGoal _ _ _ _ _ _; refine loop_keep 5 [0, 1, 8, 9, 10] (gmOk E) rfl [5, 7, 15, 17] (X := (Nat × Unit × Unit)) (fun z => [(11, .int .i64 ((z.1 : Nat) : Int))]) (fun z => []) [] (fun z => ScanI (swapI l a pv) a b j1.1 z.1 ∧ (j1.1 ≤ b - 1 → ¬ gI (swapI l a pv) j1.1 < gI (swapI l a pv) a) ∧ z.1 ≤ b - 1) (fun z => z.1) ⟨(b - 1, (), ()), ?_⟩ (fun z hK => ?_)) | (change @Exists ((Nat × Unit × Unit)) (fun _ => updPK _ _ _ _ _ _); refine @Exists.intro ((Nat × Unit × Unit)) _ ((z.1 - 1, (), ())) ?_) | (change LoopGoal _ _ _ _ _ _; (fail_if_success (have _ := hI)); change LoopGoal _ _ _ _ _ _; refine loop_keep 13 [0, 1, 8, 9, 11] (gmOk E) rfl [5, 7, 15, 17] (X := (Nat × Nat × List Int)) (fun x => [(10, .int .i64 ((x.1 : Nat) : Int)), (11, .int .i64 ((x.2.1 : Nat) : Int))]) (fun x => [(0, .arr Int encU 56 x.2.2 k)]) [] (fun x => ScanI x.2.2 a b x.1 x.2.1 ∧ SameI (swapI l a pv) x.2.2 (a + 1) b) (fun x => x.2.1 + 1 - x.1) ⟨(j2.1 + 1, j2.2.1 - 1, swapI (swapI l a pv) j2.1 j2.2.1), ?_⟩ (fun x hI => ?_)) | (change @Exists ((Nat × Nat × List Int)) (fun _ => updPK _ _ _ _ _ _); refine @Exists.intro ((Nat × Nat × List Int)) _ ((j4.1 + 1, j4.2.1 - 1, swapI x.2.2 j4.1 j4.2.1)) ?_) | (change LoopGoal _ _ _ _ _ _; refine loop_keep 13 [0, 1, 8, 9, 11] (gmOk E) rfl [5, 7, 15, 17] (X := (Nat × Unit × Unit × Unit)) (fun u => [(10, .int .i64 ((u.1 : Nat) : Int))]) (fun u => []) [] (fun u => ScanI x.2.2 a b u.1 x.2.1 ∧ x.1 ≤ u.1) (fun u => b - u.1) ⟨(x.1, (), (), ()), ?_⟩ (fun u hU => ?_)) | (change @Exists ((Nat × Unit × Unit × Unit)) (fun _ => updPK _ _ _ _ _ _); refine @Exists.intro ((Nat × Unit × Unit × Unit)) _ ((u.1 + 1, (), (), ())) ?_) | (change LoopGoal _ _ _ _ _ _; refine loop_keep 15 [0, 1, 8, 9, 10, 112] (gmOk E) rfl [5, 7, 15, 17] (X := (Nat × Unit × Unit × Unit × Unit)) (fun v => [(11, .int .i64 ((v.1 : Nat) : Int))]) (fun v => []) [] (fun v => ScanI x.2.2 a b j3.1 v.1 ∧ (j3.1 ≤ x.2.1 → ¬ gI x.2.2 j3.1 < gI x.2.2 a) ∧ x.1 ≤ j3.1 ∧ v.1 ≤ x.2.1) (fun v => v.1) ⟨(x.2.1, (), (), (), ()), ?_⟩ (fun v hV => ?_)) | (change @Exists ((Nat × Unit × Unit × Unit × Unit)) (fun _ => updPK _ _ _ _ _ _); refine @Exists.intro ((Nat × Unit × Unit × Unit × Unit)) _ ((v.1 - 1, (), (), (), ())) ?_) | (change JoinGoal _ _ _ _ _ _ _ _; refine join_keep 5 [0, 1, 8, 9, 11] (gmOk E) rfl (X := (Nat × Fin 1)) (fun j1 => [(10, .int .i64 ((j1.1 : Nat) : Int))]) (fun j1 => [(0, .arr Int encU 56 (swapI l a pv) k)]) [] (fun j1 => ScanI (swapI l a pv) a b j1.1 (b - 1) ∧ (j1.1 ≤ b - 1 → ¬ gI (swapI l a pv) j1.1 < gI (swapI l a pv) a)) ?_ (fun j1 hj1 => ?_)) | (change @Exists ((Nat × Fin 1)) (fun _ => updPK _ _ _ _ _ _); refine @Exists.intro ((Nat × Fin 1)) _ ((y.1, 0)) ?_) | (change JoinGoal _ _ _ _ _ _ _ _; refine join_keep 7 [0, 1, 8, 9, 10] (gmOk E) rfl (X := (Nat × Nat × Fin 1)) (fun j2 => [(10, .int .i64 ((j2.1 : Nat) : Int)), (11, .int .i64 ((j2.2.1 : Nat) : Int))]) (fun j2 => []) [] (fun j2 => ScanI (swapI l a pv) a b j2.1 j2.2.1 ∧ (j2.1 ≤ j2.2.1 → ¬ gI (swapI l a pv) j2.1 < gI (swapI l a pv) a ∧ gI (swapI l a pv) j2.2.1 < gI (swapI l a pv) a)) ?_ (fun j2 hj2 => ?_)) | (change @Exists ((Nat × Nat × Fin 1)) (fun _ => updPK _ _ _ _ _ _); refine @Exists.intro ((Nat × Nat × Fin 1)) _ ((j1.1, z.1, 0)) ?_) | (change JoinGoal _ _ _ _ _ _ _ _; refine join_keep 15 [0, 1, 8, 9, 11] (gmOk E) rfl (X := (Nat × Fin 2)) (fun j3 => [(10, .int .i64 ((j3.1 : Nat) : Int))]) (fun j3 => []) [] (fun j3 => ScanI x.2.2 a b j3.1 x.2.1 ∧ x.1 ≤ j3.1 ∧ (j3.1 ≤ x.2.1 → ¬ gI x.2.2 j3.1 < gI x.2.2 a)) ?_ (fun j3 hj3 => ?_)) | (change @Exists ((Nat × Fin 2)) (fun _ => updPK _ _ _ _ _ _); refine @Exists.intro ((Nat × Fin 2)) _ ((u.1, 0)) ?_) | (change JoinGoal _ _ _ _ _ _ _ _; refine join_keep 17 [0, 1, 8, 9, 10, 112] (gmOk E) rfl (X := (Nat × Nat × Fin 2)) (fun j4 => [(10, .int .i64 ((j4.1 : Nat) : Int)), (11, .int .i64 ((j4.2.1 : Nat) : Int))]) (fun j4 => []) [] (fun j4 => ScanI x.2.2 a b j4.1 j4.2.1 ∧ (x.1 ≤ j4.1 ∧ j4.2.1 ≤ x.2.1) ∧ (j4.1 ≤ j4.2.1 → ¬ gI x.2.2 j4.1 < gI x.2.2 a ∧ gI x.2.2 j4.2.1 < gI x.2.2 a)) ?_ (fun j4 hj4 => ?_)) | (change @Exists ((Nat × Nat × Fin 2)) (fun _ => updPK _ _ _ _ _ _); refine @Exists.intro ((Nat × Nat × Fin 2)) _ ((j3.1, v.1, 0)) ?_) | (change DrawGoal _ _ _ _ _ _; first | (change DrawGoal _ _ _ ({ dst := some 30, op := _, type := _, pos := _, after := _, guard := _ } :: _) _ _; refine draw_tree (gmOk E) [0] (.leaf [(0, true), (1, true), (2, true), (3, true), (4, true), (5, true), (6, true), (7, true), (8, true), (9, true), (10, true), (11, true), (12, false), (13, true)]) (by kernel_rfl) ?_) | (change DrawGoal _ _ _ ({ dst := some 46, op := _, type := _, pos := _, after := _, guard := _ } :: _) _ _; refine draw_tree (gmOk E) [0] (.leaf [(0, true), (1, true), (2, true), (3, true), (4, true), (5, true), (6, true), (7, true), (8, true), (9, true), (10, true), (11, true), (12, false), (13, true), (14, true)]) (by kernel_rfl) ?_) | (change DrawGoal _ _ _ ({ dst := some 99, op := _, type := _, pos := _, after := _, guard := _ } :: _) _ _; refine draw_tree (gmOk E) [0] (.leaf [(0, true), (1, true), (2, true), (3, true), (4, true), (5, true), (6, true), (7, true), (8, true), (9, true), (10, true), (11, true), (12, false), (13, true)]) (by kernel_rfl) ?_) | (change DrawGoal _ _ _ ({ dst := some 115, op := _, type := _, pos := _, after := _, guard := _ } :: _) _ _; refine draw_tree (gmOk E) [0] (.leaf [(0, true), (1, true), (2, true), (3, true), (4, true), (5, true), (6, true), (7, true), (8, true), (9, true), (10, true), (11, true), (12, false), (13, true), (14, true)]) (by kernel_rfl) ?_)) | (change CallGoal _ _ _ _ _ _; first | (refine call0 (lessU_z E _ _) [] rfl True.intro rfl ?_))
  all_goals skip
  all_goals first | (dsimp only; rfl) | rfl | skip
  all_goals try ((try dsimp only at *); (try simp only [Int.toNat_natCast, gD, sw_eq, List.length_set, swapI_len] at *))
  all_goals (try have a0 := hj1.1.lo); (try have b0 := hj1.1.hi); (try have d0 := hj1.1.ij); (try have a1 := hj2.1.lo); (try have b1 := hj2.1.hi); (try have d1 := hj2.1.ij); (try have a2 := hI.1.lo); (try have b2 := hI.1.hi); (try have d2 := hI.1.ij); (try have a3 := hj3.1.lo); (try have b3 := hj3.1.hi); (try have d3 := hj3.1.ij); (try have a4 := hj4.1.lo); (try have b4 := hj4.1.hi); (try have d4 := hj4.1.ij); (try have a5 := hU.1.lo); (try have b5 := hU.1.hi); (try have d5 := hU.1.ij); (try have a6 := hV.1.lo); (try have b6 := hV.1.hi); (try have d6 := hV.1.ij); (try have a7 := hJ.lo); (try have b7 := hJ.hi); (try have d7 := hJ.ij); (try have a8 := hK.1.lo); (try have b8 := hK.1.hi); (try have d8 := hK.1.ij); (have e0 : (swapI l a pv).length = l.length := swapI_len); (try have e1 := hI.2.len); (try rw [swapI_len] at e1); first | done | omega | (constructor <;> omega) | assumption | exact ScanI.start hab | exact hj1.1 | exact hj1.2 | exact hj2.1 | exact hj3.1 | exact hj4.1 | exact hI.1 | exact hI.2 | exact hJ.up (by omega) (by omega) | exact hK.1.down (by omega) (by omega) | exact hU.1.up (by omega) (by omega) | exact hV.1.down (by omega) (by omega) | exact hU.1 | exact hV.1 | exact hJ | exact hK.1 | exact hj4.1.swap (by omega) (by omega) (hj4.2.2 (by omega)).1 (hj4.2.2 (by omega)).2 | exact hj2.1.swap (by omega) (by omega) (hj2.2 (by omega)).1 (hj2.2 (by omega)).2 | exact hI.2.swap ⟨by omega, by omega⟩ ⟨by omega, by omega⟩ (by omega) | exact (SameI.refl _ _ _).swap ⟨by omega, by omega⟩ ⟨by omega, by omega⟩ (by omega) | exact hj4.1.done (by omega) (by omega) | exact hj2.1.done (by omega) (by omega) | exact ((SameI.refl _ _ _).swap ⟨by omega, by omega⟩ ⟨by omega, by omega⟩ (by omega)).swap ⟨by omega, by omega⟩ ⟨by omega, by omega⟩ (by omega) | exact (((SameI.refl l a b).swap ⟨by omega, by omega⟩ ⟨by omega, by omega⟩ (by omega)).trans (hI.2.mono (by omega) (by omega))).swap ⟨by omega, by omega⟩ ⟨by omega, by omega⟩ (by omega)
set_option maxHeartbeats 4000000 in
theorem parteU_z (E : Nat → Addr) (l : List Int) (n k a b pv : Nat) (h : n = l.length ∧ a < b ∧ b ≤ l.length ∧ (a ≤ pv ∧ pv < b) ∧ l.length ≤ 1000000 ∧ ∀ q, a ≤ q → q < b → gI l pv ≤ gI l q) : Does (Gm E) 174 ⟨[.sl 0 n k, .int .i64 ((a : Nat) : Int), .int .i64 ((b : Nat) : Int), .int .i64 ((pv : Nat) : Int)], [(0, .arr Int encU 56 l k)], 1, 1, (Nat × List Int), fun c => (SameI l c.2 a b ∧ EqI c.2 a b c.1), fun c => .int .i64 ((c.1 : Nat) : Int), fun c => [(0, .arr Int encU 56 c.2 k)]⟩ := by
  obtain ⟨rfl, hab, hb, hp, hm, hall⟩ := h
  refine fn_intro (gmOk E) 84 1 [5, 7] Tryz.func174 rfl rfl rfl rfl rfl ?_
  repeat' first | exact placedPr_ok | (change DrawGoal _ _ _ _ _ _; first | (change DrawGoal _ _ _ [_, _, _, _, _, _, _, _, _, _, _, _, _, _, _, _] _ _; refine draw_weak (gmOk E) 0 [] (.alt [(0, true), (1, true), (2, true), (3, true), (4, true), (5, true), (6, true), (8, true), (9, true), (10, true)] (.leaf [(7, false), (11, false), (12, true), (13, false), (14, true), (15, false)]) (.leaf [(11, false), (7, false), (12, true), (13, false), (14, true), (15, false)])) (by kernel_rfl) rfl ?_ ?_) | (change DrawGoal _ _ _ [_, _, _, _, _, _, _, _, _, _, _, _, _, _, _, _] _ _; refine draw_weak (gmOk E) 0 [] (.alt [(0, true), (1, true), (2, true), (3, true), (4, true), (5, true), (6, true), (8, true), (9, true), (10, true)] (.leaf [(7, false), (11, false), (12, true), (13, false), (14, true), (15, false)]) (.leaf [(11, false), (7, false), (12, true), (13, false), (14, true), (15, false)])) (by kernel_rfl) rfl ?_ ?_)) | with_reducible rfl | (intro h; first | (exfalso; omega; done) | skip) | (refine And.intro ?_ ?_) | exact True.intro | (refine @Exists.intro Unit _ () ?_) | (refine @Exists.intro (_ = _) _ rfl ?_) | (refine @Exists.intro (Nat × List Int) _ (?_, ?_) ?_; rotate_left 2) | (change NextGoal _ _ _; refine next_go ?_) | (change LoopGoal _ _ _ _ _ _; (fail_if_success (have _ := hI)); change LoopGoal _ _ _ _ _ _; refine loop_keep 3 [0, 1, 8, 10] (gmOk E) rfl [5, 7] (X := (Nat × Nat × List Int)) (fun x => [(9, .int .i64 ((x.1 : Nat) : Int)), (10, .int .i64 ((x.2.1 : Nat) : Int))]) (fun x => [(0, .arr Int encU 56 x.2.2 k)]) [] (fun x => EqS x.2.2 a b x.1 x.2.1 ∧ SameI (swapI l a pv) x.2.2 (a + 1) b) (fun x => x.2.1 + 1 - x.1) ⟨(a + 1, b - 1, (swapI l a pv)), ?_⟩ (fun x hI => ?_)) | (change @Exists ((Nat × Nat × List Int)) (fun _ => updPK _ _ _ _ _ _); refine @Exists.intro ((Nat × Nat × List Int)) _ ((j4.1 + 1, j4.2.1 - 1, swapI x.2.2 j4.1 j4.2.1)) ?_) | (change LoopGoal _ _ _ _ _ _; refine loop_keep 3 [0, 1, 8, 10] (gmOk E) rfl [5, 7] (X := (Nat × Unit)) (fun u => [(9, .int .i64 ((u.1 : Nat) : Int))]) (fun u => []) [] (fun u => EqS x.2.2 a b u.1 x.2.1 ∧ x.1 ≤ u.1) (fun u => b - u.1) ⟨(x.1, ()), ?_⟩ (fun u hU => ?_)) | (change @Exists ((Nat × Unit)) (fun _ => updPK _ _ _ _ _ _); refine @Exists.intro ((Nat × Unit)) _ ((u.1 + 1, ())) ?_) | (change LoopGoal _ _ _ _ _ _; refine loop_keep 5 [0, 1, 8, 9, 43] (gmOk E) rfl [5, 7] (X := (Nat × Unit × Unit)) (fun v => [(10, .int .i64 ((v.1 : Nat) : Int))]) (fun v => []) [] (fun v => EqS x.2.2 a b j3.1 v.1 ∧ (j3.1 ≤ x.2.1 → gI x.2.2 a < gI x.2.2 j3.1) ∧ x.1 ≤ j3.1 ∧ v.1 ≤ x.2.1) (fun v => v.1) ⟨(x.2.1, (), ()), ?_⟩ (fun v hV => ?_)) | (change @Exists ((Nat × Unit × Unit)) (fun _ => updPK _ _ _ _ _ _); refine @Exists.intro ((Nat × Unit × Unit)) _ ((v.1 - 1, (), ())) ?_) | (change JoinGoal _ _ _ _ _ _ _ _; refine join_keep 5 [0, 1, 8, 10] (gmOk E) rfl (X := (Nat × Fin 2)) (fun j3 => [(9, .int .i64 ((j3.1 : Nat) : Int))]) (fun j3 => []) [] (fun j3 => EqS x.2.2 a b j3.1 x.2.1 ∧ x.1 ≤ j3.1 ∧ (j3.1 ≤ x.2.1 → gI x.2.2 a < gI x.2.2 j3.1)) ?_ (fun j3 hj3 => ?_)) | (change @Exists ((Nat × Fin 2)) (fun _ => updPK _ _ _ _ _ _); refine @Exists.intro ((Nat × Fin 2)) _ ((u.1, 0)) ?_) | (change JoinGoal _ _ _ _ _ _ _ _; refine join_keep 7 [0, 1, 8, 9, 43] (gmOk E) rfl (X := (Nat × Nat × Fin 2)) (fun j4 => [(9, .int .i64 ((j4.1 : Nat) : Int)), (10, .int .i64 ((j4.2.1 : Nat) : Int))]) (fun j4 => []) [] (fun j4 => EqS x.2.2 a b j4.1 j4.2.1 ∧ (x.1 ≤ j4.1 ∧ j4.2.1 ≤ x.2.1) ∧ (j4.1 ≤ j4.2.1 → gI x.2.2 a < gI x.2.2 j4.1 ∧ ¬ gI x.2.2 a < gI x.2.2 j4.2.1)) ?_ (fun j4 hj4 => ?_)) | (change @Exists ((Nat × Nat × Fin 2)) (fun _ => updPK _ _ _ _ _ _); refine @Exists.intro ((Nat × Nat × Fin 2)) _ ((j3.1, v.1, 0)) ?_) | (change DrawGoal _ _ _ _ _ _; first | (change DrawGoal _ _ _ ({ dst := some 29, op := _, type := _, pos := _, after := _, guard := _ } :: _) _ _; refine draw_tree (gmOk E) [0] (.leaf [(0, true), (1, true), (2, true), (3, true), (4, true), (5, true), (6, true), (7, true), (8, true), (9, true), (10, true), (11, true), (12, false), (13, true), (14, true)]) (by kernel_rfl) ?_) | (change DrawGoal _ _ _ ({ dst := some 46, op := _, type := _, pos := _, after := _, guard := _ } :: _) _ _; refine draw_tree (gmOk E) [0] (.leaf [(0, true), (1, true), (2, true), (3, true), (4, true), (5, true), (6, true), (7, true), (8, true), (9, true), (10, true), (11, true), (12, false), (13, true)]) (by kernel_rfl) ?_)) | (change CallGoal _ _ _ _ _ _; first | (refine call0 (lessU_z E _ _) [] rfl True.intro rfl ?_))
  all_goals skip
  all_goals first | (dsimp only; rfl) | rfl | skip
  all_goals try ((try dsimp only at *); (try simp only [Int.toNat_natCast, gD, sw_eq, List.length_set, swapI_len] at *))
  all_goals (try have ff0 := hI.1.lo); (try have ff1 := hI.1.hi); (try have ff2 := hI.1.ij); (try have ff3 := hj3.1.lo); (try have ff4 := hj3.1.hi); (try have ff5 := hj3.1.ij); (try have ff6 := hj4.1.lo); (try have ff7 := hj4.1.hi); (try have ff8 := hj4.1.ij); (try have ff9 := hU.1.lo); (try have ff10 := hU.1.hi); (try have ff11 := hU.1.ij); (try have ff12 := hV.1.lo); (try have ff13 := hV.1.hi); (try have ff14 := hV.1.ij); (try have ff15 := (show (swapI l a pv).length = l.length from swapI_len)); (try have ff16 := (show x.2.2.length = l.length from hI.2.len.trans swapI_len)); first | done | rfl | omega | (constructor <;> omega) | assumption | exact EqS.start hab hb hp hall | exact hI.1 | exact hI.2 | exact hj3.1 | exact hj3.2.2 | exact hj4.1 | exact hU.1 | exact hV.1 | exact hV.2.1 | exact hU.1.up (by omega) (by omega) | exact hV.1.down (by omega) | exact hj4.1.swap (by omega) (by omega) (hj4.2.2 (by omega)).1 (hj4.2.2 (by omega)).2 | exact hI.2.swap ⟨by omega, by omega⟩ ⟨by omega, by omega⟩ (by omega) | exact hj4.1.done (by omega) | exact ((SameI.refl l a b).swap ⟨by omega, by omega⟩ ⟨by omega, by omega⟩ (by omega)).trans (hI.2.mono (by omega) (by omega)) | exact SameI.refl _ _ _
theorem OrdI.up {c : List Int} {a i : Nat} (h : OrdI c a i) (hi : a + 1 ≤ i) (hl : ¬ gI c i < gI c (i - 1)) : OrdI c a (i + 1) := ⟨fun p q h1 h2 h3 => by
  by_cases e : q = i
  · subst e
    have h4 : gI c (q - 1) ≤ gI c q := by omega
    by_cases e2 : p = q - 1
    · subst e2; exact h4
    · exact Int.le_trans (h.le p (q - 1) h1 (by omega) (by omega)) h4
  · exact h.le p q h1 h2 (by omega)⟩
theorem pred_z {i a : Nat} (h : a + 1 ≤ i) : ((i : Int) - 1).toNat = i - 1 := by omega
set_option maxHeartbeats 4000000 in
theorem pinsU_z (E : Nat → Addr) (l : List Int) (n k a b : Nat) (h : n = l.length ∧ a < b ∧ b ≤ l.length ∧ b - a < 50 ∧ l.length ≤ 1000000) : Does (Gm E) 172 ⟨[.sl 0 n k, .int .i64 ((a : Nat) : Int), .int .i64 ((b : Nat) : Int)], [(0, .arr Int encU 56 l k)], 1, 1, Bool, fun c => c = true → OrdI l a b, fun c => .bl c, fun c => [(0, .arr Int encU 56 l k)]⟩ := by
  obtain ⟨rfl, hab, hb, hm, hl⟩ := h
  refine fn_intro (gmOk E) 133 1 [7] Tryz.func172 rfl rfl rfl rfl rfl ?_
  repeat' first | with_reducible rfl | (intro h; first | (exfalso; omega; done) | (exfalso; omega; done) | skip) | (refine And.intro ?_ ?_) | exact True.intro | (refine @Exists.intro Unit _ () ?_) | (refine @Exists.intro (_ = _) _ rfl ?_) | (change LoopGoal _ _ _ _ _ _; (fail_if_success (have : (0 : Int) < 5 := by assumption)); change LoopGoal _ _ _ _ _ _; refine loop_rounds (gmOk E) [7] 1 ?_) | (change NextGoal _ _ _; refine next_go ?_) | (change LoopGoal _ _ _ _ _ _; refine loop_keep 5 [0, 1, 2, 6, 8, 14] (gmOk E) rfl [7] (X := (Nat × Unit)) (fun y => [(7, .int .i64 ((y.1 : Nat) : Int))]) (fun y => []) [] (fun y => OrdI l a y.1 ∧ a + 1 ≤ y.1 ∧ y.1 ≤ b) (fun y => b - y.1) ⟨(a + 1, ()), ?_⟩ (fun y hI => ?_)) | (change @Exists ((Nat × Unit)) (fun _ => updPK _ _ _ _ _ _); refine @Exists.intro ((Nat × Unit)) _ ((y.1 + 1, ())) ?_) | (change JoinGoal _ _ _ _ _ _ _ _; refine join_keep 7 [0, 1, 2, 6, 8, 14] (gmOk E) rfl (X := (Nat × Fin 1)) (fun j1 => [(7, .int .i64 ((j1.1 : Nat) : Int))]) (fun j1 => []) [] (fun j1 => OrdI l a j1.1 ∧ a + 1 ≤ j1.1 ∧ j1.1 ≤ b) ?_ (fun j1 hj1 => ?_)) | (change @Exists ((Nat × Fin 1)) (fun _ => updPK _ _ _ _ _ _); refine @Exists.intro ((Nat × Fin 1)) _ ((y.1, 0)) ?_) | (change DrawGoal _ _ _ _ _ _; first | (change DrawGoal _ _ _ ({ dst := some 17, op := _, type := _, pos := _, after := _, guard := _ } :: _) _ _; refine draw_tree (gmOk E) [0] (.leaf [(0, true), (1, true), (2, true), (3, true), (4, true), (5, true), (6, true), (7, true), (8, true), (9, true), (10, true), (11, true), (12, true), (13, false), (14, true), (15, true)]) (by kernel_rfl) ?_)) | (refine @Exists.intro (Bool) _ ?_ ?_; rotate_left) | (change CallGoal _ _ _ _ _ _; first | (refine call0 (lessU_z E _ _) [] rfl True.intro rfl ?_))
  all_goals skip
  all_goals first | (dsimp only; rfl) | rfl | skip
  all_goals try ((try dsimp only at *); (try simp only [Int.toNat_natCast, gD, sw_eq, List.length_set, swapI_len] at *))
  all_goals (try have ff0 := hI.2.1); first | done | rfl | omega | (constructor <;> omega) | assumption | exact hI.1 | exact hj1.1 | exact OrdI.one _ _ | exact hI.1.up hI.2.1 (by rw [← pred_z hI.2.1]; omega) | exact fun h => nomatch h | exact (by rw [show b = j1.1 from by omega]; exact hj1.1) | exact (fun _ => by rw [show b = j1.1 from by omega]; exact hj1.1) | exact absurd h (by decide)
set_option maxHeartbeats 4000000 in
theorem ord2U_z (E : Nat → Addr) (l : List Int) (n k a b : Nat) (s : Int) (h : n = l.length ∧ a < l.length ∧ b < l.length ∧ l.length ≤ 1000000 ∧ 0 ≤ s ∧ s ≤ 100) : Does (Gm E) 195 ⟨[.sl 0 n k, .int .i64 ((a : Nat) : Int), .int .i64 ((b : Nat) : Int), .ptr 1 0], [(0, .arr Int encU 56 l k), (1, .cells 3 [.int .i64 s])], 2, 2, (Nat × Nat × Int), fun c => ((c.1 = a ∧ c.2.1 = b) ∨ (c.1 = b ∧ c.2.1 = a)) ∧ (c.2.2 = s ∨ c.2.2 = s + 1), fun c => .tup [.int .i64 ((c.1 : Nat) : Int), .int .i64 ((c.2.1 : Nat) : Int)], fun c => [(0, .arr Int encU 56 l k), (1, .cells 3 [.int .i64 c.2.2])]⟩ := by
  obtain ⟨rfl, ha, hb, hm, hs⟩ := h
  refine fn_intro (gmOk E) 28 2 [] Tryz.func195 rfl rfl rfl rfl rfl ?_
  repeat' first | with_reducible rfl | (intro h; first | (exfalso; omega; done) | skip) | (refine And.intro ?_ ?_) | exact True.intro | (refine @Exists.intro Unit _ () ?_) | (refine @Exists.intro (_ = _) _ rfl ?_) | (refine @Exists.intro (Nat × Nat × Int) _ (?_, ?_, ?_) ?_; rotate_left 3) | (change NextGoal _ _ _; refine next_go ?_) | (change DrawGoal _ _ _ _ _ _; first | (change DrawGoal _ _ _ ({ dst := some 10, op := _, type := _, pos := _, after := _, guard := _ } :: _) _ _; refine draw_tree (gmOk E) [0] (.leaf [(0, true), (1, true), (2, true), (3, true), (4, true), (5, true), (6, true), (7, true), (8, false)]) (by kernel_rfl) ?_)) | (change CallGoal _ _ _ _ _ _; first | (refine call0 (lessU_z E _ _) [] rfl True.intro rfl ?_))
  all_goals skip
  all_goals first | (dsimp only; rfl) | rfl | skip
  all_goals try ((try dsimp only at *); (try simp only [Int.toNat_natCast, gD, sw_eq, List.length_set, swapI_len] at *))
  all_goals first | done | rfl | omega | (constructor <;> omega) | assumption | exact .inl ⟨trivial, trivial⟩ | exact .inr ⟨trivial, trivial⟩ | exact .inl trivial | exact .inr trivial | exact .inl ⟨rfl, rfl⟩ | exact .inr ⟨rfl, rfl⟩ | exact .inl rfl | exact .inr rfl
set_option maxHeartbeats 4000000 in
theorem medU_z (E : Nat → Addr) (l : List Int) (n k a b c : Nat) (h : n = l.length ∧ a < l.length ∧ b < l.length ∧ c < l.length ∧ l.length ≤ 1000000) : Does (Gm E) 184 ⟨[.sl 0 n k, .int .i64 ((a : Nat) : Int), .int .i64 ((b : Nat) : Int), .int .i64 ((c : Nat) : Int), .ptr 1 0], [(0, .arr Int encU 56 l k), (1, .cells 3 [.int .i64 0])], 2, 2, (Nat × Int), fun y => (y.1 = a ∨ y.1 = b ∨ y.1 = c) ∧ (0 ≤ y.2 ∧ y.2 ≤ 10), fun y => .int .i64 ((y.1 : Nat) : Int), fun y => [(0, .arr Int encU 56 l k), (1, .cells 3 [.int .i64 y.2])]⟩ := by
  obtain ⟨rfl, ha, hb, hc, hm⟩ := h
  refine fn_intro (gmOk E) 36 2 [] Tryz.func184 rfl rfl rfl rfl rfl ?_
  repeat' first | (change CallGoal _ _ _ _ _ _; first | (have _ := h2; (refine call_rule (ord2U_z E l _ k (x1.1) (x2.1) (x2.2.2) ⟨rfl, by omega, by omega, by omega, by omega⟩) [0, 1] rfl (And.intro rfl (And.intro rfl True.intro)) rfl (fun (x3 : Nat × Nat × Int) h3 => ?_))) | (have _ := h1; (refine call_rule (ord2U_z E l _ k (x1.2.1) (c) (x1.2.2) ⟨rfl, by omega, by omega, by omega, by omega⟩) [0, 1] rfl (And.intro rfl (And.intro rfl True.intro)) rfl (fun (x2 : Nat × Nat × Int) h2 => ?_))) | (refine call_rule (ord2U_z E l _ k (a) (b) (0) ⟨rfl, by omega, by omega, by omega, by omega⟩) [0, 1] rfl (And.intro rfl (And.intro rfl True.intro)) rfl (fun (x1 : Nat × Nat × Int) h1 => ?_))) | with_reducible rfl | (intro h; first | (exfalso; omega; done) | skip) | (refine And.intro ?_ ?_) | exact True.intro | (refine @Exists.intro Unit _ () ?_) | (refine @Exists.intro (_ = _) _ rfl ?_) | (refine @Exists.intro (Nat × Int) _ (?_, ?_) ?_; rotate_left 2) | (change NextGoal _ _ _; refine next_go ?_)
  all_goals skip
  all_goals (try obtain ⟨p1, p2, p3⟩ := x1); (try obtain ⟨q1, q2, q3⟩ := x2); (try obtain ⟨r1, r2, r3⟩ := x3)
  all_goals first | (dsimp only; rfl) | rfl | skip
  all_goals try ((try dsimp only at *); (try simp only [Int.toNat_natCast, gD, sw_eq, List.length_set, swapI_len] at *))
  all_goals first | done | rfl | omega | (constructor <;> omega) | assumption
set_option maxHeartbeats 4000000 in
theorem pivU_z (E : Nat → Addr) (l : List Int) (n k a b : Nat) (h : n = l.length ∧ a < b ∧ b ≤ l.length ∧ 12 < b - a ∧ b - a < 50 ∧ l.length ≤ 1000000) : Does (Gm E) 170 ⟨[.sl 0 n k, .int .i64 ((a : Nat) : Int), .int .i64 ((b : Nat) : Int)], [(0, .arr Int encU 56 l k)], 1, 1, (Nat × Int), fun y => a ≤ y.1 ∧ y.1 < b, fun y => .tup [.int .i64 ((y.1 : Nat) : Int), .int .i64 y.2], fun y => [(0, .arr Int encU 56 l k)]⟩ := by
  obtain ⟨rfl, hab, hb, hm, hm2, hl⟩ := h; have ed : ((b : Int) - a).tdiv 4 = (((b - a) / 4 : Nat) : Int) := by rw [Int.tdiv_eq_ediv_of_nonneg (by omega)]; omega
  refine fn_intro (gmOk E) 57 1 [] Tryz.func170 rfl rfl rfl rfl rfl ?_
  repeat' first | (change CallGoal _ _ _ _ _ _; first | (change CallGoal _ 184 _ _ _ _; first | (refine call_args [.sl 0 l.length k, .int .i64 (((a + (b - a) / 4 * 1) : Nat) : Int), .int .i64 (((a + (b - a) / 4 * 2) : Nat) : Int), .int .i64 (((a + (b - a) / 4 * 3) : Nat) : Int), .ptr 1 0] (fun _ => bdLB_ok _ rfl) (fun En V w hp => by simp only [SV.denL, SV.den]; rw [ed]; simp only [Int.natCast_add, Int.natCast_mul]; rfl) ?_; change CallGoal _ _ _ _ _ _; refine call_rule (medU_z E l _ k (a + (b - a) / 4 * 1) (a + (b - a) / 4 * 2) (a + (b - a) / 4 * 3) ⟨rfl, by omega, by omega, by omega, by omega⟩) [0, 1] rfl (And.intro rfl (And.intro rfl True.intro)) rfl (fun (y : Nat × Int) hy => ?_)))) | (intro h; first | (exfalso; omega; done) | (exfalso; omega; done) | skip) | (refine And.intro ?_ ?_) | exact True.intro | (refine @Exists.intro Unit _ () ?_) | (refine @Exists.intro (_ = _) _ rfl ?_) | (refine @Exists.intro (Nat × Int) _ (?_, ?_) ?_; rotate_left 2)
  all_goals skip
  all_goals first | (dsimp only; rfl) | rfl | skip
  all_goals try ((try dsimp only at *); (try simp only [Int.toNat_natCast, gD, sw_eq, List.length_set, swapI_len] at *))
  all_goals first | done | rfl | omega | (constructor <;> omega) | assumption
set_option maxHeartbeats 4000000 in
theorem revU_z (E : Nat → Addr) (l : List Int) (n k a b : Nat) (h : n = l.length ∧ a < b ∧ b ≤ l.length ∧ l.length ≤ 1000000) : Does (Gm E) 171 ⟨[.sl 0 n k, .int .i64 ((a : Nat) : Int), .int .i64 ((b : Nat) : Int)], [(0, .arr Int encU 56 l k)], 1, 1, List Int, fun c => SameI l c a b, fun c => .tup [], fun c => [(0, .arr Int encU 56 c k)]⟩ := by
  obtain ⟨rfl, hab, hb, hm⟩ := h
  refine fn_intro (gmOk E) 32 1 [] Tryz.func171 rfl rfl rfl rfl rfl ?_
  repeat' first | exact placedPr_ok | (change DrawGoal _ _ _ _ _ _; first | (change DrawGoal _ _ _ [_, _, _, _, _, _, _, _, _, _, _, _, _, _, _, _] _ _; refine draw_weak (gmOk E) 0 [] (.alt [(0, true), (1, true), (2, true), (3, true), (4, true), (5, true), (6, true), (8, true), (9, true), (10, true)] (.leaf [(7, false), (11, false), (12, true), (13, false), (14, true), (15, false)]) (.leaf [(11, false), (7, false), (12, true), (13, false), (14, true), (15, false)])) (by kernel_rfl) rfl ?_ ?_)) | with_reducible rfl | (intro h; first | (exfalso; omega; done) | skip) | (refine And.intro ?_ ?_) | exact True.intro | (refine @Exists.intro Unit _ () ?_) | (refine @Exists.intro (_ = _) _ rfl ?_) | (change NextGoal _ _ _; refine next_go ?_) | (change LoopGoal _ _ _ _ _ _; refine loop_keep 2 [0] (gmOk E) rfl [] (X := (Nat × Nat × List Int)) (fun x => [(6, .int .i64 ((x.1 : Nat) : Int)), (7, .int .i64 ((x.2.1 : Nat) : Int))]) (fun x => [(0, .arr Int encU 56 x.2.2 k)]) [] (fun x => a ≤ x.1 ∧ x.2.1 < b ∧ x.1 ≤ x.2.1 + 1 ∧ x.1 ≤ b ∧ SameI l x.2.2 a b) (fun x => x.2.1 + 1 - x.1) ⟨(a, b - 1, l), ?_⟩ (fun x hI => ?_)) | (change @Exists ((Nat × Nat × List Int)) (fun _ => updPK _ _ _ _ _ _); refine @Exists.intro ((Nat × Nat × List Int)) _ ((x.1 + 1, x.2.1 - 1, swapI x.2.2 x.1 x.2.1)) ?_) | (refine @Exists.intro (List Int) _ ?_ ?_; rotate_left)
  all_goals skip
  all_goals first | (dsimp only; rfl) | rfl | skip
  all_goals try ((try dsimp only at *); (try simp only [Int.toNat_natCast, gD, sw_eq, List.length_set, swapI_len] at *))
  all_goals (try have ff0 := hI.2.2.2.2.len); first | done | rfl | omega | (constructor <;> omega) | assumption | exact hI.2.2.2.2 | exact SameI.refl _ _ _ | exact hI.2.2.2.2.swap ⟨by omega, by omega⟩ ⟨by omega, by omega⟩ (by omega)
set_option maxHeartbeats 4000000 in
theorem siftU_z (E : Nat → Addr) (l : List Int) (n k root hi first : Nat) (h : n = l.length ∧ first + hi ≤ l.length ∧ root ≤ hi ∧ l.length ≤ 1000000) : Does (Gm E) 182 ⟨[.sl 0 n k, .int .i64 ((root : Nat) : Int), .int .i64 ((hi : Nat) : Int), .int .i64 ((first : Nat) : Int)], [(0, .arr Int encU 56 l k)], 1, 1, List Int, fun c => c.length = l.length ∧ c.toArray = Go.Sort.siftDown Go.Sort.ltInt hi first root l.toArray, fun c => .tup [], fun c => [(0, .arr Int encU 56 c k)]⟩ := by
  obtain ⟨rfl, hf, hr, hm⟩ := h
  refine fn_intro (gmOk E) 76 1 [] Tryz.func182 rfl rfl rfl rfl rfl ?_
  repeat' first | exact placedPr_ok | (change DrawGoal _ _ _ _ _ _; first | (change DrawGoal _ _ _ [_, _, _, _, _, _, _, _, _, _, _, _, _, _, _, _, _, _, _, _, _, _, _, _] _ _; refine draw_weak (gmOk E) 0 [] (.alt [(0, true), (1, true), (2, true), (3, true), (4, true), (5, true), (6, true), (7, true), (8, true), (9, true), (10, true), (11, true), (12, true), (14, true), (15, true), (16, true), (17, true), (18, true)] (.leaf [(13, false), (19, false), (20, true), (21, false), (22, true), (23, false)]) (.leaf [(19, false), (13, false), (20, true), (21, false), (22, true), (23, false)])) (by kernel_rfl) rfl ?_ ?_)) | with_reducible rfl | (intro h; first | (exfalso; omega; done) | skip) | (refine And.intro ?_ ?_) | exact True.intro | (refine @Exists.intro Unit _ () ?_) | (refine @Exists.intro (_ = _) _ rfl ?_) | (change NextGoal _ _ _; refine next_go ?_) | (change LoopGoal _ _ _ _ _ _; refine loop_keep 1 [0, 2, 3] (gmOk E) rfl [] (X := (Int × List Int)) (fun x => [(8, .int .i64 x.1)]) (fun x => [(0, .arr Int encU 56 x.2 k)]) [] (fun x => SiftZ (Go.Sort.siftDown Go.Sort.ltInt hi first root l.toArray) hi first x.1 x.2 ∧ x.2.length = l.length) (fun x => hi - x.1.toNat) ⟨(((root : Nat) : Int), l), ?_⟩ (fun x hI => ?_)) | (change @Exists ((Int × List Int)) (fun _ => updPK _ _ _ _ _ _); refine @Exists.intro ((Int × List Int)) _ ((?_, ?_)) ?_; rotate_left 2) | (change DrawGoal _ _ _ _ _ _; first | (change DrawGoal _ _ _ ({ dst := some 17, op := _, type := _, pos := _, after := _, guard := _ } :: _) _ _; refine draw_tree (gmOk E) [0] (.leaf [(0, true), (1, true), (2, true), (3, true), (4, true), (5, true), (6, true), (7, true), (8, true), (9, true), (10, true), (11, true), (12, true), (13, true), (14, true), (15, true), (16, true), (17, true), (18, false), (19, true)]) (by kernel_rfl) ?_) | (change DrawGoal _ _ _ ({ dst := some 39, op := _, type := _, pos := _, after := _, guard := _ } :: _) _ _; refine draw_tree (gmOk E) [0] (.leaf [(0, true), (1, true), (2, true), (3, true), (4, true), (5, true), (6, true), (7, true), (8, true), (9, true), (10, true), (11, true), (12, false), (13, true)]) (by kernel_rfl) ?_)) | (refine @Exists.intro (List Int) _ ?_ ?_; rotate_left) | (change CallGoal _ _ _ _ _ _; first | (refine call0 (lessU_z E _ _) [] rfl True.intro rfl ?_))
  all_goals skip
  all_goals first | (dsimp only; rfl) | rfl | skip
  all_goals try ((try dsimp only at *); (try simp only [Int.toNat_natCast, gD, sw_eq, List.length_set, swapI_len] at *))
  all_goals (try have ff0 := hI.1.lo); (try have ff1 := hI.1.len); (try have ff2 := hI.2); first | done | rfl | omega | (constructor <;> omega) | assumption | exact hI.1 | exact hI.2 | exact SiftZ.start (by omega) (by omega) | exact hI.1.stop (by omega) | exact (hI.1.two (by omega) (by assumption)).1 (by assumption) | exact (hI.1.two (by omega) (by assumption)).2 (by omega) | exact (hI.1.one (by omega) (by intro q; first | exact absurd q.1 (by assumption) | exact absurd q.2 (by assumption) | omega)).1 (by assumption) | exact (hI.1.one (by omega) (by intro q; first | exact absurd q.1 (by assumption) | exact absurd q.2 (by assumption) | omega)).2 (by omega)
theorem tn_add {a k : Nat} (h : 0 < k) : ((a : Int) + ((k : Int) - 1)).toNat = a + (k - 1) := by omega
theorem HeapB.to {l : List Int} {a b k : Nat} {c d : List Int} (h : HeapB l a b k c) (hk : 0 < k) (hd : d.length = c.length ∧ d.toArray = Go.Sort.siftDown Go.Sort.ltInt (b - a) a (k - 1) c.toArray) : HeapB l a b (k - 1) d := by
  obtain ⟨j, rfl⟩ : ∃ j, k = j + 1 := ⟨k - 1, by omega⟩
  exact h.next hd
theorem HeapB.fin {l : List Int} {a b k : Nat} {c : List Int} (h : HeapB l a b k c) (hk : k = 0) : HeapP l a b (b - a) c := by subst hk; exact h.pop
theorem HeapP.fin {l : List Int} {a b k : Nat} {c : List Int} (h : HeapP l a b k c) (hk : k = 0) (hab : a ≤ b) (hb : b ≤ l.length) : SameI l c a b ∧ OrdI c a b := by subst hk; exact h.done hab hb
theorem HeapP.to {l : List Int} {a b k : Nat} {c d : List Int} (h : HeapP l a b k c) (hk : 0 < k) (hl : a + (k - 1) < l.length) (hd : d.length = (swapI c a (a + (k - 1))).length ∧ d.toArray = Go.Sort.siftDown Go.Sort.ltInt (k - 1) a 0 (swapI c a (a + (k - 1))).toArray) : HeapP l a b (k - 1) d := by
  obtain ⟨j, rfl⟩ : ∃ j, k = j + 1 := ⟨k - 1, by omega⟩
  exact h.next hl hd
set_option maxHeartbeats 4000000 in
theorem heapU_z (E : Nat → Addr) (l : List Int) (n k a b : Nat) (h : n = l.length ∧ a < b ∧ b ≤ l.length ∧ 12 < b - a ∧ l.length ≤ 1000000) : Does (Gm E) 168 ⟨[.sl 0 n k, .int .i64 ((a : Nat) : Int), .int .i64 ((b : Nat) : Int)], [(0, .arr Int encU 56 l k)], 1, 1, List Int, fun c => SameI l c a b ∧ OrdI c a b, fun c => .tup [], fun c => [(0, .arr Int encU 56 c k)]⟩ := by
  obtain ⟨rfl, hab, hb, h12, hm⟩ := h; have ed : ((b : Int) - a - 1).tdiv 2 = (((b - a - 1) / 2 : Nat) : Int) := by rw [Int.tdiv_eq_ediv_of_nonneg (by omega)]; omega
  refine fn_intro (gmOk E) 56 1 [11] Tryz.func168 rfl rfl rfl rfl rfl ?_
  repeat' first | (change CallGoal _ _ _ _ _ _; first | (change CallGoal _ 182 _ _ _ _; first | (refine call_args [.sl 0 l.length k, .int .i64 ((0 : Nat) : Int), .int .i64 ((y.1 - 1 : Nat) : Int), .int .i64 ((a : Nat) : Int)] (fun _ => bdLB_ok _ rfl) (fun En V w hp => by simp only [SV.denL, SV.den]; rw [show ((y.1 : Nat) : Int) - 1 = ((y.1 - 1 : Nat) : Int) by omega]; try rfl) ?_; change CallGoal _ _ _ _ _ _; refine call_rule (siftU_z E (swapI y.2.1 a (a + (y.1 - 1))) _ k (0) (y.1 - 1) a ⟨?_, ?_, ?_, ?_⟩) [0] rfl (And.intro rfl True.intro) rfl (fun (c : List Int) hc => ?_)) | (refine call_args [.sl 0 l.length k, .int .i64 ((x.1 - 1 : Nat) : Int), .int .i64 ((b - a : Nat) : Int), .int .i64 ((a : Nat) : Int)] (fun _ => bdLB_ok _ rfl) (fun En V w hp => by simp only [SV.denL, SV.den]; rw [show ((x.1 : Nat) : Int) - 1 = ((x.1 - 1 : Nat) : Int) by omega, show ((b : Nat) : Int) - ((a : Nat) : Int) = ((b - a : Nat) : Int) by omega]; try rfl) ?_; change CallGoal _ _ _ _ _ _; refine call_rule (siftU_z E x.2 _ k (x.1 - 1) (b - a) a ⟨?_, ?_, ?_, ?_⟩) [0] rfl (And.intro rfl True.intro) rfl (fun (c : List Int) hc => ?_)))) | exact placedPr_ok | (change DrawGoal _ _ _ _ _ _; first | (change DrawGoal _ _ _ [_, _, _, _, _, _, _, _, _, _, _, _, _, _, _, _, _, _, _, _] _ _; refine draw_weak (gmOk E) 0 [] (.alt [(0, true), (1, true), (2, true), (3, true), (4, true), (5, true), (6, true), (7, true), (8, true), (9, true), (10, true), (12, true), (13, true), (14, true)] (.leaf [(11, false), (15, false), (16, true), (17, false), (18, true), (19, false)]) (.leaf [(15, false), (11, false), (16, true), (17, false), (18, true), (19, false)])) (by kernel_rfl) rfl ?_ ?_)) | (change JoinGoal _ _ _ _ _ _ _ _; refine join_stop (gmOk E) ?_) | (change HereGoal _ _ _ _ _ _ _; rw [tn_add (show 0 < y.1 by omega)] ; refine hereG.cast 0 (.arr Int encU 56 (swapI y.2.1 a (a + (y.1 - 1))) k) rfl (by simp only [Int.toNat_natCast, gD, sw_eq]) ?_; refine here_go (gmOk E) ?_) | with_reducible rfl | (intro h; first | (exfalso; omega; done) | skip) | (refine And.intro ?_ ?_) | exact True.intro | (refine @Exists.intro Unit _ () ?_) | (refine @Exists.intro (_ = _) _ rfl ?_) | (change NextGoal _ _ _; refine next_go ?_) | (change LoopGoal _ _ _ _ _ _; refine loop_keep 4 [0, 6, 7, 8] (gmOk E) rfl [11] (X := (Nat × List Int)) (fun x => [(9, .int .i64 (((x.1 : Nat) : Int) - 1))]) (fun x => [(0, .arr Int encU 56 x.2 k)]) [] (fun x => HeapB l a b x.1 x.2 ∧ x.1 ≤ b - a) (fun x => x.1) ⟨((b - a - 1) / 2 + 1, l), ?_⟩ (fun x hI => ?_)) | (change @Exists ((Nat × List Int)) (fun _ => updPK _ _ _ _ _ _); refine @Exists.intro ((Nat × List Int)) _ ((x.1 - 1, c)) ?_) | (change LoopGoal _ _ _ _ _ _; refine loop_keep 8 [0, 6, 7] (gmOk E) rfl [11] (X := (Nat × List Int × Unit)) (fun y => [(10, .int .i64 (((y.1 : Nat) : Int) - 1))]) (fun y => [(0, .arr Int encU 56 y.2.1 k)]) [] (fun y => HeapP l a b y.1 y.2.1 ∧ y.1 ≤ b - a) (fun y => y.1) ⟨(b - a, x.2, ()), ?_⟩ (fun y hJ => ?_)) | (change @Exists ((Nat × List Int × Unit)) (fun _ => updPK _ _ _ _ _ _); refine @Exists.intro ((Nat × List Int × Unit)) _ ((y.1 - 1, c, ())) ?_) | (refine @Exists.intro (List Int) _ ?_ ?_; rotate_left) | (change CallGoal _ _ _ _ _ _; first | (refine call0 (lessU_z E _ _) [] rfl True.intro rfl ?_))
  all_goals skip
  all_goals first | (dsimp only; rfl) | rfl | skip
  all_goals try ((try dsimp only at *); (try simp only [Int.toNat_natCast, gD, sw_eq, List.length_set, swapI_len] at *))
  all_goals (try have ff0 := hI.1.len); (try have ff1 := hJ.1.len); (try have ff2 := ed); first | done | rfl | omega | (constructor <;> omega) | assumption | exact HeapB.start | exact hI.1 | exact hI.2 | exact hI.1.to (by omega) hc | exact hJ.1 | exact hJ.1.to (by omega) (by omega) hc | exact hI.1.fin (by omega) | exact (hJ.1.fin (by omega) (by omega) (by omega)).1 | exact (hJ.1.fin (by omega) (by omega) (by omega)).2 | exact hJ.1.to (by omega) (by omega) ⟨hc.1.trans swapI_len.symm, hc.2⟩ | exact hc | exact hc.1
theorem stridx_at {Γ : Ctx} {sv : Operand → SV} {H : Hp} {K : List Prop → SV → Prop} {t : TypeId} {X Y : Operand} {s : ByteArray} {n : Int} (hu : Γ.P.underlying t = some .string) (hX : sv X = .str s) (hY : sv Y = .int .u8 n) (hn : 0 ≤ n ∧ n.toNat < s.size) (k1 : K [] (.int .u8 (((s.data.getD n.toNat 0).toNat : Nat) : Int))) : RdGoal Γ sv H (.index t X Y) K :=
  ⟨fun En V nx oper hop hB hb => ⟨[], _, by simp only [SV.bd], k1, fun _ β w _ => by
    have h1 : s[n.toNat]? = some (s.data.getD n.toNat 0) := by
      have : n.toNat < s.data.size := hn.2
      rw [show s[n.toNat]? = some (s[n.toNat]'hn.2) by simp [hn.2]]
      rw [Array.getD, dif_pos this]; rfl
    simp [execOp, hop, Instr.index, hX, hY, SV.den, run_underlying hu, asIntOf, hn.1, h1, Result.andThen]⟩⟩
set_option maxHeartbeats 4000000 in
theorem lenX64_z (E : Nat → Addr) (x : Nat) (h : x ≤ 200) : Does (Gm E) 165 ⟨[.int .u64 ((x : Nat) : Int)], [], 0, 0, Unit, fun _ => True, fun _ => .int .i64 ((Go.Sort.bitsLen x : Nat) : Int), fun _ => []⟩ := by
  refine fn_intro (gmOk E) 25 0 [] Tryz.func165 rfl rfl rfl rfl rfl ?_
  repeat' first | (intro h; first | (exfalso; omega; done) | (exfalso; omega; done) | skip) | (refine And.intro ?_ ?_) | exact True.intro | (refine @Exists.intro Unit _ () ?_) | (refine @Exists.intro (_ = _) _ rfl ?_) | (change RdGoal _ _ _ _ _; refine stridx_at Tryz.underlying9 rfl rfl ?_ ?_)
  all_goals skip
  all_goals (have w8 : IntKind.u8.wrap ((x : Nat) : Int) = ((x : Nat) : Int) := wrap8 (by omega))
  all_goals first | done | rfl | omega | exact w8 | exact w8.symm | (refine ⟨by omega, ?_⟩; rw [w8, Int.toNat_natCast]; refine Nat.lt_of_lt_of_eq (show x < 256 by omega) ?_; first | rfl | kernel_rfl | decide) | (rw [w8, Int.toNat_natCast]; revert x; decide +kernel) | (simp only [w8, Int.toNat_natCast]; clear w8; revert x; decide +kernel) | (rw [w8]; clear w8; revert x; decide +kernel)
set_option maxHeartbeats 4000000 in
theorem lenX_z (E : Nat → Addr) (x : Nat) (h : x ≤ 200) : Does (Gm E) 142 ⟨[.int .u64 ((x : Nat) : Int)], [], 0, 0, Unit, fun _ => True, fun _ => .int .i64 ((Go.Sort.bitsLen x : Nat) : Int), fun _ => []⟩ := by
  refine fn_intro (gmOk E) 8 0 [] Tryz.func142 rfl rfl rfl rfl rfl ?_
  repeat' first | (intro h; first | (exfalso; omega; done) | skip) | (refine And.intro ?_ ?_) | exact True.intro | (refine @Exists.intro Unit _ () ?_) | (refine @Exists.intro (_ = _) _ rfl ?_) | (change CallGoal _ _ _ _ _ _; first | (refine call0 (lenX64_z E x h) [] rfl True.intro rfl ?_))
  all_goals first | rfl | omega
theorem pw_len : ∀ x : Nat, x ≤ 49 → 8 ≤ x → 2 ^ Go.Sort.bitsLen x ≤ 2 * x ∧ 8 ≤ 2 ^ Go.Sort.bitsLen x ∧ Go.Sort.bitsLen x ≤ 6 := by decide +kernel
set_option maxHeartbeats 4000000 in
theorem npw_z (E : Nat → Addr) (x : Nat) (h : x ≤ 49 ∧ 8 ≤ x) : Does (Gm E) 178 ⟨[.int .i64 ((x : Nat) : Int)], [], 0, 0, Unit, fun _ => True, fun _ => .int .u64 (((2 ^ Go.Sort.bitsLen x) : Nat) : Int), fun _ => []⟩ := by
  refine fn_intro (gmOk E) 7 0 [] Tryz.func178 rfl rfl rfl rfl rfl ?_
  repeat' first | (change CallGoal _ _ _ _ _ _; first | (change CallGoal _ 142 _ _ _ _; first | (refine call_args [.int .u64 ((x : Nat) : Int)] (fun _ => bdLB_ok _ rfl) (fun En V w hp => by rw [fitP_wrap (k := .u64) (show 0 ≤ ((x : Nat) : Int) ∧ ((x : Nat) : Int) ≤ 18446744073709551615 by omega)]) ?_; change CallGoal _ _ _ _ _ _; refine call0 (lenX_z E x (by omega)) [] rfl True.intro rfl ?_))) | (intro h; first | (exfalso; omega; done) | skip) | (refine And.intro ?_ ?_) | exact True.intro | (refine @Exists.intro Unit _ () ?_) | (refine @Exists.intro (_ = _) _ rfl ?_)
  all_goals skip
  all_goals (have q := pw_len x h.1 h.2)
  all_goals (have e : min (((Go.Sort.bitsLen x : Nat) : Int)).toNat IntKind.u64.bits = Go.Sort.bitsLen x := by rw [Int.toNat_natCast, bits_u64]; omega)
  all_goals (have z : ((2 : Int) ^ Go.Sort.bitsLen x) = ((2 ^ Go.Sort.bitsLen x : Nat) : Int) := by simp)
  all_goals first | done | omega | (rw [e, Int.one_mul, z]; done) | (rw [e, Int.one_mul, z]; first | (generalize 2 ^ Go.Sort.bitsLen x = m at *; first | omega | (constructor <;> omega)))
set_option maxHeartbeats 4000000 in
theorem xor_z (E : Nat → Addr) (r : Int) : Does (Gm E) 179 ⟨[.ptr 0 0], [(0, .cells 256 [.int .u64 r])], 1, 1, Int, fun y => 0 ≤ y ∧ y ≤ 18446744073709551615, fun y => .int .u64 y, fun y => [(0, .cells 256 [.int .u64 y])]⟩ := by
  refine Does.back (a := true) (b := false) (fn_intro ((gmOk E).way true false) 33 1 [] Tryz.func179 rfl rfl rfl rfl rfl ?_)
  repeat' first | (change DrawGoal _ _ _ _ _ _; first | (change DrawGoal _ _ _ ({ dst := some 3, op := _, type := _, pos := _, after := _, guard := _ } :: _) _ _; refine draw_rule3 ((gmOk E).way true false) [(0, true), (1, true), (2, true), (3, true), (4, true), (5, true), (6, true), (7, true), (8, true)] [0, 1, 2, 3, 4, 5, 6, 7, 8] [0] [] [(9, false)] (by kernel_rfl) ?_) | (change DrawGoal _ _ _ ({ dst := some 12, op := _, type := _, pos := _, after := _, guard := _ } :: _) _ _; refine draw_rule3 ((gmOk E).way true false) [(0, true), (1, true), (2, true), (3, true), (4, true), (5, true), (6, true), (7, true), (8, true)] [0, 1, 2, 3, 4, 5, 6, 7, 8] [0] [] [(9, false)] (by kernel_rfl) ?_) | (change DrawGoal _ _ _ ({ dst := some 21, op := _, type := _, pos := _, after := _, guard := _ } :: _) _ _; refine draw_rule3 ((gmOk E).way true false) [(0, true), (1, true), (2, true), (3, true), (4, true), (5, true), (6, true), (7, true), (8, true)] [0, 1, 2, 3, 4, 5, 6, 7, 8] [0] [] [(9, false)] (by kernel_rfl) ?_)) | (intro h; first | (exfalso; omega; done) | skip) | (refine And.intro ?_ ?_) | exact True.intro | (refine @Exists.intro Unit _ () ?_) | (refine @Exists.intro (_ = _) _ rfl ?_) | (refine @Exists.intro (Int) _ ?_ ?_; rotate_left)
  all_goals first | rfl | omega | (show 0 ≤ IntKind.u64.wrap _; rw [IntKind.wrap_u64]; omega) | (show IntKind.u64.wrap _ ≤ _; rw [IntKind.wrap_u64]; omega)
theorem and_le {y m : Int} (hy : 0 ≤ y ∧ y ≤ 18446744073709551615) (hm : 0 ≤ m ∧ m ≤ 18446744073709551615) : 0 ≤ bitI .and .u64 y m ∧ bitI .and .u64 y m ≤ m := by
  obtain ⟨a, rfl⟩ : ∃ a : Nat, y = (a : Int) := ⟨y.toNat, by omega⟩
  obtain ⟨b, rfl⟩ : ∃ b : Nat, m = (b : Int) := ⟨m.toNat, by omega⟩
  rw [bitI_and (by omega) (by omega)]
  have : a &&& b ≤ b := Nat.and_le_right
  omega
theorem rnd_in {y : Int} {x : Nat} (hy : 0 ≤ y ∧ y ≤ 18446744073709551615) (hx : x ≤ 49) (h8 : 8 ≤ x) : 0 ≤ bitI .and .u64 y (((2 ^ Go.Sort.bitsLen x : Nat) : Int) - 1) ∧ bitI .and .u64 y (((2 ^ Go.Sort.bitsLen x : Nat) : Int) - 1) < 2 * x := by
  have q := pw_len x hx h8
  obtain ⟨h1, h2⟩ := and_le hy (m := ((2 ^ Go.Sort.bitsLen x : Nat) : Int) - 1) (by generalize 2 ^ Go.Sort.bitsLen x = m at *; omega)
  generalize 2 ^ Go.Sort.bitsLen x = m at *; omega
set_option maxHeartbeats 4000000 in
theorem brkU_z (E : Nat → Addr) (l : List Int) (n k a b : Nat) (h : n = l.length ∧ a < b ∧ b ≤ l.length ∧ 12 < b - a ∧ b - a < 50 ∧ l.length ≤ 1000000) : Does (Gm E) 169 ⟨[.sl 0 n k, .int .i64 ((a : Nat) : Int), .int .i64 ((b : Nat) : Int)], [(0, .arr Int encU 56 l k)], 1, 1, List Int, fun c => SameI l c a b, fun c => .tup [], fun c => [(0, .arr Int encU 56 c k)]⟩ := by
  obtain ⟨rfl, hab, hb, h12, h50, hm⟩ := h; have ed : ((b : Int) - a).tdiv 4 = (((b - a) / 4 : Nat) : Int) := by rw [Int.tdiv_eq_ediv_of_nonneg (by omega)]; omega
  refine fn_intro (gmOk E) 65 1 [10] Tryz.func169 rfl rfl rfl rfl rfl ?_
  repeat' first | (change CallGoal _ _ _ _ _ _; first | (change CallGoal _ 178 _ _ _ _; first | (refine call_args [.int .i64 (((b - a) : Nat) : Int)] (fun _ => bdLB_ok _ rfl) (fun En V w hp => by simp only [SV.denL, SV.den]; rw [show ((b : Nat) : Int) - ((a : Nat) : Int) = ((b - a : Nat) : Int) by omega]) ?_; change CallGoal _ _ _ _ _ _; refine call0 (npw_z E (b - a) ⟨by omega, by omega⟩) [] rfl True.intro rfl ?_))) | exact placedPr_ok | (change DrawGoal _ _ _ _ _ _; first | (change DrawGoal _ _ _ [_, _, _, _, _, _, _, _, _, _, _, _, _, _, _, _, _, _, _, _] _ _; refine draw_weak (gmOk E) 0 [] (.alt [(0, true), (1, true), (2, true), (3, true), (4, true), (5, true), (6, true), (7, true), (8, true), (9, true), (10, true), (12, true), (13, true), (14, true)] (.leaf [(11, false), (15, false), (16, true), (17, false), (18, true), (19, false)]) (.leaf [(15, false), (11, false), (16, true), (17, false), (18, true), (19, false)])) (by kernel_rfl) rfl ?_ ?_)) | with_reducible rfl | (intro h; first | (exfalso; omega; done) | (exfalso; omega; done) | skip) | (refine And.intro ?_ ?_) | exact True.intro | (refine @Exists.intro Unit _ () ?_) | (refine @Exists.intro (_ = _) _ rfl ?_) | (change NextGoal _ _ _; refine next_go ?_) | (change LoopGoal _ _ _ _ _ _; refine loop_keep 5 [0, 1, 6, 7, 8] (gmOk E) rfl [10] (X := (Nat × Int × List Int)) (fun x => [(9, .int .i64 ((x.1 : Nat) : Int))]) (fun x => [(0, .arr Int encU 56 x.2.2 k), (1, .cells 256 [.int .u64 x.2.1])]) [] (fun x => (a + (b - a) / 4 * 2 - 1 ≤ x.1 ∧ x.1 ≤ a + (b - a) / 4 * 2 + 2) ∧ SameI l x.2.2 a b) (fun x => a + (b - a) / 4 * 2 + 2 - x.1) ⟨(a + (b - a) / 4 * 2 - 1, IntKind.u64.wrap (((b : Nat) : Int) - ((a : Nat) : Int)), l), ?_⟩ (fun x hI => ?_)) | (change @Exists ((Nat × Int × List Int)) (fun _ => updPK _ _ _ _ _ _); refine @Exists.intro ((Nat × Int × List Int)) _ ((x.1 + 1, y, swapI x.2.2 x.1 (((a : Nat) : Int) + j1.1).toNat)) ?_) | (change JoinGoal _ _ _ _ _ _ _ _; refine join_keep 10 [0, 1, 6, 7, 8, 9, 33] (gmOk E) rfl (X := (Int × Fin 1)) (fun j1 => [(10, .int .i64 j1.1)]) (fun j1 => []) [] (fun j1 => 0 ≤ j1.1 ∧ j1.1 < b - a) ?_ (fun j1 hj1 => ?_)) | (change @Exists ((Int × Fin 1)) (fun _ => updPK _ _ _ _ _ _); refine @Exists.intro ((Int × Fin 1)) _ ((?_, 0)) ?_; rotate_left 1) | (refine @Exists.intro (List Int) _ ?_ ?_; rotate_left) | (change CallGoal _ _ _ _ _ _; first | (refine call_rule (xor_z E x.2.1) [1] rfl (And.intro rfl True.intro) rfl (fun (y : Int) hy => ?_)))
  all_goals skip
  all_goals (have pq := pw_len (b - a) (by omega) (by omega))
  all_goals first | (dsimp only; rfl) | rfl | skip
  all_goals try ((try dsimp only at *); (try simp only [Int.toNat_natCast, gD, sw_eq, List.length_set, swapI_len, ed] at *))
  all_goals (try have ff0 := hI.2.len); (try have ff1 := (rnd_in (x := b - a) hy (by omega) (by omega))); first | done | rfl | omega | (generalize 2 ^ Go.Sort.bitsLen (b - a) = mm at *; first | omega | (constructor <;> omega)) | (constructor <;> omega) | assumption | exact hI.2 | exact SameI.refl _ _ _ | exact hI.2.swap ⟨by omega, by omega⟩ ⟨by omega, by omega⟩ (by omega)
theorem BelI.less {c : List Int} {a b b2 : Nat} (h : BelI c a b) (hb : b2 ≤ b) : BelI c a b2 := ⟨fun h0 p h1 h2 => h.le h0 p h1 (by omega)⟩
theorem PartI.bel {c : List Int} {a b m : Nat} (h : PartI c a b m) : BelI c (m + 1) b := ⟨fun _ p h1 h2 => h.more p (by omega) h2⟩
theorem bel_all {c : List Int} {a b pv : Nat} (h : BelI c a b) (h0 : 0 < a) (hn : ¬ gI c ((a : Int) - 1).toNat < gI c pv) (q : Nat) (h1 : a ≤ q) (h2 : q < b) : gI c pv ≤ gI c q := by
  have := h.le h0 q h1 h2
  rw [show ((a : Int) - 1).toNat = a - 1 by omega] at hn; omega
set_option maxHeartbeats 4000000 in
theorem pdqU_s (E : Nat → Addr) (l : List Int) (n k a b : Nat) (y : Int) (ih : ∀ (l : List Int) (n k a2 b2 : Nat) (y : Int), b2 - a2 < b - a → n = l.length ∧ a2 ≤ b2 ∧ b2 ≤ l.length ∧ l.length ≤ 49 ∧ BelI l a2 b2 ∧ (0 ≤ y ∧ y ≤ 100) → Does (Gm E) 146 ⟨[.sl 0 n k, .int .i64 ((a2 : Nat) : Int), .int .i64 ((b2 : Nat) : Int), .int .i64 y], [(0, .arr Int encU 56 l k)], 1, 1, List Int, fun c => SameI l c a2 b2 ∧ OrdI c a2 b2, fun _ => .tup [], fun c => [(0, .arr Int encU 56 c k)]⟩) (h : n = l.length ∧ a ≤ b ∧ b ≤ l.length ∧ l.length ≤ 49 ∧ BelI l a b ∧ (0 ≤ y ∧ y ≤ 100)) : Does (Gm E) 146 ⟨[.sl 0 n k, .int .i64 ((a : Nat) : Int), .int .i64 ((b : Nat) : Int), .int .i64 y], [(0, .arr Int encU 56 l k)], 1, 1, List Int, fun c => SameI l c a b ∧ OrdI c a b, fun _ => .tup [], fun c => [(0, .arr Int encU 56 c k)]⟩ := by
  obtain ⟨rfl, hab, hb, hm, hbel, hy⟩ := h
  refine fn_intro (gmOk E) 134 1 [10, 15, 17] Tryz.func146 rfl rfl rfl rfl rfl ?_
  repeat' first | (change CallGoal _ _ _ _ _ _; first | (change CallGoal _ 167 _ _ _ _; first | (refine call_rule (insU_z E x.2.2.2.2.2 _ k x.1 x.2.1 ⟨?_, ?_, ?_, ?_⟩) [0] rfl (And.intro rfl True.intro) rfl (fun (ci : List Int) hci => ?_))) | (change CallGoal _ 168 _ _ _ _; first | (refine call_rule (heapU_z E x.2.2.2.2.2 _ k x.1 x.2.1 ⟨?_, ?_, ?_, ?_, ?_⟩) [0] rfl (And.intro rfl True.intro) rfl (fun (ch : List Int) hch => ?_))) | (change CallGoal _ 169 _ _ _ _; first | (refine call_rule (brkU_z E x.2.2.2.2.2 _ k x.1 x.2.1 ⟨?_, ?_, ?_, ?_, ?_, ?_⟩) [0] rfl (And.intro rfl True.intro) rfl (fun (cb : List Int) hcb => ?_))) | (change CallGoal _ 170 _ _ _ _; first | (refine call_rule (pivU_z E j1.1 _ k x.1 x.2.1 ⟨?_, ?_, ?_, ?_, ?_, ?_⟩) [0] rfl (And.intro rfl True.intro) rfl (fun (yv : Nat × Int) hyv => ?_))) | (change CallGoal _ 171 _ _ _ _; first | (refine call_rule (revU_z E j1.1 _ k x.1 x.2.1 ⟨?_, ?_, ?_, ?_⟩) [0] rfl (And.intro rfl True.intro) rfl (fun (cr : List Int) hcr => ?_))) | (change CallGoal _ 172 _ _ _ _; first | (refine call_rule (pinsU_z E j2.1 _ k x.1 x.2.1 ⟨?_, ?_, ?_, ?_, ?_⟩) [0] rfl (And.intro rfl True.intro) rfl (fun (bp : Bool) hbp => ?_))) | (change CallGoal _ 174 _ _ _ _; first | (refine call_rule (parteU_z E j2.1 _ k x.1 x.2.1 j2.2.1 ⟨?_, ?_, ?_, ?_, ?_, ?_⟩) [0] rfl (And.intro rfl True.intro) rfl (fun (ye : Nat × List Int) hye => ?_))) | (change CallGoal _ 175 _ _ _ _; first | (refine call_rule (partU_z E j2.1 _ k x.1 x.2.1 j2.2.1 ⟨?_, ?_, ?_, ?_, ?_⟩) [0] rfl (And.intro rfl True.intro) rfl (fun (yp : Nat × List Int × Bool) hyp => ?_))) | (change CallGoal _ 146 _ _ _ _; first | ((have _hlt : ((yp.1 : Nat) : Int) - ((x.1 : Nat) : Int) < ((x.2.1 : Nat) : Int) - ((yp.1 : Nat) : Int) := by assumption); refine call_rule (ih yp.2.1 _ k x.1 yp.1 j1.2.1 ?_ ⟨?_, ?_, ?_, ?_, ?_, ?_⟩) [0] rfl (And.intro rfl True.intro) rfl (fun (cL : List Int) hcL => ?_)) | (refine call_args [.sl 0 l.length k, .int .i64 (((yp.1 + 1) : Nat) : Int), .int .i64 ((x.2.1 : Nat) : Int), .int .i64 j1.2.1] (fun _ => bdLB_ok _ rfl) (fun En V w hp => by simp only [SV.denL, SV.den, Int.natCast_add]; rfl) ?_; change CallGoal _ _ _ _ _ _; refine call_rule (ih yp.2.1 _ k (yp.1 + 1) x.2.1 j1.2.1 ?_ ⟨?_, ?_, ?_, ?_, ?_, ?_⟩) [0] rfl (And.intro rfl True.intro) rfl (fun (cR : List Int) hcR => ?_)))) | (change @Exists (Nat × Nat × Int × Bool × Bool × List Int) (fun _ => updPK _ _ _ _ _ _); first | (have _ := hye; refine @Exists.intro (Nat × Nat × Int × Bool × Bool × List Int) _ (ye.1, x.2.1, j1.2.1, x.2.2.2.1, x.2.2.2.2.1, ye.2) ?_) | (have _ := hcL; refine @Exists.intro (Nat × Nat × Int × Bool × Bool × List Int) _ (yp.1 + 1, x.2.1, j1.2.1, ?_, yp.2.2, cL) ?_; rotate_left) | (have _ := hcR; refine @Exists.intro (Nat × Nat × Int × Bool × Bool × List Int) _ (x.1, yp.1, j1.2.1, ?_, yp.2.2, cR) ?_; rotate_left) | (refine @Exists.intro (Nat × Nat × Int × Bool × Bool × List Int) _ (a, b, y, true, true, l) ?_)) | (change @Exists (List Int × Int × Fin 1) (fun _ => updPK _ _ _ _ _ _); first | (have _ := hcb; refine @Exists.intro (List Int × Int × Fin 1) _ (cb, x.2.2.1 - 1, 0) ?_) | (refine @Exists.intro (List Int × Int × Fin 1) _ (x.2.2.2.2.2, x.2.2.1, 0) ?_)) | (change @Exists (List Int × Nat × Int × Fin 2) (fun _ => updPK _ _ _ _ _ _); first | (have _ := hcr; refine @Exists.intro (List Int × Nat × Int × Fin 2) _ (cr, x.2.1 - 1 - (yv.1 - x.1), 1, 0) ?_) | (refine @Exists.intro (List Int × Nat × Int × Fin 2) _ (j1.1, yv.1, yv.2, 0) ?_)) | with_reducible rfl | (intro h; first | (exfalso; omega; done) | (exfalso; omega; done) | skip) | (refine And.intro ?_ ?_) | exact True.intro | (refine @Exists.intro Unit _ () ?_) | (refine @Exists.intro (_ = _) _ rfl ?_) | (change NextGoal _ _ _; refine next_go ?_) | (change LoopGoal _ _ _ _ _ _; refine loop_keep 2 [0] (gmOk E) rfl [10, 15, 17] (X := (Nat × Nat × Int × Bool × Bool × List Int)) (fun x => [(1, .int .i64 ((x.1 : Nat) : Int)), (2, .int .i64 ((x.2.1 : Nat) : Int)), (3, .int .i64 x.2.2.1), (8, .bl x.2.2.2.1), (9, .bl x.2.2.2.2.1)]) (fun x => [(0, .arr Int encU 56 x.2.2.2.2.2 k)]) [] (fun x => PdqI l x.2.2.2.2.2 a b x.1 x.2.1 ∧ (0 ≤ x.2.2.1 ∧ x.2.2.1 ≤ 100)) (fun x => x.2.1 - x.1) ⟨(a, b, y, true, true, l), ?_⟩ (fun x hI => ?_)) | (change @Exists ((Nat × Nat × Int × Bool × Bool × List Int)) (fun _ => updPK _ _ _ _ _ _); refine @Exists.intro ((Nat × Nat × Int × Bool × Bool × List Int)) _ (x) ?_) | (change JoinGoal _ _ _ _ _ _ _ _; refine join_keep 10 [0, 1, 2, 8, 9, 10, 23, 29] (gmOk E) rfl (X := (List Int × Int × Fin 1)) (fun j1 => [(3, .int .i64 j1.2.1)]) (fun j1 => [(0, .arr Int encU 56 j1.1 k)]) [] (fun j1 => PdqI l j1.1 a b x.1 x.2.1 ∧ (0 ≤ j1.2.1 ∧ j1.2.1 ≤ 100)) ?_ (fun j1 hj1 => ?_)) | (change @Exists ((List Int × Int × Fin 1)) (fun _ => updPK _ _ _ _ _ _); refine @Exists.intro ((List Int × Int × Fin 1)) _ ((?_, ?_, 0)) ?_; rotate_left 2) | (change JoinGoal _ _ _ _ _ _ _ _; refine join_keep 15 [0, 1, 2, 3, 8, 9, 10, 23, 29, 35] (gmOk E) rfl (X := (List Int × Nat × Int × Fin 2)) (fun j2 => [(11, .int .i64 ((j2.2.1 : Nat) : Int)), (12, .int .i64 j2.2.2.1)]) (fun j2 => [(0, .arr Int encU 56 j2.1 k)]) [] (fun j2 => PdqI l j2.1 a b x.1 x.2.1 ∧ x.1 ≤ j2.2.1 ∧ j2.2.1 < x.2.1) ?_ (fun j2 hj2 => ?_)) | (change @Exists ((List Int × Nat × Int × Fin 2)) (fun _ => updPK _ _ _ _ _ _); refine @Exists.intro ((List Int × Nat × Int × Fin 2)) _ ((?_, ?_, ?_, 0)) ?_; rotate_left 3) | (change JoinGoal _ _ _ _ _ _ _ _; refine join_keep 17 [0, 1, 2, 3, 8, 9, 10, 11, 12, 23, 29, 35, 50] (gmOk E) rfl (X := (Fin 3)) (fun j3 => []) (fun j3 => []) [] (fun j3 => True) ?_ (fun j3 hj3 => ?_)) | (change @Exists ((Fin 3)) (fun _ => updPK _ _ _ _ _ _); refine @Exists.intro ((Fin 3)) _ (0) ?_) | (change DrawGoal _ _ _ _ _ _; first | (change DrawGoal _ _ _ ({ dst := some 73, op := _, type := _, pos := _, after := _, guard := _ } :: _) _ _; refine draw_tree (gmOk E) [0] (.leaf [(0, true), (1, true), (2, true), (3, true), (4, true), (5, true), (6, true), (7, true), (8, true), (9, true), (10, true), (11, true), (12, false), (13, true), (14, true)]) (by kernel_rfl) ?_)) | (refine @Exists.intro (List Int) _ ?_ ?_; rotate_left) | (change CallGoal _ _ _ _ _ _; first | (refine call0 (lessU_z E _ _) [] rfl True.intro rfl ?_))
  all_goals skip
  all_goals first | (dsimp only; rfl) | rfl | skip
  all_goals try ((try dsimp only at *); (try simp only [Int.toNat_natCast, gD, sw_eq, List.length_set, swapI_len] at *))
  all_goals (try have ff0 := hI.1.lo); (try have ff1 := hI.1.mid); (try have ff2 := hI.1.hi); (try have ff3 := hI.1.clen); (try have ff4 := hj1.1.clen); (try have ff5 := hj2.1.clen); (try have ff6 := hyp.1.len); (try have ff7 := hyp.2.lo); (try have ff8 := hyp.2.hi); (try have ff9 := hye.1.len); (try have ff10 := hye.2.lo); (try have ff11 := hye.2.hi); (try have ff12 := Int.tdiv_eq_ediv_of_nonneg (a := ((x.2.1 : Nat) : Int) - ((x.1 : Nat) : Int)) (b := 8) (by omega)); first | done | rfl | omega | (constructor <;> omega) | assumption | exact PdqI.start hab hb hbel | exact hI.1 | exact hI.2 | exact hj1.1 | exact hj1.2 | exact hj2.1 | exact (hj2.1.turn hye.1).equal hye.2 | exact hj1.1.turn hcr | exact hI.1.turn hcb | exact (hj2.1.turn hyp.1).right hyp.2 hcL.1 hcL.2 | exact (hj2.1.turn hyp.1).left hyp.2 hcR.1 hcR.2 | exact (hI.1.done hci.1 hci.2).1 | exact (hI.1.done hci.1 hci.2).2 | exact (hI.1.done hch.1 hch.2).1 | exact (hI.1.done hch.1 hch.2).2 | exact (hj2.1.done (SameI.refl _ _ _) (hbp (by assumption))).1 | exact (hj2.1.done (SameI.refl _ _ _) (hbp (by assumption))).2 | exact (hj2.1.turn hyp.1).bel.less (by omega) | exact hyp.2.bel | exact bel_all hj2.1.bel (by omega) (by omega) _ (by assumption) (by assumption)
theorem pdqU_z (E : Nat → Addr) : ∀ (m : Nat) (l : List Int) (n k a b : Nat) (y : Int), b - a ≤ m → n = l.length ∧ a ≤ b ∧ b ≤ l.length ∧ l.length ≤ 49 ∧ BelI l a b ∧ (0 ≤ y ∧ y ≤ 100) → Does (Gm E) 146 ⟨[.sl 0 n k, .int .i64 ((a : Nat) : Int), .int .i64 ((b : Nat) : Int), .int .i64 y], [(0, .arr Int encU 56 l k)], 1, 1, List Int, fun c => SameI l c a b ∧ OrdI c a b, fun _ => .tup [], fun c => [(0, .arr Int encU 56 c k)]⟩ := by
  intro m
  induction m with
  | zero => exact fun l n k a b y hm h => pdqU_s E l n k a b y (fun l2 n2 k2 a2 b2 y2 hlt h2 => by omega) h
  | succ m ih => exact fun l n k a b y hm h => pdqU_s E l n k a b y (fun l2 n2 k2 a2 b2 y2 hlt h2 => ih l2 n2 k2 a2 b2 y2 (by omega) h2) h
theorem len_in {n : Nat} (h : n ≤ 49) : 0 ≤ ((Go.Sort.bitsLen n : Nat) : Int) ∧ ((Go.Sort.bitsLen n : Nat) : Int) ≤ 100 := by
  have : ∀ n : Nat, n ≤ 49 → Go.Sort.bitsLen n ≤ 6 := (by decide +kernel)
  have := this n h
  omega
set_option maxHeartbeats 4000000 in
theorem sortU_z (E : Nat → Addr) (l : List Int) (n k : Nat) (h : n = l.length ∧ l.length ≤ 49) : Does (Gm E) 107 ⟨[.sl 0 n k], [(0, .arr Int encU 56 l k)], 1, 1, List Int, fun c => c.Perm l ∧ OrdI c 0 l.length, fun _ => .tup [], fun c => [(0, .arr Int encU 56 c k)]⟩ := by
  obtain ⟨rfl, hm⟩ := h
  refine fn_intro (gmOk E) 11 1 [] Tryz.func107 rfl rfl rfl rfl rfl ?_
  repeat' first | (change CallGoal _ _ _ _ _ _; first | (change CallGoal _ 142 _ _ _ _; first | (refine call_args [.int .u64 ((l.length : Nat) : Int)] (fun _ => bdLB_ok _ rfl) (fun En V w hp => by rw [fitP_wrap (k := .u64) (show 0 ≤ ((l.length : Nat) : Int) ∧ ((l.length : Nat) : Int) ≤ 18446744073709551615 by omega)]) ?_; change CallGoal _ _ _ _ _ _; refine call0 (lenX_z E l.length (by omega)) [] rfl True.intro rfl ?_))) | (intro h; first | (exfalso; omega; done) | skip) | (refine And.intro ?_ ?_) | exact True.intro | (refine @Exists.intro Unit _ () ?_) | (refine @Exists.intro (_ = _) _ rfl ?_) | (refine @Exists.intro (List Int) _ ?_ ?_; rotate_left) | (change CallGoal _ _ _ _ _ _; first | (refine call_rule (pdqU_z E l.length l _ k 0 l.length _ (by omega) ⟨rfl, by omega, by omega, by omega, ⟨fun h => absurd h (Nat.lt_irrefl 0)⟩, len_in hm⟩) [0] rfl (And.intro rfl True.intro) rfl (fun (c : List Int) hc => ?_)))
  all_goals first | rfl | omega | exact hc.1.perm | exact hc.2
end Go.Proofs.YtcnbngiplfoomaaGreatDoor
namespace Go.Proofs.YtcnbngiplfoomaaGreatDoor
open Go.Zz Go.Px
set_option linter.unusedVariables false
set_option linter.unusedSectionVars false
set_option linter.unusedSimpArgs false
set_option maxRecDepth 10000
structure Fi {α : Type} (lt : α → α → Bool) (d : α) (out : List α) (q : α) (j : Int) : Prop where
  lo : 0 ≤ j
  hi : j ≤ (out.length : Nat)
  all : ∀ t, t < j.toNat → lt (out.getD t d) q = true
section
variable {α : Type} [DecidableEq α] {lt : α → α → Bool} {d : α} {out : List α} {q : α} {j : Int}
theorem Fi.start : Fi lt d out q 0 := ⟨Int.le_refl _, by omega, fun t h => by simp at h⟩
theorem Fi.next (h : Fi lt d out q j) (hj : j < (out.length : Nat)) (hl : lt (out.getD j.toNat d) q = true) : Fi lt d out q (j + 1) := ⟨by have := h.lo; omega, by omega, fun t ht => by
  have := h.lo
  by_cases e : t = j.toNat
  · exact e ▸ hl
  · exact h.all t (by omega)⟩
theorem Fi.pos (h : Fi lt d out q j) (hn : j < (out.length : Nat) → lt (out.getD j.toNat d) q = false) : pos lt out q = j.toNat :=
  (pos_unique (d := d) (by have := h.hi; omega) h.all fun hl => hn (by have := h.lo; omega)).symm
end
set_option maxHeartbeats 4000000 in
theorem ref02less_z (E : Nat → Addr) (a b : Int × Int) : Does (Gm E) 124 (Sp0 [.agg [.int .i64 a.1, .int .i64 a.2], .agg [.int .i64 b.1, .int .i64 b.2]] [] 0 (.bl (ltH a b))) := by
  refine fn_intro (gmOk E) 24 0 [] Tryz.func124 rfl rfl rfl rfl rfl ?_
  repeat' first | (intro h; first | (exfalso; omega; done) | skip) | (refine And.intro ?_ ?_) | exact True.intro | (refine @Exists.intro Unit _ () ?_) | (refine @Exists.intro (_ = _) _ rfl ?_)
  all_goals first | omega | rfl | (simp only [ltH]; simp; omega)
section
variable {l : List (Int × Int)} {q : Int × Int} {i : Int}
theorem ins3_len {α : Type} {l R : List α} {q : α} {y : Nat} (h : y ≤ l.length) (e : R = l.take y ++ q :: l.drop y) : 0 + y + 1 + (l.length - y) = R.length := by
  rw [e, List.length_append, List.length_take, List.length_cons, List.length_drop]; omega
theorem ins3_a {α : Type} {l : List α} {y : Nat} (h : y ≤ l.length) : 0 + y ≤ (([] : List α).take 0 ++ l.take y).length := by
  rw [List.take_zero, List.nil_append, List.length_take]; omega
theorem ins3_b {α : Type} {l : List α} {q : α} {y : Nat} (h : y ≤ l.length) : 0 + y + 1 ≤ ((([] : List α).take 0 ++ l.take y).take (0 + y) ++ [q].take 1).length := by
  rw [List.take_zero, List.nil_append, List.length_append, List.length_take, List.length_take, List.length_take]; simp only [List.length_singleton]; omega
theorem ins3_eq {α : Type} {l R : List α} {q : α} {y : Nat} (h : y ≤ l.length) (e : R = l.take y ++ q :: l.drop y) : (((([] : List α).take 0 ++ l.take y).take (0 + y) ++ [q].take 1).take (0 + y + 1) ++ (l.drop y).take (l.length - y)) = R := by
  rw [e, List.take_of_length_le (l := l.drop y) (by rw [List.length_drop]; omega), List.take_zero, List.nil_append, List.take_of_length_le (l := l.take y) (by rw [List.length_take]; omega), List.take_of_length_le (l := [q]) (by simp),
List.take_of_length_le (by rw [List.length_append, List.length_take, List.length_singleton]; omega), List.append_assoc, List.singleton_append]
end
end Go.Proofs.YtcnbngiplfoomaaGreatDoor
namespace Go.Proofs.YtcnbngiplfoomaaGreatDoor
open Go.Zz Go.Px
set_option linter.unusedVariables false
set_option linter.unusedSectionVars false
set_option linter.unusedSimpArgs false
set_option maxRecDepth 10000
section
variable {R : List Ey} {x : XT} {c : List Int}
theorem masks_ris (R : List Ey) : Rises ltZ (masksR R) := by
  unfold masksR Rises
  refine List.Pairwise.filter _ (List.Pairwise.map _ (fun a b h => ?_) (List.pairwise_lt_range (n := 1024)))
  simp only [ltZ, decide_eq_true_eq]; omega
theorem ord_ris {c : List Int} (hn : c.Nodup) (ho : OrdI c 0 c.length) : Rises ltZ c := by
  refine List.pairwise_iff_getElem.2 fun i j hi hj hij => ?_
  have h1 := ho.le i j (by omega) hij hj
  rw [gI_at hi, gI_at hj] at h1
  have h2 : c[i] ≠ c[j] := fun e => by have := (List.getElem_inj hn).1 e; omega
  simp only [ltZ, decide_eq_true_eq]; omega
theorem XOk.masks (hx : XOk R x) (hp : c.Perm (x.1.map fun y : Int × List Ey => y.1)) (ho : OrdI c 0 c.length) : c = masksR R := by
  have hn : c.Nodup := hp.nodup_iff.2 hx.inv.tnd
  refine Rises.ext ordZ (ord_ris hn ho) (masks_ris R) fun m => ?_
  rw [hp.mem_iff, mem_masksR hx.inv.row, ← hx.inv.hasT, hasK_iff]
end
end Go.Proofs.YtcnbngiplfoomaaGreatDoor
namespace Go.Proofs.YtcnbngiplfoomaaGreatDoor
open Go.Zz Go.Px
set_option linter.unusedVariables false
set_option linter.unusedSectionVars false
set_option linter.unusedSimpArgs false
set_option maxRecDepth 10000
set_option maxHeartbeats 4000000 in
theorem rin_z (E : Nat → Addr) (n a b : Int) : Does (Gm E) 79 (Sp0 [.int .i64 n, .int .i64 a, .int .i64 b] [] 0 (.dc (a ≤ n ∧ n ≤ b) inferInstance)) := by
  refine fn_intro (gmOk E) 15 0 [] Tryz.func79 rfl rfl rfl rfl rfl ?_
  repeat' first | (intro h; first | (exfalso; omega; done) | skip) | (refine And.intro ?_ ?_) | exact True.intro | (refine @Exists.intro Unit _ () ?_) | (refine @Exists.intro (_ = _) _ rfl ?_)
  all_goals first | rfl | omega | (refine decide_eq_decide.2 ?_; omega)
set_option maxHeartbeats 4000000 in
theorem rcheck_z (E : Nat → Addr) (v : V3) : Does (Gm E) 32 (Sp0 [.agg [.int .i64 v.k, .int .i64 v.a, .int .i64 v.b]] [] 0 (.int .i64 (vcheck v))) := by
  refine fn_intro (gmOk E) 72 0 [] Tryz.func32 rfl rfl rfl rfl rfl ?_
  repeat' first | (intro h; first | (exfalso; omega; done) | (exfalso; omega; done) | skip) | (refine And.intro ?_ ?_) | exact True.intro | (refine @Exists.intro Unit _ () ?_) | (refine @Exists.intro (_ = _) _ rfl ?_) | (change CallGoal _ _ _ _ _ _; first | (refine call0 (rin_z E _ _ _) [] rfl True.intro rfl ?_))
  all_goals first | rfl | (have q := vcheck_eq v.k v.a v.b; change vcheck v = _ at q; rw [q]; (repeat' split) <;> omega) | omega
theorem bad_start (l : List V3) : firstBad (l.drop (0 : Int).toNat) = firstBad l := rfl
theorem bad_next {l : List V3} {i : Int} (hI : 0 ≤ i ∧ i ≤ (l.length : Nat) ∧ firstBad (l.drop i.toNat) = firstBad l) (hi : i < (l.length : Nat)) (hc : vcheck (l.getD i.toNat v0) = 0) : firstBad (l.drop (i + 1).toNat) = firstBad l := by
  rw [← hI.2.2, firstBad_step (d := v0) (by omega : i.toNat < l.length), if_pos hc, show (i + 1).toNat = i.toNat + 1 by omega]
theorem bad_here {l : List V3} {i : Int} (hI : 0 ≤ i ∧ i ≤ (l.length : Nat) ∧ firstBad (l.drop i.toNat) = firstBad l) (hi : i < (l.length : Nat)) (hc : ¬ vcheck (l.getD i.toNat v0) = 0) : vcheck (l.getD i.toNat v0) = firstBad l := by
  rw [← hI.2.2, firstBad_step (d := v0) (by omega : i.toNat < l.length), if_neg hc]
theorem bad_end {l : List V3} {i : Int} (hI : 0 ≤ i ∧ i ≤ (l.length : Nat) ∧ firstBad (l.drop i.toNat) = firstBad l) (hi : ¬ i < (l.length : Nat)) : firstBad l = 0 := by
  rw [← hI.2.2, List.drop_eq_nil_of_le (by omega)]; rfl
theorem few_next {l : List V3} {kk i : Int} (hk0 : 0 ≤ kk) (hC : ∀ q : Int, 0 ≤ q → q < kk → (l.map (·.k)).count q ≤ 1) (hi : ¬ i < (l.length : Nat)) (hc : ¬ 1 < cntTo l kk i) : ∀ q : Int, 0 ≤ q → q < kk + 1 → (l.map (·.k)).count q ≤ 1 := fun q h1 h2 => by
  by_cases e : q = kk
  · subst e; rw [cntTo_end (by omega)] at hc; omega
  · exact hC q h1 (by omega)
theorem few_dup {l : List V3} {kk i : Int} (hi : ¬ i < (l.length : Nat)) (hc : 1 < cntTo l kk i) : noDup l = false := by
  rw [← Bool.not_eq_true]; intro hn
  have := count_one hn kk
  rw [cntTo_end (by omega)] at hc; omega
set_option maxHeartbeats 4000000 in
theorem rowBad (E : Nat → Addr) (l : List V3) (n k : Nat) (h : n = l.length ∧ l.length ≤ 1000 ∧ firstBad l ≠ 0) : Does (Gm E) 53 (Sp0 [.sl 0 n k] [(0, .ro V3 Zz.encV l k)] 1 (.tup [.nils, .int .i64 (firstBad l)])) := by
  obtain ⟨rfl, hm, hb⟩ := h
  refine fn_intro (gmOk E) 49 1 [] Tryz.func53 rfl rfl rfl rfl rfl ?_
  repeat' first | (intro h; first | (exfalso; omega; done) | (exfalso; exact hb (bad_end hI (by omega)); done) | skip) | (refine And.intro ?_ ?_) | exact True.intro | (refine @Exists.intro Unit _ () ?_) | (refine @Exists.intro (_ = _) _ rfl ?_) | (change LoopGoal _ _ _ _ _ _; refine loop_at 2 (gmOk E) rfl [] (X := Int) (fun i => [(14, .int .i64 i)]) (fun i => []) [] (fun i => 0 ≤ i ∧ i ≤ (l.length : Nat) ∧ firstBad (l.drop i.toNat) = firstBad l) (fun i => l.length - i.toNat) ⟨0, ?_⟩ (fun i hI => ?_)) | (change @Exists (Int) (fun _ => updK _ _ _ _ _ _); refine @Exists.intro (Int) _ ((?_)) ?_; rotate_left 1) | (change LoopGoal _ _ _ _ _ _; refine loop_at 10 (gmOk E) rfl [] (X := (Int × Nat)) (fun x => [(8, .int .i64 x.1), (7, .sl 18 (byKinds l x.1.toNat).length x.2)]) (fun x => [(18, .arr V3 Zz.encV 34 (byKinds l x.1.toNat) x.2)]) [17] (fun x => (0 ≤ x.1 ∧ x.1 ≤ 10) ∧ (byKinds l x.1.toNat).length ≤ x.2 ∧ (∀ q : Int, 0 ≤ q → q < x.1 → (l.map (·.k)).count q ≤ 1)) (fun x => (10 - x.1).toNat) ⟨(0, 0), ?_⟩ (fun x hJ => ?_)) | (change @Exists ((Int × Nat)) (fun _ => updK _ _ _ _ _ _); refine @Exists.intro ((Int × Nat)) _ ((x.1 + 1, y.2.1)) ?_) | (change LoopGoal _ _ _ _ _ _; refine loop_at 14 (gmOk E) rfl [] (X := (Int × Nat × Unit)) (fun y => [(31, .int .i64 y.1), (9, .int .i64 (cntTo l x.1 y.1)), (7, .sl 35 (upTo l x.1 y.1).length y.2.1)]) (fun y => [(35, .arr V3 Zz.encV 34 (upTo l x.1 y.1) y.2.1)]) [18] (fun y => (0 ≤ y.1 ∧ y.1 ≤ (l.length : Nat)) ∧ (upTo l x.1 y.1).length ≤ y.2.1) (fun y => l.length - y.1.toNat) ⟨(0, x.2, ()), ?_⟩ (fun y hK => ?_)) | (change @Exists ((Int × Nat × Unit)) (fun _ => updK _ _ _ _ _ _); refine @Exists.intro ((Int × Nat × Unit)) _ ((y.1 + 1, ?_, ())) ?_; rotate_left 1) | (change CallGoal _ _ _ _ _ _; first | (refine call0 (rcheck_z E (l.getD i.toNat v0)) [] rfl True.intro rfl ?_))
  all_goals first
| (dsimp only; first | rfl | omega)
| rfl
| omega
| exact bad_start l
| exact bad_next hI (by assumption) (by assumption)
| exact bad_next hI (by assumption) (Classical.not_not.1 (by assumption))
| exact bad_here hI (by assumption) (by assumption)
set_option maxHeartbeats 4000000 in
theorem rowOk (E : Nat → Addr) (l : List V3) (n k : Nat) (h : n = l.length ∧ l.length ≤ 1000 ∧ firstBad l = 0 ∧ noDup l = true) : Does (Gm E) 53 ⟨[.sl 0 n k], [(0, .ro V3 Zz.encV l k)], 1, 2, Nat, fun q => (byKinds l 10).length ≤ q, fun q => .tup [.sl 1 (byKinds l 10).length q, .int .i64 0], fun q => [(1, .arr V3 Zz.encV 34 (byKinds l 10) q)]⟩ := by
  obtain ⟨rfl, hm, hb, hn⟩ := h
  refine fn_intro (gmOk E) 49 1 [] Tryz.func53 rfl rfl rfl rfl rfl ?_
  repeat' first | (intro h; first | (exfalso; omega; done) | (exfalso; first | exact h (by rw [bad_here hI (by assumption) (by assumption)] at *; assumption) | (rw [few_dup (by assumption) (by assumption)] at hn; cases hn; done); done) | skip) | (refine And.intro ?_ ?_) | exact True.intro | (refine @Exists.intro Unit _ () ?_) | (refine @Exists.intro (_ = _) _ rfl ?_) | (change LoopGoal _ _ _ _ _ _; refine loop_at 2 (gmOk E) rfl [] (X := Int) (fun i => [(14, .int .i64 i)]) (fun i => []) [] (fun i => 0 ≤ i ∧ i ≤ (l.length : Nat) ∧ firstBad (l.drop i.toNat) = firstBad l) (fun i => l.length - i.toNat) ⟨0, ?_⟩ (fun i hI => ?_)) | (change @Exists (Int) (fun _ => updK _ _ _ _ _ _); refine @Exists.intro (Int) _ ((?_)) ?_; rotate_left 1) | (change LoopGoal _ _ _ _ _ _; refine loop_at 10 (gmOk E) rfl [] (X := (Int × Nat)) (fun x => [(8, .int .i64 x.1), (7, .sl 18 (byKinds l x.1.toNat).length x.2)]) (fun x => [(18, .arr V3 Zz.encV 34 (byKinds l x.1.toNat) x.2)]) [17] (fun x => (0 ≤ x.1 ∧ x.1 ≤ 10) ∧ (byKinds l x.1.toNat).length ≤ x.2 ∧ (∀ q : Int, 0 ≤ q → q < x.1 → (l.map (·.k)).count q ≤ 1)) (fun x => (10 - x.1).toNat) ⟨(0, 0), ?_⟩ (fun x hJ => ?_)) | (change @Exists ((Int × Nat)) (fun _ => updK _ _ _ _ _ _); refine @Exists.intro ((Int × Nat)) _ ((x.1 + 1, y.2.1)) ?_) | (change LoopGoal _ _ _ _ _ _; refine loop_at 14 (gmOk E) rfl [] (X := (Int × Nat × Unit)) (fun y => [(31, .int .i64 y.1), (9, .int .i64 (cntTo l x.1 y.1)), (7, .sl 35 (upTo l x.1 y.1).length y.2.1)]) (fun y => [(35, .arr V3 Zz.encV 34 (upTo l x.1 y.1) y.2.1)]) [18] (fun y => (0 ≤ y.1 ∧ y.1 ≤ (l.length : Nat)) ∧ (upTo l x.1 y.1).length ≤ y.2.1) (fun y => l.length - y.1.toNat) ⟨(0, x.2, ()), ?_⟩ (fun y hK => ?_)) | (change @Exists ((Int × Nat × Unit)) (fun _ => updK _ _ _ _ _ _); refine @Exists.intro ((Int × Nat × Unit)) _ ((y.1 + 1, ?_, ())) ?_; rotate_left 1) | (refine @Exists.intro (Nat) _ ?_ ?_; rotate_left) | (change CallGoal _ _ _ _ _ _; first | (refine call0 (rcheck_z E (l.getD i.toNat v0)) [] rfl True.intro rfl ?_))
  all_goals first
| (dsimp only; first | rfl | omega)
| rfl
| omega
| exact bad_start l
| exact bad_next hI (by assumption) (by assumption)
| exact bad_next hI (by assumption) (Classical.not_not.1 (by assumption))
| exact bad_here hI (by assumption) (by assumption)
| exact bad_end hI (by omega)
| exact Nat.le_refl _
| exact congrArg List.length (upTo_zero l x.1).symm
| exact congrArg (fun q => Ch.arr V3 encV _ q _) (upTo_zero l x.1).symm
| (show (upTo l x.1 0).length ≤ _; rw [upTo_zero]; exact hJ.2.1)
| (have q := upTo_len l x.1 y.1; first | omega | (change _ * 24 ≤ _; omega))
| (have q := cntTo_le l x.1 y.1; omega)
| exact (cntTo_in (d := v0) ⟨hK.1.1, by assumption⟩ (by assumption)).symm
| exact (cntTo_out (d := v0) ⟨hK.1.1, by assumption⟩ (by assumption)).symm
| (show _ = (upTo l x.1 (y.1 + 1)).length; rw [upTo_in (d := v0) ⟨hK.1.1, by assumption⟩ (by assumption), List.length_append]; rfl)
| (show _ = (upTo l x.1 (y.1 + 1)).length; rw [upTo_out (d := v0) ⟨hK.1.1, by assumption⟩ (by assumption)])
| (show (upTo l x.1 (y.1 + 1)).length ≤ _; rw [upTo_in (d := v0) ⟨hK.1.1, by assumption⟩ (by assumption), List.length_append]; assumption)
| (show (upTo l x.1 (y.1 + 1)).length ≤ _; rw [upTo_out (d := v0) ⟨hK.1.1, by assumption⟩ (by assumption)]; exact hK.2)
| (show _ = Ch.arr V3 encV _ (upTo l x.1 (y.1 + 1)) _; rw [upTo_in (d := v0) ⟨hK.1.1, by assumption⟩ (by assumption), List.take_length]; rfl)
| (show _ = Ch.arr V3 encV _ (upTo l x.1 (y.1 + 1)) _; rw [upTo_out (d := v0) ⟨hK.1.1, by assumption⟩ (by assumption)])
| exact congrArg List.length (upTo_end (by omega) hJ.1.1).symm
| exact congrArg (fun q => Ch.arr V3 encV _ q _) (upTo_end (by omega) hJ.1.1).symm
| (show (byKinds l (x.1 + 1).toNat).length ≤ _; rw [upTo_end (by omega) hJ.1.1]; exact hK.2)
| (show (byKinds l (x.1 + 1).toNat).length ≤ _; rw [upTo_end (i := y.1) (by omega) hJ.1.1]; exact hK.2)
| (rename_i q h0; exact few_next hJ.1.1 hJ.2.2 (by assumption) (by assumption) q h0 (by assumption))
| exact few_next hJ.1.1 hJ.2.2 (by assumption) (by assumption)
| (rw [show (10 : Nat) = x.1.toNat by omega]; first | rfl | exact hJ.2.1)
| (have e : x.1 = 10 := by omega
   rw [e] at hJ; exact hJ.2.1)
| exact congrArg (fun q : Nat => (byKinds l q).length) (show x.1.toNat = 10 by omega)
| exact congrArg (fun q : Nat => Ch.arr V3 encV _ (byKinds l q) _) (show x.1.toNat = 10 by omega)
set_option maxHeartbeats 4000000 in
theorem rowDup (E : Nat → Addr) (l : List V3) (n k : Nat) (h : n = l.length ∧ l.length ≤ 1000 ∧ firstBad l = 0 ∧ noDup l = false) : Does (Gm E) 53 (Sp0 [.sl 0 n k] [(0, .ro V3 Zz.encV l k)] 1 (.tup [.nils, .int .i64 4])) := by
  obtain ⟨rfl, hm, hb, hn⟩ := h
  refine fn_intro (gmOk E) 49 1 [] Tryz.func53 rfl rfl rfl rfl rfl ?_
  repeat' first | (intro h; first | (exfalso; omega; done) | (exfalso; first | exact h (by rw [bad_here hI (by assumption) (by assumption)] at *; assumption) | (rw [noDup_of hb (fun q h1 h2 => hJ.2.2 q h1 (by omega))] at hn; cases hn; done); done) | skip) | (refine And.intro ?_ ?_) | exact True.intro | (refine @Exists.intro Unit _ () ?_) | (refine @Exists.intro (_ = _) _ rfl ?_) | (change LoopGoal _ _ _ _ _ _; refine loop_at 2 (gmOk E) rfl [] (X := Int) (fun i => [(14, .int .i64 i)]) (fun i => []) [] (fun i => 0 ≤ i ∧ i ≤ (l.length : Nat) ∧ firstBad (l.drop i.toNat) = firstBad l) (fun i => l.length - i.toNat) ⟨0, ?_⟩ (fun i hI => ?_)) | (change @Exists (Int) (fun _ => updK _ _ _ _ _ _); refine @Exists.intro (Int) _ ((?_)) ?_; rotate_left 1) | (change LoopGoal _ _ _ _ _ _; refine loop_at 10 (gmOk E) rfl [] (X := (Int × Nat)) (fun x => [(8, .int .i64 x.1), (7, .sl 18 (byKinds l x.1.toNat).length x.2)]) (fun x => [(18, .arr V3 Zz.encV 34 (byKinds l x.1.toNat) x.2)]) [17] (fun x => (0 ≤ x.1 ∧ x.1 ≤ 10) ∧ (byKinds l x.1.toNat).length ≤ x.2 ∧ (∀ q : Int, 0 ≤ q → q < x.1 → (l.map (·.k)).count q ≤ 1)) (fun x => (10 - x.1).toNat) ⟨(0, 0), ?_⟩ (fun x hJ => ?_)) | (change @Exists ((Int × Nat)) (fun _ => updK _ _ _ _ _ _); refine @Exists.intro ((Int × Nat)) _ ((x.1 + 1, y.2.1)) ?_) | (change LoopGoal _ _ _ _ _ _; refine loop_at 14 (gmOk E) rfl [] (X := (Int × Nat × Unit)) (fun y => [(31, .int .i64 y.1), (9, .int .i64 (cntTo l x.1 y.1)), (7, .sl 35 (upTo l x.1 y.1).length y.2.1)]) (fun y => [(35, .arr V3 Zz.encV 34 (upTo l x.1 y.1) y.2.1)]) [18] (fun y => (0 ≤ y.1 ∧ y.1 ≤ (l.length : Nat)) ∧ (upTo l x.1 y.1).length ≤ y.2.1) (fun y => l.length - y.1.toNat) ⟨(0, x.2, ()), ?_⟩ (fun y hK => ?_)) | (change @Exists ((Int × Nat × Unit)) (fun _ => updK _ _ _ _ _ _); refine @Exists.intro ((Int × Nat × Unit)) _ ((y.1 + 1, ?_, ())) ?_; rotate_left 1) | (change CallGoal _ _ _ _ _ _; first | (refine call0 (rcheck_z E (l.getD i.toNat v0)) [] rfl True.intro rfl ?_))
  all_goals first
| (dsimp only; first | rfl | omega)
| rfl
| omega
| exact bad_start l
| exact bad_next hI (by assumption) (by assumption)
| exact bad_next hI (by assumption) (Classical.not_not.1 (by assumption))
| exact bad_here hI (by assumption) (by assumption)
| exact bad_end hI (by omega)
| exact Nat.le_refl _
| exact congrArg List.length (upTo_zero l x.1).symm
| exact congrArg (fun q => Ch.arr V3 encV _ q _) (upTo_zero l x.1).symm
| (show (upTo l x.1 0).length ≤ _; rw [upTo_zero]; exact hJ.2.1)
| (have q := upTo_len l x.1 y.1; first | omega | (change _ * 24 ≤ _; omega))
| (have q := cntTo_le l x.1 y.1; omega)
| exact (cntTo_in (d := v0) ⟨hK.1.1, by assumption⟩ (by assumption)).symm
| exact (cntTo_out (d := v0) ⟨hK.1.1, by assumption⟩ (by assumption)).symm
| (show _ = (upTo l x.1 (y.1 + 1)).length; rw [upTo_in (d := v0) ⟨hK.1.1, by assumption⟩ (by assumption), List.length_append]; rfl)
| (show _ = (upTo l x.1 (y.1 + 1)).length; rw [upTo_out (d := v0) ⟨hK.1.1, by assumption⟩ (by assumption)])
| (show (upTo l x.1 (y.1 + 1)).length ≤ _; rw [upTo_in (d := v0) ⟨hK.1.1, by assumption⟩ (by assumption), List.length_append]; assumption)
| (show (upTo l x.1 (y.1 + 1)).length ≤ _; rw [upTo_out (d := v0) ⟨hK.1.1, by assumption⟩ (by assumption)]; exact hK.2)
| (show _ = Ch.arr V3 encV _ (upTo l x.1 (y.1 + 1)) _; rw [upTo_in (d := v0) ⟨hK.1.1, by assumption⟩ (by assumption), List.take_length]; rfl)
| (show _ = Ch.arr V3 encV _ (upTo l x.1 (y.1 + 1)) _; rw [upTo_out (d := v0) ⟨hK.1.1, by assumption⟩ (by assumption)])
| exact congrArg List.length (upTo_end (by omega) hJ.1.1).symm
| exact congrArg (fun q => Ch.arr V3 encV _ q _) (upTo_end (by omega) hJ.1.1).symm
| (show (byKinds l (x.1 + 1).toNat).length ≤ _; rw [upTo_end (by omega) hJ.1.1]; exact hK.2)
| (show (byKinds l (x.1 + 1).toNat).length ≤ _; rw [upTo_end (i := y.1) (by omega) hJ.1.1]; exact hK.2)
| (rename_i q h0; exact few_next hJ.1.1 hJ.2.2 (by assumption) (by assumption) q h0 (by assumption))
| exact few_next hJ.1.1 hJ.2.2 (by assumption) (by assumption)
| (rw [show (10 : Nat) = x.1.toNat by omega]; first | rfl | exact hJ.2.1)
| (have e : x.1 = 10 := by omega
   rw [e] at hJ; exact hJ.2.1)
| exact congrArg (fun q : Nat => (byKinds l q).length) (show x.1.toNat = 10 by omega)
| exact congrArg (fun q : Nat => Ch.arr V3 encV _ (byKinds l q) _) (show x.1.toNat = 10 by omega)
set_option maxHeartbeats 4000000 in
theorem rsame_z (E : Nat → Addr) (l m : List V3) (n k n2 k2 : Nat) (h : (n = l.length ∧ n2 = m.length) ∧ l.length ≤ 1000000 ∧ m.length ≤ 1000000) : Does (Gm E) 19 (Sp0 [.sl 0 n k, .sl 1 n2 k2] [(0, .ro V3 Zz.encV l k), (1, .ro V3 Zz.encV m k2)] 2 (.bl (sameL l m))) := by
  obtain ⟨⟨rfl, rfl⟩, h1, h2⟩ := h
  refine fn_intro (gmOk E) 26 2 [] Tryz.func19 rfl rfl rfl rfl rfl ?_
  repeat' first | (intro h; first | (exfalso; omega; done) | skip) | (refine And.intro ?_ ?_) | exact True.intro | (refine @Exists.intro Unit _ () ?_) | (refine @Exists.intro (_ = _) _ rfl ?_) | (change LoopGoal _ _ _ _ _ _; refine loop_at 4 (gmOk E) rfl [] (X := Int) (fun i => [(13, .int .i64 i)]) (fun i => []) [] (fun i => 0 ≤ i ∧ i ≤ (l.length : Nat) ∧ l.length = m.length ∧ ∀ j, j < i.toNat → l.getD j v0 = m.getD j v0) (fun i => l.length - i.toNat) ⟨0, ?_⟩ (fun i hI => ?_)) | (change @Exists (Int) (fun _ => updK _ _ _ _ _ _); refine @Exists.intro (Int) _ ((?_)) ?_; rotate_left 1) | (change DrawGoal _ _ _ _ _ _; first | (change DrawGoal _ _ _ ({ dst := some 16, op := _, type := _, pos := _, after := _, guard := _ } :: _) _ _; refine draw_tree (gmOk E) [0, 1] (.leaf [(0, true), (1, true), (2, true), (3, true), (4, true), (5, true), (6, true), (7, true), (8, true)]) (by kernel_rfl) ?_))
  all_goals first
| (dsimp only; first | rfl | omega)
| rfl
| omega
| exact (sameL_len (by assumption)).symm
| exact (sameL_at (j := i.toNat) v0 (v3_ne (by assumption))).symm
| (rename_i j hj; exact same_next v0 hI.1 hI.2.2.2 (v3_eq (Classical.not_not.1 (by assumption))) j hj)
| (rename_i j; exact same_next v0 hI.1 hI.2.2.2 (v3_eq (Classical.not_not.1 (by assumption))) j h)
| exact (sameL_all v0 hI.2.2.1 (fun j hj => hI.2.2.2 j (by omega))).symm
set_option maxHeartbeats 4000000 in
theorem rrBad (E : Nat → Addr) (l : List V3) (n k : Nat) (h : n = l.length ∧ l.length ≤ 1000 ∧ firstBad l ≠ 0) : Does (Gm E) 14 (Sp0 [.sl 0 n k] [(0, .ro V3 Zz.encV l k)] 1 (.bl (rightV l))) := by
  obtain ⟨rfl, hm, hb⟩ := h
  refine fn_intro (gmOk E) 17 1 [] Tryz.func14 rfl rfl rfl rfl rfl ?_
  repeat' first | (intro h; first | (exfalso; omega; done) | (exfalso; first | exact h trivial | exact hb (by omega) | omega; done) | skip) | (refine And.intro ?_ ?_) | exact True.intro | (refine @Exists.intro Unit _ () ?_) | (refine @Exists.intro (_ = _) _ rfl ?_) | (change CallGoal _ _ _ _ _ _; first | (refine call0 (rowBad E l _ k ⟨rfl, hm, hb⟩) [0] rfl (And.intro rfl True.intro) rfl ?_))
  all_goals first | rfl | omega | exact (rightV_bad hb).symm
set_option maxHeartbeats 4000000 in
theorem rrDup (E : Nat → Addr) (l : List V3) (n k : Nat) (h : n = l.length ∧ l.length ≤ 1000 ∧ firstBad l = 0 ∧ noDup l = false) : Does (Gm E) 14 (Sp0 [.sl 0 n k] [(0, .ro V3 Zz.encV l k)] 1 (.bl (rightV l))) := by
  obtain ⟨rfl, hm, hb, hn⟩ := h
  refine fn_intro (gmOk E) 17 1 [] Tryz.func14 rfl rfl rfl rfl rfl ?_
  repeat' first | (intro h; first | (exfalso; omega; done) | (exfalso; first | exact h trivial | exact hb (by omega) | omega; done) | skip) | (refine And.intro ?_ ?_) | exact True.intro | (refine @Exists.intro Unit _ () ?_) | (refine @Exists.intro (_ = _) _ rfl ?_) | (change CallGoal _ _ _ _ _ _; first | (refine call0 (rowDup E l _ k ⟨rfl, hm, hb, hn⟩) [0] rfl (And.intro rfl True.intro) rfl ?_))
  all_goals first | rfl | omega | exact (rightV_dup hn).symm
theorem bk_len (l : List V3) (hm : l.length ≤ 1000) : (byKinds l 10).length ≤ 1000000 := by have := byKinds_len l 10; omega
set_option maxHeartbeats 4000000 in
theorem rrOk (E : Nat → Addr) (l : List V3) (n k : Nat) (h : n = l.length ∧ l.length ≤ 1000 ∧ firstBad l = 0 ∧ noDup l = true) : Does (Gm E) 14 (Sp0 [.sl 0 n k] [(0, .ro V3 Zz.encV l k)] 1 (.bl (rightV l))) := by
  obtain ⟨rfl, hm, hb, hn⟩ := h
  refine fn_intro (gmOk E) 17 1 [] Tryz.func14 rfl rfl rfl rfl rfl ?_
  repeat' first | (intro h; first | (exfalso; omega; done) | (exfalso; first | exact h trivial | exact hb (by omega) | omega; done) | skip) | (refine And.intro ?_ ?_) | exact True.intro | (refine @Exists.intro Unit _ () ?_) | (refine @Exists.intro (_ = _) _ rfl ?_) | (change CallGoal _ _ _ _ _ _; first | (refine call_rule (rowOk E l _ k ⟨rfl, hm, hb, hn⟩) [0] rfl (And.intro rfl True.intro) rfl (fun (q : Nat) hq => ?_))) | (change CallGoal _ _ _ _ _ _; first | (refine call0 (rsame_z E l (byKinds l 10) _ k _ q ⟨⟨rfl, rfl⟩, by omega, bk_len l hm⟩) [0, 1] rfl (And.intro rfl (And.intro rfl True.intro)) rfl ?_))
  all_goals first | rfl | omega | exact rright_eq hb hn | exact (rright_eq hb hn).symm
theorem rright_z (E : Nat → Addr) (l : List V3) (n k : Nat) (h : n = l.length ∧ l.length ≤ 1000) : Does (Gm E) 14 (Sp0 [.sl 0 n k] [(0, .ro V3 Zz.encV l k)] 1 (.bl (rightV l))) := by
  by_cases hb : firstBad l = 0
  · cases hn : noDup l with
    | true => exact rrOk E l n k ⟨h.1, h.2, hb, hn⟩
    | false => exact rrDup E l n k ⟨h.1, h.2, hb, hn⟩
  · exact rrBad E l n k ⟨h.1, h.2, hb⟩
set_option maxHeartbeats 4000000 in
theorem rmask_z (E : Nat → Addr) (l : List V3) (n k : Nat) (h : n = l.length ∧ l.length ≤ 1000000 ∧ ∀ v ∈ l, 0 ≤ v.k ∧ v.k ≤ 9) : Does (Gm E) 31 (Sp0 [.sl 0 n k] [(0, .ro V3 Zz.encV l k)] 1 (.int .u64 ((maskN l : Nat) : Int))) := by
  obtain ⟨rfl, hm, hk⟩ := h
  refine fn_intro (gmOk E) 19 1 [] Tryz.func31 rfl rfl rfl rfl rfl ?_
  repeat' first | (intro h; first | (exfalso; omega; done) | (exfalso; exact h trivial; done) | skip) | (refine And.intro ?_ ?_) | exact True.intro | (refine @Exists.intro Unit _ () ?_) | (refine @Exists.intro (_ = _) _ rfl ?_) | (change LoopGoal _ _ _ _ _ _; refine loop_at 3 (gmOk E) rfl [] (X := Int) (fun i => [(8, .int .i64 i), (3, .int .u64 (((maskN (l.take i.toNat)) : Nat) : Int))]) (fun i => []) [] (fun i => 0 ≤ i ∧ i ≤ (l.length : Nat)) (fun i => l.length - i.toNat) ⟨0, ?_⟩ (fun i hI => ?_)) | (change @Exists (Int) (fun _ => updK _ _ _ _ _ _); refine @Exists.intro (Int) _ ((?_)) ?_; rotate_left 1)
  all_goals first
| (dsimp only; first | rfl | omega)
| rfl
| omega
| (have q := kinds_at hk ⟨hI.1, (by assumption : i < _)⟩; exact q.1)
| (have q := kinds_at hk ⟨hI.1, (by assumption : i < _)⟩; have b := bitN_fit q; rw [← pw_bit q] at b; first | exact b.1 | exact b.2 | exact b)
| (have q := kinds_at hk ⟨hI.1, (by assumption : i < _)⟩; have e := bitI_or (maskN_lt64 (kinds_take hk i.toNat)) (bitN_lt' q); rw [← maskN_next ⟨hI.1, by assumption⟩, ← pw_bit q] at e; exact e)
| exact congrArg (fun q : Nat => (q : Int)) (maskN_all hI.2 ‹¬ i < _›)
| exact congrArg (fun q : Nat => (q : Int)) (maskN_all hI.2 ‹¬ i < _›).symm
end Go.Proofs.YtcnbngiplfoomaaGreatDoor
namespace Go.Proofs.YtcnbngiplfoomaaGreatDoor
open Go.Zz Go.Px
set_option linter.unusedVariables false
set_option linter.unusedSectionVars false
set_option linter.unusedSimpArgs false
set_option maxRecDepth 10000
section
variable {row : Rw} {f i : Int} {r : Rw} {v : V3}
theorem nodup_sub_lenT {α : Type} [DecidableEq α] : ∀ {l m : List α}, l.Nodup → (∀ x ∈ l, x ∈ m) → l.length ≤ m.length
  | [], _, _, _ => Nat.zero_le _
  | x :: r, m, hd, h => by
    have hd' := List.nodup_cons.1 hd
    have h1 : (r.length) ≤ (m.erase x).length := nodup_sub_lenT hd'.2 fun y hy => (List.mem_erase_of_ne (fun e => hd'.1 (by rw [← e]; exact hy))).2 (h y (List.mem_cons_of_mem _ hy))
    have h2 : x ∈ m := h x (List.mem_cons_self ..)
    rw [List.length_erase_of_mem h2] at h1
    have := List.length_pos_of_mem h2
    rw [List.length_cons]
    omega
end
end Go.Proofs.YtcnbngiplfoomaaGreatDoor
namespace Go.Proofs.YtcnbngiplfoomaaGreatDoor
open Go.Zz Go.Px
set_option linter.unusedVariables false
set_option linter.unusedSectionVars false
set_option linter.unusedSimpArgs false
set_option maxRecDepth 10000
section
variable {R : List Ey} {h : Hd} {r r' : Rw} {v : V3} {rows : List Rw} {i j : Nat}
def hI (i : Nat) : Hd := ((i : Int), 1)
end
theorem sPut (E : Nat → Addr) (Q : List (PRow Int)) (R : List Ey) (hd : Hd) (row : Rw) (n k : Nat) (h : n = row.length ∧ hasK R hd = false ∧ rightV row = true ∧ row.length ≤ 1000000 ∧ R.length < 128 ∧ (anyM R (mkI row) = true ∨ (masksR R).length < 32)) : Does (Gm E) 16 ⟨[.ptr 0 0, .agg [.int .i64 hd.1, .int .i64 hd.2], .sl 2 n k], [(0, .pr (storePr E Q R)), (1, .pr (poolPr Zz.encI 3 Q)), (2, .ro V3 Zz.encV row k), (3, .fo (tzF 10))], 4, 4, (List (PRow Int)), fun _ => True, fun _ => .nili, fun S => [(0, .pr (storePr E (Q ++ S) (insR R (hd, row)))), (1, .pr (poolPr Zz.encI 3 (Q ++ S)))]⟩ := by
  cases hm : anyM R (mkI row) with
  | true => exact sPutY E Q R hd row n k ⟨h.1, h.2.1, h.2.2.1, h.2.2.2.1, h.2.2.2.2.1, hm⟩
  | false => exact sPutN E Q R hd row n k ⟨h.1, h.2.1, h.2.2.1, h.2.2.2.1, h.2.2.2.2.1, hm, h.2.2.2.2.2.resolve_left fun q => by rw [hm] at q; cases q⟩
end Go.Proofs.YtcnbngiplfoomaaGreatDoor
namespace Go.Proofs.YtcnbngiplfoomaaGreatDoor
open Go.Zz Go.Px
set_option linter.unusedVariables false
set_option linter.unusedSectionVars false
set_option linter.unusedSimpArgs false
set_option maxRecDepth 10000
section
abbrev EyI := Ey × Nat
def headZ (V : List (PRow V3)) (z : EyI) : (Int × Int) × Hdr := (z.1.1, ((rowQ V z.2).1, (rowQ V z.2).2.2.length, (rowQ V z.2).2.1))
def refL (V : List (PRow V3)) (Z : List EyI) : List ((Int × Int) × Hdr) := Z.map (headZ V)
structure RefV (V : List (PRow V3)) (Z : List EyI) : Prop where
  ok : ∀ z ∈ Z, z.2 < V.length ∧ (rowQ V z.2).2.2 = z.1.2
def rowsZ (Z : List EyI) : List Ey := Z.map fun z => z.1
def insZ (Z : List EyI) (z : EyI) : List EyI := Z.filter (fun y => ltE y.1 z.1) ++ z :: Z.filter (fun y => !ltE y.1 z.1)
variable {V S : List (PRow V3)} {Z : List EyI} {x z : EyI} {R : List Ey} {h hd : Hd} {r : Rw} {i j : Nat}
def z0 : EyI := (dE, 0)
theorem refL_len : (refL V Z).length = Z.length := List.length_map _
theorem rowsZ_len : (rowsZ Z).length = Z.length := List.length_map _
theorem refL_at (hj : j < Z.length) : (refL V Z).getD j encE.d = headZ V (Z.getD j z0) := by
  unfold refL; rw [List.getD_eq_getElem?_getD, List.getD_eq_getElem?_getD, List.getElem?_map, List.getElem?_eq_getElem hj]; rfl
theorem rowsZ_at (hj : j < Z.length) : (rowsZ Z).getD j dE = (Z.getD j z0).1 := by
  unfold rowsZ; rw [List.getD_eq_getElem?_getD, List.getD_eq_getElem?_getD, List.getElem?_map, List.getElem?_eq_getElem hj]; rfl
theorem z_in (hj : j < Z.length) : Z.getD j z0 ∈ Z := by rw [List.getD_eq_getElem?_getD, List.getElem?_eq_getElem hj]; exact List.getElem_mem _
theorem rowQ_app (hi : i < V.length) : rowQ (V ++ S) i = rowQ V i := by
  unfold rowQ; rw [List.getD_eq_getElem?_getD, List.getD_eq_getElem?_getD, List.getElem?_append_left hi]
theorem RefV.more (hv : RefV V Z) : RefV (V ++ S) Z := ⟨fun z hz => ⟨by have := (hv.ok z hz).1; rw [List.length_append]; omega, by rw [rowQ_app (hv.ok z hz).1]; exact (hv.ok z hz).2⟩⟩
theorem RefV.same (hv : RefV V Z) : refL (V ++ S) Z = refL V Z := by
  unfold refL headZ; exact List.map_congr_left fun z hz => by rw [rowQ_app (hv.ok z hz).1]
theorem RefV.nil : RefV V [] := ⟨fun _ h => by cases h⟩
theorem mem_insZ : z ∈ insZ Z x ↔ z = x ∨ z ∈ Z := by
  unfold insZ
  simp only [List.mem_append, List.mem_cons, List.mem_filter]
  constructor
  · rintro (h | h | h)
    · exact .inr h.1
    · exact .inl h
    · exact .inr h.1
  · rintro (h | h)
    · exact .inr (.inl h)
    · cases q : ltE z.1 x.1
      · exact .inr (.inr ⟨h, rfl⟩)
      · exact .inl ⟨h, rfl⟩
theorem RefV.ins (hv : RefV V Z) (hi : z.2 < V.length) (hr : (rowQ V z.2).2.2 = z.1.2) : RefV V (insZ Z z) := ⟨fun y hy => by
  rcases mem_insZ.1 hy with rfl | hy
  · exact ⟨hi, hr⟩
  · exact hv.ok y hy⟩
theorem insZ_rows : rowsZ (insZ Z z) = insR (rowsZ Z) z.1 := by
  unfold rowsZ insZ insR
  rw [List.map_append, List.map_cons, List.filter_map, List.filter_map]; rfl
theorem insZ_len : (insZ Z z).length = Z.length + 1 := by
  have := congrArg List.length (insZ_rows (Z := Z) (z := z))
  rw [rowsZ_len, insR_len, rowsZ_len] at this; exact this
structure FiZ (Z : List EyI) (h : Hd) (i : Nat) : Prop where
  hi : i ≤ Z.length
  lt : ∀ j, j < i → ltH (Z.getD j z0).1.1 h = true
theorem FiZ.start : FiZ Z h 0 := ⟨Nat.zero_le _, fun j hj => by omega⟩
theorem FiZ.next (f : FiZ Z h i) (hi : i < Z.length) (hl : ltH ((refL V Z).getD i encE.d).1 h = true) : FiZ Z h (i + 1) := ⟨by omega, fun j hj => by
  by_cases e : j = i
  · subst e; rw [refL_at hi] at hl; exact hl
  · exact f.lt j (by omega)⟩
theorem FiZ.ins (f : FiZ Z z.1.1 i) (hs : Rises ltE (rowsZ Z)) (hn : ¬ i < Z.length ∨ ltH ((refL V Z).getD i encE.d).1 z.1.1 = false) : insZ Z z = Z.take i ++ z :: Z.drop i := by
  have h1 : ∀ y ∈ Z.take i, ltE y.1 z.1 = true := fun y hy => by
    obtain ⟨j, hj, e⟩ := List.mem_iff_getElem.1 hy
    rw [List.length_take] at hj
    rw [List.getElem_take] at e
    have := f.lt j (by omega)
    rw [List.getD_eq_getElem?_getD, List.getElem?_eq_getElem (by omega), Option.getD_some, e] at this
    exact this
  have h2 : ∀ y ∈ Z.drop i, ltE y.1 z.1 = false := fun y hy => by
    obtain ⟨j, hj, e⟩ := List.mem_iff_getElem.1 hy
    rw [List.length_drop] at hj
    rw [List.getElem_drop] at e
    have hi : i < Z.length := by omega
    have h3 : ltH (Z.getD i z0).1.1 z.1.1 = false := by
      rcases hn with q | q
      · omega
      · rw [refL_at hi] at q; exact q
    rw [List.getD_eq_getElem?_getD, List.getElem?_eq_getElem hi, Option.getD_some] at h3
    cases q : ltE y.1 z.1 with
    | false => rfl
    | true =>
      rcases Nat.eq_zero_or_pos j with h0 | h0
      · subst h0
        have : Z[i] = y := by rw [← e]; rfl
        rw [this] at h3; exact absurd (show ltH y.1.1 z.1.1 = true from q) (by rw [h3]; simp)
      · have h4 := List.pairwise_iff_getElem.1 hs i (i + j) (by rw [rowsZ_len]; omega) (by rw [rowsZ_len]; omega) (by omega)
        have h5 : ltH Z[i].1.1 y.1.1 = true := by
          unfold rowsZ at h4; rw [List.getElem_map, List.getElem_map, e] at h4; exact h4
        have := ordH.tr _ _ _ h5 q
        rw [this] at h3; cases h3
  unfold insZ
  conv => lhs; rw [← List.take_append_drop i Z]
  rw [List.filter_append, List.filter_append, List.filter_eq_self.2 h1, List.filter_eq_nil_iff.2 fun y hy => by rw [h2 y hy]; simp, List.append_nil,
    List.filter_eq_nil_iff.2 fun y hy => by rw [h1 y hy]; simp, List.filter_eq_self.2 fun y hy => by rw [h2 y hy]; rfl, List.nil_append]
theorem FiZ.list (f : FiZ Z z.1.1 i) (hs : Rises ltE (rowsZ Z)) (hn : ¬ i < Z.length ∨ ltH ((refL V Z).getD i encE.d).1 z.1.1 = false) : refL V (insZ Z z) = (refL V Z).take i ++ headZ V z :: (refL V Z).drop i := by
  rw [f.ins hs hn]; unfold refL; rw [List.map_append, List.map_cons, List.map_take, List.map_drop]
def findR (R : List Ey) (h : Hd) : Int := match R.findIdx? fun e => decide (e.1 = h) with
  | some i => (i : Int)
  | none => -1
theorem findR_some (hi : i < R.length) (h1 : (R.getD i dE).1 = h) (h2 : ∀ j, j < i → (R.getD j dE).1 ≠ h) : findR R h = (i : Int) := by
  unfold findR
  have : R.findIdx? (fun e => decide (e.1 = h)) = some i := by
    rw [List.findIdx?_eq_some_iff_getElem]
    refine ⟨hi, ?_, fun j hj => ?_⟩
    · rw [List.getD_eq_getElem?_getD, List.getElem?_eq_getElem hi] at h1; simpa using h1
    · have := h2 j hj
      rw [List.getD_eq_getElem?_getD, List.getElem?_eq_getElem (by omega)] at this; simpa using this
  rw [this]
theorem findR_none (h2 : ∀ j, j < R.length → (R.getD j dE).1 ≠ h) : findR R h = -1 := by
  unfold findR
  have : R.findIdx? (fun e => decide (e.1 = h)) = none := by
    rw [List.findIdx?_eq_none_iff]
    intro e he
    obtain ⟨j, hj, q⟩ := List.mem_iff_getElem.1 he
    have := h2 j hj
    rw [List.getD_eq_getElem?_getD, List.getElem?_eq_getElem hj] at this
    rw [← q]; simpa using this
  rw [this]
theorem find_no (hj : j < Z.length) (hn : ¬ (((refL V Z).getD j encE.d).1.1 = h.1 ∧ ((refL V Z).getD j encE.d).1.2 = h.2)) : ((rowsZ Z).getD j dE).1 ≠ h := fun e => hn (by
  rw [refL_at hj]; rw [rowsZ_at hj] at e; exact pt_eq'.2 e)
theorem find_next (hI : ∀ m, m < j → ((rowsZ Z).getD m dE).1 ≠ h) (hj : j < Z.length) (hn : ¬ (((refL V Z).getD j encE.d).1.1 = h.1 ∧ ((refL V Z).getD j encE.d).1.2 = h.2)) (m : Nat) (hm : m < j + 1) : ((rowsZ Z).getD m dE).1 ≠ h := by
  by_cases e : m = j
  · subst e; exact find_no hj hn
  · exact hI m (by omega)
theorem findR_has : 0 ≤ findR R h ↔ hasK R h = true := by
  unfold findR hasK
  cases q : R.findIdx? fun e => decide (e.1 = h) with
  | some i =>
    have := (List.findIdx?_eq_some_iff_getElem.1 q)
    obtain ⟨h1, h2, _⟩ := this
    exact ⟨fun _ => List.any_eq_true.2 ⟨R[i], List.getElem_mem _, h2⟩, fun _ => Int.natCast_nonneg _⟩
  | none =>
    have := List.findIdx?_eq_none_iff.1 q
    constructor
    · intro h; exact absurd h (by decide)
    · intro h; obtain ⟨e, he, q⟩ := List.any_eq_true.1 h; rw [this e he] at q; cases q
end
set_option maxHeartbeats 4000000 in
theorem qFind (E : Nat → Addr) (V : List (PRow V3)) (Z : List EyI) (n k : Nat) (hd : Hd) (h : n = Z.length ∧ Z.length ≤ 1000000) : Does (Gm E) 37 ⟨[.ptr 0 0, .agg [.int .i64 hd.1, .int .i64 hd.2]], [(0, .cells 70 [.sl 1 n k]), (1, .arr ((Int × Int) × Hdr) encE 37 (refL V Z) k)], 2, 2, Unit, fun _ => True, fun _ => .int .i64 (findR (rowsZ Z) hd), fun _ => [(0, .cells 70 [.sl 1 n k]), (1, .arr ((Int × Int) × Hdr) encE 37 (refL V Z) k)]⟩ := by
  obtain ⟨rfl, hm⟩ := h
  refine fn_intro (gmOk E) 23 2 [] Tryz.func37 rfl rfl rfl rfl rfl ?_
  repeat' first | with_reducible rfl | (intro h; first | (exfalso; omega; done) | skip) | (refine And.intro ?_ ?_) | exact True.intro | (refine @Exists.intro Unit _ () ?_) | (refine @Exists.intro (_ = _) _ rfl ?_) | (change NextGoal _ _ _; refine next_go ?_) | (change LoopGoal _ _ _ _ _ _; refine loop_keep 2 [3, 10, 11] (gmOk E) rfl [] (X := Nat) (fun x => [(12, .int .i64 ((x : Nat) : Int))]) (fun x => []) [] (fun x => x ≤ Z.length ∧ ∀ j, j < x → ((rowsZ Z).getD j dE).1 ≠ hd) (fun x => Z.length - x) ⟨0, ?_⟩ (fun x hI => ?_)) | (change @Exists (Nat) (fun _ => updPK _ _ _ _ _ _); refine @Exists.intro (Nat) _ (x + 1) ?_)
  all_goals first
| (dsimp only; first | rfl | omega)
| rfl
| omega
| exact Nat.zero_le _
| (rw [refL_len]; omega)
| (show _ < _; rw [refL_len]; omega)
| exact (findR_some (i := x) (by rw [rowsZ_len]; omega) (by rw [rowsZ_at (by omega)]; have q := pt_eq'.1 h; rw [show ((x : Nat) : Int).toNat = x from rfl, refL_at (by omega)] at q; exact q) hI.2).symm
| exact (findR_none (fun j hj => hI.2 j (by rw [rowsZ_len] at hj; omega))).symm
| (rename_i hn j hj; exact find_next (V := V) hI.2 (by omega) hn j hj h)
set_option maxHeartbeats 4000000 in
theorem qIns (E : Nat → Addr) (V : List (PRow V3)) (Z : List EyI) (n k : Nat) (z : EyI) (q : PRow V3) (h : n = Z.length ∧ Z.length ≤ 1000000 ∧ Z.length ≤ k ∧ Rises ltE (rowsZ Z) ∧ rowQ V z.2 = q) : Does (Gm E) 125 ⟨[.ptr 0 0, .agg [.int .i64 z.1.1.1, .int .i64 z.1.1.2, .raw (.slice q.1 q.2.2.length q.2.1)]], [(0, .cells 70 [.sl 1 n k]), (1, .arr ((Int × Int) × Hdr) encE 37 (refL V Z) k)], 2, 3, Nat, fun k1 => (refL V (insZ Z z)).length ≤ k1, fun _ => .tup [], fun k1 => [(0, .cells 70 [.sl 2 (refL V (insZ Z z)).length k1]), (1, .arr ((Int × Int) × Hdr) encE 37 (refL V Z) k), (2, .arr ((Int × Int) × Hdr) encE 37 (refL V (insZ Z z)) k1)]⟩ := by
  obtain ⟨rfl, hm, hk, hs, hq⟩ := h
  refine fn_intro (gmOk E) 51 2 [] Tryz.func125 rfl rfl rfl rfl rfl ?_
  repeat' first | with_reducible rfl | (intro h; first | (exfalso; omega; done) | skip) | (refine And.intro ?_ ?_) | exact True.intro | (refine @Exists.intro Unit _ () ?_) | (refine @Exists.intro (_ = _) _ rfl ?_) | (change NextGoal _ _ _; refine next_go ?_) | (change LoopGoal _ _ _ _ _ _; refine loop_keep 2 [0, 3] (gmOk E) rfl [] (X := (Nat × Unit)) (fun x => [(4, .int .i64 ((x.1 : Nat) : Int))]) (fun x => []) [] (fun x => FiZ Z z.1.1 x.1) (fun x => Z.length - x.1) ⟨(0, ()), ?_⟩ (fun x hI => ?_)) | (change @Exists ((Nat × Unit)) (fun _ => updPK _ _ _ _ _ _); refine @Exists.intro ((Nat × Unit)) _ ((x.1 + 1, ())) ?_) | (change DrawGoal _ _ _ _ _ _; first | (change DrawGoal _ _ _ ({ dst := some 6, op := _, type := _, pos := _, after := _, guard := _ } :: _) _ _; refine draw_tree (gmOk E) [0, 1, 2] (.leaf [(0, true), (1, true), (2, true), (3, true), (4, true), (5, true), (6, true), (7, true), (8, true), (9, true), (10, true), (11, true), (12, true), (13, true), (14, true), (15, true), (16, true), (17, true), (18, false), (19, true)]) (by kernel_rfl) ?_)) | (refine @Exists.intro (Nat) _ ?_ ?_; rotate_left) | (change CallGoal _ _ _ _ _ _; first | (refine call0 (ref02less_z E ((refL V Z).getD ((x.1 : Nat) : Int).toNat encE.d).1 z.1.1) [] rfl True.intro rfl ?_))
  all_goals first
| (dsimp only; first | rfl | omega)
| rfl
| omega
| exact FiZ.start
| exact Nat.zero_le _
| (have q1 := hI.hi; first | omega | (rw [refL_len]; omega) | (show _ < _; rw [refL_len]; omega))
| exact hI.next (V := V) (by omega) (by assumption)
| exact Nat.le_refl 1
| (have q1 := hI.hi; first | exact ins3_a (l := refL V Z) (y := x.1) (by rw [refL_len]; omega) | exact ins3_b (l := refL V Z) (q := headZ V z) (y := x.1) (by rw [refL_len]; omega) | (change _ * 40 ≤ _; have e9 : ((x.1 : Nat) : Int).toNat = x.1 := rfl; omega))
| (subst hq; have q1 := hI.hi; exact ins3_b (l := refL V Z) (q := headZ V z) (y := x.1) (by rw [refL_len]; omega))
| (have e := hI.list (V := V) (z := z) hs (by first | exact .inl (by omega) | exact .inr (by assumption)); have q1 := hI.hi; have q2 := ins3_len (l := refL V Z) (y := x.1) (by rw [refL_len]; omega) e; rw [refL_len] at q2; first | exact q2 | exact Nat.le_trans (Nat.le_of_eq q2.symm) (by assumption))
| (have e := hI.list (V := V) (z := z) hs (by first | exact .inl (by omega) | exact .inr (by assumption)); have q1 := hI.hi; have q2 := ins3_eq (l := refL V Z) (q := headZ V z) (y := x.1) (by rw [refL_len]; omega) e; rw [refL_len] at q2; subst hq; exact congrArg (fun q => Ch.arr _ _ _ q _) q2)
end Go.Proofs.YtcnbngiplfoomaaGreatDoor
namespace Go.Proofs.YtcnbngiplfoomaaGreatDoor
open Go.Zz Go.Px
set_option linter.unusedVariables false
set_option linter.unusedSectionVars false
set_option linter.unusedSimpArgs false
set_option maxRecDepth 10000
section
variable {V : List (PRow V3)} {Z : List EyI} {R : List Ey} {m : Nat} {j : Nat}
def masksTo (R : List Ey) (m : Nat) : List Int := ((List.range m).map fun m : Nat => (m : Int)).filter fun m => R.any fun e => decide (mkI e.2 = m)
theorem masksTo_all : masksTo R 1024 = masksR R := rfl
theorem masksTo_next : masksTo R (m + 1) = masksTo R m ++ (if anyM R (m : Int) = true then [(m : Int)] else []) := by
  unfold masksTo anyM
  rw [List.range_succ, List.map_append, List.filter_append]
  congr 1
  rw [List.map_cons, List.map_nil, List.filter_cons, List.filter_nil]
theorem masksTo_len : (masksTo R m).length ≤ m := by
  unfold masksTo; refine Nat.le_trans (List.length_filter_le _ _) ?_; rw [List.length_map, List.length_range]; exact Nat.le_refl _
theorem any_at (hv : RefV V Z) (hj : j < Z.length) (h : ((maskN (rowQ V (Z.getD j z0).2).2.2 : Nat) : Int) = (m : Int)) : anyM (rowsZ Z) (m : Int) = true := by
  unfold anyM
  refine List.any_eq_true.2 ⟨(Z.getD j z0).1, List.mem_map.2 ⟨_, z_in hj, rfl⟩, ?_⟩
  rw [(hv.ok _ (z_in hj)).2] at h
  exact decide_eq_true h
theorem any_none (h : ∀ j, j < Z.length → mkI (Z.getD j z0).1.2 ≠ (m : Int)) : anyM (rowsZ Z) (m : Int) = false := by
  rw [← Bool.not_eq_true]
  intro q
  unfold anyM at q
  obtain ⟨e, he, q⟩ := List.any_eq_true.1 q
  obtain ⟨z, hz, rfl⟩ := List.mem_map.1 he
  obtain ⟨j, hj, e⟩ := List.mem_iff_getElem.1 hz
  refine h j hj ?_
  rw [List.getD_eq_getElem?_getD, List.getElem?_eq_getElem hj, Option.getD_some, e]; exact of_decide_eq_true q
theorem any_step (hv : RefV V Z) (hj : j < Z.length) (hn : ¬ ((maskN (rowQ V (Z.getD j z0).2).2.2 : Nat) : Int) = (m : Int)) (hI : ∀ i, i < j → mkI (Z.getD i z0).1.2 ≠ (m : Int)) (i : Nat) (hi : i < j + 1) : mkI (Z.getD i z0).1.2 ≠ (m : Int) := by
  by_cases e : i = j
  · subst e; rw [(hv.ok _ (z_in hj)).2] at hn; exact hn
  · exact hI i (by omega)
theorem ref_kinds (hv : RefV V Z) (hr : ∀ e ∈ rowsZ Z, rightV e.2 = true) (hj : j < Z.length) : ∀ v ∈ (rowQ V (Z.getD j z0).2).2.2, 0 ≤ v.k ∧ v.k ≤ 9 := by
  rw [(hv.ok _ (z_in hj)).2]; exact right_kinds (hr _ (List.mem_map.2 ⟨_, z_in hj, rfl⟩))
theorem ref_rlen (hv : RefV V Z) (hr : ∀ e ∈ rowsZ Z, rightV e.2 = true) (hj : j < Z.length) : (rowQ V (Z.getD j z0).2).2.2.length ≤ 10 := by
  rw [(hv.ok _ (z_in hj)).2]; exact row_len (hr _ (List.mem_map.2 ⟨_, z_in hj, rfl⟩))
theorem masksTo_yes (hv : RefV V Z) (hj : j < Z.length) (h : ((maskN (rowQ V (Z.getD j z0).2).2.2 : Nat) : Int) = (m : Int)) : (masksTo (rowsZ Z) m).take (masksTo (rowsZ Z) m).length ++ [(m : Int)].take 1 = masksTo (rowsZ Z) (m + 1) := by
  rw [masksTo_next, if_pos (any_at hv hj h), List.take_length]; rfl
theorem masksTo_no (h : ∀ j, j < Z.length → mkI (Z.getD j z0).1.2 ≠ (m : Int)) : masksTo (rowsZ Z) m = masksTo (rowsZ Z) (m + 1) := by
  rw [masksTo_next, if_neg (by rw [any_none h]; simp), List.append_nil]
theorem ref_q (hv : RefV V Z) (hj : j < Z.length) : V[(Z.getD j z0).2]? = some (rowQ V (Z.getD j z0).2) := rowQ_get (hv.ok _ (z_in hj)).1
theorem ref_den {Δ : Env0} {ρ : Rho} (hj : j < Z.length) : (SV.raw (.slice ((refL V Z).getD j encE.d).2.1 ((refL V Z).getD j encE.d).2.2.1 ((refL V Z).getD j encE.d).2.2.2)).den Δ ρ = (rowQ V (Z.getD j z0).2).val := by
  simp only [SV.den]; rw [refL_at hj]; rfl
end
set_option maxHeartbeats 4000000 in
theorem qMasks (E : Nat → Addr) (V : List (PRow V3)) (Z : List EyI) (n k : Nat) (h : n = Z.length ∧ Z.length ≤ 1000000 ∧ RefV V Z ∧ ∀ e ∈ rowsZ Z, rightV e.2 = true) : Does (Gm E) 87 ⟨[.ptr 0 0], [(0, .cells 70 [.sl 1 n k]), (1, .arr ((Int × Int) × Hdr) encE 37 (refL V Z) k), (2, .fo (roPool Zz.encV V))], 3, 4, Nat, fun q => (masksR (rowsZ Z)).length ≤ q, fun q => .sl 3 (masksR (rowsZ Z)).length q, fun q => [(0, .cells 70 [.sl 1 n k]), (1, .arr ((Int × Int) × Hdr) encE 37 (refL V Z) k), (3, .arr Int encU 55 (masksR (rowsZ Z)) q)]⟩ := by
  obtain ⟨rfl, hm, hv, hr⟩ := h
  refine fn_intro (gmOk E) 32 3 [4] Tryz.func87 rfl rfl rfl rfl rfl ?_
  repeat' first | (change CallGoal _ _ _ _ _ _; first | (change CallGoal _ 31 _ _ _ _; first | (refine callG.foOut 2 (Z.getD y.1 z0).2 (rowQ V (Z.getD y.1 z0).2) rfl (ref_q hv (by omega)) ?_; change CallGoal _ _ _ _ _ _; refine call_args [.sl 37 (rowQ V (Z.getD y.1 z0).2).2.2.length (rowQ V (Z.getD y.1 z0).2).2.1] (fun _ => bdLB_ok _ rfl) (fun En V w hp => by simp only [SV.denL]; exact congrArg (fun z => [z]) ((ref_den (by omega)).trans (says (c := 38) rfl hp).symm)) ?_; change CallGoal _ _ _ _ _ _; refine call0 (rmask_z E (rowQ V (Z.getD y.1 z0).2).2.2 _ _ ⟨rfl, by have q := ref_rlen hv hr (j := y.1) (by omega); omega, ref_kinds hv hr (by omega)⟩) [37] rfl (And.intro rfl True.intro) rfl ?_))) | with_reducible rfl | (intro h; first | (exfalso; omega; done) | skip) | (refine And.intro ?_ ?_) | exact True.intro | (refine @Exists.intro Unit _ () ?_) | (refine @Exists.intro (_ = _) _ rfl ?_) | (change NextGoal _ _ _; refine next_go ?_) | (change LoopGoal _ _ _ _ _ _; refine loop_keep 3 [0, 2] (gmOk E) rfl [4] (X := (Nat × Nat)) (fun x => [(4, .int .u64 ((x.1 : Nat) : Int)), (3, .sl 3 (masksTo (rowsZ Z) x.1).length x.2)]) (fun x => [(3, .arr Int encU 55 (masksTo (rowsZ Z) x.1) x.2)]) [] (fun x => x.1 ≤ 1024 ∧ (masksTo (rowsZ Z) x.1).length ≤ x.2) (fun x => 1024 - x.1) ⟨(0, 0), ?_⟩ (fun x hI => ?_)) | (change @Exists ((Nat × Nat)) (fun _ => updPK _ _ _ _ _ _); refine @Exists.intro ((Nat × Nat)) _ ((x.1 + 1, j1.2.1)) ?_) | (change LoopGoal _ _ _ _ _ _; refine loop_keep 6 [0, 2, 4, 9, 15, 16] (gmOk E) rfl [4] (X := (Nat × Unit)) (fun y => [(17, .int .i64 ((y.1 : Nat) : Int)), (3, .sl 3 (masksTo (rowsZ Z) x.1).length x.2)]) (fun y => []) [] (fun y => y.1 ≤ Z.length ∧ ∀ j, j < y.1 → mkI (Z.getD j z0).1.2 ≠ ((x.1 : Nat) : Int)) (fun y => Z.length - y.1) ⟨(0, ()), ?_⟩ (fun y hJ => ?_)) | (change @Exists ((Nat × Unit)) (fun _ => updPK _ _ _ _ _ _); refine @Exists.intro ((Nat × Unit)) _ ((y.1 + 1, ())) ?_) | (change JoinGoal _ _ _ _ _ _ _ _; refine join_keep 4 [0, 2, 4, 9] (gmOk E) rfl (X := (List Int × Nat × Fin 1)) (fun j1 => [(3, .sl 3 j1.1.length j1.2.1)]) (fun j1 => [(3, .arr Int encU 55 j1.1 j1.2.1)]) [] (fun j1 => j1.1 = masksTo (rowsZ Z) (x.1 + 1) ∧ j1.1.length ≤ j1.2.1) ?_ (fun j1 hj1 => ?_)) | (change @Exists ((List Int × Nat × Fin 1)) (fun _ => updPK _ _ _ _ _ _); refine @Exists.intro ((List Int × Nat × Fin 1)) _ ((?_, ?_, 0)) ?_; rotate_left 2) | (refine @Exists.intro (Nat) _ ?_ ?_; rotate_left)
  all_goals first
| (dsimp only; first | rfl | omega)
| rfl
| omega
| exact Nat.zero_le _
| (rw [refL_len]; omega)
| (show _ < _; rw [refL_len]; omega)
| (dsimp only; rw [hj1.1])
| (dsimp only; rw [← hj1.1]; exact hj1.2)
| exact Nat.le_refl 1
| (have q := masksTo_len (R := rowsZ Z) (m := x.1); first | omega | (change _ * 8 ≤ _; omega))
| (dsimp only; rw [List.length_append, List.take_length]; rfl)
| exact masksTo_yes hv (j := y.1) (by omega) (by assumption)
| exact masksTo_no (fun j hj => hJ.2 j (by omega))
| exact hI.2
| (refine Nat.le_trans (Nat.le_of_eq ?_) (by assumption); dsimp only; rw [List.length_append, List.take_length]; rfl)
| (rename_i hn j hj; exact any_step hv (by omega) hn hJ.2 j hj h)
| (rw [show x.1 = 1024 from by omega]; rfl)
| (have e : x.1 = 1024 := by omega
   rw [e] at hI; exact hI.2)
| (have e : x.1 = 1024 := by omega
   rw [e, masksTo_all])
end Go.Proofs.YtcnbngiplfoomaaGreatDoor
namespace Go.Proofs.YtcnbngiplfoomaaGreatDoor
open Go.Zz Go.Px
set_option linter.unusedVariables false
set_option linter.unusedSectionVars false
set_option linter.unusedSimpArgs false
set_option maxRecDepth 10000
section
structure RefOk (V : List (PRow V3)) (R : List Ey) (x : List EyI × Nat) : Prop where
  rows : rowsZ x.1 = R
  ref : RefV V x.1
  room : x.1.length ≤ x.2
noncomputable def refPr (E : Nat → Addr) (V : List (PRow V3)) (R : List Ey) : Pr := exPr (RefOk V R) fun x => grp (Gm E) [(0, .cells 70 [.sl 1 x.1.length x.2]), (1, .arr ((Int × Int) × Hdr) encE 37 (refL V x.1) x.2)]
variable {V S : List (PRow V3)} {R : List Ey} {x : List EyI × Nat} {hd : Hd} {row : Rw} {a : Option Addr} {k k1 : Nat}
theorem RefOk.len (hx : RefOk V R x) : x.1.length = R.length := by have := congrArg List.length hx.rows; rw [rowsZ_len] at this; exact this
theorem RefOk.more (hx : RefOk V R x) : RefOk (V ++ S) R x := ⟨hx.rows, hx.ref.more, hx.room⟩
theorem rowQ_new : rowQ (V ++ [(a, k, row)]) V.length = (a, k, row) := by unfold rowQ; rw [List.getD_eq_getElem?_getD, List.getElem?_append_right (Nat.le_refl _)]; simp
theorem RefOk.ins (hx : RefOk V R x) (hk : (refL (V ++ [(a, k, row)]) (insZ x.1 ((hd, row), V.length))).length ≤ k1) : RefOk (V ++ [(a, k, row)]) (insR R (hd, row)) (insZ x.1 ((hd, row), V.length), k1) :=
  ⟨by rw [insZ_rows, hx.rows], hx.ref.more.ins (by show V.length < (V ++ [(a, k, row)]).length; rw [List.length_append]; simp) (by show (rowQ (V ++ [(a, k, row)]) V.length).2.2 = row; rw [rowQ_new]), by rw [refL_len] at hk; exact hk⟩
theorem find_neg (h : hasK R hd = false) : ¬ 0 ≤ findR R hd := fun q => by rw [findR_has.1 q] at h; cases h
theorem ins_rises (hs : Rises ltE R) (hn : hasK R hd = false) : Rises ltE (insR R (hd, row)) := insR_ris hs fun x hx e => by
  rw [← Bool.not_eq_true, hasK_iff] at hn; exact hn (List.mem_map.2 ⟨x, hx, e⟩)
theorem ins_right (hr : ∀ e ∈ R, rightV e.2 = true) (h : rightV row = true) : ∀ e ∈ insR R (hd, row), rightV e.2 = true := fun e he => by
  rcases mem_insR.1 he with he | rfl
  · exact hr e he
  · exact h
end
set_option maxHeartbeats 4000000 in
theorem qPutHas (E : Nat → Addr) (V : List (PRow V3)) (R : List Ey) (hd : Hd) (row : Rw) (n k : Nat) (h : (n = row.length ∧ row.length ≤ 1000 ∧ R.length ≤ 1000 ∧ Rises ltE R ∧ ∀ e ∈ R, rightV e.2 = true) ∧ hasK R hd = true) : Does (Gm E) 81 ⟨[.ptr 0 0, .agg [.int .i64 hd.1, .int .i64 hd.2], .sl 2 n k], [(0, .pr (refPr E V R)), (1, .pr (poolPr Zz.encV 34 V)), (2, .ro V3 Zz.encV row k)], 3, 3, Unit, fun _ => True, fun _ => .int .i64 4, fun S => [(0, .pr (refPr E V R)), (1, .pr (poolPr Zz.encV 34 V))]⟩ := by
  obtain ⟨⟨rfl, hl, hR, hs, hri⟩, hh⟩ := h
  refine DoesC.does (fn_start Tryz.func81 rfl rfl rfl ?_)
  change EntryGoal _ _ _ _ _
  refine entryG.ex 0 rfl (fun x hx => ?_)
  change EntryGoal _ _ _ _ _
  refine entryG.open_ 0 rfl 2 rfl rfl ?_
  change EntryGoal _ _ _ _ _
  refine entry_go (gmOk E) 40 3 [] Tryz.func81 rfl rfl rfl rfl ?_
  repeat' first | (change RetGoal _ _ _ _ _; first | (refine retG'.shut (Γ0 := Gm E) rfl (.cells 70 [.sl 1 (x).1.length (x).2]) [(1, .arr ((Int × Int) × Hdr) encE 37 (refL V (x).1) (x).2)] [0, 4] (And.intro rfl (And.intro rfl True.intro)) rfl ?_; change RetGoal _ _ _ _ _; refine retG'.hide (X := (List EyI × Nat)) (p := RefOk V R) (Φ := fun x => grp (Gm E) [(0, .cells 70 [.sl 1 x.1.length x.2]), (1, .arr ((Int × Int) × Hdr) encE 37 (refL V x.1) x.2)]) 0 (x) (hx) rfl ?_; change RetGoal _ _ _ _ _; refine ret_done rfl ?_)) | (intro h; first | (exfalso; omega; done) | (exfalso; first | exact h trivial | omega | (rw [hx.rows] at h; exact find_neg hh h) | (rw [hx.rows] at h; exact h (findR_has.2 hh)) | (rw [hr] at h; cases h; done); done) | skip) | (refine And.intro ?_ ?_) | exact True.intro | (refine @Exists.intro Unit _ () ?_) | (refine @Exists.intro (_ = _) _ rfl ?_) | (change CallGoal _ _ _ _ _ _; first | (refine call_rule (qFind E V x.1 _ x.2 hd ⟨rfl, by have := hx.len; omega⟩) [0, 4] rfl (And.intro rfl (And.intro rfl True.intro)) rfl (fun (y1 : Unit) hy1 => ?_)))
  all_goals first | rfl | omega | (change _ * 24 ≤ _; omega)
set_option maxHeartbeats 4000000 in
theorem qPutForm (E : Nat → Addr) (V : List (PRow V3)) (R : List Ey) (hd : Hd) (row : Rw) (n k : Nat) (h : (n = row.length ∧ row.length ≤ 1000 ∧ R.length ≤ 1000 ∧ Rises ltE R ∧ ∀ e ∈ R, rightV e.2 = true) ∧ hasK R hd = false ∧ rightV row = false) : Does (Gm E) 81 ⟨[.ptr 0 0, .agg [.int .i64 hd.1, .int .i64 hd.2], .sl 2 n k], [(0, .pr (refPr E V R)), (1, .pr (poolPr Zz.encV 34 V)), (2, .ro V3 Zz.encV row k)], 3, 3, Unit, fun _ => True, fun _ => .int .i64 7, fun S => [(0, .pr (refPr E V R)), (1, .pr (poolPr Zz.encV 34 V))]⟩ := by
  obtain ⟨⟨rfl, hl, hR, hs, hri⟩, hh, hr⟩ := h
  refine DoesC.does (fn_start Tryz.func81 rfl rfl rfl ?_)
  change EntryGoal _ _ _ _ _
  refine entryG.ex 0 rfl (fun x hx => ?_)
  change EntryGoal _ _ _ _ _
  refine entryG.open_ 0 rfl 2 rfl rfl ?_
  change EntryGoal _ _ _ _ _
  refine entry_go (gmOk E) 40 3 [] Tryz.func81 rfl rfl rfl rfl ?_
  repeat' first | (change RetGoal _ _ _ _ _; first | (refine retG'.shut (Γ0 := Gm E) rfl (.cells 70 [.sl 1 (x).1.length (x).2]) [(1, .arr ((Int × Int) × Hdr) encE 37 (refL V (x).1) (x).2)] [0, 4] (And.intro rfl (And.intro rfl True.intro)) rfl ?_; change RetGoal _ _ _ _ _; refine retG'.hide (X := (List EyI × Nat)) (p := RefOk V R) (Φ := fun x => grp (Gm E) [(0, .cells 70 [.sl 1 x.1.length x.2]), (1, .arr ((Int × Int) × Hdr) encE 37 (refL V x.1) x.2)]) 0 (x) (hx) rfl ?_; change RetGoal _ _ _ _ _; refine ret_done rfl ?_)) | (intro h; first | (exfalso; omega; done) | (exfalso; first | exact h trivial | omega | (rw [hx.rows] at h; exact find_neg hh h) | (rw [hx.rows] at h; exact h (findR_has.2 hh)) | (rw [hr] at h; cases h; done); done) | skip) | (refine And.intro ?_ ?_) | exact True.intro | (refine @Exists.intro Unit _ () ?_) | (refine @Exists.intro (_ = _) _ rfl ?_) | (change CallGoal _ _ _ _ _ _; first | (refine call_rule (qFind E V x.1 _ x.2 hd ⟨rfl, by have := hx.len; omega⟩) [0, 4] rfl (And.intro rfl (And.intro rfl True.intro)) rfl (fun (y1 : Unit) hy1 => ?_))) | (change CallGoal _ _ _ _ _ _; first | (refine call0 (rright_z E row _ k ⟨rfl, hl⟩) [2] rfl (And.intro rfl True.intro) rfl ?_))
  all_goals first | rfl | omega | (change _ * 24 ≤ _; omega)
set_option maxHeartbeats 4000000 in
theorem qPutFull (E : Nat → Addr) (V : List (PRow V3)) (R : List Ey) (hd : Hd) (row : Rw) (n k : Nat) (h : (n = row.length ∧ row.length ≤ 1000 ∧ R.length ≤ 1000 ∧ Rises ltE R ∧ ∀ e ∈ R, rightV e.2 = true) ∧ hasK R hd = false ∧ rightV row = true ∧ R.length < 128 ∧ 32 < (masksR (insR R (hd, row))).length) : Does (Gm E) 81 ⟨[.ptr 0 0, .agg [.int .i64 hd.1, .int .i64 hd.2], .sl 2 n k], [(0, .pr (refPr E V R)), (1, .pr (poolPr Zz.encV 34 V)), (2, .ro V3 Zz.encV row k)], 3, 3, (List (PRow V3)), fun _ => True, fun _ => .int .i64 2, fun S => [(0, .pr (refPr E (V ++ S) R)), (1, .pr (poolPr Zz.encV 34 (V ++ S)))]⟩ := by
  obtain ⟨⟨rfl, hl, hR, hs, hri⟩, hh, hr, h128, hmm⟩ := h
  refine DoesC.does (fn_start Tryz.func81 rfl rfl rfl ?_)
  change EntryGoal _ _ _ _ _
  refine entryG.ex 0 rfl (fun x hx => ?_)
  change EntryGoal _ _ _ _ _
  refine entryG.open_ 0 rfl 2 rfl rfl ?_
  change EntryGoal _ _ _ _ _
  refine entry_go (gmOk E) 40 3 [] Tryz.func81 rfl rfl rfl rfl ?_
  repeat' first | (change CallGoal _ _ _ _ _ _; first | (change CallGoal _ 125 _ _ _ _; first | (rename_i kc; refine callG.cast 7 (.arr V3 Zz.encV 34 row kc) rfl (by rw [List.take_length]; rfl) ?_; change CallGoal _ _ _ _ _ _; refine callG.poolAdd 1 7 rfl rfl rfl (fun a => ?_); change CallGoal _ _ _ _ _ _; refine callG.cast 4 (.arr ((Int × Int) × Hdr) encE 37 (refL (V ++ [(a, kc, row)]) x.1) x.2) rfl (by rw [hx.ref.same]) ?_; change CallGoal _ _ _ _ _ _; refine call_args [.ptr 0 0, .agg [.int .i64 hd.1, .int .i64 hd.2, .raw (.slice a row.length kc)]] (fun _ => bdLB_ok _ rfl) (fun En V_ w hp => by have q := says (c := 8) rfl hp; simp only [SV.denL, SV.den, Nat.zero_add] at q ⊢; rw [q]) ?_; change CallGoal _ _ _ _ _ _; refine call_rule (qIns E (V ++ [(a, kc, row)]) x.1 _ x.2 ((hd, row), V.length) (a, kc, row) ⟨rfl, by have := hx.len; omega, hx.room, by rw [hx.rows]; exact hs, rowQ_new⟩) [0, 4] rfl (And.intro rfl (And.intro rfl True.intro)) rfl (fun (k1 : Nat) hk1 => ?_))) | (change CallGoal _ 87 _ _ _ _; first | (refine call_rule (qMasks E (V ++ [(a, kc, row)]) (insZ x.1 ((hd, row), V.length)) _ k1 ⟨refL_len.symm ▸ rfl, by rw [insZ_len]; have := hx.len; omega, (hx.ins hk1).ref, by rw [insZ_rows, hx.rows]; exact ins_right hri hr⟩) [0, 9, 1] rfl (And.intro rfl (And.intro rfl (And.intro lends_pool True.intro))) rfl (fun (q9 : Nat) hq9 => ?_)))) | (change RetGoal _ _ _ _ _; first | (refine retG'.shut (Γ0 := Gm E) rfl (.cells 70 [.sl 1 (x).1.length (x).2]) [(1, .arr ((Int × Int) × Hdr) encE 37 (refL (V ++ [(a, kc, row)]) (x).1) (x).2)] [0, 4] (And.intro rfl (And.intro rfl True.intro)) rfl ?_; change RetGoal _ _ _ _ _; refine retG'.hide (X := (List EyI × Nat)) (p := RefOk (V ++ [(a, kc, row)]) R) (Φ := fun x => grp (Gm E) [(0, .cells 70 [.sl 1 x.1.length x.2]), (1, .arr ((Int × Int) × Hdr) encE 37 (refL (V ++ [(a, kc, row)]) x.1) x.2)]) 0 (x) (hx.more) rfl ?_; change RetGoal _ _ _ _ _; refine ret_done rfl ⟨[(a, kc, row)], ?_⟩)) | (intro h; first | (exfalso; omega; done) | (exfalso; first | exact h trivial | omega | (rw [hx.rows] at h; exact find_neg hh h) | (rw [hx.rows] at h; exact h (findR_has.2 hh)) | (rw [hr] at h; cases h; done) | (have := hx.len; omega) | (have e := congrArg (fun R => (masksR R).length) (insZ_rows (Z := x.1) (z := ((hd, row), V.length))); rw [hx.rows] at e; first | omega | (dsimp only at e; omega)); done) | skip) | (refine And.intro ?_ ?_) | exact True.intro | (refine @Exists.intro Unit _ () ?_) | (refine @Exists.intro (_ = _) _ rfl ?_) | (change DrawGoal _ _ _ _ _ _; first | (change DrawGoal _ _ _ ({ dst := some 25, op := _, type := _, pos := _, after := _, guard := _ } :: _) _ _; refine draw_tree (gmOk E) [2, 5] (.leaf [(0, true), (1, true), (3, true), (2, false), (4, false), (5, true), (6, false)]) (by kernel_rfl) ?_)) | (change CallGoal _ _ _ _ _ _; first | (refine call_rule (qFind E V x.1 _ x.2 hd ⟨rfl, by have := hx.len; omega⟩) [0, 4] rfl (And.intro rfl (And.intro rfl True.intro)) rfl (fun (y1 : Unit) hy1 => ?_))) | (change CallGoal _ _ _ _ _ _; first | (refine call0 (rright_z E row _ k ⟨rfl, hl⟩) [2] rfl (And.intro rfl True.intro) rfl ?_))
  all_goals first | rfl | omega | (change _ * 24 ≤ _; omega)
set_option maxHeartbeats 4000000 in
theorem qPutY (E : Nat → Addr) (V : List (PRow V3)) (R : List Ey) (hd : Hd) (row : Rw) (n k : Nat) (h : (n = row.length ∧ row.length ≤ 1000 ∧ R.length ≤ 1000 ∧ Rises ltE R ∧ ∀ e ∈ R, rightV e.2 = true) ∧ hasK R hd = false ∧ rightV row = true ∧ R.length < 128 ∧ (masksR (insR R (hd, row))).length ≤ 32) : Does (Gm E) 81 ⟨[.ptr 0 0, .agg [.int .i64 hd.1, .int .i64 hd.2], .sl 2 n k], [(0, .pr (refPr E V R)), (1, .pr (poolPr Zz.encV 34 V)), (2, .ro V3 Zz.encV row k)], 3, 3, (List (PRow V3)), fun _ => True, fun _ => .int .i64 0, fun S => [(0, .pr (refPr E (V ++ S) (insR R (hd, row)))), (1, .pr (poolPr Zz.encV 34 (V ++ S)))]⟩ := by
  obtain ⟨⟨rfl, hl, hR, hs, hri⟩, hh, hr, h128, hmm⟩ := h
  refine DoesC.does (fn_start Tryz.func81 rfl rfl rfl ?_)
  change EntryGoal _ _ _ _ _
  refine entryG.ex 0 rfl (fun x hx => ?_)
  change EntryGoal _ _ _ _ _
  refine entryG.open_ 0 rfl 2 rfl rfl ?_
  change EntryGoal _ _ _ _ _
  refine entry_go (gmOk E) 40 3 [] Tryz.func81 rfl rfl rfl rfl ?_
  repeat' first | (change CallGoal _ _ _ _ _ _; first | (change CallGoal _ 125 _ _ _ _; first | (rename_i kc; refine callG.cast 7 (.arr V3 Zz.encV 34 row kc) rfl (by rw [List.take_length]; rfl) ?_; change CallGoal _ _ _ _ _ _; refine callG.poolAdd 1 7 rfl rfl rfl (fun a => ?_); change CallGoal _ _ _ _ _ _; refine callG.cast 4 (.arr ((Int × Int) × Hdr) encE 37 (refL (V ++ [(a, kc, row)]) x.1) x.2) rfl (by rw [hx.ref.same]) ?_; change CallGoal _ _ _ _ _ _; refine call_args [.ptr 0 0, .agg [.int .i64 hd.1, .int .i64 hd.2, .raw (.slice a row.length kc)]] (fun _ => bdLB_ok _ rfl) (fun En V_ w hp => by have q := says (c := 8) rfl hp; simp only [SV.denL, SV.den, Nat.zero_add] at q ⊢; rw [q]) ?_; change CallGoal _ _ _ _ _ _; refine call_rule (qIns E (V ++ [(a, kc, row)]) x.1 _ x.2 ((hd, row), V.length) (a, kc, row) ⟨rfl, by have := hx.len; omega, hx.room, by rw [hx.rows]; exact hs, rowQ_new⟩) [0, 4] rfl (And.intro rfl (And.intro rfl True.intro)) rfl (fun (k1 : Nat) hk1 => ?_))) | (change CallGoal _ 87 _ _ _ _; first | (refine call_rule (qMasks E (V ++ [(a, kc, row)]) (insZ x.1 ((hd, row), V.length)) _ k1 ⟨refL_len.symm ▸ rfl, by rw [insZ_len]; have := hx.len; omega, (hx.ins hk1).ref, by rw [insZ_rows, hx.rows]; exact ins_right hri hr⟩) [0, 9, 1] rfl (And.intro rfl (And.intro rfl (And.intro lends_pool True.intro))) rfl (fun (q9 : Nat) hq9 => ?_)))) | (change RetGoal _ _ _ _ _; first | (refine retG'.cells_ 0 [.sl 9 (insZ x.1 ((hd, row), V.length)).length k1] rfl rfl (fun En V_ w hp => by simp only [SV.denL, SV.den]; rw [refL_len]; rfl) ?_; change RetGoal _ _ _ _ _; refine retG'.shut (Γ0 := Gm E) rfl (.cells 70 [.sl 1 ((insZ x.1 ((hd, row), V.length), k1)).1.length ((insZ x.1 ((hd, row), V.length), k1)).2]) [(1, .arr ((Int × Int) × Hdr) encE 37 (refL (V ++ [(a, kc, row)]) ((insZ x.1 ((hd, row), V.length), k1)).1) ((insZ x.1 ((hd, row), V.length), k1)).2)] [0, 9] (And.intro rfl (And.intro rfl True.intro)) rfl ?_; change RetGoal _ _ _ _ _; refine retG'.hide (X := (List EyI × Nat)) (p := RefOk (V ++ [(a, kc, row)]) (insR R (hd, row))) (Φ := fun x => grp (Gm E) [(0, .cells 70 [.sl 1 x.1.length x.2]), (1, .arr ((Int × Int) × Hdr) encE 37 (refL (V ++ [(a, kc, row)]) x.1) x.2)]) 0 ((insZ x.1 ((hd, row), V.length), k1)) (hx.ins hk1) rfl ?_; change RetGoal _ _ _ _ _; refine ret_done rfl ⟨[(a, kc, row)], ?_⟩)) | (intro h; first | (exfalso; omega; done) | (exfalso; first | exact h trivial | omega | (rw [hx.rows] at h; exact find_neg hh h) | (rw [hx.rows] at h; exact h (findR_has.2 hh)) | (rw [hr] at h; cases h; done) | (have := hx.len; omega) | (have e := congrArg (fun R => (masksR R).length) (insZ_rows (Z := x.1) (z := ((hd, row), V.length))); rw [hx.rows] at e; first | omega | (dsimp only at e; omega)); done) | skip) | (refine And.intro ?_ ?_) | exact True.intro | (refine @Exists.intro Unit _ () ?_) | (refine @Exists.intro (_ = _) _ rfl ?_) | (change DrawGoal _ _ _ _ _ _; first | (change DrawGoal _ _ _ ({ dst := some 25, op := _, type := _, pos := _, after := _, guard := _ } :: _) _ _; refine draw_tree (gmOk E) [2, 5] (.leaf [(0, true), (1, true), (3, true), (2, false), (4, false), (5, true), (6, false)]) (by kernel_rfl) ?_)) | (change CallGoal _ _ _ _ _ _; first | (refine call_rule (qFind E V x.1 _ x.2 hd ⟨rfl, by have := hx.len; omega⟩) [0, 4] rfl (And.intro rfl (And.intro rfl True.intro)) rfl (fun (y1 : Unit) hy1 => ?_))) | (change CallGoal _ _ _ _ _ _; first | (refine call0 (rright_z E row _ k ⟨rfl, hl⟩) [2] rfl (And.intro rfl True.intro) rfl ?_))
  all_goals first | rfl | omega | (change _ * 24 ≤ _; omega)
end Go.Proofs.YtcnbngiplfoomaaGreatDoor
