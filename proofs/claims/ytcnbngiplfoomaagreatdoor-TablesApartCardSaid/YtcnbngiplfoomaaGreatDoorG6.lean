/- A part of the proof: texts put together. -/
import Derived.Shelf.Spec.TrailingZeros
import Derived.Test.YtcnbngiplfoomaaGreatDoorG5
import Derived.Test.YtcnbngiplfoomaaGreatDoorSh
import Derived.Test.YtcnbngiplfoomaaGreatDoorG4
import Derived.Test.YtcnbngiplfoomaaGreatDoorG3
set_option linter.unusedSectionVars false
set_option linter.unusedSimpArgs false
set_option linter.unusedVariables false
namespace Go.Proofs.YtcnbngiplfoomaaGreatDoor
open Go.Zz Go.Px
set_option linter.unusedVariables false
set_option linter.unusedSectionVars false
set_option linter.unusedSimpArgs false
set_option maxRecDepth 10000
open Go.Proofs
def tzF (g : Nat) : PrF where
  ok _ F w := TabAt g Lib.deBruijn64tab w ∧ ¬ F g ∧ g < w.heap.size
  carry := by
    rintro a F F' w w' ⟨h1, h2, h3⟩ hk hF
    refine ⟨fun j hj => hk.cell (h1 j hj) h2, fun hf => ?_, Nat.lt_of_lt_of_le h3 hk.size⟩
    rcases hF _ hf with h | h
    · exact h2 h
    · omega
theorem tz_z (E : Nat → Addr) (x : Nat) (h : x < 18446744073709551616) : Does (Gm E) 154 (Sp0 [.int .u64 ((x : Nat) : Int)] [(0, .fo (tzF 10))] 1 (.int .i64 ((Lib.ctz 64 x : Nat) : Int))) := by
  refine Does.of_calls (by exact ⟨_, Tryz.func154, rfl, rfl⟩) (by simp only [SV.bdL, SV.bd, and_self]) (hbB_ok rfl) (by simp only [SV.bd]) fun V w hp => ?_
  obtain ⟨⟨h1, h2, h3⟩, _⟩ := hp.hr.ok 0 _ rfl
  have h1 : TabAt 10 Lib.deBruijn64tab w := fun j hj => hp.hr.keep.cell (h1 j hj) h2
  refine Calls.mono (Any7.bits_TrailingZeros64 Tryz.tz x h w fun _ => h1) fun e w' he => ?_
  obtain ⟨rfl, rfl⟩ := he
  exact ⟨_, rfl, by simp only [SV.den], Keep.refl _ _⟩
def kindsN (m : Nat) : List Int := ((List.range 10).filter fun k => m.testBit k).map fun k : Nat => (k : Int)
theorem kinds_step : ∀ r : Nat, r < 1024 → r ≠ 0 → kindsN r = ((Lib.ctz 64 r : Nat) : Int) :: kindsN (r &&& (r - 1)) ∧ (r &&& (r - 1)) < r := by decide +kernel
theorem kindsN_zero : kindsN 0 = [] := by decide
theorem kindsN_len (m : Nat) : (kindsN m).length ≤ 10 := by unfold kindsN; rw [List.length_map]; exact Nat.le_trans (List.length_filter_le _ _) (by simp)
structure KI (m r : Nat) (l : List Int) : Prop where
  lt : r < 1024
  eq : l ++ kindsN r = kindsN m
theorem KI.start {m : Nat} (h : m < 1024) : KI m m [] := ⟨h, rfl⟩
theorem KI.next {m r : Nat} {l : List Int} (h : KI m r l) (hr : ¬ ((r : Nat) : Int) = 0) : KI m (r &&& (r - 1)) (l ++ [((Lib.ctz 64 r : Nat) : Int)]) := by
  have q := kinds_step r h.lt (by omega)
  refine ⟨by have := h.lt; omega, ?_⟩
  rw [← h.eq, q.1, List.append_assoc]; rfl
theorem KI.less {m r : Nat} {l : List Int} (h : KI m r l) (hr : ¬ ((r : Nat) : Int) = 0) : (r &&& (r - 1)) < r := (kinds_step r h.lt (by omega)).2
theorem KI.done {m r : Nat} {l : List Int} (h : KI m r l) (hr : ((r : Nat) : Int) = 0) : l = kindsN m := by
  obtain rfl : r = 0 := by omega
  have := h.eq; rw [kindsN_zero, List.append_nil] at this; exact this
theorem KI.len {m r : Nat} {l : List Int} (h : KI m r l) : l.length ≤ 10 := by have := congrArg List.length h.eq; rw [List.length_append] at this; have := kindsN_len m; omega
theorem and_pred {r : Nat} (h : r < 1024) (hr : ¬ ((r : Nat) : Int) = 0) : bitI .and .u64 (r : Int) ((r : Int) - 1) = ((r &&& (r - 1) : Nat) : Int) := by
  rw [show ((r : Int) - 1) = ((r - 1 : Nat) : Int) by omega]; exact bitI_and (by omega) (by omega)
set_option maxHeartbeats 1000000 in
theorem kinds_z (E : Nat → Addr) (m : Nat) (h : m < 1024) : Does (Gm E) 136 ⟨[.int .u64 ((m : Nat) : Int)], [(0, .fo (tzF 10))], 1, 2, Nat, fun k => (kindsN m).length ≤ k, fun k => .sl 1 (kindsN m).length k, fun k => [(1, .arr Int Zz.encI 3 (kindsN m) k)]⟩ := by
  rename m < 1024 => hm
  refine fn_intro (gmOk E) 18 1 [] Tryz.func136 rfl rfl rfl rfl rfl ?_
  repeat' first | (intro h; first | (exfalso; omega; done) | skip) | (refine And.intro ?_ ?_) | exact True.intro | (refine @Exists.intro Unit _ () ?_) | (refine @Exists.intro (_ = _) _ rfl ?_) | (change LoopGoal _ _ _ _ _ _; refine loop_at 3 (gmOk E) rfl [] (X := (Nat × List Int × Nat)) (fun x => [(4, .int .u64 ((x.1 : Nat) : Int)), (3, .sl 2 x.2.1.length x.2.2)]) (fun x => [(2, .arr Int Zz.encI 3 x.2.1 x.2.2)]) [] (fun x => KI m x.1 x.2.1 ∧ x.2.1.length ≤ x.2.2) (fun x => x.1) ⟨(m, [], 0), ?_⟩ (fun x hI => ?_)) | (change @Exists ((Nat × List Int × Nat)) (fun _ => updK _ _ _ _ _ _); refine @Exists.intro ((Nat × List Int × Nat)) _ ((x.1 &&& (x.1 - 1), x.2.1 ++ [((Lib.ctz 64 x.1 : Nat) : Int)], ?_)) ?_; rotate_left 1) | (refine @Exists.intro (Nat) _ ?_ ?_; rotate_left) | (change CallGoal _ _ _ _ _ _; first | (refine call0 (tz_z E x.1 (by have q := hI.1.lt; omega)) [0] rfl (And.intro rfl True.intro) rfl ?_))
  all_goals first
| (dsimp only; first | rfl | omega)
| rfl
| omega
| exact KI.start hm
| exact Nat.le_refl _
| exact hI.1.next ‹_›
| exact hI.1.less ‹_›
| (have q := hI.1.len; first | omega | (change _ * 8 ≤ _; omega))
| (have q := hI.1.lt; omega)
| (dsimp only; rw [List.length_append]; first | done | rfl | exact h)
| (dsimp only; rw [List.take_length]; rfl)
| (dsimp only; exact and_pred hI.1.lt ‹_›)
| (dsimp only; exact (and_pred hI.1.lt ‹_›).symm)
| exact congrArg List.length (hI.1.done (Classical.not_not.1 h))
| exact congrArg (fun q => Ch.arr _ _ _ q _) (hI.1.done (Classical.not_not.1 h))
| (rw [← hI.1.done (Classical.not_not.1 h)]; exact hI.2)
end Go.Proofs.YtcnbngiplfoomaaGreatDoor
namespace Go.Proofs.YtcnbngiplfoomaaGreatDoor
open Go.Zz Go.Px
set_option linter.unusedVariables false
set_option linter.unusedSectionVars false
set_option linter.unusedSimpArgs false
set_option maxRecDepth 10000
def ltZ (a b : Int) : Bool := decide (a < b)
theorem ordZ : Ord ltZ := ⟨fun x => by simp [ltZ], fun x y z h1 h2 => by simp only [ltZ, decide_eq_true_eq] at *; omega, fun x y => by simp only [ltZ, decide_eq_true_eq]; omega⟩
theorem kindsN_mem {m : Nat} {k : Int} : k ∈ kindsN m ↔ (0 ≤ k ∧ k ≤ 9) ∧ m.testBit k.toNat = true := by
  unfold kindsN
  simp only [List.mem_map, List.mem_filter, List.mem_range]
  constructor
  · rintro ⟨j, ⟨h1, h2⟩, rfl⟩; exact ⟨by omega, by simpa using h2⟩
  · rintro ⟨h1, h2⟩; exact ⟨k.toNat, ⟨by omega, h2⟩, by omega⟩
theorem kindsN_ris (m : Nat) : Rises ltZ (kindsN m) := by
  unfold kindsN Rises
  refine List.Pairwise.map _ (fun a b h => by simp only [ltZ, decide_eq_true_eq]; omega) (R := fun a b : Nat => a < b) ?_
  exact List.pairwise_lt_range.filter _
theorem kindsN_nd (m : Nat) : (kindsN m).Nodup := (kindsN_ris m).nodup ordZ
theorem row_kinds {r : Rw} (hr : rightV r = true) : kindsN (maskN r) = r.map (·.k) := by
  refine Rises.ext ordZ (kindsN_ris _) ?_ fun k => ?_
  · exact List.Pairwise.map _ (fun a b h => by simp only [ltZ, decide_eq_true_eq]; exact h) (right_strict hr)
  · rw [kindsN_mem, maskN_bit, List.mem_map]
    simp only [List.any_eq_true, beq_iff_eq]
    constructor
    · rintro ⟨h1, v, hv, e⟩; have := right_kinds hr v hv; exact ⟨v, hv, by omega⟩
    · rintro ⟨v, hv, rfl⟩; have := right_kinds hr v hv; exact ⟨by omega, v, hv, rfl⟩
theorem row_nd {r : Rw} (hr : rightV r = true) : (r.map (·.k)).Nodup := noDup_iff.1 (rightV_parts hr).2
theorem find_in : ∀ {r : Rw} {v : V3}, (r.map (·.k)).Nodup → v ∈ r → findV r v.k = v
  | u :: r, v, hn, hv => by
    rw [List.map_cons, List.nodup_cons] at hn
    unfold findV
    rw [List.find?_cons]
    rcases List.mem_cons.1 hv with rfl | hv
    · simp
    · have : (u.k == v.k) = false := by simp; exact fun e => hn.1 (e ▸ List.mem_map.2 ⟨v, hv, rfl⟩)
      rw [this]; exact find_in hn.2 hv
theorem row_eq {r : Rw} (hr : rightV r = true) : (kindsN (maskN r)).map (findV r) = r := by
  rw [row_kinds hr, List.map_map]
  exact (List.map_congr_left fun v hv => find_in (row_nd hr) hv).trans (List.map_id _)
theorem row_len {r : Rw} (hr : rightV r = true) : r.length ≤ 10 := by
  have := congrArg List.length (row_kinds hr); rw [List.length_map] at this; have := kindsN_len (maskN r); omega
def colOf (es : List Ey) (k : Int) : List V3 := es.map fun e => findV e.2 k
def colsL (m : Nat) (es : List Ey) : List (Int × List V3) := (kindsN m).map fun k => (k, colOf es k)
theorem colsL_mem {m : Nat} {es : List Ey} {y : Int × List V3} : y ∈ colsL m es ↔ y.1 ∈ kindsN m ∧ y.2 = colOf es y.1 := by
  unfold colsL; rw [List.mem_map]
  constructor
  · rintro ⟨k, hk, rfl⟩; exact ⟨hk, rfl⟩
  · rintro ⟨h1, h2⟩; exact ⟨y.1, h1, by rw [← h2]⟩
theorem colsL_nd (m : Nat) (es : List Ey) : ((colsL m es).map (·.1)).Nodup := by
  unfold colsL; rw [List.map_map]
  have : ((fun x : Int × List V3 => x.1) ∘ fun k => (k, colOf es k)) = id := rfl
  rw [this, List.map_id]; exact kindsN_nd m
theorem colsL_get {m : Nat} {es : List Ey} {k : Int} (hk : k ∈ kindsN m) : getK (colsL m es) k = some (colOf es k) := (kget (colsL_nd m es)).2 (colsL_mem.2 ⟨hk, rfl⟩)
theorem colOf_len (es : List Ey) (k : Int) : (colOf es k).length = es.length := by unfold colOf; rw [List.length_map]
theorem colOf_at {es : List Ey} {i : Nat} (k : Int) : (colOf es k).getD i v0 = findV (es.getD i dE).2 k := by
  unfold colOf
  rw [List.getD_eq_getElem?_getD, List.getD_eq_getElem?_getD, List.getElem?_map]
  cases es[i]? with
  | some e => rfl
  | none => rfl
abbrev PT := (Int → Nat) × List Int × Nat × Option Addr × Nat
structure TOk (Q : List (PRow Int)) (m : Nat) (es : List Ey) (x : PT) : Prop where
  pool : Q[x.2.2.1]? = some (x.2.2.2.1, x.2.2.2.2, kindsN m)
  perm : x.2.1.Perm (kindsN m)
  lt : m < 1024
  rows : ∀ e ∈ es, rightV e.2 = true ∧ maskN e.2 = m
  len : es.length ≤ 128
noncomputable def tblH (E : Nat → Addr) (m : Nat) (es : List Ey) (x : PT) : Hp := [(0, .cells 133 [.ptr 1 0, .int .u64 ((m : Nat) : Int), .raw (.slice x.2.2.2.1 (kindsN m).length x.2.2.2.2), .mp 2]), (1, .pr (colH E (es.map (fun e : Ey => e.1)))), (2, .pr (mapPr veI veP (ptrL x.2.1 x.1))), (3, .pr (restPr (colV E) (colsL m es) x.1))]
noncomputable def tblPr (E : Nat → Addr) (Q : List (PRow Int)) (m : Nat) (es : List Ey) : Pr := exPr (TOk Q m es) fun x => grp (Gm E) (tblH E m es x)
theorem tbl_placed (E : Nat → Addr) (Q : List (PRow Int)) (m : Nat) (es : List Ey) : Placed (tblPr E Q m es) := placed_ex fun x => placed_grp
theorem tbl_more {E : Nat → Addr} {Q : List (PRow Int)} {m : Nat} {es : List Ey} (R : List (PRow Int)) (a : Option Addr) (B : Nat → Prop) (w : World) (h : (tblPr E Q m es).ok a B w) : (tblPr E (Q ++ R) m es).ok a B w := by
  obtain ⟨x, h1, h2⟩ := h
  exact ⟨x, ⟨by rw [List.getElem?_append_left (List.getElem?_eq_some_iff.1 h1.pool).1]; exact h1.pool, h1.perm, h1.lt, h1.rows, h1.len⟩, h2⟩
theorem mapCol : MapTy Tryz.prog 131 3 178 veI veP none := ⟨Tryz.underlying131, KeyT.int Tryz.underlying3, by kernel_rfl⟩
end Go.Proofs.YtcnbngiplfoomaaGreatDoor
namespace Go.Proofs.YtcnbngiplfoomaaGreatDoor
open Go.Zz Go.Px
set_option linter.unusedVariables false
set_option linter.unusedSectionVars false
set_option linter.unusedSimpArgs false
set_option maxRecDepth 10000
theorem hs_at {es : List Ey} {i : Nat} : (es.map (fun e : Ey => e.1)).getD i ((0, 0) : Int × Int) = (es.getD i dE).1 := by
  rw [List.getD_eq_getElem?_getD, List.getD_eq_getElem?_getD, List.getElem?_map]
  cases es[i]? with
  | some e => rfl
  | none => rfl
theorem hs_len (es : List Ey) : (es.map (fun e : Ey => e.1)).length = es.length := List.length_map _
section
variable {E : Nat → Addr} {es : List Ey} {i : Int}
theorem hget (h : 0 ≤ i ∧ i < (es.length : Nat)) : Does (Gm E) 115 ⟨[.ptr 0 0, .int .i64 i], [(0, .pr (colH E (es.map (fun e : Ey => e.1))))], 1, 2, Unit, fun _ => True, fun _ => .tup [.agg [.int .i64 (es.getD i.toNat dE).1.1, .int .i64 (es.getD i.toNat dE).1.2], .nili], fun _ => [(0, .pr (colH E (es.map (fun e : Ey => e.1))))]⟩ := by
  have q := colGetH E (es.map (fun e : Ey => e.1)) i (by rw [hs_len]; exact h)
  rw [hs_at] at q; exact q
theorem hgetNo (h : ¬ (0 ≤ i ∧ i < (es.length : Nat))) : Does (Gm E) 115 ⟨[.ptr 0 0, .int .i64 i], [(0, .pr (colH E (es.map (fun e : Ey => e.1))))], 1, 2, Unit, fun _ => True, fun _ => .tup [.agg [.int .i64 0, .int .i64 0], .err 3], fun _ => [(0, .pr (colH E (es.map (fun e : Ey => e.1))))]⟩ := colGetNoH E (es.map (fun e : Ey => e.1)) i (by rw [hs_len]; exact h)
theorem hlen : Does (Gm E) 71 ⟨[.ptr 0 0], [(0, .pr (colH E (es.map (fun e : Ey => e.1))))], 1, 2, Unit, fun _ => True, fun _ => .int .i64 (es.length : Nat), fun _ => [(0, .pr (colH E (es.map (fun e : Ey => e.1))))]⟩ := by
  have q := colLenH E (es.map (fun e : Ey => e.1)); rw [hs_len] at q; exact q
end
set_option maxHeartbeats 4000000 in
theorem tMask (E : Nat → Addr) (Q : List (PRow Int)) (m : Nat) (es : List Ey) : Does (Gm E) 60 ⟨[.ptr 0 0], [(0, .pr (tblPr E Q m es))], 1, 2, Unit, fun _ => True, fun _ => .int .u64 ((m : Nat) : Int), fun _ => [(0, .pr (tblPr E Q m es))]⟩ := by
  refine DoesC.does (fn_start Tryz.func60 rfl rfl rfl ?_)
  change EntryGoal _ _ _ _ _
  refine entryG.ex 0 rfl (fun t ht => ?_)
  change EntryGoal _ _ _ _ _
  refine entryG.open_ 0 rfl 4 rfl rfl ?_
  change EntryGoal _ _ _ _ _
  refine entry_go (gmOk E) 7 1 [] Tryz.func60 rfl rfl rfl rfl ?_
  repeat' first | (change RetGoal _ _ _ _ _; first | (refine retG'.shut (Γ0 := Gm E) rfl (.cells 133 [.ptr 1 0, .int .u64 ((m : Nat) : Int), .raw (.slice t.2.2.2.1 (kindsN m).length t.2.2.2.2), .mp 2]) [(1, .pr (colH E (es.map (fun e : Ey => e.1)))), (2, .pr (mapPr veI veP (ptrL t.2.1 t.1))), (3, .pr (restPr (colV E) (colsL m es) t.1))] [0, 2, 3, 4] (And.intro rfl (And.intro rfl (And.intro rfl (And.intro rfl True.intro)))) rfl ?_; change RetGoal _ _ _ _ _; refine retG'.hide (X := PT) (p := TOk Q m es) (Φ := fun x => grp (Gm E) (tblH E m es x)) 0 t ht rfl ?_; change RetGoal _ _ _ _ _; refine ret_done rfl ?_)) | (intro h; first | (exfalso; omega; done) | skip) | (refine And.intro ?_ ?_) | exact True.intro | (refine @Exists.intro Unit _ () ?_) | (refine @Exists.intro (_ = _) _ rfl ?_)
  all_goals first | rfl | omega | assumption
set_option maxHeartbeats 4000000 in
theorem tHandle (E : Nat → Addr) (Q : List (PRow Int)) (m : Nat) (es : List Ey) (i : Int) (h : 0 ≤ i ∧ i < (es.length : Nat)) : Does (Gm E) 72 ⟨[.ptr 0 0, .int .i64 i], [(0, .pr (tblPr E Q m es))], 1, 2, Unit, fun _ => True, fun _ => .tup [.agg [.int .i64 (es.getD i.toNat dE).1.1, .int .i64 (es.getD i.toNat dE).1.2], .nili], fun _ => [(0, .pr (tblPr E Q m es))]⟩ := by
  rename 0 ≤ i ∧ i < _ => hi
  refine DoesC.does (fn_start Tryz.func72 rfl rfl rfl ?_)
  change EntryGoal _ _ _ _ _
  refine entryG.ex 0 rfl (fun t ht => ?_)
  change EntryGoal _ _ _ _ _
  refine entryG.open_ 0 rfl 4 rfl rfl ?_
  change EntryGoal _ _ _ _ _
  refine entry_go (gmOk E) 14 1 [] Tryz.func72 rfl rfl rfl rfl ?_
  repeat' first | (change RetGoal _ _ _ _ _; first | (refine retG'.shut (Γ0 := Gm E) rfl (.cells 133 [.ptr 1 0, .int .u64 ((m : Nat) : Int), .raw (.slice t.2.2.2.1 (kindsN m).length t.2.2.2.2), .mp 2]) [(1, .pr (colH E (es.map (fun e : Ey => e.1)))), (2, .pr (mapPr veI veP (ptrL t.2.1 t.1))), (3, .pr (restPr (colV E) (colsL m es) t.1))] [0, 2, 3, 4] (And.intro rfl (And.intro rfl (And.intro rfl (And.intro rfl True.intro)))) rfl ?_; change RetGoal _ _ _ _ _; refine retG'.hide (X := PT) (p := TOk Q m es) (Φ := fun x => grp (Gm E) (tblH E m es x)) 0 t ht rfl ?_; change RetGoal _ _ _ _ _; refine ret_done rfl ?_)) | (intro h; first | (exfalso; omega; done) | skip) | (refine And.intro ?_ ?_) | exact True.intro | (refine @Exists.intro Unit _ () ?_) | (refine @Exists.intro (_ = _) _ rfl ?_) | (change CallGoal _ _ _ _ _ _; first | (refine call_rule (hget (E := E) (es := es) hi) [2] rfl (And.intro rfl True.intro) rfl (fun y1 hy1 => ?_)))
  all_goals first | rfl | omega | assumption
end Go.Proofs.YtcnbngiplfoomaaGreatDoor
namespace Go.Proofs.YtcnbngiplfoomaaGreatDoor
open Go.Zz Go.Px
set_option linter.unusedVariables false
set_option linter.unusedSectionVars false
set_option linter.unusedSimpArgs false
set_option maxRecDepth 10000
set_option maxHeartbeats 4000000 in
theorem tInOk (E : Nat → Addr) (Q : List (PRow Int)) (m : Nat) (es : List Ey) (t : PT) (i kk : Int) (h : TOk Q m es t ∧ (0 ≤ i ∧ i < (es.length : Nat)) ∧ kk ∈ kindsN m) : Does (Gm E) 119 ⟨[.ptr 0 0, .int .i64 i, .int .i64 kk], [(0, .cells 133 [.ptr 1 0, .int .u64 ((m : Nat) : Int), .raw (.slice t.2.2.2.1 (kindsN m).length t.2.2.2.2), .mp 2]), (1, .pr (colH E (es.map (fun e : Ey => e.1)))), (2, .pr (mapPr veI veP (ptrL t.2.1 t.1))), (3, .pr (restPr (colV E) (colsL m es) t.1))], 4, 5, Unit, fun _ => True, fun _ => .tup [.ptr 4 0, .nili], fun _ => [(0, .cells 133 [.ptr 1 0, .int .u64 ((m : Nat) : Int), .raw (.slice t.2.2.2.1 (kindsN m).length t.2.2.2.2), .mp 2]), (1, .pr (colH E (es.map (fun e : Ey => e.1)))), (2, .pr (mapPr veI veP (ptrL t.2.1 t.1))), (3, .hole (restH (colV E) (colsL m es) t.1 kk) [.ptr 4 0]), (4, .pr (colV E (colOf es kk)))]⟩ := by
  obtain ⟨ht, hi, hk⟩ := h; have hL := ht.len
  refine fn_intro (gmOk E) 35 4 [] Tryz.func119 rfl rfl rfl rfl rfl ?_
  repeat' first | (change OpGoal _ _ _ _ (.lookup 131 _ _ true) _; refine op_retell ?_; change OpGoal _ _ _ _ _ _; refine lookupY_rule mapCol 2 _ kk (some (t.1 kk)) rfl rfl rfl (ptrL_get (ht.perm.mem_iff.2 hk)) ?_; change Retell _ _ _ _ _; refine retellG.restOut 3 (colsL m es) t.1 kk (colOf es kk) rfl (colsL_get hk) ?_; change Retell _ _ _ _ _; refine retell_to (.tup [.ptr 5 0, .tt]) (fun _ => bdB_ok _ rfl) (by intro h; cases h) (fun En V w hp => by have q := rest_ptr (r := 3) (m := 5) rfl hp; first | exact q.symm | (simp only [SV.den, SV.denL, veP] at q ⊢; rw [q])) ?_; change Retell _ _ _ _ _; refine retell_done ?_) | (intro h; first | (exfalso; omega; done) | (exfalso; exact h trivial; done) | skip) | (refine And.intro ?_ ?_) | exact True.intro | (refine @Exists.intro Unit _ () ?_) | (refine @Exists.intro (_ = _) _ rfl ?_) | (change DrawGoal _ _ _ _ _ _; first | (change DrawGoal _ _ _ ({ dst := some 21, op := _, type := _, pos := _, after := _, guard := _ } :: _) _ _; refine draw_tree (gmOk E) [0] (.leaf [(0, true), (1, true), (2, true)]) (by kernel_rfl) ?_) | (change DrawGoal _ _ _ ({ dst := some 33, op := _, type := _, pos := _, after := _, guard := _ } :: _) _ _; refine draw_tree (gmOk E) [0] (.leaf [(0, true), (1, true), (2, true)]) (by kernel_rfl) ?_)) | (change CallGoal _ _ _ _ _ _; first | (refine call_rule (hlen (E := E) (es := es)) [1] rfl (And.intro rfl True.intro) rfl (fun y1 hy1 => ?_)))
  all_goals first | rfl | omega | assumption
set_option maxHeartbeats 4000000 in
theorem tInKind (E : Nat → Addr) (Q : List (PRow Int)) (m : Nat) (es : List Ey) (t : PT) (i kk : Int) (h : TOk Q m es t ∧ (0 ≤ i ∧ i < (es.length : Nat)) ∧ ¬ kk ∈ kindsN m) : Does (Gm E) 119 ⟨[.ptr 0 0, .int .i64 i, .int .i64 kk], [(0, .cells 133 [.ptr 1 0, .int .u64 ((m : Nat) : Int), .raw (.slice t.2.2.2.1 (kindsN m).length t.2.2.2.2), .mp 2]), (1, .pr (colH E (es.map (fun e : Ey => e.1)))), (2, .pr (mapPr veI veP (ptrL t.2.1 t.1))), (3, .pr (restPr (colV E) (colsL m es) t.1))], 4, 4, Unit, fun _ => True, fun _ => .tup [.nilp, .err 5], fun _ => [(0, .cells 133 [.ptr 1 0, .int .u64 ((m : Nat) : Int), .raw (.slice t.2.2.2.1 (kindsN m).length t.2.2.2.2), .mp 2]), (1, .pr (colH E (es.map (fun e : Ey => e.1)))), (2, .pr (mapPr veI veP (ptrL t.2.1 t.1))), (3, .pr (restPr (colV E) (colsL m es) t.1))]⟩ := by
  obtain ⟨ht, hi, hk⟩ := h; have hL := ht.len
  refine fn_intro (gmOk E) 35 4 [] Tryz.func119 rfl rfl rfl rfl rfl ?_
  repeat' first | (intro h; first | (exfalso; omega; done) | (exfalso; exact h trivial; done) | skip) | (refine And.intro ?_ ?_) | exact True.intro | (refine @Exists.intro Unit _ () ?_) | (refine @Exists.intro (_ = _) _ rfl ?_) | (change OpGoal _ _ _ _ (.lookup 131 _ _ true) _; refine lookupN_rule mapCol 2 _ kk rfl rfl rfl (ptrL_none fun q => hk (ht.perm.mem_iff.1 q)) ?_) | (change DrawGoal _ _ _ _ _ _; first | (change DrawGoal _ _ _ ({ dst := some 21, op := _, type := _, pos := _, after := _, guard := _ } :: _) _ _; refine draw_tree (gmOk E) [0] (.leaf [(0, true), (1, true), (2, true)]) (by kernel_rfl) ?_) | (change DrawGoal _ _ _ ({ dst := some 33, op := _, type := _, pos := _, after := _, guard := _ } :: _) _ _; refine draw_tree (gmOk E) [0] (.leaf [(0, true), (1, true), (2, true)]) (by kernel_rfl) ?_)) | (change CallGoal _ _ _ _ _ _; first | (refine call_rule (hlen (E := E) (es := es)) [1] rfl (And.intro rfl True.intro) rfl (fun y1 hy1 => ?_)))
  all_goals first | rfl | omega | assumption
end Go.Proofs.YtcnbngiplfoomaaGreatDoor
namespace Go.Proofs.YtcnbngiplfoomaaGreatDoor
open Go.Zz Go.Px
set_option linter.unusedVariables false
set_option linter.unusedSectionVars false
set_option linter.unusedSimpArgs false
set_option maxRecDepth 10000
section
variable {m : Nat} {es : List Ey} {f g : Int → List V3} {k : Int} {l : List V3}
def colsF (m : Nat) (f : Int → List V3) : List (Int × List V3) := (kindsN m).map fun k => (k, f k)
def updF (f : Int → List V3) (k : Int) (l : List V3) : Int → List V3 := fun j => if j = k then l else f j
theorem colsF_put (hk : k ∈ kindsN m) : Go.Px.putK (colsF m f) k l = colsF m (updF f k l) := by
  unfold Go.Px.putK
  rw [if_pos (show hasK (colsF m f) k = true from hasK_iff.2 (List.mem_map.2 ⟨(k, f k), List.mem_map.2 ⟨k, hk, rfl⟩, rfl⟩))]
  unfold colsF
  rw [List.map_map]
  refine List.map_congr_left fun j hj => ?_
  simp only [Function.comp, updF]
  split
  · rename_i e; rw [e]
  · rfl
theorem colsF_nd (m : Nat) (f : Int → List V3) : ((colsF m f).map (·.1)).Nodup := by
  unfold colsF; rw [List.map_map]
  have : ((fun x : Int × List V3 => x.1) ∘ fun k => (k, f k)) = id := rfl
  rw [this, List.map_id]; exact kindsN_nd m
theorem colsF_get (hk : k ∈ kindsN m) : getK (colsF m f) k = some (f k) := (kget (colsF_nd m f)).2 (List.mem_map.2 ⟨k, hk, rfl⟩)
theorem colsF_has (hk : k ∈ kindsN m) : hasK (colsF m f) k = true := hasK_iff.2 (List.mem_map.2 ⟨(k, f k), List.mem_map.2 ⟨k, hk, rfl⟩, rfl⟩)
theorem updF_same : updF f k (f k) = f := by funext j; unfold updF; split
                                             · rename_i e; rw [e]
                                             · rfl
theorem colsF_cong (h : ∀ k ∈ kindsN m, f k = g k) : colsF m f = colsF m g := List.map_congr_left fun k hk => by rw [h k hk]
theorem colsF_same (hk : k ∈ kindsN m) : Go.Px.putK (colsF m f) k (f k) = colsF m f := by rw [colsF_put hk, updF_same]
end
section
variable {r r' : Rw} {k : Int} {v : V3} {m : Nat} {es : List Ey} {i : Nat} {h : Hd} {Q : List (PRow Int)} {x : PT}
theorem findV_no (h : ∀ u ∈ r, u.k ≠ k) : findV r k = v0 := by
  unfold findV
  rw [List.find?_eq_none.2 fun u hu => by simpa using h u hu]; rfl
theorem findV_congr (hn : (r.map (·.k)).Nodup) (hn' : (r'.map (·.k)).Nodup) (h : ∀ u : V3, u.k = k → (u ∈ r ↔ u ∈ r')) : findV r k = findV r' k := by
  by_cases e : ∃ u ∈ r, u.k = k
  · obtain ⟨u, hu, rfl⟩ := e
    rw [find_in hn hu, find_in hn' ((h u rfl).1 hu)]
  · rw [findV_no fun u hu q => e ⟨u, hu, q⟩, findV_no fun u hu q => e ⟨u, (h u q).2 hu, q⟩]
def putR (r : Rw) (v : V3) : Rw := byKinds (putL r v) 10
theorem putR_find (hr : rightV r = true) (hv : vcheck v = 0) (k : Int) : findV (putR r v) k = if k = v.k then v else findV r k := by
  unfold putR
  split
  · rename_i e; rw [e]; exact put_findV hr hv
  · rename_i e
    refine findV_congr (row_nd (put_right hr hv)) (row_nd hr) fun u hu => ?_
    rw [put_mem hr hv, mem_dropV]
    constructor
    · rintro (q | rfl)
      · exact q.1
      · exact absurd hu.symm e
    · exact fun q => .inl ⟨q, fun e2 => e (hu ▸ e2)⟩
theorem putR_mask (hr : rightV r = true) (hv : vcheck v = 0) (hk : v.k ∈ kindsN (maskN r)) : maskN (putR r v) = maskN r := by
  unfold putR
  rw [put_mask hr hv]
  apply Nat.eq_of_testBit_eq
  intro j
  rw [Nat.testBit_or]
  unfold bitN
  rw [Nat.testBit_two_pow]
  by_cases e : v.k.toNat = j
  · subst e; rw [(kindsN_mem.1 hk).2]; rfl
  · simp [e]
theorem colOf_set (hi : i < es.length) (hr : rightV (es.getD i dE).2 = true) (hv : vcheck v = 0) (k : Int) : colOf (es.set i ((es.getD i dE).1, putR (es.getD i dE).2 v)) k = if k = v.k then (colOf es k).set i v else colOf es k := by
  unfold colOf
  rw [List.map_set]
  show (es.map fun e => findV e.2 k).set i (findV (putR (es.getD i dE).2 v) k) = _
  rw [putR_find hr hv]
  split
  · rfl
  · refine List.ext_getElem? fun j => ?_
    rw [List.getElem?_set]
    split
    · rename_i e
      subst e
      rw [if_pos (by rw [List.length_map]; exact hi), List.getElem?_map, List.getD_eq_getElem?_getD, List.getElem?_eq_getElem hi]; rfl
    · rfl
theorem fst_set (hi : i < es.length) (r : Rw) : (es.set i ((es.getD i dE).1, r)).map (fun e : Ey => e.1) = es.map (fun e : Ey => e.1) := by
  rw [List.map_set]
  refine List.ext_getElem? fun j => ?_
  rw [List.getElem?_set]
  split
  · rename_i e
    subst e
    rw [if_pos (by rw [List.length_map]; exact hi), List.getElem?_map, List.getD_eq_getElem?_getD, List.getElem?_eq_getElem hi]; rfl
  · rfl
theorem row_at (ht : TOk Q m es x) (hi : i < es.length) : rightV (es.getD i dE).2 = true ∧ maskN (es.getD i dE).2 = m :=
  ht.rows _ (by rw [List.getD_eq_getElem?_getD, List.getElem?_eq_getElem hi]; exact List.getElem_mem hi)
theorem TOk.set (ht : TOk Q m es x) (hi : i < es.length) (hv : vcheck v = 0) (hk : v.k ∈ kindsN m) : TOk Q m (es.set i ((es.getD i dE).1, putR (es.getD i dE).2 v)) x where
  pool := ht.pool
  perm := ht.perm
  lt := ht.lt
  len := by rw [List.length_set]; exact ht.len
  rows := fun e he => by
    obtain ⟨q1, q2⟩ := row_at ht hi
    rcases List.mem_or_eq_of_mem_set he with he | rfl
    · exact ht.rows e he
    · exact ⟨put_right q1 hv, (putR_mask q1 hv (by rw [q2]; exact hk)).trans q2⟩
theorem colsL_set (hi : i < es.length) (hr : rightV (es.getD i dE).2 = true) (hv : vcheck v = 0) (hk : v.k ∈ kindsN m) : Go.Px.putK (colsF m (colOf es)) v.k ((colOf es v.k).set i v) = colsF m (colOf (es.set i ((es.getD i dE).1, putR (es.getD i dE).2 v))) := by
  rw [colsF_put hk]
  refine colsF_cong fun k _ => ?_
  rw [colOf_set hi hr hv]
  unfold updF
  split
  · rename_i e; rw [e]
  · rfl
end
theorem colGetAt (E : Nat → Addr) {es : List Ey} {i : Int} (k : Int) (h : 0 ≤ i ∧ i < (es.length : Nat)) : Does (Gm E) 105 ⟨[.ptr 0 0, .int .i64 i], [(0, .pr (colV E (colOf es k)))], 1, 2, Unit, fun _ => True, fun _ => .tup [.agg [.int .i64 (findV (es.getD i.toNat dE).2 k).k, .int .i64 (findV (es.getD i.toNat dE).2 k).a, .int .i64 (findV (es.getD i.toNat dE).2 k).b], .nili], fun _ => [(0, .pr (colV E (colOf es k)))]⟩ := by
  have q := colGetV E (colOf es k) i (by rw [colOf_len]; exact h)
  rw [colOf_at] at q; exact q
set_option maxHeartbeats 4000000 in
theorem tSetKind (E : Nat → Addr) (Q : List (PRow Int)) (m : Nat) (es : List Ey) (i : Int) (v : V3) (h : (0 ≤ i ∧ i < (es.length : Nat)) ∧ ¬ v.k ∈ kindsN m) : Does (Gm E) 75 ⟨[.ptr 0 0, .int .i64 i, .agg [.int .i64 v.k, .int .i64 v.a, .int .i64 v.b]], [(0, .pr (tblPr E Q m es))], 1, 2, Unit, fun _ => True, fun _ => .err 5, fun _ => [(0, .pr (tblPr E Q m es))]⟩ := by
  obtain ⟨hi, hk⟩ := h
  refine DoesC.does (fn_start Tryz.func75 rfl rfl rfl ?_)
  change EntryGoal _ _ _ _ _
  refine entryG.ex 0 rfl (fun t ht => ?_)
  change EntryGoal _ _ _ _ _
  refine entryG.open_ 0 rfl 4 rfl rfl ?_
  change EntryGoal _ _ _ _ _
  refine entry_go (gmOk E) 30 1 [] Tryz.func75 rfl rfl rfl rfl ?_
  repeat' first | (change RetGoal _ _ _ _ _; first | (refine retG'.shut (Γ0 := Gm E) rfl (.cells 133 [.ptr 1 0, .int .u64 ((m : Nat) : Int), .raw (.slice t.2.2.2.1 (kindsN m).length t.2.2.2.2), .mp 2]) [(1, .pr (colH E (es.map (fun e : Ey => e.1)))), (2, .pr (mapPr veI veP (ptrL t.2.1 t.1))), (3, .pr (restPr (colV E) (colsL m es) t.1))] [0, 2, 3, 4] (And.intro rfl (And.intro rfl (And.intro rfl (And.intro rfl True.intro)))) rfl ?_; change RetGoal _ _ _ _ _; refine retG'.hide (X := PT) (p := TOk Q m es) (Φ := fun x => grp (Gm E) (tblH E m es x)) 0 t ht rfl ?_; change RetGoal _ _ _ _ _; refine ret_done rfl ?_)) | (intro h; first | (exfalso; omega; done) | (exfalso; exact h trivial; done) | skip) | (refine And.intro ?_ ?_) | exact True.intro | (refine @Exists.intro Unit _ () ?_) | (refine @Exists.intro (_ = _) _ rfl ?_) | (change CallGoal _ _ _ _ _ _; first | (refine call_rule (tInKind E Q m es t i v.k ⟨ht, hi, hk⟩) [0, 2, 3, 4] rfl (And.intro rfl (And.intro rfl (And.intro rfl (And.intro rfl True.intro)))) rfl (fun y1 hy1 => ?_)))
  all_goals first | rfl | omega | assumption
set_option maxHeartbeats 4000000 in
theorem tSetBad (E : Nat → Addr) (Q : List (PRow Int)) (m : Nat) (es : List Ey) (i : Int) (v : V3) (h : (0 ≤ i ∧ i < (es.length : Nat)) ∧ v.k ∈ kindsN m ∧ vcheck v = 1) : Does (Gm E) 75 ⟨[.ptr 0 0, .int .i64 i, .agg [.int .i64 v.k, .int .i64 v.a, .int .i64 v.b]], [(0, .pr (tblPr E Q m es))], 1, 2, Unit, fun _ => True, fun _ => .err 3, fun _ => [(0, .pr (tblPr E Q m es))]⟩ := by
  obtain ⟨hi, hk, hv⟩ := h
  refine DoesC.does (fn_start Tryz.func75 rfl rfl rfl ?_)
  change EntryGoal _ _ _ _ _
  refine entryG.ex 0 rfl (fun t ht => ?_)
  change EntryGoal _ _ _ _ _
  refine entryG.open_ 0 rfl 4 rfl rfl ?_
  change EntryGoal _ _ _ _ _
  refine entry_go (gmOk E) 30 1 [] Tryz.func75 rfl rfl rfl rfl ?_
  repeat' first | (change RetGoal _ _ _ _ _; first | (refine retG'.restIn 4 6 (colOf es v.k) rfl rfl rfl (colV_placed E _) (colsF_has hk) ?_; change RetGoal _ _ _ _ _; refine retG'.cast 4 (.pr (restPr (colV E) (colsL m es) t.1)) rfl (by rw [show colsL m es = colsF m (colOf es) from rfl, colsF_same hk]) ?_; change RetGoal _ _ _ _ _; (refine retG'.shut (Γ0 := Gm E) rfl (.cells 133 [.ptr 1 0, .int .u64 ((m : Nat) : Int), .raw (.slice t.2.2.2.1 (kindsN m).length t.2.2.2.2), .mp 2]) [(1, .pr (colH E (es.map (fun e : Ey => e.1)))), (2, .pr (mapPr veI veP (ptrL t.2.1 t.1))), (3, .pr (restPr (colV E) (colsL m es) t.1))] [0, 2, 3, 4] (And.intro rfl (And.intro rfl (And.intro rfl (And.intro rfl True.intro)))) rfl ?_; change RetGoal _ _ _ _ _; refine retG'.hide (X := PT) (p := TOk Q m es) (Φ := fun x => grp (Gm E) (tblH E m es x)) 0 t ht rfl ?_; change RetGoal _ _ _ _ _; refine ret_done rfl ?_))) | (intro h; first | (exfalso; omega; done) | (exfalso; exact h trivial; done) | skip) | (refine And.intro ?_ ?_) | exact True.intro | (refine @Exists.intro Unit _ () ?_) | (refine @Exists.intro (_ = _) _ rfl ?_) | (change CallGoal _ _ _ _ _ _; first | (refine call_rule (tInOk E Q m es t i v.k ⟨ht, hi, hk⟩) [0, 2, 3, 4] rfl (And.intro rfl (And.intro rfl (And.intro rfl (And.intro rfl True.intro)))) rfl (fun y1 hy1 => ?_))) | (change CallGoal _ _ _ _ _ _; first | (refine call0 (check_range E v hv) [] rfl True.intro rfl ?_))
  all_goals first | rfl | omega | assumption
set_option maxHeartbeats 4000000 in
theorem tSet (E : Nat → Addr) (Q : List (PRow Int)) (m : Nat) (es : List Ey) (i : Int) (v : V3) (h : (0 ≤ i ∧ i < (es.length : Nat)) ∧ v.k ∈ kindsN m ∧ vcheck v = 0) : Does (Gm E) 75 ⟨[.ptr 0 0, .int .i64 i, .agg [.int .i64 v.k, .int .i64 v.a, .int .i64 v.b]], [(0, .pr (tblPr E Q m es))], 1, 2, Unit, fun _ => True, fun _ => .nili, fun _ => [(0, .pr (tblPr E Q m (es.set i.toNat ((es.getD i.toNat dE).1, putR (es.getD i.toNat dE).2 v))))]⟩ := by
  obtain ⟨hi, hk, hv⟩ := h
  refine DoesC.does (fn_start Tryz.func75 rfl rfl rfl ?_)
  change EntryGoal _ _ _ _ _
  refine entryG.ex 0 rfl (fun t ht => ?_)
  change EntryGoal _ _ _ _ _
  refine entryG.open_ 0 rfl 4 rfl rfl ?_
  change EntryGoal _ _ _ _ _
  refine entry_go (gmOk E) 30 1 [] Tryz.func75 rfl rfl rfl rfl ?_
  repeat' first | (change RetGoal _ _ _ _ _; first | (refine retG'.restIn 4 6 ((colOf es v.k).set i.toNat v) rfl rfl rfl (colV_placed E _) (colsF_has hk) ?_; change RetGoal _ _ _ _ _; refine retG'.cast 4 (.pr (restPr (colV E) (colsL m (es.set i.toNat ((es.getD i.toNat dE).1, putR (es.getD i.toNat dE).2 v))) t.1)) rfl (by rw [show colsL m es = colsF m (colOf es) from rfl, colsL_set (by omega) (row_at ht (by omega)).1 hv hk]; rfl) ?_; change RetGoal _ _ _ _ _; refine retG'.cast 2 (.pr (colH E ((es.set i.toNat ((es.getD i.toNat dE).1, putR (es.getD i.toNat dE).2 v)).map (fun e : Ey => e.1)))) rfl (by rw [fst_set (by omega)]) ?_; change RetGoal _ _ _ _ _; (refine retG'.shut (Γ0 := Gm E) rfl (.cells 133 [.ptr 1 0, .int .u64 ((m : Nat) : Int), .raw (.slice t.2.2.2.1 (kindsN m).length t.2.2.2.2), .mp 2]) [(1, .pr (colH E ((es.set i.toNat ((es.getD i.toNat dE).1, putR (es.getD i.toNat dE).2 v)).map (fun e : Ey => e.1)))), (2, .pr (mapPr veI veP (ptrL t.2.1 t.1))), (3, .pr (restPr (colV E) (colsL m (es.set i.toNat ((es.getD i.toNat dE).1, putR (es.getD i.toNat dE).2 v))) t.1))] [0, 2, 3, 4] (And.intro rfl (And.intro rfl (And.intro rfl (And.intro rfl True.intro)))) rfl ?_; change RetGoal _ _ _ _ _; refine retG'.hide (X := PT) (p := TOk Q m (es.set i.toNat ((es.getD i.toNat dE).1, putR (es.getD i.toNat dE).2 v))) (Φ := fun x => grp (Gm E) (tblH E m (es.set i.toNat ((es.getD i.toNat dE).1, putR (es.getD i.toNat dE).2 v)) x)) 0 t (ht.set (by omega) hv hk) rfl ?_; change RetGoal _ _ _ _ _; refine ret_done rfl ?_))) | (intro h; first | (exfalso; omega; done) | (exfalso; exact h trivial; done) | skip) | (refine And.intro ?_ ?_) | exact True.intro | (refine @Exists.intro Unit _ () ?_) | (refine @Exists.intro (_ = _) _ rfl ?_) | (change CallGoal _ _ _ _ _ _; first | (refine call_rule (tInOk E Q m es t i v.k ⟨ht, hi, hk⟩) [0, 2, 3, 4] rfl (And.intro rfl (And.intro rfl (And.intro rfl (And.intro rfl True.intro)))) rfl (fun y1 hy1 => ?_)) | (refine call_rule (colSetV E (colOf es v.k) i v (by rw [colOf_len]; exact hi)) [6] rfl (And.intro rfl True.intro) rfl (fun y2 hy2 => ?_))) | (change CallGoal _ _ _ _ _ _; first | (refine call0 (check_ok E v hv) [] rfl True.intro rfl ?_))
  all_goals first | rfl | omega | assumption
end Go.Proofs.YtcnbngiplfoomaaGreatDoor
namespace Go.Proofs.YtcnbngiplfoomaaGreatDoor
open Go.Zz Go.Px
set_option linter.unusedVariables false
set_option linter.unusedSectionVars false
set_option linter.unusedSimpArgs false
set_option maxRecDepth 10000
theorem kat {m : Nat} {i : Int} (h0 : 0 ≤ i) (h : i < ((kindsN m).length : Nat)) : (kindsN m).getD i.toNat 0 ∈ kindsN m := by
  rw [List.getD_eq_getElem?_getD, List.getElem?_eq_getElem (by omega)]; exact List.getElem_mem (by omega)
def rowTo (m : Nat) (r : Rw) (i : Int) : Rw := ((kindsN m).take i.toNat).map (findV r)
theorem rowTo_next {m : Nat} {r : Rw} {i : Int} (h0 : 0 ≤ i) (h : i < ((kindsN m).length : Nat)) : rowTo m r i ++ [findV r ((kindsN m).getD i.toNat 0)] = rowTo m r (i + 1) := by
  unfold rowTo; rw [take_nextI (d := 0) ⟨h0, h⟩, List.map_append]; rfl
theorem rowTo_end {m : Nat} {r : Rw} {i : Int} (hr : rightV r = true) (hm : maskN r = m) (h : ¬ i < ((kindsN m).length : Nat)) : rowTo m r i = r := by
  unfold rowTo; rw [List.take_of_length_le (by omega), ← hm]; exact row_eq hr
theorem rowTo_len {m : Nat} {r : Rw} {i : Int} : (rowTo m r i).length ≤ 10 := by
  unfold rowTo; rw [List.length_map, List.length_take]; have := kindsN_len m; omega
set_option maxHeartbeats 4000000 in
theorem tEntity (E : Nat → Addr) (Q : List (PRow Int)) (m : Nat) (es : List Ey) (i : Int) (h : 0 ≤ i ∧ i < (es.length : Nat)) : Does (Gm E) 65 ⟨[.ptr 0 0, .int .i64 i], [(0, .pr (tblPr E Q m es)), (1, .fo (roPool Zz.encI Q))], 2, 3, Nat, fun q => (es.getD i.toNat dE).2.length ≤ q, fun q => .tup [.agg [.int .i64 (es.getD i.toNat dE).1.1, .int .i64 (es.getD i.toNat dE).1.2, .sl 2 (es.getD i.toNat dE).2.length q], .nili], fun q => [(0, .pr (tblPr E Q m es)), (2, .arr V3 Zz.encV 34 (es.getD i.toNat dE).2 q)]⟩ := by
  rename 0 ≤ i ∧ i < _ => hi
  refine DoesC.does (fn_start Tryz.func65 rfl rfl rfl ?_)
  change EntryGoal _ _ _ _ _
  refine entry_go (gmOk E) 54 2 [3] Tryz.func65 rfl rfl rfl rfl ?_
  repeat' first | (change JoinGoal _ _ _ _ _ _ _ _; refine join_stop (gmOk E) ?_) | (change HereGoal _ _ _ _ _ _ _; refine hereG.ex 0 rfl (fun t ht => ?_); change HereGoal _ _ _ _ _ _ _; refine hereG.open_ 0 rfl 4 rfl rfl ?_; change HereGoal _ _ _ _ _ _ _; refine hereG.foOut 1 t.2.2.1 _ rfl ht.pool ?_; change HereGoal _ _ _ _ _ _ _; refine hereG.cast 10 (.ro Int Zz.encI (kindsN m) t.2.2.2.2) rfl rfl ?_; change HereGoal _ _ _ _ _ _ _; refine hereG.cells_ 0 [.ptr 7 0, .int .u64 ((m : Nat) : Int), .sl 10 (kindsN m).length t.2.2.2.2, .mp 8] rfl rfl (fun En V w hp => by have q := says (c := 11) rfl hp; simp only [SV.renL, SV.ren, SV.denL, SV.den, PRow.val] at q ⊢; rw [q]) ?_; change HereGoal _ _ _ _ _ _ _; refine here_go (gmOk E) ?_) | (change OpGoal _ _ _ _ (.lookup 131 _ _ false) _; refine op_retell ?_; change OpGoal _ _ _ _ _ _; refine lookupG_rule mapCol 8 _ ((kindsN m).getD x.1.toNat 0) (some (t.1 ((kindsN m).getD x.1.toNat 0))) rfl rfl rfl (ptrL_get (ht.perm.mem_iff.2 (kat hI.1 (by assumption)))) ?_; change Retell _ _ _ _ _; refine retellG.restOut 9 (colsL m es) t.1 ((kindsN m).getD x.1.toNat 0) (colOf es ((kindsN m).getD x.1.toNat 0)) rfl (colsF_get (kat hI.1 (by assumption))) ?_; change Retell _ _ _ _ _; refine retell_to (.ptr 28 0) (fun _ => bdB_ok _ rfl) (by intro h; cases h) (fun En V w hp => by have q := rest_ptr (r := 9) (m := 28) rfl hp; first | exact q.symm | (simp only [SV.den, SV.denL, veP] at q ⊢; rw [q])) ?_; change Retell _ _ _ _ _; refine retell_done ?_) | (change NextGoal _ _ _; refine nextG.restIn 9 28 (colOf es ((kindsN m).getD x.1.toNat 0)) rfl rfl rfl (colV_placed E _) (colsF_has (kat hI.1 (by assumption))) ?_; change NextGoal _ _ _; refine nextG.cast 9 (.pr (restPr (colV E) (colsL m es) t.1)) rfl (by rw [show colsL m es = colsF m (colOf es) from rfl, colsF_same (kat hI.1 (by assumption))]) ?_; change NextGoal _ _ _; refine next_go ?_) | (change RetGoal _ _ _ _ _; first | (change RetGoal _ _ _ _ _; refine retG'.cells_ 0 [.ptr 7 0, .int .u64 ((m : Nat) : Int), .raw (.slice t.2.2.2.1 (kindsN m).length t.2.2.2.2), .mp 8] rfl rfl (fun En V w hp => by have q := says (c := 11) rfl hp; simp only [SV.renL, SV.ren, SV.denL, SV.den, PRow.val] at q ⊢; rw [q]) ?_; change RetGoal _ _ _ _ _; refine retG'.cast 12 (.arr V3 Zz.encV 34 (es.getD i.toNat dE).2 x.2) rfl (by rw [rowTo_end (row_at ht (by omega)).1 (row_at ht (by omega)).2 (by assumption)]) ?_; change RetGoal _ _ _ _ _; (refine retG'.shut (Γ0 := Gm E) rfl (.cells 133 [.ptr 1 0, .int .u64 ((m : Nat) : Int), .raw (.slice t.2.2.2.1 (kindsN m).length t.2.2.2.2), .mp 2]) [(1, .pr (colH E (es.map (fun e : Ey => e.1)))), (2, .pr (mapPr veI veP (ptrL t.2.1 t.1))), (3, .pr (restPr (colV E) (colsL m es) t.1))] [0, 7, 8, 9] (And.intro rfl (And.intro rfl (And.intro rfl (And.intro rfl True.intro)))) rfl ?_; change RetGoal _ _ _ _ _; refine retG'.hide (X := PT) (p := TOk Q m es) (Φ := fun x => grp (Gm E) (tblH E m es x)) 0 t ht rfl ?_; change RetGoal _ _ _ _ _; refine ret_done rfl ?_))) | (intro h; first | (exfalso; omega; done) | (exfalso; exact h trivial; done) | skip) | (refine And.intro ?_ ?_) | exact True.intro | (refine @Exists.intro Unit _ () ?_) | (refine @Exists.intro (_ = _) _ rfl ?_) | (change LoopGoal _ _ _ _ _ _; refine loop_at2 4 (gmOk E) rfl [3] (X := (Int × Nat)) (fun x => [(26, .int .i64 x.1)]) (fun x => [(5, .cells 37 [.int .i64 (es.getD i.toNat dE).1.1, .int .i64 (es.getD i.toNat dE).1.2, .sl 12 (rowTo m (es.getD i.toNat dE).2 x.1).length x.2]), (12, .arr V3 Zz.encV 34 (rowTo m (es.getD i.toNat dE).2 x.1) x.2)]) [] (fun x => 0 ≤ x.1 ∧ x.1 ≤ ((kindsN m).length : Nat) ∧ (rowTo m (es.getD i.toNat dE).2 x.1).length ≤ x.2) (fun x => (kindsN m).length - x.1.toNat) ⟨(0, 0), ?_⟩ (fun x hI => ?_)) | (change @Exists ((Int × Nat)) (fun _ => updK _ _ _ _ _ _); refine @Exists.intro ((Int × Nat)) _ ((x.1 + 1, ?_)) ?_; rotate_left 1) | (refine @Exists.intro (Nat) _ ?_ ?_; rotate_left) | (change CallGoal _ _ _ _ _ _; first | (refine call_rule (tHandle E Q m es i hi) [0] rfl (And.intro rfl True.intro) rfl (fun y1 hy1 => ?_)) | (refine call_rule (colGetAt E ((kindsN m).getD x.1.toNat 0) hi) [28] rfl (And.intro rfl True.intro) rfl (fun y2 hy2 => ?_)))
  all_goals first | rfl | omega | assumption | exact Nat.zero_le _ | exact Nat.le_refl 1 | (change _ * 24 ≤ _; have := rowTo_len (m := m) (r := (es.getD i.toNat dE).2) (i := x.1); omega) | (have := kindsN_len m; omega) | (rw [List.take_length]; exact congrArg (fun q => Ch.arr _ _ _ q _) (rowTo_next hI.1 (by assumption))) | (rw [List.take_length, ← rowTo_next hI.1 (by assumption)]; rfl) | (have q := hI.2.2; rw [show rowTo m (es.getD i.toNat dE).2 x.1 = (es.getD i.toNat dE).2 from rowTo_end (row_at ht (by omega)).1 (row_at ht (by omega)).2 (by assumption)] at q; exact q) | (dsimp only; omega) | (rw [← rowTo_next hI.1 (by assumption), List.length_append]; assumption) | (show (rowTo _ _ (x.1 + 1)).length ≤ _; rw [← rowTo_next hI.1 (by assumption), List.length_append]; assumption) | (rw [rowTo_end (row_at ht (by omega)).1 (row_at ht (by omega)).2 (by assumption)]; done) | exact rowTo_next hI.1 (by assumption) | (have := rowTo_len (m := m) (r := ((es.getD i.toNat dE).2)) (i := x.1); omega) | (show _ = (rowTo _ _ (x.1 + 1)).length; rw [← rowTo_next hI.1 (by assumption), List.length_append]; rfl)
end Go.Proofs.YtcnbngiplfoomaaGreatDoor
namespace Go.Proofs.YtcnbngiplfoomaaGreatDoor
open Go.Zz Go.Px
set_option linter.unusedVariables false
set_option linter.unusedSectionVars false
set_option linter.unusedSimpArgs false
set_option maxRecDepth 10000
section
variable {m : Nat} {es : List Ey} {row : Rw} {i k : Int} {h : Hd} {Q : List (PRow Int)} {x : PT}
def addC (es : List Ey) (row : Rw) (i : Int) (k : Int) : List V3 := if (row.take i.toNat).any (fun v => v.k == k) then colOf es k ++ [findV row k] else colOf es k
theorem row_in (h : 0 ≤ i ∧ i < (row.length : Nat)) : row.getD i.toNat v0 ∈ row := by
  rw [List.getD_eq_getElem?_getD, List.getElem?_eq_getElem (by omega)]; exact List.getElem_mem (by omega)
theorem addC_at (hr : rightV row = true) (h : 0 ≤ i ∧ i < (row.length : Nat)) : addC es row i (row.getD i.toNat v0).k = colOf es (row.getD i.toNat v0).k := by
  unfold addC
  rw [if_neg]
  intro q
  obtain ⟨u, hu, e⟩ := List.any_eq_true.1 q
  have e := beq_iff_eq.1 e
  obtain ⟨j, hj⟩ := List.getElem?_of_mem hu
  rw [List.getElem?_take] at hj
  split at hj
  · rename_i hji
    have hs := right_strict hr
    have h1 : row[i.toNat]? = some (row.getD i.toNat v0) := by rw [List.getD_eq_getElem?_getD, List.getElem?_eq_getElem (by omega)]; rfl
    rw [List.getElem?_eq_some_iff] at hj h1
    obtain ⟨hj1, hj2⟩ := hj
    obtain ⟨hi1, hi2⟩ := h1
    have := List.pairwise_iff_getElem.1 hs j i.toNat hj1 hi1 hji
    rw [hj2, hi2, e] at this
    exact absurd this (by omega)
  · cases hj
theorem addC_len (hr : rightV row = true) (h : 0 ≤ i ∧ i < (row.length : Nat)) : (addC es row i (row.getD i.toNat v0).k).length = es.length := by rw [addC_at hr h, colOf_len]
theorem addC_next (hr : rightV row = true) (h : 0 ≤ i ∧ i < (row.length : Nat)) : colsF m (updF (addC es row i) (row.getD i.toNat v0).k (addC es row i (row.getD i.toNat v0).k ++ [row.getD i.toNat v0])) = colsF m (addC es row (i + 1)) := by
  refine colsF_cong fun k _ => ?_
  unfold updF
  split
  · rename_i e
    rw [e, addC_at hr h]
    unfold addC
    rw [if_pos (by rw [take_nextI (d := v0) h, List.any_append]; simp), find_in (row_nd hr) (row_in h)]
  · rename_i e
    unfold addC
    have : ((row.take (i + 1).toNat).any fun v => v.k == k) = (row.take i.toNat).any fun v => v.k == k := by
      rw [take_nextI (d := v0) h, List.any_append, List.any_cons, List.any_nil, Bool.or_false]
      rw [show ((row.getD i.toNat v0).k == k) = false by simp; exact fun q => e q.symm, Bool.or_false]
    rw [this]
theorem row_kin (hr : rightV row = true) (hm : maskN row = m) (h : 0 ≤ i ∧ i < (row.length : Nat)) : (row.getD i.toNat v0).k ∈ kindsN m := by
  rw [← hm, row_kinds hr]; exact List.mem_map.2 ⟨_, row_in h, rfl⟩
theorem addC_end (hr : rightV row = true) (hm : maskN row = m) (hi : ¬ i < (row.length : Nat)) : colsF m (addC es row i) = colsF m (colOf (es ++ [(h, row)])) := by
  refine colsF_cong fun k hk => ?_
  unfold addC
  rw [List.take_of_length_le (by omega), if_pos]
  · unfold colOf; rw [List.map_append]; rfl
  · rw [← hm, row_kinds hr] at hk
    obtain ⟨u, hu, e⟩ := List.mem_map.1 hk
    exact List.any_eq_true.2 ⟨u, hu, by simp [e]⟩
theorem TOk.add (ht : TOk Q m es x) (hr : rightV row = true) (hm : maskN row = m) (hl : es.length < 128) : TOk Q m (es ++ [(h, row)]) x where
  pool := ht.pool
  perm := ht.perm
  lt := ht.lt
  len := by rw [List.length_append]; exact hl
  rows := fun e he => by
    rcases List.mem_append.1 he with he | he
    · exact ht.rows e he
    · obtain rfl := List.mem_singleton.1 he; exact ⟨hr, hm⟩
theorem maskN_cong {a b : Nat} (h : a = b) : ((a : Nat) : Int) = ((b : Nat) : Int) := by rw [h]
end
set_option maxHeartbeats 4000000 in
theorem tAdd (E : Nat → Addr) (Q : List (PRow Int)) (m : Nat) (es : List Ey) (hd : Hd) (row : Rw) (n k : Nat) (h : n = row.length ∧ rightV row = true ∧ maskN row = m ∧ es.length < 128) : Does (Gm E) 98 ⟨[.ptr 0 0, .agg [.int .i64 hd.1, .int .i64 hd.2], .sl 1 n k], [(0, .pr (tblPr E Q m es)), (1, .ro V3 Zz.encV row k)], 2, 2, Unit, fun _ => True, fun _ => .tup [.int .i64 (es.length : Nat), .nili], fun _ => [(0, .pr (tblPr E Q m (es ++ [(hd, row)])))]⟩ := by
  obtain ⟨rfl, hr, hm, hl⟩ := h; have hrl := row_len hr
  refine DoesC.does (fn_start Tryz.func98 rfl rfl rfl ?_)
  change EntryGoal _ _ _ _ _
  refine entryG.ex 0 rfl (fun t ht => ?_)
  change EntryGoal _ _ _ _ _
  refine entryG.open_ 0 rfl 4 rfl rfl ?_
  change EntryGoal _ _ _ _ _
  refine entry_go (gmOk E) 62 2 [] Tryz.func98 rfl rfl rfl rfl ?_
  repeat' first | (change OpGoal _ _ _ _ (.lookup 131 _ _ false) _; refine op_retell ?_; change OpGoal _ _ _ _ _ _; refine lookupG_rule mapCol 4 _ (row.getD x.toNat v0).k (some (t.1 (row.getD x.toNat v0).k)) rfl rfl rfl (ptrL_get (ht.perm.mem_iff.2 (row_kin hr hm ⟨hI.1, (by assumption)⟩))) ?_; change Retell _ _ _ _ _; refine retellG.restOut 5 (colsF m (addC es row x)) t.1 (row.getD x.toNat v0).k (addC es row x (row.getD x.toNat v0).k) rfl (colsF_get (row_kin hr hm ⟨hI.1, (by assumption)⟩)) ?_; change Retell _ _ _ _ _; refine retell_to (.ptr 26 0) (fun _ => bdB_ok _ rfl) (by intro h; cases h) (fun En V w hp => by have q := rest_ptr (r := 5) (m := 26) rfl hp; first | exact q.symm | (simp only [SV.den, SV.denL, veP] at q ⊢; rw [q])) ?_; change Retell _ _ _ _ _; refine retell_done ?_) | (change OpGoal _ _ _ _ (.lookup 131 _ _ false) _; refine op_retell ?_; change OpGoal _ _ _ _ _ _; refine lookupG_rule mapCol 4 _ (row.getD x.toNat v0).k (some (t.1 (row.getD x.toNat v0).k)) rfl rfl rfl (ptrL_get (ht.perm.mem_iff.2 (row_kin hr hm ⟨hI.1, (by assumption)⟩))) ?_; change Retell _ _ _ _ _; refine retellG.restOut 5 (colsF m (addC es row x)) t.1 (row.getD x.toNat v0).k (addC es row x (row.getD x.toNat v0).k) rfl (colsF_get (row_kin hr hm ⟨hI.1, (by assumption)⟩)) ?_; change Retell _ _ _ _ _; refine retell_to (.ptr 27 0) (fun _ => bdB_ok _ rfl) (by intro h; cases h) (fun En V w hp => by have q := rest_ptr (r := 5) (m := 27) rfl hp; first | exact q.symm | (simp only [SV.den, SV.denL, veP] at q ⊢; rw [q])) ?_; change Retell _ _ _ _ _; refine retell_done ?_) | (change NextGoal _ _ _; refine nextG.restIn 5 26 (addC es row x (row.getD x.toNat v0).k ++ [(row.getD x.toNat v0)]) rfl rfl rfl (colV_placed E _) (colsF_has (row_kin hr hm ⟨hI.1, (by assumption)⟩)) ?_; change NextGoal _ _ _; refine nextG.cast 5 (.pr (restPr (colV E) (colsF m (addC es row (x + 1))) t.1)) rfl (by rw [colsF_put (row_kin hr hm ⟨hI.1, (by assumption)⟩), addC_next hr ⟨hI.1, (by assumption)⟩]) ?_; change NextGoal _ _ _; refine next_go ?_) | (change NextGoal _ _ _; refine nextG.restIn 5 27 (addC es row x (row.getD x.toNat v0).k ++ [(row.getD x.toNat v0)]) rfl rfl rfl (colV_placed E _) (colsF_has (row_kin hr hm ⟨hI.1, (by assumption)⟩)) ?_; change NextGoal _ _ _; refine nextG.cast 5 (.pr (restPr (colV E) (colsF m (addC es row (x + 1))) t.1)) rfl (by rw [colsF_put (row_kin hr hm ⟨hI.1, (by assumption)⟩), addC_next hr ⟨hI.1, (by assumption)⟩]) ?_; change NextGoal _ _ _; refine next_go ?_) | (change RetGoal _ _ _ _ _; first | (refine retG'.cast 5 (.pr (restPr (colV E) (colsL m (es ++ [(hd, row)])) t.1)) rfl (by rw [show colsL m (es ++ [(hd, row)]) = colsF m (colOf (es ++ [(hd, row)])) from rfl, addC_end (h := hd) hr hm (by assumption)]) ?_; change RetGoal _ _ _ _ _; refine retG'.cast 3 (.pr (colH E ((es ++ [(hd, row)]).map (fun e : Ey => e.1)))) rfl (by rw [List.map_append]; rfl) ?_; change RetGoal _ _ _ _ _; (refine retG'.shut (Γ0 := Gm E) rfl (.cells 133 [.ptr 1 0, .int .u64 ((m : Nat) : Int), .raw (.slice t.2.2.2.1 (kindsN m).length t.2.2.2.2), .mp 2]) [(1, .pr (colH E ((es ++ [(hd, row)]).map (fun e : Ey => e.1)))), (2, .pr (mapPr veI veP (ptrL t.2.1 t.1))), (3, .pr (restPr (colV E) (colsL m (es ++ [(hd, row)])) t.1))] [0, 3, 4, 5] (And.intro rfl (And.intro rfl (And.intro rfl (And.intro rfl True.intro)))) rfl ?_; change RetGoal _ _ _ _ _; refine retG'.hide (X := PT) (p := TOk Q m (es ++ [(hd, row)])) (Φ := fun x => grp (Gm E) (tblH E m (es ++ [(hd, row)]) x)) 0 t (ht.add hr hm hl) rfl ?_; change RetGoal _ _ _ _ _; refine ret_done rfl ?_))) | (intro h; first | (exfalso; omega; done) | (exfalso; first | exact h trivial | exact h (by rw [hr]; rfl) | exact h (maskN_cong hm); done) | skip) | (refine And.intro ?_ ?_) | exact True.intro | (refine @Exists.intro Unit _ () ?_) | (refine @Exists.intro (_ = _) _ rfl ?_) | (change LoopGoal _ _ _ _ _ _; refine loop_at2 8 (gmOk E) rfl [] (X := Int) (fun x => [(43, .int .i64 x)]) (fun x => [(5, .pr (restPr (colV E) (colsF m (addC es row x)) t.1))]) [] (fun x => 0 ≤ x ∧ x ≤ (row.length : Nat)) (fun x => row.length - x.toNat) ⟨0, ?_⟩ (fun x hI => ?_)) | (change @Exists (Int) (fun _ => updK _ _ _ _ _ _); refine @Exists.intro (Int) _ ((?_)) ?_; rotate_left 1) | (change DrawGoal _ _ _ _ _ _; first | (change DrawGoal _ _ _ ({ dst := some 13, op := _, type := _, pos := _, after := _, guard := _ } :: _) _ _; refine draw_tree (gmOk E) [0, 1] (.leaf [(0, true), (1, false), (2, true), (3, true), (4, true), (6, true), (7, true), (8, true), (9, true), (5, false), (10, true), (11, true)]) (by kernel_rfl) ?_) | (change DrawGoal _ _ _ ({ dst := some 25, op := _, type := _, pos := _, after := _, guard := _ } :: _) _ _; refine draw_tree (gmOk E) [] (.leaf [(0, true), (1, true), (2, true)]) (by kernel_rfl) ?_) | (change DrawGoal _ _ _ ({ dst := some 31, op := _, type := _, pos := _, after := _, guard := _ } :: _) _ _; refine draw_tree (gmOk E) [0, 6] (.leaf [(0, true), (1, true), (2, true), (3, true), (4, true), (5, false), (6, false), (7, true)]) (by kernel_rfl) ?_) | (change DrawGoal _ _ _ ({ dst := some 47, op := _, type := _, pos := _, after := _, guard := _ } :: _) _ _; refine draw_tree (gmOk E) [0, 25] (.alt [(0, true), (1, true), (2, true), (3, true), (4, true), (5, true), (7, true)] (.leaf [(6, false), (8, false), (9, false), (10, true)]) (.leaf [(8, false), (6, false), (9, false), (10, true)])) (by kernel_rfl) ?_)) | (change CallGoal _ _ _ _ _ _; first | (refine call_rule (hlen (E := E) (es := es)) [3] rfl (And.intro rfl True.intro) rfl (fun y1 hy1 => ?_)) | (refine call_rule (colPushH E (es.map (fun e : Ey => e.1)) hd 1 (by rw [hs_len]; exact hl)) [3, 8] rfl (And.intro rfl (And.intro rfl True.intro)) rfl (fun y2 hy2 => ?_)) | (refine call_rule (colPushV E (addC es row x (row.getD x.toNat v0).k) (row.getD x.toNat v0) 1 (by rw [addC_len hr ⟨hI.1, (by assumption)⟩]; exact hl)) [26, 27] rfl (And.intro rfl (And.intro rfl True.intro)) rfl (fun y3 hy3 => ?_)) | (refine call_rule (colPushV E (addC es row x (row.getD x.toNat v0).k) (row.getD x.toNat v0) 1 (by rw [addC_len hr ⟨hI.1, (by assumption)⟩]; exact hl)) [27, 26] rfl (And.intro rfl (And.intro rfl True.intro)) rfl (fun y3 hy3 => ?_))) | (change CallGoal _ _ _ _ _ _; first | (refine call0 (right_z E row _ k ⟨rfl, by omega⟩) [1] rfl (And.intro rfl True.intro) rfl ?_) | (refine call0 (mask_z E row _ k ⟨rfl, by omega, right_kinds hr⟩) [1] rfl (And.intro rfl True.intro) rfl ?_))
  all_goals first | rfl | omega | assumption | exact maskN_cong hm | (rw [hm]; done) | (exact absurd hr (by assumption)) | (exact absurd (maskN_cong hm) (by assumption))
end Go.Proofs.YtcnbngiplfoomaaGreatDoor
namespace Go.Proofs.YtcnbngiplfoomaaGreatDoor
open Go.Zz Go.Px
set_option linter.unusedVariables false
set_option linter.unusedSectionVars false
set_option linter.unusedSimpArgs false
set_option maxRecDepth 10000
section
variable {κ ν : Type} [DecidableEq κ] {L left left' : List (κ × ν)} {k : κ} {v : ν}
structure WL (L left : List (κ × ν)) : Prop where
  ex : ∃ pre, L.Perm (pre ++ left)
theorem WL.start (L : List (κ × ν)) : WL L L := ⟨[], List.Perm.refl _⟩
theorem WL.next (h : WL L left) (hp : left.Perm ((k, v) :: left')) : WL L left' := by
  obtain ⟨pre, q⟩ := h.ex
  exact ⟨pre ++ [(k, v)], q.trans (by rw [List.append_assoc]; exact List.Perm.append_left pre hp)⟩
theorem WL.sub (h : WL L left) {y : κ × ν} (hy : y ∈ left) : y ∈ L := by
  obtain ⟨pre, q⟩ := h.ex
  exact q.mem_iff.2 (List.mem_append.2 (.inr hy))
theorem WL.nd (h : WL L left) (hn : (L.map (·.1)).Nodup) : (left.map (·.1)).Nodup := by
  obtain ⟨pre, q⟩ := h.ex
  have := (q.map (·.1)).nodup_iff.1 hn
  rw [List.map_append] at this
  exact (List.nodup_append.1 this).2.1
theorem WL.fresh (h : WL L left) (hn : (L.map (·.1)).Nodup) (hp : left.Perm ((k, v) :: left')) : ¬ k ∈ left'.map (·.1) := by
  have := (hp.map (·.1)).nodup_iff.1 (h.nd hn)
  exact (List.nodup_cons.1 this).1
theorem WL.less (hp : left.Perm ((k, v) :: left')) : left'.length < left.length := by
  have := hp.length_eq; simp only [List.length_cons] at this; omega
end
section
variable {m : Nat} {es : List Ey} {i : Nat} {k : Int} {v : Option Nat} {left left' : List (Int × Option Nat)} {ks : List Int} {p : Int → Nat} {Q : List (PRow Int)} {x : PT}
theorem ptrL_memv (h : (k, v) ∈ ptrL ks p) : v = some (p k) ∧ k ∈ ks := by
  obtain ⟨j, hj, e⟩ := List.mem_map.1 h
  simp only [Prod.mk.injEq] at e
  obtain ⟨rfl, rfl⟩ := e
  exact ⟨rfl, hj⟩
def cutC (es : List Ey) (i : Nat) (left : List (Int × Option Nat)) (k : Int) : List V3 := if k ∈ left.map (·.1) then colOf es k else Go.Px.cutL v0 (colOf es k) i
theorem cutC_here (hp : left.Perm ((k, v) :: left')) : cutC es i left k = colOf es k := by
  unfold cutC
  rw [if_pos ((hp.map (fun e : Int × Option Nat => e.1)).mem_iff.2 (by rw [List.map_cons]; exact List.mem_cons_self))]
theorem cutC_start (h : left.map (·.1) = ks) (hks : ks.Perm (kindsN m)) : colsF m (cutC es i left) = colsF m (colOf es) := colsF_cong fun k hk => if_pos (by rw [h]; exact hks.mem_iff.2 hk)
theorem cutC_next (hf : ¬ k ∈ left'.map (·.1)) (hp : left.Perm ((k, v) :: left')) : colsF m (updF (cutC es i left) k (Go.Px.cutL v0 (colOf es k) i)) = colsF m (cutC es i left') := by
  refine colsF_cong fun j _ => ?_
  unfold updF
  split
  · rename_i e; subst e; exact (if_neg hf).symm
  · rename_i e
    unfold cutC
    have : j ∈ left.map (·.1) ↔ j ∈ left'.map (·.1) := by
      rw [(hp.map (·.1)).mem_iff, List.map_cons, List.mem_cons]
      exact ⟨fun q => q.resolve_left e, .inr⟩
    simp only [this]
theorem cutC_end (hl : left = []) : colsF m (cutC es i left) = colsF m (colOf (Go.Px.cutL dE es i)) := by
  subst hl
  refine colsF_cong fun k _ => ?_
  unfold cutC
  rw [if_neg (by simp)]
  exact cutL_map (fun e : Ey => findV e.2 k) (d := dE)
theorem mem_cutL {α : Type} {d : α} {l : List α} (hi : i < l.length) {y : α} (h : y ∈ Go.Px.cutL d l i) : y ∈ l := by
  obtain ⟨j, hj⟩ := List.getElem?_of_mem h
  rcases ((cutL_at hi).1 hj).2 with ⟨_, q⟩ | ⟨_, q⟩ <;> exact List.mem_of_getElem? q
theorem TOk.cut (ht : TOk Q m es x) (hi : i < es.length) : TOk Q m (Go.Px.cutL dE es i) x where
  pool := ht.pool
  perm := ht.perm
  lt := ht.lt
  len := by rw [cutL_len]; have := ht.len; omega
  rows := fun e he => ht.rows e (mem_cutL hi he)
end
theorem hsTake (E : Nat → Addr) {es : List Ey} {i : Int} (h : 0 ≤ i ∧ i < (es.length : Nat)) : Does (Gm E) 113 ⟨[.ptr 0 0, .int .i64 i], [(0, .pr (colH E (es.map (fun e : Ey => e.1))))], 1, 2, Unit, fun _ => True, fun _ => .tup [.agg [.int .i64 (es.getD i.toNat dE).1.1, .int .i64 (es.getD i.toNat dE).1.2], .nili], fun _ => [(0, .pr (colH E ((Go.Px.cutL dE es i.toNat).map (fun e : Ey => e.1))))]⟩ := by
  have q := colTakeH E (es.map (fun e : Ey => e.1)) i (by rw [hs_len]; exact h)
  rw [hs_at, show Go.Px.cutL ((0, 0) : Int × Int) (es.map (fun e : Ey => e.1)) i.toNat = _ from cutL_map (fun e : Ey => e.1) (d := dE)] at q; exact q
set_option maxHeartbeats 4000000 in
theorem tTake (E : Nat → Addr) (Q : List (PRow Int)) (m : Nat) (es : List Ey) (i : Int) (h : 0 ≤ i ∧ i < (es.length : Nat)) : Does (Gm E) 70 ⟨[.ptr 0 0, .int .i64 i], [(0, .pr (tblPr E Q m es)), (1, .fo (roPool Zz.encI Q))], 2, 3, Nat, fun q => (es.getD i.toNat dE).2.length ≤ q, fun q => .tup [.agg [.int .i64 (es.getD i.toNat dE).1.1, .int .i64 (es.getD i.toNat dE).1.2, .sl 2 (es.getD i.toNat dE).2.length q], .nili], fun q => [(0, .pr (tblPr E Q m (Go.Px.cutL dE es i.toNat))), (2, .arr V3 Zz.encV 34 (es.getD i.toNat dE).2 q)]⟩ := by
  rename 0 ≤ i ∧ i < _ => hi
  refine DoesC.does (fn_start Tryz.func70 rfl rfl rfl ?_)
  change EntryGoal _ _ _ _ _
  refine entry_go (gmOk E) 51 2 [4] Tryz.func70 rfl rfl rfl rfl ?_
  repeat' first | (change CallGoal _ _ _ _ _ _; first | (change CallGoal _ 114 _ _ _ _; first | (refine callG.restOut 8 (colsF m (cutC es i.toNat x.1)) t.1 k (colOf es k) rfl (by rw [colsF_get (ht.perm.mem_iff.1 hk), cutC_here hp]) ?_; change CallGoal _ _ _ _ _ _; refine call_args [.ptr 27 0, .int .i64 i] (fun _ => bdLB_ok _ rfl) (fun En V w hp => by have q := rest_ptr (r := 8) (m := 27) rfl hp; simp only [SV.den, SV.denL, veP] at q ⊢; rw [q]) ?_; change CallGoal _ _ _ _ _ _; refine call_rule (colTakeV E (colOf es k) i (by rw [colOf_len]; exact hi)) [27] rfl (And.intro rfl True.intro) rfl (fun y3 hy3 => ?_)))) | (change JoinGoal _ _ _ _ _ _ _ _; refine join_stop (gmOk E) ?_) | (change HereGoal _ _ _ _ _ _ _; refine hereG.ex 0 rfl (fun t ht => ?_); change HereGoal _ _ _ _ _ _ _; refine hereG.open_ 0 rfl 4 rfl rfl ?_; change HereGoal _ _ _ _ _ _ _; refine here_go (gmOk E) ?_) | (change NextGoal _ _ _; refine nextG.restIn 8 27 (Go.Px.cutL v0 (colOf es k) i.toNat) rfl rfl rfl (colV_placed E _) (colsF_has (ht.perm.mem_iff.1 hk)) ?_; change NextGoal _ _ _; refine nextG.cast 8 (.pr (restPr (colV E) (colsF m (cutC es i.toNat left)) t.1)) rfl (by rw [colsF_put (ht.perm.mem_iff.1 hk), cutC_next (hI.fresh (by rw [ptrL_keys]; exact ht.perm.nodup_iff.2 (kindsN_nd m)) hp) hp]) ?_; change NextGoal _ _ _; refine next_go ?_) | (change RetGoal _ _ _ _ _; first | (refine retG'.cast 8 (.pr (restPr (colV E) (colsL m (Go.Px.cutL dE es i.toNat)) t.1)) rfl (by rw [show colsL m (Go.Px.cutL dE es i.toNat) = colsF m (colOf (Go.Px.cutL dE es i.toNat)) from rfl, cutC_end hl]) ?_; change RetGoal _ _ _ _ _; (refine retG'.shut (Γ0 := Gm E) rfl (.cells 133 [.ptr 1 0, .int .u64 ((m : Nat) : Int), .raw (.slice t.2.2.2.1 (kindsN m).length t.2.2.2.2), .mp 2]) [(1, .pr (colH E ((Go.Px.cutL dE es i.toNat).map (fun e : Ey => e.1)))), (2, .pr (mapPr veI veP (ptrL t.2.1 t.1))), (3, .pr (restPr (colV E) (colsL m (Go.Px.cutL dE es i.toNat)) t.1))] [0, 6, 7, 8] (And.intro rfl (And.intro rfl (And.intro rfl (And.intro rfl True.intro)))) rfl ?_; change RetGoal _ _ _ _ _; refine retG'.hide (X := PT) (p := TOk Q m (Go.Px.cutL dE es i.toNat)) (Φ := fun x => grp (Gm E) (tblH E m (Go.Px.cutL dE es i.toNat) x)) 0 t (ht.cut (by omega)) rfl ?_; change RetGoal _ _ _ _ _; refine ret_done rfl ?_))) | (intro h; first | (exfalso; omega; done) | (exfalso; exact h trivial; done) | skip) | (refine And.intro ?_ ?_) | exact True.intro | (refine @Exists.intro Unit _ () ?_) | (refine @Exists.intro (_ = _) _ rfl ?_) | (change OpGoal _ _ _ _ (.range _ _) _; refine range_rule mapCol 7 (ptrL t.2.1 t.1) rfl rfl (fun ga => ?_)) | (change OpGoal _ _ _ _ (.next _ _) _; refine next_rule (ptrL t.2.1 t.1) 10 7 rfl rfl rfl rfl (fun hl => ?_) (fun k v left hp hm => ?_); rotate_left; (obtain ⟨rfl, hk⟩ := ptrL_memv hm); rotate_left) | (change OpGoal _ _ _ _ (.entry _) _; refine entry_rule 10 rfl rfl ?_) | (change LoopGoal _ _ _ _ _ _; refine loop_at2 6 (gmOk E) rfl [4] (X := (List (Int × Option Nat) × Option (Int × Option Nat))) (fun x => [(7, .nili)]) (fun x => [(10, .pr (iterPr veI veP ga (ptrL t.2.1 t.1) x.1 x.2)), (8, .pr (restPr (colV E) (colsF m (cutC es i.toNat x.1)) t.1))]) [] (fun x => WL (ptrL t.2.1 t.1) x.1) (fun x => x.1.length) ⟨((ptrL t.2.1 t.1), none), ?_⟩ (fun x hI => ?_)) | (change @Exists ((List (Int × Option Nat) × Option (Int × Option Nat))) (fun _ => updK _ _ _ _ _ _); refine @Exists.intro ((List (Int × Option Nat) × Option (Int × Option Nat))) _ ((?_, ?_)) ?_; rotate_left 2) | (refine @Exists.intro (Nat) _ ?_ ?_; rotate_left) | (change CallGoal _ _ _ _ _ _; first | (refine call_rule (tEntity E Q m es i hi) [0, 1] rfl (And.intro rfl (And.intro rfl True.intro)) rfl (fun q hq => ?_)) | (refine call_rule (hsTake E hi) [6] rfl (And.intro rfl True.intro) rfl (fun y2 hy2 => ?_)))
  all_goals first | (dsimp only; first | rfl | omega) | rfl | omega | assumption | exact WL.start _ | exact hI.next hp | exact WL.less hp | exact congrArg (fun L => Ch.pr (restPr (colV E) L t.1)) (cutC_start ptrL_keys ht.perm).symm | exact congrArg (fun L => Ch.pr (restPr (colV E) L t.1)) (cutC_start ptrL_keys ht.perm)
end Go.Proofs.YtcnbngiplfoomaaGreatDoor
namespace Go.Proofs.YtcnbngiplfoomaaGreatDoor
open Go.Zz Go.Px
set_option linter.unusedVariables false
set_option linter.unusedSectionVars false
set_option linter.unusedSimpArgs false
set_option maxRecDepth 10000
section
variable {m : Nat} {es : List Ey} {f : Int → List V3} {k : Int} {ks : List Int} {l : List V3}
def colsK (ks : List Int) (f : Int → List V3) : List (Int × List V3) := ks.map fun k => (k, f k)
theorem colsK_mem {y : Int × List V3} : y ∈ colsK ks f ↔ y.1 ∈ ks ∧ y.2 = f y.1 := by
  unfold colsK; rw [List.mem_map]
  constructor
  · rintro ⟨k, hk, rfl⟩; exact ⟨hk, rfl⟩
  · rintro ⟨h1, h2⟩; exact ⟨y.1, h1, by rw [← h2]⟩
theorem colsK_hasN (h : ¬ k ∈ ks) : hasK (colsK ks f) k = false := by
  rw [← Bool.not_eq_true, hasK_iff]
  intro q
  obtain ⟨y, hy, rfl⟩ := List.mem_map.1 q
  exact h (colsK_mem.1 hy).1
theorem colsK_hasY (h : k ∈ ks) : hasK (colsK ks f) k = true := hasK_iff.2 (List.mem_map.2 ⟨(k, f k), colsK_mem.2 ⟨h, rfl⟩, rfl⟩)
theorem colsK_new (h : ¬ k ∈ ks) : Go.Px.putK (colsK ks f) k (f k) = colsK (ks ++ [k]) f := by
  unfold Go.Px.putK
  rw [colsK_hasN h, if_neg (by simp)]
  unfold colsK; rw [List.map_append]; rfl
theorem colsK_same (h : k ∈ ks) : Go.Px.putK (colsK ks f) k (f k) = colsK ks f := by
  unfold Go.Px.putK
  rw [colsK_hasY h, if_pos rfl]
  unfold colsK
  rw [List.map_map]
  refine List.map_congr_left fun j hj => ?_
  simp only [Function.comp]
  split
  · rename_i e; rw [e]
  · rfl
theorem colsK_two (h : ¬ k ∈ ks) : Go.Px.putK (Go.Px.putK (colsK ks f) k (f k)) k (f k) = colsK (ks ++ [k]) f := by
  rw [colsK_new h, colsK_same (List.mem_append.2 (.inr (List.mem_singleton.2 rfl)))]
def kTo (m : Nat) (i : Int) : List Int := (kindsN m).take i.toNat
theorem kTo_next {i : Int} (h0 : 0 ≤ i) (h : i < ((kindsN m).length : Nat)) : kTo m i ++ [(kindsN m).getD i.toNat 0] = kTo m (i + 1) := (take_nextI (d := 0) ⟨h0, h⟩).symm
theorem kTo_end {i : Int} (h : ¬ i < ((kindsN m).length : Nat)) : kTo m i = kindsN m := List.take_of_length_le (by omega)
theorem kTo_new {i : Int} (h0 : 0 ≤ i) (h : i < ((kindsN m).length : Nat)) : ¬ (kindsN m).getD i.toNat 0 ∈ kTo m i := fun q => by
  have hn := kindsN_nd m
  rw [← List.take_append_drop (i + 1).toNat (kindsN m), show (kindsN m).take (i + 1).toNat = kTo m i ++ [(kindsN m).getD i.toNat 0] from (kTo_next h0 h).symm] at hn
  have := (List.nodup_append.1 hn).1
  exact (List.nodup_append.1 this).2.2 _ q _ (List.mem_singleton.2 rfl) rfl
end
theorem atP_here {κ : Type} [DecidableEq κ] {p : κ → Nat} {x : κ} {g : Nat} : atP p x g x = g := if_pos rfl
set_option maxHeartbeats 4000000 in
theorem right_m (E : Nat → Addr) (m : Nat) (h : m < 1024) : Does (Gm E) 134 (Sp0 [.int .u64 ((m : Nat) : Int)] [] 0 .tt) := by
  refine fn_intro (gmOk E) 6 0 [] Tryz.func134 rfl rfl rfl rfl rfl ?_
  repeat' first | (intro h; first | (exfalso; omega; done) | skip) | (refine And.intro ?_ ?_) | exact True.intro | (refine @Exists.intro Unit _ () ?_) | (refine @Exists.intro (_ = _) _ rfl ?_)
  all_goals first | rfl | omega | (rename m < 1024 => hm; decide +revert)
theorem TOk.new {Q : List (PRow Int)} {m : Nat} {p : Int → Nat} {a : Option Addr} {k : Nat} (hm : m < 1024) : TOk (Q ++ [(a, k, kindsN m)]) m [] (p, kindsN m, Q.length, a, k) where
  pool := by simp
  perm := List.Perm.refl _
  lt := hm
  len := Nat.zero_le _
  rows := fun e he => by cases he
set_option maxHeartbeats 4000000 in
theorem tNew (E : Nat → Addr) (Q : List (PRow Int)) (m : Nat) (h : m < 1024) : Does (Gm E) 97 ⟨[.int .u64 ((m : Nat) : Int)], [(0, .pr (poolPr Zz.encI 3 Q)), (1, .fo (tzF 10))], 2, 3, (Option Addr × Nat), fun _ => True, fun _ => .tup [.ptr 2 0, .nili], fun x => [(0, .pr (poolPr Zz.encI 3 (Q ++ [(x.1, x.2, kindsN m)]))), (2, .pr (tblPr E (Q ++ [(x.1, x.2, kindsN m)]) m []))]⟩ := by
  rename m < 1024 => hm
  refine DoesC.does (fn_start Tryz.func97 rfl rfl rfl ?_)
  change EntryGoal _ _ _ _ _
  refine entry_go (gmOk E) 35 2 [4] Tryz.func97 rfl rfl rfl rfl ?_
  repeat' first | (change CallGoal _ _ _ _ _ _; first | (change CallGoal _ 137 _ _ _ _; first | (refine call_retell ?_; change CallGoal _ _ _ _ _ _; refine call_rule (colNewV E) [] rfl True.intro rfl (fun y hy => ?_)))) | (change JoinGoal _ _ _ _ _ _ _ _; refine join_stop (gmOk E) ?_) | (change HereGoal _ _ _ _ _ _ _; refine hereG.restNil (colV E) (fun _ : Int => 0) ?_; change HereGoal _ _ _ _ _ _ _; refine here_go (gmOk E) ?_) | (change NextGoal _ _ _; refine nextG.restIn 6 23 (colOf [] ((kindsN m).getD x.1.toNat 0)) rfl rfl rfl (colV_placed E _) (by rw [colsK_new (kTo_new hI.1 (by assumption))]; exact colsK_hasY (List.mem_append.2 (.inr (List.mem_singleton.2 rfl)))) ?_; change NextGoal _ _ _; refine nextG.cast 6 (.pr (restPr (colV E) (colsK (kTo m (x.1 + 1)) (colOf [])) (atP x.2 ((kindsN m).getD x.1.toNat 0) g))) rfl (by rw [colsK_two (kTo_new hI.1 (by assumption)), kTo_next hI.1 (by assumption)]) ?_; change NextGoal _ _ _; refine nextG.cast 4 (.pr (mapPr veI veP (ptrL (kTo m (x.1 + 1)) (atP x.2 ((kindsN m).getD x.1.toNat 0) g)))) rfl (by rw [ptrL_at (kTo_new hI.1 (by assumption)), kTo_next hI.1 (by assumption)]) ?_; change NextGoal _ _ _; refine next_go ?_) | (change Retell _ _ _ _ _; refine retellG.restNew 6 23 ((kindsN m).getD x.1.toNat 0) (colOf [] ((kindsN m).getD x.1.toNat 0)) rfl rfl (colV_placed E _) (colsK_hasN (kTo_new hI.1 (by assumption))) (fun g => ?_); change Retell _ _ _ _ _; refine retell_done ?_) | (change RetGoal _ _ _ _ _; first | (refine retG'.cast 4 (.pr (mapPr veI veP (ptrL (kindsN m) x.2))) rfl (by rw [kTo_end (by assumption)]) ?_; change RetGoal _ _ _ _ _; refine retG'.cast 6 (.pr (restPr (colV E) (colsL m []) x.2)) rfl (by rw [kTo_end (by assumption)]; rfl) ?_; change RetGoal _ _ _ _ _; refine retG'.poolAdd 0 3 rfl rfl rfl (fun a => ?_); change RetGoal _ _ _ _ _; refine retG'.cells_ 5 [.ptr 2 0, .int .u64 ((m : Nat) : Int), .raw (.slice a (kindsN m).length q1), .mp 4] rfl rfl (fun En V w hp => by have q := says (c := 23) rfl hp; simp only [SV.renL, SV.ren, SV.denL, SV.den, PRow.val] at q ⊢; first | rw [q] | exact congrArg (fun z => [_, _, z, _]) q) ?_; change RetGoal _ _ _ _ _; refine retG'.shut (Γ0 := Gm E) rfl (.cells 133 [.ptr 1 0, .int .u64 ((m : Nat) : Int), .raw (.slice (x.2, kindsN m, Q.length, a, q1).2.2.2.1 (kindsN m).length (x.2, kindsN m, Q.length, a, q1).2.2.2.2), .mp 2]) [(1, .pr (colH E ([].map (fun e : Ey => e.1)))), (2, .pr (mapPr veI veP (ptrL (x.2, kindsN m, Q.length, a, q1).2.1 (x.2, kindsN m, Q.length, a, q1).1))), (3, .pr (restPr (colV E) (colsL m []) (x.2, kindsN m, Q.length, a, q1).1))] [5, 2, 4, 6] (And.intro rfl (And.intro rfl (And.intro rfl (And.intro rfl True.intro)))) rfl ?_; change RetGoal _ _ _ _ _; refine retG'.hide (X := PT) (p := TOk (Q ++ [(a, q1, kindsN m)]) m []) (Φ := fun x => grp (Gm E) (tblH E m [] x)) 5 (x.2, kindsN m, Q.length, a, q1) (TOk.new hm) rfl ?_; change RetGoal _ _ _ _ _; refine ret_done rfl ⟨(a, q1), ?_⟩)) | (intro h; first | (exfalso; omega; done) | (exfalso; exact h trivial; done) | skip) | (refine And.intro ?_ ?_) | exact True.intro | (refine @Exists.intro Unit _ () ?_) | (refine @Exists.intro (_ = _) _ rfl ?_) | (change OpGoal _ _ _ _ (.makeMap _ _) _; refine mapnew_rule veI veP ?_) | (change OpGoal _ _ _ _ (.mapUpdate _ _ _ _) _; refine mapset_ruleS mapCol 4 (ptrL (kTo m x.1) x.2) ((kindsN m).getD x.1.toNat 0) (some g) rfl rfl (fun En V w hp => by have q := rest_ptr (r := 6) (m := 23) rfl hp; rw [atP_here] at q; exact q) rfl ?_) | (change LoopGoal _ _ _ _ _ _; refine loop_at2 5 (gmOk E) rfl [4] (X := (Int × (Int → Nat))) (fun x => [(23, .int .i64 x.1)]) (fun x => [(4, .pr (mapPr veI veP (ptrL (kTo m x.1) x.2))), (6, .pr (restPr (colV E) (colsK (kTo m x.1) (colOf [])) x.2))]) [] (fun x => 0 ≤ x.1 ∧ x.1 ≤ ((kindsN m).length : Nat)) (fun x => (kindsN m).length - x.1.toNat) ⟨(0, fun _ => 0), ?_⟩ (fun x hI => ?_)) | (change @Exists ((Int × (Int → Nat))) (fun _ => updK _ _ _ _ _ _); refine @Exists.intro ((Int × (Int → Nat))) _ (((x.1 + 1, atP x.2 ((kindsN m).getD x.1.toNat 0) g))) ?_) | (change DrawGoal _ _ _ _ _ _; first | (change DrawGoal _ _ _ ({ dst := some 10, op := _, type := _, pos := _, after := _, guard := _ } :: _) _ _; refine draw_tree (gmOk E) [] (.leaf [(0, true), (1, true), (2, true)]) (by kernel_rfl) ?_) | (change DrawGoal _ _ _ ({ dst := some 27, op := _, type := _, pos := _, after := _, guard := _ } :: _) _ _; refine draw_tree (gmOk E) [5] (.leaf [(0, true), (1, true), (2, true), (3, true), (4, true), (5, false), (6, false)]) (by kernel_rfl) ?_)) | (change CallGoal _ _ _ _ _ _; first | (refine call_rule (colNewH E) [] rfl True.intro rfl (fun y1 hy1 => ?_)) | (refine call_rule (kinds_z E m hm) [1] rfl (And.intro rfl True.intro) rfl (fun (q1 : Nat) hq1 => ?_))) | (change CallGoal _ _ _ _ _ _; first | (refine call0 (right_m E m hm) [] rfl True.intro rfl ?_))
  all_goals first | rfl | omega | assumption | (have := kindsN_len m; omega)
end Go.Proofs.YtcnbngiplfoomaaGreatDoor
namespace Go.Proofs.YtcnbngiplfoomaaGreatDoor
open Go.Zz Go.Px
set_option linter.unusedVariables false
set_option linter.unusedSectionVars false
set_option linter.unusedSimpArgs false
set_option maxRecDepth 10000
section
variable {m : Nat} {es : List Ey} {k : Int} {v : Option Nat} {left left' : List (Int × Option Nat)} {ks vis : List Int} {p p' : Int → Nat} {Q : List (PRow Int)} {x : PT}
structure WV (L : List (Int × Option Nat)) (left : List (Int × Option Nat)) (vis : List Int) : Prop where
  wl : WL L left
  perm : (L.map (·.1)).Perm (vis ++ left.map (·.1))
theorem WV.start (L : List (Int × Option Nat)) : WV L L [] := ⟨WL.start L, List.Perm.refl _⟩
theorem WV.next {L : List (Int × Option Nat)} (h : WV L left vis) (hp : left.Perm ((k, v) :: left')) : WV L left' (vis ++ [k]) :=
  ⟨h.wl.next hp, h.perm.trans (by rw [List.append_assoc]; exact List.Perm.append_left vis (hp.map (·.1)))⟩
theorem WV.new {L : List (Int × Option Nat)} (h : WV L left vis) (hn : (L.map (·.1)).Nodup) (hp : left.Perm ((k, v) :: left')) : ¬ k ∈ vis := fun q => by
  have := h.perm.nodup_iff.1 hn
  exact (List.nodup_append.1 this).2.2 k q k ((hp.map (·.1)).mem_iff.2 (by rw [List.map_cons]; exact List.mem_cons_self)) rfl
theorem WV.done {L : List (Int × Option Nat)} (h : WV L left vis) (hl : left = []) : (L.map (·.1)).Perm vis := by
  have := h.perm; rw [hl, List.map_nil, List.append_nil] at this; exact this
theorem TOk.again (ht : TOk Q m es x) (hv : vis.Perm (kindsN m)) : TOk Q m es (p, vis, x.2.2.1, x.2.2.2.1, x.2.2.2.2) := ⟨ht.pool, hv, ht.lt, ht.rows, ht.len⟩
theorem colsK_perm {f : Int → List V3} (hv : vis.Perm (kindsN m)) (y : Int × List V3) : y ∈ colsK vis f ↔ y ∈ colsF m f := by rw [show colsF m f = colsK (kindsN m) f from rfl, colsK_mem, colsK_mem, hv.mem_iff]
end
set_option maxHeartbeats 4000000 in
theorem tClone (E : Nat → Addr) (Q : List (PRow Int)) (m : Nat) (es : List Ey) : Does (Gm E) 69 ⟨[.ptr 0 0], [(0, .pr (tblPr E Q m es))], 1, 2, Unit, fun _ => True, fun _ => .ptr 1 0, fun _ => [(0, .pr (tblPr E Q m es)), (1, .pr (tblPr E Q m es))]⟩ := by
  refine DoesC.does (fn_start Tryz.func69 rfl rfl rfl ?_)
  change EntryGoal _ _ _ _ _
  refine entryG.ex 0 rfl (fun t ht => ?_)
  change EntryGoal _ _ _ _ _
  refine entryG.open_ 0 rfl 4 rfl rfl ?_
  change EntryGoal _ _ _ _ _
  refine entry_go (gmOk E) 40 1 [2] Tryz.func69 rfl rfl rfl rfl ?_
  repeat' first | (change CallGoal _ _ _ _ _ _; first | (change CallGoal _ 112 _ _ _ _; first | (refine call_retell ?_; change CallGoal _ _ _ _ _ _; refine callG.restOut 4 (colsL m es) t.1 k (colOf es k) rfl (colsL_get (ht.perm.mem_iff.1 hk)) ?_; change CallGoal _ _ _ _ _ _; refine call_args [.ptr 26 0] (fun _ => bdLB_ok _ rfl) (fun En V w hp => by have q := rest_ptr (r := 4) (m := 26) rfl hp; simp only [SV.den, SV.denL, veP] at q ⊢; rw [q]) ?_; change CallGoal _ _ _ _ _ _; refine call_rule (colCloneV E (colOf es k)) [26] rfl (And.intro rfl True.intro) rfl (fun y3 hy3 => ?_)))) | (change JoinGoal _ _ _ _ _ _ _ _; refine join_stop (gmOk E) ?_) | (change HereGoal _ _ _ _ _ _ _; refine hereG.restNil (colV E) (fun _ : Int => 0) ?_; change HereGoal _ _ _ _ _ _ _; refine here_go (gmOk E) ?_) | (change Retell _ _ _ _ _; refine retellG.restIn 4 26 (colOf es k) rfl rfl rfl (colV_placed E _) (colsF_has (ht.perm.mem_iff.1 hk)) ?_; change Retell _ _ _ _ _; refine retellG.cast 4 (.pr (restPr (colV E) (colsL m es) t.1)) rfl (by rw [show colsL m es = colsF m (colOf es) from rfl, colsF_same (ht.perm.mem_iff.1 hk)]) ?_; change Retell _ _ _ _ _; refine retellG.restNew 8 27 k (colOf es k) rfl rfl (colV_placed E _) (colsK_hasN (hI.new (by rw [ptrL_keys]; exact ht.perm.nodup_iff.2 (kindsN_nd m)) hp)) (fun g => ?_); change Retell _ _ _ _ _; refine retell_done ?_) | (change NextGoal _ _ _; refine nextG.restIn 8 27 (colOf es k) rfl rfl rfl (colV_placed E _) (by rw [colsK_new (hI.new (by rw [ptrL_keys]; exact ht.perm.nodup_iff.2 (kindsN_nd m)) hp)]; exact colsK_hasY (List.mem_append.2 (.inr (List.mem_singleton.2 rfl)))) ?_; change NextGoal _ _ _; refine nextG.cast 8 (.pr (restPr (colV E) (colsK (x.2.2.1 ++ [k]) (colOf es)) (atP x.2.2.2 k g))) rfl (by rw [colsK_two (hI.new (by rw [ptrL_keys]; exact ht.perm.nodup_iff.2 (kindsN_nd m)) hp)]) ?_; change NextGoal _ _ _; refine nextG.cast 6 (.pr (mapPr veI veP (ptrL (x.2.2.1 ++ [k]) (atP x.2.2.2 k g)))) rfl (by rw [ptrL_at (hI.new (by rw [ptrL_keys]; exact ht.perm.nodup_iff.2 (kindsN_nd m)) hp)]) ?_; change NextGoal _ _ _; refine next_go ?_) | (change NextGoal _ _ _; refine nextG.restIn 8 27 (colOf es k) rfl rfl rfl (colV_placed E _) (by rw [colsK_new (hI.new (by rw [ptrL_keys]; exact ht.perm.nodup_iff.2 (kindsN_nd m)) hp)]; exact colsK_hasY (List.mem_append.2 (.inr (List.mem_singleton.2 rfl)))) ?_; change NextGoal _ _ _; refine nextG.cast 8 (.pr (restPr (colV E) (colsK (x.2.2.1 ++ [k]) (colOf es)) (atP x.2.2.2 k g))) rfl (by rw [colsK_two (hI.new (by rw [ptrL_keys]; exact ht.perm.nodup_iff.2 (kindsN_nd m)) hp)]) ?_; change NextGoal _ _ _; refine nextG.cast 5 (.pr (mapPr veI veP (ptrL (x.2.2.1 ++ [k]) (atP x.2.2.2 k g)))) rfl (by rw [ptrL_at (hI.new (by rw [ptrL_keys]; exact ht.perm.nodup_iff.2 (kindsN_nd m)) hp)]) ?_; change NextGoal _ _ _; refine next_go ?_) | (change RetGoal _ _ _ _ _; first | (have hv := (((hI.done hl).symm.trans (by rw [ptrL_keys])).trans ht.perm); refine retG'.imp 8 (Φ := restPr (colV E) (colsK x.2.2.1 (colOf es)) x.2.2.2) (Ψ := restPr (colV E) (colsL m es) x.2.2.2) rfl (rest_same (colsK_perm hv) (fun _ _ => rfl)) ?_; change RetGoal _ _ _ _ _; refine retG'.shut (Γ0 := Gm E) rfl (.cells 133 [.ptr 1 0, .int .u64 ((m : Nat) : Int), .raw (.slice (x.2.2.2, x.2.2.1, t.2.2.1, t.2.2.2.1, t.2.2.2.2).2.2.2.1 (kindsN m).length (x.2.2.2, x.2.2.1, t.2.2.1, t.2.2.2.1, t.2.2.2.2).2.2.2.2), .mp 2]) [(1, .pr (colH E (es.map (fun e : Ey => e.1)))), (2, .pr (mapPr veI veP (ptrL (x.2.2.2, x.2.2.1, t.2.2.1, t.2.2.2.1, t.2.2.2.2).2.1 (x.2.2.2, x.2.2.1, t.2.2.1, t.2.2.2.1, t.2.2.2.2).1))), (3, .pr (restPr (colV E) (colsL m es) (x.2.2.2, x.2.2.1, t.2.2.1, t.2.2.2.1, t.2.2.2.2).1))] [7, 5, 6, 8] (And.intro rfl (And.intro rfl (And.intro rfl (And.intro rfl True.intro)))) rfl ?_; change RetGoal _ _ _ _ _; refine retG'.hide (X := PT) (p := TOk Q m es) (Φ := fun x => grp (Gm E) (tblH E m es x)) 7 (x.2.2.2, x.2.2.1, t.2.2.1, t.2.2.2.1, t.2.2.2.2) (ht.again hv) rfl ?_; change RetGoal _ _ _ _ _; (refine retG'.shut (Γ0 := Gm E) rfl (.cells 133 [.ptr 1 0, .int .u64 ((m : Nat) : Int), .raw (.slice t.2.2.2.1 (kindsN m).length t.2.2.2.2), .mp 2]) [(1, .pr (colH E (es.map (fun e : Ey => e.1)))), (2, .pr (mapPr veI veP (ptrL t.2.1 t.1))), (3, .pr (restPr (colV E) (colsL m es) t.1))] [0, 2, 3, 4] (And.intro rfl (And.intro rfl (And.intro rfl (And.intro rfl True.intro)))) rfl ?_; change RetGoal _ _ _ _ _; refine retG'.hide (X := PT) (p := TOk Q m es) (Φ := fun x => grp (Gm E) (tblH E m es x)) 0 t ht rfl ?_; change RetGoal _ _ _ _ _; refine ret_done rfl ?_)) | (have hv := (((hI.done hl).symm.trans (by rw [ptrL_keys])).trans ht.perm); refine retG'.imp 8 (Φ := restPr (colV E) (colsK x.2.2.1 (colOf es)) x.2.2.2) (Ψ := restPr (colV E) (colsL m es) x.2.2.2) rfl (rest_same (colsK_perm hv) (fun _ _ => rfl)) ?_; change RetGoal _ _ _ _ _; refine retG'.shut (Γ0 := Gm E) rfl (.cells 133 [.ptr 1 0, .int .u64 ((m : Nat) : Int), .raw (.slice (x.2.2.2, x.2.2.1, t.2.2.1, t.2.2.2.1, t.2.2.2.2).2.2.2.1 (kindsN m).length (x.2.2.2, x.2.2.1, t.2.2.1, t.2.2.2.1, t.2.2.2.2).2.2.2.2), .mp 2]) [(1, .pr (colH E (es.map (fun e : Ey => e.1)))), (2, .pr (mapPr veI veP (ptrL (x.2.2.2, x.2.2.1, t.2.2.1, t.2.2.2.1, t.2.2.2.2).2.1 (x.2.2.2, x.2.2.1, t.2.2.1, t.2.2.2.1, t.2.2.2.2).1))), (3, .pr (restPr (colV E) (colsL m es) (x.2.2.2, x.2.2.1, t.2.2.1, t.2.2.2.1, t.2.2.2.2).1))] [7, 6, 5, 8] (And.intro rfl (And.intro rfl (And.intro rfl (And.intro rfl True.intro)))) rfl ?_; change RetGoal _ _ _ _ _; refine retG'.hide (X := PT) (p := TOk Q m es) (Φ := fun x => grp (Gm E) (tblH E m es x)) 7 (x.2.2.2, x.2.2.1, t.2.2.1, t.2.2.2.1, t.2.2.2.2) (ht.again hv) rfl ?_; change RetGoal _ _ _ _ _; (refine retG'.shut (Γ0 := Gm E) rfl (.cells 133 [.ptr 1 0, .int .u64 ((m : Nat) : Int), .raw (.slice t.2.2.2.1 (kindsN m).length t.2.2.2.2), .mp 2]) [(1, .pr (colH E (es.map (fun e : Ey => e.1)))), (2, .pr (mapPr veI veP (ptrL t.2.1 t.1))), (3, .pr (restPr (colV E) (colsL m es) t.1))] [0, 2, 3, 4] (And.intro rfl (And.intro rfl (And.intro rfl (And.intro rfl True.intro)))) rfl ?_; change RetGoal _ _ _ _ _; refine retG'.hide (X := PT) (p := TOk Q m es) (Φ := fun x => grp (Gm E) (tblH E m es x)) 0 t ht rfl ?_; change RetGoal _ _ _ _ _; refine ret_done rfl ?_))) | (intro h; first | (exfalso; omega; done) | (exfalso; exact h trivial; done) | skip) | (refine And.intro ?_ ?_) | exact True.intro | (refine @Exists.intro Unit _ () ?_) | (refine @Exists.intro (_ = _) _ rfl ?_) | (change OpGoal _ _ _ _ (.makeMap _ _) _; refine mapnew_rule veI veP ?_) | (change OpGoal _ _ _ _ (.range _ _) _; refine range_rule mapCol 3 (ptrL t.2.1 t.1) rfl rfl (fun ga => ?_)) | (change OpGoal _ _ _ _ (.next _ _) _; refine next_rule (ptrL t.2.1 t.1) 9 3 rfl rfl rfl rfl (fun hl => ?_) (fun k v left hp hm => ?_); rotate_left; (obtain ⟨rfl, hk⟩ := ptrL_memv hm); rotate_left) | (change OpGoal _ _ _ _ (.entry _) _; refine entry_rule 9 rfl rfl ?_) | (change OpGoal _ _ _ _ (.mapUpdate _ _ _ _) _; refine mapset_ruleS mapCol 6 (ptrL x.2.2.1 x.2.2.2) k (some g) rfl rfl (fun En V w hp => by have q := rest_ptr (r := 8) (m := 27) rfl hp; rw [atP_here] at q; exact q) rfl ?_) | (change OpGoal _ _ _ _ (.mapUpdate _ _ _ _) _; refine mapset_ruleS mapCol 5 (ptrL x.2.2.1 x.2.2.2) k (some g) rfl rfl (fun En V w hp => by have q := rest_ptr (r := 8) (m := 27) rfl hp; rw [atP_here] at q; exact q) rfl ?_) | (change LoopGoal _ _ _ _ _ _; refine loopG.cast 5 (.pr (colH E (es.map (fun e : Ey => e.1)))) rfl rfl ?_; change LoopGoal _ _ _ _ _ _; refine loop_at2 3 (gmOk E) rfl [2] (X := (List (Int × Option Nat) × Option (Int × Option Nat) × List Int × (Int → Nat))) (fun x => []) (fun x => [(9, .pr (iterPr veI veP ga (ptrL t.2.1 t.1) x.1 x.2.1)), (6, .pr (mapPr veI veP (ptrL x.2.2.1 x.2.2.2))), (8, .pr (restPr (colV E) (colsK x.2.2.1 (colOf es)) x.2.2.2))]) [] (fun x => WV (ptrL t.2.1 t.1) x.1 x.2.2.1) (fun x => x.1.length) ⟨((ptrL t.2.1 t.1), none, [], fun _ => 0), ?_⟩ (fun x hI => ?_)) | (change @Exists ((List (Int × Option Nat) × Option (Int × Option Nat) × List Int × (Int → Nat))) (fun _ => updK _ _ _ _ _ _); refine @Exists.intro ((List (Int × Option Nat) × Option (Int × Option Nat) × List Int × (Int → Nat))) _ (((left, some (k, some (t.1 k)), (x.2.2.1 ++ [k]), atP x.2.2.2 k g))) ?_) | (change LoopGoal _ _ _ _ _ _; refine loopG.cast 6 (.pr (colH E (es.map (fun e : Ey => e.1)))) rfl rfl ?_; change LoopGoal _ _ _ _ _ _; refine loop_at2 3 (gmOk E) rfl [2] (X := (List (Int × Option Nat) × Option (Int × Option Nat) × List Int × (Int → Nat))) (fun x => []) (fun x => [(9, .pr (iterPr veI veP ga (ptrL t.2.1 t.1) x.1 x.2.1)), (5, .pr (mapPr veI veP (ptrL x.2.2.1 x.2.2.2))), (8, .pr (restPr (colV E) (colsK x.2.2.1 (colOf es)) x.2.2.2))]) [] (fun x => WV (ptrL t.2.1 t.1) x.1 x.2.2.1) (fun x => x.1.length) ⟨((ptrL t.2.1 t.1), none, [], fun _ => 0), ?_⟩ (fun x hI => ?_)) | (change @Exists ((List (Int × Option Nat) × Option (Int × Option Nat) × List Int × (Int → Nat))) (fun _ => updK _ _ _ _ _ _); refine @Exists.intro ((List (Int × Option Nat) × Option (Int × Option Nat) × List Int × (Int → Nat))) _ (((left, some (k, some (t.1 k)), (x.2.2.1 ++ [k]), atP x.2.2.2 k g))) ?_) | (change DrawGoal _ _ _ _ _ _; first | (change DrawGoal _ _ _ ({ dst := some 6, op := _, type := _, pos := _, after := _, guard := _ } :: _) _ _; refine draw_tree (gmOk E) [0] (.alt [(0, true), (1, true), (2, true), (3, true), (5, true), (6, true), (7, true), (8, true), (9, true), (10, true), (11, true), (12, true)] (.leaf [(4, false), (13, false), (14, true), (15, false), (16, true)]) (.leaf [(13, false), (4, false), (14, true), (15, false), (16, true)])) (by kernel_rfl) ?_) | (change DrawGoal _ _ _ ({ dst := some 32, op := _, type := _, pos := _, after := _, guard := _ } :: _) _ _; refine draw_tree (gmOk E) [7] (.leaf [(0, true), (1, true), (2, true), (3, true), (4, true), (5, true), (6, false), (7, false)]) (by kernel_rfl) ?_)) | (change CallGoal _ _ _ _ _ _; first | (refine call_rule (colCloneH E (es.map (fun e : Ey => e.1))) [2] rfl (And.intro rfl True.intro) rfl (fun y1 hy1 => ?_)))
  all_goals first | (dsimp only; first | rfl | omega) | rfl | omega | assumption | exact WV.start _ | exact hI.next hp | exact WL.less hp
end Go.Proofs.YtcnbngiplfoomaaGreatDoor
namespace Go.Proofs.YtcnbngiplfoomaaGreatDoor
open Go.Zz Go.Px
set_option linter.unusedVariables false
set_option linter.unusedSectionVars false
set_option linter.unusedSimpArgs false
set_option maxRecDepth 10000
section
abbrev EL := List ((Int × Int) × Int)
abbrev XT := TL × PL × EL × (Int → Nat)
def tabL (T : TL) : List (Int × Nat × List Ey) := T.map fun y => (y.1, y.1.toNat, y.2)
def placL (P : PL) (p : Int → Nat) : List ((Int × Int) × Option Nat × Int) := P.map fun y => (y.1, some (p y.2.1), y.2.2)
def stepI (f k : Int) : Int := if hasM f.toNat k then ((lessN f.toNat (bitN k) : Nat) : Int) else ((f.toNat ||| bitN k : Nat) : Int)
structure XOk (R : List Ey) (x : XT) : Prop where
  inv : SInv x.1 x.2.1 R
  ed : ∀ y ∈ x.2.2.1, y.2 = stepI y.1.1 y.1.2
  len : R.length ≤ 128
noncomputable def tabP (E : Nat → Addr) (Q : List (PRow Int)) (v : Nat × List Ey) : Pr := tblPr E Q v.1 v.2
noncomputable def stoH (E : Nat → Addr) (Q : List (PRow Int)) (x : XT) : Hp := [(0, .cells 108 [.mp 1, .mp 2, .mp 3]), (1, .pr (mapPr veU veP (ptrL (x.1.map (fun y : Int × List Ey => y.1)) x.2.2.2))), (2, .pr (mapPr (Enc.ag (Zz.encP Zz.encI Zz.encI)) vePl (placL x.2.1 x.2.2.2))), (3, .pr (mapPr (Enc.ag (Zz.encP encU Zz.encI)) veU x.2.2.1)), (4, .pr (restPr (tabP E Q) (tabL x.1) x.2.2.2))]
noncomputable def storePr (E : Nat → Addr) (Q : List (PRow Int)) (R : List Ey) : Pr := exPr (XOk R) fun x => grp (Gm E) (stoH E Q x)
variable {E : Nat → Addr} {Q : List (PRow Int)} {T : TL} {P : PL} {R : List Ey} {m i : Int} {h : Hd} {es : List Ey} {p : Int → Nat} {x : XT} {r : Rw}
theorem tabP_placed (v : Nat × List Ey) : Placed (tabP E Q v) := tbl_placed E Q v.1 v.2
theorem getK_map {κ ν μ : Type} [DecidableEq κ] (f : κ → ν → μ) (k : κ) : ∀ L : List (κ × ν), getK (L.map fun y => (y.1, f y.1 y.2)) k = (getK L k).map (f k)
  | [] => rfl
  | y :: L => by
    unfold getK
    rw [List.map_cons, List.find?_cons, List.find?_cons]
    by_cases e : y.1 = k
    · rw [decide_eq_true e]; subst e; rfl
    · rw [decide_eq_false e]; exact getK_map f k L
theorem hasK_map {κ ν μ : Type} [DecidableEq κ] (f : κ → ν → μ) (k : κ) (L : List (κ × ν)) : hasK (L.map fun y => (y.1, f y.1 y.2)) k = hasK L k := by rw [hasK_get, hasK_get, getK_map]; cases getK L k <;> rfl
theorem putK_map {κ ν μ : Type} [DecidableEq κ] (f : κ → ν → μ) (k : κ) (v : ν) (L : List (κ × ν)) : Go.Px.putK (L.map fun y => (y.1, f y.1 y.2)) k (f k v) = (Go.Px.putK L k v).map fun y => (y.1, f y.1 y.2) := by
  unfold Go.Px.putK
  rw [hasK_map f k L]
  split
  · rw [List.map_map, List.map_map]
    refine List.map_congr_left fun y hy => ?_
    simp only [Function.comp]
    by_cases e : y.1 = k
    · rw [if_pos e, if_pos e]
    · rw [if_neg e, if_neg e]
  · rw [List.map_append]; rfl
theorem delK_map {κ ν μ : Type} [DecidableEq κ] (f : κ → ν → μ) (k : κ) (L : List (κ × ν)) : Go.Px.delK (L.map fun y => (y.1, f y.1 y.2)) k = (Go.Px.delK L k).map fun y => (y.1, f y.1 y.2) := by
  unfold Go.Px.delK; rw [List.filter_map]; rfl
theorem tabL_get (hg : getK T m = some es) : getK (tabL T) m = some (m.toNat, es) := by
  unfold tabL; rw [getK_map (fun (a : Int) (b : List Ey) => (a.toNat, b)), hg]; rfl
theorem tabL_has : hasK (tabL T) m = hasK T m := hasK_map (fun (a : Int) (b : List Ey) => (a.toNat, b)) m T
theorem tabL_put : Go.Px.putK (tabL T) m (m.toNat, es) = tabL (Go.Px.putK T m es) := putK_map (fun (a : Int) (b : List Ey) => (a.toNat, b)) m es T
theorem tabL_del : Go.Px.delK (tabL T) m = tabL (Go.Px.delK T m) := delK_map (fun (a : Int) (b : List Ey) => (a.toNat, b)) m T
theorem placL_map : placL P p = P.map fun y => (y.1, (fun (_ : Hd) (b : Int × Int) => (some (p b.1), b.2)) y.1 y.2) := rfl
theorem placL_get (hg : getK P h = some (m, i)) : getK (placL P p) h = some (some (p m), i) := by
  rw [placL_map, getK_map (fun (_ : Hd) (b : Int × Int) => (some (p b.1), b.2)), hg]; rfl
theorem placL_has : hasK (placL P p) h = hasK P h := by rw [placL_map]; exact hasK_map (fun (_ : Hd) (b : Int × Int) => (some (p b.1), b.2)) h P
theorem placL_put : Go.Px.putK (placL P p) h (some (p m), i) = placL (Go.Px.putK P h (m, i)) p := by
  rw [placL_map, placL_map]; exact putK_map (fun (_ : Hd) (b : Int × Int) => (some (p b.1), b.2)) h (m, i) P
theorem placL_del : Go.Px.delK (placL P p) h = placL (Go.Px.delK P h) p := by
  rw [placL_map, placL_map]; exact delK_map (fun (_ : Hd) (b : Int × Int) => (some (p b.1), b.2)) h P
theorem placL_len : (placL P p).length = P.length := List.length_map _
theorem XOk.nil : XOk [] ([], [], [], fun _ => 0) := ⟨SInv.nil, (fun _ h => by cases h), Nat.zero_le _⟩
theorem XOk.find (hx : XOk R x) (hR : hasK R h = true) : ∃ m i es r, getK x.2.1 h = some (m, i) ∧ getK x.1 m = some es ∧ (0 ≤ i ∧ i < (es.length : Nat)) ∧ es.getD i.toNat dE = (h, r) ∧ getK R h = some r ∧ mkI r = m ∧ rightV r = true ∧ (h, r) ∈ R := by
  rw [← hx.inv.has] at hR
  obtain ⟨⟨m, i⟩, hP⟩ := khas.1 hR
  obtain ⟨es, r, q1, q2, q3, q4, q5, q6, q7⟩ := hx.inv.find hP
  refine ⟨m, i, es, r, hP, q1, ⟨q2, ?_⟩, ?_, q5, q6, q7, q4⟩
  · have := (List.getElem?_eq_some_iff.1 q3).1; omega
  · rw [List.getD_eq_getElem?_getD, q3]; rfl
end
theorem keyHd : KeyT Tryz.prog 28 (Enc.ag (Zz.encP Zz.encI Zz.encI)).val := KeyT.wide (by rw [Tryz.underlying28]) (fun w x y => by
    have h := eqVal_sound (P := Tryz.prog) (w := w) Op.maxDepth 28 _ _ _ (eqv28 x.1 x.2 y.1 y.2)
    have e : leavesB [.int .i64 x.1, .int .i64 x.2] [.int .i64 y.1, .int .i64 y.2] = decide (x = y) := by
      obtain ⟨a1, a2⟩ := x; obtain ⟨b1, b2⟩ := y
      rw [Bool.eq_iff_iff]
      simp [leavesB, leafB]
    rw [e] at h
    exact h) (fun w em x => by kernel_rfl) (fun w x => by simp [Instr.keyThatStays, Instr.sameBits, Enc.ag, Zz.encP, Zz.encI])
theorem eqv210 (x0 : Int) (x1 : Int) (y0 : Int) (y1 : Int) : eqVal Tryz.prog Op.maxDepth 210 (.agg #[.int .u64 x0, .int .i64 x1]) (.agg #[.int .u64 y0, .int .i64 y1]) = some (leavesB [.int .u64 x0, .int .i64 x1] [.int .u64 y0, .int .i64 y1]) := by kernel_rfl
theorem keyEd : KeyT Tryz.prog 210 (Enc.ag (Zz.encP encU Zz.encI)).val := KeyT.wide (by rw [Tryz.underlying210]) (fun w x y => by
    have h := eqVal_sound (P := Tryz.prog) (w := w) Op.maxDepth 210 _ _ _ (eqv210 x.1 x.2 y.1 y.2)
    have e : leavesB [.int .u64 x.1, .int .i64 x.2] [.int .u64 y.1, .int .i64 y.2] = decide (x = y) := by
      obtain ⟨a1, a2⟩ := x; obtain ⟨b1, b2⟩ := y
      rw [Bool.eq_iff_iff]
      simp [leavesB, leafB]
    rw [e] at h
    exact h) (fun w em x => by kernel_rfl) (fun w x => by simp [Instr.keyThatStays, Instr.sameBits, Enc.ag, Zz.encP, Zz.encI, encU])
theorem mapT : MapTy Tryz.prog 104 56 111 veU veP none := ⟨Tryz.underlying104, KeyT.int Tryz.underlying56, by kernel_rfl⟩
theorem mapP : MapTy Tryz.prog 105 28 113 (Enc.ag (Zz.encP Zz.encI Zz.encI)) vePl (none, 0) := ⟨Tryz.underlying105, keyHd, by kernel_rfl⟩
theorem mapE : MapTy Tryz.prog 106 210 56 (Enc.ag (Zz.encP encU Zz.encI)) veU 0 := ⟨Tryz.underlying106, keyEd, by kernel_rfl⟩
noncomputable def Gn (E : Nat → Addr) : Ctx := { Gm E with errs := (Gm E).errs ++ [4] }
theorem gnOk (E : Nat → Addr) : (Gn E).Ok := ⟨(gmOk E).tb, (gmOk E).eqs, (gmOk E).mixed⟩
theorem liftN {E : Nat → Addr} {f : FuncId} {S : Zz.Spec} (h : Does (Gm E) f S) : Does (Gn E) f S :=
  Does.lift (Γ := Gn E) (L := (Gm E).errs) (fun g hg => by
    simp only [Gn, List.contains_iff_mem, List.mem_append] at hg ⊢; exact .inl hg) h
set_option maxHeartbeats 4000000 in
theorem sNew (E : Nat → Addr) (Q : List (PRow Int)) : Does (Gm E) 15 ⟨[], [], 0, 1, Unit, fun _ => True, fun _ => .ptr 0 0, fun _ => [(0, .pr (storePr E Q []))]⟩ := by
  refine DoesC.does (fn_start Tryz.func15 rfl rfl rfl ?_)
  change EntryGoal _ _ _ _ _
  refine entry_go (gmOk E) 6 0 [] Tryz.func15 rfl rfl rfl rfl ?_
  repeat' first | (change RetGoal _ _ _ _ _; first | (refine retG'.restNil (tabP E Q) (fun _ : Int => 0) ?_; change RetGoal _ _ _ _ _; (refine retG'.shut (Γ0 := Gm E) rfl (.cells 108 [.mp 1, .mp 2, .mp 3]) [(1, .pr (mapPr veU veP (ptrL (((([], [], [], fun _ => 0) : XT)).1.map (fun y : Int × List Ey => y.1)) ((([], [], [], fun _ => 0) : XT)).2.2.2))), (2, .pr (mapPr (Enc.ag (Zz.encP Zz.encI Zz.encI)) vePl (placL ((([], [], [], fun _ => 0) : XT)).2.1 ((([], [], [], fun _ => 0) : XT)).2.2.2))), (3, .pr (mapPr (Enc.ag (Zz.encP encU Zz.encI)) veU ((([], [], [], fun _ => 0) : XT)).2.2.1)), (4, .pr (restPr (tabP E Q) (tabL ((([], [], [], fun _ => 0) : XT)).1) ((([], [], [], fun _ => 0) : XT)).2.2.2))] [3, 0, 1, 2, 4] (And.intro rfl (And.intro rfl (And.intro rfl (And.intro rfl (And.intro rfl True.intro))))) rfl ?_; change RetGoal _ _ _ _ _; refine retG'.hide (X := XT) (p := XOk []) (Φ := fun x => grp (Gm E) (stoH E Q x)) 3 ((([], [], [], fun _ => 0) : XT)) (XOk.nil) rfl ?_; change RetGoal _ _ _ _ _; refine ret_done rfl ?_))) | (intro h; first | (exfalso; omega; done) | skip) | (refine And.intro ?_ ?_) | exact True.intro | (refine @Exists.intro Unit _ () ?_) | (refine @Exists.intro (_ = _) _ rfl ?_) | (change OpGoal _ _ _ _ (.makeMap 104 _) _; refine mapnew_rule veU veP ?_) | (change OpGoal _ _ _ _ (.makeMap 105 _) _; refine mapnew_rule (Enc.ag (Zz.encP Zz.encI Zz.encI)) vePl ?_) | (change OpGoal _ _ _ _ (.makeMap 106 _) _; refine mapnew_rule (Enc.ag (Zz.encP encU Zz.encI)) veU ?_)
  all_goals first | rfl | omega
set_option maxHeartbeats 4000000 in
theorem sHasY (E : Nat → Addr) (Q : List (PRow Int)) (R : List Ey) (hd : Hd) (h : hasK R hd = true) : Does (Gm E) 23 ⟨[.ptr 0 0, .agg [.int .i64 hd.1, .int .i64 hd.2]], [(0, .pr (storePr E Q R))], 1, 1, Unit, fun _ => True, fun _ => .tt, fun _ => [(0, .pr (storePr E Q R))]⟩ := by
  rename hasK R hd = _ => hh
  refine DoesC.does (fn_start Tryz.func23 rfl rfl rfl ?_)
  change EntryGoal _ _ _ _ _
  refine entryG.ex 0 rfl (fun x hx => ?_)
  change EntryGoal _ _ _ _ _
  (obtain ⟨m, i, es, r, hP, _⟩ := hx.find hh; change EntryGoal _ _ _ _ _; refine entryG.open_ 0 rfl 5 rfl rfl ?_)
  change EntryGoal _ _ _ _ _
  refine entry_go (gmOk E) 17 1 [] Tryz.func23 rfl rfl rfl rfl ?_
  repeat' first | (change RetGoal _ _ _ _ _; first | (refine retG'.shut (Γ0 := Gm E) rfl (.cells 108 [.mp 1, .mp 2, .mp 3]) [(1, .pr (mapPr veU veP (ptrL ((x).1.map (fun y : Int × List Ey => y.1)) (x).2.2.2))), (2, .pr (mapPr (Enc.ag (Zz.encP Zz.encI Zz.encI)) vePl (placL (x).2.1 (x).2.2.2))), (3, .pr (mapPr (Enc.ag (Zz.encP encU Zz.encI)) veU (x).2.2.1)), (4, .pr (restPr (tabP E Q) (tabL (x).1) (x).2.2.2))] [0, 2, 3, 4, 5] (And.intro rfl (And.intro rfl (And.intro rfl (And.intro rfl (And.intro rfl True.intro))))) rfl ?_; change RetGoal _ _ _ _ _; refine retG'.hide (X := XT) (p := XOk R) (Φ := fun x => grp (Gm E) (stoH E Q x)) 0 (x) (hx) rfl ?_; change RetGoal _ _ _ _ _; refine ret_done rfl ?_)) | (intro h; first | (exfalso; omega; done) | skip) | (refine And.intro ?_ ?_) | exact True.intro | (refine @Exists.intro Unit _ () ?_) | (refine @Exists.intro (_ = _) _ rfl ?_) | (change OpGoal _ _ _ _ (.lookup 105 _ _ true) _; refine lookupY_rule mapP 3 (placL x.2.1 x.2.2.2) hd (some (x.2.2.2 m), i) rfl rfl rfl (placL_get hP) ?_) | (change DrawGoal _ _ _ _ _ _; first | (change DrawGoal _ _ _ ({ dst := some 8, op := _, type := _, pos := _, after := _, guard := _ } :: _) _ _; refine draw_tree (gmOk E) [0, 6] (.alt [(0, true), (1, true), (2, true), (3, true), (4, true)] (.leaf [(5, false), (6, true), (7, true), (8, true), (9, false), (10, false), (11, true)]) (.leaf [(9, false), (5, false), (6, true), (7, true), (8, true), (10, false), (11, true)])) (by kernel_rfl) ?_))
  all_goals first | rfl | omega
set_option maxHeartbeats 4000000 in
theorem sHasN (E : Nat → Addr) (Q : List (PRow Int)) (R : List Ey) (hd : Hd) (h : hasK R hd = false) : Does (Gm E) 23 ⟨[.ptr 0 0, .agg [.int .i64 hd.1, .int .i64 hd.2]], [(0, .pr (storePr E Q R))], 1, 1, Unit, fun _ => True, fun _ => .ff, fun _ => [(0, .pr (storePr E Q R))]⟩ := by
  rename hasK R hd = _ => hh
  refine DoesC.does (fn_start Tryz.func23 rfl rfl rfl ?_)
  change EntryGoal _ _ _ _ _
  refine entryG.ex 0 rfl (fun x hx => ?_)
  change EntryGoal _ _ _ _ _
  refine entryG.open_ 0 rfl 5 rfl rfl ?_
  change EntryGoal _ _ _ _ _
  refine entry_go (gmOk E) 17 1 [] Tryz.func23 rfl rfl rfl rfl ?_
  repeat' first | (change RetGoal _ _ _ _ _; first | (refine retG'.shut (Γ0 := Gm E) rfl (.cells 108 [.mp 1, .mp 2, .mp 3]) [(1, .pr (mapPr veU veP (ptrL ((x).1.map (fun y : Int × List Ey => y.1)) (x).2.2.2))), (2, .pr (mapPr (Enc.ag (Zz.encP Zz.encI Zz.encI)) vePl (placL (x).2.1 (x).2.2.2))), (3, .pr (mapPr (Enc.ag (Zz.encP encU Zz.encI)) veU (x).2.2.1)), (4, .pr (restPr (tabP E Q) (tabL (x).1) (x).2.2.2))] [0, 2, 3, 4, 5] (And.intro rfl (And.intro rfl (And.intro rfl (And.intro rfl (And.intro rfl True.intro))))) rfl ?_; change RetGoal _ _ _ _ _; refine retG'.hide (X := XT) (p := XOk R) (Φ := fun x => grp (Gm E) (stoH E Q x)) 0 (x) (hx) rfl ?_; change RetGoal _ _ _ _ _; refine ret_done rfl ?_)) | (intro h; first | (exfalso; omega; done) | skip) | (refine And.intro ?_ ?_) | exact True.intro | (refine @Exists.intro Unit _ () ?_) | (refine @Exists.intro (_ = _) _ rfl ?_) | (change OpGoal _ _ _ _ (.lookup 105 _ _ true) _; refine lookupN_rule mapP 3 (placL x.2.1 x.2.2.2) hd  rfl rfl rfl (by rw [placL_has, hx.inv.has]; exact hh) ?_) | (change DrawGoal _ _ _ _ _ _; first | (change DrawGoal _ _ _ ({ dst := some 8, op := _, type := _, pos := _, after := _, guard := _ } :: _) _ _; refine draw_tree (gmOk E) [0, 6] (.alt [(0, true), (1, true), (2, true), (3, true), (4, true)] (.leaf [(5, false), (6, true), (7, true), (8, true), (9, false), (10, false), (11, true)]) (.leaf [(9, false), (5, false), (6, true), (7, true), (8, true), (10, false), (11, true)])) (by kernel_rfl) ?_))
  all_goals first | rfl | omega
set_option maxHeartbeats 4000000 in
theorem sLen (E : Nat → Addr) (Q : List (PRow Int)) (R : List Ey) : Does (Gm E) 22 ⟨[.ptr 0 0], [(0, .pr (storePr E Q R))], 1, 1, Unit, fun _ => True, fun _ => .int .i64 (R.length : Nat), fun _ => [(0, .pr (storePr E Q R))]⟩ := by
  refine DoesC.does (fn_start Tryz.func22 rfl rfl rfl ?_)
  change EntryGoal _ _ _ _ _
  refine entryG.ex 0 rfl (fun x hx => ?_)
  change EntryGoal _ _ _ _ _
  refine entryG.open_ 0 rfl 5 rfl rfl ?_
  change EntryGoal _ _ _ _ _
  refine entry_go (gmOk E) 8 1 [] Tryz.func22 rfl rfl rfl rfl ?_
  repeat' first | (change RetGoal _ _ _ _ _; first | (refine retG'.shut (Γ0 := Gm E) rfl (.cells 108 [.mp 1, .mp 2, .mp 3]) [(1, .pr (mapPr veU veP (ptrL ((x).1.map (fun y : Int × List Ey => y.1)) (x).2.2.2))), (2, .pr (mapPr (Enc.ag (Zz.encP Zz.encI Zz.encI)) vePl (placL (x).2.1 (x).2.2.2))), (3, .pr (mapPr (Enc.ag (Zz.encP encU Zz.encI)) veU (x).2.2.1)), (4, .pr (restPr (tabP E Q) (tabL (x).1) (x).2.2.2))] [0, 2, 3, 4, 5] (And.intro rfl (And.intro rfl (And.intro rfl (And.intro rfl (And.intro rfl True.intro))))) rfl ?_; change RetGoal _ _ _ _ _; refine retG'.hide (X := XT) (p := XOk R) (Φ := fun x => grp (Gm E) (stoH E Q x)) 0 (x) (hx) rfl ?_; change RetGoal _ _ _ _ _; refine ret_done rfl ?_)) | (intro h; first | (exfalso; omega; done) | skip) | (refine And.intro ?_ ?_) | exact True.intro | (refine @Exists.intro Unit _ () ?_) | (refine @Exists.intro (_ = _) _ rfl ?_) | (change RdGoal _ _ _ _ _; refine maplen_rule mapP 3 (placL x.2.1 x.2.2.2) rfl rfl ?_)
  all_goals first | rfl | omega | (have := hx.inv.count; rw [placL_len]; omega) | (have := hx.inv.count; have := hx.len; rw [placL_len]; omega)
end Go.Proofs.YtcnbngiplfoomaaGreatDoor
namespace Go.Proofs.YtcnbngiplfoomaaGreatDoor
open Go.Zz Go.Px
set_option linter.unusedVariables false
set_option linter.unusedSectionVars false
set_option linter.unusedSimpArgs false
set_option maxRecDepth 10000
section
variable {E : Nat → Addr} {Q : List (PRow Int)} {T : TL} {P : PL} {R : List Ey} {m i k : Int} {h : Hd} {es es' : List Ey} {p : Int → Nat} {x : XT} {r r' : Rw} {v : V3}
theorem putK_id {κ ν : Type} [DecidableEq κ] {L : List (κ × ν)} {k : κ} {v : ν} (hn : (L.map (·.1)).Nodup) (hg : getK L k = some v) : Go.Px.putK L k v = L := by
  unfold Go.Px.putK
  rw [if_pos (khas.2 ⟨v, hg⟩)]
  refine (List.map_congr_left fun y hy => ?_).trans (List.map_id L)
  split
  · rename_i e
    have := (kget hn).2 (show (y.1, y.2) ∈ L from hy)
    rw [e, hg] at this
    rw [Option.some.inj this, ← e]; rfl
  · rfl
theorem putK_keys {κ ν : Type} [DecidableEq κ] {L : List (κ × ν)} {k : κ} {v u : ν} (hg : getK L k = some u) : (Go.Px.putK L k v).map (fun y : κ × ν => y.1) = L.map (fun y : κ × ν => y.1) := by
  unfold Go.Px.putK
  rw [if_pos (khas.2 ⟨u, hg⟩), List.map_map]
  refine List.map_congr_left fun y hy => ?_
  simp only [Function.comp]
  split
  · rename_i e; exact e.symm
  · rfl
theorem kin_has (hr : rightV r = true) : k ∈ kindsN (maskN r) ↔ hasV r k = true := by
  rw [row_kinds hr, List.mem_map]
  unfold hasV
  rw [List.find?_isSome]
  simp only [beq_iff_eq]
structure AtS (R : List Ey) (x : XT) (h : Hd) (r : Rw) (m i : Int) (es : List Ey) : Prop where
  pl : getK x.2.1 h = some (m, i)
  tb : getK x.1 m = some es
  lo : 0 ≤ i
  hi : i < (es.length : Nat)
  at_ : es.getD i.toNat dE = (h, r)
  mki : mkI r = m
  right : rightV r = true
  mem : (h, r) ∈ R
theorem XOk.at_ (hx : XOk R x) (hR : getK R h = some r) : ∃ m i es, AtS R x h r m i es := by
  obtain ⟨m, i, es, r', q1, q2, q3, q4, q5, q6, q7, q8⟩ := hx.find (khas.2 ⟨r, hR⟩)
  rw [hR] at q5
  obtain rfl := Option.some.inj q5
  exact ⟨m, i, es, q1, q2, q3.1, q3.2, q4, q6, q7, q8⟩
theorem AtS.rg (a : AtS R x h r m i es) : 0 ≤ i ∧ i < (es.length : Nat) := ⟨a.lo, a.hi⟩
theorem AtS.mN (a : AtS R x h r m i es) : m.toNat = maskN r := by rw [← a.mki]; rfl
theorem AtS.kin (a : AtS R x h r m i es) : k ∈ kindsN m.toNat ↔ hasV r k = true := by rw [a.mN]; exact kin_has a.right
theorem AtS.same (a : AtS R x h r m i es) (hx : XOk R x) : Go.Px.putK (tabL x.1) m (m.toNat, es) = tabL x.1 := by rw [tabL_put, putK_id hx.inv.tnd a.tb]
theorem AtS.has (a : AtS R x h r m i es) : hasK (tabL x.1) m = true := by rw [tabL_has]; exact khas.2 ⟨_, a.tb⟩
theorem AtS.key (a : AtS R x h r m i es) : m ∈ x.1.map (fun y : Int × List Ey => y.1) := List.mem_map.2 ⟨_, kmem_of a.tb, rfl⟩
theorem setR_len : (setR R h r).length = R.length := List.length_map _
theorem AtS.e1 (a : AtS R x h r m i es) : (es.getD i.toNat dE).1 = h := by rw [a.at_]
theorem AtS.e2 (a : AtS R x h r m i es) : (es.getD i.toNat dE).2 = r := by rw [a.at_]
theorem XOk.set (hx : XOk R x) (a : AtS R x h r m i es) (hv : vcheck v = 0) (hk : hasV r v.k = true) : XOk (setR R h (putR r v)) (Go.Px.putK x.1 m (es.set i.toNat ((es.getD i.toNat dE).1, putR (es.getD i.toNat dE).2 v)), x.2.1, x.2.2.1, x.2.2.2) where
  inv := by
    rw [a.e1, a.e2]
    exact hx.inv.set a.pl a.tb (by unfold mkI; rw [putR_mask a.right hv ((kin_has a.right).2 hk)]; exact a.mki) (put_right a.right hv)
  ed := hx.ed
  len := by rw [setR_len]; exact hx.len
end
set_option maxHeartbeats 4000000 in
theorem sFindY (E : Nat → Addr) (P : PL) (p : Int → Nat) (hd : Hd) (m i : Int) (h : getK P hd = some (m, i)) : Does (Gm E) 58 ⟨[.ptr 0 0, .agg [.int .i64 hd.1, .int .i64 hd.2]], [(0, .cells 108 [.mp 1, .mp 2, .mp 3]), (2, .pr (mapPr (Enc.ag (Zz.encP Zz.encI Zz.encI)) vePl (placL P p)))], 5, 5, Unit, fun _ => True, fun _ => .tup [.agg [.raw (pV (some (p m))), .int .i64 i], .nili], fun _ => [(0, .cells 108 [.mp 1, .mp 2, .mp 3]), (2, .pr (mapPr (Enc.ag (Zz.encP Zz.encI Zz.encI)) vePl (placL P p)))]⟩ := by
  rename getK P hd = _ => hP
  refine fn_intro (gmOk E) 22 5 [] Tryz.func58 rfl rfl rfl rfl rfl ?_
  repeat' first | (intro h; first | (exfalso; omega; done) | skip) | (refine And.intro ?_ ?_) | exact True.intro | (refine @Exists.intro Unit _ () ?_) | (refine @Exists.intro (_ = _) _ rfl ?_) | (change OpGoal _ _ _ _ (.lookup 105 _ _ true) _; refine lookupY_rule mapP 2 (placL P p) hd (some (p m), i) rfl rfl rfl (placL_get hP) ?_) | (change DrawGoal _ _ _ _ _ _; first | (change DrawGoal _ _ _ ({ dst := some 9, op := _, type := _, pos := _, after := _, guard := _ } :: _) _ _; refine draw_tree (gmOk E) [0, 5] (.alt [(0, true), (1, true), (2, true), (3, true), (4, true)] (.leaf [(5, false), (6, true), (7, true), (8, true), (9, false), (10, false), (11, true)]) (.leaf [(9, false), (5, false), (6, true), (7, true), (8, true), (10, false), (11, true)])) (by kernel_rfl) ?_) | (change DrawGoal _ _ _ ({ dst := some 19, op := _, type := _, pos := _, after := _, guard := _ } :: _) _ _; refine draw_tree (gmOk E) [] (.leaf [(0, true), (1, true), (2, false), (3, true)]) (by kernel_rfl) ?_))
  all_goals first | rfl | omega
set_option maxHeartbeats 4000000 in
theorem sFindN (E : Nat → Addr) (P : PL) (p : Int → Nat) (hd : Hd) (h : hasK P hd = false) : Does (Gn E) 58 ⟨[.ptr 0 0, .agg [.int .i64 hd.1, .int .i64 hd.2]], [(0, .cells 108 [.mp 1, .mp 2, .mp 3]), (2, .pr (mapPr (Enc.ag (Zz.encP Zz.encI Zz.encI)) vePl (placL P p)))], 5, 5, Unit, fun _ => True, fun _ => .tup [.agg [.nilp, .int .i64 0], .err 4], fun _ => [(0, .cells 108 [.mp 1, .mp 2, .mp 3]), (2, .pr (mapPr (Enc.ag (Zz.encP Zz.encI Zz.encI)) vePl (placL P p)))]⟩ := by
  rename hasK P hd = _ => hP
  refine fn_intro (gnOk E) 22 5 [] Tryz.func58 rfl rfl rfl rfl rfl ?_
  repeat' first | (intro h; first | (exfalso; omega; done) | skip) | (refine And.intro ?_ ?_) | exact True.intro | (refine @Exists.intro Unit _ () ?_) | (refine @Exists.intro (_ = _) _ rfl ?_) | (change OpGoal _ _ _ _ (.lookup 105 _ _ true) _; refine lookupN_rule mapP 2 (placL P p) hd  rfl rfl rfl (by rw [placL_has]; exact hP) ?_) | (change DrawGoal _ _ _ _ _ _; first | (change DrawGoal _ _ _ ({ dst := some 9, op := _, type := _, pos := _, after := _, guard := _ } :: _) _ _; refine draw_tree (gnOk E) [0, 5] (.alt [(0, true), (1, true), (2, true), (3, true), (4, true)] (.leaf [(5, false), (6, true), (7, true), (8, true), (9, false), (10, false), (11, true)]) (.leaf [(9, false), (5, false), (6, true), (7, true), (8, true), (10, false), (11, true)])) (by kernel_rfl) ?_) | (change DrawGoal _ _ _ ({ dst := some 19, op := _, type := _, pos := _, after := _, guard := _ } :: _) _ _; refine draw_tree (gnOk E) [] (.leaf [(0, true), (1, true), (2, false), (3, true)]) (by kernel_rfl) ?_))
  all_goals first | rfl | omega
set_option maxHeartbeats 4000000 in
theorem sSetK (E : Nat → Addr) (Q : List (PRow Int)) (R : List Ey) (hd : Hd) (r : Rw) (v : V3) (h : getK R hd = some r ∧ hasV r v.k = false) : Does (Gm E) 27 ⟨[.ptr 0 0, .agg [.int .i64 hd.1, .int .i64 hd.2], .agg [.int .i64 v.k, .int .i64 v.a, .int .i64 v.b]], [(0, .pr (storePr E Q R))], 1, 1, Unit, fun _ => True, fun _ => .err 5, fun _ => [(0, .pr (storePr E Q R))]⟩ := by
  obtain ⟨hR, hk⟩ := h
  refine DoesC.does (fn_start Tryz.func27 rfl rfl rfl ?_)
  change EntryGoal _ _ _ _ _
  refine entryG.ex 0 rfl (fun x hx => ?_)
  change EntryGoal _ _ _ _ _
  (obtain ⟨m, i, es, ha⟩ := hx.at_ hR; change EntryGoal _ _ _ _ _; refine entryG.open_ 0 rfl 5 rfl rfl ?_)
  change EntryGoal _ _ _ _ _
  refine entry_go (gmOk E) 24 1 [] Tryz.func27 rfl rfl rfl rfl ?_
  repeat' first | (change CallGoal _ _ _ _ _ _; first | (change CallGoal _ 75 _ _ _ _; first | (refine callG.restOut 5 (tabL x.1) x.2.2.2 m (m.toNat, es) rfl (tabL_get ha.tb) ?_; change CallGoal _ _ _ _ _ _; refine call_args [.ptr 9 0, .int .i64 i, .agg [.int .i64 v.k, .int .i64 v.a, .int .i64 v.b]] (fun _ => bdLB_ok _ rfl) (fun En V w hp => by have q := rest_ptr (r := 5) (m := 9) rfl hp; simp only [SV.den, SV.denL] at q ⊢; rw [q]) ?_; change CallGoal _ _ _ _ _ _; refine call_rule (tSetKind E Q m.toNat es i v ⟨ha.rg, fun q => by rw [ha.kin, hk] at q; cases q⟩) [9] rfl (And.intro rfl True.intro) rfl (fun y hy => ?_)))) | (change RetGoal _ _ _ _ _; first | (refine retG'.restIn 5 9 (m.toNat, es) rfl rfl rfl (tabP_placed _) ha.has ?_; change RetGoal _ _ _ _ _; refine retG'.cast 5 (.pr (restPr (tabP E Q) (tabL x.1) x.2.2.2)) rfl (by rw [ha.same hx]) ?_; change RetGoal _ _ _ _ _; (refine retG'.shut (Γ0 := Gm E) rfl (.cells 108 [.mp 1, .mp 2, .mp 3]) [(1, .pr (mapPr veU veP (ptrL ((x).1.map (fun y : Int × List Ey => y.1)) (x).2.2.2))), (2, .pr (mapPr (Enc.ag (Zz.encP Zz.encI Zz.encI)) vePl (placL (x).2.1 (x).2.2.2))), (3, .pr (mapPr (Enc.ag (Zz.encP encU Zz.encI)) veU (x).2.2.1)), (4, .pr (restPr (tabP E Q) (tabL (x).1) (x).2.2.2))] [0, 2, 3, 4, 5] (And.intro rfl (And.intro rfl (And.intro rfl (And.intro rfl (And.intro rfl True.intro))))) rfl ?_; change RetGoal _ _ _ _ _; refine retG'.hide (X := XT) (p := XOk R) (Φ := fun x => grp (Gm E) (stoH E Q x)) 0 (x) (hx) rfl ?_; change RetGoal _ _ _ _ _; refine ret_done rfl ?_))) | (intro h; first | (exfalso; omega; done) | (exfalso; exact h trivial; done) | skip) | (refine And.intro ?_ ?_) | exact True.intro | (refine @Exists.intro Unit _ () ?_) | (refine @Exists.intro (_ = _) _ rfl ?_) | (change CallGoal _ _ _ _ _ _; first | (refine call_rule (sFindY E x.2.1 x.2.2.2 hd m i ha.pl) [0, 2, 3, 4, 5] rfl (And.intro rfl (And.intro rfl True.intro)) rfl (fun y1 hy1 => ?_)))
  all_goals first | rfl | omega | assumption | (rw [ha.e2]; done) | (rw [ha.e1]; done) | exact (congrArg _ (ha.e2))
set_option maxHeartbeats 4000000 in
theorem sSetBad (E : Nat → Addr) (Q : List (PRow Int)) (R : List Ey) (hd : Hd) (r : Rw) (v : V3) (h : getK R hd = some r ∧ hasV r v.k = true ∧ vcheck v = 1) : Does (Gm E) 27 ⟨[.ptr 0 0, .agg [.int .i64 hd.1, .int .i64 hd.2], .agg [.int .i64 v.k, .int .i64 v.a, .int .i64 v.b]], [(0, .pr (storePr E Q R))], 1, 1, Unit, fun _ => True, fun _ => .err 3, fun _ => [(0, .pr (storePr E Q R))]⟩ := by
  obtain ⟨hR, hk⟩ := h
  refine DoesC.does (fn_start Tryz.func27 rfl rfl rfl ?_)
  change EntryGoal _ _ _ _ _
  refine entryG.ex 0 rfl (fun x hx => ?_)
  change EntryGoal _ _ _ _ _
  (obtain ⟨m, i, es, ha⟩ := hx.at_ hR; change EntryGoal _ _ _ _ _; refine entryG.open_ 0 rfl 5 rfl rfl ?_)
  change EntryGoal _ _ _ _ _
  refine entry_go (gmOk E) 24 1 [] Tryz.func27 rfl rfl rfl rfl ?_
  repeat' first | (change CallGoal _ _ _ _ _ _; first | (change CallGoal _ 75 _ _ _ _; first | (refine callG.restOut 5 (tabL x.1) x.2.2.2 m (m.toNat, es) rfl (tabL_get ha.tb) ?_; change CallGoal _ _ _ _ _ _; refine call_args [.ptr 9 0, .int .i64 i, .agg [.int .i64 v.k, .int .i64 v.a, .int .i64 v.b]] (fun _ => bdLB_ok _ rfl) (fun En V w hp => by have q := rest_ptr (r := 5) (m := 9) rfl hp; simp only [SV.den, SV.denL] at q ⊢; rw [q]) ?_; change CallGoal _ _ _ _ _ _; refine call_rule (tSetBad E Q m.toNat es i v ⟨ha.rg, ha.kin.2 hk.1, hk.2⟩) [9] rfl (And.intro rfl True.intro) rfl (fun y hy => ?_)))) | (change RetGoal _ _ _ _ _; first | (refine retG'.restIn 5 9 (m.toNat, es) rfl rfl rfl (tabP_placed _) ha.has ?_; change RetGoal _ _ _ _ _; refine retG'.cast 5 (.pr (restPr (tabP E Q) (tabL x.1) x.2.2.2)) rfl (by rw [ha.same hx]) ?_; change RetGoal _ _ _ _ _; (refine retG'.shut (Γ0 := Gm E) rfl (.cells 108 [.mp 1, .mp 2, .mp 3]) [(1, .pr (mapPr veU veP (ptrL ((x).1.map (fun y : Int × List Ey => y.1)) (x).2.2.2))), (2, .pr (mapPr (Enc.ag (Zz.encP Zz.encI Zz.encI)) vePl (placL (x).2.1 (x).2.2.2))), (3, .pr (mapPr (Enc.ag (Zz.encP encU Zz.encI)) veU (x).2.2.1)), (4, .pr (restPr (tabP E Q) (tabL (x).1) (x).2.2.2))] [0, 2, 3, 4, 5] (And.intro rfl (And.intro rfl (And.intro rfl (And.intro rfl (And.intro rfl True.intro))))) rfl ?_; change RetGoal _ _ _ _ _; refine retG'.hide (X := XT) (p := XOk R) (Φ := fun x => grp (Gm E) (stoH E Q x)) 0 (x) (hx) rfl ?_; change RetGoal _ _ _ _ _; refine ret_done rfl ?_))) | (intro h; first | (exfalso; omega; done) | (exfalso; exact h trivial; done) | skip) | (refine And.intro ?_ ?_) | exact True.intro | (refine @Exists.intro Unit _ () ?_) | (refine @Exists.intro (_ = _) _ rfl ?_) | (change CallGoal _ _ _ _ _ _; first | (refine call_rule (sFindY E x.2.1 x.2.2.2 hd m i ha.pl) [0, 2, 3, 4, 5] rfl (And.intro rfl (And.intro rfl True.intro)) rfl (fun y1 hy1 => ?_)))
  all_goals first | rfl | omega | assumption | (rw [ha.e2]; done) | (rw [ha.e1]; done) | exact (congrArg _ (ha.e2))
set_option maxHeartbeats 4000000 in
theorem sSetY (E : Nat → Addr) (Q : List (PRow Int)) (R : List Ey) (hd : Hd) (r : Rw) (v : V3) (h : getK R hd = some r ∧ hasV r v.k = true ∧ vcheck v = 0) : Does (Gm E) 27 ⟨[.ptr 0 0, .agg [.int .i64 hd.1, .int .i64 hd.2], .agg [.int .i64 v.k, .int .i64 v.a, .int .i64 v.b]], [(0, .pr (storePr E Q R))], 1, 1, Unit, fun _ => True, fun _ => .nili, fun _ => [(0, .pr (storePr E Q (setR R hd (putR r v))))]⟩ := by
  obtain ⟨hR, hk⟩ := h
  refine DoesC.does (fn_start Tryz.func27 rfl rfl rfl ?_)
  change EntryGoal _ _ _ _ _
  refine entryG.ex 0 rfl (fun x hx => ?_)
  change EntryGoal _ _ _ _ _
  (obtain ⟨m, i, es, ha⟩ := hx.at_ hR; change EntryGoal _ _ _ _ _; refine entryG.open_ 0 rfl 5 rfl rfl ?_)
  change EntryGoal _ _ _ _ _
  refine entry_go (gmOk E) 24 1 [] Tryz.func27 rfl rfl rfl rfl ?_
  repeat' first | (change CallGoal _ _ _ _ _ _; first | (change CallGoal _ 75 _ _ _ _; first | (refine callG.restOut 5 (tabL x.1) x.2.2.2 m (m.toNat, es) rfl (tabL_get ha.tb) ?_; change CallGoal _ _ _ _ _ _; refine call_args [.ptr 9 0, .int .i64 i, .agg [.int .i64 v.k, .int .i64 v.a, .int .i64 v.b]] (fun _ => bdLB_ok _ rfl) (fun En V w hp => by have q := rest_ptr (r := 5) (m := 9) rfl hp; simp only [SV.den, SV.denL] at q ⊢; rw [q]) ?_; change CallGoal _ _ _ _ _ _; refine call_rule (tSet E Q m.toNat es i v ⟨ha.rg, ha.kin.2 hk.1, hk.2⟩) [9] rfl (And.intro rfl True.intro) rfl (fun y hy => ?_)))) | (change RetGoal _ _ _ _ _; first | (refine retG'.restIn 5 9 (m.toNat, (es.set i.toNat ((es.getD i.toNat dE).1, putR (es.getD i.toNat dE).2 v))) rfl rfl rfl (tabP_placed _) ha.has ?_; change RetGoal _ _ _ _ _; refine retG'.cast 5 (.pr (restPr (tabP E Q) (tabL (Go.Px.putK x.1 m (es.set i.toNat ((es.getD i.toNat dE).1, putR (es.getD i.toNat dE).2 v)))) x.2.2.2)) rfl (by rw [tabL_put]) ?_; change RetGoal _ _ _ _ _; refine retG'.cast 2 (.pr (mapPr veU veP (ptrL ((Go.Px.putK x.1 m (es.set i.toNat ((es.getD i.toNat dE).1, putR (es.getD i.toNat dE).2 v))).map (fun y : Int × List Ey => y.1)) x.2.2.2))) rfl (by rw [putK_keys ha.tb]) ?_; change RetGoal _ _ _ _ _; (refine retG'.shut (Γ0 := Gm E) rfl (.cells 108 [.mp 1, .mp 2, .mp 3]) [(1, .pr (mapPr veU veP (ptrL ((((Go.Px.putK x.1 m (es.set i.toNat ((es.getD i.toNat dE).1, putR (es.getD i.toNat dE).2 v)), x.2.1, x.2.2.1, x.2.2.2) : XT)).1.map (fun y : Int × List Ey => y.1)) (((Go.Px.putK x.1 m (es.set i.toNat ((es.getD i.toNat dE).1, putR (es.getD i.toNat dE).2 v)), x.2.1, x.2.2.1, x.2.2.2) : XT)).2.2.2))), (2, .pr (mapPr (Enc.ag (Zz.encP Zz.encI Zz.encI)) vePl (placL (((Go.Px.putK x.1 m (es.set i.toNat ((es.getD i.toNat dE).1, putR (es.getD i.toNat dE).2 v)), x.2.1, x.2.2.1, x.2.2.2) : XT)).2.1 (((Go.Px.putK x.1 m (es.set i.toNat ((es.getD i.toNat dE).1, putR (es.getD i.toNat dE).2 v)), x.2.1, x.2.2.1, x.2.2.2) : XT)).2.2.2))), (3, .pr (mapPr (Enc.ag (Zz.encP encU Zz.encI)) veU (((Go.Px.putK x.1 m (es.set i.toNat ((es.getD i.toNat dE).1, putR (es.getD i.toNat dE).2 v)), x.2.1, x.2.2.1, x.2.2.2) : XT)).2.2.1)), (4, .pr (restPr (tabP E Q) (tabL (((Go.Px.putK x.1 m (es.set i.toNat ((es.getD i.toNat dE).1, putR (es.getD i.toNat dE).2 v)), x.2.1, x.2.2.1, x.2.2.2) : XT)).1) (((Go.Px.putK x.1 m (es.set i.toNat ((es.getD i.toNat dE).1, putR (es.getD i.toNat dE).2 v)), x.2.1, x.2.2.1, x.2.2.2) : XT)).2.2.2))] [0, 2, 3, 4, 5] (And.intro rfl (And.intro rfl (And.intro rfl (And.intro rfl (And.intro rfl True.intro))))) rfl ?_; change RetGoal _ _ _ _ _; refine retG'.hide (X := XT) (p := XOk (setR R hd (putR r v))) (Φ := fun x => grp (Gm E) (stoH E Q x)) 0 (((Go.Px.putK x.1 m (es.set i.toNat ((es.getD i.toNat dE).1, putR (es.getD i.toNat dE).2 v)), x.2.1, x.2.2.1, x.2.2.2) : XT)) (hx.set ha hk.2 hk.1) rfl ?_; change RetGoal _ _ _ _ _; refine ret_done rfl ?_))) | (intro h; first | (exfalso; omega; done) | (exfalso; exact h trivial; done) | skip) | (refine And.intro ?_ ?_) | exact True.intro | (refine @Exists.intro Unit _ () ?_) | (refine @Exists.intro (_ = _) _ rfl ?_) | (change CallGoal _ _ _ _ _ _; first | (refine call_rule (sFindY E x.2.1 x.2.2.2 hd m i ha.pl) [0, 2, 3, 4, 5] rfl (And.intro rfl (And.intro rfl True.intro)) rfl (fun y1 hy1 => ?_)))
  all_goals first | rfl | omega | assumption | (rw [ha.e2]; done) | (rw [ha.e1]; done) | exact (congrArg _ (ha.e2))
set_option maxHeartbeats 4000000 in
theorem sEntity (E : Nat → Addr) (Q : List (PRow Int)) (R : List Ey) (hd : Hd) (r : Rw) (h : getK R hd = some r) : Does (Gm E) 18 ⟨[.ptr 0 0, .agg [.int .i64 hd.1, .int .i64 hd.2]], [(0, .pr (storePr E Q R)), (1, .fo (roPool Zz.encI Q))], 2, 3, Nat, fun q => r.length ≤ q, fun q => .tup [.agg [.int .i64 hd.1, .int .i64 hd.2, .sl 2 r.length q], .nili], fun q => [(0, .pr (storePr E Q R)), (2, .arr V3 Zz.encV 34 r q)]⟩ := by
  rename getK R hd = _ => hR
  refine DoesC.does (fn_start Tryz.func18 rfl rfl rfl ?_)
  change EntryGoal _ _ _ _ _
  refine entryG.ex 0 rfl (fun x hx => ?_)
  change EntryGoal _ _ _ _ _
  (obtain ⟨m, i, es, ha⟩ := hx.at_ hR; change EntryGoal _ _ _ _ _; refine entryG.open_ 0 rfl 5 rfl rfl ?_)
  change EntryGoal _ _ _ _ _
  refine entry_go (gmOk E) 25 2 [] Tryz.func18 rfl rfl rfl rfl ?_
  repeat' first | (change CallGoal _ _ _ _ _ _; first | (change CallGoal _ 65 _ _ _ _; first | (refine callG.restOut 6 (tabL x.1) x.2.2.2 m (m.toNat, es) rfl (tabL_get ha.tb) ?_; change CallGoal _ _ _ _ _ _; refine call_args [.ptr 10 0, .int .i64 i] (fun _ => bdLB_ok _ rfl) (fun En V w hp => by have q := rest_ptr (r := 6) (m := 10) rfl hp; simp only [SV.den, SV.denL] at q ⊢; rw [q]) ?_; change CallGoal _ _ _ _ _ _; refine call_rule (tEntity E Q m.toNat es i ha.rg) [10, 1] rfl (And.intro rfl (And.intro rfl True.intro)) rfl (fun (q : Nat) hq => ?_)))) | (change RetGoal _ _ _ _ _; first | (refine retG'.restIn 6 10 (m.toNat, es) rfl rfl rfl (tabP_placed _) ha.has ?_; change RetGoal _ _ _ _ _; refine retG'.cast 6 (.pr (restPr (tabP E Q) (tabL x.1) x.2.2.2)) rfl (by rw [ha.same hx]) ?_; change RetGoal _ _ _ _ _; refine retG'.cast 11 (.arr V3 Zz.encV 34 r q) rfl (by rw [ha.e2]) ?_; change RetGoal _ _ _ _ _; (refine retG'.shut (Γ0 := Gm E) rfl (.cells 108 [.mp 1, .mp 2, .mp 3]) [(1, .pr (mapPr veU veP (ptrL ((x).1.map (fun y : Int × List Ey => y.1)) (x).2.2.2))), (2, .pr (mapPr (Enc.ag (Zz.encP Zz.encI Zz.encI)) vePl (placL (x).2.1 (x).2.2.2))), (3, .pr (mapPr (Enc.ag (Zz.encP encU Zz.encI)) veU (x).2.2.1)), (4, .pr (restPr (tabP E Q) (tabL (x).1) (x).2.2.2))] [0, 3, 4, 5, 6] (And.intro rfl (And.intro rfl (And.intro rfl (And.intro rfl (And.intro rfl True.intro))))) rfl ?_; change RetGoal _ _ _ _ _; refine retG'.hide (X := XT) (p := XOk R) (Φ := fun x => grp (Gm E) (stoH E Q x)) 0 (x) (hx) rfl ?_; change RetGoal _ _ _ _ _; refine ret_done rfl ?_))) | (intro h; first | (exfalso; omega; done) | (exfalso; exact h trivial; done) | skip) | (refine And.intro ?_ ?_) | exact True.intro | (refine @Exists.intro Unit _ () ?_) | (refine @Exists.intro (_ = _) _ rfl ?_) | (refine @Exists.intro (Nat) _ ?_ ?_; rotate_left) | (change CallGoal _ _ _ _ _ _; first | (refine call_rule (sFindY E x.2.1 x.2.2.2 hd m i ha.pl) [0, 3, 4, 5, 6] rfl (And.intro rfl (And.intro rfl True.intro)) rfl (fun y1 hy1 => ?_)))
  all_goals first | rfl | omega | assumption | (rw [ha.e2]; done) | (rw [ha.e1]; done) | exact (congrArg _ (ha.e2)) | (rw [ha.e2] at hq; exact hq) | (have q2 := ha.e2 ▸ hq; exact q2)
end Go.Proofs.YtcnbngiplfoomaaGreatDoor
namespace Go.Proofs.YtcnbngiplfoomaaGreatDoor
open Go.Zz Go.Px
set_option linter.unusedVariables false
set_option linter.unusedSectionVars false
set_option linter.unusedSimpArgs false
set_option maxRecDepth 10000
section
variable {E : Nat → Addr} {Q : List (PRow Int)} {T : TL} {P : PL} {R : List Ey} {m i k : Int} {h hd : Hd} {es es' : List Ey} {p : Int → Nat} {x : XT} {r r' row : Rw} {v : V3} {g : Nat}
def anyM (R : List Ey) (m : Int) : Bool := R.any fun e => decide (mkI e.2 = m)
theorem XOk.anyM (hx : XOk R x) (m : Int) : hasK x.1 m = anyM R m := by
  rw [Bool.eq_iff_iff, hx.inv.hasT m]; unfold Go.Proofs.YtcnbngiplfoomaaGreatDoor.anyM; simp
theorem XOk.tlen (hx : XOk R x) : x.1.length = (masksR R).length := hx.inv.tables
theorem masksR_le (R : List Ey) : (masksR R).length ≤ 1024 := by
  unfold masksR; refine Nat.le_trans (List.length_filter_le _ _) ?_; rw [List.length_map, List.length_range]; exact Nat.le_refl _
theorem tab_more (S : List (PRow Int)) (v : Nat × List Ey) (a : Option Addr) (B : Nat → Prop) (w : World) (h : (tabP E Q v).ok a B w) : (tabP E (Q ++ S) v).ok a B w := tbl_more S a B w h
theorem store_more (S : List (PRow Int)) (a : Option Addr) (B : Nat → Prop) (w : World) (h : (storePr E Q R).ok a B w) : (storePr E (Q ++ S) R).ok a B w := by
  obtain ⟨x, hx, En, V, h1, h2, h3, h4⟩ := h
  have key : ∀ c ch, lk (stoH E (Q ++ S) x) c = some ch → ∃ ch', lk (stoH E Q x) c = some ch' ∧ (∀ {w}, ch'.ok (Gm E) En V c w → ch.ok (Gm E) En V c w) ∧ own1 ch = own1 ch' := by
    intro c ch hc
    unfold stoH at hc ⊢
    rw [lk_cons] at hc; split at hc
    · rename_i e; rw [lk_cons, if_pos e]; exact ⟨_, hc, id, rfl⟩
    rename_i e0; rw [lk_cons, if_neg e0]; rw [lk_cons] at hc; split at hc
    · rename_i e; rw [lk_cons, if_pos e]; exact ⟨_, hc, id, rfl⟩
    rename_i e1; rw [lk_cons, if_neg e1]; rw [lk_cons] at hc; split at hc
    · rename_i e; rw [lk_cons, if_pos e]; exact ⟨_, hc, id, rfl⟩
    rename_i e2; rw [lk_cons, if_neg e2]; rw [lk_cons] at hc; split at hc
    · rename_i e; rw [lk_cons, if_pos e]; exact ⟨_, hc, id, rfl⟩
    rename_i e3; rw [lk_cons, if_neg e3]; rw [lk_cons] at hc; split at hc
    · rename_i e; rw [lk_cons, if_pos e]; obtain rfl := Option.some.inj hc
      exact ⟨_, rfl, fun {w} hk => rest_el (fun y _ a B w q => tab_more S y.2 a B w q) _ _ _ hk, rfl⟩
    · simp [lk] at hc
  have key2 : ∀ c, (lk (stoH E (Q ++ S) x) c).isSome = (lk (stoH E Q x) c).isSome := by
    intro c
    unfold stoH
    simp only [lk_cons]
    repeat' split
    all_goals rfl
  refine ⟨x, hx, En, V, h1, fun c ch hc => ?_, fun c c' hc hc' => h3 c c' (by rw [← key2]; exact hc) (by rw [← key2]; exact hc'), fun j => by rw [h4 j]; simp only [key2]⟩
  obtain ⟨ch', q1, q2, q3⟩ := key c ch hc
  obtain ⟨q4, q5⟩ := h2 c ch' q1
  exact ⟨q3.trans q4, q2 q5⟩
theorem XOk.ins (hx : XOk R x) (hn : hasK R hd = false) (hr : rightV row = true) (hl : R.length < 128) (p : Int → Nat) : XOk (insR R (hd, row)) (Go.Px.putK x.1 (mkI row) (rowsAt x.1 (mkI row) ++ [(hd, row)]), Go.Px.putK x.2.1 hd (mkI row, ((rowsAt x.1 (mkI row)).length : Int)), x.2.2.1, p) where
  inv := hx.inv.ins hn hr
  ed := hx.ed
  len := by rw [insR_len]; exact hl
theorem rowsAt_get (hg : getK T m = some es) : rowsAt T m = es := by unfold rowsAt; rw [hg]; rfl
theorem rowsAt_no (hg : hasK T m = false) : rowsAt T m = [] := by unfold rowsAt; rw [khasF.1 hg]; rfl
theorem putK_keysN {κ ν : Type} [DecidableEq κ] {L : List (κ × ν)} {k : κ} {v : ν} (hg : hasK L k = false) : (Go.Px.putK L k v).map (fun y : κ × ν => y.1) = L.map (fun y : κ × ν => y.1) ++ [k] := by
  unfold Go.Px.putK
  rw [hg, if_neg (by simp), List.map_append]; rfl
theorem XOk.noKey (hx : XOk R x) (hn : hasK x.1 m = false) : ¬ m ∈ x.1.map (fun y : Int × List Ey => y.1) := fun q => by
  obtain ⟨y, hy, rfl⟩ := List.mem_map.1 q
  rw [← Bool.not_eq_true] at hn; exact hn (hasK_iff.2 (List.mem_map.2 ⟨y, hy, rfl⟩))
theorem XOk.placN (hx : XOk R x) (hn : hasK x.1 m = false) : placL x.2.1 p = placL x.2.1 (atP p m g) := by
  unfold placL
  refine List.map_congr_left fun y hy => ?_
  obtain ⟨es, r, q1, _⟩ := (hx.inv.at_ y.1 y.2.1 y.2.2).1 hy
  have hne : y.2.1 ≠ m := fun e => by
    subst e
    exact hx.noKey hn (List.mem_map.2 ⟨_, q1, rfl⟩)
  show (y.1, some (p y.2.1), y.2.2) = (y.1, some (atP p m g y.2.1), y.2.2)
  rw [show atP p m g y.2.1 = p y.2.1 from if_neg hne]
theorem XOk.place_new (hx : XOk R x) (hn : hasK x.1 m = false) : Go.Px.putK (placL x.2.1 p) hd (some g, i) = placL (Go.Px.putK x.2.1 hd (m, i)) (atP p m g) := by
  rw [hx.placN (p := p) (g := g) hn, ← placL_put, show atP p m g m = g from atP_here]
theorem tabL_two : Go.Px.putK (Go.Px.putK (tabL T) m (m.toNat, es)) m (m.toNat, es) = tabL (Go.Px.putK T m es) := by rw [putK_two, tabL_put]
theorem tab_one (es : List Ey) (hn : hasK (tabL T) m = false) : hasK (Go.Px.putK (tabL T) m (m.toNat, es)) m = true := hasK_iff.2 (List.mem_map.2 ⟨(m, m.toNat, es), (kmem_new hn).2 (.inl rfl), rfl⟩)
theorem mk_lt (hr : rightV r = true) : maskN r < 1024 := maskN_lt (right_kinds hr)
end
theorem mem_keys {T : TL} {m : Int} (h : hasK T m = true) : m ∈ T.map (fun y : Int × List Ey => y.1) := by obtain ⟨v, hv⟩ := khas.1 h; exact List.mem_map.2 ⟨_, kmem_of hv, rfl⟩
theorem keys_len {T : TL} {p : Int → Nat} : (ptrL (T.map (fun y : Int × List Ey => y.1)) p).length = T.length := by unfold ptrL; rw [List.length_map, List.length_map]
set_option maxHeartbeats 4000000 in
theorem sRoomY (E : Nat → Addr) (Q : List (PRow Int)) (R : List Ey) (m gg : Int) (h : anyM R m = true ∧ 0 ≤ gg ∧ gg ≤ 1) : Does (Gm E) 55 ⟨[.ptr 0 0, .int .u64 m, .int .i64 gg], [(0, .pr (storePr E Q R))], 1, 1, Unit, fun _ => True, fun _ => .tt, fun _ => [(0, .pr (storePr E Q R))]⟩ := by
  obtain ⟨hm, hg0, hg1⟩ := h; have hML := masksR_le R
  refine DoesC.does (fn_start Tryz.func55 rfl rfl rfl ?_)
  change EntryGoal _ _ _ _ _
  refine entryG.ex 0 rfl (fun x hx => ?_)
  change EntryGoal _ _ _ _ _
  refine entryG.open_ 0 rfl 5 rfl rfl ?_
  change EntryGoal _ _ _ _ _
  refine entry_go (gmOk E) 29 1 [] Tryz.func55 rfl rfl rfl rfl ?_
  repeat' first | (change RdGoal _ _ _ _ _; refine maplen_rule mapT 2 (ptrL (x.1.map (fun y : Int × List Ey => y.1)) x.2.2.2) rfl rfl ?_) | (change RetGoal _ _ _ _ _; first | (refine retG'.shut (Γ0 := Gm E) rfl (.cells 108 [.mp 1, .mp 2, .mp 3]) [(1, .pr (mapPr veU veP (ptrL ((x).1.map (fun y : Int × List Ey => y.1)) (x).2.2.2))), (2, .pr (mapPr (Enc.ag (Zz.encP Zz.encI Zz.encI)) vePl (placL (x).2.1 (x).2.2.2))), (3, .pr (mapPr (Enc.ag (Zz.encP encU Zz.encI)) veU (x).2.2.1)), (4, .pr (restPr (tabP E Q) (tabL (x).1) (x).2.2.2))] [0, 2, 3, 4, 5] (And.intro rfl (And.intro rfl (And.intro rfl (And.intro rfl (And.intro rfl True.intro))))) rfl ?_; change RetGoal _ _ _ _ _; refine retG'.hide (X := XT) (p := XOk R) (Φ := fun x => grp (Gm E) (stoH E Q x)) 0 (x) (hx) rfl ?_; change RetGoal _ _ _ _ _; refine ret_done rfl ?_)) | (intro h; first | (exfalso; omega; done) | skip) | (refine And.intro ?_ ?_) | exact True.intro | (refine @Exists.intro Unit _ () ?_) | (refine @Exists.intro (_ = _) _ rfl ?_) | (change OpGoal _ _ _ _ (.lookup 104 _ _ true) _; refine lookupY_rule mapT 2 (ptrL (x.1.map (fun y : Int × List Ey => y.1)) x.2.2.2) m (some (x.2.2.2 m)) rfl rfl rfl (by have q := hx.anyM m; rw [hm] at q; first | exact (ptrL_get (mem_keys q)) | exact ptrL_none (hx.noKey q)) ?_)
  all_goals first | rfl | omega | (rw [keys_len, hx.tlen]; first | done | omega) | (have := hx.tlen; have := keys_len (T := x.1) (p := x.2.2.2); first | omega | (rw [keys_len, hx.tlen]; done))
set_option maxHeartbeats 4000000 in
theorem sRoomN (E : Nat → Addr) (Q : List (PRow Int)) (R : List Ey) (m gg : Int) (h : anyM R m = false ∧ 0 ≤ gg ∧ gg ≤ 1) : Does (Gm E) 55 ⟨[.ptr 0 0, .int .u64 m, .int .i64 gg], [(0, .pr (storePr E Q R))], 1, 1, Unit, fun _ => True, fun _ => .dc (((masksR R).length : Nat) - gg < 32) inferInstance, fun _ => [(0, .pr (storePr E Q R))]⟩ := by
  obtain ⟨hm, hg0, hg1⟩ := h; have hML := masksR_le R
  refine DoesC.does (fn_start Tryz.func55 rfl rfl rfl ?_)
  change EntryGoal _ _ _ _ _
  refine entryG.ex 0 rfl (fun x hx => ?_)
  change EntryGoal _ _ _ _ _
  refine entryG.open_ 0 rfl 5 rfl rfl ?_
  change EntryGoal _ _ _ _ _
  refine entry_go (gmOk E) 29 1 [] Tryz.func55 rfl rfl rfl rfl ?_
  repeat' first | (change RdGoal _ _ _ _ _; refine maplen_rule mapT 2 (ptrL (x.1.map (fun y : Int × List Ey => y.1)) x.2.2.2) rfl rfl ?_) | (change RetGoal _ _ _ _ _; first | (refine retG'.shut (Γ0 := Gm E) rfl (.cells 108 [.mp 1, .mp 2, .mp 3]) [(1, .pr (mapPr veU veP (ptrL ((x).1.map (fun y : Int × List Ey => y.1)) (x).2.2.2))), (2, .pr (mapPr (Enc.ag (Zz.encP Zz.encI Zz.encI)) vePl (placL (x).2.1 (x).2.2.2))), (3, .pr (mapPr (Enc.ag (Zz.encP encU Zz.encI)) veU (x).2.2.1)), (4, .pr (restPr (tabP E Q) (tabL (x).1) (x).2.2.2))] [0, 2, 3, 4, 5] (And.intro rfl (And.intro rfl (And.intro rfl (And.intro rfl (And.intro rfl True.intro))))) rfl ?_; change RetGoal _ _ _ _ _; refine retG'.hide (X := XT) (p := XOk R) (Φ := fun x => grp (Gm E) (stoH E Q x)) 0 (x) (hx) rfl ?_; change RetGoal _ _ _ _ _; refine ret_done rfl ?_)) | (intro h; first | (exfalso; omega; done) | skip) | (refine And.intro ?_ ?_) | exact True.intro | (refine @Exists.intro Unit _ () ?_) | (refine @Exists.intro (_ = _) _ rfl ?_) | (change OpGoal _ _ _ _ (.lookup 104 _ _ true) _; refine lookupN_rule mapT 2 (ptrL (x.1.map (fun y : Int × List Ey => y.1)) x.2.2.2) m  rfl rfl rfl (by have q := hx.anyM m; rw [hm] at q; first | exact (ptrL_get (mem_keys q)) | exact ptrL_none (hx.noKey q)) ?_)
  all_goals first | rfl | omega | (rw [keys_len, hx.tlen]; first | done | omega) | (have := hx.tlen; have := keys_len (T := x.1) (p := x.2.2.2); first | omega | (rw [keys_len, hx.tlen]; done))
theorem XOk.short {R : List Ey} {x : XT} {hd : Hd} {m : Int} {es : List Ey} (hx : XOk R x) (hn : hasK R hd = false) (hl : R.length < 128) (hes : getK x.1 m = some es) : es.length < 128 := by
  refine Nat.lt_of_le_of_lt ?_ hl
  have h1 := kmem_of hes
  have hnd : es.Nodup := List.pairwise_iff_getElem.2 fun i j hi hj hij e => by
    have q1 : es[(i : Int).toNat]? = some (es[j].1, es[j].2) := by simp [List.getElem?_eq_getElem hi, e]
    have q2 : es[(j : Int).toNat]? = some (es[j].1, es[j].2) := by simp [List.getElem?_eq_getElem hj]
    have := (hx.inv.one h1 (Int.natCast_nonneg i) q1 h1 (Int.natCast_nonneg j) q2).2.1
    omega
  have hR : R.Nodup := List.Pairwise.imp (fun h e => h (by rw [e])) (List.pairwise_map.1 hx.inv.rnd)
  have := nodup_lens hnd (hR.filter fun e => es.contains e) fun e => by
    rw [List.mem_filter, List.contains_iff_mem]
    exact ⟨fun q => ⟨(hx.inv.mem e).2 ⟨m, es, h1, q⟩, q⟩, fun q => q.2⟩
  rw [this]; exact List.length_filter_le _ _
set_option maxHeartbeats 4000000 in
theorem sInsY (E : Nat → Addr) (Q : List (PRow Int)) (R : List Ey) (hd : Hd) (row : Rw) (n k : Nat) (h : n = row.length ∧ rightV row = true ∧ hasK R hd = false ∧ R.length < 128 ∧ anyM R (mkI row) = true) : Does (Gm E) 57 ⟨[.ptr 0 0, .agg [.int .i64 hd.1, .int .i64 hd.2], .sl 2 n k], [(0, .pr (storePr E Q R)), (1, .pr (poolPr Zz.encI 3 Q)), (2, .ro V3 Zz.encV row k), (3, .fo (tzF 10))], 4, 4, (List (PRow Int)), fun _ => True, fun _ => .nili, fun S => [(0, .pr (storePr E (Q ++ S) (insR R (hd, row)))), (1, .pr (poolPr Zz.encI 3 (Q ++ S)))]⟩ := by
  obtain ⟨rfl, hr, hn, hl, hm⟩ := h; have hrl := row_len hr
  refine DoesC.does (fn_start Tryz.func57 rfl rfl rfl ?_)
  change EntryGoal _ _ _ _ _
  refine entryG.ex 0 rfl (fun x hx => ?_)
  change EntryGoal _ _ _ _ _
  (obtain ⟨es, hes⟩ := khas.1 ((hx.anyM (mkI row)).trans hm); change EntryGoal _ _ _ _ _; refine entryG.open_ 0 rfl 5 rfl rfl ?_)
  change EntryGoal _ _ _ _ _
  refine entry_go (gmOk E) 62 4 [] Tryz.func57 rfl rfl rfl rfl ?_
  repeat' first | (change CallGoal _ _ _ _ _ _; first | (change CallGoal _ 98 _ _ _ _; first | (refine callG.restOut 8 (tabL x.1) x.2.2.2 (mkI row) ((mkI row).toNat, es) rfl (tabL_get hes) ?_; change CallGoal _ _ _ _ _ _; refine call_args [.ptr 10 0, .agg [.int .i64 hd.1, .int .i64 hd.2], .sl 2 row.length k] (fun _ => bdLB_ok _ rfl) (fun En V w hp => by have q := rest_ptr (r := 8) (m := 10) rfl hp; simp only [SV.den, SV.denL] at q ⊢; rw [q]) ?_; change CallGoal _ _ _ _ _ _; refine call_rule (tAdd E Q (mkI row).toNat es hd row _ k ⟨rfl, hr, rfl, hx.short hn hl hes⟩) [10, 2] rfl (And.intro rfl (And.intro rfl True.intro)) rfl (fun y hy => ?_)))) | (change RetGoal _ _ _ _ _; first | (refine retG'.restIn 8 10 ((mkI row).toNat, es ++ [(hd, row)]) rfl rfl rfl (tabP_placed _) (by rw [tabL_has, hx.anyM]; exact hm) ?_; change RetGoal _ _ _ _ _; refine retG'.cast 8 (.pr (restPr (tabP E Q) (tabL (Go.Px.putK x.1 (mkI row) (rowsAt x.1 (mkI row) ++ [(hd, row)]))) x.2.2.2)) rfl (by rw [tabL_put, rowsAt_get hes]) ?_; change RetGoal _ _ _ _ _; refine retG'.cast 5 (.pr (mapPr veU veP (ptrL ((Go.Px.putK x.1 (mkI row) (rowsAt x.1 (mkI row) ++ [(hd, row)])).map (fun y : Int × List Ey => y.1)) x.2.2.2))) rfl (by rw [ptrL_same (mem_keys ((hx.anyM _).trans hm)), putK_keys hes]) ?_; change RetGoal _ _ _ _ _; refine retG'.cast 6 (.pr (mapPr (Enc.ag (Zz.encP Zz.encI Zz.encI)) vePl (placL (Go.Px.putK x.2.1 hd (mkI row, ((rowsAt x.1 (mkI row)).length : Int))) x.2.2.2))) rfl (by rw [placL_put, rowsAt_get hes]) ?_; change RetGoal _ _ _ _ _; refine retG'.shut (Γ0 := Gm E) rfl (.cells 108 [.mp 1, .mp 2, .mp 3]) [(1, .pr (mapPr veU veP (ptrL (((((Go.Px.putK x.1 (mkI row) (rowsAt x.1 (mkI row) ++ [(hd, row)])), (Go.Px.putK x.2.1 hd (mkI row, ((rowsAt x.1 (mkI row)).length : Int))), x.2.2.1, x.2.2.2) : XT)).1.map (fun y : Int × List Ey => y.1)) ((((Go.Px.putK x.1 (mkI row) (rowsAt x.1 (mkI row) ++ [(hd, row)])), (Go.Px.putK x.2.1 hd (mkI row, ((rowsAt x.1 (mkI row)).length : Int))), x.2.2.1, x.2.2.2) : XT)).2.2.2))), (2, .pr (mapPr (Enc.ag (Zz.encP Zz.encI Zz.encI)) vePl (placL ((((Go.Px.putK x.1 (mkI row) (rowsAt x.1 (mkI row) ++ [(hd, row)])), (Go.Px.putK x.2.1 hd (mkI row, ((rowsAt x.1 (mkI row)).length : Int))), x.2.2.1, x.2.2.2) : XT)).2.1 ((((Go.Px.putK x.1 (mkI row) (rowsAt x.1 (mkI row) ++ [(hd, row)])), (Go.Px.putK x.2.1 hd (mkI row, ((rowsAt x.1 (mkI row)).length : Int))), x.2.2.1, x.2.2.2) : XT)).2.2.2))), (3, .pr (mapPr (Enc.ag (Zz.encP encU Zz.encI)) veU ((((Go.Px.putK x.1 (mkI row) (rowsAt x.1 (mkI row) ++ [(hd, row)])), (Go.Px.putK x.2.1 hd (mkI row, ((rowsAt x.1 (mkI row)).length : Int))), x.2.2.1, x.2.2.2) : XT)).2.2.1)), (4, .pr (restPr (tabP E Q) (tabL ((((Go.Px.putK x.1 (mkI row) (rowsAt x.1 (mkI row) ++ [(hd, row)])), (Go.Px.putK x.2.1 hd (mkI row, ((rowsAt x.1 (mkI row)).length : Int))), x.2.2.1, x.2.2.2) : XT)).1) ((((Go.Px.putK x.1 (mkI row) (rowsAt x.1 (mkI row) ++ [(hd, row)])), (Go.Px.putK x.2.1 hd (mkI row, ((rowsAt x.1 (mkI row)).length : Int))), x.2.2.1, x.2.2.2) : XT)).2.2.2))] [0, 5, 6, 7, 8] (And.intro rfl (And.intro rfl (And.intro rfl (And.intro rfl (And.intro rfl True.intro))))) rfl ?_; change RetGoal _ _ _ _ _; refine retG'.hide (X := XT) (p := XOk (insR R (hd, row))) (Φ := fun x => grp (Gm E) (stoH E Q x)) 0 ((((Go.Px.putK x.1 (mkI row) (rowsAt x.1 (mkI row) ++ [(hd, row)])), (Go.Px.putK x.2.1 hd (mkI row, ((rowsAt x.1 (mkI row)).length : Int))), x.2.2.1, x.2.2.2) : XT)) (hx.ins hn hr hl _) rfl ?_; change RetGoal _ _ _ _ _; refine retG'.cast 0 (.pr (storePr E (Q ++ []) (insR R (hd, row)))) rfl (by rw [List.append_nil]; rfl) ?_; change RetGoal _ _ _ _ _; refine retG'.cast 1 (.pr (poolPr Zz.encI 3 (Q ++ []))) rfl (by rw [List.append_nil]) ?_; change RetGoal _ _ _ _ _; refine ret_done rfl ⟨[], ?_⟩)) | (intro h; first | (exfalso; omega; done) | (exfalso; exact h trivial; done) | skip) | (refine And.intro ?_ ?_) | exact True.intro | (refine @Exists.intro Unit _ () ?_) | (refine @Exists.intro (_ = _) _ rfl ?_) | (change OpGoal _ _ _ _ (.lookup 104 _ _ true) _; refine lookupY_rule mapT 5 (ptrL (x.1.map (fun y : Int × List Ey => y.1)) x.2.2.2) (mkI row) (some (x.2.2.2 (mkI row))) rfl rfl rfl (ptrL_get (mem_keys ((hx.anyM _).trans hm))) ?_) | (change OpGoal _ _ _ _ (.mapEntry 104 _ _) _; refine mapent_rule mapT 5 (ptrL (x.1.map (fun y : Int × List Ey => y.1)) x.2.2.2) (mkI row) rfl rfl rfl (fun st1 => ?_)) | (change OpGoal _ _ _ _ (.mapEntry 105 _ _) _; refine mapent_rule mapP 6 (placL x.2.1 x.2.2.2) hd rfl rfl rfl (fun st2 => ?_)) | (change OpGoal _ _ _ _ (.entryStore 104 _ _ _) _; refine entstore_rule mapT 5 (some (x.2.2.2 (mkI row))) rfl rfl (fun _ _ _ _ => rfl) rfl ?_) | (change OpGoal _ _ _ _ (.entryStore 105 _ _ _) _; refine entstore_rule mapP 6 (some (x.2.2.2 (mkI row)), ((es.length : Nat) : Int)) rfl rfl (fun _ _ _ _ => rfl) rfl ?_) | (change DrawGoal _ _ _ _ _ _; first | (change DrawGoal _ _ _ ({ dst := some 44, op := _, type := _, pos := _, after := _, guard := _ } :: _) _ _; refine draw_tree (gmOk E) [0, 9] (.leaf [(0, true), (1, true), (2, true), (3, true), (4, true), (5, true), (6, true), (7, true), (8, true), (9, true), (10, true), (11, true), (12, true), (13, true), (14, false), (15, true), (16, false), (17, false), (18, true), (19, false)]) (by kernel_rfl) ?_)) | (change CallGoal _ _ _ _ _ _; first | (refine call0 (mask_z E row _ k ⟨rfl, by omega, right_kinds hr⟩) [2] rfl (And.intro rfl True.intro) rfl ?_))
  all_goals first | rfl | omega
set_option maxHeartbeats 4000000 in
theorem sInsN (E : Nat → Addr) (Q : List (PRow Int)) (R : List Ey) (hd : Hd) (row : Rw) (n k : Nat) (h : n = row.length ∧ rightV row = true ∧ hasK R hd = false ∧ R.length < 128 ∧ anyM R (mkI row) = false) : Does (Gm E) 57 ⟨[.ptr 0 0, .agg [.int .i64 hd.1, .int .i64 hd.2], .sl 2 n k], [(0, .pr (storePr E Q R)), (1, .pr (poolPr Zz.encI 3 Q)), (2, .ro V3 Zz.encV row k), (3, .fo (tzF 10))], 4, 4, (List (PRow Int)), fun _ => True, fun _ => .nili, fun S => [(0, .pr (storePr E (Q ++ S) (insR R (hd, row)))), (1, .pr (poolPr Zz.encI 3 (Q ++ S)))]⟩ := by
  obtain ⟨rfl, hr, hn, hl, hm⟩ := h; have hrl := row_len hr
  refine DoesC.does (fn_start Tryz.func57 rfl rfl rfl ?_)
  change EntryGoal _ _ _ _ _
  refine entryG.ex 0 rfl (fun x hx => ?_)
  change EntryGoal _ _ _ _ _
  (have hno := (hx.anyM (mkI row)).trans hm; have hno2 : hasK (tabL x.1) (mkI row) = false := tabL_has.trans hno; change EntryGoal _ _ _ _ _; refine entryG.open_ 0 rfl 5 rfl rfl ?_)
  change EntryGoal _ _ _ _ _
  refine entry_go (gmOk E) 62 4 [] Tryz.func57 rfl rfl rfl rfl ?_
  repeat' first | (change DrawGoal _ _ _ ({ dst := some 44, op := _, type := _, pos := _, after := _, guard := _ } :: _) _ _; refine drawG.imp 8 (Φ := restPr (tabP E Q) (tabL x.1) x.2.2.2) (Ψ := restPr (tabP E (Q ++ [(z.1, z.2, kindsN (maskN row))])) (tabL x.1) x.2.2.2) rfl (rest_el (fun y _ a B w q => tab_more [(z.1, z.2, kindsN (maskN row))] y.2 a B w q)) ?_; change DrawGoal _ _ _ _ _ _; refine drawG.restNew 8 10 (mkI row) ((mkI row).toNat, [(hd, row)]) rfl rfl (tbl_placed _ _ _ _) hno2 (fun g => ?_); change DrawGoal _ _ _ _ _ _; refine draw_tree (gmOk E) [0, 9] (.leaf [(0, true), (1, true), (2, true), (3, true), (4, true), (5, true), (6, true), (7, true), (8, true), (9, true), (10, true), (11, true), (12, true), (13, true), (14, false), (15, true), (16, false), (17, false), (18, true), (19, false)]) (by kernel_rfl) ?_) | (change RetGoal _ _ _ _ _; first | (refine retG'.restIn 8 10 ((mkI row).toNat, [(hd, row)]) rfl rfl rfl (tabP_placed _) (tab_one _ hno2) ?_; change RetGoal _ _ _ _ _; refine retG'.cast 8 (.pr (restPr (tabP E (Q ++ [(z.1, z.2, kindsN (maskN row))])) (tabL (Go.Px.putK x.1 (mkI row) (rowsAt x.1 (mkI row) ++ [(hd, row)]))) (atP x.2.2.2 (mkI row) g))) rfl (by rw [tabL_two, rowsAt_no hno]; rfl) ?_; change RetGoal _ _ _ _ _; refine retG'.cast 5 (.pr (mapPr veU veP (ptrL ((Go.Px.putK x.1 (mkI row) (rowsAt x.1 (mkI row) ++ [(hd, row)])).map (fun y : Int × List Ey => y.1)) (atP x.2.2.2 (mkI row) g)))) rfl (by rw [ptrL_at (hx.noKey hno), putK_keysN hno]) ?_; change RetGoal _ _ _ _ _; refine retG'.cast 6 (.pr (mapPr (Enc.ag (Zz.encP Zz.encI Zz.encI)) vePl (placL (Go.Px.putK x.2.1 hd (mkI row, ((rowsAt x.1 (mkI row)).length : Int))) (atP x.2.2.2 (mkI row) g)))) rfl (by rw [hx.place_new hno, rowsAt_no hno]; rfl) ?_; change RetGoal _ _ _ _ _; refine retG'.shut (Γ0 := Gm E) rfl (.cells 108 [.mp 1, .mp 2, .mp 3]) [(1, .pr (mapPr veU veP (ptrL (((((Go.Px.putK x.1 (mkI row) (rowsAt x.1 (mkI row) ++ [(hd, row)])), (Go.Px.putK x.2.1 hd (mkI row, ((rowsAt x.1 (mkI row)).length : Int))), x.2.2.1, (atP x.2.2.2 (mkI row) g)) : XT)).1.map (fun y : Int × List Ey => y.1)) ((((Go.Px.putK x.1 (mkI row) (rowsAt x.1 (mkI row) ++ [(hd, row)])), (Go.Px.putK x.2.1 hd (mkI row, ((rowsAt x.1 (mkI row)).length : Int))), x.2.2.1, (atP x.2.2.2 (mkI row) g)) : XT)).2.2.2))), (2, .pr (mapPr (Enc.ag (Zz.encP Zz.encI Zz.encI)) vePl (placL ((((Go.Px.putK x.1 (mkI row) (rowsAt x.1 (mkI row) ++ [(hd, row)])), (Go.Px.putK x.2.1 hd (mkI row, ((rowsAt x.1 (mkI row)).length : Int))), x.2.2.1, (atP x.2.2.2 (mkI row) g)) : XT)).2.1 ((((Go.Px.putK x.1 (mkI row) (rowsAt x.1 (mkI row) ++ [(hd, row)])), (Go.Px.putK x.2.1 hd (mkI row, ((rowsAt x.1 (mkI row)).length : Int))), x.2.2.1, (atP x.2.2.2 (mkI row) g)) : XT)).2.2.2))), (3, .pr (mapPr (Enc.ag (Zz.encP encU Zz.encI)) veU ((((Go.Px.putK x.1 (mkI row) (rowsAt x.1 (mkI row) ++ [(hd, row)])), (Go.Px.putK x.2.1 hd (mkI row, ((rowsAt x.1 (mkI row)).length : Int))), x.2.2.1, (atP x.2.2.2 (mkI row) g)) : XT)).2.2.1)), (4, .pr (restPr (tabP E (Q ++ [(z.1, z.2, kindsN (maskN row))])) (tabL ((((Go.Px.putK x.1 (mkI row) (rowsAt x.1 (mkI row) ++ [(hd, row)])), (Go.Px.putK x.2.1 hd (mkI row, ((rowsAt x.1 (mkI row)).length : Int))), x.2.2.1, (atP x.2.2.2 (mkI row) g)) : XT)).1) ((((Go.Px.putK x.1 (mkI row) (rowsAt x.1 (mkI row) ++ [(hd, row)])), (Go.Px.putK x.2.1 hd (mkI row, ((rowsAt x.1 (mkI row)).length : Int))), x.2.2.1, (atP x.2.2.2 (mkI row) g)) : XT)).2.2.2))] [0, 5, 6, 7, 8] (And.intro rfl (And.intro rfl (And.intro rfl (And.intro rfl (And.intro rfl True.intro))))) rfl ?_; change RetGoal _ _ _ _ _; refine retG'.hide (X := XT) (p := XOk (insR R (hd, row))) (Φ := fun x => grp (Gm E) (stoH E (Q ++ [(z.1, z.2, kindsN (maskN row))]) x)) 0 ((((Go.Px.putK x.1 (mkI row) (rowsAt x.1 (mkI row) ++ [(hd, row)])), (Go.Px.putK x.2.1 hd (mkI row, ((rowsAt x.1 (mkI row)).length : Int))), x.2.2.1, (atP x.2.2.2 (mkI row) g)) : XT)) (hx.ins hn hr hl _) rfl ?_; change RetGoal _ _ _ _ _; refine ret_done rfl ⟨[(z.1, z.2, kindsN (maskN row))], ?_⟩)) | (intro h; first | (exfalso; omega; done) | (exfalso; exact h trivial; done) | skip) | (refine And.intro ?_ ?_) | exact True.intro | (refine @Exists.intro Unit _ () ?_) | (refine @Exists.intro (_ = _) _ rfl ?_) | (change OpGoal _ _ _ _ (.lookup 104 _ _ true) _; refine lookupN_rule mapT 5 (ptrL (x.1.map (fun y : Int × List Ey => y.1)) x.2.2.2) (mkI row)  rfl rfl rfl (ptrL_none (hx.noKey hno)) ?_) | (change OpGoal _ _ _ _ (.mapEntry 104 _ _) _; refine mapent_rule mapT 5 (ptrL (x.1.map (fun y : Int × List Ey => y.1)) x.2.2.2) (mkI row) rfl rfl rfl (fun st1 => ?_)) | (change OpGoal _ _ _ _ (.mapEntry 105 _ _) _; refine mapent_rule mapP 6 (placL x.2.1 x.2.2.2) hd rfl rfl rfl (fun st2 => ?_)) | (change OpGoal _ _ _ _ (.entryStore 104 _ _ _) _; refine entstore_rule mapT 5 (some g) rfl rfl (fun En V w hp => by have q := rest_ptr (r := 8) (m := 10) rfl hp; rw [atP_here] at q; first | exact q | (exact congrArg (fun z => Value.agg #[z, _]) q) | (simp only [SV.den, SV.denL, vePl] at q ⊢; rw [q])) rfl ?_) | (change OpGoal _ _ _ _ (.entryStore 105 _ _ _) _; refine entstore_rule mapP 6 (some g, (0 : Int)) rfl rfl (fun En V w hp => by have q := rest_ptr (r := 8) (m := 10) rfl hp; rw [atP_here] at q; first | exact q | (exact congrArg (fun z => Value.agg #[z, _]) q) | (simp only [SV.den, SV.denL, vePl] at q ⊢; rw [q])) rfl ?_) | (change CallGoal _ _ _ _ _ _; first | (refine call_rule (tNew E Q (maskN row) (mk_lt hr)) [1, 3] rfl (And.intro rfl (And.intro rfl True.intro)) rfl (fun z hz => ?_)) | (refine call_rule (tAdd E (Q ++ [(z.1, z.2, kindsN (maskN row))]) (maskN row) [] hd row _ k ⟨rfl, hr, rfl, by decide⟩) [10, 2] rfl (And.intro rfl (And.intro rfl True.intro)) rfl (fun y hy => ?_))) | (change CallGoal _ _ _ _ _ _; first | (refine call0 (mask_z E row _ k ⟨rfl, by omega, right_kinds hr⟩) [2] rfl (And.intro rfl True.intro) rfl ?_))
  all_goals first | rfl | omega
theorem sIns (E : Nat → Addr) (Q : List (PRow Int)) (R : List Ey) (hd : Hd) (row : Rw) (n k : Nat) (h : n = row.length ∧ rightV row = true ∧ hasK R hd = false ∧ R.length < 128) : Does (Gm E) 57 ⟨[.ptr 0 0, .agg [.int .i64 hd.1, .int .i64 hd.2], .sl 2 n k], [(0, .pr (storePr E Q R)), (1, .pr (poolPr Zz.encI 3 Q)), (2, .ro V3 Zz.encV row k), (3, .fo (tzF 10))], 4, 4, (List (PRow Int)), fun _ => True, fun _ => .nili, fun S => [(0, .pr (storePr E (Q ++ S) (insR R (hd, row)))), (1, .pr (poolPr Zz.encI 3 (Q ++ S)))]⟩ := by
  cases hm : anyM R (mkI row) with
  | true => exact sInsY E Q R hd row n k ⟨h.1, h.2.1, h.2.2.1, h.2.2.2, hm⟩
  | false => exact sInsN E Q R hd row n k ⟨h.1, h.2.1, h.2.2.1, h.2.2.2, hm⟩
end Go.Proofs.YtcnbngiplfoomaaGreatDoor
namespace Go.Proofs.YtcnbngiplfoomaaGreatDoor
open Go.Zz Go.Px
set_option linter.unusedVariables false
set_option linter.unusedSectionVars false
set_option linter.unusedSimpArgs false
set_option maxRecDepth 10000
set_option maxHeartbeats 4000000 in
theorem sPutHas (E : Nat → Addr) (Q : List (PRow Int)) (R : List Ey) (hd : Hd) (row : Rw) (n k : Nat) (h : n = row.length ∧ hasK R hd = true) : Does (Gm E) 16 ⟨[.ptr 0 0, .agg [.int .i64 hd.1, .int .i64 hd.2], .sl 2 n k], [(0, .pr (storePr E Q R)), (1, .pr (poolPr Zz.encI 3 Q)), (2, .ro V3 Zz.encV row k), (3, .fo (tzF 10))], 4, 4, Unit, fun _ => True, fun _ => .err 0, fun _ => [(0, .pr (storePr E Q R)), (1, .pr (poolPr Zz.encI 3 Q))]⟩ := by
  obtain ⟨rfl, hh⟩ := h
  refine fn_intro (gmOk E) 33 4 [] Tryz.func16 rfl rfl rfl rfl rfl ?_
  repeat' first | (intro h; first | (exfalso; omega; done) | (exfalso; first | exact h trivial | (rw [hr] at h; cases h; done) | exact h (by rw [hr]; rfl); done) | skip) | (refine And.intro ?_ ?_) | exact True.intro | (refine @Exists.intro Unit _ () ?_) | (refine @Exists.intro (_ = _) _ rfl ?_) | (change CallGoal _ _ _ _ _ _; first | (refine call_rule (sHasY E Q R hd hh) [0] rfl (And.intro rfl True.intro) rfl (fun y1 hy1 => ?_)))
  all_goals first | rfl | omega | assumption
set_option maxHeartbeats 4000000 in
theorem sPutForm (E : Nat → Addr) (Q : List (PRow Int)) (R : List Ey) (hd : Hd) (row : Rw) (n k : Nat) (h : n = row.length ∧ hasK R hd = false ∧ rightV row = false ∧ row.length ≤ 1000000) : Does (Gm E) 16 ⟨[.ptr 0 0, .agg [.int .i64 hd.1, .int .i64 hd.2], .sl 2 n k], [(0, .pr (storePr E Q R)), (1, .pr (poolPr Zz.encI 3 Q)), (2, .ro V3 Zz.encV row k), (3, .fo (tzF 10))], 4, 4, Unit, fun _ => True, fun _ => .err 1, fun _ => [(0, .pr (storePr E Q R)), (1, .pr (poolPr Zz.encI 3 Q))]⟩ := by
  obtain ⟨rfl, hh, hr, hl⟩ := h
  refine fn_intro (gmOk E) 33 4 [] Tryz.func16 rfl rfl rfl rfl rfl ?_
  repeat' first | (intro h; first | (exfalso; omega; done) | (exfalso; first | exact h trivial | (rw [hr] at h; cases h; done) | exact h (by rw [hr]; rfl); done) | skip) | (refine And.intro ?_ ?_) | exact True.intro | (refine @Exists.intro Unit _ () ?_) | (refine @Exists.intro (_ = _) _ rfl ?_) | (change CallGoal _ _ _ _ _ _; first | (refine call_rule (sHasN E Q R hd hh) [0] rfl (And.intro rfl True.intro) rfl (fun y1 hy1 => ?_))) | (change CallGoal _ _ _ _ _ _; first | (refine call0 (right_z E row _ k ⟨rfl, hl⟩) [2] rfl (And.intro rfl True.intro) rfl ?_))
  all_goals first | rfl | omega | assumption
set_option maxHeartbeats 4000000 in
theorem sPutMany (E : Nat → Addr) (Q : List (PRow Int)) (R : List Ey) (hd : Hd) (row : Rw) (n k : Nat) (h : n = row.length ∧ hasK R hd = false ∧ rightV row = true ∧ row.length ≤ 1000000 ∧ 128 ≤ R.length) : Does (Gm E) 16 ⟨[.ptr 0 0, .agg [.int .i64 hd.1, .int .i64 hd.2], .sl 2 n k], [(0, .pr (storePr E Q R)), (1, .pr (poolPr Zz.encI 3 Q)), (2, .ro V3 Zz.encV row k), (3, .fo (tzF 10))], 4, 4, Unit, fun _ => True, fun _ => .err 2, fun _ => [(0, .pr (storePr E Q R)), (1, .pr (poolPr Zz.encI 3 Q))]⟩ := by
  obtain ⟨rfl, hh, hr, hl, hc⟩ := h
  refine fn_intro (gmOk E) 33 4 [] Tryz.func16 rfl rfl rfl rfl rfl ?_
  repeat' first | (intro h; first | (exfalso; omega; done) | (exfalso; first | exact h trivial | (rw [hr] at h; cases h; done) | exact h (by rw [hr]; rfl); done) | skip) | (refine And.intro ?_ ?_) | exact True.intro | (refine @Exists.intro Unit _ () ?_) | (refine @Exists.intro (_ = _) _ rfl ?_) | (change CallGoal _ _ _ _ _ _; first | (refine call_rule (sHasN E Q R hd hh) [0] rfl (And.intro rfl True.intro) rfl (fun y1 hy1 => ?_)) | (refine call_rule (sLen E Q R) [0] rfl (And.intro rfl True.intro) rfl (fun y2 hy2 => ?_))) | (change CallGoal _ _ _ _ _ _; first | (refine call0 (right_z E row _ k ⟨rfl, hl⟩) [2] rfl (And.intro rfl True.intro) rfl ?_) | (refine call0 (mask_z E row _ k ⟨rfl, hl, right_kinds hr⟩) [2] rfl (And.intro rfl True.intro) rfl ?_))
  all_goals first | rfl | omega | assumption
set_option maxHeartbeats 4000000 in
theorem sPutFull (E : Nat → Addr) (Q : List (PRow Int)) (R : List Ey) (hd : Hd) (row : Rw) (n k : Nat) (h : n = row.length ∧ hasK R hd = false ∧ rightV row = true ∧ row.length ≤ 1000000 ∧ R.length < 128 ∧ anyM R (mkI row) = false ∧ 32 ≤ (masksR R).length) : Does (Gm E) 16 ⟨[.ptr 0 0, .agg [.int .i64 hd.1, .int .i64 hd.2], .sl 2 n k], [(0, .pr (storePr E Q R)), (1, .pr (poolPr Zz.encI 3 Q)), (2, .ro V3 Zz.encV row k), (3, .fo (tzF 10))], 4, 4, Unit, fun _ => True, fun _ => .err 2, fun _ => [(0, .pr (storePr E Q R)), (1, .pr (poolPr Zz.encI 3 Q))]⟩ := by
  obtain ⟨rfl, hh, hr, hl, hc, hm, ht⟩ := h
  refine fn_intro (gmOk E) 33 4 [] Tryz.func16 rfl rfl rfl rfl rfl ?_
  repeat' first | (intro h; first | (exfalso; omega; done) | (exfalso; first | exact h trivial | (rw [hr] at h; cases h; done) | exact h (by rw [hr]; rfl); done) | skip) | (refine And.intro ?_ ?_) | exact True.intro | (refine @Exists.intro Unit _ () ?_) | (refine @Exists.intro (_ = _) _ rfl ?_) | (change CallGoal _ _ _ _ _ _; first | (refine call_rule (sHasN E Q R hd hh) [0] rfl (And.intro rfl True.intro) rfl (fun y1 hy1 => ?_)) | (refine call_rule (sLen E Q R) [0] rfl (And.intro rfl True.intro) rfl (fun y2 hy2 => ?_)) | (refine call_rule (sRoomN E Q R (mkI row) 0 ⟨hm, by decide, by decide⟩) [0] rfl (And.intro rfl True.intro) rfl (fun y3 hy3 => ?_))) | (change CallGoal _ _ _ _ _ _; first | (refine call0 (right_z E row _ k ⟨rfl, hl⟩) [2] rfl (And.intro rfl True.intro) rfl ?_) | (refine call0 (mask_z E row _ k ⟨rfl, hl, right_kinds hr⟩) [2] rfl (And.intro rfl True.intro) rfl ?_))
  all_goals first | rfl | omega | assumption
set_option maxHeartbeats 4000000 in
theorem sPutY (E : Nat → Addr) (Q : List (PRow Int)) (R : List Ey) (hd : Hd) (row : Rw) (n k : Nat) (h : n = row.length ∧ hasK R hd = false ∧ rightV row = true ∧ row.length ≤ 1000000 ∧ R.length < 128 ∧ anyM R (mkI row) = true) : Does (Gm E) 16 ⟨[.ptr 0 0, .agg [.int .i64 hd.1, .int .i64 hd.2], .sl 2 n k], [(0, .pr (storePr E Q R)), (1, .pr (poolPr Zz.encI 3 Q)), (2, .ro V3 Zz.encV row k), (3, .fo (tzF 10))], 4, 4, (List (PRow Int)), fun _ => True, fun _ => .nili, fun S => [(0, .pr (storePr E (Q ++ S) (insR R (hd, row)))), (1, .pr (poolPr Zz.encI 3 (Q ++ S)))]⟩ := by
  obtain ⟨rfl, hh, hr, hl, hc, hm⟩ := h
  refine fn_intro (gmOk E) 33 4 [] Tryz.func16 rfl rfl rfl rfl rfl ?_
  repeat' first | (intro h; first | (exfalso; omega; done) | (exfalso; first | exact h trivial | (rw [hr] at h; cases h; done) | exact h (by rw [hr]; rfl); done) | skip) | (refine And.intro ?_ ?_) | exact True.intro | (refine @Exists.intro Unit _ () ?_) | (refine @Exists.intro (_ = _) _ rfl ?_) | (refine @Exists.intro (List (PRow Int)) _ ?_ ?_; rotate_left) | (change CallGoal _ _ _ _ _ _; first | (refine call_rule (sHasN E Q R hd hh) [0] rfl (And.intro rfl True.intro) rfl (fun y1 hy1 => ?_)) | (refine call_rule (sLen E Q R) [0] rfl (And.intro rfl True.intro) rfl (fun y2 hy2 => ?_)) | (refine call_rule (sRoomY E Q R (mkI row) 0 ⟨hm, by decide, by decide⟩) [0] rfl (And.intro rfl True.intro) rfl (fun y3 hy3 => ?_)) | (refine call_rule (sIns E Q R hd row _ k ⟨rfl, hr, hh, hc⟩) [0, 1, 2, 3] rfl (And.intro rfl (And.intro rfl (And.intro rfl (And.intro rfl True.intro)))) rfl (fun (S : List (PRow Int)) hS => ?_))) | (change CallGoal _ _ _ _ _ _; first | (refine call0 (right_z E row _ k ⟨rfl, hl⟩) [2] rfl (And.intro rfl True.intro) rfl ?_) | (refine call0 (mask_z E row _ k ⟨rfl, hl, right_kinds hr⟩) [2] rfl (And.intro rfl True.intro) rfl ?_))
  all_goals first | rfl | omega | assumption
set_option maxHeartbeats 4000000 in
theorem sPutN (E : Nat → Addr) (Q : List (PRow Int)) (R : List Ey) (hd : Hd) (row : Rw) (n k : Nat) (h : n = row.length ∧ hasK R hd = false ∧ rightV row = true ∧ row.length ≤ 1000000 ∧ R.length < 128 ∧ anyM R (mkI row) = false ∧ (masksR R).length < 32) : Does (Gm E) 16 ⟨[.ptr 0 0, .agg [.int .i64 hd.1, .int .i64 hd.2], .sl 2 n k], [(0, .pr (storePr E Q R)), (1, .pr (poolPr Zz.encI 3 Q)), (2, .ro V3 Zz.encV row k), (3, .fo (tzF 10))], 4, 4, (List (PRow Int)), fun _ => True, fun _ => .nili, fun S => [(0, .pr (storePr E (Q ++ S) (insR R (hd, row)))), (1, .pr (poolPr Zz.encI 3 (Q ++ S)))]⟩ := by
  obtain ⟨rfl, hh, hr, hl, hc, hm, ht⟩ := h
  refine fn_intro (gmOk E) 33 4 [] Tryz.func16 rfl rfl rfl rfl rfl ?_
  repeat' first | (intro h; first | (exfalso; omega; done) | (exfalso; first | exact h trivial | (rw [hr] at h; cases h; done) | exact h (by rw [hr]; rfl); done) | skip) | (refine And.intro ?_ ?_) | exact True.intro | (refine @Exists.intro Unit _ () ?_) | (refine @Exists.intro (_ = _) _ rfl ?_) | (refine @Exists.intro (List (PRow Int)) _ ?_ ?_; rotate_left) | (change CallGoal _ _ _ _ _ _; first | (refine call_rule (sHasN E Q R hd hh) [0] rfl (And.intro rfl True.intro) rfl (fun y1 hy1 => ?_)) | (refine call_rule (sLen E Q R) [0] rfl (And.intro rfl True.intro) rfl (fun y2 hy2 => ?_)) | (refine call_rule (sRoomN E Q R (mkI row) 0 ⟨hm, by decide, by decide⟩) [0] rfl (And.intro rfl True.intro) rfl (fun y3 hy3 => ?_)) | (refine call_rule (sIns E Q R hd row _ k ⟨rfl, hr, hh, hc⟩) [0, 1, 2, 3] rfl (And.intro rfl (And.intro rfl (And.intro rfl (And.intro rfl True.intro)))) rfl (fun (S : List (PRow Int)) hS => ?_))) | (change CallGoal _ _ _ _ _ _; first | (refine call0 (right_z E row _ k ⟨rfl, hl⟩) [2] rfl (And.intro rfl True.intro) rfl ?_) | (refine call0 (mask_z E row _ k ⟨rfl, hl, right_kinds hr⟩) [2] rfl (And.intro rfl True.intro) rfl ?_))
  all_goals first | rfl | omega | assumption
end Go.Proofs.YtcnbngiplfoomaaGreatDoor
namespace Go.Proofs.YtcnbngiplfoomaaGreatDoor
open Go.Zz Go.Px
set_option linter.unusedVariables false
set_option linter.unusedSectionVars false
set_option linter.unusedSimpArgs false
set_option maxRecDepth 10000
section
variable {E : Nat → Addr} {Q : List (PRow Int)} {T : TL} {P : PL} {R : List Ey} {m i k : Int} {h hd : Hd} {es es' : List Ey} {p : Int → Nat} {x : XT} {r r' row : Rw} {v : V3} {g : Nat}
theorem cut_one (h : ((Go.Px.cutL dE es i.toNat).length : Int) = 0) (a : AtS R x hd r m i es) : es.length = 1 := by
  rw [cutL_len] at h; have := a.hi; have := a.lo; omega
theorem cut_more (h : ¬ ((Go.Px.cutL dE es i.toNat).length : Int) = 0) : ¬ es.length = 1 := by
  rw [cutL_len] at h; omega
theorem AtS.mZ (a : AtS R x hd r m i es) : ((m.toNat : Nat) : Int) = m := by rw [a.mN]; exact a.mki
theorem delR_len : (delR R h).length ≤ R.length := List.length_filter_le _ _
theorem XOk.cut (hx : XOk R x) (a : AtS R x hd r m i es) : XOk (delR R hd) (cutT x.1 m es i, cutP x.2.1 hd m es i, x.2.2.1, x.2.2.2) where
  inv := hx.inv.cut a.pl a.tb
  ed := hx.ed
  len := Nat.le_trans delR_len hx.len
theorem cutT_one (h : es.length = 1) : cutT T m es i = Go.Px.delK T m := if_pos h
theorem cutT_more (h : ¬ es.length = 1) : cutT T m es i = Go.Px.putK T m (Go.Px.cutL dE es i.toNat) := if_neg h
theorem cutP_one (a : AtS R x hd r m i es) (h : es.length = 1) : cutP P hd m es i = Go.Px.delK P hd := by unfold cutP; rw [if_neg (by have := a.lo; omega)]
theorem cutP_last (h : ¬ i < ((Go.Px.cutL dE es i.toNat).length : Nat)) (a : AtS R x hd r m i es) : cutP P hd m es i = Go.Px.delK P hd := by
  rw [cutL_len] at h; unfold cutP; rw [if_neg (by have := a.lo; omega)]
theorem cut_moved (h : i < ((Go.Px.cutL dE es i.toNat).length : Nat)) (a : AtS R x hd r m i es) : (Go.Px.cutL dE es i.toNat).getD i.toNat dE = es.getD (es.length - 1) dE := by
  have h0 := a.lo; have h1 := a.hi
  rw [cutL_len] at h
  have hl : es[es.length - 1]? = some (es.getD (es.length - 1) dE) := by rw [List.getD_eq_getElem?_getD, List.getElem?_eq_getElem (by omega)]; rfl
  have := (cutL_at (d := dE) (l := es) (i := i.toNat) (j := i.toNat) (x := es.getD (es.length - 1) dE) (by omega)).2 ⟨by omega, .inl ⟨rfl, hl⟩⟩
  rw [List.getD_eq_getElem?_getD, this]; rfl
theorem cutP_mid (h : i < ((Go.Px.cutL dE es i.toNat).length : Nat)) (a : AtS R x hd r m i es) : cutP P hd m es i = Go.Px.putK (Go.Px.delK P hd) ((Go.Px.cutL dE es i.toNat).getD i.toNat dE).1 (m, i) := by
  rw [cut_moved h a]
  rw [cutL_len] at h; unfold cutP; rw [if_pos (by have := a.lo; omega)]
theorem delK_keys {κ ν : Type} [DecidableEq κ] {L : List (κ × ν)} {k : κ} : (Go.Px.delK L k).map (fun y : κ × ν => y.1) = (L.map (fun y : κ × ν => y.1)).filter (fun j => !decide (j = k)) := by
  unfold Go.Px.delK; rw [List.filter_map]; rfl
end
set_option maxHeartbeats 4000000 in
theorem oMask (E : Nat → Addr) (m : Nat) (a : Option Addr) (n k : Nat) : Does (Gm E) 60 (Sp0 [.ptr 0 0] [(0, .cells 133 [.ptr 1 0, .int .u64 ((m : Nat) : Int), .raw (.slice a n k), .mp 2])] 3 (.int .u64 ((m : Nat) : Int))) := by
  refine fn_intro (gmOk E) 7 3 [] Tryz.func60 rfl rfl rfl rfl rfl ?_
  repeat' first | (intro h; first | (exfalso; omega; done) | skip) | (refine And.intro ?_ ?_) | exact True.intro | (refine @Exists.intro Unit _ () ?_) | (refine @Exists.intro (_ = _) _ rfl ?_)
  all_goals first | rfl | omega | assumption
set_option maxHeartbeats 4000000 in
theorem oHandle (E : Nat → Addr) (m : Nat) (a : Option Addr) (n k : Nat) (es : List Ey) (i : Int) (h : 0 ≤ i ∧ i < (es.length : Nat)) : Does (Gm E) 72 ⟨[.ptr 0 0, .int .i64 i], [(0, .cells 133 [.ptr 1 0, .int .u64 ((m : Nat) : Int), .raw (.slice a n k), .mp 2]), (1, .pr (colH E (es.map (fun e : Ey => e.1))))], 3, 3, Unit, fun _ => True, fun _ => .tup [.agg [.int .i64 (es.getD i.toNat dE).1.1, .int .i64 (es.getD i.toNat dE).1.2], .nili], fun _ => [(0, .cells 133 [.ptr 1 0, .int .u64 ((m : Nat) : Int), .raw (.slice a n k), .mp 2]), (1, .pr (colH E (es.map (fun e : Ey => e.1))))]⟩ := by
  rename 0 ≤ i ∧ i < _ => hi
  refine fn_intro (gmOk E) 14 3 [] Tryz.func72 rfl rfl rfl rfl rfl ?_
  repeat' first | (intro h; first | (exfalso; omega; done) | skip) | (refine And.intro ?_ ?_) | exact True.intro | (refine @Exists.intro Unit _ () ?_) | (refine @Exists.intro (_ = _) _ rfl ?_) | (change CallGoal _ _ _ _ _ _; first | (refine call_rule (hget (E := E) (es := es) hi) [1] rfl (And.intro rfl True.intro) rfl (fun y1 hy1 => ?_)))
  all_goals first | rfl | omega | assumption
set_option maxHeartbeats 4000000 in
theorem oHandleNo (E : Nat → Addr) (m : Nat) (a : Option Addr) (n k : Nat) (es : List Ey) (i : Int) (h : ¬ (0 ≤ i ∧ i < (es.length : Nat))) : Does (Gm E) 72 ⟨[.ptr 0 0, .int .i64 i], [(0, .cells 133 [.ptr 1 0, .int .u64 ((m : Nat) : Int), .raw (.slice a n k), .mp 2]), (1, .pr (colH E (es.map (fun e : Ey => e.1))))], 3, 3, Unit, fun _ => True, fun _ => .tup [.agg [.int .i64 0, .int .i64 0], .err 3], fun _ => [(0, .cells 133 [.ptr 1 0, .int .u64 ((m : Nat) : Int), .raw (.slice a n k), .mp 2]), (1, .pr (colH E (es.map (fun e : Ey => e.1))))]⟩ := by
  rename ¬ (0 ≤ i ∧ i < _) => hi
  refine fn_intro (gmOk E) 14 3 [] Tryz.func72 rfl rfl rfl rfl rfl ?_
  repeat' first | (intro h; first | (exfalso; omega; done) | skip) | (refine And.intro ?_ ?_) | exact True.intro | (refine @Exists.intro Unit _ () ?_) | (refine @Exists.intro (_ = _) _ rfl ?_) | (change CallGoal _ _ _ _ _ _; first | (refine call_rule (hgetNo (E := E) (es := es) hi) [1] rfl (And.intro rfl True.intro) rfl (fun y1 hy1 => ?_)))
  all_goals first | rfl | omega | assumption
set_option maxHeartbeats 4000000 in
theorem sTake (E : Nat → Addr) (Q : List (PRow Int)) (R : List Ey) (hd : Hd) (r : Rw) (h : getK R hd = some r) : Does (Gm E) 25 ⟨[.ptr 0 0, .agg [.int .i64 hd.1, .int .i64 hd.2]], [(0, .pr (storePr E Q R)), (1, .fo (roPool Zz.encI Q))], 2, 3, Nat, fun q => r.length ≤ q, fun q => .tup [.agg [.int .i64 hd.1, .int .i64 hd.2, .sl 2 r.length q], .nili], fun q => [(0, .pr (storePr E Q (delR R hd))), (2, .arr V3 Zz.encV 34 r q)]⟩ := by
  rename getK R hd = _ => hR
  refine DoesC.does (fn_start Tryz.func25 rfl rfl rfl ?_)
  change EntryGoal _ _ _ _ _
  refine entryG.ex 0 rfl (fun x hx => ?_)
  change EntryGoal _ _ _ _ _
  (obtain ⟨m, i, es, ha⟩ := hx.at_ hR; change EntryGoal _ _ _ _ _; refine entryG.open_ 0 rfl 5 rfl rfl ?_)
  change EntryGoal _ _ _ _ _
  refine entry_go (gmOk E) 73 2 [8] Tryz.func25 rfl rfl rfl rfl ?_
  repeat' first | (change CallGoal _ _ _ _ _ _; first | (change CallGoal _ 70 _ _ _ _; first | (refine callG.restOut 6 (tabL x.1) x.2.2.2 m (m.toNat, es) rfl (tabL_get ha.tb) ?_; change CallGoal _ _ _ _ _ _; refine call_args [.ptr 10 0, .int .i64 i] (fun _ => bdLB_ok _ rfl) (fun En V w hp => by have q := rest_ptr (r := 6) (m := 10) rfl hp; simp only [SV.den, SV.denL] at q ⊢; rw [q]) ?_; change CallGoal _ _ _ _ _ _; refine call_rule (tTake E Q m.toNat es i ha.rg) [10, 1] rfl (And.intro rfl (And.intro rfl True.intro)) rfl (fun (q : Nat) hq => ?_))) | (change CallGoal _ 72 _ _ _ _; first | (refine call_rule (oHandle E m.toNat t.2.2.2.1 (kindsN m.toNat).length t.2.2.2.2 (Go.Px.cutL dE es i.toNat) i ⟨ha.lo, hc⟩) [10, 14, 15] rfl (And.intro rfl (And.intro rfl True.intro)) rfl (fun y5 hy5 => ?_)) | (refine call_rule (oHandleNo E m.toNat t.2.2.2.1 (kindsN m.toNat).length t.2.2.2.2 (Go.Px.cutL dE es i.toNat) i (fun q => hc q.2)) [10, 14, 15] rfl (And.intro rfl (And.intro rfl True.intro)) rfl (fun y5 hy5 => ?_)) | ((fail_if_success (have _ := hc)); by_cases hc : i < ((Go.Px.cutL dE es i.toNat).length : Nat)))) | (change JoinGoal _ _ _ _ _ _ _ _; refine join_stop (gmOk E) ?_) | (change HereGoal _ _ _ _ _ _ _; refine hereG.cells_ 9 [.ptr 10 0, .int .i64 i] rfl rfl (fun En V w hp => by have q := rest_ptr (r := 6) (m := 10) rfl hp; simp only [SV.den, SV.denL] at q ⊢; rw [q]) ?_; change HereGoal _ _ _ _ _ _ _; refine hereG.ex 10 rfl (fun t ht => ?_); change HereGoal _ _ _ _ _ _ _; refine hereG.open_ 10 rfl 4 rfl rfl ?_; change HereGoal _ _ _ _ _ _ _; refine here_go (gmOk E) ?_) | (change RetGoal _ _ _ _ _; first | (have h1 := cut_one (by assumption) ha; refine retG'.restDel 6 rfl ?_; change RetGoal _ _ _ _ _; refine retG'.cast 6 (.pr (restPr (tabP E Q) (tabL (cutT x.1 m es i)) x.2.2.2)) rfl (by rw [cutT_one h1, tabL_del]) ?_; change RetGoal _ _ _ _ _; refine retG'.cast 3 (.pr (mapPr veU veP (ptrL ((cutT x.1 m es i).map (fun y : Int × List Ey => y.1)) x.2.2.2))) rfl (by rw [ha.mZ, cutT_one h1, delK_keys, ptrL_del]) ?_; change RetGoal _ _ _ _ _; refine retG'.cast 4 (.pr (mapPr (Enc.ag (Zz.encP Zz.encI Zz.encI)) vePl (placL (cutP x.2.1 hd m es i) x.2.2.2))) rfl (by rw [cutP_one ha h1, placL_del]) ?_; change RetGoal _ _ _ _ _; refine retG'.cast 11 (.arr V3 Zz.encV 34 r q) rfl (by rw [ha.e2]) ?_; change RetGoal _ _ _ _ _; refine retG'.shut (Γ0 := Gm E) rfl (.cells 108 [.mp 1, .mp 2, .mp 3]) [(1, .pr (mapPr veU veP (ptrL ((((cutT x.1 m es i, cutP x.2.1 hd m es i, x.2.2.1, x.2.2.2) : XT)).1.map (fun y : Int × List Ey => y.1)) (((cutT x.1 m es i, cutP x.2.1 hd m es i, x.2.2.1, x.2.2.2) : XT)).2.2.2))), (2, .pr (mapPr (Enc.ag (Zz.encP Zz.encI Zz.encI)) vePl (placL (((cutT x.1 m es i, cutP x.2.1 hd m es i, x.2.2.1, x.2.2.2) : XT)).2.1 (((cutT x.1 m es i, cutP x.2.1 hd m es i, x.2.2.1, x.2.2.2) : XT)).2.2.2))), (3, .pr (mapPr (Enc.ag (Zz.encP encU Zz.encI)) veU (((cutT x.1 m es i, cutP x.2.1 hd m es i, x.2.2.1, x.2.2.2) : XT)).2.2.1)), (4, .pr (restPr (tabP E Q) (tabL (((cutT x.1 m es i, cutP x.2.1 hd m es i, x.2.2.1, x.2.2.2) : XT)).1) (((cutT x.1 m es i, cutP x.2.1 hd m es i, x.2.2.1, x.2.2.2) : XT)).2.2.2))] [0, 3, 4, 5, 6] (And.intro rfl (And.intro rfl (And.intro rfl (And.intro rfl (And.intro rfl True.intro))))) rfl ?_; change RetGoal _ _ _ _ _; refine retG'.hide (X := XT) (p := XOk (delR R hd)) (Φ := fun x => grp (Gm E) (stoH E Q x)) 0 (((cutT x.1 m es i, cutP x.2.1 hd m es i, x.2.2.1, x.2.2.2) : XT)) (hx.cut ha) rfl ?_; change RetGoal _ _ _ _ _; refine ret_done rfl ?_) | (have h1 := cut_more (by assumption); refine retG'.shut (Γ0 := Gm E) rfl (.cells 133 [.ptr 1 0, .int .u64 ((m.toNat : Nat) : Int), .raw (.slice t.2.2.2.1 (kindsN m.toNat).length t.2.2.2.2), .mp 2]) [(1, .pr (colH E ((Go.Px.cutL dE es i.toNat).map (fun e : Ey => e.1)))), (2, .pr (mapPr veI veP (ptrL t.2.1 t.1))), (3, .pr (restPr (colV E) (colsL m.toNat (Go.Px.cutL dE es i.toNat)) t.1))] [10, 14, 15, 16] (And.intro rfl (And.intro rfl (And.intro rfl (And.intro rfl True.intro)))) rfl ?_; change RetGoal _ _ _ _ _; refine retG'.hide (X := PT) (p := TOk Q m.toNat (Go.Px.cutL dE es i.toNat)) (Φ := fun x => grp (Gm E) (tblH E m.toNat (Go.Px.cutL dE es i.toNat) x)) 10 t (ht) rfl ?_; change RetGoal _ _ _ _ _; refine retG'.restIn 6 10 (m.toNat, (Go.Px.cutL dE es i.toNat)) rfl rfl rfl (tabP_placed _) ha.has ?_; change RetGoal _ _ _ _ _; refine retG'.cast 6 (.pr (restPr (tabP E Q) (tabL (cutT x.1 m es i)) x.2.2.2)) rfl (by rw [cutT_more h1, tabL_put]) ?_; change RetGoal _ _ _ _ _; refine retG'.cast 3 (.pr (mapPr veU veP (ptrL ((cutT x.1 m es i).map (fun y : Int × List Ey => y.1)) x.2.2.2))) rfl (by rw [cutT_more h1, putK_keys ha.tb]) ?_; change RetGoal _ _ _ _ _; refine retG'.cast 4 (.pr (mapPr (Enc.ag (Zz.encP Zz.encI Zz.encI)) vePl (placL (cutP x.2.1 hd m es i) x.2.2.2))) rfl (by rw [cutP_mid (by assumption) ha, ← placL_put, placL_del]) ?_; change RetGoal _ _ _ _ _; refine retG'.cast 11 (.arr V3 Zz.encV 34 r q) rfl (by rw [ha.e2]) ?_; change RetGoal _ _ _ _ _; refine retG'.shut (Γ0 := Gm E) rfl (.cells 108 [.mp 1, .mp 2, .mp 3]) [(1, .pr (mapPr veU veP (ptrL ((((cutT x.1 m es i, cutP x.2.1 hd m es i, x.2.2.1, x.2.2.2) : XT)).1.map (fun y : Int × List Ey => y.1)) (((cutT x.1 m es i, cutP x.2.1 hd m es i, x.2.2.1, x.2.2.2) : XT)).2.2.2))), (2, .pr (mapPr (Enc.ag (Zz.encP Zz.encI Zz.encI)) vePl (placL (((cutT x.1 m es i, cutP x.2.1 hd m es i, x.2.2.1, x.2.2.2) : XT)).2.1 (((cutT x.1 m es i, cutP x.2.1 hd m es i, x.2.2.1, x.2.2.2) : XT)).2.2.2))), (3, .pr (mapPr (Enc.ag (Zz.encP encU Zz.encI)) veU (((cutT x.1 m es i, cutP x.2.1 hd m es i, x.2.2.1, x.2.2.2) : XT)).2.2.1)), (4, .pr (restPr (tabP E Q) (tabL (((cutT x.1 m es i, cutP x.2.1 hd m es i, x.2.2.1, x.2.2.2) : XT)).1) (((cutT x.1 m es i, cutP x.2.1 hd m es i, x.2.2.1, x.2.2.2) : XT)).2.2.2))] [0, 3, 4, 5, 6] (And.intro rfl (And.intro rfl (And.intro rfl (And.intro rfl (And.intro rfl True.intro))))) rfl ?_; change RetGoal _ _ _ _ _; refine retG'.hide (X := XT) (p := XOk (delR R hd)) (Φ := fun x => grp (Gm E) (stoH E Q x)) 0 (((cutT x.1 m es i, cutP x.2.1 hd m es i, x.2.2.1, x.2.2.2) : XT)) (hx.cut ha) rfl ?_; change RetGoal _ _ _ _ _; refine ret_done rfl ?_) | (have h1 := cut_more (by assumption); refine retG'.shut (Γ0 := Gm E) rfl (.cells 133 [.ptr 1 0, .int .u64 ((m.toNat : Nat) : Int), .raw (.slice t.2.2.2.1 (kindsN m.toNat).length t.2.2.2.2), .mp 2]) [(1, .pr (colH E ((Go.Px.cutL dE es i.toNat).map (fun e : Ey => e.1)))), (2, .pr (mapPr veI veP (ptrL t.2.1 t.1))), (3, .pr (restPr (colV E) (colsL m.toNat (Go.Px.cutL dE es i.toNat)) t.1))] [10, 14, 15, 16] (And.intro rfl (And.intro rfl (And.intro rfl (And.intro rfl True.intro)))) rfl ?_; change RetGoal _ _ _ _ _; refine retG'.hide (X := PT) (p := TOk Q m.toNat (Go.Px.cutL dE es i.toNat)) (Φ := fun x => grp (Gm E) (tblH E m.toNat (Go.Px.cutL dE es i.toNat) x)) 10 t (ht) rfl ?_; change RetGoal _ _ _ _ _; refine retG'.restIn 6 10 (m.toNat, (Go.Px.cutL dE es i.toNat)) rfl rfl rfl (tabP_placed _) ha.has ?_; change RetGoal _ _ _ _ _; refine retG'.cast 6 (.pr (restPr (tabP E Q) (tabL (cutT x.1 m es i)) x.2.2.2)) rfl (by rw [cutT_more h1, tabL_put]) ?_; change RetGoal _ _ _ _ _; refine retG'.cast 3 (.pr (mapPr veU veP (ptrL ((cutT x.1 m es i).map (fun y : Int × List Ey => y.1)) x.2.2.2))) rfl (by rw [cutT_more h1, putK_keys ha.tb]) ?_; change RetGoal _ _ _ _ _; refine retG'.cast 4 (.pr (mapPr (Enc.ag (Zz.encP Zz.encI Zz.encI)) vePl (placL (cutP x.2.1 hd m es i) x.2.2.2))) rfl (by rw [cutP_last (by assumption) ha, placL_del]) ?_; change RetGoal _ _ _ _ _; refine retG'.cast 11 (.arr V3 Zz.encV 34 r q) rfl (by rw [ha.e2]) ?_; change RetGoal _ _ _ _ _; refine retG'.shut (Γ0 := Gm E) rfl (.cells 108 [.mp 1, .mp 2, .mp 3]) [(1, .pr (mapPr veU veP (ptrL ((((cutT x.1 m es i, cutP x.2.1 hd m es i, x.2.2.1, x.2.2.2) : XT)).1.map (fun y : Int × List Ey => y.1)) (((cutT x.1 m es i, cutP x.2.1 hd m es i, x.2.2.1, x.2.2.2) : XT)).2.2.2))), (2, .pr (mapPr (Enc.ag (Zz.encP Zz.encI Zz.encI)) vePl (placL (((cutT x.1 m es i, cutP x.2.1 hd m es i, x.2.2.1, x.2.2.2) : XT)).2.1 (((cutT x.1 m es i, cutP x.2.1 hd m es i, x.2.2.1, x.2.2.2) : XT)).2.2.2))), (3, .pr (mapPr (Enc.ag (Zz.encP encU Zz.encI)) veU (((cutT x.1 m es i, cutP x.2.1 hd m es i, x.2.2.1, x.2.2.2) : XT)).2.2.1)), (4, .pr (restPr (tabP E Q) (tabL (((cutT x.1 m es i, cutP x.2.1 hd m es i, x.2.2.1, x.2.2.2) : XT)).1) (((cutT x.1 m es i, cutP x.2.1 hd m es i, x.2.2.1, x.2.2.2) : XT)).2.2.2))] [0, 3, 4, 5, 6] (And.intro rfl (And.intro rfl (And.intro rfl (And.intro rfl (And.intro rfl True.intro))))) rfl ?_; change RetGoal _ _ _ _ _; refine retG'.hide (X := XT) (p := XOk (delR R hd)) (Φ := fun x => grp (Gm E) (stoH E Q x)) 0 (((cutT x.1 m es i, cutP x.2.1 hd m es i, x.2.2.1, x.2.2.2) : XT)) (hx.cut ha) rfl ?_; change RetGoal _ _ _ _ _; refine ret_done rfl ?_)) | (intro h; first | (exfalso; omega; done) | (exfalso; exact h trivial; done) | skip) | (refine And.intro ?_ ?_) | exact True.intro | (refine @Exists.intro Unit _ () ?_) | (refine @Exists.intro (_ = _) _ rfl ?_) | (change OpGoal _ _ _ _ (.call { callee := .builtin .delete, args := _, argTypes := #[105, _] }) _; refine mapdel_rule mapP 4 (placL x.2.1 x.2.2.2) hd rfl rfl rfl ?_) | (change OpGoal _ _ _ _ (.call { callee := .builtin .delete, args := _, argTypes := #[104, _] }) _; refine mapdel_rule mapT 3 (ptrL (x.1.map (fun y : Int × List Ey => y.1)) x.2.2.2) ((m.toNat : Nat) : Int) rfl rfl rfl ?_) | (change OpGoal _ _ _ _ (.mapUpdate _ _ _ _) _; refine mapset_ruleS mapP 4 (Go.Px.delK (placL x.2.1 x.2.2.2) hd) ((Go.Px.cutL dE es i.toNat).getD i.toNat dE).1 (some (x.2.2.2 m), i) rfl rfl (fun En V w hp => by have q := rest_ptr (r := 6) (m := 10) rfl hp; first | exact (congrArg (fun z => Value.agg #[z, _]) q) | (simp only [SV.den, SV.denL, vePl] at q ⊢; rw [q])) rfl ?_) | (change DrawGoal _ _ _ _ _ _; first | (change DrawGoal _ _ _ ({ dst := some 33, op := _, type := _, pos := _, after := _, guard := _ } :: _) _ _; refine draw_tree (gmOk E) [0, 7] (.leaf [(0, true), (1, true), (2, true), (3, true), (4, true), (5, false)]) (by kernel_rfl) ?_) | (change DrawGoal _ _ _ ({ dst := some 45, op := _, type := _, pos := _, after := _, guard := _ } :: _) _ _; refine draw_tree (gmOk E) [0, 9, 10] (.leaf [(0, true), (1, true), (2, true), (3, true), (4, true), (5, true), (6, false), (7, false)]) (by kernel_rfl) ?_) | (change DrawGoal _ _ _ ({ dst := some 62, op := _, type := _, pos := _, after := _, guard := _ } :: _) _ _; refine draw_tree (gmOk E) [0, 9, 18] (.leaf [(0, true), (1, true), (2, true), (3, true), (4, true), (5, true), (6, true), (7, true), (8, true), (9, true), (10, false)]) (by kernel_rfl) ?_)) | (refine @Exists.intro (Nat) _ ?_ ?_; rotate_left) | (change CallGoal _ _ _ _ _ _; first | (refine call_rule (sFindY E x.2.1 x.2.2.2 hd m i ha.pl) [0, 3, 4, 5, 6] rfl (And.intro rfl (And.intro rfl True.intro)) rfl (fun y1 hy1 => ?_)) | (refine call_rule (hlen (E := E) (es := (Go.Px.cutL dE es i.toNat))) [14] rfl (And.intro rfl True.intro) rfl (fun y2 hy2 => ?_))) | (change CallGoal _ _ _ _ _ _; first | (refine call0 (oMask E m.toNat t.2.2.2.1 (kindsN m.toNat).length t.2.2.2.2) [10, 14, 15] rfl (And.intro rfl True.intro) rfl ?_))
  all_goals first | rfl | omega | assumption | (rw [ha.e2]; done) | (rw [ha.e1]; done) | (rw [ha.e2] at hq; exact hq)
end Go.Proofs.YtcnbngiplfoomaaGreatDoor
namespace Go.Proofs.YtcnbngiplfoomaaGreatDoor
open Go.Zz Go.Px
set_option linter.unusedVariables false
set_option linter.unusedSectionVars false
set_option linter.unusedSimpArgs false
set_option maxRecDepth 10000
noncomputable def Ge (E : Nat → Addr) : Ctx := { Gm E with errs := [] }
theorem geOk (E : Nat → Addr) : (Ge E).Ok := (gmOk E).noErrs
def idxP {α : Type} (p : α → Bool) (l : List α) : Int := match l.findIdx? p with
  | some i => (i : Nat)
  | none => -1
section
variable {α : Type} {p : α → Bool} {l : List α} {d : α}
theorem idxP_le (p : α → Bool) (l : List α) : -1 ≤ idxP p l ∧ idxP p l < (l.length : Nat) ∨ idxP p l = -1 := by
  unfold idxP
  split
  · rename_i i h
    have := (List.findIdx?_eq_some_iff_getElem.1 h).1
    left; constructor <;> omega
  · exact .inr rfl
structure NoneTo {α : Type} (p : α → Bool) (l : List α) (i : Int) : Prop where
  all : ∀ x ∈ l.take i.toNat, p x = false
theorem noneP_start : NoneTo p l 0 := ⟨fun x hx => by simp at hx⟩
theorem noneP_next {i : Int} (hI : 0 ≤ i ∧ i ≤ (l.length : Nat) ∧ NoneTo p l i) (hi : i < (l.length : Nat)) (hp : p (l.getD i.toNat d) = false) : NoneTo p l (i + 1) := by
  refine ⟨?_⟩
  rw [show (i + 1).toNat = i.toNat + 1 by omega, take_snoc (d := d) (by omega)]
  intro x hx
  rcases List.mem_append.1 hx with h | h
  · exact hI.2.2.all x h
  · rw [List.mem_singleton.1 h]; exact hp
theorem idxP_in {i : Int} (hI : 0 ≤ i ∧ i ≤ (l.length : Nat) ∧ NoneTo p l i) (hi : i < (l.length : Nat)) (hp : p (l.getD i.toNat d) = true) : idxP p l = i := by
  have hlt : i.toNat < l.length := by omega
  have e : l.getD i.toNat d = l[i.toNat] := by simp [List.getD_eq_getElem?_getD, hlt]
  rw [e] at hp
  have : l.findIdx? p = some i.toNat := List.findIdx?_eq_some_iff_getElem.2 ⟨hlt, hp, fun j hj => by
    have := hI.2.2.all l[j] (List.mem_take_iff_getElem.2 ⟨j, by omega, rfl⟩)
    simp [this]⟩
  unfold idxP
  rw [this]
  show ((i.toNat : Nat) : Int) = i
  omega
theorem idxP_none {i : Int} (hI : 0 ≤ i ∧ i ≤ (l.length : Nat) ∧ NoneTo p l i) (hi : ¬ i < (l.length : Nat)) : idxP p l = -1 := by
  have h : ∀ x ∈ l.take i.toNat, p x = false := hI.2.2.all
  rw [List.take_of_length_le (by omega)] at h
  unfold idxP
  rw [List.findIdx?_eq_none_iff.2 (by simpa using h)]
theorem dropP_of_idx (h : idxP p l = -1) : dropP p l = l := by
  refine dropP_none fun x hx => ?_
  unfold idxP at h
  split at h
  · omega
  · rename_i hn
    exact (List.findIdx?_eq_none_iff.1 hn) x hx
theorem idxP_at (h : ¬ idxP p l = -1) : 0 ≤ idxP p l ∧ ∃ hlt : (idxP p l).toNat < l.length, p l[(idxP p l).toNat] = true ∧ ∀ x ∈ l.take (idxP p l).toNat, p x = false := by
  unfold idxP at *
  split at h
  · rename_i i hi
    obtain ⟨h1, h2, h3⟩ := List.findIdx?_eq_some_iff_getElem.1 hi
    refine ⟨by simp, ?_⟩
    simp only [Int.toNat_natCast]
    refine ⟨h1, h2, fun x hx => ?_⟩
    obtain ⟨j, hj, rfl⟩ := List.mem_take_iff_getElem.1 hx
    have := h3 j (by omega)
    simpa using this
  · exact absurd rfl h
theorem cutP_start (h : ¬ idxP p l = -1) : Cut p l l (idxP p l).toNat (idxP p l + 1).toNat := by
  obtain ⟨h0, hlt, h1, h2⟩ := idxP_at h
  rw [show (idxP p l + 1).toNat = (idxP p l).toNat + 1 by omega]
  exact Cut.start (d := l[(idxP p l).toNat]) hlt (by simp [List.getD_eq_getElem?_getD, hlt, h1]) h2
theorem cutP_keep {x : Int × Int × List α} (hI : 0 ≤ x.1 ∧ 0 ≤ x.2.1 ∧ Cut p l x.2.2 x.1.toNat x.2.1.toNat) (hj : x.2.1 < (l.length : Nat)) (hp : (!p (x.2.2.getD x.2.1.toNat d)) = true) : Cut p l (x.2.2.set x.1.toNat (x.2.2.getD x.2.1.toNat d)) (x.1 + 1).toNat (x.2.1 + 1).toNat := by
  obtain ⟨h1, h2, c⟩ := hI
  rw [show (x.1 + 1).toNat = x.1.toNat + 1 by omega, show (x.2.1 + 1).toNat = x.2.1.toNat + 1 by omega]
  have := c.len
  exact c.keep (by omega) (by simpa using hp)
theorem cutP_skip {x : Int × Int × List α} (hI : 0 ≤ x.1 ∧ 0 ≤ x.2.1 ∧ Cut p l x.2.2 x.1.toNat x.2.1.toNat) (hj : x.2.1 < (l.length : Nat)) (hp : (!p (x.2.2.getD x.2.1.toNat d)) = false) : Cut p l x.2.2 x.1.toNat (x.2.1 + 1).toNat := by
  obtain ⟨h1, h2, c⟩ := hI
  rw [show (x.2.1 + 1).toNat = x.2.1.toNat + 1 by omega]
  have := c.len
  exact c.skip (by omega) (by simpa using hp)
end
set_option maxHeartbeats 4000000 in
theorem isnan_e (E : Nat → Addr) (n : Int) : DoesC (Ge E) 166 (Sp0 [.int .i64 n] [] 0 .ff) := by
  refine fn_calls (geOk E) 6 0 [] Tryz.func166 rfl rfl rfl rfl rfl ?_
  repeat' first | (intro h; first | (exfalso; omega; done) | skip) | (refine And.intro ?_ ?_) | exact True.intro | (refine @Exists.intro Unit _ () ?_) | (refine @Exists.intro (_ = _) _ rfl ?_)
  all_goals first | omega | rfl | skip
set_option maxHeartbeats 4000000 in
theorem cmp_e (E : Nat → Addr) (a b : Int) : DoesC (Ge E) 143 (Sp0 [.int .i64 a, .int .i64 b] [] 0 (.int .i64 (cmpI a b))) := by
  refine fn_calls (geOk E) 20 0 [] Tryz.func143 rfl rfl rfl rfl rfl ?_
  repeat' first | (intro h; first | (exfalso; omega; done) | skip) | (refine And.intro ?_ ?_) | exact True.intro | (refine @Exists.intro Unit _ () ?_) | (refine @Exists.intro (_ = _) _ rfl ?_) | (change CallGoal _ _ _ _ _ _; first | (refine call0 (isnan_e E _).does [] rfl True.intro rfl ?_))
  all_goals first | omega | (simp only [cmpI]; repeat (split <;> try omega)) | skip
set_option maxHeartbeats 4000000 in
theorem kind_e (E : Nat → Addr) (a b : V3) : DoesC (Ge E) 104 (Sp0 [.agg [.int .i64 a.k, .int .i64 a.a, .int .i64 a.b], .agg [.int .i64 b.k, .int .i64 b.a, .int .i64 b.b]] [] 0 (.int .i64 (cmpI a.k b.k))) := by
  refine fn_calls (geOk E) 10 0 [] Tryz.func104 rfl rfl rfl rfl rfl ?_
  repeat' first | (intro h; first | (exfalso; omega; done) | skip) | (refine And.intro ?_ ?_) | exact True.intro | (refine @Exists.intro Unit _ () ?_) | (refine @Exists.intro (_ = _) _ rfl ?_) | (change CallGoal _ _ _ _ _ _; first | (refine call0 (cmp_e E _ _).does [] rfl True.intro rfl ?_))
  all_goals first | omega | rfl
open Go.Proofs in
theorem sort_swo {Γ : Ctx} {ρ : Go.Shelf.Ren} {α : Type} [Inhabited α] {en : Enc α} (L : Go.Proofs.SlLaysF0.n6 Γ.P ρ) (aE : ∀ w, (isAgg (ρ.t 24)).run Γ.P w = .ok true w) (zE : ∀ w, (Go.sizeOf (ρ.t 24)).run Γ.P w = .ok en.sz w)
    {cf : α → α → Int} (ho : Go.Sort.SWO (ltOf cf)) {g : Nat} (hc : ∀ x y, DoesC { Γ with errs := [] } g (Sp0 [.agg (en.get x), .agg (en.get y)] [] 0 (.int .i64 (cf x y)))) {f : FuncId} (hf : f = ρ.f 6) (hen : enters Γ.P f)
    (l : List α) (k e : Nat) (hlen : l.length < 4611686018427387904) :
    Does Γ f ⟨[.sl 0 l.length k, .fn g []], [(0, .arr α en e l k)], 1, 1, List α, fun l' => l'.Perm l ∧ l'.Pairwise fun x y => ¬ cf y x < 0, fun _ => .tup [], fun l' => [(0, .arr α en e l' k)]⟩ := by
  subst hf
  refine ⟨Nat.le_refl _, by simp [SV.bdL, SV.bd], hbB_ok rfl, fun V w hp => ?_⟩
  obtain ⟨hown, hβ⟩ := hp.hr.ok 0 _ rfl
  have hcall := sortFunc_own L aE zE en.len en.one ho (run_callFunc (hc default default).2.2.2.1) (fun x y w => ((hc x y).two w).mono fun ex w' he => by
    obtain ⟨v, rfl, hv, hk⟩ := he
    exact ⟨v, rfl, by rw [hv, SV.den], hk⟩) hown hlen
  have e0 : (SV.denL Γ.Δ V.ρ [SV.sl 0 l.length k, SV.fn g []]).toArray = #[.slice (V.ρ 0) l.length k, .func (.func g) #[] #[]] := by simp [SV.denL, SV.den]
  refine ⟨_, .inl ⟨hen, by rw [e0]; exact hcall⟩, fun v w' hr => ?_⟩
  obtain ⟨rfl, l', hperm, hpw, hx, hk⟩ := hr
  have hl := hperm.length_eq
  refine ⟨l', V, ⟨hperm, hpw⟩, by simp [SV.den, SV.denL], by simp [SV.bd, SV.bdL], fun _ _ => rfl, ?_⟩
  have := hp.set (c := 0) (ch' := .arr α en e l' k) rfl (hk.mono fun i _ hi => (hβ i).2 hi) ⟨by rw [hl]; exact hx, fun i => by rw [hl]; exact hβ i⟩ trivial
  exact this
theorem Does.condW {Γ : Ctx} {f : FuncId} {S : Zz.Spec} {c' : S.X → Prop} (h : Does Γ f S) (hc : ∀ x, S.cond x → c' x) : Does Γ f { S with cond := c' } := by
  refine ⟨h.1, h.2.1, h.2.2.1, fun V w hw => ?_⟩
  obtain ⟨R, hR, hq⟩ := h.2.2.2 V w hw
  exact ⟨R, hR, fun v w' hr => by obtain ⟨x, V', h1, h2⟩ := hq v w' hr; exact ⟨x, V', hc x h1, h2⟩⟩
theorem swo_kind : Go.Sort.SWO (ltOf fun x y : V3 => cmpI x.k y.k) := by
  have h : ∀ x y : V3, ltOf (fun x y : V3 => cmpI x.k y.k) x y = decide (x.k < y.k) := fun x y => by
    unfold ltOf cmpI
    by_cases h1 : x.k < y.k
    · simp [h1]
    · by_cases h2 : y.k < x.k <;> simp [h1, h2]
  exact ⟨fun x => by rw [h]; simp, fun x y z h1 h2 => by rw [h] at *; simp at *; omega, fun x y z h1 h2 => by rw [h] at *; simp at *; omega⟩
instance : Inhabited V3 := ⟨v0⟩
theorem sortV_z (E : Nat → Addr) (l : List V3) (n k : Nat) (h : n = l.length ∧ l.length ≤ 1099511627776) : Does (Gm E) 103 ⟨[.sl 0 n k, .fn 104 []], [(0, .arr V3 Zz.encV 34 l k)], 1, 1, List V3, fun l' => l'.Perm l ∧ l'.Pairwise fun x y => x.k ≤ y.k, fun _ => .tup [], fun l' => [(0, .arr V3 Zz.encV 34 l' k)]⟩ := by
  obtain ⟨rfl, h⟩ := h
  have q := sort_swo (Γ := Gm E) (en := Zz.encV) (cf := fun x y : V3 => cmpI x.k y.k) (g := 104) (f := 103) Tryz.sortV (fun w => ((gmOk E).tb 34 _ rfl).isAgg w) (fun w => ((gmOk E).tb 34 _ rfl).size w) swo_kind (fun x y => kind_e E x y) rfl ⟨_, Tryz.func103, rfl, rfl⟩ l k 34 (by omega)
  exact Does.condW q fun l' hl => ⟨hl.1, hl.2.imp fun {x y} hxy => by simp only [cmpI] at hxy; split at hxy <;> (try split at hxy) <;> omega⟩
end Go.Proofs.YtcnbngiplfoomaaGreatDoor
namespace Go.Proofs.YtcnbngiplfoomaaGreatDoor
open Go.Zz Go.Px
set_option linter.unusedVariables false
set_option linter.unusedSectionVars false
set_option linter.unusedSimpArgs false
set_option maxRecDepth 10000
def isK (kk : Int) (v : V3) : Bool := v.k == kk
set_option maxHeartbeats 4000000 in
theorem dropfn_z (E : Nat → Addr) (v : V3) (kk : Int) : Does (Gm E) 118 (Sp0 [.agg [.int .i64 v.k, .int .i64 v.a, .int .i64 v.b], .ptr 0 0] [(0, .cells 3 [.int .i64 kk])] 1 (.bl (isK kk v))) := by
  refine fn_intro (gmOk E) 8 1 [] Tryz.func118 rfl rfl rfl rfl rfl ?_
  repeat' first | (intro h; first | (exfalso; omega; done) | skip) | (refine And.intro ?_ ?_) | exact True.intro | (refine @Exists.intro Unit _ () ?_) | (refine @Exists.intro (_ = _) _ rfl ?_)
  all_goals first | rfl | omega | (simp [isK]; done)
set_option maxHeartbeats 4000000 in
theorem indexV_z (E : Nat → Addr) (l : List V3) (n k : Nat) (kk : Int) (h : n = l.length ∧ l.length ≤ 1099511627776) : Does (Gm E) 149 (Sp0 [.sl 0 n k, .fn 118 [.ptr 1 0]] [(0, .ro V3 Zz.encV l k), (1, .cells 3 [.int .i64 kk])] 2 (.int .i64 (idxP (isK kk) l))) := by
  obtain ⟨rfl, h⟩ := h
  refine fn_intro (gmOk E) 19 2 [] Tryz.func149 rfl rfl rfl rfl rfl ?_
  repeat' first | (intro h; first | (exfalso; omega; done) | skip) | (refine And.intro ?_ ?_) | exact True.intro | (refine @Exists.intro Unit _ () ?_) | (refine @Exists.intro (_ = _) _ rfl ?_) | (change LoopGoal _ _ _ _ _ _; refine loop_at 2 (gmOk E) rfl [] (X := Int) (fun i => [(8, .int .i64 i)]) (fun i => []) [] (fun i => 0 ≤ i ∧ i ≤ (l.length : Nat) ∧ NoneTo (isK kk) l i) (fun i => l.length - i.toNat) ⟨0, ?_⟩ (fun i hI => ?_)) | (change @Exists (Int) (fun _ => updK _ _ _ _ _ _); refine @Exists.intro (Int) _ ((?_)) ?_; rotate_left 1) | (change CallGoal _ _ _ _ _ _; first | (refine call0 (dropfn_z E (l.getD i.toNat v0) kk) [1] rfl (And.intro rfl True.intro) rfl ?_))
  all_goals first
    | (dsimp only; first | rfl | omega)
    | rfl
    | omega
    | exact noneP_start
    | exact noneP_next hI ‹i < _› ‹_ = false›
    | exact (idxP_in hI ‹i < _› ‹_ = true›).symm
    | exact (idxP_in hI ‹i < _› ‹_ = true›)
    | exact (idxP_none hI ‹¬ i < _›).symm
    | exact (idxP_none hI ‹¬ i < _›)
set_option maxHeartbeats 4000000 in
theorem deleteV_z (E : Nat → Addr) (l : List V3) (n k : Nat) (kk : Int) (h : n = l.length ∧ l.length ≤ 1099511627776 ∧ l.length ≤ k) : Does (Gm E) 116 ⟨[.sl 0 n k, .fn 118 [.ptr 1 0]], [(0, .arr V3 Zz.encV 34 l k), (1, .cells 3 [.int .i64 kk])], 2, 2, Unit, fun _ => True, fun _ => .sl 0 (dropP (isK kk) l).length k, fun _ => [(0, .arr V3 Zz.encV 34 (dropP (isK kk) l ++ List.replicate (l.length - (dropP (isK kk) l).length) v0) k), (1, .cells 3 [.int .i64 kk])]⟩ := by
  obtain ⟨rfl, h⟩ := h
  refine fn_intro (gmOk E) 42 2 [] Tryz.func116 rfl rfl rfl rfl rfl ?_
  repeat' first | (intro h; first | (exfalso; omega; done) | skip) | (refine And.intro ?_ ?_) | exact True.intro | (refine @Exists.intro Unit _ () ?_) | (refine @Exists.intro (_ = _) _ rfl ?_) | (change OpGoal _ _ _ _ (.call { callee := .builtin .clear, args := _, argTypes := _ }) _; refine clear_rule (gmOk E) 0 _ _ _ _ _ _ rfl rfl rfl rfl rfl rfl rfl ?_ ?_) | (change LoopGoal _ _ _ _ _ _; refine loop_at 5 (gmOk E) rfl [] (X := (Int × Int × List V3)) (fun x => [(5, .int .i64 x.1), (6, .int .i64 x.2.1)]) (fun x => [(0, .arr V3 Zz.encV 34 x.2.2 k)]) [] (fun x => 0 ≤ x.1 ∧ 0 ≤ x.2.1 ∧ Cut (isK kk) l x.2.2 x.1.toNat x.2.1.toNat) (fun x => (l.length - x.2.1).toNat) ⟨(idxP (isK kk) l, idxP (isK kk) l + 1, l), ?_⟩ (fun x hI => ?_)) | (change @Exists ((Int × Int × List V3)) (fun _ => updK _ _ _ _ _ _); refine @Exists.intro ((Int × Int × List V3)) _ ((?_, ?_, ?_)) ?_; rotate_left 3) | (change CallGoal _ _ _ _ _ _; first | (refine call0 (indexV_z E l _ _ kk ⟨rfl, h.1⟩) [0, 1] rfl (And.intro rfl (And.intro rfl True.intro)) rfl ?_) | (refine call0 (dropfn_z E (x.2.2.getD x.2.1.toNat v0) kk) [1] rfl (And.intro rfl True.intro) rfl ?_))
  all_goals first
    | (dsimp only; first | rfl | omega)
    | rfl
    | omega
    | (have c0 := idxP_le (isK kk) l; (try dsimp only); omega)
    | (have c := hI.2.2; have c1 := c.len; have c2 := c.le; have c3 := c.jl; (try dsimp only); omega)
    | exact cutP_start ‹¬ _ = _›
    | exact cutP_keep hI ‹x.2.1 < _› ‹_›
    | exact cutP_skip hI ‹x.2.1 < _› ‹_›
    | (have c := hI.2.2; exact c.lenEq (by omega))
    | (have c := hI.2.2; have c1 := c.len; rw [← c.lenEq (by omega), c1]; have c2 := c.done (by omega) []; simp only [List.append_nil, List.take_take, Nat.min_self] at c2; rw [c2]; first | done | rfl)
    | (rw [dropP_of_idx ‹idxP _ l = _›]; done)
    | (rw [dropP_of_idx ‹idxP _ l = _›]; simp; done)
theorem deleteV_s (E : Nat → Addr) (l : List V3) (n k : Nat) (kk : Int) (h : n = l.length ∧ l.length ≤ 1099511627776 ∧ l.length ≤ k) : Does (Gm E) 116 ⟨[.sl 0 n k, .fn 118 [.ptr 1 0]], [(0, .arr V3 Zz.encV 34 l k), (1, .cells 3 [.int .i64 kk])], 2, 2, Unit, fun _ => True, fun _ => .sl 0 (dropV l kk).length k, fun _ => [(0, .arr V3 Zz.encV 34 (dropV l kk) k), (1, .cells 3 [.int .i64 kk])]⟩ :=
  Does.post_mono _ (deleteV_z E l n k kk h) fun x En V w _ h => h.shrink (c := 0) rfl
set_option maxHeartbeats 4000000 in
theorem drop_z (E : Nat → Addr) (l : List V3) (n k : Nat) (kk : Int) (h : n = l.length ∧ l.length ≤ 1000000) : Does (Gm E) 74 ⟨[.sl 0 n k, .int .i64 kk], [(0, .ro V3 Zz.encV l k)], 1, 2, Nat, fun q => (dropV l kk).length ≤ q, fun q => .sl 1 (dropV l kk).length q, fun q => [(1, .arr V3 Zz.encV 34 (dropV l kk) q)]⟩ := by
  obtain ⟨rfl, h⟩ := h
  refine fn_intro (gmOk E) 9 1 [] Tryz.func74 rfl rfl rfl rfl rfl ?_
  repeat' first | (intro h; first | (exfalso; omega; done) | skip) | (refine And.intro ?_ ?_) | exact True.intro | (refine @Exists.intro Unit _ () ?_) | (refine @Exists.intro (_ = _) _ rfl ?_) | (refine @Exists.intro (Nat) _ ?_ ?_; rotate_left) | (change CallGoal _ _ _ _ _ _; first | (refine call_rule (scloneV E l _ _ ⟨rfl, by omega⟩) [0] rfl (And.intro rfl True.intro) rfl (fun (q : Nat) (hq : l.length ≤ q) => ?_)) | (refine call_rule (deleteV_s E _ _ _ kk ?_) [2, 1] rfl (And.intro rfl (And.intro rfl True.intro)) rfl (fun y2 hy2 => ?_)))
  all_goals first | rfl | omega | exact ⟨rfl, by omega, hq⟩ | (have := dropV_len l kk; omega) | (exact Nat.le_trans (dropV_len l kk) hq)
theorem put_sort {l l2 : List V3} {v : V3} (hr : rightV l = true) (hv : vcheck v = 0) (h : l2.Perm (putL l v) ∧ l2.Pairwise fun x y => x.k ≤ y.k) : l2 = putR l v :=
  sorted_eq h.1 h.2 (putL_bad (rightV_parts hr).1 hv) (putL_nd (rightV_parts hr).2)
theorem putR_len {l : List V3} {v : V3} (hr : rightV l = true) (hv : vcheck v = 0) : (putR l v).length = (dropV l v.k).length + 1 := by
  have := (byKinds_all (putL_bad (rightV_parts hr).1 hv)).length_eq
  unfold putR; rw [this]; unfold Go.Px.putL; rw [List.length_append]; rfl
set_option maxHeartbeats 4000000 in
theorem put_z (E : Nat → Addr) (l : List V3) (n k : Nat) (v : V3) (h : n = l.length ∧ l.length ≤ 1000 ∧ rightV l = true ∧ vcheck v = 0) : Does (Gm E) 64 ⟨[.sl 0 n k, .agg [.int .i64 v.k, .int .i64 v.a, .int .i64 v.b]], [(0, .ro V3 Zz.encV l k)], 1, 2, Nat, fun q => (putR l v).length ≤ q, fun q => .sl 1 (putR l v).length q, fun q => [(1, .arr V3 Zz.encV 34 (putR l v) q)]⟩ := by
  obtain ⟨rfl, hl, hr, hv⟩ := h; have hd := dropV_len l v.k
  refine fn_intro (gmOk E) 16 1 [] Tryz.func64 rfl rfl rfl rfl rfl ?_
  repeat' first | (change CallGoal _ _ _ _ _ _; first | (change CallGoal _ 103 _ _ _ _; first | (rename_i kc; refine callG.cast 4 (.arr V3 Zz.encV 34 (putL l v) kc) rfl (by rw [List.take_length]; rfl) ?_; change CallGoal _ _ _ _ _ _; refine call_rule (sortV_z E (putL l v) _ kc ⟨by unfold Go.Px.putL; rw [List.length_append]; rfl, by unfold Go.Px.putL; rw [List.length_append]; simp only [List.length_singleton]; omega⟩) [4] rfl (And.intro rfl True.intro) rfl (fun (l2 : List V3) (hl2 : l2.Perm (putL l v) ∧ l2.Pairwise fun x y => x.k ≤ y.k) => ?_)))) | (intro h; first | (exfalso; omega; done) | skip) | (refine And.intro ?_ ?_) | exact True.intro | (refine @Exists.intro Unit _ () ?_) | (refine @Exists.intro (_ = _) _ rfl ?_) | (change DrawGoal _ _ _ _ _ _; first | (change DrawGoal _ _ _ ({ dst := some 6, op := _, type := _, pos := _, after := _, guard := _ } :: _) _ _; refine draw_tree (gmOk E) [0, 1] (.alt [(0, true), (1, true), (2, true), (4, true)] (.leaf [(3, false), (5, false), (6, false), (7, true)]) (.leaf [(5, false), (3, false), (6, false), (7, true)])) (by kernel_rfl) ?_)) | (refine @Exists.intro (Nat) _ ?_ ?_; rotate_left) | (change CallGoal _ _ _ _ _ _; first | (refine call_rule (drop_z E l _ k v.k ⟨rfl, by omega⟩) [0] rfl (And.intro rfl True.intro) rfl (fun (q : Nat) hq => ?_)))
  all_goals first | rfl | omega | exact Nat.le_refl 1 | (change _ * 24 ≤ _; omega) | exact put_sort hr hv hl2 | exact (putR_len hr hv).symm | (show _ ≤ _; rw [putR_len hr hv]; assumption) | exact congrArg List.length (put_sort hr hv hl2) | exact congrArg (fun q => Ch.arr _ _ _ q _) (put_sort hr hv hl2)
end Go.Proofs.YtcnbngiplfoomaaGreatDoor
namespace Go.Proofs.YtcnbngiplfoomaaGreatDoor
open Go.Zz Go.Px
set_option linter.unusedVariables false
set_option linter.unusedSectionVars false
set_option linter.unusedSimpArgs false
set_option maxRecDepth 10000
structure EdOk (D : EL) : Prop where
  h : ∀ y ∈ D, y.2 = stepI y.1.1 y.1.2
theorem ed_known {D : EL} (hD : EdOk D) {e : Int × Int} (h : hasK D e = true) : (getK D e).getD 0 = stepI e.1 e.2 := by
  obtain ⟨v, hv⟩ := khas.1 h
  rw [hv]; exact hD.h _ (kmem_of hv)
theorem EdOk.put {D : EL} (hD : EdOk D) (e : Int × Int) : EdOk (Go.Px.putK D e (stepI e.1 e.2)) := ⟨fun y hy => by
  rcases kmem_putA.1 hy with rfl | ⟨h, _⟩
  · rfl
  · exact hD.h y h⟩
theorem stepI_has {f : Nat} {k : Int} (h : hasM f k = true) : stepI (f : Int) k = ((lessN f (maskI [k]) : Nat) : Int) := by
  unfold stepI; rw [Int.toNat_natCast, if_pos h, maskI_one]
theorem stepI_not {f : Nat} {k : Int} (h : hasM f k = false) : stepI (f : Int) k = ((f ||| maskI [k] : Nat) : Int) := by
  unfold stepI; rw [Int.toNat_natCast, if_neg (by rw [h]; simp), maskI_one]
set_option maxHeartbeats 4000000 in
theorem sStep (E : Nat → Addr) (D : EL) (f : Nat) (k : Int) (h : EdOk D ∧ f < 1024 ∧ 0 ≤ k ∧ k ≤ 9) : Does (Gm E) 102 ⟨[.ptr 0 0, .int .u64 ((f : Nat) : Int), .int .i64 k], [(0, .cells 108 [.mp 1, .mp 2, .mp 3]), (3, .pr (mapPr (Enc.ag (Zz.encP encU Zz.encI)) veU D))], 5, 5, EL, EdOk, fun _ => .tup [.int .u64 (stepI (f : Int) k), .nili], fun D => [(0, .cells 108 [.mp 1, .mp 2, .mp 3]), (3, .pr (mapPr (Enc.ag (Zz.encP encU Zz.encI)) veU D))]⟩ := by
  obtain ⟨hD, hf, hk⟩ := h
  refine fn_intro (gmOk E) 52 5 [] Tryz.func102 rfl rfl rfl rfl rfl ?_
  repeat' first | (change CallGoal _ _ _ _ _ _; first | (change CallGoal _ 41 _ _ _ _; first | (refine call_args [.int .u64 ((f : Nat) : Int), .sl 6 1 1] (fun _ => bdLB_ok _ rfl) (fun En V w hp => rfl) ?_; change CallGoal _ _ _ _ _ _; refine call0 (mwith_z E f [k] 1 1 ⟨rfl, one_kind hk, by simp, by omega⟩) [6] rfl (And.intro rfl True.intro) rfl ?_)) | (change CallGoal _ 140 _ _ _ _; first | (refine call_args [.int .u64 ((f : Nat) : Int), .sl 6 1 1] (fun _ => bdLB_ok _ rfl) (fun En V w hp => rfl) ?_; change CallGoal _ _ _ _ _ _; refine call0 (mwout_z E f [k] 1 1 ⟨rfl, one_kind hk, by simp, by omega⟩) [6] rfl (And.intro rfl True.intro) rfl ?_))) | (intro h; first | (exfalso; omega; done) | skip) | (refine And.intro ?_ ?_) | exact True.intro | (refine @Exists.intro Unit _ () ?_) | (refine @Exists.intro (_ = _) _ rfl ?_) | (change OpGoal _ _ _ _ (.lookup 106 _ _ true) _; refine lookup_rule2 mapE 3 D (((f : Nat) : Int), k) rfl rfl rfl ?_) | (change RdGoal _ _ _ _ _; refine bound_rule rfl ?_) | (change OpGoal _ _ _ _ (.mapUpdate 106 _ _ _) _; refine mapset_ruleS mapE 3 D (((f : Nat) : Int), k) (stepI (f : Int) k) rfl rfl (fun En V w hp => by rw [stepI_has (by assumption)]; rfl) rfl ?_) | (change OpGoal _ _ _ _ (.mapUpdate 106 _ _ _) _; refine mapset_ruleS mapE 3 D (((f : Nat) : Int), k) (stepI (f : Int) k) rfl rfl (fun En V w hp => by rw [stepI_not (by assumption)]; rfl) rfl ?_) | (change DrawGoal _ _ _ _ _ _; first | (change DrawGoal _ _ _ ({ dst := some 18, op := _, type := _, pos := _, after := _, guard := _ } :: _) _ _; refine draw_tree (gmOk E) [0, 5] (.leaf [(0, true), (1, true), (2, true), (3, true), (4, true), (5, false), (6, true), (7, true), (8, true), (9, true), (10, true)]) (by kernel_rfl) ?_) | (change DrawGoal _ _ _ ({ dst := some 44, op := _, type := _, pos := _, after := _, guard := _ } :: _) _ _; refine draw_tree (gmOk E) [0, 5] (.leaf [(0, true), (1, true), (2, true), (3, true), (4, true), (5, true), (6, false)]) (by kernel_rfl) ?_)) | (refine @Exists.intro (EL) _ ?_ ?_; rotate_left) | (change CallGoal _ _ _ _ _ _; first | (refine call0 (mhas_z E f k (by omega)) [] rfl True.intro rfl ?_))
  all_goals first | rfl | omega | exact hD | exact hD.put _ | exact (ed_known hD (by assumption)).symm | exact (ed_known hD (by assumption)) | exact (stepI_has (by assumption)).symm | exact (stepI_not (by assumption)).symm | exact stepI_has (by assumption) | exact stepI_not (by assumption)
end Go.Proofs.YtcnbngiplfoomaaGreatDoor
namespace Go.Proofs.YtcnbngiplfoomaaGreatDoor
open Go.Zz Go.Px
set_option linter.unusedVariables false
set_option linter.unusedSectionVars false
set_option linter.unusedSimpArgs false
set_option maxRecDepth 10000
section
variable {E : Nat → Addr} {Q : List (PRow Int)} {T : TL} {P : PL} {R : List Ey} {m i k : Int} {h hd : Hd} {es es' : List Ey} {p : Int → Nat} {x : XT} {r r' row : Rw} {v : V3} {g : Nat} {D : EL}
theorem AtS.mlt (a : AtS R x hd r m i es) : m.toNat < 1024 := by rw [a.mN]; exact mk_lt a.right
theorem XOk.edge (hx : XOk R x) (hD : EdOk D) : XOk R (x.1, x.2.1, D, x.2.2.2) := ⟨hx.inv, hD.h, hx.len⟩
theorem XOk.eds (hx : XOk R x) : EdOk x.2.2.1 := ⟨hx.ed⟩
theorem delR_no : hasK (delR R h) h = false := by
  rw [← Bool.not_eq_true, hasK_iff]
  intro q
  obtain ⟨y, hy, e⟩ := List.mem_map.1 q
  have := (List.mem_filter.1 hy).2
  simp [e] at this
theorem delR_lt (hm : (h, r) ∈ R) : (delR R h).length < R.length := List.length_filter_lt_length_iff_exists.2 ⟨(h, r), hm, by simp⟩
theorem AtS.room (hx : XOk R x) (a : AtS R x hd r m i es) : (delR R hd).length < 128 := Nat.lt_of_lt_of_le (delR_lt a.mem) hx.len
end
set_option maxHeartbeats 4000000 in
theorem addfn_z (E : Nat → Addr) (r : Rw) (n k : Nat) (v : V3) (h : n = r.length ∧ r.length ≤ 1000 ∧ rightV r = true ∧ vcheck v = 0) : Does (Gm E) 63 ⟨[.sl 0 n k, .ptr 1 0], [(0, .ro V3 Zz.encV r k), (1, .cells 34 [.int .i64 v.k, .int .i64 v.a, .int .i64 v.b])], 2, 3, Nat, fun q => (putR r v).length ≤ q, fun q => .sl 2 (putR r v).length q, fun q => [(1, .cells 34 [.int .i64 v.k, .int .i64 v.a, .int .i64 v.b]), (2, .arr V3 Zz.encV 34 (putR r v) q)]⟩ := by
  refine fn_intro (gmOk E) 7 2 [] Tryz.func63 rfl rfl rfl rfl rfl ?_
  repeat' first | (intro h; first | (exfalso; omega; done) | skip) | (refine And.intro ?_ ?_) | exact True.intro | (refine @Exists.intro Unit _ () ?_) | (refine @Exists.intro (_ = _) _ rfl ?_) | (refine @Exists.intro (Nat) _ ?_ ?_; rotate_left) | (change CallGoal _ _ _ _ _ _; first | (refine call_rule (put_z E r n k v h) [0] rfl (And.intro rfl True.intro) rfl (fun (q : Nat) hq => ?_)))
  all_goals first | rfl | omega | exact hq
set_option maxHeartbeats 4000000 in
theorem remfn_z (E : Nat → Addr) (r : Rw) (n k : Nat) (kk : Int) (h : n = r.length ∧ r.length ≤ 1000000) : Does (Gm E) 73 ⟨[.sl 0 n k, .ptr 1 0], [(0, .ro V3 Zz.encV r k), (1, .cells 3 [.int .i64 kk])], 2, 3, Nat, fun q => (dropV r kk).length ≤ q, fun q => .sl 2 (dropV r kk).length q, fun q => [(1, .cells 3 [.int .i64 kk]), (2, .arr V3 Zz.encV 34 (dropV r kk) q)]⟩ := by
  refine fn_intro (gmOk E) 7 2 [] Tryz.func73 rfl rfl rfl rfl rfl ?_
  repeat' first | (intro h; first | (exfalso; omega; done) | skip) | (refine And.intro ?_ ?_) | exact True.intro | (refine @Exists.intro Unit _ () ?_) | (refine @Exists.intro (_ = _) _ rfl ?_) | (refine @Exists.intro (Nat) _ ?_ ?_; rotate_left) | (change CallGoal _ _ _ _ _ _; first | (refine call_rule (drop_z E r n k kk h) [0] rfl (And.intro rfl True.intro) rfl (fun (q : Nat) hq => ?_)))
  all_goals first | rfl | omega | exact hq
set_option maxHeartbeats 4000000 in
theorem sChFullA (E : Nat → Addr) (Q : List (PRow Int)) (R : List Ey) (hd : Hd) (x : XT) (r : Rw) (m i : Int) (es : List Ey) (v : V3) (h : XOk R x ∧ getK R hd = some r ∧ AtS R x hd r m i es ∧ (0 ≤ v.k ∧ v.k ≤ 9) ∧ anyM R (stepI ((m.toNat : Nat) : Int) v.k) = false ∧ ¬ ((masksR R).length : Int) - (if es.length = 1 then 1 else 0 : Int) < 32) : Does (Gm E) 62 ⟨[.ptr 0 0, .agg [.int .i64 hd.1, .int .i64 hd.2], .agg [.raw (pV (some (x.2.2.2 m))), .int .i64 i], .int .i64 v.k, .fn 63 [.ptr 5 0]], [(0, .cells 108 [.mp 1, .mp 2, .mp 3]), (1, .pr (mapPr veU veP (ptrL (x.1.map (fun y : Int × List Ey => y.1)) x.2.2.2))), (2, .pr (mapPr (Enc.ag (Zz.encP Zz.encI Zz.encI)) vePl (placL x.2.1 x.2.2.2))), (3, .pr (mapPr (Enc.ag (Zz.encP encU Zz.encI)) veU x.2.2.1)), (4, .pr (restPr (tabP E Q) (tabL x.1) x.2.2.2)), (5, .cells 34 [.int .i64 v.k, .int .i64 v.a, .int .i64 v.b]), (6, .pr (poolPr Zz.encI 3 Q)), (7, .fo (tzF 10))], 8, 8, Unit, fun _ => True, fun _ => .err 2, fun _ => [(0, .pr (storePr E Q R)), (5, .cells 34 [.int .i64 v.k, .int .i64 v.a, .int .i64 v.b]), (6, .pr (poolPr Zz.encI 3 Q))]⟩ := by
  obtain ⟨hx, hR, ha, hk, hrm⟩ := h; have hML := masksR_le R
  refine fn_intro (gmOk E) 56 8 [5, 7] Tryz.func62 rfl rfl rfl rfl rfl ?_
  repeat' first | (change CallGoal _ _ _ _ _ _; first | (change CallGoal _ 60 _ _ _ _; first | (refine callG.restOut 4 (tabL x.1) x.2.2.2 m (m.toNat, es) rfl (tabL_get ha.tb) ?_; change CallGoal _ _ _ _ _ _; refine call_args [.ptr 10 0] (fun _ => bdLB_ok _ rfl) (fun En V w hp => by have q := rest_ptr (r := 4) (m := 10) rfl hp; simp only [SV.den, SV.denL] at q ⊢; rw [q]) ?_; change CallGoal _ _ _ _ _ _; refine call_rule (tMask E Q m.toNat es) [10] rfl (And.intro rfl True.intro) rfl (fun y hy => ?_))) | (change CallGoal _ 55 _ _ _ _; first | (refine call_rule (sRoomY E Q R (stepI ((m.toNat : Nat) : Int) v.k) 1 ⟨hm, by decide, by decide⟩) [0] rfl (And.intro rfl True.intro) rfl (fun y5 hy5 => ?_)) | (refine call_rule (sRoomY E Q R (stepI ((m.toNat : Nat) : Int) v.k) 0 ⟨hm, by decide, by decide⟩) [0] rfl (And.intro rfl True.intro) rfl (fun y5 hy5 => ?_)) | (refine call_rule (sRoomN E Q R (stepI ((m.toNat : Nat) : Int) v.k) 1 ⟨hm, by decide, by decide⟩) [0] rfl (And.intro rfl True.intro) rfl (fun y5 hy5 => ?_)) | (refine call_rule (sRoomN E Q R (stepI ((m.toNat : Nat) : Int) v.k) 0 ⟨hm, by decide, by decide⟩) [0] rfl (And.intro rfl True.intro) rfl (fun y5 hy5 => ?_)) | ((fail_if_success (have _ := hm)); rcases Bool.eq_false_or_eq_true (anyM R (stepI ((m.toNat : Nat) : Int) v.k)) with hm | hm <;> first | (exfalso; rw [hrm.1] at hm; cases hm; done) | skip))) | (change JoinGoal _ _ _ _ _ _ _ _; refine join_stop (gmOk E) ?_) | (change HereGoal _ _ _ _ _ _ _; refine hereG.cells_ 9 [.ptr 10 0, .int .i64 i] rfl rfl (fun En V w hp => by have q := rest_ptr (r := 4) (m := 10) rfl hp; simp only [SV.den, SV.denL] at q ⊢; rw [q]) ?_; change HereGoal _ _ _ _ _ _ _; refine hereG.ex 10 rfl (fun t ht => ?_); change HereGoal _ _ _ _ _ _ _; refine hereG.open_ 10 rfl 4 rfl rfl ?_; change HereGoal _ _ _ _ _ _ _; refine here_go (gmOk E) ?_) | (change HereGoal _ _ _ _ _ _ _; refine hereG.shut (Γ0 := Gm E) rfl (.cells 133 [.ptr 1 0, .int .u64 ((m.toNat : Nat) : Int), .raw (.slice t.2.2.2.1 (kindsN m.toNat).length t.2.2.2.2), .mp 2]) [(1, .pr (colH E (es.map (fun e : Ey => e.1)))), (2, .pr (mapPr veI veP (ptrL t.2.1 t.1))), (3, .pr (restPr (colV E) (colsL m.toNat es) t.1))] [10, 13, 14, 15] (And.intro rfl (And.intro rfl (And.intro rfl (And.intro rfl True.intro)))) rfl ?_; change HereGoal _ _ _ _ _ _ _; refine hereG.hide (X := PT) (p := TOk Q m.toNat es) (Φ := fun x => grp (Gm E) (tblH E m.toNat es x)) 10 t ht rfl ?_; change HereGoal _ _ _ _ _ _ _; refine hereG.restIn 4 10 (m.toNat, es) rfl rfl rfl (tabP_placed _) ha.has ?_; change HereGoal _ _ _ _ _ _ _; refine hereG.cast 4 (.pr (restPr (tabP E Q) (tabL x.1) x.2.2.2)) rfl (by rw [ha.same hx]) ?_; change HereGoal _ _ _ _ _ _ _; refine hereG.shut (Γ0 := Gm E) rfl (.cells 108 [.mp 1, .mp 2, .mp 3]) [(1, .pr (mapPr veU veP (ptrL ((((x.1, x.2.1, D, x.2.2.2) : XT)).1.map (fun y : Int × List Ey => y.1)) (((x.1, x.2.1, D, x.2.2.2) : XT)).2.2.2))), (2, .pr (mapPr (Enc.ag (Zz.encP Zz.encI Zz.encI)) vePl (placL (((x.1, x.2.1, D, x.2.2.2) : XT)).2.1 (((x.1, x.2.1, D, x.2.2.2) : XT)).2.2.2))), (3, .pr (mapPr (Enc.ag (Zz.encP encU Zz.encI)) veU (((x.1, x.2.1, D, x.2.2.2) : XT)).2.2.1)), (4, .pr (restPr (tabP E Q) (tabL (((x.1, x.2.1, D, x.2.2.2) : XT)).1) (((x.1, x.2.1, D, x.2.2.2) : XT)).2.2.2))] [0, 1, 2, 3, 4] (And.intro rfl (And.intro rfl (And.intro rfl (And.intro rfl (And.intro rfl True.intro))))) rfl ?_; change HereGoal _ _ _ _ _ _ _; refine hereG.hide (X := XT) (p := XOk R) (Φ := fun x => grp (Gm E) (stoH E Q x)) 0 (((x.1, x.2.1, D, x.2.2.2) : XT)) (hx.edge hD) rfl ?_; change HereGoal _ _ _ _ _ _ _; refine here_go (gmOk E) ?_) | (intro h; first | (exfalso; omega; done) | (exfalso; first | exact h trivial | omega | (rw [hrm.1] at hm; cases hm; done) | (have q := hrm.2; split at q <;> omega); done) | skip) | (refine And.intro ?_ ?_) | exact True.intro | (refine @Exists.intro Unit _ () ?_) | (refine @Exists.intro (_ = _) _ rfl ?_) | (change DrawGoal _ _ _ _ _ _; first | (change DrawGoal _ _ _ ({ dst := some 39, op := _, type := _, pos := _, after := _, guard := _ } :: _) _ _; refine draw_tree (gmOk E) [] (.leaf [(0, true), (1, true)]) (by kernel_rfl) ?_) | (change DrawGoal _ _ _ ({ dst := some 49, op := _, type := _, pos := _, after := _, guard := _ } :: _) _ _; refine draw_tree (gmOk E) [8, 18] (.leaf [(0, true), (1, true), (2, true), (3, true), (4, true), (5, false), (6, false), (7, true)]) (by kernel_rfl) ?_)) | (change CallGoal _ _ _ _ _ _; first | (refine call_rule (sStep E x.2.2.1 m.toNat v.k ⟨hx.eds, ha.mlt, hk⟩) [0, 1, 2, 3, 4] rfl (And.intro rfl (And.intro rfl True.intro)) rfl (fun (D : EL) (hD : EdOk D) => ?_)) | (refine call_rule (hlen (E := E) (es := es)) [13] rfl (And.intro rfl True.intro) rfl (fun y2 hy2 => ?_)))
  all_goals first | rfl | omega | assumption
set_option maxHeartbeats 4000000 in
theorem sChangeA (E : Nat → Addr) (Q : List (PRow Int)) (R : List Ey) (hd : Hd) (x : XT) (r : Rw) (m i : Int) (es : List Ey) (v : V3) (h : XOk R x ∧ getK R hd = some r ∧ AtS R x hd r m i es ∧ (0 ≤ v.k ∧ v.k ≤ 9) ∧ (anyM R (stepI ((m.toNat : Nat) : Int) v.k) = true ∨ ((masksR R).length : Int) - (if es.length = 1 then 1 else 0 : Int) < 32) ∧ vcheck v = 0) : Does (Gm E) 62 ⟨[.ptr 0 0, .agg [.int .i64 hd.1, .int .i64 hd.2], .agg [.raw (pV (some (x.2.2.2 m))), .int .i64 i], .int .i64 v.k, .fn 63 [.ptr 5 0]], [(0, .cells 108 [.mp 1, .mp 2, .mp 3]), (1, .pr (mapPr veU veP (ptrL (x.1.map (fun y : Int × List Ey => y.1)) x.2.2.2))), (2, .pr (mapPr (Enc.ag (Zz.encP Zz.encI Zz.encI)) vePl (placL x.2.1 x.2.2.2))), (3, .pr (mapPr (Enc.ag (Zz.encP encU Zz.encI)) veU x.2.2.1)), (4, .pr (restPr (tabP E Q) (tabL x.1) x.2.2.2)), (5, .cells 34 [.int .i64 v.k, .int .i64 v.a, .int .i64 v.b]), (6, .pr (poolPr Zz.encI 3 Q)), (7, .fo (tzF 10))], 8, 8, (List (PRow Int)), fun _ => True, fun _ => .nili, fun S => [(0, .pr (storePr E (Q ++ S) (insR (delR R hd) (hd, (putR r v))))), (5, .cells 34 [.int .i64 v.k, .int .i64 v.a, .int .i64 v.b]), (6, .pr (poolPr Zz.encI 3 (Q ++ S)))]⟩ := by
  obtain ⟨hx, hR, ha, hk, hrm, hv⟩ := h; have hML := masksR_le R
  refine fn_intro (gmOk E) 56 8 [5, 7] Tryz.func62 rfl rfl rfl rfl rfl ?_
  repeat' first | (change CallGoal _ _ _ _ _ _; first | (change CallGoal _ 60 _ _ _ _; first | (refine callG.restOut 4 (tabL x.1) x.2.2.2 m (m.toNat, es) rfl (tabL_get ha.tb) ?_; change CallGoal _ _ _ _ _ _; refine call_args [.ptr 10 0] (fun _ => bdLB_ok _ rfl) (fun En V w hp => by have q := rest_ptr (r := 4) (m := 10) rfl hp; simp only [SV.den, SV.denL] at q ⊢; rw [q]) ?_; change CallGoal _ _ _ _ _ _; refine call_rule (tMask E Q m.toNat es) [10] rfl (And.intro rfl True.intro) rfl (fun y hy => ?_))) | (change CallGoal _ 55 _ _ _ _; first | (refine call_rule (sRoomY E Q R (stepI ((m.toNat : Nat) : Int) v.k) 1 ⟨hm, by decide, by decide⟩) [0] rfl (And.intro rfl True.intro) rfl (fun y5 hy5 => ?_)) | (refine call_rule (sRoomY E Q R (stepI ((m.toNat : Nat) : Int) v.k) 0 ⟨hm, by decide, by decide⟩) [0] rfl (And.intro rfl True.intro) rfl (fun y5 hy5 => ?_)) | (refine call_rule (sRoomN E Q R (stepI ((m.toNat : Nat) : Int) v.k) 1 ⟨hm, by decide, by decide⟩) [0] rfl (And.intro rfl True.intro) rfl (fun y5 hy5 => ?_)) | (refine call_rule (sRoomN E Q R (stepI ((m.toNat : Nat) : Int) v.k) 0 ⟨hm, by decide, by decide⟩) [0] rfl (And.intro rfl True.intro) rfl (fun y5 hy5 => ?_)) | ((fail_if_success (have _ := hm)); rcases Bool.eq_false_or_eq_true (anyM R (stepI ((m.toNat : Nat) : Int) v.k)) with hm | hm <;> first | (exfalso; rw [hrm.1] at hm; cases hm; done) | skip))) | (change JoinGoal _ _ _ _ _ _ _ _; refine join_stop (gmOk E) ?_) | (change HereGoal _ _ _ _ _ _ _; refine hereG.cells_ 9 [.ptr 10 0, .int .i64 i] rfl rfl (fun En V w hp => by have q := rest_ptr (r := 4) (m := 10) rfl hp; simp only [SV.den, SV.denL] at q ⊢; rw [q]) ?_; change HereGoal _ _ _ _ _ _ _; refine hereG.ex 10 rfl (fun t ht => ?_); change HereGoal _ _ _ _ _ _ _; refine hereG.open_ 10 rfl 4 rfl rfl ?_; change HereGoal _ _ _ _ _ _ _; refine here_go (gmOk E) ?_) | (change HereGoal _ _ _ _ _ _ _; refine hereG.shut (Γ0 := Gm E) rfl (.cells 133 [.ptr 1 0, .int .u64 ((m.toNat : Nat) : Int), .raw (.slice t.2.2.2.1 (kindsN m.toNat).length t.2.2.2.2), .mp 2]) [(1, .pr (colH E (es.map (fun e : Ey => e.1)))), (2, .pr (mapPr veI veP (ptrL t.2.1 t.1))), (3, .pr (restPr (colV E) (colsL m.toNat es) t.1))] [10, 13, 14, 15] (And.intro rfl (And.intro rfl (And.intro rfl (And.intro rfl True.intro)))) rfl ?_; change HereGoal _ _ _ _ _ _ _; refine hereG.hide (X := PT) (p := TOk Q m.toNat es) (Φ := fun x => grp (Gm E) (tblH E m.toNat es x)) 10 t ht rfl ?_; change HereGoal _ _ _ _ _ _ _; refine hereG.restIn 4 10 (m.toNat, es) rfl rfl rfl (tabP_placed _) ha.has ?_; change HereGoal _ _ _ _ _ _ _; refine hereG.cast 4 (.pr (restPr (tabP E Q) (tabL x.1) x.2.2.2)) rfl (by rw [ha.same hx]) ?_; change HereGoal _ _ _ _ _ _ _; refine hereG.shut (Γ0 := Gm E) rfl (.cells 108 [.mp 1, .mp 2, .mp 3]) [(1, .pr (mapPr veU veP (ptrL ((((x.1, x.2.1, D, x.2.2.2) : XT)).1.map (fun y : Int × List Ey => y.1)) (((x.1, x.2.1, D, x.2.2.2) : XT)).2.2.2))), (2, .pr (mapPr (Enc.ag (Zz.encP Zz.encI Zz.encI)) vePl (placL (((x.1, x.2.1, D, x.2.2.2) : XT)).2.1 (((x.1, x.2.1, D, x.2.2.2) : XT)).2.2.2))), (3, .pr (mapPr (Enc.ag (Zz.encP encU Zz.encI)) veU (((x.1, x.2.1, D, x.2.2.2) : XT)).2.2.1)), (4, .pr (restPr (tabP E Q) (tabL (((x.1, x.2.1, D, x.2.2.2) : XT)).1) (((x.1, x.2.1, D, x.2.2.2) : XT)).2.2.2))] [0, 1, 2, 3, 4] (And.intro rfl (And.intro rfl (And.intro rfl (And.intro rfl (And.intro rfl True.intro))))) rfl ?_; change HereGoal _ _ _ _ _ _ _; refine hereG.hide (X := XT) (p := XOk R) (Φ := fun x => grp (Gm E) (stoH E Q x)) 0 (((x.1, x.2.1, D, x.2.2.2) : XT)) (hx.edge hD) rfl ?_; change HereGoal _ _ _ _ _ _ _; refine here_go (gmOk E) ?_) | (intro h; first | (exfalso; omega; done) | (exfalso; first | exact h trivial | (rcases hrm with q | q <;> first | (rw [hm] at q; cases q; done) | (split at q <;> omega)); done) | skip) | (refine And.intro ?_ ?_) | exact True.intro | (refine @Exists.intro Unit _ () ?_) | (refine @Exists.intro (_ = _) _ rfl ?_) | (change DrawGoal _ _ _ _ _ _; first | (change DrawGoal _ _ _ ({ dst := some 39, op := _, type := _, pos := _, after := _, guard := _ } :: _) _ _; refine draw_tree (gmOk E) [] (.leaf [(0, true), (1, true)]) (by kernel_rfl) ?_) | (change DrawGoal _ _ _ ({ dst := some 49, op := _, type := _, pos := _, after := _, guard := _ } :: _) _ _; refine draw_tree (gmOk E) [8, 18] (.leaf [(0, true), (1, true), (2, true), (3, true), (4, true), (5, false), (6, false), (7, true)]) (by kernel_rfl) ?_)) | (refine @Exists.intro (List (PRow Int)) _ ?_ ?_; rotate_left) | (change CallGoal _ _ _ _ _ _; first | (refine call_rule (sStep E x.2.2.1 m.toNat v.k ⟨hx.eds, ha.mlt, hk⟩) [0, 1, 2, 3, 4] rfl (And.intro rfl (And.intro rfl True.intro)) rfl (fun (D : EL) (hD : EdOk D) => ?_)) | (refine call_rule (hlen (E := E) (es := es)) [13] rfl (And.intro rfl True.intro) rfl (fun y2 hy2 => ?_)) | (refine call_rule (sTake E Q R hd r hR) [0, 6] rfl (And.intro rfl (And.intro lends_pool True.intro)) rfl (fun (q : Nat) hq => ?_)) | (refine call_rule (addfn_z E r _ _ v ⟨rfl, by have := row_len ha.right; omega, ha.right, hv⟩) [17, 5] rfl (And.intro rfl (And.intro rfl True.intro)) rfl (fun (q2 : Nat) hq2 => ?_)) | (refine call_rule (sIns E Q (delR R hd) hd (putR r v) _ _ ⟨rfl, (put_right ha.right hv), delR_no, ha.room hx⟩) [0, 6, 19, 7] rfl (And.intro rfl (And.intro rfl (And.intro rfl (And.intro rfl True.intro)))) rfl (fun (S : List (PRow Int)) hS => ?_)))
  all_goals first | rfl | omega | assumption
set_option maxHeartbeats 4000000 in
theorem sChFullR (E : Nat → Addr) (Q : List (PRow Int)) (R : List Ey) (hd : Hd) (x : XT) (r : Rw) (m i : Int) (es : List Ey) (kk : Int) (h : XOk R x ∧ getK R hd = some r ∧ AtS R x hd r m i es ∧ (0 ≤ kk ∧ kk ≤ 9) ∧ anyM R (stepI ((m.toNat : Nat) : Int) kk) = false ∧ ¬ ((masksR R).length : Int) - (if es.length = 1 then 1 else 0 : Int) < 32) : Does (Gm E) 62 ⟨[.ptr 0 0, .agg [.int .i64 hd.1, .int .i64 hd.2], .agg [.raw (pV (some (x.2.2.2 m))), .int .i64 i], .int .i64 kk, .fn 73 [.ptr 5 0]], [(0, .cells 108 [.mp 1, .mp 2, .mp 3]), (1, .pr (mapPr veU veP (ptrL (x.1.map (fun y : Int × List Ey => y.1)) x.2.2.2))), (2, .pr (mapPr (Enc.ag (Zz.encP Zz.encI Zz.encI)) vePl (placL x.2.1 x.2.2.2))), (3, .pr (mapPr (Enc.ag (Zz.encP encU Zz.encI)) veU x.2.2.1)), (4, .pr (restPr (tabP E Q) (tabL x.1) x.2.2.2)), (5, .cells 3 [.int .i64 kk]), (6, .pr (poolPr Zz.encI 3 Q)), (7, .fo (tzF 10))], 8, 8, Unit, fun _ => True, fun _ => .err 2, fun _ => [(0, .pr (storePr E Q R)), (5, .cells 3 [.int .i64 kk]), (6, .pr (poolPr Zz.encI 3 Q))]⟩ := by
  obtain ⟨hx, hR, ha, hk, hrm⟩ := h; have hML := masksR_le R
  refine fn_intro (gmOk E) 56 8 [5, 7] Tryz.func62 rfl rfl rfl rfl rfl ?_
  repeat' first | (change CallGoal _ _ _ _ _ _; first | (change CallGoal _ 60 _ _ _ _; first | (refine callG.restOut 4 (tabL x.1) x.2.2.2 m (m.toNat, es) rfl (tabL_get ha.tb) ?_; change CallGoal _ _ _ _ _ _; refine call_args [.ptr 10 0] (fun _ => bdLB_ok _ rfl) (fun En V w hp => by have q := rest_ptr (r := 4) (m := 10) rfl hp; simp only [SV.den, SV.denL] at q ⊢; rw [q]) ?_; change CallGoal _ _ _ _ _ _; refine call_rule (tMask E Q m.toNat es) [10] rfl (And.intro rfl True.intro) rfl (fun y hy => ?_))) | (change CallGoal _ 55 _ _ _ _; first | (refine call_rule (sRoomY E Q R (stepI ((m.toNat : Nat) : Int) kk) 1 ⟨hm, by decide, by decide⟩) [0] rfl (And.intro rfl True.intro) rfl (fun y5 hy5 => ?_)) | (refine call_rule (sRoomY E Q R (stepI ((m.toNat : Nat) : Int) kk) 0 ⟨hm, by decide, by decide⟩) [0] rfl (And.intro rfl True.intro) rfl (fun y5 hy5 => ?_)) | (refine call_rule (sRoomN E Q R (stepI ((m.toNat : Nat) : Int) kk) 1 ⟨hm, by decide, by decide⟩) [0] rfl (And.intro rfl True.intro) rfl (fun y5 hy5 => ?_)) | (refine call_rule (sRoomN E Q R (stepI ((m.toNat : Nat) : Int) kk) 0 ⟨hm, by decide, by decide⟩) [0] rfl (And.intro rfl True.intro) rfl (fun y5 hy5 => ?_)) | ((fail_if_success (have _ := hm)); rcases Bool.eq_false_or_eq_true (anyM R (stepI ((m.toNat : Nat) : Int) kk)) with hm | hm <;> first | (exfalso; rw [hrm.1] at hm; cases hm; done) | skip))) | (change JoinGoal _ _ _ _ _ _ _ _; refine join_stop (gmOk E) ?_) | (change HereGoal _ _ _ _ _ _ _; refine hereG.cells_ 9 [.ptr 10 0, .int .i64 i] rfl rfl (fun En V w hp => by have q := rest_ptr (r := 4) (m := 10) rfl hp; simp only [SV.den, SV.denL] at q ⊢; rw [q]) ?_; change HereGoal _ _ _ _ _ _ _; refine hereG.ex 10 rfl (fun t ht => ?_); change HereGoal _ _ _ _ _ _ _; refine hereG.open_ 10 rfl 4 rfl rfl ?_; change HereGoal _ _ _ _ _ _ _; refine here_go (gmOk E) ?_) | (change HereGoal _ _ _ _ _ _ _; refine hereG.shut (Γ0 := Gm E) rfl (.cells 133 [.ptr 1 0, .int .u64 ((m.toNat : Nat) : Int), .raw (.slice t.2.2.2.1 (kindsN m.toNat).length t.2.2.2.2), .mp 2]) [(1, .pr (colH E (es.map (fun e : Ey => e.1)))), (2, .pr (mapPr veI veP (ptrL t.2.1 t.1))), (3, .pr (restPr (colV E) (colsL m.toNat es) t.1))] [10, 13, 14, 15] (And.intro rfl (And.intro rfl (And.intro rfl (And.intro rfl True.intro)))) rfl ?_; change HereGoal _ _ _ _ _ _ _; refine hereG.hide (X := PT) (p := TOk Q m.toNat es) (Φ := fun x => grp (Gm E) (tblH E m.toNat es x)) 10 t ht rfl ?_; change HereGoal _ _ _ _ _ _ _; refine hereG.restIn 4 10 (m.toNat, es) rfl rfl rfl (tabP_placed _) ha.has ?_; change HereGoal _ _ _ _ _ _ _; refine hereG.cast 4 (.pr (restPr (tabP E Q) (tabL x.1) x.2.2.2)) rfl (by rw [ha.same hx]) ?_; change HereGoal _ _ _ _ _ _ _; refine hereG.shut (Γ0 := Gm E) rfl (.cells 108 [.mp 1, .mp 2, .mp 3]) [(1, .pr (mapPr veU veP (ptrL ((((x.1, x.2.1, D, x.2.2.2) : XT)).1.map (fun y : Int × List Ey => y.1)) (((x.1, x.2.1, D, x.2.2.2) : XT)).2.2.2))), (2, .pr (mapPr (Enc.ag (Zz.encP Zz.encI Zz.encI)) vePl (placL (((x.1, x.2.1, D, x.2.2.2) : XT)).2.1 (((x.1, x.2.1, D, x.2.2.2) : XT)).2.2.2))), (3, .pr (mapPr (Enc.ag (Zz.encP encU Zz.encI)) veU (((x.1, x.2.1, D, x.2.2.2) : XT)).2.2.1)), (4, .pr (restPr (tabP E Q) (tabL (((x.1, x.2.1, D, x.2.2.2) : XT)).1) (((x.1, x.2.1, D, x.2.2.2) : XT)).2.2.2))] [0, 1, 2, 3, 4] (And.intro rfl (And.intro rfl (And.intro rfl (And.intro rfl (And.intro rfl True.intro))))) rfl ?_; change HereGoal _ _ _ _ _ _ _; refine hereG.hide (X := XT) (p := XOk R) (Φ := fun x => grp (Gm E) (stoH E Q x)) 0 (((x.1, x.2.1, D, x.2.2.2) : XT)) (hx.edge hD) rfl ?_; change HereGoal _ _ _ _ _ _ _; refine here_go (gmOk E) ?_) | (intro h; first | (exfalso; omega; done) | (exfalso; first | exact h trivial | omega | (rw [hrm.1] at hm; cases hm; done) | (have q := hrm.2; split at q <;> omega); done) | skip) | (refine And.intro ?_ ?_) | exact True.intro | (refine @Exists.intro Unit _ () ?_) | (refine @Exists.intro (_ = _) _ rfl ?_) | (change DrawGoal _ _ _ _ _ _; first | (change DrawGoal _ _ _ ({ dst := some 39, op := _, type := _, pos := _, after := _, guard := _ } :: _) _ _; refine draw_tree (gmOk E) [] (.leaf [(0, true), (1, true)]) (by kernel_rfl) ?_) | (change DrawGoal _ _ _ ({ dst := some 49, op := _, type := _, pos := _, after := _, guard := _ } :: _) _ _; refine draw_tree (gmOk E) [8, 18] (.leaf [(0, true), (1, true), (2, true), (3, true), (4, true), (5, false), (6, false), (7, true)]) (by kernel_rfl) ?_)) | (change CallGoal _ _ _ _ _ _; first | (refine call_rule (sStep E x.2.2.1 m.toNat kk ⟨hx.eds, ha.mlt, hk⟩) [0, 1, 2, 3, 4] rfl (And.intro rfl (And.intro rfl True.intro)) rfl (fun (D : EL) (hD : EdOk D) => ?_)) | (refine call_rule (hlen (E := E) (es := es)) [13] rfl (And.intro rfl True.intro) rfl (fun y2 hy2 => ?_)))
  all_goals first | rfl | omega | assumption
set_option maxHeartbeats 4000000 in
theorem sChangeR (E : Nat → Addr) (Q : List (PRow Int)) (R : List Ey) (hd : Hd) (x : XT) (r : Rw) (m i : Int) (es : List Ey) (kk : Int) (h : XOk R x ∧ getK R hd = some r ∧ AtS R x hd r m i es ∧ (0 ≤ kk ∧ kk ≤ 9) ∧ (anyM R (stepI ((m.toNat : Nat) : Int) kk) = true ∨ ((masksR R).length : Int) - (if es.length = 1 then 1 else 0 : Int) < 32) ∧ rightV (dropV r kk) = true) : Does (Gm E) 62 ⟨[.ptr 0 0, .agg [.int .i64 hd.1, .int .i64 hd.2], .agg [.raw (pV (some (x.2.2.2 m))), .int .i64 i], .int .i64 kk, .fn 73 [.ptr 5 0]], [(0, .cells 108 [.mp 1, .mp 2, .mp 3]), (1, .pr (mapPr veU veP (ptrL (x.1.map (fun y : Int × List Ey => y.1)) x.2.2.2))), (2, .pr (mapPr (Enc.ag (Zz.encP Zz.encI Zz.encI)) vePl (placL x.2.1 x.2.2.2))), (3, .pr (mapPr (Enc.ag (Zz.encP encU Zz.encI)) veU x.2.2.1)), (4, .pr (restPr (tabP E Q) (tabL x.1) x.2.2.2)), (5, .cells 3 [.int .i64 kk]), (6, .pr (poolPr Zz.encI 3 Q)), (7, .fo (tzF 10))], 8, 8, (List (PRow Int)), fun _ => True, fun _ => .nili, fun S => [(0, .pr (storePr E (Q ++ S) (insR (delR R hd) (hd, (dropV r kk))))), (5, .cells 3 [.int .i64 kk]), (6, .pr (poolPr Zz.encI 3 (Q ++ S)))]⟩ := by
  obtain ⟨hx, hR, ha, hk, hrm, hv⟩ := h; have hML := masksR_le R
  refine fn_intro (gmOk E) 56 8 [5, 7] Tryz.func62 rfl rfl rfl rfl rfl ?_
  repeat' first | (change CallGoal _ _ _ _ _ _; first | (change CallGoal _ 60 _ _ _ _; first | (refine callG.restOut 4 (tabL x.1) x.2.2.2 m (m.toNat, es) rfl (tabL_get ha.tb) ?_; change CallGoal _ _ _ _ _ _; refine call_args [.ptr 10 0] (fun _ => bdLB_ok _ rfl) (fun En V w hp => by have q := rest_ptr (r := 4) (m := 10) rfl hp; simp only [SV.den, SV.denL] at q ⊢; rw [q]) ?_; change CallGoal _ _ _ _ _ _; refine call_rule (tMask E Q m.toNat es) [10] rfl (And.intro rfl True.intro) rfl (fun y hy => ?_))) | (change CallGoal _ 55 _ _ _ _; first | (refine call_rule (sRoomY E Q R (stepI ((m.toNat : Nat) : Int) kk) 1 ⟨hm, by decide, by decide⟩) [0] rfl (And.intro rfl True.intro) rfl (fun y5 hy5 => ?_)) | (refine call_rule (sRoomY E Q R (stepI ((m.toNat : Nat) : Int) kk) 0 ⟨hm, by decide, by decide⟩) [0] rfl (And.intro rfl True.intro) rfl (fun y5 hy5 => ?_)) | (refine call_rule (sRoomN E Q R (stepI ((m.toNat : Nat) : Int) kk) 1 ⟨hm, by decide, by decide⟩) [0] rfl (And.intro rfl True.intro) rfl (fun y5 hy5 => ?_)) | (refine call_rule (sRoomN E Q R (stepI ((m.toNat : Nat) : Int) kk) 0 ⟨hm, by decide, by decide⟩) [0] rfl (And.intro rfl True.intro) rfl (fun y5 hy5 => ?_)) | ((fail_if_success (have _ := hm)); rcases Bool.eq_false_or_eq_true (anyM R (stepI ((m.toNat : Nat) : Int) kk)) with hm | hm <;> first | (exfalso; rw [hrm.1] at hm; cases hm; done) | skip))) | (change JoinGoal _ _ _ _ _ _ _ _; refine join_stop (gmOk E) ?_) | (change HereGoal _ _ _ _ _ _ _; refine hereG.cells_ 9 [.ptr 10 0, .int .i64 i] rfl rfl (fun En V w hp => by have q := rest_ptr (r := 4) (m := 10) rfl hp; simp only [SV.den, SV.denL] at q ⊢; rw [q]) ?_; change HereGoal _ _ _ _ _ _ _; refine hereG.ex 10 rfl (fun t ht => ?_); change HereGoal _ _ _ _ _ _ _; refine hereG.open_ 10 rfl 4 rfl rfl ?_; change HereGoal _ _ _ _ _ _ _; refine here_go (gmOk E) ?_) | (change HereGoal _ _ _ _ _ _ _; refine hereG.shut (Γ0 := Gm E) rfl (.cells 133 [.ptr 1 0, .int .u64 ((m.toNat : Nat) : Int), .raw (.slice t.2.2.2.1 (kindsN m.toNat).length t.2.2.2.2), .mp 2]) [(1, .pr (colH E (es.map (fun e : Ey => e.1)))), (2, .pr (mapPr veI veP (ptrL t.2.1 t.1))), (3, .pr (restPr (colV E) (colsL m.toNat es) t.1))] [10, 13, 14, 15] (And.intro rfl (And.intro rfl (And.intro rfl (And.intro rfl True.intro)))) rfl ?_; change HereGoal _ _ _ _ _ _ _; refine hereG.hide (X := PT) (p := TOk Q m.toNat es) (Φ := fun x => grp (Gm E) (tblH E m.toNat es x)) 10 t ht rfl ?_; change HereGoal _ _ _ _ _ _ _; refine hereG.restIn 4 10 (m.toNat, es) rfl rfl rfl (tabP_placed _) ha.has ?_; change HereGoal _ _ _ _ _ _ _; refine hereG.cast 4 (.pr (restPr (tabP E Q) (tabL x.1) x.2.2.2)) rfl (by rw [ha.same hx]) ?_; change HereGoal _ _ _ _ _ _ _; refine hereG.shut (Γ0 := Gm E) rfl (.cells 108 [.mp 1, .mp 2, .mp 3]) [(1, .pr (mapPr veU veP (ptrL ((((x.1, x.2.1, D, x.2.2.2) : XT)).1.map (fun y : Int × List Ey => y.1)) (((x.1, x.2.1, D, x.2.2.2) : XT)).2.2.2))), (2, .pr (mapPr (Enc.ag (Zz.encP Zz.encI Zz.encI)) vePl (placL (((x.1, x.2.1, D, x.2.2.2) : XT)).2.1 (((x.1, x.2.1, D, x.2.2.2) : XT)).2.2.2))), (3, .pr (mapPr (Enc.ag (Zz.encP encU Zz.encI)) veU (((x.1, x.2.1, D, x.2.2.2) : XT)).2.2.1)), (4, .pr (restPr (tabP E Q) (tabL (((x.1, x.2.1, D, x.2.2.2) : XT)).1) (((x.1, x.2.1, D, x.2.2.2) : XT)).2.2.2))] [0, 1, 2, 3, 4] (And.intro rfl (And.intro rfl (And.intro rfl (And.intro rfl (And.intro rfl True.intro))))) rfl ?_; change HereGoal _ _ _ _ _ _ _; refine hereG.hide (X := XT) (p := XOk R) (Φ := fun x => grp (Gm E) (stoH E Q x)) 0 (((x.1, x.2.1, D, x.2.2.2) : XT)) (hx.edge hD) rfl ?_; change HereGoal _ _ _ _ _ _ _; refine here_go (gmOk E) ?_) | (intro h; first | (exfalso; omega; done) | (exfalso; first | exact h trivial | (rcases hrm with q | q <;> first | (rw [hm] at q; cases q; done) | (split at q <;> omega)); done) | skip) | (refine And.intro ?_ ?_) | exact True.intro | (refine @Exists.intro Unit _ () ?_) | (refine @Exists.intro (_ = _) _ rfl ?_) | (change DrawGoal _ _ _ _ _ _; first | (change DrawGoal _ _ _ ({ dst := some 39, op := _, type := _, pos := _, after := _, guard := _ } :: _) _ _; refine draw_tree (gmOk E) [] (.leaf [(0, true), (1, true)]) (by kernel_rfl) ?_) | (change DrawGoal _ _ _ ({ dst := some 49, op := _, type := _, pos := _, after := _, guard := _ } :: _) _ _; refine draw_tree (gmOk E) [8, 18] (.leaf [(0, true), (1, true), (2, true), (3, true), (4, true), (5, false), (6, false), (7, true)]) (by kernel_rfl) ?_)) | (refine @Exists.intro (List (PRow Int)) _ ?_ ?_; rotate_left) | (change CallGoal _ _ _ _ _ _; first | (refine call_rule (sStep E x.2.2.1 m.toNat kk ⟨hx.eds, ha.mlt, hk⟩) [0, 1, 2, 3, 4] rfl (And.intro rfl (And.intro rfl True.intro)) rfl (fun (D : EL) (hD : EdOk D) => ?_)) | (refine call_rule (hlen (E := E) (es := es)) [13] rfl (And.intro rfl True.intro) rfl (fun y2 hy2 => ?_)) | (refine call_rule (sTake E Q R hd r hR) [0, 6] rfl (And.intro rfl (And.intro lends_pool True.intro)) rfl (fun (q : Nat) hq => ?_)) | (refine call_rule (remfn_z E r _ _ kk ⟨rfl, by have := row_len ha.right; omega⟩) [17, 5] rfl (And.intro rfl (And.intro rfl True.intro)) rfl (fun (q2 : Nat) hq2 => ?_)) | (refine call_rule (sIns E Q (delR R hd) hd (dropV r kk) _ _ ⟨rfl, hv, delR_no, ha.room hx⟩) [0, 6, 19, 7] rfl (And.intro rfl (And.intro rfl (And.intro rfl (And.intro rfl True.intro)))) rfl (fun (S : List (PRow Int)) hS => ?_)))
  all_goals first | rfl | omega | assumption
end Go.Proofs.YtcnbngiplfoomaaGreatDoor
namespace Go.Proofs.YtcnbngiplfoomaaGreatDoor
open Go.Zz Go.Px
set_option linter.unusedVariables false
set_option linter.unusedSectionVars false
set_option linter.unusedSimpArgs false
set_option maxRecDepth 10000
section
variable {R : List Ey} {m i k : Int} {hd : Hd} {es : List Ey} {x : XT} {r : Rw}
def cntM (R : List Ey) (m : Int) : Nat := (R.filter fun e => decide (mkI e.2 = m)).length
def RoomR (R : List Ey) (r : Rw) (t : Int) : Prop := anyM R t = true ∨ ((masksR R).length : Int) - (if cntM R (mkI r) = 1 then 1 else 0 : Int) < 32
theorem AtS.cnt (hx : XOk R x) (a : AtS R x hd r m i es) : es.length = cntM R (mkI r) := by
  have h1 := kmem_of a.tb
  have hnd : es.Nodup := List.pairwise_iff_getElem.2 fun i j hi hj hij e => by
    have q1 : es[(i : Int).toNat]? = some (es[j].1, es[j].2) := by simp [List.getElem?_eq_getElem hi, e]
    have q2 : es[(j : Int).toNat]? = some (es[j].1, es[j].2) := by simp [List.getElem?_eq_getElem hj]
    have := (hx.inv.one h1 (Int.natCast_nonneg i) q1 h1 (Int.natCast_nonneg j) q2).2.1
    omega
  have hR : R.Nodup := List.Pairwise.imp (fun h e => h (by rw [e])) (List.pairwise_map.1 hx.inv.rnd)
  refine nodup_lens hnd (hR.filter _) fun e => ?_
  rw [List.mem_filter, decide_eq_true_eq, a.mki]
  constructor
  · exact fun q => ⟨(hx.inv.mem e).2 ⟨m, es, h1, q⟩, hx.inv.mask _ _ h1 e q⟩
  · rintro ⟨q1, q2⟩
    obtain ⟨m', es', q3, q4⟩ := (hx.inv.mem e).1 q1
    have := hx.inv.mask _ _ q3 e q4
    have e1 : m' = m := this.symm.trans q2
    subst e1
    have := (kget hx.inv.tnd).2 q3
    rw [a.tb] at this
    rw [Option.some.inj this]; exact q4
theorem AtS.roomY (hx : XOk R x) (a : AtS R x hd r m i es) (h : RoomR R r (stepI (mkI r) k)) : anyM R (stepI ((m.toNat : Nat) : Int) k) = true ∨ ((masksR R).length : Int) - (if es.length = 1 then 1 else 0 : Int) < 32 := by
  rw [a.mZ, a.cnt hx, ← a.mki]; exact h
theorem AtS.roomN (hx : XOk R x) (a : AtS R x hd r m i es) (h : ¬ RoomR R r (stepI (mkI r) k)) : anyM R (stepI ((m.toNat : Nat) : Int) k) = false ∧ ¬ ((masksR R).length : Int) - (if es.length = 1 then 1 else 0 : Int) < 32 := by
  rw [a.mZ, a.cnt hx, ← a.mki]
  exact ⟨by rw [← Bool.not_eq_true]; exact fun q => h (.inl q), fun q => h (.inr q)⟩
theorem AtS.hasM_iff (a : AtS R x hd r m i es) (hk : 0 ≤ k ∧ k ≤ 9) : hasM m.toNat k = hasV r k := by
  rw [Bool.eq_iff_iff, ← kin_has a.right, kindsN_mem, a.mN]
  unfold hasM
  rw [Bool.and_eq_true, show okK k = true from decide_eq_true hk]
  simp [hk]
theorem hasV_kind (hr : rightV r = true) (h : hasV r k = true) : 0 ≤ k ∧ k ≤ 9 := (kindsN_mem.1 ((kin_has hr).2 h)).1
theorem check_in {v : V3} (h : vcheck v = 0) : 0 ≤ v.k ∧ v.k ≤ 9 := (check_parts.1.1 h).1
theorem AtS.hasM_no (a : AtS R x hd r m i es) (hk : ¬ (0 ≤ k ∧ k ≤ 9)) : hasM m.toNat k = false := by
  unfold hasM; rw [show okK k = false from decide_eq_false hk]; rfl
theorem AtS.m64 (a : AtS R x hd r m i es) : m.toNat < 2 ^ 64 := Nat.lt_of_lt_of_le a.mlt (by decide)
end
set_option maxHeartbeats 4000000 in
theorem sAddFull (E : Nat → Addr) (Q : List (PRow Int)) (R : List Ey) (hd : Hd) (r : Rw) (v : V3) (h : getK R hd = some r ∧ vcheck v = 0 ∧ hasV r v.k = false ∧ ¬ RoomR R r (stepI (mkI r) v.k)) : Does (Gm E) 17 ⟨[.ptr 0 0, .agg [.int .i64 hd.1, .int .i64 hd.2], .agg [.int .i64 v.k, .int .i64 v.a, .int .i64 v.b]], [(0, .pr (storePr E Q R)), (1, .pr (poolPr Zz.encI 3 Q)), (2, .fo (tzF 10))], 3, 3, Unit, fun _ => True, fun _ => .err 2, fun _ => [(0, .pr (storePr E Q R)), (1, .pr (poolPr Zz.encI 3 Q))]⟩ := by
  obtain ⟨hR, hv, hh, hrm⟩ := h
  refine DoesC.does (fn_start Tryz.func17 rfl rfl rfl ?_)
  change EntryGoal _ _ _ _ _
  refine entryG.ex 0 rfl (fun x hx => ?_)
  change EntryGoal _ _ _ _ _
  (obtain ⟨m, i, es, ha⟩ := hx.at_ hR; have hk : 0 ≤ v.k ∧ v.k ≤ 9 := check_in hv; have hM : hasM m.toNat v.k = false := (by rw [ha.hasM_iff hk]; exact hh); change EntryGoal _ _ _ _ _; refine entryG.open_ 0 rfl 5 rfl rfl ?_)
  change EntryGoal _ _ _ _ _
  refine entry_go (gmOk E) 38 3 [9] Tryz.func17 rfl rfl rfl rfl ?_
  repeat' first | (change CallGoal _ _ _ _ _ _; first | (change CallGoal _ 60 _ _ _ _; first | (refine call_args [.ptr 11 0] (fun _ => bdLB_ok _ rfl) (fun En V w hp => by have q := rest_ptr (r := 7) (m := 11) rfl hp; simp only [SV.den, SV.denL] at q ⊢; rw [q]) ?_; change CallGoal _ _ _ _ _ _; refine call_rule (tMask E Q m.toNat es) [11] rfl (And.intro rfl True.intro) rfl (fun y hy => ?_))) | (change CallGoal _ 62 _ _ _ _; first | (refine call_rule (sChFullA E Q R hd x r m i es v ⟨hx, hR, ha, hk, ha.roomN hx hrm⟩) [0, 4, 5, 6, 7, 9, 1, 2] rfl (And.intro rfl (And.intro rfl (And.intro rfl (And.intro rfl (And.intro rfl (And.intro rfl (And.intro rfl (And.intro rfl True.intro)))))))) rfl (fun y6 hy6 => ?_)))) | (change JoinGoal _ _ _ _ _ _ _ _; refine join_stop (gmOk E) ?_) | (change HereGoal _ _ _ _ _ _ _; refine hereG.restIn 7 11 (m.toNat, es) rfl rfl rfl (tabP_placed _) ha.has ?_; change HereGoal _ _ _ _ _ _ _; refine hereG.cast 7 (.pr (restPr (tabP E Q) (tabL x.1) x.2.2.2)) rfl (by rw [ha.same hx]) ?_; change HereGoal _ _ _ _ _ _ _; refine here_go (gmOk E) ?_) | (change DrawGoal _ _ _ ({ dst := some 24, op := _, type := _, pos := _, after := _, guard := _ } :: _) _ _; refine drawG.restOut 7 (tabL x.1) x.2.2.2 m (m.toNat, es) rfl (tabL_get ha.tb) ?_; change DrawGoal _ _ _ _ _ _; refine draw_tree (gmOk E) [10, 9] (.leaf [(0, true), (1, true), (3, true), (4, true), (2, false), (5, false)]) (by kernel_rfl) ?_) | (change RetGoal _ _ _ _ _; first | (refine retG'.restIn 7 11 (m.toNat, es) rfl rfl rfl (tabP_placed _) ha.has ?_; change RetGoal _ _ _ _ _; refine retG'.cast 7 (.pr (restPr (tabP E Q) (tabL x.1) x.2.2.2)) rfl (by rw [ha.same hx]) ?_; change RetGoal _ _ _ _ _; (refine retG'.shut (Γ0 := Gm E) rfl (.cells 108 [.mp 1, .mp 2, .mp 3]) [(1, .pr (mapPr veU veP (ptrL ((x).1.map (fun y : Int × List Ey => y.1)) (x).2.2.2))), (2, .pr (mapPr (Enc.ag (Zz.encP Zz.encI Zz.encI)) vePl (placL (x).2.1 (x).2.2.2))), (3, .pr (mapPr (Enc.ag (Zz.encP encU Zz.encI)) veU (x).2.2.1)), (4, .pr (restPr (tabP E Q) (tabL (x).1) (x).2.2.2))] [0, 4, 5, 6, 7] (And.intro rfl (And.intro rfl (And.intro rfl (And.intro rfl (And.intro rfl True.intro))))) rfl ?_; change RetGoal _ _ _ _ _; refine retG'.hide (X := XT) (p := XOk R) (Φ := fun x => grp (Gm E) (stoH E Q x)) 0 (x) (hx) rfl ?_; change RetGoal _ _ _ _ _; refine ret_done rfl ?_)) | (refine retG'.shut (Γ0 := Gm E) rfl (.cells 108 [.mp 1, .mp 2, .mp 3]) [(1, .pr (mapPr veU veP (ptrL ((x).1.map (fun y : Int × List Ey => y.1)) (x).2.2.2))), (2, .pr (mapPr (Enc.ag (Zz.encP Zz.encI Zz.encI)) vePl (placL (x).2.1 (x).2.2.2))), (3, .pr (mapPr (Enc.ag (Zz.encP encU Zz.encI)) veU (x).2.2.1)), (4, .pr (restPr (tabP E Q) (tabL (x).1) (x).2.2.2))] [0, 4, 5, 6, 7] (And.intro rfl (And.intro rfl (And.intro rfl (And.intro rfl (And.intro rfl True.intro))))) rfl ?_; change RetGoal _ _ _ _ _; refine retG'.hide (X := XT) (p := XOk R) (Φ := fun x => grp (Gm E) (stoH E Q x)) 0 (x) (hx) rfl ?_; change RetGoal _ _ _ _ _; refine ret_done rfl ?_) | (refine ret_done rfl ?_)) | (intro h; first | (exfalso; omega; done) | (exfalso; first | exact h trivial | (rw [hM] at h; cases h; done) | (rw [hM] at h; exact h rfl); done) | skip) | (refine And.intro ?_ ?_) | exact True.intro | (refine @Exists.intro Unit _ () ?_) | (refine @Exists.intro (_ = _) _ rfl ?_) | (change CallGoal _ _ _ _ _ _; first | (refine call_rule (sFindY E x.2.1 x.2.2.2 hd m i ha.pl) [0, 4, 5, 6, 7] rfl (And.intro rfl (And.intro rfl True.intro)) rfl (fun y1 hy1 => ?_))) | (change CallGoal _ _ _ _ _ _; first | (refine call0 (check_ok E v hv) [] rfl True.intro rfl ?_) | (refine call0 (mhas_z E m.toNat v.k ha.m64) [] rfl True.intro rfl ?_))
  all_goals first | rfl | omega | assumption
set_option maxHeartbeats 4000000 in
theorem sAddY (E : Nat → Addr) (Q : List (PRow Int)) (R : List Ey) (hd : Hd) (r : Rw) (v : V3) (h : getK R hd = some r ∧ vcheck v = 0 ∧ hasV r v.k = false ∧ RoomR R r (stepI (mkI r) v.k)) : Does (Gm E) 17 ⟨[.ptr 0 0, .agg [.int .i64 hd.1, .int .i64 hd.2], .agg [.int .i64 v.k, .int .i64 v.a, .int .i64 v.b]], [(0, .pr (storePr E Q R)), (1, .pr (poolPr Zz.encI 3 Q)), (2, .fo (tzF 10))], 3, 3, (List (PRow Int)), fun _ => True, fun _ => .nili, fun S => [(0, .pr (storePr E (Q ++ S) (insR (delR R hd) (hd, (putR r v))))), (1, .pr (poolPr Zz.encI 3 (Q ++ S)))]⟩ := by
  obtain ⟨hR, hv, hh, hrm⟩ := h
  refine DoesC.does (fn_start Tryz.func17 rfl rfl rfl ?_)
  change EntryGoal _ _ _ _ _
  refine entryG.ex 0 rfl (fun x hx => ?_)
  change EntryGoal _ _ _ _ _
  (obtain ⟨m, i, es, ha⟩ := hx.at_ hR; have hk : 0 ≤ v.k ∧ v.k ≤ 9 := check_in hv; have hM : hasM m.toNat v.k = false := (by rw [ha.hasM_iff hk]; exact hh); change EntryGoal _ _ _ _ _; refine entryG.open_ 0 rfl 5 rfl rfl ?_)
  change EntryGoal _ _ _ _ _
  refine entry_go (gmOk E) 38 3 [9] Tryz.func17 rfl rfl rfl rfl ?_
  repeat' first | (change CallGoal _ _ _ _ _ _; first | (change CallGoal _ 60 _ _ _ _; first | (refine call_args [.ptr 11 0] (fun _ => bdLB_ok _ rfl) (fun En V w hp => by have q := rest_ptr (r := 7) (m := 11) rfl hp; simp only [SV.den, SV.denL] at q ⊢; rw [q]) ?_; change CallGoal _ _ _ _ _ _; refine call_rule (tMask E Q m.toNat es) [11] rfl (And.intro rfl True.intro) rfl (fun y hy => ?_))) | (change CallGoal _ 62 _ _ _ _; first | (refine call_rule (sChangeA E Q R hd x r m i es v ⟨hx, hR, ha, hk, ha.roomY hx hrm, hv⟩) [0, 4, 5, 6, 7, 9, 1, 2] rfl (And.intro rfl (And.intro rfl (And.intro rfl (And.intro rfl (And.intro rfl (And.intro rfl (And.intro rfl (And.intro rfl True.intro)))))))) rfl (fun (S : List (PRow Int)) hS => ?_)))) | (change JoinGoal _ _ _ _ _ _ _ _; refine join_stop (gmOk E) ?_) | (change HereGoal _ _ _ _ _ _ _; refine hereG.restIn 7 11 (m.toNat, es) rfl rfl rfl (tabP_placed _) ha.has ?_; change HereGoal _ _ _ _ _ _ _; refine hereG.cast 7 (.pr (restPr (tabP E Q) (tabL x.1) x.2.2.2)) rfl (by rw [ha.same hx]) ?_; change HereGoal _ _ _ _ _ _ _; refine here_go (gmOk E) ?_) | (change DrawGoal _ _ _ ({ dst := some 24, op := _, type := _, pos := _, after := _, guard := _ } :: _) _ _; refine drawG.restOut 7 (tabL x.1) x.2.2.2 m (m.toNat, es) rfl (tabL_get ha.tb) ?_; change DrawGoal _ _ _ _ _ _; refine draw_tree (gmOk E) [10, 9] (.leaf [(0, true), (1, true), (3, true), (4, true), (2, false), (5, false)]) (by kernel_rfl) ?_) | (change RetGoal _ _ _ _ _; first | (refine retG'.restIn 7 11 (m.toNat, es) rfl rfl rfl (tabP_placed _) ha.has ?_; change RetGoal _ _ _ _ _; refine retG'.cast 7 (.pr (restPr (tabP E Q) (tabL x.1) x.2.2.2)) rfl (by rw [ha.same hx]) ?_; change RetGoal _ _ _ _ _; (refine retG'.shut (Γ0 := Gm E) rfl (.cells 108 [.mp 1, .mp 2, .mp 3]) [(1, .pr (mapPr veU veP (ptrL ((x).1.map (fun y : Int × List Ey => y.1)) (x).2.2.2))), (2, .pr (mapPr (Enc.ag (Zz.encP Zz.encI Zz.encI)) vePl (placL (x).2.1 (x).2.2.2))), (3, .pr (mapPr (Enc.ag (Zz.encP encU Zz.encI)) veU (x).2.2.1)), (4, .pr (restPr (tabP E Q) (tabL (x).1) (x).2.2.2))] [0, 4, 5, 6, 7] (And.intro rfl (And.intro rfl (And.intro rfl (And.intro rfl (And.intro rfl True.intro))))) rfl ?_; change RetGoal _ _ _ _ _; refine retG'.hide (X := XT) (p := XOk R) (Φ := fun x => grp (Gm E) (stoH E Q x)) 0 (x) (hx) rfl ?_; change RetGoal _ _ _ _ _; refine ret_done rfl ?_)) | (refine retG'.shut (Γ0 := Gm E) rfl (.cells 108 [.mp 1, .mp 2, .mp 3]) [(1, .pr (mapPr veU veP (ptrL ((x).1.map (fun y : Int × List Ey => y.1)) (x).2.2.2))), (2, .pr (mapPr (Enc.ag (Zz.encP Zz.encI Zz.encI)) vePl (placL (x).2.1 (x).2.2.2))), (3, .pr (mapPr (Enc.ag (Zz.encP encU Zz.encI)) veU (x).2.2.1)), (4, .pr (restPr (tabP E Q) (tabL (x).1) (x).2.2.2))] [0, 4, 5, 6, 7] (And.intro rfl (And.intro rfl (And.intro rfl (And.intro rfl (And.intro rfl True.intro))))) rfl ?_; change RetGoal _ _ _ _ _; refine retG'.hide (X := XT) (p := XOk R) (Φ := fun x => grp (Gm E) (stoH E Q x)) 0 (x) (hx) rfl ?_; change RetGoal _ _ _ _ _; refine ret_done rfl ?_) | (refine ret_done rfl ?_)) | (intro h; first | (exfalso; omega; done) | (exfalso; first | exact h trivial | (rw [hM] at h; cases h; done) | (rw [hM] at h; exact h rfl); done) | skip) | (refine And.intro ?_ ?_) | exact True.intro | (refine @Exists.intro Unit _ () ?_) | (refine @Exists.intro (_ = _) _ rfl ?_) | (refine @Exists.intro (List (PRow Int)) _ ?_ ?_; rotate_left) | (change CallGoal _ _ _ _ _ _; first | (refine call_rule (sFindY E x.2.1 x.2.2.2 hd m i ha.pl) [0, 4, 5, 6, 7] rfl (And.intro rfl (And.intro rfl True.intro)) rfl (fun y1 hy1 => ?_))) | (change CallGoal _ _ _ _ _ _; first | (refine call0 (check_ok E v hv) [] rfl True.intro rfl ?_) | (refine call0 (mhas_z E m.toNat v.k ha.m64) [] rfl True.intro rfl ?_))
  all_goals first | rfl | omega | assumption
theorem gone_right2 {l : List V3} (hr : rightV l = true) (kk : Int) : rightV (dropV l kk) = true := right_of (firstBad_of fun u hu => firstBad_all (rightV_parts hr).1 u (mem_dropV.1 hu).1) ((right_strict hr).filter _)
set_option maxHeartbeats 4000000 in
theorem sRemFull (E : Nat → Addr) (Q : List (PRow Int)) (R : List Ey) (hd : Hd) (r : Rw) (kk : Int) (h : getK R hd = some r ∧ hasV r kk = true ∧ ¬ RoomR R r (stepI (mkI r) kk)) : Does (Gm E) 26 ⟨[.ptr 0 0, .agg [.int .i64 hd.1, .int .i64 hd.2], .int .i64 kk], [(0, .pr (storePr E Q R)), (1, .pr (poolPr Zz.encI 3 Q)), (2, .fo (tzF 10))], 3, 3, Unit, fun _ => True, fun _ => .err 2, fun _ => [(0, .pr (storePr E Q R)), (1, .pr (poolPr Zz.encI 3 Q))]⟩ := by
  obtain ⟨hR, hh, hrm⟩ := h
  refine DoesC.does (fn_start Tryz.func26 rfl rfl rfl ?_)
  change EntryGoal _ _ _ _ _
  refine entryG.ex 0 rfl (fun x hx => ?_)
  change EntryGoal _ _ _ _ _
  (obtain ⟨m, i, es, ha⟩ := hx.at_ hR; have hk : 0 ≤ kk ∧ kk ≤ 9 := hasV_kind ha.right hh; have hM : hasM m.toNat kk = true := (by rw [ha.hasM_iff hk]; exact hh); change EntryGoal _ _ _ _ _; refine entryG.open_ 0 rfl 5 rfl rfl ?_)
  change EntryGoal _ _ _ _ _
  refine entry_go (gmOk E) 31 3 [6] Tryz.func26 rfl rfl rfl rfl ?_
  repeat' first | (change CallGoal _ _ _ _ _ _; first | (change CallGoal _ 60 _ _ _ _; first | (refine call_args [.ptr 11 0] (fun _ => bdLB_ok _ rfl) (fun En V w hp => by have q := rest_ptr (r := 7) (m := 11) rfl hp; simp only [SV.den, SV.denL] at q ⊢; rw [q]) ?_; change CallGoal _ _ _ _ _ _; refine call_rule (tMask E Q m.toNat es) [11] rfl (And.intro rfl True.intro) rfl (fun y hy => ?_))) | (change CallGoal _ 62 _ _ _ _; first | (refine call_rule (sChFullR E Q R hd x r m i es kk ⟨hx, hR, ha, hk, ha.roomN hx hrm⟩) [0, 4, 5, 6, 7, 9, 1, 2] rfl (And.intro rfl (And.intro rfl (And.intro rfl (And.intro rfl (And.intro rfl (And.intro rfl (And.intro rfl (And.intro rfl True.intro)))))))) rfl (fun y6 hy6 => ?_)))) | (change JoinGoal _ _ _ _ _ _ _ _; refine join_stop (gmOk E) ?_) | (change HereGoal _ _ _ _ _ _ _; refine hereG.restIn 7 11 (m.toNat, es) rfl rfl rfl (tabP_placed _) ha.has ?_; change HereGoal _ _ _ _ _ _ _; refine hereG.cast 7 (.pr (restPr (tabP E Q) (tabL x.1) x.2.2.2)) rfl (by rw [ha.same hx]) ?_; change HereGoal _ _ _ _ _ _ _; refine here_go (gmOk E) ?_) | (change DrawGoal _ _ _ ({ dst := some 18, op := _, type := _, pos := _, after := _, guard := _ } :: _) _ _; refine drawG.restOut 7 (tabL x.1) x.2.2.2 m (m.toNat, es) rfl (tabL_get ha.tb) ?_; change DrawGoal _ _ _ _ _ _; refine draw_tree (gmOk E) [10, 9] (.leaf [(0, true), (1, true), (3, true), (2, false), (4, false), (5, true)]) (by kernel_rfl) ?_) | (change RetGoal _ _ _ _ _; first | (refine retG'.restIn 7 11 (m.toNat, es) rfl rfl rfl (tabP_placed _) ha.has ?_; change RetGoal _ _ _ _ _; refine retG'.cast 7 (.pr (restPr (tabP E Q) (tabL x.1) x.2.2.2)) rfl (by rw [ha.same hx]) ?_; change RetGoal _ _ _ _ _; (refine retG'.shut (Γ0 := Gm E) rfl (.cells 108 [.mp 1, .mp 2, .mp 3]) [(1, .pr (mapPr veU veP (ptrL ((x).1.map (fun y : Int × List Ey => y.1)) (x).2.2.2))), (2, .pr (mapPr (Enc.ag (Zz.encP Zz.encI Zz.encI)) vePl (placL (x).2.1 (x).2.2.2))), (3, .pr (mapPr (Enc.ag (Zz.encP encU Zz.encI)) veU (x).2.2.1)), (4, .pr (restPr (tabP E Q) (tabL (x).1) (x).2.2.2))] [0, 4, 5, 6, 7] (And.intro rfl (And.intro rfl (And.intro rfl (And.intro rfl (And.intro rfl True.intro))))) rfl ?_; change RetGoal _ _ _ _ _; refine retG'.hide (X := XT) (p := XOk R) (Φ := fun x => grp (Gm E) (stoH E Q x)) 0 (x) (hx) rfl ?_; change RetGoal _ _ _ _ _; refine ret_done rfl ?_)) | (refine retG'.shut (Γ0 := Gm E) rfl (.cells 108 [.mp 1, .mp 2, .mp 3]) [(1, .pr (mapPr veU veP (ptrL ((x).1.map (fun y : Int × List Ey => y.1)) (x).2.2.2))), (2, .pr (mapPr (Enc.ag (Zz.encP Zz.encI Zz.encI)) vePl (placL (x).2.1 (x).2.2.2))), (3, .pr (mapPr (Enc.ag (Zz.encP encU Zz.encI)) veU (x).2.2.1)), (4, .pr (restPr (tabP E Q) (tabL (x).1) (x).2.2.2))] [0, 4, 5, 6, 7] (And.intro rfl (And.intro rfl (And.intro rfl (And.intro rfl (And.intro rfl True.intro))))) rfl ?_; change RetGoal _ _ _ _ _; refine retG'.hide (X := XT) (p := XOk R) (Φ := fun x => grp (Gm E) (stoH E Q x)) 0 (x) (hx) rfl ?_; change RetGoal _ _ _ _ _; refine ret_done rfl ?_) | (refine ret_done rfl ?_)) | (intro h; first | (exfalso; omega; done) | (exfalso; first | exact h trivial | (rw [hM] at h; cases h; done) | (rw [hM] at h; exact h rfl); done) | skip) | (refine And.intro ?_ ?_) | exact True.intro | (refine @Exists.intro Unit _ () ?_) | (refine @Exists.intro (_ = _) _ rfl ?_) | (change CallGoal _ _ _ _ _ _; first | (refine call_rule (sFindY E x.2.1 x.2.2.2 hd m i ha.pl) [0, 4, 5, 6, 7] rfl (And.intro rfl (And.intro rfl True.intro)) rfl (fun y1 hy1 => ?_))) | (change CallGoal _ _ _ _ _ _; first | (refine call0 (mhas_z E m.toNat kk ha.m64) [] rfl True.intro rfl ?_))
  all_goals first | rfl | omega | assumption
set_option maxHeartbeats 4000000 in
theorem sRemY (E : Nat → Addr) (Q : List (PRow Int)) (R : List Ey) (hd : Hd) (r : Rw) (kk : Int) (h : getK R hd = some r ∧ hasV r kk = true ∧ RoomR R r (stepI (mkI r) kk)) : Does (Gm E) 26 ⟨[.ptr 0 0, .agg [.int .i64 hd.1, .int .i64 hd.2], .int .i64 kk], [(0, .pr (storePr E Q R)), (1, .pr (poolPr Zz.encI 3 Q)), (2, .fo (tzF 10))], 3, 3, (List (PRow Int)), fun _ => True, fun _ => .nili, fun S => [(0, .pr (storePr E (Q ++ S) (insR (delR R hd) (hd, (dropV r kk))))), (1, .pr (poolPr Zz.encI 3 (Q ++ S)))]⟩ := by
  obtain ⟨hR, hh, hrm⟩ := h
  refine DoesC.does (fn_start Tryz.func26 rfl rfl rfl ?_)
  change EntryGoal _ _ _ _ _
  refine entryG.ex 0 rfl (fun x hx => ?_)
  change EntryGoal _ _ _ _ _
  (obtain ⟨m, i, es, ha⟩ := hx.at_ hR; have hk : 0 ≤ kk ∧ kk ≤ 9 := hasV_kind ha.right hh; have hM : hasM m.toNat kk = true := (by rw [ha.hasM_iff hk]; exact hh); change EntryGoal _ _ _ _ _; refine entryG.open_ 0 rfl 5 rfl rfl ?_)
  change EntryGoal _ _ _ _ _
  refine entry_go (gmOk E) 31 3 [6] Tryz.func26 rfl rfl rfl rfl ?_
  repeat' first | (change CallGoal _ _ _ _ _ _; first | (change CallGoal _ 60 _ _ _ _; first | (refine call_args [.ptr 11 0] (fun _ => bdLB_ok _ rfl) (fun En V w hp => by have q := rest_ptr (r := 7) (m := 11) rfl hp; simp only [SV.den, SV.denL] at q ⊢; rw [q]) ?_; change CallGoal _ _ _ _ _ _; refine call_rule (tMask E Q m.toNat es) [11] rfl (And.intro rfl True.intro) rfl (fun y hy => ?_))) | (change CallGoal _ 62 _ _ _ _; first | (refine call_rule (sChangeR E Q R hd x r m i es kk ⟨hx, hR, ha, hk, ha.roomY hx hrm, (gone_right2 ha.right kk)⟩) [0, 4, 5, 6, 7, 9, 1, 2] rfl (And.intro rfl (And.intro rfl (And.intro rfl (And.intro rfl (And.intro rfl (And.intro rfl (And.intro rfl (And.intro rfl True.intro)))))))) rfl (fun (S : List (PRow Int)) hS => ?_)))) | (change JoinGoal _ _ _ _ _ _ _ _; refine join_stop (gmOk E) ?_) | (change HereGoal _ _ _ _ _ _ _; refine hereG.restIn 7 11 (m.toNat, es) rfl rfl rfl (tabP_placed _) ha.has ?_; change HereGoal _ _ _ _ _ _ _; refine hereG.cast 7 (.pr (restPr (tabP E Q) (tabL x.1) x.2.2.2)) rfl (by rw [ha.same hx]) ?_; change HereGoal _ _ _ _ _ _ _; refine here_go (gmOk E) ?_) | (change DrawGoal _ _ _ ({ dst := some 18, op := _, type := _, pos := _, after := _, guard := _ } :: _) _ _; refine drawG.restOut 7 (tabL x.1) x.2.2.2 m (m.toNat, es) rfl (tabL_get ha.tb) ?_; change DrawGoal _ _ _ _ _ _; refine draw_tree (gmOk E) [10, 9] (.leaf [(0, true), (1, true), (3, true), (2, false), (4, false), (5, true)]) (by kernel_rfl) ?_) | (change RetGoal _ _ _ _ _; first | (refine retG'.restIn 7 11 (m.toNat, es) rfl rfl rfl (tabP_placed _) ha.has ?_; change RetGoal _ _ _ _ _; refine retG'.cast 7 (.pr (restPr (tabP E Q) (tabL x.1) x.2.2.2)) rfl (by rw [ha.same hx]) ?_; change RetGoal _ _ _ _ _; (refine retG'.shut (Γ0 := Gm E) rfl (.cells 108 [.mp 1, .mp 2, .mp 3]) [(1, .pr (mapPr veU veP (ptrL ((x).1.map (fun y : Int × List Ey => y.1)) (x).2.2.2))), (2, .pr (mapPr (Enc.ag (Zz.encP Zz.encI Zz.encI)) vePl (placL (x).2.1 (x).2.2.2))), (3, .pr (mapPr (Enc.ag (Zz.encP encU Zz.encI)) veU (x).2.2.1)), (4, .pr (restPr (tabP E Q) (tabL (x).1) (x).2.2.2))] [0, 4, 5, 6, 7] (And.intro rfl (And.intro rfl (And.intro rfl (And.intro rfl (And.intro rfl True.intro))))) rfl ?_; change RetGoal _ _ _ _ _; refine retG'.hide (X := XT) (p := XOk R) (Φ := fun x => grp (Gm E) (stoH E Q x)) 0 (x) (hx) rfl ?_; change RetGoal _ _ _ _ _; refine ret_done rfl ?_)) | (refine retG'.shut (Γ0 := Gm E) rfl (.cells 108 [.mp 1, .mp 2, .mp 3]) [(1, .pr (mapPr veU veP (ptrL ((x).1.map (fun y : Int × List Ey => y.1)) (x).2.2.2))), (2, .pr (mapPr (Enc.ag (Zz.encP Zz.encI Zz.encI)) vePl (placL (x).2.1 (x).2.2.2))), (3, .pr (mapPr (Enc.ag (Zz.encP encU Zz.encI)) veU (x).2.2.1)), (4, .pr (restPr (tabP E Q) (tabL (x).1) (x).2.2.2))] [0, 4, 5, 6, 7] (And.intro rfl (And.intro rfl (And.intro rfl (And.intro rfl (And.intro rfl True.intro))))) rfl ?_; change RetGoal _ _ _ _ _; refine retG'.hide (X := XT) (p := XOk R) (Φ := fun x => grp (Gm E) (stoH E Q x)) 0 (x) (hx) rfl ?_; change RetGoal _ _ _ _ _; refine ret_done rfl ?_) | (refine ret_done rfl ?_)) | (intro h; first | (exfalso; omega; done) | (exfalso; first | exact h trivial | (rw [hM] at h; cases h; done) | (rw [hM] at h; exact h rfl); done) | skip) | (refine And.intro ?_ ?_) | exact True.intro | (refine @Exists.intro Unit _ () ?_) | (refine @Exists.intro (_ = _) _ rfl ?_) | (refine @Exists.intro (List (PRow Int)) _ ?_ ?_; rotate_left) | (change CallGoal _ _ _ _ _ _; first | (refine call_rule (sFindY E x.2.1 x.2.2.2 hd m i ha.pl) [0, 4, 5, 6, 7] rfl (And.intro rfl (And.intro rfl True.intro)) rfl (fun y1 hy1 => ?_))) | (change CallGoal _ _ _ _ _ _; first | (refine call0 (mhas_z E m.toNat kk ha.m64) [] rfl True.intro rfl ?_))
  all_goals first | rfl | omega | assumption
set_option maxHeartbeats 4000000 in
theorem sAddHas (E : Nat → Addr) (Q : List (PRow Int)) (R : List Ey) (hd : Hd) (r : Rw) (v : V3) (h : getK R hd = some r ∧ vcheck v = 0 ∧ hasV r v.k = true) : Does (Gm E) 17 ⟨[.ptr 0 0, .agg [.int .i64 hd.1, .int .i64 hd.2], .agg [.int .i64 v.k, .int .i64 v.a, .int .i64 v.b]], [(0, .pr (storePr E Q R)), (1, .pr (poolPr Zz.encI 3 Q)), (2, .fo (tzF 10))], 3, 3, Unit, fun _ => True, fun _ => .err 0, fun _ => [(0, .pr (storePr E Q R)), (1, .pr (poolPr Zz.encI 3 Q))]⟩ := by
  obtain ⟨hR, hv, hh⟩ := h
  refine DoesC.does (fn_start Tryz.func17 rfl rfl rfl ?_)
  change EntryGoal _ _ _ _ _
  refine entryG.ex 0 rfl (fun x hx => ?_)
  change EntryGoal _ _ _ _ _
  (obtain ⟨m, i, es, ha⟩ := hx.at_ hR; have hM : hasM m.toNat v.k = true := (by rw [ha.hasM_iff (check_in hv)]; exact hh); change EntryGoal _ _ _ _ _; refine entryG.open_ 0 rfl 5 rfl rfl ?_)
  change EntryGoal _ _ _ _ _
  refine entry_go (gmOk E) 38 3 [9] Tryz.func17 rfl rfl rfl rfl ?_
  repeat' first | (change CallGoal _ _ _ _ _ _; first | (change CallGoal _ 60 _ _ _ _; first | (refine call_args [.ptr 11 0] (fun _ => bdLB_ok _ rfl) (fun En V w hp => by have q := rest_ptr (r := 7) (m := 11) rfl hp; simp only [SV.den, SV.denL] at q ⊢; rw [q]) ?_; change CallGoal _ _ _ _ _ _; refine call_rule (tMask E Q m.toNat es) [11] rfl (And.intro rfl True.intro) rfl (fun y hy => ?_)))) | (change JoinGoal _ _ _ _ _ _ _ _; refine join_stop (gmOk E) ?_) | (change HereGoal _ _ _ _ _ _ _; refine hereG.restIn 7 11 (m.toNat, es) rfl rfl rfl (tabP_placed _) ha.has ?_; change HereGoal _ _ _ _ _ _ _; refine hereG.cast 7 (.pr (restPr (tabP E Q) (tabL x.1) x.2.2.2)) rfl (by rw [ha.same hx]) ?_; change HereGoal _ _ _ _ _ _ _; refine here_go (gmOk E) ?_) | (change DrawGoal _ _ _ ({ dst := some 24, op := _, type := _, pos := _, after := _, guard := _ } :: _) _ _; refine drawG.restOut 7 (tabL x.1) x.2.2.2 m (m.toNat, es) rfl (tabL_get ha.tb) ?_; change DrawGoal _ _ _ _ _ _; refine draw_tree (gmOk E) [10, 9] (.leaf [(0, true), (1, true), (3, true), (4, true), (2, false), (5, false)]) (by kernel_rfl) ?_) | (change RetGoal _ _ _ _ _; first | (refine retG'.restIn 7 11 (m.toNat, es) rfl rfl rfl (tabP_placed _) ha.has ?_; change RetGoal _ _ _ _ _; refine retG'.cast 7 (.pr (restPr (tabP E Q) (tabL x.1) x.2.2.2)) rfl (by rw [ha.same hx]) ?_; change RetGoal _ _ _ _ _; (refine retG'.shut (Γ0 := Gm E) rfl (.cells 108 [.mp 1, .mp 2, .mp 3]) [(1, .pr (mapPr veU veP (ptrL ((x).1.map (fun y : Int × List Ey => y.1)) (x).2.2.2))), (2, .pr (mapPr (Enc.ag (Zz.encP Zz.encI Zz.encI)) vePl (placL (x).2.1 (x).2.2.2))), (3, .pr (mapPr (Enc.ag (Zz.encP encU Zz.encI)) veU (x).2.2.1)), (4, .pr (restPr (tabP E Q) (tabL (x).1) (x).2.2.2))] [0, 4, 5, 6, 7] (And.intro rfl (And.intro rfl (And.intro rfl (And.intro rfl (And.intro rfl True.intro))))) rfl ?_; change RetGoal _ _ _ _ _; refine retG'.hide (X := XT) (p := XOk R) (Φ := fun x => grp (Gm E) (stoH E Q x)) 0 (x) (hx) rfl ?_; change RetGoal _ _ _ _ _; refine ret_done rfl ?_)) | (refine retG'.shut (Γ0 := Gm E) rfl (.cells 108 [.mp 1, .mp 2, .mp 3]) [(1, .pr (mapPr veU veP (ptrL ((x).1.map (fun y : Int × List Ey => y.1)) (x).2.2.2))), (2, .pr (mapPr (Enc.ag (Zz.encP Zz.encI Zz.encI)) vePl (placL (x).2.1 (x).2.2.2))), (3, .pr (mapPr (Enc.ag (Zz.encP encU Zz.encI)) veU (x).2.2.1)), (4, .pr (restPr (tabP E Q) (tabL (x).1) (x).2.2.2))] [0, 4, 5, 6, 7] (And.intro rfl (And.intro rfl (And.intro rfl (And.intro rfl (And.intro rfl True.intro))))) rfl ?_; change RetGoal _ _ _ _ _; refine retG'.hide (X := XT) (p := XOk R) (Φ := fun x => grp (Gm E) (stoH E Q x)) 0 (x) (hx) rfl ?_; change RetGoal _ _ _ _ _; refine ret_done rfl ?_) | (refine ret_done rfl ?_)) | (intro h; first | (exfalso; omega; done) | (exfalso; first | exact h trivial | (rw [hM] at h; cases h; done) | (rw [hM] at h; exact h rfl); done) | skip) | (refine And.intro ?_ ?_) | exact True.intro | (refine @Exists.intro Unit _ () ?_) | (refine @Exists.intro (_ = _) _ rfl ?_) | (change CallGoal _ _ _ _ _ _; first | (refine call_rule (sFindY E x.2.1 x.2.2.2 hd m i ha.pl) [0, 4, 5, 6, 7] rfl (And.intro rfl (And.intro rfl True.intro)) rfl (fun y1 hy1 => ?_))) | (change CallGoal _ _ _ _ _ _; first | (refine call0 (check_ok E v hv) [] rfl True.intro rfl ?_) | (refine call0 (mhas_z E m.toNat v.k ha.m64) [] rfl True.intro rfl ?_))
  all_goals first | rfl | omega | assumption
set_option maxHeartbeats 4000000 in
theorem sAddRange (E : Nat → Addr) (Q : List (PRow Int)) (R : List Ey) (hd : Hd) (r : Rw) (v : V3) (h : getK R hd = some r ∧ vcheck v = 1) : Does (Gm E) 17 ⟨[.ptr 0 0, .agg [.int .i64 hd.1, .int .i64 hd.2], .agg [.int .i64 v.k, .int .i64 v.a, .int .i64 v.b]], [(0, .pr (storePr E Q R)), (1, .pr (poolPr Zz.encI 3 Q)), (2, .fo (tzF 10))], 3, 3, Unit, fun _ => True, fun _ => .err 3, fun _ => [(0, .pr (storePr E Q R)), (1, .pr (poolPr Zz.encI 3 Q))]⟩ := by
  obtain ⟨hR, hv⟩ := h
  refine DoesC.does (fn_start Tryz.func17 rfl rfl rfl ?_)
  change EntryGoal _ _ _ _ _
  refine entryG.ex 0 rfl (fun x hx => ?_)
  change EntryGoal _ _ _ _ _
  (obtain ⟨m, i, es, ha⟩ := hx.at_ hR; change EntryGoal _ _ _ _ _; refine entryG.open_ 0 rfl 5 rfl rfl ?_)
  change EntryGoal _ _ _ _ _
  refine entry_go (gmOk E) 38 3 [9] Tryz.func17 rfl rfl rfl rfl ?_
  repeat' first | (change CallGoal _ _ _ _ _ _; first | (change CallGoal _ 60 _ _ _ _; first | (refine call_args [.ptr 11 0] (fun _ => bdLB_ok _ rfl) (fun En V w hp => by have q := rest_ptr (r := 7) (m := 11) rfl hp; simp only [SV.den, SV.denL] at q ⊢; rw [q]) ?_; change CallGoal _ _ _ _ _ _; refine call_rule (tMask E Q m.toNat es) [11] rfl (And.intro rfl True.intro) rfl (fun y hy => ?_)))) | (change JoinGoal _ _ _ _ _ _ _ _; refine join_stop (gmOk E) ?_) | (change HereGoal _ _ _ _ _ _ _; refine hereG.restIn 7 11 (m.toNat, es) rfl rfl rfl (tabP_placed _) ha.has ?_; change HereGoal _ _ _ _ _ _ _; refine hereG.cast 7 (.pr (restPr (tabP E Q) (tabL x.1) x.2.2.2)) rfl (by rw [ha.same hx]) ?_; change HereGoal _ _ _ _ _ _ _; refine here_go (gmOk E) ?_) | (change DrawGoal _ _ _ ({ dst := some 24, op := _, type := _, pos := _, after := _, guard := _ } :: _) _ _; refine drawG.restOut 7 (tabL x.1) x.2.2.2 m (m.toNat, es) rfl (tabL_get ha.tb) ?_; change DrawGoal _ _ _ _ _ _; refine draw_tree (gmOk E) [10, 9] (.leaf [(0, true), (1, true), (3, true), (4, true), (2, false), (5, false)]) (by kernel_rfl) ?_) | (change RetGoal _ _ _ _ _; first | (refine retG'.restIn 7 11 (m.toNat, es) rfl rfl rfl (tabP_placed _) ha.has ?_; change RetGoal _ _ _ _ _; refine retG'.cast 7 (.pr (restPr (tabP E Q) (tabL x.1) x.2.2.2)) rfl (by rw [ha.same hx]) ?_; change RetGoal _ _ _ _ _; (refine retG'.shut (Γ0 := Gm E) rfl (.cells 108 [.mp 1, .mp 2, .mp 3]) [(1, .pr (mapPr veU veP (ptrL ((x).1.map (fun y : Int × List Ey => y.1)) (x).2.2.2))), (2, .pr (mapPr (Enc.ag (Zz.encP Zz.encI Zz.encI)) vePl (placL (x).2.1 (x).2.2.2))), (3, .pr (mapPr (Enc.ag (Zz.encP encU Zz.encI)) veU (x).2.2.1)), (4, .pr (restPr (tabP E Q) (tabL (x).1) (x).2.2.2))] [0, 4, 5, 6, 7] (And.intro rfl (And.intro rfl (And.intro rfl (And.intro rfl (And.intro rfl True.intro))))) rfl ?_; change RetGoal _ _ _ _ _; refine retG'.hide (X := XT) (p := XOk R) (Φ := fun x => grp (Gm E) (stoH E Q x)) 0 (x) (hx) rfl ?_; change RetGoal _ _ _ _ _; refine ret_done rfl ?_)) | (refine retG'.shut (Γ0 := Gm E) rfl (.cells 108 [.mp 1, .mp 2, .mp 3]) [(1, .pr (mapPr veU veP (ptrL ((x).1.map (fun y : Int × List Ey => y.1)) (x).2.2.2))), (2, .pr (mapPr (Enc.ag (Zz.encP Zz.encI Zz.encI)) vePl (placL (x).2.1 (x).2.2.2))), (3, .pr (mapPr (Enc.ag (Zz.encP encU Zz.encI)) veU (x).2.2.1)), (4, .pr (restPr (tabP E Q) (tabL (x).1) (x).2.2.2))] [0, 4, 5, 6, 7] (And.intro rfl (And.intro rfl (And.intro rfl (And.intro rfl (And.intro rfl True.intro))))) rfl ?_; change RetGoal _ _ _ _ _; refine retG'.hide (X := XT) (p := XOk R) (Φ := fun x => grp (Gm E) (stoH E Q x)) 0 (x) (hx) rfl ?_; change RetGoal _ _ _ _ _; refine ret_done rfl ?_) | (refine ret_done rfl ?_)) | (intro h; first | (exfalso; omega; done) | (exfalso; first | exact h trivial | (rw [hM] at h; cases h; done) | (rw [hM] at h; exact h rfl); done) | skip) | (refine And.intro ?_ ?_) | exact True.intro | (refine @Exists.intro Unit _ () ?_) | (refine @Exists.intro (_ = _) _ rfl ?_) | (change CallGoal _ _ _ _ _ _; first | (refine call_rule (sFindY E x.2.1 x.2.2.2 hd m i ha.pl) [0, 4, 5, 6, 7] rfl (And.intro rfl (And.intro rfl True.intro)) rfl (fun y1 hy1 => ?_))) | (change CallGoal _ _ _ _ _ _; first | (refine call0 (check_range E v hv) [] rfl True.intro rfl ?_))
  all_goals first | rfl | omega | assumption
set_option maxHeartbeats 4000000 in
theorem sAddKind (E : Nat → Addr) (Q : List (PRow Int)) (R : List Ey) (hd : Hd) (r : Rw) (v : V3) (h : getK R hd = some r ∧ vcheck v = 5) : Does (Gm E) 17 ⟨[.ptr 0 0, .agg [.int .i64 hd.1, .int .i64 hd.2], .agg [.int .i64 v.k, .int .i64 v.a, .int .i64 v.b]], [(0, .pr (storePr E Q R)), (1, .pr (poolPr Zz.encI 3 Q)), (2, .fo (tzF 10))], 3, 3, Unit, fun _ => True, fun _ => .err 5, fun _ => [(0, .pr (storePr E Q R)), (1, .pr (poolPr Zz.encI 3 Q))]⟩ := by
  obtain ⟨hR, hv⟩ := h
  refine DoesC.does (fn_start Tryz.func17 rfl rfl rfl ?_)
  change EntryGoal _ _ _ _ _
  refine entryG.ex 0 rfl (fun x hx => ?_)
  change EntryGoal _ _ _ _ _
  (obtain ⟨m, i, es, ha⟩ := hx.at_ hR; change EntryGoal _ _ _ _ _; refine entryG.open_ 0 rfl 5 rfl rfl ?_)
  change EntryGoal _ _ _ _ _
  refine entry_go (gmOk E) 38 3 [9] Tryz.func17 rfl rfl rfl rfl ?_
  repeat' first | (change CallGoal _ _ _ _ _ _; first | (change CallGoal _ 60 _ _ _ _; first | (refine call_args [.ptr 11 0] (fun _ => bdLB_ok _ rfl) (fun En V w hp => by have q := rest_ptr (r := 7) (m := 11) rfl hp; simp only [SV.den, SV.denL] at q ⊢; rw [q]) ?_; change CallGoal _ _ _ _ _ _; refine call_rule (tMask E Q m.toNat es) [11] rfl (And.intro rfl True.intro) rfl (fun y hy => ?_)))) | (change JoinGoal _ _ _ _ _ _ _ _; refine join_stop (gmOk E) ?_) | (change HereGoal _ _ _ _ _ _ _; refine hereG.restIn 7 11 (m.toNat, es) rfl rfl rfl (tabP_placed _) ha.has ?_; change HereGoal _ _ _ _ _ _ _; refine hereG.cast 7 (.pr (restPr (tabP E Q) (tabL x.1) x.2.2.2)) rfl (by rw [ha.same hx]) ?_; change HereGoal _ _ _ _ _ _ _; refine here_go (gmOk E) ?_) | (change DrawGoal _ _ _ ({ dst := some 24, op := _, type := _, pos := _, after := _, guard := _ } :: _) _ _; refine drawG.restOut 7 (tabL x.1) x.2.2.2 m (m.toNat, es) rfl (tabL_get ha.tb) ?_; change DrawGoal _ _ _ _ _ _; refine draw_tree (gmOk E) [10, 9] (.leaf [(0, true), (1, true), (3, true), (4, true), (2, false), (5, false)]) (by kernel_rfl) ?_) | (change RetGoal _ _ _ _ _; first | (refine retG'.restIn 7 11 (m.toNat, es) rfl rfl rfl (tabP_placed _) ha.has ?_; change RetGoal _ _ _ _ _; refine retG'.cast 7 (.pr (restPr (tabP E Q) (tabL x.1) x.2.2.2)) rfl (by rw [ha.same hx]) ?_; change RetGoal _ _ _ _ _; (refine retG'.shut (Γ0 := Gm E) rfl (.cells 108 [.mp 1, .mp 2, .mp 3]) [(1, .pr (mapPr veU veP (ptrL ((x).1.map (fun y : Int × List Ey => y.1)) (x).2.2.2))), (2, .pr (mapPr (Enc.ag (Zz.encP Zz.encI Zz.encI)) vePl (placL (x).2.1 (x).2.2.2))), (3, .pr (mapPr (Enc.ag (Zz.encP encU Zz.encI)) veU (x).2.2.1)), (4, .pr (restPr (tabP E Q) (tabL (x).1) (x).2.2.2))] [0, 4, 5, 6, 7] (And.intro rfl (And.intro rfl (And.intro rfl (And.intro rfl (And.intro rfl True.intro))))) rfl ?_; change RetGoal _ _ _ _ _; refine retG'.hide (X := XT) (p := XOk R) (Φ := fun x => grp (Gm E) (stoH E Q x)) 0 (x) (hx) rfl ?_; change RetGoal _ _ _ _ _; refine ret_done rfl ?_)) | (refine retG'.shut (Γ0 := Gm E) rfl (.cells 108 [.mp 1, .mp 2, .mp 3]) [(1, .pr (mapPr veU veP (ptrL ((x).1.map (fun y : Int × List Ey => y.1)) (x).2.2.2))), (2, .pr (mapPr (Enc.ag (Zz.encP Zz.encI Zz.encI)) vePl (placL (x).2.1 (x).2.2.2))), (3, .pr (mapPr (Enc.ag (Zz.encP encU Zz.encI)) veU (x).2.2.1)), (4, .pr (restPr (tabP E Q) (tabL (x).1) (x).2.2.2))] [0, 4, 5, 6, 7] (And.intro rfl (And.intro rfl (And.intro rfl (And.intro rfl (And.intro rfl True.intro))))) rfl ?_; change RetGoal _ _ _ _ _; refine retG'.hide (X := XT) (p := XOk R) (Φ := fun x => grp (Gm E) (stoH E Q x)) 0 (x) (hx) rfl ?_; change RetGoal _ _ _ _ _; refine ret_done rfl ?_) | (refine ret_done rfl ?_)) | (intro h; first | (exfalso; omega; done) | (exfalso; first | exact h trivial | (rw [hM] at h; cases h; done) | (rw [hM] at h; exact h rfl); done) | skip) | (refine And.intro ?_ ?_) | exact True.intro | (refine @Exists.intro Unit _ () ?_) | (refine @Exists.intro (_ = _) _ rfl ?_) | (change CallGoal _ _ _ _ _ _; first | (refine call_rule (sFindY E x.2.1 x.2.2.2 hd m i ha.pl) [0, 4, 5, 6, 7] rfl (And.intro rfl (And.intro rfl True.intro)) rfl (fun y1 hy1 => ?_))) | (change CallGoal _ _ _ _ _ _; first | (refine call0 (check_kind E v hv) [] rfl True.intro rfl ?_))
  all_goals first | rfl | omega | assumption
set_option maxHeartbeats 4000000 in
theorem sRemNo (E : Nat → Addr) (Q : List (PRow Int)) (R : List Ey) (hd : Hd) (r : Rw) (kk : Int) (h : getK R hd = some r ∧ hasV r kk = false) : Does (Gm E) 26 ⟨[.ptr 0 0, .agg [.int .i64 hd.1, .int .i64 hd.2], .int .i64 kk], [(0, .pr (storePr E Q R)), (1, .pr (poolPr Zz.encI 3 Q)), (2, .fo (tzF 10))], 3, 3, Unit, fun _ => True, fun _ => .err 5, fun _ => [(0, .pr (storePr E Q R)), (1, .pr (poolPr Zz.encI 3 Q))]⟩ := by
  obtain ⟨hR, hh⟩ := h
  refine DoesC.does (fn_start Tryz.func26 rfl rfl rfl ?_)
  change EntryGoal _ _ _ _ _
  refine entryG.ex 0 rfl (fun x hx => ?_)
  change EntryGoal _ _ _ _ _
  (obtain ⟨m, i, es, ha⟩ := hx.at_ hR; have hM : hasM m.toNat kk = false := (by by_cases hk : 0 ≤ kk ∧ kk ≤ 9; (rw [ha.hasM_iff hk]; exact hh); exact ha.hasM_no hk); change EntryGoal _ _ _ _ _; refine entryG.open_ 0 rfl 5 rfl rfl ?_)
  change EntryGoal _ _ _ _ _
  refine entry_go (gmOk E) 31 3 [6] Tryz.func26 rfl rfl rfl rfl ?_
  repeat' first | (change CallGoal _ _ _ _ _ _; first | (change CallGoal _ 60 _ _ _ _; first | (refine call_args [.ptr 11 0] (fun _ => bdLB_ok _ rfl) (fun En V w hp => by have q := rest_ptr (r := 7) (m := 11) rfl hp; simp only [SV.den, SV.denL] at q ⊢; rw [q]) ?_; change CallGoal _ _ _ _ _ _; refine call_rule (tMask E Q m.toNat es) [11] rfl (And.intro rfl True.intro) rfl (fun y hy => ?_)))) | (change JoinGoal _ _ _ _ _ _ _ _; refine join_stop (gmOk E) ?_) | (change HereGoal _ _ _ _ _ _ _; refine hereG.restIn 7 11 (m.toNat, es) rfl rfl rfl (tabP_placed _) ha.has ?_; change HereGoal _ _ _ _ _ _ _; refine hereG.cast 7 (.pr (restPr (tabP E Q) (tabL x.1) x.2.2.2)) rfl (by rw [ha.same hx]) ?_; change HereGoal _ _ _ _ _ _ _; refine here_go (gmOk E) ?_) | (change DrawGoal _ _ _ ({ dst := some 18, op := _, type := _, pos := _, after := _, guard := _ } :: _) _ _; refine drawG.restOut 7 (tabL x.1) x.2.2.2 m (m.toNat, es) rfl (tabL_get ha.tb) ?_; change DrawGoal _ _ _ _ _ _; refine draw_tree (gmOk E) [10, 9] (.leaf [(0, true), (1, true), (3, true), (2, false), (4, false), (5, true)]) (by kernel_rfl) ?_) | (change RetGoal _ _ _ _ _; first | (refine retG'.restIn 7 11 (m.toNat, es) rfl rfl rfl (tabP_placed _) ha.has ?_; change RetGoal _ _ _ _ _; refine retG'.cast 7 (.pr (restPr (tabP E Q) (tabL x.1) x.2.2.2)) rfl (by rw [ha.same hx]) ?_; change RetGoal _ _ _ _ _; (refine retG'.shut (Γ0 := Gm E) rfl (.cells 108 [.mp 1, .mp 2, .mp 3]) [(1, .pr (mapPr veU veP (ptrL ((x).1.map (fun y : Int × List Ey => y.1)) (x).2.2.2))), (2, .pr (mapPr (Enc.ag (Zz.encP Zz.encI Zz.encI)) vePl (placL (x).2.1 (x).2.2.2))), (3, .pr (mapPr (Enc.ag (Zz.encP encU Zz.encI)) veU (x).2.2.1)), (4, .pr (restPr (tabP E Q) (tabL (x).1) (x).2.2.2))] [0, 4, 5, 6, 7] (And.intro rfl (And.intro rfl (And.intro rfl (And.intro rfl (And.intro rfl True.intro))))) rfl ?_; change RetGoal _ _ _ _ _; refine retG'.hide (X := XT) (p := XOk R) (Φ := fun x => grp (Gm E) (stoH E Q x)) 0 (x) (hx) rfl ?_; change RetGoal _ _ _ _ _; refine ret_done rfl ?_)) | (refine retG'.shut (Γ0 := Gm E) rfl (.cells 108 [.mp 1, .mp 2, .mp 3]) [(1, .pr (mapPr veU veP (ptrL ((x).1.map (fun y : Int × List Ey => y.1)) (x).2.2.2))), (2, .pr (mapPr (Enc.ag (Zz.encP Zz.encI Zz.encI)) vePl (placL (x).2.1 (x).2.2.2))), (3, .pr (mapPr (Enc.ag (Zz.encP encU Zz.encI)) veU (x).2.2.1)), (4, .pr (restPr (tabP E Q) (tabL (x).1) (x).2.2.2))] [0, 4, 5, 6, 7] (And.intro rfl (And.intro rfl (And.intro rfl (And.intro rfl (And.intro rfl True.intro))))) rfl ?_; change RetGoal _ _ _ _ _; refine retG'.hide (X := XT) (p := XOk R) (Φ := fun x => grp (Gm E) (stoH E Q x)) 0 (x) (hx) rfl ?_; change RetGoal _ _ _ _ _; refine ret_done rfl ?_) | (refine ret_done rfl ?_)) | (intro h; first | (exfalso; omega; done) | (exfalso; first | exact h trivial | (rw [hM] at h; cases h; done) | (rw [hM] at h; exact h rfl); done) | skip) | (refine And.intro ?_ ?_) | exact True.intro | (refine @Exists.intro Unit _ () ?_) | (refine @Exists.intro (_ = _) _ rfl ?_) | (change CallGoal _ _ _ _ _ _; first | (refine call_rule (sFindY E x.2.1 x.2.2.2 hd m i ha.pl) [0, 4, 5, 6, 7] rfl (And.intro rfl (And.intro rfl True.intro)) rfl (fun y1 hy1 => ?_))) | (change CallGoal _ _ _ _ _ _; first | (refine call0 (mhas_z E m.toNat kk ha.m64) [] rfl True.intro rfl ?_))
  all_goals first | rfl | omega | assumption
end Go.Proofs.YtcnbngiplfoomaaGreatDoor
namespace Go.Proofs.YtcnbngiplfoomaaGreatDoor
open Go.Zz Go.Px
set_option linter.unusedVariables false
set_option linter.unusedSectionVars false
set_option linter.unusedSimpArgs false
set_option maxRecDepth 10000
set_option maxHeartbeats 4000000 in
theorem keysUIt_vc (E : Nat → Addr) (L : List (Int × Option Nat)) : KeysVcS (Ge E) 56 181 4 "iter.go:27" "iter.go:28" veU veP L := by
  intro y ga left cur
  repeat' first | (intro h; first | (exfalso; omega; done) | skip) | (refine And.intro ?_ ?_) | exact True.intro | (change OpGoal _ _ _ _ (.next _ _) _; refine next_rule L 1 0 rfl rfl rfl rfl ?_ ?_) | (change OpGoal _ _ _ _ (.entry _) _; refine entry_rule 1 rfl rfl ?_) | (exact ⟨_, _, _, ‹List.Perm _ _›, rfl, rfl, rfl, rfl, rfl, ‹_ ∈ L›⟩) | fail
  all_goals first | rfl | assumption
theorem keysU_gives (E : Nat → Addr) (L : List (Int × Option Nat)) (A : Addr) (gb : Nat) (W0 : World) (hA : W0.cell? A = some (.map (some gb))) (hm : MapAt W0 gb veU.val veP.val L) : GivesKeys Tryz.prog 108 A gb veU.val veP.val L W0 :=
  keys_givesS (geOk E) rfl 104 56 181 4 "iter.go:27" "iter.go:28" Tryz.func108 rfl rfl rfl mapT rfl rfl (keysUIt_vc E L) A gb W0 hA hm
set_option maxHeartbeats 4000000 in
theorem appU_z (E : Nat → Addr) (L : List (Int × Option Nat)) (h : L.length ≤ 1000000000) : Does (Gm E) 145 ⟨[.nils, .fn 108 [.ptr 0 0]], [(0, .cells 104 [.mp 1]), (1, .pr (mapPr veU veP L))], 2, 3, List Int × Nat, fun x => x.1.Perm (L.map (·.1)) ∧ x.1.length ≤ x.2, fun x => .sl 2 x.1.length x.2, fun x => [(0, .cells 104 [.mp 1]), (1, .pr (mapPr veU veP L)), (2, .arr Int encU 56 x.1 x.2)]⟩ := by
  refine fn_range (gmOk E) 13 2 [] Tryz.func145 rfl rfl rfl rfl rfl ?_
  repeat' first | (intro h; first | (exfalso; omega; done) | skip) | (refine And.intro ?_ ?_) | exact True.intro | (refine @Exists.intro Unit _ () ?_) | (refine @Exists.intro (_ = _) _ rfl ?_) | (change RangeAt _ _ _ _ _ _ _ _ _; refine rangeAt_rule (gmOk E) rfl 108 0 1 104 veU veP L rfl rfl rfl rfl rfl ⟨_, Tryz.func108, rfl, rfl⟩ (keysU_gives E L) rfl (X := List Int × Nat) (fun x => [(2, .cells 41 [.sl 3 x.1.length x.2]), (3, .arr Int encU 56 x.1 x.2)]) [] (fun x => x.1.length ≤ x.2) (fun x => x.1) (fun _ => rfl) (fun _ => rfl) (fun ga => ?_) (fun ga x k hI hk hn => ?_) (fun D x hI hp => ?_)) | (change @Exists (List Int × Nat) (fun _ => _ ∧ phK _ _ _ _ _); first | (refine ⟨([], 0), rfl, ?_⟩) | (refine ⟨(x.1 ++ [k], ?_), rfl, ?_⟩; rotate_left)) | (refine @Exists.intro (List Int × Nat) _ x ?_)
  all_goals first | (dsimp only; first | rfl | omega) | rfl | omega | exact Nat.le_refl _ | exact hp | exact hI | (simp; done) | (have hn : x.1.length < L.length := hn; omega) | (have hn := hp.length_eq; rw [List.length_map] at hn; omega) | (rw [List.length_append]; assumption) | (refine congrArg (fun q => Ch.arr _ _ _ q _) ?_; dsimp only; rw [List.take_length]; rfl)
set_option maxHeartbeats 4000000 in
theorem collU_z (E : Nat → Addr) (L : List (Int × Option Nat)) (h : L.length ≤ 1000000000) : Does (Gm E) 106 ⟨[.fn 108 [.ptr 0 0]], [(0, .cells 104 [.mp 1]), (1, .pr (mapPr veU veP L))], 2, 3, List Int × Nat, fun x => x.1.Perm (L.map (·.1)) ∧ x.1.length ≤ x.2, fun x => .sl 2 x.1.length x.2, fun x => [(0, .cells 104 [.mp 1]), (1, .pr (mapPr veU veP L)), (2, .arr Int encU 56 x.1 x.2)]⟩ := by
  refine fn_intro (gmOk E) 5 2 [] Tryz.func106 rfl rfl rfl rfl rfl ?_
  repeat' first | (intro h; first | (exfalso; omega; done) | skip) | (refine And.intro ?_ ?_) | exact True.intro | (refine @Exists.intro Unit _ () ?_) | (refine @Exists.intro (_ = _) _ rfl ?_) | (refine @Exists.intro (List Int × Nat) _ x ?_) | (change CallGoal _ _ _ _ _ _; first | (refine call_rule (appU_z E L h) [0, 1] rfl (And.intro rfl (And.intro rfl True.intro)) rfl (fun (x : List Int × Nat) (hx : x.1.Perm (L.map (·.1)) ∧ x.1.length ≤ x.2) => ?_)))
  all_goals first
| (dsimp only; first | rfl | omega)
| rfl
| omega
| assumption
| exact hx
| exact hx.1
| exact hx.2
| (have e := hx.1.length_eq; rw [List.length_map] at e; omega)
set_option maxHeartbeats 4000000 in
theorem keysU_z (E : Nat → Addr) (M : List (Int × Option Nat)) : Does (Gm E) 67 ⟨[.mp 0], [(0, .pr (mapPr veU veP M))], 1, 2, Unit, fun _ => True, fun _ => .fn 108 [.ptr 1 0], fun _ => [(0, .pr (mapPr veU veP M)), (1, .cells 104 [.mp 0])]⟩ := by
  refine fn_intro (gmOk E) 4 1 [] Tryz.func67 rfl rfl rfl rfl rfl ?_
  repeat' first | (intro h; first | (exfalso; omega; done) | skip) | (refine And.intro ?_ ?_) | exact True.intro | (refine @Exists.intro Unit _ () ?_) | (refine @Exists.intro (_ = _) _ rfl ?_)
  all_goals first | rfl | omega
end Go.Proofs.YtcnbngiplfoomaaGreatDoor
namespace Go.Proofs.YtcnbngiplfoomaaGreatDoor
open Go.Zz Go.Px
set_option linter.unusedVariables false
set_option linter.unusedSectionVars false
set_option linter.unusedSimpArgs false
set_option maxRecDepth 10000
section
variable {l l' c : List Int} {a b i j p q n : Nat}
abbrev gI (l : List Int) (j : Nat) : Int := l.getD j 0
theorem gI_set {l : List Int} {j p : Nat} {v : Int} (hj : j < l.length) : gI (l.set j v) p = if p = j then v else gI l p := by
  unfold gI
  rw [List.getD_eq_getElem?_getD, List.getD_eq_getElem?_getD, List.getElem?_set]
  by_cases e : j = p
  · subst e; rw [if_pos rfl, if_pos hj, if_pos rfl]; rfl
  · rw [if_neg e, if_neg (Ne.symm e)]
structure SameI (l c : List Int) (a b : Nat) : Prop where
  perm : c.Perm l
  out : ∀ p, p < a ∨ b ≤ p → gI c p = gI l p
theorem SameI.len (h : SameI l c a b) : c.length = l.length := h.perm.length_eq
theorem SameI.refl (l : List Int) (a b : Nat) : SameI l l a b := ⟨List.Perm.refl _, fun _ _ => rfl⟩
theorem SameI.trans {d : List Int} (h : SameI l c a b) (h2 : SameI c d a b) : SameI l d a b := ⟨h2.perm.trans h.perm, fun p hp => (h2.out p hp).trans (h.out p hp)⟩
def swapI (l : List Int) (i j : Nat) : List Int := (l.set i (gI l j)).set j (gI l i)
theorem gI_at (h : j < l.length) : gI l j = l[j] := by unfold gI; rw [List.getD_eq_getElem?_getD, List.getElem?_eq_getElem h]; rfl
theorem swapI_perm (hi : i < l.length) (hj : j < l.length) : (swapI l i j).Perm l := by
  unfold swapI; rw [gI_at hi, gI_at hj]; exact List.set_set_perm hi hj
theorem swapI_at (hi : i < l.length) (hj : j < l.length) (p : Nat) : gI (swapI l i j) p = if p = j then gI l i else if p = i then gI l j else gI l p := by
  unfold swapI; rw [gI_set (by rw [List.length_set]; exact hj), gI_set hi]
theorem SameI.swap (h : SameI l c a b) (hi : a ≤ i ∧ i < b) (hj : a ≤ j ∧ j < b) (hb : b ≤ l.length) : SameI l (swapI c i j) a b := by
  have hl := h.len
  refine ⟨(swapI_perm (by omega) (by omega)).trans h.perm, fun p hp => ?_⟩
  rw [swapI_at (by omega) (by omega), if_neg (by omega), if_neg (by omega)]; exact h.out p hp
structure OrdI (c : List Int) (a b : Nat) : Prop where
  le : ∀ p q, a ≤ p → p < q → q < b → gI c p ≤ gI c q
structure InsI (c : List Int) (a j i : Nat) : Prop where
  le : ∀ p q, a ≤ p → p < q → q ≤ i → p ≠ j → q ≠ j → gI c p ≤ gI c q
  hi : ∀ q, j < q → q ≤ i → gI c j ≤ gI c q
theorem InsI.start (h : OrdI c a i) : InsI c a i i := ⟨fun p q h1 h2 h3 h4 h5 => h.le p q h1 h2 (by omega), fun q h1 h2 => by omega⟩
theorem InsI.step (h : InsI c a j i) (hj : a < j) (hji : j ≤ i) (hi : i < c.length) (hlt : gI c j < gI c (j - 1)) : InsI (swapI c j (j - 1)) a (j - 1) i := by
  refine ⟨fun p q h1 h2 h3 h4 h5 => ?_, fun q h1 h2 => ?_⟩
  · rw [swapI_at (by omega) (by omega), swapI_at (by omega) (by omega), if_neg h4, if_neg h5]
    by_cases e1 : p = j
    · rw [if_pos e1, if_neg (by omega)]
      exact h.le (j - 1) q (by omega) (by omega) h3 (by omega) (by omega)
    · rw [if_neg e1]
      by_cases e2 : q = j
      · rw [if_pos e2]
        exact h.le p (j - 1) h1 (by omega) (by omega) e1 (by omega)
      · rw [if_neg e2]; exact h.le p q h1 h2 h3 e1 e2
  · rw [swapI_at (by omega) (by omega), swapI_at (by omega) (by omega), if_pos rfl, if_neg (by omega)]
    by_cases e2 : q = j
    · rw [if_pos e2]; omega
    · rw [if_neg e2]; exact h.hi q (by omega) h2
theorem InsI.stop (h : InsI c a j i) (hs : ¬ (a < j ∧ gI c j < gI c (j - 1))) : OrdI c a (i + 1) := ⟨fun p q h1 h2 h3 => by
  by_cases e1 : p = j
  · subst e1; exact h.hi q h2 (by omega)
  · by_cases e2 : q = j
    · subst e2
      have h4 : gI c (q - 1) ≤ gI c q := Int.not_lt.1 fun q2 => hs ⟨by omega, q2⟩
      by_cases e3 : p = q - 1
      · subst e3; exact h4
      · exact Int.le_trans (h.le p (q - 1) h1 (by omega) (by omega) e1 (by omega)) h4
    · exact h.le p q h1 h2 (by omega) e1 e2⟩
theorem OrdI.one (c : List Int) (a : Nat) : OrdI c a (a + 1) := ⟨fun p q h1 h2 h3 => by omega⟩
end
set_option maxHeartbeats 4000000 in
theorem isnanU_z (E : Nat → Addr) (n : Int) : Does (Gm E) 185 (Sp0 [.int .u64 n] [] 0 .ff) := by
  refine fn_intro (gmOk E) 6 0 [] Tryz.func185 rfl rfl rfl rfl rfl ?_
  repeat' first | (intro h; first | (exfalso; omega; done) | skip) | (refine And.intro ?_ ?_) | exact True.intro | (refine @Exists.intro Unit _ () ?_) | (refine @Exists.intro (_ = _) _ rfl ?_)
  all_goals first | rfl | omega
set_option maxHeartbeats 4000000 in
theorem lessU_z (E : Nat → Addr) (a b : Int) : Does (Gm E) 173 (Sp0 [.int .u64 a, .int .u64 b] [] 0 (.dc (a < b) inferInstance)) := by
  refine fn_intro (gmOk E) 17 0 [] Tryz.func173 rfl rfl rfl rfl rfl ?_
  repeat' first | (intro h; first | (exfalso; omega; done) | skip) | (refine And.intro ?_ ?_) | exact True.intro | (refine @Exists.intro Unit _ () ?_) | (refine @Exists.intro (_ = _) _ rfl ?_) | (change CallGoal _ _ _ _ _ _; first | (refine call0 (isnanU_z E _) [] rfl True.intro rfl ?_))
  all_goals first | rfl | omega
set_option maxHeartbeats 4000000 in
theorem insU_z (E : Nat → Addr) (l : List Int) (n k : Nat) (a b : Nat) (h : n = l.length ∧ a ≤ b ∧ b ≤ l.length ∧ l.length ≤ 1000000) : Does (Gm E) 167 ⟨[.sl 0 n k, .int .i64 (a : Nat), .int .i64 (b : Nat)], [(0, .arr Int encU 56 l k)], 1, 1, List Int, fun c => SameI l c a b ∧ OrdI c a b, fun _ => .tup [], fun c => [(0, .arr Int encU 56 c k)]⟩ := by
  obtain ⟨rfl, hab, hb, hm⟩ := h
  refine fn_intro (gmOk E) 49 1 [] Tryz.func167 rfl rfl rfl rfl rfl ?_
  repeat' first | exact placedPr_ok | (change DrawGoal _ _ _ _ _ _; first | (change DrawGoal _ _ _ [_, _, _, _, _, _, _, _, _, _, _, _, _, _, _, _, _, _] _ _; refine draw_weak (gmOk E) 0 [] (.alt [(0, true), (1, true), (2, true), (3, true), (4, true), (5, true), (6, true), (7, true), (8, true), (10, true), (11, true), (12, true)] (.leaf [(9, false), (13, false), (14, true), (15, false), (16, true), (17, false)]) (.leaf [(13, false), (9, false), (14, true), (15, false), (16, true), (17, false)])) (by kernel_rfl) rfl ?_ ?_)) | (intro h; first | (exfalso; omega; done) | skip) | (refine And.intro ?_ ?_) | exact True.intro | (refine @Exists.intro Unit _ () ?_) | (refine @Exists.intro (_ = _) _ rfl ?_) | (change LoopGoal _ _ _ _ _ _; refine loop_at 1 (gmOk E) rfl [] (X := (Nat × List Int)) (fun x => [(6, .int .i64 ((x.1 : Nat) : Int))]) (fun x => [(0, .arr Int encU 56 x.2 k)]) [] (fun x => a + 1 ≤ x.1 ∧ (x.1 ≤ b ∨ x.1 = a + 1) ∧ SameI l x.2 a b ∧ OrdI x.2 a x.1) (fun x => l.length + 1 - x.1) ⟨(a + 1, l), ?_⟩ (fun x hI => ?_)) | (change @Exists ((Nat × List Int)) (fun _ => updK _ _ _ _ _ _); refine @Exists.intro ((Nat × List Int)) _ ((x.1 + 1, y.2.1)) ?_) | (change LoopGoal _ _ _ _ _ _; refine loop_at 4 (gmOk E) rfl [] (X := (Nat × List Int × Unit)) (fun y => [(7, .int .i64 ((y.1 : Nat) : Int))]) (fun y => [(0, .arr Int encU 56 y.2.1 k)]) [] (fun y => a ≤ y.1 ∧ y.1 ≤ x.1 ∧ SameI l y.2.1 a b ∧ InsI y.2.1 a y.1 x.1) (fun y => y.1) ⟨(x.1, x.2, ()), ?_⟩ (fun y hJ => ?_)) | (change @Exists ((Nat × List Int × Unit)) (fun _ => updK _ _ _ _ _ _); refine @Exists.intro ((Nat × List Int × Unit)) _ ((y.1 - 1, swapI y.2.1 y.1 (y.1 - 1), ())) ?_) | (change DrawGoal _ _ _ _ _ _; first | (change DrawGoal _ _ _ ({ dst := some 16, op := _, type := _, pos := _, after := _, guard := _ } :: _) _ _; refine draw_tree (gmOk E) [0] (.leaf [(0, true), (1, true), (2, true), (3, true), (4, true), (5, true), (6, true), (7, true), (8, true), (9, true), (10, true), (11, true), (12, true), (13, false), (14, true)]) (by kernel_rfl) ?_)) | (refine @Exists.intro (List Int) _ ?_ ?_; rotate_left) | (change CallGoal _ _ _ _ _ _; first | (refine call0 (lessU_z E _ _) [] rfl True.intro rfl ?_))
  all_goals first
| (dsimp only; first | rfl | omega)
| rfl
| omega
| exact SameI.refl _ _ _
| exact OrdI.one _ _
| exact hI.2.2.1
| exact InsI.start hI.2.2.2
| exact hJ.2.2.1
| (have q := hJ.2.2.1.len; first | omega | (show _ < _; omega) | (show _ ≤ _; omega))
| exact hJ.2.2.2.stop (by intro q; simp only [gI] at q; omega)
| exact hI.2.2.2
| exact hJ.2.2.2.stop (fun q => h (by rw [Int.toNat_natCast, show ((y.1 : Int) - 1).toNat = y.1 - 1 by omega]; exact q.2))
| (have q := hJ.2.2.1.len; rw [List.length_set]; first | omega | (show _ < _; omega) | (show _ ≤ _; omega))
| (rw [Int.toNat_natCast, show ((y.1 : Int) - 1).toNat = y.1 - 1 by omega]; rfl)
| exact hJ.2.2.1.swap (by omega) (by omega) hb
| (have q := hJ.2.2.1.len; exact hJ.2.2.2.step (by omega) (by omega) (by omega) (by simp only [gI, Int.toNat_natCast, show ((y.1 : Int) - 1).toNat = y.1 - 1 by omega] at *; assumption))
| (rw [show b = x.1 by omega]; exact hI.2.2.2)
| (refine ⟨fun p q h1 h2 h3 => ?_⟩; rcases hI.2.1 with e | e; (exact hI.2.2.2.le p q h1 h2 (by omega)); omega)
end Go.Proofs.YtcnbngiplfoomaaGreatDoor
