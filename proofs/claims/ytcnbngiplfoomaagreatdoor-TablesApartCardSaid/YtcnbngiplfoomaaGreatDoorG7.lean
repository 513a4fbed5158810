/- A part of the proof: texts put together. -/
import Derived.Test.YtcnbngiplfoomaaGreatDoorG6
import Derived.Test.YtcnbngiplfoomaaGreatDoorG4
set_option linter.unusedSectionVars false
set_option linter.unusedSimpArgs false
set_option linter.unusedVariables false
namespace Go.Proofs.YtcnbngiplfoomaaGreatDoor
open Go.Zz Go.Px
set_option linter.unusedVariables false
set_option linter.unusedSectionVars false
set_option linter.unusedSimpArgs false
set_option maxRecDepth 10000
theorem stridx_rule {Γ : Ctx} {sv : Operand → SV} {H : Hp} {K : List Prop → SV → Prop} {t : TypeId} {X Y : Operand} {s : ByteArray} {n : Int} (hu : Γ.P.underlying t = some .string) (hX : sv X = .str s) (hY : sv Y = .int .u8 n) (hn : 0 ≤ n ∧ n.toNat < s.size) (k1 : ∀ b : UInt8, K [] (.int .u8 ((b.toNat : Nat) : Int))) : RdGoal Γ sv H (.index t X Y) K :=
  ⟨fun En V nx oper hop hB hb => ⟨[], .int .u8 (((s[n.toNat]'hn.2).toNat : Nat) : Int), by simp only [SV.bd], k1 _, fun _ β w _ => by
    have h1 : s[n.toNat]? = some (s[n.toNat]'hn.2) := by simp [hn.2]
    simp [execOp, hop, Instr.index, hX, hY, SV.den, run_underlying hu, asIntOf, hn.1, h1, Result.andThen]⟩⟩
theorem wrap8 {x : Int} (h : 0 ≤ x ∧ x ≤ 200) : IntKind.u8.wrap x = x := by
  have : IntKind.u8.wrap x = x % 256 := by simp [IntKind.wrap, IntKind.bits, IntKind.signed]
  rw [this]; omega
set_option maxHeartbeats 4000000 in
theorem len64_z (E : Nat → Addr) (x : Int) (h : 0 ≤ x ∧ x ≤ 200) : Does (Gm E) 165 ⟨[.int .u64 x], [], 0, 0, Int, fun y => 0 ≤ y ∧ y ≤ 300, fun y => .int .i64 y, fun _ => []⟩ := by
  refine fn_intro (gmOk E) 25 0 [] Tryz.func165 rfl rfl rfl rfl rfl ?_
  repeat' first | (intro h; first | (exfalso; omega; done) | skip) | (refine And.intro ?_ ?_) | exact True.intro | (refine @Exists.intro Unit _ () ?_) | (refine @Exists.intro (_ = _) _ rfl ?_) | (change RdGoal _ _ _ _ _; refine stridx_rule Tryz.underlying9 rfl rfl ?_ (fun b => ?_)) | (refine @Exists.intro (Int) _ ?_ ?_; rotate_left)
  all_goals first | rfl | omega | exact wrap8 (by omega) | (refine Nat.lt_of_lt_of_eq (show x.toNat < 256 by omega) ?_; first | rfl | kernel_rfl | decide) | (simp only [IntKind.wrap]; rw [if_neg (by decide)]; simp [IntKind.bits]; omega) | (refine ⟨by omega, ?_⟩; show x.toNat < 256; omega) | (have := b.toNat_lt; first | omega | (constructor <;> omega)) | (refine ⟨by omega, ?_⟩; decide +revert)
set_option maxHeartbeats 4000000 in
theorem len_z (E : Nat → Addr) (x : Int) (h : 0 ≤ x ∧ x ≤ 200) : Does (Gm E) 142 ⟨[.int .u64 x], [], 0, 0, Int, fun y => 0 ≤ y ∧ y ≤ 300, fun y => .int .i64 y, fun _ => []⟩ := by
  refine fn_intro (gmOk E) 8 0 [] Tryz.func142 rfl rfl rfl rfl rfl ?_
  repeat' first | (intro h; first | (exfalso; omega; done) | skip) | (refine And.intro ?_ ?_) | exact True.intro | (refine @Exists.intro Unit _ () ?_) | (refine @Exists.intro (_ = _) _ rfl ?_) | (refine @Exists.intro (Int) _ ?_ ?_; rotate_left) | (change CallGoal _ _ _ _ _ _; first | (refine call_rule (len64_z E x h) [] rfl True.intro rfl (fun (y : Int) hy => ?_)))
  all_goals first | rfl | omega | exact hy | exact hy.1 | exact hy.2
set_option maxHeartbeats 4000000 in
theorem pdqFew_z (E : Nat → Addr) (l : List Int) (n k : Nat) (a b : Nat) (y : Int) (h : n = l.length ∧ a ≤ b ∧ b ≤ l.length ∧ b - a ≤ 12 ∧ l.length ≤ 1000000) : Does (Gm E) 146 ⟨[.sl 0 n k, .int .i64 (a : Nat), .int .i64 (b : Nat), .int .i64 y], [(0, .arr Int encU 56 l k)], 1, 1, List Int, fun c => SameI l c a b ∧ OrdI c a b, fun _ => .tup [], fun c => [(0, .arr Int encU 56 c k)]⟩ := by
  obtain ⟨rfl, hab, hb, hd, hm⟩ := h
  refine fn_intro (gmOk E) 134 1 [] Tryz.func146 rfl rfl rfl rfl rfl ?_
  repeat' first | (intro h; first | (exfalso; omega; done) | (exfalso; omega; done) | skip) | (refine And.intro ?_ ?_) | exact True.intro | (refine @Exists.intro Unit _ () ?_) | (refine @Exists.intro (_ = _) _ rfl ?_) | (change LoopGoal _ _ _ _ _ _; refine loop_rounds (gmOk E) [] 1 ?_) | (refine @Exists.intro (List Int) _ ?_ ?_; rotate_left) | (change CallGoal _ _ _ _ _ _; first | (refine call_rule (insU_z E l _ k a b ⟨rfl, hab, hb, hm⟩) [0] rfl (And.intro rfl True.intro) rfl (fun (c : List Int) hc => ?_)))
  all_goals first | rfl | omega | exact hc.1 | exact hc.2
set_option maxHeartbeats 4000000 in
theorem sortFew_z (E : Nat → Addr) (l : List Int) (n k : Nat) (h : n = l.length ∧ l.length ≤ 12) : Does (Gm E) 107 ⟨[.sl 0 n k], [(0, .arr Int encU 56 l k)], 1, 1, List Int, fun c => c.Perm l ∧ OrdI c 0 l.length, fun _ => .tup [], fun c => [(0, .arr Int encU 56 c k)]⟩ := by
  obtain ⟨rfl, hm⟩ := h
  refine fn_intro (gmOk E) 11 1 [] Tryz.func107 rfl rfl rfl rfl rfl ?_
  repeat' first | (change CallGoal _ _ _ _ _ _; first | (change CallGoal _ 142 _ _ _ _; first | (refine call_args [.int .u64 (l.length : Nat)] (fun _ => bdLB_ok _ rfl) (fun En V w hp => by rw [fitP_wrap (k := .u64) (show 0 ≤ ((l.length : Nat) : Int) ∧ ((l.length : Nat) : Int) ≤ 18446744073709551615 by omega)]) ?_; change CallGoal _ _ _ _ _ _; refine call_rule (len_z E (l.length : Nat) (by omega)) [] rfl True.intro rfl (fun (y : Int) hy => ?_)))) | (intro h; first | (exfalso; omega; done) | skip) | (refine And.intro ?_ ?_) | exact True.intro | (refine @Exists.intro Unit _ () ?_) | (refine @Exists.intro (_ = _) _ rfl ?_) | (refine @Exists.intro (List Int) _ ?_ ?_; rotate_left) | (change CallGoal _ _ _ _ _ _; first | (refine call_rule (pdqFew_z E l _ k 0 l.length y ⟨rfl, by omega, by omega, by omega, by omega⟩) [0] rfl (And.intro rfl True.intro) rfl (fun (c : List Int) hc => ?_)))
  all_goals first | rfl | omega | exact hc.1.perm | exact hc.2
end Go.Proofs.YtcnbngiplfoomaaGreatDoor
namespace Go.Proofs.YtcnbngiplfoomaaGreatDoor
open Go.Zz Go.Px
set_option linter.unusedVariables false
set_option linter.unusedSectionVars false
set_option linter.unusedSimpArgs false
set_option maxRecDepth 10000
section
variable {R : List Ey} {x : XT} {c : List Int}
theorem masks_ris (R : List Ey) : Rises ltZ (masksR R) := by
  unfold masksR Rises
  refine List.Pairwise.filter _ (List.Pairwise.map _ (fun a b h => ?_) (List.pairwise_lt_range (n := 1024)))
  simp only [ltZ, decide_eq_true_eq]; omega
theorem ord_ris {c : List Int} (hn : c.Nodup) (ho : OrdI c 0 c.length) : Rises ltZ c := by
  refine List.pairwise_iff_getElem.2 fun i j hi hj hij => ?_
  have h1 := ho.le i j (by omega) hij hj
  rw [gI_at hi, gI_at hj] at h1
  have h2 : c[i] ≠ c[j] := fun e => by have := (List.getElem_inj hn).1 e; omega
  simp only [ltZ, decide_eq_true_eq]; omega
theorem XOk.masks (hx : XOk R x) (hp : c.Perm (x.1.map fun y : Int × List Ey => y.1)) (ho : OrdI c 0 c.length) : c = masksR R := by
  have hn : c.Nodup := hp.nodup_iff.2 hx.inv.tnd
  refine Rises.ext ordZ (ord_ris hn ho) (masks_ris R) fun m => ?_
  rw [hp.mem_iff, mem_masksR hx.inv.row, ← hx.inv.hasT, hasK_iff]
end
set_option maxHeartbeats 4000000 in
theorem sortedFew_z (E : Nat → Addr) (L : List (Int × Option Nat)) (h : L.length ≤ 12) : Does (Gm E) 66 ⟨[.fn 108 [.ptr 0 0]], [(0, .cells 104 [.mp 1]), (1, .pr (mapPr veU veP L))], 2, 3, List Int × Nat, fun x => (x.1.Perm (L.map (·.1)) ∧ OrdI x.1 0 x.1.length) ∧ x.1.length ≤ x.2, fun x => .sl 2 x.1.length x.2, fun x => [(0, .cells 104 [.mp 1]), (1, .pr (mapPr veU veP L)), (2, .arr Int encU 56 x.1 x.2)]⟩ := by
  refine fn_intro (gmOk E) 9 2 [] Tryz.func66 rfl rfl rfl rfl rfl ?_
  repeat' first | (intro h; first | (exfalso; omega; done) | skip) | (refine And.intro ?_ ?_) | exact True.intro | (refine @Exists.intro Unit _ () ?_) | (refine @Exists.intro (_ = _) _ rfl ?_) | (refine @Exists.intro (List Int × Nat) _ (c, x.2) ?_) | (change CallGoal _ _ _ _ _ _; first | (refine call_rule (collU_z E L (by omega)) [0, 1] rfl (And.intro rfl (And.intro rfl True.intro)) rfl (fun (x : List Int × Nat) (hx : x.1.Perm (L.map (·.1)) ∧ x.1.length ≤ x.2) => ?_)) | (refine call_rule (sortFew_z E x.1 _ x.2 ⟨rfl, by have q := hx.1.length_eq; rw [List.length_map] at q; omega⟩) [2] rfl (And.intro rfl True.intro) rfl (fun (c : List Int) hc => ?_)))
  all_goals first | rfl | omega | exact hc.1.trans hx.1 | (have q := hc.1.length_eq; exact q ▸ hc.2) | (rw [hc.1.length_eq]; first | exact hc.2 | exact hx.2) | exact hc.1.length_eq.symm
set_option maxHeartbeats 4000000 in
theorem sMasks (E : Nat → Addr) (Q : List (PRow Int)) (R : List Ey) (h : (masksR R).length ≤ 12) : Does (Gm E) 20 ⟨[.ptr 0 0], [(0, .pr (storePr E Q R))], 1, 2, Nat, fun q => (masksR R).length ≤ q, fun q => .sl 1 (masksR R).length q, fun q => [(0, .pr (storePr E Q R)), (1, .arr Int encU 56 (masksR R) q)]⟩ := by
  rename _ ≤ 12 => hm
  refine DoesC.does (fn_start Tryz.func20 rfl rfl rfl ?_)
  change EntryGoal _ _ _ _ _
  refine entryG.ex 0 rfl (fun x hx => ?_)
  change EntryGoal _ _ _ _ _
  refine entryG.open_ 0 rfl 5 rfl rfl ?_
  change EntryGoal _ _ _ _ _
  refine entry_go (gmOk E) 9 1 [] Tryz.func20 rfl rfl rfl rfl ?_
  repeat' first | (change RetGoal _ _ _ _ _; first | (have hc := hx.masks (hy.1.1.trans (by rw [show ((ptrL (x.1.map (fun y : Int × List Ey => y.1)) x.2.2.2).map (·.1)) = _ from ptrL_keys])) hy.1.2; refine retG'.cast 7 (.arr Int encU 56 (masksR R) y.2) rfl (by rw [hc]) ?_; change RetGoal _ _ _ _ _; (refine retG'.shut (Γ0 := Gm E) rfl (.cells 108 [.mp 1, .mp 2, .mp 3]) [(1, .pr (mapPr veU veP (ptrL ((x).1.map (fun y : Int × List Ey => y.1)) (x).2.2.2))), (2, .pr (mapPr (Enc.ag (Zz.encP Zz.encI Zz.encI)) vePl (placL (x).2.1 (x).2.2.2))), (3, .pr (mapPr (Enc.ag (Zz.encP encU Zz.encI)) veU (x).2.2.1)), (4, .pr (restPr (tabP E Q) (tabL (x).1) (x).2.2.2))] [0, 2, 3, 4, 5] (And.intro rfl (And.intro rfl (And.intro rfl (And.intro rfl (And.intro rfl True.intro))))) rfl ?_; change RetGoal _ _ _ _ _; refine retG'.hide (X := XT) (p := XOk R) (Φ := fun x => grp (Gm E) (stoH E Q x)) 0 (x) (hx) rfl ?_; change RetGoal _ _ _ _ _; refine ret_done rfl ?_))) | (intro h; first | (exfalso; omega; done) | skip) | (refine And.intro ?_ ?_) | exact True.intro | (refine @Exists.intro Unit _ () ?_) | (refine @Exists.intro (_ = _) _ rfl ?_) | (refine @Exists.intro (Nat) _ ?_ ?_; rotate_left) | (change CallGoal _ _ _ _ _ _; first | (refine call_rule (keysU_z E (ptrL (x.1.map (fun y : Int × List Ey => y.1)) x.2.2.2)) [2] rfl (And.intro rfl True.intro) rfl (fun y1 hy1 => ?_)) | (refine call_rule (sortedFew_z E (ptrL (x.1.map (fun y : Int × List Ey => y.1)) x.2.2.2) (by rw [keys_len, hx.tlen]; exact hm)) [6, 2] rfl (And.intro rfl (And.intro rfl True.intro)) rfl (fun (y : List Int × Nat) hy => ?_)))
  all_goals first | rfl | omega | (rw [hc]; done) | (have q := hy.2; rw [hc] at q; exact q)
end Go.Proofs.YtcnbngiplfoomaaGreatDoor
namespace Go.Proofs.YtcnbngiplfoomaaGreatDoor
open Go.Zz Go.Px
set_option linter.unusedVariables false
set_option linter.unusedSectionVars false
set_option linter.unusedSimpArgs false
set_option maxRecDepth 10000
def aH : Hd := (0, 1)
def aR : Rw := [⟨0, 0, 0⟩]
def aV : V3 := ⟨1, 0, 0⟩
def aR1 : List Ey := insR [] (aH, aR)
def aR2 : List Ey := insR (delR aR1 aH) (aH, putR aR aV)
theorem a_right : rightV aR = true := by decide
theorem a_none : anyM [] (mkI aR) = false := rfl
theorem a_masks0 : (masksR []).length < 32 := by decide +kernel
theorem a_get : getK aR1 aH = some aR := by decide
theorem a_check : vcheck aV = 0 := by decide
theorem a_has : hasV aR aV.k = false := by decide
theorem a_masks1 : (masksR aR1).length = 1 := by decide +kernel
theorem a_room (t : Int) : RoomR aR1 aR t := by
  unfold RoomR; right; rw [a_masks1]; split <;> omega
theorem a_masks2 : masksR aR2 = [3] := by decide +kernel
set_option maxHeartbeats 4000000 in
theorem alive_z (E : Nat → Addr)  : Does (Gm E) 13 (Sp0 [] [(0, .fo (tzF 10))] 1 .tt) := by
  refine DoesC.does (fn_start Tryz.func13 rfl rfl rfl ?_)
  change EntryGoal _ _ _ _ _
  refine entry_go (gmOk E) 32 1 [2] Tryz.func13 rfl rfl rfl rfl ?_
  repeat' first | (change JoinGoal _ _ _ _ _ _ _ _; refine join_stop (gmOk E) ?_) | (change HereGoal _ _ _ _ _ _ _; refine hereG.poolNil Zz.encI 3 ?_; change HereGoal _ _ _ _ _ _ _; refine here_go (gmOk E) ?_) | (change RetGoal _ _ _ _ _; first | (refine ret_done rfl ?_)) | (intro h; first | (exfalso; omega; done) | (exfalso; first | exact h trivial | (exact h (by rw [a_masks2]; rfl)); done) | skip) | (refine And.intro ?_ ?_) | exact True.intro | (refine @Exists.intro Unit _ () ?_) | (refine @Exists.intro (_ = _) _ rfl ?_) | (change CallGoal _ _ _ _ _ _; first | (refine call_rule (sNew E []) [] rfl True.intro rfl (fun y1 hy1 => ?_)) | (refine call_rule (sPutN E [] [] aH aR 1 1 ⟨rfl, rfl, a_right, by decide, by decide, a_none, a_masks0⟩) [1, 2, 3, 0] rfl (And.intro rfl (And.intro rfl (And.intro rfl (And.intro rfl True.intro)))) rfl (fun (S : List (PRow Int)) hS => ?_)) | (refine call_rule (sAddY E ([] ++ S) aR1 aH aR aV ⟨a_get, a_check, a_has, a_room _⟩) [1, 2, 0] rfl (And.intro rfl (And.intro rfl (And.intro rfl True.intro))) rfl (fun (S2 : List (PRow Int)) hS2 => ?_)) | (refine call_rule (sMasks E ([] ++ S ++ S2) aR2 (by rw [a_masks2]; decide)) [1] rfl (And.intro rfl True.intro) rfl (fun (q : Nat) hq => ?_)))
  all_goals first | rfl | omega | (rw [a_masks2]; done) | (rw [a_masks2]; rfl) | (rw [a_masks2]; decide)
end Go.Proofs.YtcnbngiplfoomaaGreatDoor
namespace Go.Proofs.YtcnbngiplfoomaaGreatDoor
open Go.Zz Go.Px
set_option linter.unusedVariables false
set_option linter.unusedSectionVars false
set_option linter.unusedSimpArgs false
set_option maxRecDepth 10000
set_option maxHeartbeats 4000000 in
theorem rin_z (E : Nat → Addr) (n a b : Int) : Does (Gm E) 79 (Sp0 [.int .i64 n, .int .i64 a, .int .i64 b] [] 0 (.dc (a ≤ n ∧ n ≤ b) inferInstance)) := by
  refine fn_intro (gmOk E) 15 0 [] Tryz.func79 rfl rfl rfl rfl rfl ?_
  repeat' first | (intro h; first | (exfalso; omega; done) | skip) | (refine And.intro ?_ ?_) | exact True.intro | (refine @Exists.intro Unit _ () ?_) | (refine @Exists.intro (_ = _) _ rfl ?_)
  all_goals first | rfl | omega | (refine decide_eq_decide.2 ?_; omega)
set_option maxHeartbeats 4000000 in
theorem rcheck_z (E : Nat → Addr) (v : V3) : Does (Gm E) 32 (Sp0 [.agg [.int .i64 v.k, .int .i64 v.a, .int .i64 v.b]] [] 0 (.int .i64 (vcheck v))) := by
  refine fn_intro (gmOk E) 72 0 [] Tryz.func32 rfl rfl rfl rfl rfl ?_
  repeat' first | (intro h; first | (exfalso; omega; done) | (exfalso; omega; done) | skip) | (refine And.intro ?_ ?_) | exact True.intro | (refine @Exists.intro Unit _ () ?_) | (refine @Exists.intro (_ = _) _ rfl ?_) | (change CallGoal _ _ _ _ _ _; first | (refine call0 (rin_z E _ _ _) [] rfl True.intro rfl ?_))
  all_goals first | rfl | (have q := vcheck_eq v.k v.a v.b; change vcheck v = _ at q; rw [q]; (repeat' split) <;> omega) | omega
theorem bad_start (l : List V3) : firstBad (l.drop (0 : Int).toNat) = firstBad l := rfl
theorem bad_next {l : List V3} {i : Int} (hI : 0 ≤ i ∧ i ≤ (l.length : Nat) ∧ firstBad (l.drop i.toNat) = firstBad l) (hi : i < (l.length : Nat)) (hc : vcheck (l.getD i.toNat v0) = 0) : firstBad (l.drop (i + 1).toNat) = firstBad l := by
  rw [← hI.2.2, firstBad_step (d := v0) (by omega : i.toNat < l.length), if_pos hc, show (i + 1).toNat = i.toNat + 1 by omega]
theorem bad_here {l : List V3} {i : Int} (hI : 0 ≤ i ∧ i ≤ (l.length : Nat) ∧ firstBad (l.drop i.toNat) = firstBad l) (hi : i < (l.length : Nat)) (hc : ¬ vcheck (l.getD i.toNat v0) = 0) : vcheck (l.getD i.toNat v0) = firstBad l := by
  rw [← hI.2.2, firstBad_step (d := v0) (by omega : i.toNat < l.length), if_neg hc]
theorem bad_end {l : List V3} {i : Int} (hI : 0 ≤ i ∧ i ≤ (l.length : Nat) ∧ firstBad (l.drop i.toNat) = firstBad l) (hi : ¬ i < (l.length : Nat)) : firstBad l = 0 := by
  rw [← hI.2.2, List.drop_eq_nil_of_le (by omega)]; rfl
theorem few_next {l : List V3} {kk i : Int} (hk0 : 0 ≤ kk) (hC : ∀ q : Int, 0 ≤ q → q < kk → (l.map (·.k)).count q ≤ 1) (hi : ¬ i < (l.length : Nat)) (hc : ¬ 1 < cntTo l kk i) : ∀ q : Int, 0 ≤ q → q < kk + 1 → (l.map (·.k)).count q ≤ 1 := fun q h1 h2 => by
  by_cases e : q = kk
  · subst e; rw [cntTo_end (by omega)] at hc; omega
  · exact hC q h1 (by omega)
theorem few_dup {l : List V3} {kk i : Int} (hi : ¬ i < (l.length : Nat)) (hc : 1 < cntTo l kk i) : noDup l = false := by
  rw [← Bool.not_eq_true]; intro hn
  have := count_one hn kk
  rw [cntTo_end (by omega)] at hc; omega
set_option maxHeartbeats 4000000 in
theorem rowBad (E : Nat → Addr) (l : List V3) (n k : Nat) (h : n = l.length ∧ l.length ≤ 1000 ∧ firstBad l ≠ 0) : Does (Gm E) 53 (Sp0 [.sl 0 n k] [(0, .ro V3 Zz.encV l k)] 1 (.tup [.nils, .int .i64 (firstBad l)])) := by
  obtain ⟨rfl, hm, hb⟩ := h
  refine fn_intro (gmOk E) 49 1 [] Tryz.func53 rfl rfl rfl rfl rfl ?_
  repeat' first | (intro h; first | (exfalso; omega; done) | (exfalso; exact hb (bad_end hI (by omega)); done) | skip) | (refine And.intro ?_ ?_) | exact True.intro | (refine @Exists.intro Unit _ () ?_) | (refine @Exists.intro (_ = _) _ rfl ?_) | (change LoopGoal _ _ _ _ _ _; refine loop_at 2 (gmOk E) rfl [] (X := Int) (fun i => [(14, .int .i64 i)]) (fun i => []) [] (fun i => 0 ≤ i ∧ i ≤ (l.length : Nat) ∧ firstBad (l.drop i.toNat) = firstBad l) (fun i => l.length - i.toNat) ⟨0, ?_⟩ (fun i hI => ?_)) | (change @Exists (Int) (fun _ => updK _ _ _ _ _ _); refine @Exists.intro (Int) _ ((?_)) ?_; rotate_left 1) | (change LoopGoal _ _ _ _ _ _; refine loop_at 10 (gmOk E) rfl [] (X := (Int × Nat)) (fun x => [(8, .int .i64 x.1), (7, .sl 18 (byKinds l x.1.toNat).length x.2)]) (fun x => [(18, .arr V3 Zz.encV 34 (byKinds l x.1.toNat) x.2)]) [17] (fun x => (0 ≤ x.1 ∧ x.1 ≤ 10) ∧ (byKinds l x.1.toNat).length ≤ x.2 ∧ (∀ q : Int, 0 ≤ q → q < x.1 → (l.map (·.k)).count q ≤ 1)) (fun x => (10 - x.1).toNat) ⟨(0, 0), ?_⟩ (fun x hJ => ?_)) | (change @Exists ((Int × Nat)) (fun _ => updK _ _ _ _ _ _); refine @Exists.intro ((Int × Nat)) _ ((x.1 + 1, y.2.1)) ?_) | (change LoopGoal _ _ _ _ _ _; refine loop_at 14 (gmOk E) rfl [] (X := (Int × Nat × Unit)) (fun y => [(31, .int .i64 y.1), (9, .int .i64 (cntTo l x.1 y.1)), (7, .sl 35 (upTo l x.1 y.1).length y.2.1)]) (fun y => [(35, .arr V3 Zz.encV 34 (upTo l x.1 y.1) y.2.1)]) [18] (fun y => (0 ≤ y.1 ∧ y.1 ≤ (l.length : Nat)) ∧ (upTo l x.1 y.1).length ≤ y.2.1) (fun y => l.length - y.1.toNat) ⟨(0, x.2, ()), ?_⟩ (fun y hK => ?_)) | (change @Exists ((Int × Nat × Unit)) (fun _ => updK _ _ _ _ _ _); refine @Exists.intro ((Int × Nat × Unit)) _ ((y.1 + 1, ?_, ())) ?_; rotate_left 1) | (change CallGoal _ _ _ _ _ _; first | (refine call0 (rcheck_z E (l.getD i.toNat v0)) [] rfl True.intro rfl ?_))
  all_goals first
| (dsimp only; first | rfl | omega)
| rfl
| omega
| exact bad_start l
| exact bad_next hI (by assumption) (by assumption)
| exact bad_next hI (by assumption) (Classical.not_not.1 (by assumption))
| exact bad_here hI (by assumption) (by assumption)
set_option maxHeartbeats 4000000 in
theorem rowOk (E : Nat → Addr) (l : List V3) (n k : Nat) (h : n = l.length ∧ l.length ≤ 1000 ∧ firstBad l = 0 ∧ noDup l = true) : Does (Gm E) 53 ⟨[.sl 0 n k], [(0, .ro V3 Zz.encV l k)], 1, 2, Nat, fun q => (byKinds l 10).length ≤ q, fun q => .tup [.sl 1 (byKinds l 10).length q, .int .i64 0], fun q => [(1, .arr V3 Zz.encV 34 (byKinds l 10) q)]⟩ := by
  obtain ⟨rfl, hm, hb, hn⟩ := h
  refine fn_intro (gmOk E) 49 1 [] Tryz.func53 rfl rfl rfl rfl rfl ?_
  repeat' first | (intro h; first | (exfalso; omega; done) | (exfalso; first | exact h (by rw [bad_here hI (by assumption) (by assumption)] at *; assumption) | (rw [few_dup (by assumption) (by assumption)] at hn; cases hn; done); done) | skip) | (refine And.intro ?_ ?_) | exact True.intro | (refine @Exists.intro Unit _ () ?_) | (refine @Exists.intro (_ = _) _ rfl ?_) | (change LoopGoal _ _ _ _ _ _; refine loop_at 2 (gmOk E) rfl [] (X := Int) (fun i => [(14, .int .i64 i)]) (fun i => []) [] (fun i => 0 ≤ i ∧ i ≤ (l.length : Nat) ∧ firstBad (l.drop i.toNat) = firstBad l) (fun i => l.length - i.toNat) ⟨0, ?_⟩ (fun i hI => ?_)) | (change @Exists (Int) (fun _ => updK _ _ _ _ _ _); refine @Exists.intro (Int) _ ((?_)) ?_; rotate_left 1) | (change LoopGoal _ _ _ _ _ _; refine loop_at 10 (gmOk E) rfl [] (X := (Int × Nat)) (fun x => [(8, .int .i64 x.1), (7, .sl 18 (byKinds l x.1.toNat).length x.2)]) (fun x => [(18, .arr V3 Zz.encV 34 (byKinds l x.1.toNat) x.2)]) [17] (fun x => (0 ≤ x.1 ∧ x.1 ≤ 10) ∧ (byKinds l x.1.toNat).length ≤ x.2 ∧ (∀ q : Int, 0 ≤ q → q < x.1 → (l.map (·.k)).count q ≤ 1)) (fun x => (10 - x.1).toNat) ⟨(0, 0), ?_⟩ (fun x hJ => ?_)) | (change @Exists ((Int × Nat)) (fun _ => updK _ _ _ _ _ _); refine @Exists.intro ((Int × Nat)) _ ((x.1 + 1, y.2.1)) ?_) | (change LoopGoal _ _ _ _ _ _; refine loop_at 14 (gmOk E) rfl [] (X := (Int × Nat × Unit)) (fun y => [(31, .int .i64 y.1), (9, .int .i64 (cntTo l x.1 y.1)), (7, .sl 35 (upTo l x.1 y.1).length y.2.1)]) (fun y => [(35, .arr V3 Zz.encV 34 (upTo l x.1 y.1) y.2.1)]) [18] (fun y => (0 ≤ y.1 ∧ y.1 ≤ (l.length : Nat)) ∧ (upTo l x.1 y.1).length ≤ y.2.1) (fun y => l.length - y.1.toNat) ⟨(0, x.2, ()), ?_⟩ (fun y hK => ?_)) | (change @Exists ((Int × Nat × Unit)) (fun _ => updK _ _ _ _ _ _); refine @Exists.intro ((Int × Nat × Unit)) _ ((y.1 + 1, ?_, ())) ?_; rotate_left 1) | (refine @Exists.intro (Nat) _ ?_ ?_; rotate_left) | (change CallGoal _ _ _ _ _ _; first | (refine call0 (rcheck_z E (l.getD i.toNat v0)) [] rfl True.intro rfl ?_))
  all_goals first
| (dsimp only; first | rfl | omega)
| rfl
| omega
| exact bad_start l
| exact bad_next hI (by assumption) (by assumption)
| exact bad_next hI (by assumption) (Classical.not_not.1 (by assumption))
| exact bad_here hI (by assumption) (by assumption)
| exact bad_end hI (by omega)
| exact Nat.le_refl _
| exact congrArg List.length (upTo_zero l x.1).symm
| exact congrArg (fun q => Ch.arr V3 encV _ q _) (upTo_zero l x.1).symm
| (show (upTo l x.1 0).length ≤ _; rw [upTo_zero]; exact hJ.2.1)
| (have q := upTo_len l x.1 y.1; first | omega | (change _ * 24 ≤ _; omega))
| (have q := cntTo_le l x.1 y.1; omega)
| exact (cntTo_in (d := v0) ⟨hK.1.1, by assumption⟩ (by assumption)).symm
| exact (cntTo_out (d := v0) ⟨hK.1.1, by assumption⟩ (by assumption)).symm
| (show _ = (upTo l x.1 (y.1 + 1)).length; rw [upTo_in (d := v0) ⟨hK.1.1, by assumption⟩ (by assumption), List.length_append]; rfl)
| (show _ = (upTo l x.1 (y.1 + 1)).length; rw [upTo_out (d := v0) ⟨hK.1.1, by assumption⟩ (by assumption)])
| (show (upTo l x.1 (y.1 + 1)).length ≤ _; rw [upTo_in (d := v0) ⟨hK.1.1, by assumption⟩ (by assumption), List.length_append]; assumption)
| (show (upTo l x.1 (y.1 + 1)).length ≤ _; rw [upTo_out (d := v0) ⟨hK.1.1, by assumption⟩ (by assumption)]; exact hK.2)
| (show _ = Ch.arr V3 encV _ (upTo l x.1 (y.1 + 1)) _; rw [upTo_in (d := v0) ⟨hK.1.1, by assumption⟩ (by assumption), List.take_length]; rfl)
| (show _ = Ch.arr V3 encV _ (upTo l x.1 (y.1 + 1)) _; rw [upTo_out (d := v0) ⟨hK.1.1, by assumption⟩ (by assumption)])
| exact congrArg List.length (upTo_end (by omega) hJ.1.1).symm
| exact congrArg (fun q => Ch.arr V3 encV _ q _) (upTo_end (by omega) hJ.1.1).symm
| (show (byKinds l (x.1 + 1).toNat).length ≤ _; rw [upTo_end (by omega) hJ.1.1]; exact hK.2)
| (show (byKinds l (x.1 + 1).toNat).length ≤ _; rw [upTo_end (i := y.1) (by omega) hJ.1.1]; exact hK.2)
| (rename_i q h0; exact few_next hJ.1.1 hJ.2.2 (by assumption) (by assumption) q h0 (by assumption))
| exact few_next hJ.1.1 hJ.2.2 (by assumption) (by assumption)
| (rw [show (10 : Nat) = x.1.toNat by omega]; first | rfl | exact hJ.2.1)
| (have e : x.1 = 10 := by omega
   rw [e] at hJ; exact hJ.2.1)
| exact congrArg (fun q : Nat => (byKinds l q).length) (show x.1.toNat = 10 by omega)
| exact congrArg (fun q : Nat => Ch.arr V3 encV _ (byKinds l q) _) (show x.1.toNat = 10 by omega)
set_option maxHeartbeats 4000000 in
theorem rowDup (E : Nat → Addr) (l : List V3) (n k : Nat) (h : n = l.length ∧ l.length ≤ 1000 ∧ firstBad l = 0 ∧ noDup l = false) : Does (Gm E) 53 (Sp0 [.sl 0 n k] [(0, .ro V3 Zz.encV l k)] 1 (.tup [.nils, .int .i64 4])) := by
  obtain ⟨rfl, hm, hb, hn⟩ := h
  refine fn_intro (gmOk E) 49 1 [] Tryz.func53 rfl rfl rfl rfl rfl ?_
  repeat' first | (intro h; first | (exfalso; omega; done) | (exfalso; first | exact h (by rw [bad_here hI (by assumption) (by assumption)] at *; assumption) | (rw [noDup_of hb (fun q h1 h2 => hJ.2.2 q h1 (by omega))] at hn; cases hn; done); done) | skip) | (refine And.intro ?_ ?_) | exact True.intro | (refine @Exists.intro Unit _ () ?_) | (refine @Exists.intro (_ = _) _ rfl ?_) | (change LoopGoal _ _ _ _ _ _; refine loop_at 2 (gmOk E) rfl [] (X := Int) (fun i => [(14, .int .i64 i)]) (fun i => []) [] (fun i => 0 ≤ i ∧ i ≤ (l.length : Nat) ∧ firstBad (l.drop i.toNat) = firstBad l) (fun i => l.length - i.toNat) ⟨0, ?_⟩ (fun i hI => ?_)) | (change @Exists (Int) (fun _ => updK _ _ _ _ _ _); refine @Exists.intro (Int) _ ((?_)) ?_; rotate_left 1) | (change LoopGoal _ _ _ _ _ _; refine loop_at 10 (gmOk E) rfl [] (X := (Int × Nat)) (fun x => [(8, .int .i64 x.1), (7, .sl 18 (byKinds l x.1.toNat).length x.2)]) (fun x => [(18, .arr V3 Zz.encV 34 (byKinds l x.1.toNat) x.2)]) [17] (fun x => (0 ≤ x.1 ∧ x.1 ≤ 10) ∧ (byKinds l x.1.toNat).length ≤ x.2 ∧ (∀ q : Int, 0 ≤ q → q < x.1 → (l.map (·.k)).count q ≤ 1)) (fun x => (10 - x.1).toNat) ⟨(0, 0), ?_⟩ (fun x hJ => ?_)) | (change @Exists ((Int × Nat)) (fun _ => updK _ _ _ _ _ _); refine @Exists.intro ((Int × Nat)) _ ((x.1 + 1, y.2.1)) ?_) | (change LoopGoal _ _ _ _ _ _; refine loop_at 14 (gmOk E) rfl [] (X := (Int × Nat × Unit)) (fun y => [(31, .int .i64 y.1), (9, .int .i64 (cntTo l x.1 y.1)), (7, .sl 35 (upTo l x.1 y.1).length y.2.1)]) (fun y => [(35, .arr V3 Zz.encV 34 (upTo l x.1 y.1) y.2.1)]) [18] (fun y => (0 ≤ y.1 ∧ y.1 ≤ (l.length : Nat)) ∧ (upTo l x.1 y.1).length ≤ y.2.1) (fun y => l.length - y.1.toNat) ⟨(0, x.2, ()), ?_⟩ (fun y hK => ?_)) | (change @Exists ((Int × Nat × Unit)) (fun _ => updK _ _ _ _ _ _); refine @Exists.intro ((Int × Nat × Unit)) _ ((y.1 + 1, ?_, ())) ?_; rotate_left 1) | (change CallGoal _ _ _ _ _ _; first | (refine call0 (rcheck_z E (l.getD i.toNat v0)) [] rfl True.intro rfl ?_))
  all_goals first
| (dsimp only; first | rfl | omega)
| rfl
| omega
| exact bad_start l
| exact bad_next hI (by assumption) (by assumption)
| exact bad_next hI (by assumption) (Classical.not_not.1 (by assumption))
| exact bad_here hI (by assumption) (by assumption)
| exact bad_end hI (by omega)
| exact Nat.le_refl _
| exact congrArg List.length (upTo_zero l x.1).symm
| exact congrArg (fun q => Ch.arr V3 encV _ q _) (upTo_zero l x.1).symm
| (show (upTo l x.1 0).length ≤ _; rw [upTo_zero]; exact hJ.2.1)
| (have q := upTo_len l x.1 y.1; first | omega | (change _ * 24 ≤ _; omega))
| (have q := cntTo_le l x.1 y.1; omega)
| exact (cntTo_in (d := v0) ⟨hK.1.1, by assumption⟩ (by assumption)).symm
| exact (cntTo_out (d := v0) ⟨hK.1.1, by assumption⟩ (by assumption)).symm
| (show _ = (upTo l x.1 (y.1 + 1)).length; rw [upTo_in (d := v0) ⟨hK.1.1, by assumption⟩ (by assumption), List.length_append]; rfl)
| (show _ = (upTo l x.1 (y.1 + 1)).length; rw [upTo_out (d := v0) ⟨hK.1.1, by assumption⟩ (by assumption)])
| (show (upTo l x.1 (y.1 + 1)).length ≤ _; rw [upTo_in (d := v0) ⟨hK.1.1, by assumption⟩ (by assumption), List.length_append]; assumption)
| (show (upTo l x.1 (y.1 + 1)).length ≤ _; rw [upTo_out (d := v0) ⟨hK.1.1, by assumption⟩ (by assumption)]; exact hK.2)
| (show _ = Ch.arr V3 encV _ (upTo l x.1 (y.1 + 1)) _; rw [upTo_in (d := v0) ⟨hK.1.1, by assumption⟩ (by assumption), List.take_length]; rfl)
| (show _ = Ch.arr V3 encV _ (upTo l x.1 (y.1 + 1)) _; rw [upTo_out (d := v0) ⟨hK.1.1, by assumption⟩ (by assumption)])
| exact congrArg List.length (upTo_end (by omega) hJ.1.1).symm
| exact congrArg (fun q => Ch.arr V3 encV _ q _) (upTo_end (by omega) hJ.1.1).symm
| (show (byKinds l (x.1 + 1).toNat).length ≤ _; rw [upTo_end (by omega) hJ.1.1]; exact hK.2)
| (show (byKinds l (x.1 + 1).toNat).length ≤ _; rw [upTo_end (i := y.1) (by omega) hJ.1.1]; exact hK.2)
| (rename_i q h0; exact few_next hJ.1.1 hJ.2.2 (by assumption) (by assumption) q h0 (by assumption))
| exact few_next hJ.1.1 hJ.2.2 (by assumption) (by assumption)
| (rw [show (10 : Nat) = x.1.toNat by omega]; first | rfl | exact hJ.2.1)
| (have e : x.1 = 10 := by omega
   rw [e] at hJ; exact hJ.2.1)
| exact congrArg (fun q : Nat => (byKinds l q).length) (show x.1.toNat = 10 by omega)
| exact congrArg (fun q : Nat => Ch.arr V3 encV _ (byKinds l q) _) (show x.1.toNat = 10 by omega)
set_option maxHeartbeats 4000000 in
theorem rsame_z (E : Nat → Addr) (l m : List V3) (n k n2 k2 : Nat) (h : (n = l.length ∧ n2 = m.length) ∧ l.length ≤ 1000000 ∧ m.length ≤ 1000000) : Does (Gm E) 19 (Sp0 [.sl 0 n k, .sl 1 n2 k2] [(0, .ro V3 Zz.encV l k), (1, .ro V3 Zz.encV m k2)] 2 (.bl (sameL l m))) := by
  obtain ⟨⟨rfl, rfl⟩, h1, h2⟩ := h
  refine fn_intro (gmOk E) 26 2 [] Tryz.func19 rfl rfl rfl rfl rfl ?_
  repeat' first | (intro h; first | (exfalso; omega; done) | skip) | (refine And.intro ?_ ?_) | exact True.intro | (refine @Exists.intro Unit _ () ?_) | (refine @Exists.intro (_ = _) _ rfl ?_) | (change LoopGoal _ _ _ _ _ _; refine loop_at 4 (gmOk E) rfl [] (X := Int) (fun i => [(13, .int .i64 i)]) (fun i => []) [] (fun i => 0 ≤ i ∧ i ≤ (l.length : Nat) ∧ l.length = m.length ∧ ∀ j, j < i.toNat → l.getD j v0 = m.getD j v0) (fun i => l.length - i.toNat) ⟨0, ?_⟩ (fun i hI => ?_)) | (change @Exists (Int) (fun _ => updK _ _ _ _ _ _); refine @Exists.intro (Int) _ ((?_)) ?_; rotate_left 1) | (change DrawGoal _ _ _ _ _ _; first | (change DrawGoal _ _ _ ({ dst := some 16, op := _, type := _, pos := _, after := _, guard := _ } :: _) _ _; refine draw_tree (gmOk E) [0, 1] (.leaf [(0, true), (1, true), (2, true), (3, true), (4, true), (5, true), (6, true), (7, true), (8, true)]) (by kernel_rfl) ?_))
  all_goals first
| (dsimp only; first | rfl | omega)
| rfl
| omega
| exact (sameL_len (by assumption)).symm
| exact (sameL_at (j := i.toNat) v0 (v3_ne (by assumption))).symm
| (rename_i j hj; exact same_next v0 hI.1 hI.2.2.2 (v3_eq (Classical.not_not.1 (by assumption))) j hj)
| (rename_i j; exact same_next v0 hI.1 hI.2.2.2 (v3_eq (Classical.not_not.1 (by assumption))) j h)
| exact (sameL_all v0 hI.2.2.1 (fun j hj => hI.2.2.2 j (by omega))).symm
set_option maxHeartbeats 4000000 in
theorem rrBad (E : Nat → Addr) (l : List V3) (n k : Nat) (h : n = l.length ∧ l.length ≤ 1000 ∧ firstBad l ≠ 0) : Does (Gm E) 14 (Sp0 [.sl 0 n k] [(0, .ro V3 Zz.encV l k)] 1 (.bl (rightV l))) := by
  obtain ⟨rfl, hm, hb⟩ := h
  refine fn_intro (gmOk E) 17 1 [] Tryz.func14 rfl rfl rfl rfl rfl ?_
  repeat' first | (intro h; first | (exfalso; omega; done) | (exfalso; first | exact h trivial | exact hb (by omega) | omega; done) | skip) | (refine And.intro ?_ ?_) | exact True.intro | (refine @Exists.intro Unit _ () ?_) | (refine @Exists.intro (_ = _) _ rfl ?_) | (change CallGoal _ _ _ _ _ _; first | (refine call0 (rowBad E l _ k ⟨rfl, hm, hb⟩) [0] rfl (And.intro rfl True.intro) rfl ?_))
  all_goals first | rfl | omega | exact (rightV_bad hb).symm
set_option maxHeartbeats 4000000 in
theorem rrDup (E : Nat → Addr) (l : List V3) (n k : Nat) (h : n = l.length ∧ l.length ≤ 1000 ∧ firstBad l = 0 ∧ noDup l = false) : Does (Gm E) 14 (Sp0 [.sl 0 n k] [(0, .ro V3 Zz.encV l k)] 1 (.bl (rightV l))) := by
  obtain ⟨rfl, hm, hb, hn⟩ := h
  refine fn_intro (gmOk E) 17 1 [] Tryz.func14 rfl rfl rfl rfl rfl ?_
  repeat' first | (intro h; first | (exfalso; omega; done) | (exfalso; first | exact h trivial | exact hb (by omega) | omega; done) | skip) | (refine And.intro ?_ ?_) | exact True.intro | (refine @Exists.intro Unit _ () ?_) | (refine @Exists.intro (_ = _) _ rfl ?_) | (change CallGoal _ _ _ _ _ _; first | (refine call0 (rowDup E l _ k ⟨rfl, hm, hb, hn⟩) [0] rfl (And.intro rfl True.intro) rfl ?_))
  all_goals first | rfl | omega | exact (rightV_dup hn).symm
theorem bk_len (l : List V3) (hm : l.length ≤ 1000) : (byKinds l 10).length ≤ 1000000 := by have := byKinds_len l 10; omega
set_option maxHeartbeats 4000000 in
theorem rrOk (E : Nat → Addr) (l : List V3) (n k : Nat) (h : n = l.length ∧ l.length ≤ 1000 ∧ firstBad l = 0 ∧ noDup l = true) : Does (Gm E) 14 (Sp0 [.sl 0 n k] [(0, .ro V3 Zz.encV l k)] 1 (.bl (rightV l))) := by
  obtain ⟨rfl, hm, hb, hn⟩ := h
  refine fn_intro (gmOk E) 17 1 [] Tryz.func14 rfl rfl rfl rfl rfl ?_
  repeat' first | (intro h; first | (exfalso; omega; done) | (exfalso; first | exact h trivial | exact hb (by omega) | omega; done) | skip) | (refine And.intro ?_ ?_) | exact True.intro | (refine @Exists.intro Unit _ () ?_) | (refine @Exists.intro (_ = _) _ rfl ?_) | (change CallGoal _ _ _ _ _ _; first | (refine call_rule (rowOk E l _ k ⟨rfl, hm, hb, hn⟩) [0] rfl (And.intro rfl True.intro) rfl (fun (q : Nat) hq => ?_))) | (change CallGoal _ _ _ _ _ _; first | (refine call0 (rsame_z E l (byKinds l 10) _ k _ q ⟨⟨rfl, rfl⟩, by omega, bk_len l hm⟩) [0, 1] rfl (And.intro rfl (And.intro rfl True.intro)) rfl ?_))
  all_goals first | rfl | omega | exact rright_eq hb hn | exact (rright_eq hb hn).symm
theorem rright_z (E : Nat → Addr) (l : List V3) (n k : Nat) (h : n = l.length ∧ l.length ≤ 1000) : Does (Gm E) 14 (Sp0 [.sl 0 n k] [(0, .ro V3 Zz.encV l k)] 1 (.bl (rightV l))) := by
  by_cases hb : firstBad l = 0
  · cases hn : noDup l with
    | true => exact rrOk E l n k ⟨h.1, h.2, hb, hn⟩
    | false => exact rrDup E l n k ⟨h.1, h.2, hb, hn⟩
  · exact rrBad E l n k ⟨h.1, h.2, hb⟩
end Go.Proofs.YtcnbngiplfoomaaGreatDoor
namespace Go.Proofs.YtcnbngiplfoomaaGreatDoor
open Go.Zz Go.Px
set_option linter.unusedVariables false
set_option linter.unusedSectionVars false
set_option linter.unusedSimpArgs false
set_option maxRecDepth 10000
section
variable {row : Rw} {f i : Int} {r : Rw} {v : V3}
theorem nodup_sub_lenT {α : Type} [DecidableEq α] : ∀ {l m : List α}, l.Nodup → (∀ x ∈ l, x ∈ m) → l.length ≤ m.length
  | [], _, _, _ => Nat.zero_le _
  | x :: r, m, hd, h => by
    have hd' := List.nodup_cons.1 hd
    have h1 : (r.length) ≤ (m.erase x).length := nodup_sub_lenT hd'.2 fun y hy => (List.mem_erase_of_ne (fun e => hd'.1 (by rw [← e]; exact hy))).2 (h y (List.mem_cons_of_mem _ hy))
    have h2 : x ∈ m := h x (List.mem_cons_self ..)
    rw [List.length_erase_of_mem h2] at h1
    have := List.length_pos_of_mem h2
    rw [List.length_cons]
    omega
theorem masks_len (R : List Ey) : (masksR R).length ≤ R.length := by
  have := nodup_sub_lenT (masksR_nd R) (m := R.map fun e => mkI e.2) fun m hm => by
    obtain ⟨_, h⟩ := List.mem_filter.1 hm
    obtain ⟨e, he, q⟩ := List.any_eq_true.1 h
    exact List.mem_map.2 ⟨e, he, by simpa using q⟩
  simpa using this
end
end Go.Proofs.YtcnbngiplfoomaaGreatDoor
namespace Go.Proofs.YtcnbngiplfoomaaGreatDoor
open Go.Zz Go.Px
set_option linter.unusedVariables false
set_option linter.unusedSectionVars false
set_option linter.unusedSimpArgs false
set_option maxRecDepth 10000
section
variable {R : List Ey} {h : Hd} {r r' : Rw} {v : V3} {rows : List Rw} {i j : Nat}
theorem all_lt (hR : ∀ y ∈ R, ltE y (h, r) = true) : insR R (h, r) = R ++ [(h, r)] := by
  unfold insR
  rw [List.filter_eq_self.2 hR, List.filter_eq_nil_iff.2 fun y hy => by rw [hR y hy]; simp]
theorem ris_nd (hs : Rises ltE R) : (R.map (·.1)).Nodup := by
  have : (R.map (·.1)).Pairwise fun x y => ltH x y = true := List.Pairwise.map _ (fun _ _ h => h) hs
  exact Rises.nodup ordH this
def hI (i : Nat) : Hd := ((i : Int), 1)
def rowsR (rows : List Rw) (i : Nat) : List Ey := (List.range i).map fun j => (hI j, rows.getD j [])
theorem rowsR_len : (rowsR rows i).length = i := by unfold rowsR; rw [List.length_map, List.length_range]
theorem ltH_nat : ltH (hI i) (hI j) = true ↔ i < j := by
  unfold hI ltH; simp
theorem rowsR_lt (r : Rw) : ∀ y ∈ rowsR rows i, ltE y (hI i, r) = true := fun y hy => by
  unfold rowsR at hy
  obtain ⟨j, hj, rfl⟩ := List.mem_map.1 hy
  rw [List.mem_range] at hj
  exact ltH_nat.2 hj
theorem rowsR_ins : insR (rowsR rows i) (hI i, rows.getD i []) = rowsR rows (i + 1) := by
  rw [all_lt (rowsR_lt _)]
  unfold rowsR; rw [List.range_succ, List.map_append]; rfl
theorem rowsR_new : hasK (rowsR rows i) (hI i) = false := by
  rw [← Bool.not_eq_true, hasK_iff]
  intro h
  obtain ⟨y, hy, e⟩ := List.mem_map.1 h
  have := rowsR_lt [] y hy
  unfold ltE at this; rw [e, ordH.irr] at this; cases this
theorem rowsR_rises : Rises ltE (rowsR rows i) := by
  unfold rowsR Rises
  exact List.Pairwise.map _ (fun a b h => ltH_nat.2 h) List.pairwise_lt_range
theorem rowsR_get (hj : j < i) : getK (rowsR rows i) (hI j) = some (rows.getD j []) := by
  refine (kget (ris_nd rowsR_rises)).2 ?_
  unfold rowsR
  exact List.mem_map.2 ⟨j, List.mem_range.2 hj, rfl⟩
end
section
variable {Qv : List (PRow V3)} {i j : Nat} {r : Rw} {f : Int}
theorem masks_few {R : List Ey} (h : R.length ≤ 30) : (masksR R).length < 32 := by have := masks_len R; omega
end
theorem sPut (E : Nat → Addr) (Q : List (PRow Int)) (R : List Ey) (hd : Hd) (row : Rw) (n k : Nat) (h : n = row.length ∧ hasK R hd = false ∧ rightV row = true ∧ row.length ≤ 1000000 ∧ R.length < 128 ∧ (anyM R (mkI row) = true ∨ (masksR R).length < 32)) : Does (Gm E) 16 ⟨[.ptr 0 0, .agg [.int .i64 hd.1, .int .i64 hd.2], .sl 2 n k], [(0, .pr (storePr E Q R)), (1, .pr (poolPr Zz.encI 3 Q)), (2, .ro V3 Zz.encV row k), (3, .fo (tzF 10))], 4, 4, (List (PRow Int)), fun _ => True, fun _ => .nili, fun S => [(0, .pr (storePr E (Q ++ S) (insR R (hd, row)))), (1, .pr (poolPr Zz.encI 3 (Q ++ S)))]⟩ := by
  cases hm : anyM R (mkI row) with
  | true => exact sPutY E Q R hd row n k ⟨h.1, h.2.1, h.2.2.1, h.2.2.2.1, h.2.2.2.2.1, hm⟩
  | false => exact sPutN E Q R hd row n k ⟨h.1, h.2.1, h.2.2.1, h.2.2.2.1, h.2.2.2.2.1, hm, h.2.2.2.2.2.resolve_left fun q => by rw [hm] at q; cases q⟩
end Go.Proofs.YtcnbngiplfoomaaGreatDoor
namespace Go.Proofs.YtcnbngiplfoomaaGreatDoor
open Go.Zz Go.Px
set_option linter.unusedVariables false
set_option linter.unusedSectionVars false
set_option linter.unusedSimpArgs false
set_option maxRecDepth 10000
set_option maxHeartbeats 4000000 in
theorem sSetN (E : Nat → Addr) (Q : List (PRow Int)) (R : List Ey) (hd : Hd) (v : V3) (h : hasK R hd = false) : Does (Gn E) 27 ⟨[.ptr 0 0, .agg [.int .i64 hd.1, .int .i64 hd.2], .agg [.int .i64 v.k, .int .i64 v.a, .int .i64 v.b]], [(0, .pr (storePr E Q R))], 1, 1, Unit, fun _ => True, fun _ => .err 4, fun _ => [(0, .pr (storePr E Q R))]⟩ := by
  rename hasK R hd = false => hN
  refine DoesC.does (fn_start Tryz.func27 rfl rfl rfl ?_)
  change EntryGoal _ _ _ _ _
  refine entryG.ex 0 rfl (fun x hx => ?_)
  change EntryGoal _ _ _ _ _
  refine entryG.open_ 0 rfl 5 rfl rfl ?_
  change EntryGoal _ _ _ _ _
  refine entry_go (gnOk E) 24 1 [] Tryz.func27 rfl rfl rfl rfl ?_
  repeat' first | (change RetGoal _ _ _ _ _; first | (refine retG'.shut (Γ0 := Gm E) rfl (.cells 108 [.mp 1, .mp 2, .mp 3]) [(1, .pr (mapPr veU veP (ptrL ((x).1.map (fun y : Int × List Ey => y.1)) (x).2.2.2))), (2, .pr (mapPr (Enc.ag (Zz.encP Zz.encI Zz.encI)) vePl (placL (x).2.1 (x).2.2.2))), (3, .pr (mapPr (Enc.ag (Zz.encP encU Zz.encI)) veU (x).2.2.1)), (4, .pr (restPr (tabP E Q) (tabL (x).1) (x).2.2.2))] [0, 2, 3, 4, 5] (And.intro rfl (And.intro rfl (And.intro rfl (And.intro rfl (And.intro rfl True.intro))))) rfl ?_; change RetGoal _ _ _ _ _; refine retG'.hide (X := XT) (p := XOk R) (Φ := fun x => grp (Gm E) (stoH E Q x)) 0 (x) (hx) rfl ?_; change RetGoal _ _ _ _ _; refine ret_done rfl ?_)) | (intro h; first | (exfalso; omega; done) | (exfalso; exact h trivial; done) | skip) | (refine And.intro ?_ ?_) | exact True.intro | (refine @Exists.intro Unit _ () ?_) | (refine @Exists.intro (_ = _) _ rfl ?_) | (change CallGoal _ _ _ _ _ _; first | (refine call_rule (sFindN E x.2.1 x.2.2.2 hd (by rw [hx.inv.has]; exact hN)) [0, 2, 3, 4, 5] rfl (And.intro rfl (And.intro rfl True.intro)) rfl (fun (y1 : Unit) hy1 => ?_)))
  all_goals first | rfl | omega
set_option maxHeartbeats 4000000 in
theorem sTakeN (E : Nat → Addr) (Q : List (PRow Int)) (R : List Ey) (hd : Hd) (h : hasK R hd = false) : Does (Gn E) 25 ⟨[.ptr 0 0, .agg [.int .i64 hd.1, .int .i64 hd.2]], [(0, .pr (storePr E Q R)), (1, .fo (roPool Zz.encI Q))], 2, 3, Unit, fun _ => True, fun _ => .tup [.agg [.int .i64 0, .int .i64 0, .nils], .err 4], fun _ => [(0, .pr (storePr E Q R))]⟩ := by
  rename hasK R hd = false => hN
  refine DoesC.does (fn_start Tryz.func25 rfl rfl rfl ?_)
  change EntryGoal _ _ _ _ _
  refine entryG.ex 0 rfl (fun x hx => ?_)
  change EntryGoal _ _ _ _ _
  refine entryG.open_ 0 rfl 5 rfl rfl ?_
  change EntryGoal _ _ _ _ _
  refine entry_go (gnOk E) 73 2 [] Tryz.func25 rfl rfl rfl rfl ?_
  repeat' first | (change RetGoal _ _ _ _ _; first | (refine retG'.shut (Γ0 := Gm E) rfl (.cells 108 [.mp 1, .mp 2, .mp 3]) [(1, .pr (mapPr veU veP (ptrL ((x).1.map (fun y : Int × List Ey => y.1)) (x).2.2.2))), (2, .pr (mapPr (Enc.ag (Zz.encP Zz.encI Zz.encI)) vePl (placL (x).2.1 (x).2.2.2))), (3, .pr (mapPr (Enc.ag (Zz.encP encU Zz.encI)) veU (x).2.2.1)), (4, .pr (restPr (tabP E Q) (tabL (x).1) (x).2.2.2))] [0, 3, 4, 5, 6] (And.intro rfl (And.intro rfl (And.intro rfl (And.intro rfl (And.intro rfl True.intro))))) rfl ?_; change RetGoal _ _ _ _ _; refine retG'.hide (X := XT) (p := XOk R) (Φ := fun x => grp (Gm E) (stoH E Q x)) 0 (x) (hx) rfl ?_; change RetGoal _ _ _ _ _; refine ret_done rfl ?_)) | (intro h; first | (exfalso; omega; done) | (exfalso; exact h trivial; done) | skip) | (refine And.intro ?_ ?_) | exact True.intro | (refine @Exists.intro Unit _ () ?_) | (refine @Exists.intro (_ = _) _ rfl ?_) | (change CallGoal _ _ _ _ _ _; first | (refine call_rule (sFindN E x.2.1 x.2.2.2 hd (by rw [hx.inv.has]; exact hN)) [0, 3, 4, 5, 6] rfl (And.intro rfl (And.intro rfl True.intro)) rfl (fun (y1 : Unit) hy1 => ?_)))
  all_goals first | rfl | omega
set_option maxHeartbeats 4000000 in
theorem sAddN (E : Nat → Addr) (Q : List (PRow Int)) (R : List Ey) (hd : Hd) (v : V3) (h : hasK R hd = false) : Does (Gn E) 17 ⟨[.ptr 0 0, .agg [.int .i64 hd.1, .int .i64 hd.2], .agg [.int .i64 v.k, .int .i64 v.a, .int .i64 v.b]], [(0, .pr (storePr E Q R)), (1, .pr (poolPr Zz.encI 3 Q)), (2, .fo (tzF 10))], 3, 3, Unit, fun _ => True, fun _ => .err 4, fun _ => [(0, .pr (storePr E Q R)), (1, .pr (poolPr Zz.encI 3 Q))]⟩ := by
  rename hasK R hd = false => hN
  refine DoesC.does (fn_start Tryz.func17 rfl rfl rfl ?_)
  change EntryGoal _ _ _ _ _
  refine entryG.ex 0 rfl (fun x hx => ?_)
  change EntryGoal _ _ _ _ _
  refine entryG.open_ 0 rfl 5 rfl rfl ?_
  change EntryGoal _ _ _ _ _
  refine entry_go (gnOk E) 38 3 [] Tryz.func17 rfl rfl rfl rfl ?_
  repeat' first | (change RetGoal _ _ _ _ _; first | (refine retG'.shut (Γ0 := Gm E) rfl (.cells 108 [.mp 1, .mp 2, .mp 3]) [(1, .pr (mapPr veU veP (ptrL ((x).1.map (fun y : Int × List Ey => y.1)) (x).2.2.2))), (2, .pr (mapPr (Enc.ag (Zz.encP Zz.encI Zz.encI)) vePl (placL (x).2.1 (x).2.2.2))), (3, .pr (mapPr (Enc.ag (Zz.encP encU Zz.encI)) veU (x).2.2.1)), (4, .pr (restPr (tabP E Q) (tabL (x).1) (x).2.2.2))] [0, 4, 5, 6, 7] (And.intro rfl (And.intro rfl (And.intro rfl (And.intro rfl (And.intro rfl True.intro))))) rfl ?_; change RetGoal _ _ _ _ _; refine retG'.hide (X := XT) (p := XOk R) (Φ := fun x => grp (Gm E) (stoH E Q x)) 0 (x) (hx) rfl ?_; change RetGoal _ _ _ _ _; refine ret_done rfl ?_)) | (intro h; first | (exfalso; omega; done) | (exfalso; exact h trivial; done) | skip) | (refine And.intro ?_ ?_) | exact True.intro | (refine @Exists.intro Unit _ () ?_) | (refine @Exists.intro (_ = _) _ rfl ?_) | (change CallGoal _ _ _ _ _ _; first | (refine call_rule (sFindN E x.2.1 x.2.2.2 hd (by rw [hx.inv.has]; exact hN)) [0, 4, 5, 6, 7] rfl (And.intro rfl (And.intro rfl True.intro)) rfl (fun (y1 : Unit) hy1 => ?_)))
  all_goals first | rfl | omega
set_option maxHeartbeats 4000000 in
theorem sRemN (E : Nat → Addr) (Q : List (PRow Int)) (R : List Ey) (hd : Hd) (kk : Int) (h : hasK R hd = false) : Does (Gn E) 26 ⟨[.ptr 0 0, .agg [.int .i64 hd.1, .int .i64 hd.2], .int .i64 kk], [(0, .pr (storePr E Q R)), (1, .pr (poolPr Zz.encI 3 Q)), (2, .fo (tzF 10))], 3, 3, Unit, fun _ => True, fun _ => .err 4, fun _ => [(0, .pr (storePr E Q R)), (1, .pr (poolPr Zz.encI 3 Q))]⟩ := by
  rename hasK R hd = false => hN
  refine DoesC.does (fn_start Tryz.func26 rfl rfl rfl ?_)
  change EntryGoal _ _ _ _ _
  refine entryG.ex 0 rfl (fun x hx => ?_)
  change EntryGoal _ _ _ _ _
  refine entryG.open_ 0 rfl 5 rfl rfl ?_
  change EntryGoal _ _ _ _ _
  refine entry_go (gnOk E) 31 3 [] Tryz.func26 rfl rfl rfl rfl ?_
  repeat' first | (change RetGoal _ _ _ _ _; first | (refine retG'.shut (Γ0 := Gm E) rfl (.cells 108 [.mp 1, .mp 2, .mp 3]) [(1, .pr (mapPr veU veP (ptrL ((x).1.map (fun y : Int × List Ey => y.1)) (x).2.2.2))), (2, .pr (mapPr (Enc.ag (Zz.encP Zz.encI Zz.encI)) vePl (placL (x).2.1 (x).2.2.2))), (3, .pr (mapPr (Enc.ag (Zz.encP encU Zz.encI)) veU (x).2.2.1)), (4, .pr (restPr (tabP E Q) (tabL (x).1) (x).2.2.2))] [0, 4, 5, 6, 7] (And.intro rfl (And.intro rfl (And.intro rfl (And.intro rfl (And.intro rfl True.intro))))) rfl ?_; change RetGoal _ _ _ _ _; refine retG'.hide (X := XT) (p := XOk R) (Φ := fun x => grp (Gm E) (stoH E Q x)) 0 (x) (hx) rfl ?_; change RetGoal _ _ _ _ _; refine ret_done rfl ?_)) | (intro h; first | (exfalso; omega; done) | (exfalso; exact h trivial; done) | skip) | (refine And.intro ?_ ?_) | exact True.intro | (refine @Exists.intro Unit _ () ?_) | (refine @Exists.intro (_ = _) _ rfl ?_) | (change CallGoal _ _ _ _ _ _; first | (refine call_rule (sFindN E x.2.1 x.2.2.2 hd (by rw [hx.inv.has]; exact hN)) [0, 4, 5, 6, 7] rfl (And.intro rfl (And.intro rfl True.intro)) rfl (fun (y1 : Unit) hy1 => ?_)))
  all_goals first | rfl | omega
theorem sPutA (E : Nat → Addr) (Q : List (PRow Int)) (R : List Ey) (hd : Hd) (row : Rw) (n k : Nat) (h : n = row.length ∧ row.length ≤ 1000000) : Does (Gn E) 16 ⟨[.ptr 0 0, .agg [.int .i64 hd.1, .int .i64 hd.2], .sl 2 n k], [(0, .pr (storePr E Q R)), (1, .pr (poolPr Zz.encI 3 Q)), (2, .ro V3 Zz.encV row k), (3, .fo (tzF 10))], 4, 4, (List Ey × List (PRow Int) × Value), fun _ => True, fun x => .raw x.2.2, fun x : (List Ey × List (PRow Int) × Value) => [(0, .pr (storePr E (Q ++ x.2.1) x.1)), (1, .pr (poolPr Zz.encI 3 (Q ++ x.2.1)))]⟩ := by
  cases hh : hasK R hd with
  | true => exact (liftN (sPutHas E Q R hd row n k ⟨h.1, hh⟩)).to (fun x V _ _ => ⟨(R, [], ((SV.err 0).den (Gn E).Δ (fun _ => none))), trivial, trivial, rfl, fun En w h => by rw [List.append_nil]; exact h⟩)
  | false =>
    cases hr : rightV row with
    | false => exact (liftN (sPutForm E Q R hd row n k ⟨h.1, hh, hr, h.2⟩)).to (fun x V _ _ => ⟨(R, [], ((SV.err 1).den (Gn E).Δ (fun _ => none))), trivial, trivial, rfl, fun En w h => by rw [List.append_nil]; exact h⟩)
    | true =>
      by_cases hl : R.length < 128
      · by_cases hm : anyM R (mkI row) = true ∨ (masksR R).length < 32
        · exact (liftN (sPut E Q R hd row n k ⟨h.1, hh, hr, h.2, hl, hm⟩)).to (fun S V _ _ => ⟨(insR R (hd, row), S, .nilIface), trivial, trivial, rfl, fun En w h => h⟩)
        · exact (liftN (sPutFull E Q R hd row n k ⟨h.1, hh, hr, h.2, hl, by cases q : anyM R (mkI row); rfl; exact absurd (.inl q) hm, by have q : ¬ (masksR R).length < 32 := fun q => hm (.inr q) ; omega⟩)).to (fun x V _ _ => ⟨(R, [], ((SV.err 2).den (Gn E).Δ (fun _ => none))), trivial, trivial, rfl, fun En w h => by rw [List.append_nil]; exact h⟩)
      · exact (liftN (sPutMany E Q R hd row n k ⟨h.1, hh, hr, h.2, by omega⟩)).to (fun x V _ _ => ⟨(R, [], ((SV.err 2).den (Gn E).Δ (fun _ => none))), trivial, trivial, rfl, fun En w h => by rw [List.append_nil]; exact h⟩)
theorem sAddA (E : Nat → Addr) (Q : List (PRow Int)) (R : List Ey) (hd : Hd) (v : V3) : Does (Gn E) 17 ⟨[.ptr 0 0, .agg [.int .i64 hd.1, .int .i64 hd.2], .agg [.int .i64 v.k, .int .i64 v.a, .int .i64 v.b]], [(0, .pr (storePr E Q R)), (1, .pr (poolPr Zz.encI 3 Q)), (2, .fo (tzF 10))], 3, 3, (List Ey × List (PRow Int) × Value), fun _ => True, fun x => .raw x.2.2, fun x : (List Ey × List (PRow Int) × Value) => [(0, .pr (storePr E (Q ++ x.2.1) x.1)), (1, .pr (poolPr Zz.encI 3 (Q ++ x.2.1)))]⟩ := by
  cases hg : getK R hd with
  | none => exact (sAddN E Q R hd v (khasF.2 hg)).to (fun x V _ _ => ⟨(R, [], ((SV.err 4).den (Gn E).Δ (fun _ => none))), trivial, trivial, rfl, fun En w h => by rw [List.append_nil]; exact h⟩)
  | some r =>
    rcases vcheck_vals v with hv | hv | hv
    · cases hh : hasV r v.k with
      | true => exact (liftN (sAddHas E Q R hd r v ⟨hg, hv, hh⟩)).to (fun x V _ _ => ⟨(R, [], ((SV.err 0).den (Gn E).Δ (fun _ => none))), trivial, trivial, rfl, fun En w h => by rw [List.append_nil]; exact h⟩)
      | false =>
        by_cases hm : RoomR R r (stepI (mkI r) v.k)
        · exact (liftN (sAddY E Q R hd r v ⟨hg, hv, hh, hm⟩)).to (fun S V _ _ => ⟨(insR (delR R hd) (hd, putR r v), S, .nilIface), trivial, trivial, rfl, fun En w h => h⟩)
        · exact (liftN (sAddFull E Q R hd r v ⟨hg, hv, hh, hm⟩)).to (fun x V _ _ => ⟨(R, [], ((SV.err 2).den (Gn E).Δ (fun _ => none))), trivial, trivial, rfl, fun En w h => by rw [List.append_nil]; exact h⟩)
    · exact (liftN (sAddRange E Q R hd r v ⟨hg, hv⟩)).to (fun x V _ _ => ⟨(R, [], ((SV.err 3).den (Gn E).Δ (fun _ => none))), trivial, trivial, rfl, fun En w h => by rw [List.append_nil]; exact h⟩)
    · exact (liftN (sAddKind E Q R hd r v ⟨hg, hv⟩)).to (fun x V _ _ => ⟨(R, [], ((SV.err 5).den (Gn E).Δ (fun _ => none))), trivial, trivial, rfl, fun En w h => by rw [List.append_nil]; exact h⟩)
theorem sRemA (E : Nat → Addr) (Q : List (PRow Int)) (R : List Ey) (hd : Hd) (kk : Int) : Does (Gn E) 26 ⟨[.ptr 0 0, .agg [.int .i64 hd.1, .int .i64 hd.2], .int .i64 kk], [(0, .pr (storePr E Q R)), (1, .pr (poolPr Zz.encI 3 Q)), (2, .fo (tzF 10))], 3, 3, (List Ey × List (PRow Int) × Value), fun _ => True, fun x => .raw x.2.2, fun x : (List Ey × List (PRow Int) × Value) => [(0, .pr (storePr E (Q ++ x.2.1) x.1)), (1, .pr (poolPr Zz.encI 3 (Q ++ x.2.1)))]⟩ := by
  cases hg : getK R hd with
  | none => exact (sRemN E Q R hd kk (khasF.2 hg)).to (fun x V _ _ => ⟨(R, [], ((SV.err 4).den (Gn E).Δ (fun _ => none))), trivial, trivial, rfl, fun En w h => by rw [List.append_nil]; exact h⟩)
  | some r =>
    cases hh : hasV r kk with
    | false => exact (liftN (sRemNo E Q R hd r kk ⟨hg, hh⟩)).to (fun x V _ _ => ⟨(R, [], ((SV.err 5).den (Gn E).Δ (fun _ => none))), trivial, trivial, rfl, fun En w h => by rw [List.append_nil]; exact h⟩)
    | true =>
      by_cases hm : RoomR R r (stepI (mkI r) kk)
      · exact (liftN (sRemY E Q R hd r kk ⟨hg, hh, hm⟩)).to (fun S V _ _ => ⟨(insR (delR R hd) (hd, dropV r kk), S, .nilIface), trivial, trivial, rfl, fun En w h => h⟩)
      · exact (liftN (sRemFull E Q R hd r kk ⟨hg, hh, hm⟩)).to (fun x V _ _ => ⟨(R, [], ((SV.err 2).den (Gn E).Δ (fun _ => none))), trivial, trivial, rfl, fun En w h => by rw [List.append_nil]; exact h⟩)
theorem sSetOdd (E : Nat → Addr) (Q : List (PRow Int)) (R : List Ey) (hd : Hd) (r : Rw) (v : V3) (h : getK R hd = some r ∧ hasV r v.k = true ∧ vcheck v = 5) : Does (Gm E) 27 ⟨[.ptr 0 0, .agg [.int .i64 hd.1, .int .i64 hd.2], .agg [.int .i64 v.k, .int .i64 v.a, .int .i64 v.b]], [(0, .pr (storePr E Q R))], 1, 1, Unit, fun _ => True, fun _ => .err 5, fun _ => [(0, .pr (storePr E Q R))]⟩ := by
  refine ⟨Nat.le_refl _, by simp [SV.bdL, SV.bd], hbB_ok rfl, fun V w hp => ?_⟩
  exfalso
  obtain ⟨x, hx, _⟩ := hp.hr.ok 0 _ rfl
  have hr : rightV r = true := hx.inv.row _ (kmem_of h.1)
  have hk := hasV_kind hr h.2.1
  have : vkind v = true := by unfold vkind; simp only [Bool.and_eq_true, decide_eq_true_eq]; omega
  have h5 := h.2.2
  unfold vcheck at h5
  rw [if_pos this] at h5
  split at h5 <;> omega
theorem sSetA (E : Nat → Addr) (Q : List (PRow Int)) (R : List Ey) (hd : Hd) (v : V3) : Does (Gn E) 27 ⟨[.ptr 0 0, .agg [.int .i64 hd.1, .int .i64 hd.2], .agg [.int .i64 v.k, .int .i64 v.a, .int .i64 v.b]], [(0, .pr (storePr E Q R))], 1, 1, (List Ey × Value), fun _ => True, fun x => .raw x.2, fun x => [(0, .pr (storePr E Q x.1))]⟩ := by
  cases hg : getK R hd with
  | none => exact (sSetN E Q R hd v (khasF.2 hg)).to (fun x V _ _ => ⟨(R, ((SV.err 4).den (Gn E).Δ (fun _ => none))), trivial, trivial, rfl, fun En w h => h⟩)
  | some r =>
    cases hh : hasV r v.k with
    | false => exact (liftN (sSetK E Q R hd r v ⟨hg, hh⟩)).to (fun x V _ _ => ⟨(R, ((SV.err 5).den (Gn E).Δ (fun _ => none))), trivial, trivial, rfl, fun En w h => h⟩)
    | true =>
      rcases vcheck_vals v with hv | hv | hv
      · exact (liftN (sSetY E Q R hd r v ⟨hg, hh, hv⟩)).to (fun x V _ _ => ⟨(setR R hd (putR r v), .nilIface), trivial, trivial, rfl, fun En w h => h⟩)
      · exact (liftN (sSetBad E Q R hd r v ⟨hg, hh, hv⟩)).to (fun x V _ _ => ⟨(R, ((SV.err 3).den (Gn E).Δ (fun _ => none))), trivial, trivial, rfl, fun En w h => h⟩)
      · exact (liftN (sSetOdd E Q R hd r v ⟨hg, hh, hv⟩)).to (fun x V _ _ => ⟨(R, ((SV.err 5).den (Gn E).Δ (fun _ => none))), trivial, trivial, rfl, fun En w h => h⟩)
theorem sTakeA (E : Nat → Addr) (Q : List (PRow Int)) (R : List Ey) (hd : Hd) : Does (Gn E) 25 ⟨[.ptr 0 0, .agg [.int .i64 hd.1, .int .i64 hd.2]], [(0, .pr (storePr E Q R)), (1, .fo (roPool Zz.encI Q))], 2, 3, (List Ey × Value), fun _ => True, fun x => .raw x.2, fun x => [(0, .pr (storePr E Q x.1))]⟩ := by
  cases hg : getK R hd with
  | none => exact (sTakeN E Q R hd (khasF.2 hg)).to (fun x V _ _ => ⟨(R, (SV.tup [.agg [.int .i64 0, .int .i64 0, .nils], .err 4]).den (Gn E).Δ V.ρ), trivial, trivial, rfl, fun En w h => h⟩)
  | some r => exact (liftN (sTake E Q R hd r hg)).to (fun q V _ _ => ⟨(delR R hd, (SV.tup [.agg [.int .i64 hd.1, .int .i64 hd.2, .sl 2 r.length q], .nili]).den (Gn E).Δ V.ρ), trivial, trivial, rfl, fun En w h => h.less 2⟩)
end Go.Proofs.YtcnbngiplfoomaaGreatDoor
namespace Go.Proofs.YtcnbngiplfoomaaGreatDoor
open Go.Zz Go.Px
set_option linter.unusedVariables false
set_option linter.unusedSectionVars false
set_option linter.unusedSimpArgs false
set_option maxRecDepth 10000
section
variable {Qv : List (PRow V3)} {jj n : Nat} {v : V3} {R : List Ey} {hd : Hd} {r r2 : Rw}
theorem hrt {b : Bool} (h : (!b) = false) : b = true := by cases b <;> simp at h ⊢
theorem rows_next {n : Nat} (hI : ∀ j, j < n → rightV (rowQ Qv j).2.2 = true ∧ (rowQ Qv j).2.2.length ≤ 20) (h1 : rightV (rowQ Qv n).2.2 = true) (h2 : (rowQ Qv n).2.2.length ≤ 20) (j : Nat) (hj : j < n + 1) : rightV (rowQ Qv j).2.2 = true ∧ (rowQ Qv j).2.2.length ≤ 20 := by
  by_cases e : j = n
  · subst e; exact ⟨h1, h2⟩
  · exact hI j (by omega)
end
end Go.Proofs.YtcnbngiplfoomaaGreatDoor
namespace Go.Proofs.YtcnbngiplfoomaaGreatDoor
open Go.Zz Go.Px
set_option linter.unusedVariables false
set_option linter.unusedSectionVars false
set_option linter.unusedSimpArgs false
set_option maxRecDepth 10000
section
variable {κ ν : Type} [DecidableEq κ] {ks : List κ} {f : κ → ν} {k : κ}
def kF (ks : List κ) (f : κ → ν) : List (κ × ν) := ks.map fun k => (k, f k)
theorem kF_keys : (kF ks f).map (fun y : κ × ν => y.1) = ks := by unfold kF; rw [List.map_map]; exact (List.map_congr_left fun _ _ => rfl).trans (List.map_id _)
theorem kF_hasN (h : ¬ k ∈ ks) : hasK (kF ks f) k = false := by rw [← Bool.not_eq_true, hasK_iff, show (kF ks f).map (·.1) = ks from kF_keys]; exact h
theorem kF_hasY (h : k ∈ ks) : hasK (kF ks f) k = true := by rw [hasK_iff, show (kF ks f).map (·.1) = ks from kF_keys]; exact h
theorem kF_new (h : ¬ k ∈ ks) : Go.Px.putK (kF ks f) k (f k) = kF (ks ++ [k]) f := by
  unfold Go.Px.putK
  rw [kF_hasN h, if_neg (by simp)]
  unfold kF; rw [List.map_append]; rfl
theorem kF_two (h : ¬ k ∈ ks) : Go.Px.putK (Go.Px.putK (kF ks f) k (f k)) k (f k) = kF (ks ++ [k]) f := by rw [putK_two, kF_new h]
end
section
variable {E : Nat → Addr} {Q : List (PRow Int)} {T T' : TL} {P P' PV : PL} {R : List Ey} {m i : Int} {h : Hd} {es : List Ey} {p p' : Int → Nat} {x x2 : XT} {vis : List Int}
theorem sinv_perm (s : SInv T P R) (hT : T'.Perm T) (hP : P'.Perm P) : SInv T' P' R where
  tnd := (hT.map _).nodup_iff.2 s.tnd
  pnd := (hP.map _).nodup_iff.2 s.pnd
  ris := s.ris
  ne := fun m es q => s.ne m es (hT.mem_iff.1 q)
  mask := fun m es q => s.mask m es (hT.mem_iff.1 q)
  row := s.row
  at_ := fun h m i => by
    rw [hP.mem_iff, s.at_]
    exact ⟨fun ⟨es, r, q, w⟩ => ⟨es, r, hT.mem_iff.2 q, w⟩, fun ⟨es, r, q, w⟩ => ⟨es, r, hT.mem_iff.1 q, w⟩⟩
  mem := fun e => by
    rw [s.mem]
    exact ⟨fun ⟨m, es, q, w⟩ => ⟨m, es, hT.mem_iff.2 q, w⟩, fun ⟨m, es, q, w⟩ => ⟨m, es, hT.mem_iff.1 q, w⟩⟩
def rowF (T : TL) (m : Int) : Nat × List Ey := (m.toNat, rowsAt T m)
theorem rowF_get (hg : getK T m = some es) : rowF T m = (m.toNat, es) := by unfold rowF; rw [rowsAt_get hg]
theorem tabV (T : TL) (vis : List Int) : tabL (kF vis (rowsAt T)) = kF vis (rowF T) := by unfold tabL kF; rw [List.map_map]; rfl
theorem kF_all {T : TL} (hn : (T.map (·.1)).Nodup) : kF (T.map fun y : Int × List Ey => y.1) (rowsAt T) = T := by
  unfold kF; rw [List.map_map]
  refine (List.map_congr_left fun y hy => ?_).trans (List.map_id T)
  show (y.1, rowsAt T y.1) = y
  rw [rowsAt_in hn (show (y.1, y.2) ∈ T from hy)]
theorem kF_perm {T : TL} (hn : (T.map (·.1)).Nodup) (hv : vis.Perm (T.map fun y : Int × List Ey => y.1)) : (kF vis (rowsAt T)).Perm T := by
  have h := hv.map fun k => (k, rowsAt T k)
  have e : (T.map fun y : Int × List Ey => y.1).map (fun k => (k, rowsAt T k)) = T := kF_all hn
  rw [e] at h; exact h
theorem XOk.clone (hx : XOk R x) (hx2 : XOk [] x2) (hv : vis.Perm (x.1.map fun y : Int × List Ey => y.1)) (hP : PV.Perm x.2.1) (p : Int → Nat) : XOk R (kF vis (rowsAt x.1), PV, x2.2.2.1, p) :=
  ⟨sinv_perm hx.inv (kF_perm hx.inv.tnd hv) hP, hx2.ed, hx.len⟩
theorem XOk.empty (hx : XOk [] x) : x.1 = [] ∧ x.2.1 = [] :=
  ⟨List.eq_nil_of_length_eq_zero (by rw [hx.tlen]; decide), List.eq_nil_of_length_eq_zero hx.inv.count⟩
theorem placL_mem {k : Hd} {v : Option Nat × Int} (hm : (k, v) ∈ placL P p) : ∃ m i, v = (some (p m), i) ∧ (k, m, i) ∈ P := by
  obtain ⟨y, hy, e⟩ := List.mem_map.1 hm
  simp only [Prod.mk.injEq] at e
  obtain ⟨rfl, rfl⟩ := e
  exact ⟨y.2.1, y.2.2, rfl, hy⟩
theorem XOk.at2 (hx : XOk R x) (hm : (h, m, i) ∈ x.2.1) : ∃ es, getK x.1 m = some es := by
  obtain ⟨es, r, q, _⟩ := (hx.inv.at_ h m i).1 hm
  exact ⟨es, (kget hx.inv.tnd).2 q⟩
theorem XOk.mZ2 (hx : XOk R x) (hm : (h, m, i) ∈ x.2.1) : ((m.toNat : Nat) : Int) = m := by
  obtain ⟨es, r, q1, q2, q3⟩ := (hx.inv.at_ h m i).1 hm
  have := hx.inv.mask _ _ q1 _ (List.mem_of_getElem? q3)
  rw [← this]; rfl
structure WP (P : PL) (p : Int → Nat) (left : List (Hd × Option Nat × Int)) (PV : PL) : Prop where
  ex : ∃ lp : PL, left.Perm (placL lp p) ∧ P.Perm (PV ++ lp)
theorem WP.start (P : PL) (p : Int → Nat) : WP P p (placL P p) [] := ⟨P, List.Perm.refl _, List.Perm.refl _⟩
theorem WP.done {left : List (Hd × Option Nat × Int)} (w : WP P p left PV) (hl : left = []) : PV.Perm P := by
  obtain ⟨lp, h1, h2⟩ := w.ex
  subst hl
  have : lp = [] := List.eq_nil_of_length_eq_zero (by have := h1.length_eq; rw [placL_len] at this; exact this.symm)
  subst this
  rw [List.append_nil] at h2; exact h2.symm
theorem WP.next {left left' : List (Hd × Option Nat × Int)} {k : Hd} {v : Option Nat × Int} (w : WP P p left PV) (hn : (P.map (·.1)).Nodup) (hp : left.Perm ((k, v) :: left')) (hk : (k, m, i) ∈ P) (hv : v = (some (p m), i)) : WP P p left' (PV ++ [(k, m, i)]) ∧ ¬ k ∈ PV.map (fun y : Hd × Int × Int => y.1) := by
  obtain ⟨lp, h1, h2⟩ := w.ex
  have hm : (k, v) ∈ placL lp p := h1.mem_iff.1 (hp.mem_iff.2 List.mem_cons_self)
  obtain ⟨m', i', e1, e2⟩ := placL_mem hm
  have e3 : (k, m', i') ∈ P := h2.mem_iff.2 (List.mem_append.2 (.inr e2))
  have e4 := (kget hn).2 e3
  rw [(kget hn).2 hk] at e4
  simp only [Option.some.injEq, Prod.mk.injEq] at e4
  obtain ⟨rfl, rfl⟩ := e4
  obtain ⟨lp', hl'⟩ : ∃ lp', lp.Perm ((k, m, i) :: lp') := ⟨lp.erase (k, m, i), List.perm_cons_erase e2⟩
  refine ⟨⟨lp', ?_, h2.trans (by rw [List.append_assoc]; exact List.Perm.append_left PV hl')⟩, fun q => ?_⟩
  · have h3 := (show ((k, v) :: left').Perm (lp.map fun y : Hd × Int × Int => (y.1, some (p y.2.1), y.2.2)) from hp.symm.trans h1).trans (hl'.map fun y : Hd × Int × Int => (y.1, some (p y.2.1), y.2.2))
    rw [hv] at h3
    exact (List.perm_cons _).1 h3
  · have := (h2.map (·.1)).nodup_iff.1 hn
    rw [List.map_append] at this
    exact (List.nodup_append.1 this).2.2 k q k (List.mem_map.2 ⟨_, e2, rfl⟩) rfl
theorem placL_new {k : Hd} (h : ¬ k ∈ PV.map (fun y : Hd × Int × Int => y.1)) : Go.Px.putK (placL PV p) k (some (p m), i) = placL (PV ++ [(k, m, i)]) p := by
  rw [placL_put]
  unfold Go.Px.putK
  rw [show hasK PV k = false by rw [← Bool.not_eq_true, hasK_iff]; exact h, if_neg (by simp)]
end
theorem ptrL_memv2 {ks : List Int} {p : Int → Nat} {k : Int} {v : Option Nat} (h : (k, v) ∈ ptrL ks p) : v = some (p k) ∧ k ∈ ks := ptrL_memv h
set_option maxHeartbeats 4000000 in
theorem sClone (E : Nat → Addr) (Q : List (PRow Int)) (R : List Ey) : Does (Gm E) 24 ⟨[.ptr 0 0], [(0, .pr (storePr E Q R))], 1, 2, Unit, fun _ => True, fun _ => .ptr 1 0, fun _ => [(0, .pr (storePr E Q R)), (1, .pr (storePr E Q R))]⟩ := by
  refine DoesC.does (fn_start Tryz.func24 rfl rfl rfl ?_)
  change EntryGoal _ _ _ _ _
  refine entryG.ex 0 rfl (fun x hx => ?_)
  change EntryGoal _ _ _ _ _
  refine entryG.open_ 0 rfl 5 rfl rfl ?_
  change EntryGoal _ _ _ _ _
  refine entry_go (gmOk E) 53 1 [2] Tryz.func24 rfl rfl rfl rfl ?_
  repeat' first | (change CallGoal _ _ _ _ _ _; first | (change CallGoal _ 69 _ _ _ _; first | (obtain ⟨es, hes⟩ := khas.1 (show hasK x.1 k = true from hasK_iff.2 hk); refine call_retell ?_; change CallGoal _ _ _ _ _ _; refine callG.restOut 5 (tabL x.1) x.2.2.2 k (k.toNat, es) rfl (tabL_get hes) ?_; change CallGoal _ _ _ _ _ _; refine call_args [.ptr 29 0] (fun _ => bdLB_ok _ rfl) (fun En V w hp => by have q := rest_ptr (r := 5) (m := 29) rfl hp; simp only [SV.den, SV.denL, veP] at q ⊢; rw [q]) ?_; change CallGoal _ _ _ _ _ _; refine call_rule (tClone E Q k.toNat es) [29] rfl (And.intro rfl True.intro) rfl (fun y3 hy3 => ?_))) | (change CallGoal _ 60 _ _ _ _; first | (refine call_args [.ptr 48 0] (fun _ => bdLB_ok _ rfl) (fun En V w hp => by have q := rest_ptr (r := 5) (m := 48) rfl hp; simp only [SV.den, SV.denL] at q ⊢; rw [q]) ?_; change CallGoal _ _ _ _ _ _; refine call_rule (tMask E Q m.toNat es2) [48] rfl (And.intro rfl True.intro) rfl (fun y8 hy8 => ?_)))) | (change JoinGoal _ _ _ _ _ _ _ _; refine join_stop (gmOk E) ?_) | (change HereGoal _ _ _ _ _ _ _; refine hereG.ex 6 rfl (fun x2 hx2 => ?_); change HereGoal _ _ _ _ _ _ _; refine hereG.open_ 6 rfl 5 rfl rfl ?_; change HereGoal _ _ _ _ _ _ _; refine hereG.cast 8 (.pr (mapPr veU veP (ptrL ([] : List Int) (fun _ => 0)))) rfl (by rw [hx2.empty.1]; rfl) ?_; change HereGoal _ _ _ _ _ _ _; refine hereG.cast 9 (.pr (mapPr (Enc.ag (Zz.encP Zz.encI Zz.encI)) vePl (placL [] x2.2.2.2))) rfl (by rw [hx2.empty.2]) ?_; change HereGoal _ _ _ _ _ _ _; refine hereG.imp 11 (Φ := restPr (tabP E Q) (tabL x2.1) x2.2.2.2) (Ψ := restPr (tabP E Q) (kF ([] : List Int) (rowF x.1)) (fun _ => 0)) rfl (rest_same (fun y => by rw [hx2.empty.1]; exact Iff.rfl) (fun y hy => by rw [hx2.empty.1] at hy; cases hy)) ?_; change HereGoal _ _ _ _ _ _ _; refine here_go (gmOk E) ?_) | (change Retell _ _ _ _ _; refine retellG.restIn 5 29 (k.toNat, es) rfl rfl rfl (tabP_placed _) (by rw [tabL_has]; exact khas.2 ⟨_, hes⟩) ?_; change Retell _ _ _ _ _; refine retellG.cast 5 (.pr (restPr (tabP E Q) (tabL x.1) x.2.2.2)) rfl (by rw [tabL_put, putK_id hx.inv.tnd hes]) ?_; change Retell _ _ _ _ _; refine retellG.restNew 11 30 k (rowF x.1 k) rfl rfl (tbl_placed _ _ _ _) (kF_hasN (hI.new (by rw [ptrL_keys]; exact hx.inv.tnd) hp)) (fun g => ?_); change Retell _ _ _ _ _; refine retell_done ?_) | (change NextGoal _ _ _; refine nextG.restIn 11 30 (rowF x.1 k) rfl (by rw [rowF_get hes]; rfl) rfl (tabP_placed _) (by rw [kF_new (hI.new (by rw [ptrL_keys]; exact hx.inv.tnd) hp)]; exact kF_hasY (List.mem_append.2 (.inr (List.mem_singleton.2 rfl)))) ?_; change NextGoal _ _ _; refine nextG.cast 11 (.pr (restPr (tabP E Q) (kF (y.2.2.1 ++ [k]) (rowF x.1)) (atP y.2.2.2 k g))) rfl (by rw [kF_two (hI.new (by rw [ptrL_keys]; exact hx.inv.tnd) hp)]) ?_; change NextGoal _ _ _; refine nextG.cast 8 (.pr (mapPr veU veP (ptrL (y.2.2.1 ++ [k]) (atP y.2.2.2 k g)))) rfl (by rw [ptrL_at (hI.new (by rw [ptrL_keys]; exact hx.inv.tnd) hp)]) ?_; change NextGoal _ _ _; refine next_go ?_) | (change NextGoal _ _ _; refine nextG.restIn 5 48 (m.toNat, es2) rfl rfl rfl (tabP_placed _) (by rw [tabL_has]; exact khas.2 ⟨_, hes2⟩) ?_; change NextGoal _ _ _; refine nextG.cast 5 (.pr (restPr (tabP E Q) (tabL x.1) x.2.2.2)) rfl (by rw [tabL_put, putK_id hx.inv.tnd hes2]) ?_; change NextGoal _ _ _; refine nextG.cast 9 (.pr (mapPr (Enc.ag (Zz.encP Zz.encI Zz.encI)) vePl (placL (z.2.2 ++ [(kh, m, i)]) y.2.2.2))) rfl (by rw [placL_new hW.2]) ?_; change NextGoal _ _ _; refine next_go ?_) | (change DrawGoal _ _ _ ({ dst := some 36, op := _, type := _, pos := _, after := _, guard := _ } :: _) _ _; refine drawG.restOut 5 (tabL x.1) x.2.2.2 m (m.toNat, es2) rfl (tabL_get hes2) ?_; change DrawGoal _ _ _ _ _ _; refine draw_tree (gmOk E) [6, 46, 47] (.leaf [(0, true), (1, true), (2, true), (3, true), (4, true), (5, true), (6, true), (7, true), (8, true), (9, true), (10, true), (13, true), (14, true), (11, false), (12, false), (15, true), (16, false)]) (by kernel_rfl) ?_) | (change RetGoal _ _ _ _ _; first | (refine retG'.cast 8 (.pr (mapPr veU veP (ptrL ((kF y.2.2.1 (rowsAt x.1)).map (fun y : Int × List Ey => y.1)) y.2.2.2))) rfl (by rw [kF_keys]) ?_; change RetGoal _ _ _ _ _; refine retG'.cast 11 (.pr (restPr (tabP E Q) (tabL (kF y.2.2.1 (rowsAt x.1))) y.2.2.2)) rfl (by rw [tabV]) ?_; change RetGoal _ _ _ _ _; refine retG'.shut (Γ0 := Gm E) rfl (.cells 108 [.mp 1, .mp 2, .mp 3]) [(1, .pr (mapPr veU veP (ptrL ((((kF y.2.2.1 (rowsAt x.1), z.2.2, x2.2.2.1, y.2.2.2) : XT)).1.map (fun y : Int × List Ey => y.1)) (((kF y.2.2.1 (rowsAt x.1), z.2.2, x2.2.2.1, y.2.2.2) : XT)).2.2.2))), (2, .pr (mapPr (Enc.ag (Zz.encP Zz.encI Zz.encI)) vePl (placL (((kF y.2.2.1 (rowsAt x.1), z.2.2, x2.2.2.1, y.2.2.2) : XT)).2.1 (((kF y.2.2.1 (rowsAt x.1), z.2.2, x2.2.2.1, y.2.2.2) : XT)).2.2.2))), (3, .pr (mapPr (Enc.ag (Zz.encP encU Zz.encI)) veU (((kF y.2.2.1 (rowsAt x.1), z.2.2, x2.2.2.1, y.2.2.2) : XT)).2.2.1)), (4, .pr (restPr (tabP E Q) (tabL (((kF y.2.2.1 (rowsAt x.1), z.2.2, x2.2.2.1, y.2.2.2) : XT)).1) (((kF y.2.2.1 (rowsAt x.1), z.2.2, x2.2.2.1, y.2.2.2) : XT)).2.2.2))] [6, 8, 9, 10, 11] (And.intro rfl (And.intro rfl (And.intro rfl (And.intro rfl (And.intro rfl True.intro))))) rfl ?_; change RetGoal _ _ _ _ _; refine retG'.hide (X := XT) (p := XOk R) (Φ := fun x => grp (Gm E) (stoH E Q x)) 6 (((kF y.2.2.1 (rowsAt x.1), z.2.2, x2.2.2.1, y.2.2.2) : XT)) (hx.clone hx2 ((hI.done hl).symm.trans (by rw [ptrL_keys])) (hJ.done hl2) _) rfl ?_; change RetGoal _ _ _ _ _; (refine retG'.shut (Γ0 := Gm E) rfl (.cells 108 [.mp 1, .mp 2, .mp 3]) [(1, .pr (mapPr veU veP (ptrL ((x).1.map (fun y : Int × List Ey => y.1)) (x).2.2.2))), (2, .pr (mapPr (Enc.ag (Zz.encP Zz.encI Zz.encI)) vePl (placL (x).2.1 (x).2.2.2))), (3, .pr (mapPr (Enc.ag (Zz.encP encU Zz.encI)) veU (x).2.2.1)), (4, .pr (restPr (tabP E Q) (tabL (x).1) (x).2.2.2))] [0, 2, 3, 4, 5] (And.intro rfl (And.intro rfl (And.intro rfl (And.intro rfl (And.intro rfl True.intro))))) rfl ?_; change RetGoal _ _ _ _ _; refine retG'.hide (X := XT) (p := XOk R) (Φ := fun x => grp (Gm E) (stoH E Q x)) 0 (x) (hx) rfl ?_; change RetGoal _ _ _ _ _; refine ret_done rfl ?_))) | (intro h; first | (exfalso; omega; done) | (exfalso; exact h trivial; done) | skip) | (refine And.intro ?_ ?_) | exact True.intro | (refine @Exists.intro Unit _ () ?_) | (refine @Exists.intro (_ = _) _ rfl ?_) | (change OpGoal _ _ _ _ (.range 104 _) _; refine range_rule mapT 2 (ptrL (x.1.map (fun y : Int × List Ey => y.1)) x.2.2.2) rfl rfl (fun ga => ?_)) | (change OpGoal _ _ _ _ (.next _ _) _; refine next_rule (ptrL (x.1.map (fun y : Int × List Ey => y.1)) x.2.2.2) 12 2 rfl rfl rfl rfl (fun hl => ?_) (fun k v left hp hm => ?_); rotate_left; (obtain ⟨rfl, hk⟩ := ptrL_memv2 hm); rotate_left) | (change OpGoal _ _ _ _ (.entry _) _; refine entry_rule 12 rfl rfl ?_) | (change OpGoal _ _ _ _ (.mapUpdate _ _ _ _) _; refine mapset_ruleS mapT 8 (ptrL y.2.2.1 y.2.2.2) k (some g) rfl rfl (fun En V w hp => by have q := rest_ptr (r := 11) (m := 30) rfl hp; rw [atP_here] at q; exact q) rfl ?_) | (change OpGoal _ _ _ _ (.range 105 _) _; refine range_rule mapP 3 (placL x.2.1 x.2.2.2) rfl rfl (fun gb => ?_)) | (change OpGoal _ _ _ _ (.next _ _) _; refine next_rule (placL x.2.1 x.2.2.2) 29 3 rfl rfl rfl rfl (fun hl2 => ?_) (fun kh v2 left2 hp2 hm2 => ?_); rotate_left; (obtain ⟨m, i, rfl, hk2⟩ := placL_mem hm2; obtain ⟨es2, hes2⟩ := hx.at2 hk2; have hW := hJ.next hx.inv.pnd hp2 hk2 rfl); rotate_left) | (change OpGoal _ _ _ _ (.entry _) _; refine entry_rule 29 rfl rfl ?_) | (change OpGoal _ _ _ _ (.lookup 104 _ _ false) _; refine lookupG_rule mapT 8 (ptrL y.2.2.1 y.2.2.2) ((m.toNat : Nat) : Int) (some (y.2.2.2 m)) rfl rfl rfl (by rw [hx.mZ2 hk2]; exact ptrL_get (((hI.done hl).symm.trans (by rw [ptrL_keys])).mem_iff.2 (List.mem_map.2 ⟨_, kmem_of hes2, rfl⟩))) ?_) | (change OpGoal _ _ _ _ (.mapUpdate 105 _ _ _) _; refine mapset_ruleS mapP 9 (placL z.2.2 y.2.2.2) kh (some (y.2.2.2 m), i) rfl rfl (fun _ _ _ _ => rfl) rfl ?_) | (change LoopGoal _ _ _ _ _ _; refine loop_at2 3 (gmOk E) rfl [2] (X := (List (Int × Option Nat) × Option (Int × Option Nat) × List Int × (Int → Nat))) (fun y => []) (fun y => [(12, .pr (iterPr veU veP ga (ptrL (x.1.map (fun y : Int × List Ey => y.1)) x.2.2.2) y.1 y.2.1)), (8, .pr (mapPr veU veP (ptrL y.2.2.1 y.2.2.2))), (11, .pr (restPr (tabP E Q) (kF y.2.2.1 (rowF x.1)) y.2.2.2))]) [] (fun y => WV (ptrL (x.1.map (fun y : Int × List Ey => y.1)) x.2.2.2) y.1 y.2.2.1) (fun y => y.1.length) ⟨((ptrL (x.1.map (fun y : Int × List Ey => y.1)) x.2.2.2), none, [], fun _ => 0), ?_⟩ (fun y hI => ?_)) | (change @Exists ((List (Int × Option Nat) × Option (Int × Option Nat) × List Int × (Int → Nat))) (fun _ => updK _ _ _ _ _ _); refine @Exists.intro ((List (Int × Option Nat) × Option (Int × Option Nat) × List Int × (Int → Nat))) _ ((left, some (k, some (x.2.2.2 k)), (y.2.2.1 ++ [k]), atP y.2.2.2 k g)) ?_) | (change LoopGoal _ _ _ _ _ _; refine loop_at2 7 (gmOk E) rfl [2] (X := (List (Hd × Option Nat × Int) × Option (Hd × Option Nat × Int) × PL)) (fun z => []) (fun z => [(29, .pr (iterPr (Enc.ag (Zz.encP Zz.encI Zz.encI)) vePl gb (placL x.2.1 x.2.2.2) z.1 z.2.1)), (9, .pr (mapPr (Enc.ag (Zz.encP Zz.encI Zz.encI)) vePl (placL z.2.2 y.2.2.2)))]) [] (fun z => WP x.2.1 x.2.2.2 z.1 z.2.2) (fun z => z.1.length) ⟨((placL x.2.1 x.2.2.2), none, []), ?_⟩ (fun z hJ => ?_)) | (change @Exists ((List (Hd × Option Nat × Int) × Option (Hd × Option Nat × Int) × PL)) (fun _ => updK _ _ _ _ _ _); refine @Exists.intro ((List (Hd × Option Nat × Int) × Option (Hd × Option Nat × Int) × PL)) _ ((left2, some (kh, (some (x.2.2.2 m), i)), (z.2.2 ++ [(kh, m, i)]))) ?_) | (change DrawGoal _ _ _ _ _ _; first | (change DrawGoal _ _ _ ({ dst := some 19, op := _, type := _, pos := _, after := _, guard := _ } :: _) _ _; refine draw_tree (gmOk E) [6] (.leaf [(0, true), (1, true), (2, true), (3, true), (4, true), (5, true), (6, false), (7, false)]) (by kernel_rfl) ?_)) | (change CallGoal _ _ _ _ _ _; first | (refine call_rule (sNew E Q) [] rfl True.intro rfl (fun y1 hy1 => ?_)))
  all_goals first | (dsimp only; first | rfl | omega) | rfl | omega | assumption | exact WV.start _ | exact hI.next hp | exact WL.less hp | exact WP.start _ _ | exact hW.1 | exact WL.less hp2
end Go.Proofs.YtcnbngiplfoomaaGreatDoor
namespace Go.Proofs.YtcnbngiplfoomaaGreatDoor
open Go.Zz Go.Px
set_option linter.unusedVariables false
set_option linter.unusedSectionVars false
set_option linter.unusedSimpArgs false
set_option maxRecDepth 10000
set_option maxHeartbeats 4000000 in
theorem apart_no (E : Nat → Addr) (Qv : List (PRow V3)) (n k : Nat) (Sv : List Op8) (n2 k2 : Nat) (h : (n = Qv.length ∧ n2 = Sv.length) ∧ ¬ (Qv.length ≤ 20 ∧ Sv.length ≤ 40)) : DoesC (Gn E) 5 (Sp0 [.sl 0 n k, .sl 2 n2 k2] [(0, .ro Hdr encS (headsV Qv) k), (1, .fo (roPool Zz.encV Qv)), (2, .ro Op8H encO (opsH Sv) k2), (3, .fo (roPool Zz.encV (opsQ Sv))), (4, .fo (tzF 10))] 5 .tt) := by
  obtain ⟨⟨rfl, rfl⟩, hl⟩ := h
  refine fn_calls (gnOk E) 133 5 [] Tryz.func5 rfl rfl rfl rfl rfl ?_
  repeat' first | (intro h; first | (exfalso; omega; done) | (exfalso; first | exact h trivial | omega; done) | skip) | (refine And.intro ?_ ?_) | exact True.intro | (refine @Exists.intro Unit _ () ?_) | (refine @Exists.intro (_ = _) _ rfl ?_) | (change CallGoal _ _ _ _ _ _; first | (refine call0 (liftN (alive_z E)) [4] rfl (And.intro rfl True.intro) rfl ?_))
  all_goals first | rfl | omega | exact hl ⟨by omega, by omega⟩
set_option maxHeartbeats 4000000 in
theorem apart_ok (E : Nat → Addr) (Qv : List (PRow V3)) (n k : Nat) (Sv : List Op8) (n2 k2 : Nat) (h : (n = Qv.length ∧ n2 = Sv.length) ∧ Qv.length ≤ 20 ∧ Sv.length ≤ 40) : DoesC (Gn E) 5 (Sp0 [.sl 0 n k, .sl 2 n2 k2] [(0, .ro Hdr encS (headsV Qv) k), (1, .fo (roPool Zz.encV Qv)), (2, .ro Op8H encO (opsH Sv) k2), (3, .fo (roPool Zz.encV (opsQ Sv))), (4, .fo (tzF 10))] 5 .tt) := by
  obtain ⟨⟨rfl, rfl⟩, hl, hl2⟩ := h
  refine fn_calls (gnOk E) 133 5 [6, 9, 12, 16, 33] Tryz.func5 rfl rfl rfl rfl rfl ?_
  repeat' first | (change CallGoal _ _ _ _ _ _; first | (change CallGoal _ 16 _ _ _ _; first | (refine call_rule (liftN (sPut E x.2 (rowsR (rowsV Qv) x.1) (hI x.1) (rowQ Qv x.1).2.2 _ _ ⟨rfl, rowsR_new, hrt (by assumption), by omega, by rw [rowsR_len]; omega, .inr (masks_few (by rw [rowsR_len]; omega))⟩)) [5, 6, 23, 4] rfl (And.intro rfl (And.intro rfl (And.intro rfl (And.intro rfl True.intro)))) rfl (fun (S3 : List (PRow Int)) hS3 => ?_)) | (refine call_rule (sPutA E y.2.2.1 y.2.1 (opAt Sv y.1).2.1 (opAt Sv y.1).2.2.1.2.2 _ _ ⟨rfl, by omega⟩) [23, 6, 41, 4] rfl (And.intro rfl (And.intro rfl (And.intro rfl (And.intro rfl True.intro)))) rfl (fun (a1 : (List Ey × List (PRow Int) × Value)) ha1 => ?_))) | (change CallGoal _ 24 _ _ _ _; first | (refine call_rule (liftN (sClone E xq (rowsR (rowsV Qv) Qv.length))) [5] rfl (And.intro rfl True.intro) rfl (fun (y2 : Unit) hy2 => ?_))) | (change CallGoal _ 25 _ _ _ _; first | (refine call_rule (sTakeA E y.2.2.1 y.2.1 (opAt Sv y.1).2.1) [23, 6] rfl (And.intro rfl (And.intro lends_pool True.intro)) rfl (fun (b1 : (List Ey × Value)) hb1 => ?_))) | (change CallGoal _ 17 _ _ _ _; first | (refine call_rule (sAddA E y.2.2.1 y.2.1 (opAt Sv y.1).2.1 (opAt Sv y.1).2.2.2) [23, 6, 4] rfl (And.intro rfl (And.intro rfl (And.intro rfl True.intro))) rfl (fun (a1 : (List Ey × List (PRow Int) × Value)) ha1 => ?_))) | (change CallGoal _ 26 _ _ _ _; first | (refine call_rule (sRemA E y.2.2.1 y.2.1 (opAt Sv y.1).2.1 (opAt Sv y.1).2.2.2.k) [23, 6, 4] rfl (And.intro rfl (And.intro rfl (And.intro rfl True.intro))) rfl (fun (a1 : (List Ey × List (PRow Int) × Value)) ha1 => ?_))) | (change CallGoal _ 27 _ _ _ _; first | (refine call_rule (sSetA E y.2.2.1 y.2.1 (opAt Sv y.1).2.1 (opAt Sv y.1).2.2.2) [23] rfl (And.intro rfl True.intro) rfl (fun (b1 : (List Ey × Value)) hb1 => ?_))) | (change CallGoal _ 18 _ _ _ _; first | (refine call_rule (liftN (sEntity E y.2.2.1 (rowsR (rowsV Qv) Qv.length) (hI z.1) (rowQ Qv z.1).2.2 (rowsV_at ▸ rowsR_get (by omega)))) [5, 6] rfl (And.intro rfl (And.intro lends_pool True.intro)) rfl (fun (q1 : Nat) hq1 => ?_))) | (change CallGoal _ 19 _ _ _ _; first | (refine call0 (liftN (rsame_z E (rowQ Qv z.1).2.2 (rowQ Qv z.1).2.2 _ q1 _ _ ⟨⟨rfl, rfl⟩, by have := hI_.2 z.1 (by omega); omega, by have := hI_.2 z.1 (by omega); omega⟩)) [58, 56] rfl (And.intro rfl (And.intro rfl True.intro)) rfl ?_)) | (change CallGoal _ 22 _ _ _ _; first | (refine call_rule (liftN (sLen E y.2.2.1 (rowsR (rowsV Qv) Qv.length))) [5] rfl (And.intro rfl True.intro) rfl (fun (y3 : Unit) hy3 => ?_)))) | (change JoinGoal _ _ _ _ _ _ _ _; refine join_stop (gnOk E) ?_) | (change HereGoal _ _ _ _ _ _ _; refine here_at 6 rfl ?_; change HereGoal _ _ _ _ _ _ _; refine hereG.poolNil Zz.encI 3 ?_; change HereGoal _ _ _ _ _ _ _; refine here_go (gnOk E) ?_) | (change HereGoal _ _ _ _ _ _ _; refine here_at 9 rfl ?_; change HereGoal _ _ _ _ _ _ _; refine hereG.foOut 1 x.1 (rowQ Qv x.1) rfl (rowQ_get (by omega)) ?_; change HereGoal _ _ _ _ _ _ _; refine here_set 7 (.sl 23 (rowQ Qv x.1).2.2.length (rowQ Qv x.1).2.1) rfl (fun _ => by simp only [SV.bd]; omega) (fun En V w hp => (head_den (i := x.1) (rowQ Qv x.1)).trans (says (c := 24) rfl hp).symm) ?_; change HereGoal _ _ _ _ _ _ _; refine here_go (gnOk E) ?_) | (change HereGoal _ _ _ _ _ _ _; refine here_at 12 rfl ?_; change HereGoal _ _ _ _ _ _ _; (have ex : x.1 = Qv.length := by omega); (obtain ⟨xi, xq⟩ := x); dsimp only at *; subst ex; change HereGoal _ _ _ _ _ _ _; refine here_go (gnOk E) ?_) | (change HereGoal _ _ _ _ _ _ _; refine here_at 16 rfl ?_; change HereGoal _ _ _ _ _ _ _; refine hereG.foOut 3 y.1 (opAt Sv y.1).2.2.1 rfl (opsQ_get (by omega)) ?_; change HereGoal _ _ _ _ _ _ _; refine hereG.cells_ 40 [.int .i64 (opAt Sv y.1).1, .int .i64 (opAt Sv y.1).2.1.1, .int .i64 (opAt Sv y.1).2.1.2, .sl 41 (opAt Sv y.1).2.2.1.2.2.length (opAt Sv y.1).2.2.1.2.1, .int .i64 (opAt Sv y.1).2.2.2.k, .int .i64 (opAt Sv y.1).2.2.2.a, .int .i64 (opAt Sv y.1).2.2.2.b] rfl rfl (fun En V w hp => by have q := says (c := 42) rfl hp; simp only [SV.denL, SV.den] at q ⊢; rw [q, show ((y.1 : Nat) : Int).toNat = y.1 from rfl, ops_at (by omega)]; rfl) ?_; change HereGoal _ _ _ _ _ _ _; refine here_go (gnOk E) ?_) | (change HereGoal _ _ _ _ _ _ _; refine here_at 33 rfl ?_; change HereGoal _ _ _ _ _ _ _; refine hereG.foOut 1 z.1 (rowQ Qv z.1) rfl (rowQ_get (by omega)) ?_; change HereGoal _ _ _ _ _ _ _; refine here_set 12 (.sl 56 (rowQ Qv z.1).2.2.length (rowQ Qv z.1).2.1) rfl (fun _ => by simp only [SV.bd]; omega) (fun En V w hp => (head_den (i := z.1) (rowQ Qv z.1)).trans (says (c := 57) rfl hp).symm) ?_; change HereGoal _ _ _ _ _ _ _; refine here_go (gnOk E) ?_) | (change NextGoal _ _ _; (have _ := ha1); refine nextG.imp 5 (Ψ := storePr E (y.2.2.1 ++ a1.2.1) (rowsR (rowsV Qv) Qv.length)) rfl (store_more a1.2.1) ?_; change NextGoal _ _ _; refine next_go ?_) | (change @Exists (Nat × List Ey × List (PRow Int) × Unit) (fun _ => updPK _ _ _ _ _ _); first | (have _ := ha1; refine @Exists.intro (Nat × List Ey × List (PRow Int) × Unit) _ (y.1 + 1, a1.1, y.2.2.1 ++ a1.2.1, ()) ?_) | (have _ := hb1; refine @Exists.intro (Nat × List Ey × List (PRow Int) × Unit) _ (y.1 + 1, b1.1, y.2.2.1, ()) ?_) | (have _ := hJ; refine @Exists.intro (Nat × List Ey × List (PRow Int) × Unit) _ (y.1 + 1, y.2.1, y.2.2.1, ()) ?_) | (refine @Exists.intro (Nat × List Ey × List (PRow Int) × Unit) _ (0, (rowsR (rowsV Qv) Qv.length), xq, ()) ?_)) | with_reducible rfl | (intro h; first | (exfalso; omega; done) | (exfalso; first | exact h trivial | omega | (rw [sameL_refl] at h; cases h; done) | (exact h (sameL_refl _)); done) | skip) | (refine And.intro ?_ ?_) | exact True.intro | (refine @Exists.intro Unit _ () ?_) | (refine @Exists.intro (_ = _) _ rfl ?_) | (change NextGoal _ _ _; refine next_go ?_) | (change LoopGoal _ _ _ _ _ _; refine loop_keep 7 [0, 1, 5, 26, 27] (gnOk E) rfl [6, 9, 12, 16, 33] (X := (Nat × List (PRow Int))) (fun x => [(28, .int .i64 ((x.1 : Nat) : Int))]) (fun x => [(5, .pr (storePr E x.2 (rowsR (rowsV Qv) x.1))), (6, .pr (poolPr Zz.encI 3 x.2))]) [] (fun x => x.1 ≤ Qv.length ∧ ∀ j, j < x.1 → rightV (rowQ Qv j).2.2 = true ∧ (rowQ Qv j).2.2.length ≤ 20) (fun x => Qv.length - x.1) ⟨(0, []), ?_⟩ (fun x hI_ => ?_)) | (change @Exists ((Nat × List (PRow Int))) (fun _ => updPK _ _ _ _ _ _); refine @Exists.intro ((Nat × List (PRow Int))) _ ((x.1 + 1, x.2 ++ S3)) ?_) | (change LoopGoal _ _ _ _ _ _; refine loop_keep 14 [0, 5, 8, 52, 53] (gnOk E) rfl [6, 9, 12, 16, 33] (X := (Nat × List Ey × List (PRow Int) × Unit)) (fun y => [(54, .int .i64 ((y.1 : Nat) : Int))]) (fun y => [(5, .pr (storePr E y.2.2.1 (rowsR (rowsV Qv) Qv.length))), (23, .pr (storePr E y.2.2.1 y.2.1)), (6, .pr (poolPr Zz.encI 3 y.2.2.1))]) [] (fun y => y.1 ≤ Sv.length) (fun y => Sv.length - y.1) ⟨(0, (rowsR (rowsV Qv) Qv.length), xq, ()), ?_⟩ (fun y hJ => ?_)) | (change @Exists ((Nat × List Ey × List (PRow Int) × Unit)) (fun _ => updPK _ _ _ _ _ _); refine @Exists.intro ((Nat × List Ey × List (PRow Int) × Unit)) _ ((y.1 + 1, ?_, ?_, ())) ?_; rotate_left 2) | (change LoopGoal _ _ _ _ _ _; refine loop_keep 31 [0, 5, 104, 105] (gnOk E) rfl [6, 9, 12, 16, 33] (X := (Nat × Unit)) (fun z => [(106, .int .i64 ((z.1 : Nat) : Int))]) (fun z => []) [] (fun z => z.1 ≤ Qv.length) (fun z => Qv.length - z.1) ⟨(0, ()), ?_⟩ (fun z hK => ?_)) | (change @Exists ((Nat × Unit)) (fun _ => updPK _ _ _ _ _ _); refine @Exists.intro ((Nat × Unit)) _ ((z.1 + 1, ())) ?_) | (change CallGoal _ _ _ _ _ _; first | (refine call_rule (liftN (sNew E [])) [] rfl True.intro rfl (fun (y1 : Unit) hy1 => ?_))) | (change CallGoal _ _ _ _ _ _; first | (refine call0 (liftN (alive_z E)) [4] rfl (And.intro rfl True.intro) rfl ?_) | (refine call0 (liftN (rright_z E (rowQ Qv x.1).2.2 _ _ ⟨rfl, by omega⟩)) [23] rfl (And.intro rfl True.intro) rfl ?_))
  all_goals first | (dsimp only; first | rfl | omega) | rfl | omega | exact Nat.zero_le _ | (rw [heads_len]; omega) | (show _ < _; rw [heads_len]; omega) | (rw [ops_len]; omega) | (show _ < _; rw [ops_len]; omega) | (dsimp only; rw [← rowsR_ins, rowsV_at]) | exact (rows_next hI_.2 (hrt (by assumption)) (by omega) _ (by assumption)).1 | exact (rows_next hI_.2 (hrt (by assumption)) (by omega) _ (by assumption)).2 | (rw [rowsR_len]; done) | (rw [rowsR_len]; simp; done)
theorem apart_z (E : Nat → Addr) (Qv : List (PRow V3)) (n k : Nat) (Sv : List Op8) (n2 k2 : Nat) (h : n = Qv.length ∧ n2 = Sv.length) : DoesC (Gn E) 5 (Sp0 [.sl 0 n k, .sl 2 n2 k2] [(0, .ro Hdr encS (headsV Qv) k), (1, .fo (roPool Zz.encV Qv)), (2, .ro Op8H encO (opsH Sv) k2), (3, .fo (roPool Zz.encV (opsQ Sv))), (4, .fo (tzF 10))] 5 .tt) := by
  by_cases hl : Qv.length ≤ 20 ∧ Sv.length ≤ 40
  · exact apart_ok E Qv n k Sv n2 k2 ⟨h, hl.1, hl.2⟩
  · exact apart_no E Qv n k Sv n2 k2 ⟨h, hl⟩
end Go.Proofs.YtcnbngiplfoomaaGreatDoor
namespace Go.Proofs.YtcnbngiplfoomaaGreatDoor
open Go.Zz Go.Px
set_option linter.unusedVariables false
set_option linter.unusedSectionVars false
set_option linter.unusedSimpArgs false
set_option maxRecDepth 10000
open Go.Proofs
theorem apart_any (E : Nat → Addr) (av bv : Option Addr) (Qv : List (PRow V3)) (c : Nat) (Sv : List Op8) (c2 : Nat) (W : World) (hG : Errs (Gn E).errs W (Gn E).Δ.eT E) (hT : TabAt 10 Lib.deBruijn64tab W) (hs : 10 < W.heap.size) (hav : Arr W 1 av Qv.length c (flat encS.val (headsV Qv))) (hQ : ∀ q ∈ Qv, Arr W 3 q.1 q.2.2.length q.2.1 (flat Zz.encV.val q.2.2)) (hbv : Arr W 7 bv Sv.length c2 (flat encO.val (opsH Sv))) (hS : ∀ q ∈ opsQ Sv, Arr W 3 q.1 q.2.2.length q.2.1 (flat Zz.encV.val q.2.2)) :
    Calls Tryz.prog 5 #[.slice av Qv.length c, .slice bv Sv.length c2] W (Ret fun v w' => v = .bool true ∧ Keep Nn W w') :=
  (apart_z E Qv Qv.length c Sv Sv.length c2 ⟨rfl, rfl⟩).law2 (fun d => if d = 2 then bv else av) hG rfl (fun d α e l' k' hm => by
    simp only [Sp0, List.mem_cons, Prod.mk.injEq, List.not_mem_nil, or_false] at hm
    rcases hm with ⟨rfl, hm⟩ | ⟨rfl, hm⟩ | ⟨rfl, hm⟩ | ⟨rfl, hm⟩ | ⟨rfl, hm⟩
    · cases hm; exact ⟨by rw [heads_len]; exact hav, by decide⟩
    · cases hm
    · cases hm; exact ⟨by rw [ops_len]; exact hbv, by decide⟩
    · cases hm
    · cases hm) (fun d Ψ hm => by
    simp only [Sp0, List.mem_cons, Prod.mk.injEq, List.not_mem_nil, or_false] at hm
    rcases hm with ⟨rfl, hm⟩ | ⟨rfl, hm⟩ | ⟨rfl, hm⟩ | ⟨rfl, hm⟩ | ⟨rfl, hm⟩
    · cases hm
    · cases hm; exact rows_fo hQ _
    · cases hm
    · cases hm; exact rows_fo hS _
    · cases hm; exact ⟨hT, id, hs⟩) (fun _ => rfl) (by simp [SV.denL, SV.den, Sp0])
end Go.Proofs.YtcnbngiplfoomaaGreatDoor
