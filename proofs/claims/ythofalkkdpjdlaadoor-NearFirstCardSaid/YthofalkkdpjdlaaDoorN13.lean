/- layer 13: Closest -/
import Derived.Test.YthofalkkdpjdlaaDoorN10
import Derived.Test.YthofalkkdpjdlaaDoorXp13f
namespace Go.Proofs.YthofalkkdpjdlaaDoor
open Go.Px
set_option linter.unusedVariables false
set_option linter.unusedSimpArgs false

set_option maxRecDepth 10000 in
set_option maxHeartbeats 1600000 in
theorem tlen (base T : Nat) (Bl : List Nat) (bs : List (H2 × B4)) (w : World) (hown : (oTree 72 68 T Bl bs).φ base w) (hbw : base ≤ w.heap.size) (hbn : bs.length ≤ 1000) :
    Calls Tryd.prog 25 #[pV T 0] w (Ret fun v w' => v = .int .i64 ((bs.length : Nat) : Int) ∧ Keep Nn w w') := by
 refine sxenter (n := 8) (args := [pV T 0]) Tryd.func25 rfl rfl rfl fun a hf => ?_
 replace hf : Fr 8 [(0, eP T 0)] a := hf
 have hM : MemOk [] w := MemOk.nil w
 have hk0 : Keep Nn w w := Keep.refl _ _
 obtain ⟨nB, cB, N, Lc, hBl, hti, hbT, hTc, _, hcM⟩ := hown
 refine wp_seq_k (fun K1 hK1 => ?_)
 refine wp_region_lit ?_
 refine q0 hf hM [0] [{}] (nw := []) An ?_
 clear hf; intro a hf
 refine wpList_nil ?_
 refine hK1 _ _ ?_
 refine wp_seq_k (fun K2 hK2 => ?_)
 refine wp_region_lit ?_
 refine q0 hf hM [] [{}, {}, {}, { os := [.ex (.map (some cB))] }] (nw := [(6, .val (.map (some cB)))]) (ob := [w.cell? ⟨T, 1, none⟩ = some (.map (some cB))]) (Ao (hk0.cell ((cell?_blk (b := ⟨T, 72, [.map (some nB), .map (some cB)]⟩) hTc 1).trans rfl) (fun h => h))) ?_
 clear hf; intro a hf
 refine sxmaplen hf (hcM.2.keep hk0 (fun h => h)) rfl rfl rfl rfl rfl Tryd.underlying70 ?_; clear hf; intro a hf
 refine q0 hf hM [] [{}] (nw := [(2, eI ((Lc.length : Nat) : Int))]) An ?_
 clear hf; intro a hf
 refine wpList_nil ?_
 refine hK2 _ _ ?_
 refine wp_ret ?_
 refine qr (fn := Tryd.f25) hf hM [] (l := [iV ((Lc.length : Nat) : Int)]) (ob := []) An ?_
 show (iV ((Lc.length : Nat) : Int) : Value) = .int .i64 ((bs.length : Nat) : Int) ∧ Keep Nn w w
 refine ⟨congrArg _ ?_, hk0⟩
 rw [hti.cs, List.length_map]

set_option maxRecDepth 10000 in
set_option maxHeartbeats 1600000 in
theorem index_hand (av : Option Addr) (l : List H2) (c : Nat) (ti tg : Int) (w : World) (hav : Arr w 2 av l.length c (flat fH l)) (hbav : l.length ≤ 1000000) :
    Calls Tryd.prog 69 #[.slice av l.length c, .agg #[iV ti, iV tg]] w (Ret fun v w' => ∃ j : Int, v = .int .i64 j ∧ Keep Nn w w' ∧ (0 ≤ j ↔ inS l (⟨ti, tg⟩ : H2) = true)) := by
 refine sxenter (n := 19) (args := [.slice av l.length c, .agg #[iV ti, iV tg]]) Tryd.func69 rfl rfl rfl fun a hf => ?_
 replace hf : Fr 19 [(0, eS av l.length c), (1, .val (.agg #[iV ti, iV tg]))] a := hf
 have hM : MemOk [] w := MemOk.nil w
 have hk0 : Keep Nn w w := Keep.refl _ _
 refine wp_seq_k (fun K1 hK1 => ?_)
 refine wp_region_lit ?_
 refine q1 hf hM [0] [{ os := [.nw] }, {}] (nw := fun B1 => [(3, eP B1 0)]) (M' := fun B1 => [⟨B1, 39, [iV ti, iV tg]⟩]) (ob := fun B1 => []) (fun B1 => An) ?_
 clear hf hM; intro a w1 B1 hf hM hB hk
 have hbB1 : w.heap.size ≤ B1 := by have := hk0.size; omega
 have hk0 := hk0.then hk (by intro i _ h; cases h)
 clear hk hB
 refine wpList_nil ?_
 refine hK1 _ _ ?_
 refine wp_seq_k (fun K2 hK2 => ?_)
 refine wp_seq_k (fun K3 hK3 => ?_)
 refine wp_region_lit ?_
 refine q0 hf hM [3, 0] [{}, {}, {}] (nw := [(8, eI 0), (7, eI (l.length : Int))]) An ?_
 clear hf; intro a hf
 refine wpList_nil ?_
 refine hK3 _ _ ?_
 refine wp_block ?_
 have hf := (hf.prune [0, 3, 7, 8]).to (env' := [(0, eS av l.length c), (3, eP B1 0), (7, eI (l.length : Int)), (8, eI 0)]) (by kernel_rfl)
 refine sxloop (fun zm a w1 => ∃ (i : Int), zm = ((l.length : Int) - i).toNat ∧ Fr 19 [(0, eS av l.length c), (3, eP B1 0), (7, eI (l.length : Int)), (8, eI i)] a ∧ MemOk [⟨B1, 39, [iV ti, iV tg]⟩] w1 ∧ Keep Nn w w1 ∧ (0 ≤ i ∧ i ≤ (l.length : Int)) ∧ (inS (l.take i.toNat) (⟨ti, tg⟩ : H2) = false)) _ ⟨0, rfl, hf.conv (Ac rfl (Ac rfl (Ac rfl (Ao rfl)))), hM, hk0, (by omega), (by simp [inS])⟩ ?_
 clear hf hM hk0
 rintro _ a w2 ⟨i, rfl, hf, hM, hk0, hi, hno⟩ L1 hL1
 refine wp_seq_k (fun K4 hK4 => ?_)
 refine wp_region_lit ?_
 refine q0 hf hM [0, 3, 7, 8] [{}] (nw := [(9, eB (decide ((i : Int) < (l.length : Int))))]) An ?_
 clear hf; intro a hf
 refine wpList_nil ?_
 refine hK4 _ _ ?_
 refine wp_seq_k (fun K5 hK5 => ?_)
 refine qc hf (b := (decide ((i : Int) < (l.length : Int)))) (fun hc1r => ?_) (fun hc1r => ?_)
 · have hc1 := (nT hc1r)
   refine wp_skip ?_
   refine hK5 _ _ ?_
   refine wp_seq_k (fun K6 hK6 => ?_)
   refine wp_block ?_
   refine wp_seq_k (fun K7 hK7 => ?_)
   refine wp_region_lit ?_
   refine q0 hf hM [0, 3, 7, 8] [{}, {}] (nw := [(5, eI i)]) An ?_
   clear hf; intro a hf
   refine wpList_nil ?_
   refine hK7 _ _ ?_
   refine wp_seq_k (fun K8 hK8 => ?_)
   replace hM := hM.drew; replace hk0 := hk0.drew
   obtain ⟨Cq1, hCq1i, hCq1e⟩ := qcls fun w' => MemOk [⟨B1, 39, [iV ti, iV tg]⟩] w' ∧ Keep Nn w w' ∧ True
   refine sxdraw (C := Cq1) (.leaf [(0, true), (1, true), (2, true), (3, true), (4, true), (5, true)]) (by kernel_rfl) (by kernel_rfl) (by as_aux_lemma => kernel_rfl) rfl (by as_aux_lemma => kernel_rfl) (by kernel_rfl) (hCq1i _ ⟨hM.sub (.cons_cons _ .slnil), hk0, trivial⟩) ?_
   refine sxleaf ?_
   have hC := (hCq1i _ ⟨hM.sub (.cons_cons _ .slnil), hk0, trivial⟩)
   refine qd hf hC (fun w' h => (hCq1e w' h).1) [5, 0, 3, 7, 8] [{ os := [.ld 0 0, .ld 0 1] }, {}, {}, { sp := true }, { os := [.ex (iV (l.getD i.toNat ⟨0, 0⟩).i), .ex (iV (l.getD i.toNat ⟨0, 0⟩).g)] }, { sp := true, hint := some (bV (((ti : Int) == (l.getD i.toNat ⟨0, 0⟩).i) && ((tg : Int) == (l.getD i.toNat ⟨0, 0⟩).g))) }] (nw := [(16, eB (((ti : Int) == (l.getD i.toNat ⟨0, 0⟩).i) && ((tg : Int) == (l.getD i.toNat ⟨0, 0⟩).g))), (15, .val (.agg #[iV (l.getD i.toNat ⟨0, 0⟩).i, iV (l.getD i.toNat ⟨0, 0⟩).g])), (14, .val (.pointer (some ((sa av : Addr).add (i.toNat * 2))))), (13, eI i), (12, eS av l.length c), (11, .val (.agg #[iV ti, iV tg]))]) (ob := [Ad B1 0, Ad B1 1, (0 : Int) ≤ i ∧ i < (l.length : Int), (av : Option Addr).isSome = true, (∀ w', Cq1 w' → w'.cell? (((sa av : Addr).add (i.toNat * 2)).add 0) = some (iV (l.getD i.toNat ⟨0, 0⟩).i)), (∀ w', Cq1 w' → w'.cell? (((sa av : Addr).add (i.toNat * 2)).add 1) = some (iV (l.getD i.toNat ⟨0, 0⟩).g)), (bV (((ti : Int) == (l.getD i.toNat ⟨0, 0⟩).i) && (((tg : Int) == (l.getD i.toNat ⟨0, 0⟩).g) && true)) : Value) = (bV (((ti : Int) == (l.getD i.toNat ⟨0, 0⟩).i) && ((tg : Int) == (l.getD i.toNat ⟨0, 0⟩).g)) : Value)]) (Ac (ad _ _) (Ac (ad _ _) (Ac (by first | omega | (simp; done)) (Ac ((hav.keepNn hk0).some_ (by first | omega | (simp; done))) (Ac (fun w' hc => by obtain ⟨hM, hk0, hO⟩ := hCq1e w' hc; exact ((hav.keepNn hk0).get (fun _ => rfl) (by first | omega | (simp; done)) rfl)) (Ac (fun w' hc => by obtain ⟨hM, hk0, hO⟩ := hCq1e w' hc; exact ((hav.keepNn hk0).get (fun _ => rfl) (by first | omega | (simp; done)) rfl)) (Ao (by simp)))))))) ?_
   clear hf; intro a hf
   clear hC
   show K8 _ _
   refine hK8 _ _ ?_
   refine qc hf (b := (((ti : Int) == (l.getD i.toNat ⟨0, 0⟩).i) && ((tg : Int) == (l.getD i.toNat ⟨0, 0⟩).g))) (fun hc2r => ?_) (fun hc2r => ?_)
   · have hc2 := hc2r
     try simp only [Bool.or_eq_true, Bool.and_eq_true, Bool.not_eq_true', Bool.not_eq_false', Bool.or_eq_false_iff, Bool.and_eq_false_iff, decide_eq_true_eq, decide_eq_false_iff_not, beq_iff_eq, bne_iff_ne, beq_eq_false_iff_ne, bne_eq_false_iff_eq, Bool.and_true, Bool.true_and, ne_eq] at hc2
     refine wp_seq_k (fun K9 hK9 => ?_)
     refine wp_region_lit ?_
     refine q0 hf hM [] [{}, {}] (nw := [(4, eI i)]) An ?_
     clear hf; intro a hf
     refine wpList_nil ?_
     refine hK9 _ _ ?_
     refine wp_ret ?_
     refine qr (fn := Tryd.f69) hf hM [] (l := [iV i]) (ob := []) An ?_
     show ∃ j : Int, (iV i : Value) = .int .i64 j ∧ Keep Nn w w2.drew ∧ (0 ≤ j ↔ inS l (⟨ti, tg⟩ : H2) = true)
     exact ⟨_, rfl, hk0, fun _ => inS_here (i := i) (d := ⟨0, 0⟩) (by omega) (eqc_hT (by omega)), fun _ => hi.1⟩
   · have hc2 := hc2r
     try simp only [Bool.or_eq_true, Bool.and_eq_true, Bool.not_eq_true', Bool.not_eq_false', Bool.or_eq_false_iff, Bool.and_eq_false_iff, decide_eq_true_eq, decide_eq_false_iff_not, beq_iff_eq, bne_iff_ne, beq_eq_false_iff_ne, bne_eq_false_iff_eq, Bool.and_true, Bool.true_and, ne_eq] at hc2
     refine wp_skip ?_
     refine hK6 _ _ ?_
     refine wp_region_lit ?_
     refine q0 hf hM [16, 15, 14, 13, 12, 11, 0, 3, 7] [{ hint := some (iV (i + 1)) }, {}] (nw := [(8, eI (i + 1))]) (ob := [(iV (IntKind.i64.wrap (i + 1)) : Value) = (iV (i + 1) : Value)]) (Ao (wr (by omega))) ?_
     clear hf; intro a hf
     refine wpList_nil ?_
     have hno2 := inS_next (d := ⟨0, 0⟩) (by omega) hno (nec_hT (by omega))
     have hf := (hf.prune [0, 3, 7, 8]).to (env' := [(0, eS av l.length c), (3, eP B1 0), (7, eI (l.length : Int)), (8, eI (i + 1))]) (by kernel_rfl)
     refine hL1 _ _ _ (by omega) ⟨i + 1, rfl, hf.conv (Ac rfl (Ac rfl (Ac rfl (Ao rfl)))), hM, hk0, (by omega), hno2⟩
 · have hc1 := (nU hc1r)
   refine wp_exit ?_
   refine hK2 _ _ ?_
   refine wp_seq_k (fun K10 hK10 => ?_)
   refine wp_region_lit ?_
   refine q0 hf hM [] [{}] (nw := [(4, eI (-1))]) An ?_
   clear hf; intro a hf
   refine wpList_nil ?_
   refine hK10 _ _ ?_
   refine wp_ret ?_
   refine qr (fn := Tryd.f69) hf hM [] (l := [iV (-1)]) (ob := []) An ?_
   show ∃ j : Int, (iV (-1) : Value) = .int .i64 j ∧ Keep Nn w w2 ∧ (0 ≤ j ↔ inS l (⟨ti, tg⟩ : H2) = true)
   have e : l.take i.toNat = l := List.take_of_length_le (by omega)
   rw [e] at hno
   exact ⟨_, rfl, hk0, by rw [hno]; simp⟩

set_option maxRecDepth 10000 in
set_option maxHeartbeats 1600000 in
theorem contains_hand (av : Option Addr) (l : List H2) (c : Nat) (ti tg : Int) (w : World) (hav : Arr w 2 av l.length c (flat fH l)) (hbav : l.length ≤ 1000000) :
    Calls Tryd.prog 50 #[.slice av l.length c, .agg #[iV ti, iV tg]] w (Ret fun v w' => v = .bool (inS l (⟨ti, tg⟩ : H2)) ∧ Keep Nn w w') := by
 refine sxenter (n := 9) (args := [.slice av l.length c, .agg #[iV ti, iV tg]]) Tryd.func50 rfl rfl rfl fun a hf => ?_
 replace hf : Fr 9 [(0, eS av l.length c), (1, .val (.agg #[iV ti, iV tg]))] a := hf
 have hM : MemOk [] w := MemOk.nil w
 have hk0 : Keep Nn w w := Keep.refl _ _
 refine wp_seq_k (fun K1 hK1 => ?_)
 refine wp_region_lit ?_
 refine q1 hf hM [0] [{ os := [.nw] }, {}] (nw := fun B1 => [(3, eP B1 0)]) (M' := fun B1 => [⟨B1, 39, [iV ti, iV tg]⟩]) (ob := fun B1 => []) (fun B1 => An) ?_
 clear hf hM; intro a w1 B1 hf hM hB hk
 have hbB1 : w.heap.size ≤ B1 := by have := hk0.size; omega
 have hk0 := hk0.then hk (by intro i _ h; cases h)
 clear hk hB
 refine wpList_nil ?_
 refine hK1 _ _ ?_
 refine wp_seq_k (fun K2 hK2 => ?_)
 refine wp_region_lit ?_
 refine q0 hf hM [] [{}, { os := [.ld 0 0, .ld 0 1] }] (nw := [(6, .val (.agg #[iV ti, iV tg])), (5, eS av l.length c)]) (ob := [Ad B1 0, Ad B1 1]) (Ac (ad _ _) (Ao (ad _ _))) ?_
 clear hf; intro a hf
 refine sxcall hf rfl rfl rfl rfl (g := 69) (vs := [.slice av l.length c, .agg #[iV ti, iV tg]]) (ob := []) (by as_aux_lemma => kernel_rfl) An enters69 (index_hand av l c ti tg w1  (hav.keepNn hk0) (by first | omega | (simp; omega) | (simp; done) | exact Nat.le_trans (byKinds_len _ _) (by omega) | decide)) ?_
 clear hf; rintro _ w2 a ⟨j1, rfl, hk, hj1⟩ hf
 have hM := hM.keepNn hk
 have hk0 := hk0.trans hk.nn
 clear hk
 have hjj := hj1
 refine q0 hf hM [] [{}, {}] (nw := [(4, eB (decide ((j1 : Int) ≥ 0)))]) An ?_
 clear hf; intro a hf
 refine wpList_nil ?_
 refine hK2 _ _ ?_
 refine wp_ret ?_
 refine qr (fn := Tryd.f50) hf hM [] (l := [bV (decide ((j1 : Int) ≥ 0))]) (ob := []) An ?_
 show (bV (decide ((j1 : Int) ≥ 0)) : Value) = .bool (inS l (⟨ti, tg⟩ : H2)) ∧ Keep Nn w w2
 refine ⟨congrArg Value.bool ?_, hk0⟩
 rw [Bool.eq_iff_iff, decide_eq_true_iff]
 exact hjj

set_option maxRecDepth 10000 in
set_option maxHeartbeats 1600000 in
theorem closest_no (E : Nat → Addr) (base T : Nat) (Bl : List Nat) (bs : List (H2 × B4)) (px py : Int) (av : Option Addr) (l : List H2) (c : Nat) (w : World) (hn0 : (ofOk px py 0 0) = false) (hown : (oTree 72 68 T Bl bs).φ base w) (hbw : base ≤ w.heap.size) (hbn : bs.length ≤ 1000) (hav : Arr w 2 av l.length c (flat fH l)) (hbav : l.length ≤ 1000000) (hG : Errs [1, 3, 0] w 161 E) :
    Calls Tryd.prog 26 #[pV T 0, .agg #[iV px, iV py], .slice av l.length c] w (Ret fun v w' => v = .tuple #[.agg #[iV 0, iV 0], bV false, .iface 161 (.pointer (some (E 1)))] ∧ Keep Nn w w') := by
 refine sxenter (n := 38) (args := [pV T 0, .agg #[iV px, iV py], .slice av l.length c]) Tryd.func26 rfl rfl rfl fun a hf => ?_
 replace hf : Fr 38 [(0, eP T 0), (1, .val (.agg #[iV px, iV py])), (2, eS av l.length c)] a := hf
 have hM : MemOk [] w := MemOk.nil w
 have hk0 : Keep Nn w w := Keep.refl _ _
 refine wp_seq_k (fun K1 hK1 => ?_)
 refine wp_region_lit ?_
 refine q1 hf hM [0, 2] [{ os := [.nw] }, { os := [.nw] }, {}, {}] (nw := fun B1 => [(6, eP (B1 + 1) 0), (4, eP B1 0)]) (M' := fun B1 => [⟨B1, 46, [iV px, iV py]⟩, ⟨B1 + 1, 39, [iV 0, iV 0]⟩]) (ob := fun B1 => []) (fun B1 => An) ?_
 clear hf hM; intro a w1 B1 hf hM hB hk
 have hbB1 : w.heap.size ≤ B1 := by have := hk0.size; omega
 have hk0 := hk0.then hk (by intro i _ h; cases h)
 clear hk hB
 refine wpList_nil ?_
 refine hK1 _ _ ?_
 refine wp_seq_k (fun K2 hK2 => ?_)
 replace hM := hM.drew; replace hk0 := hk0.drew
 obtain ⟨Cq1, hCq1i, hCq1e⟩ := qcls fun w' => MemOk [⟨B1, 46, [iV px, iV py]⟩, ⟨B1 + 1, 39, [iV 0, iV 0]⟩] w' ∧ Keep Nn w w' ∧ True
 refine sxdraw (C := Cq1) (.leaf [(0, true), (1, true), (2, true), (3, false), (4, false), (5, true), (6, true), (7, true), (8, true), (9, true)]) (by kernel_rfl) (by kernel_rfl) (by as_aux_lemma => kernel_rfl) rfl (by as_aux_lemma => kernel_rfl) (by kernel_rfl) (hCq1i _ ⟨hM.sub (.cons_cons _ (.cons_cons _ .slnil)), hk0, trivial⟩) ?_
 refine sxleaf ?_
 have hC := (hCq1i _ ⟨hM.sub (.cons_cons _ (.cons_cons _ .slnil)), hk0, trivial⟩)
 refine qd hf hC (fun w' h => (hCq1e w' h).1) [6, 2] [{}, { os := [.ld 0 0, .ld 0 1] }, {}] (nw := [(16, eP T 0), (15, .val (.agg #[iV px, iV py])), (14, eP T 0)]) (ob := [Ad B1 0, Ad B1 1]) (Ac (ad _ _) (Ao (ad _ _))) ?_
 clear hf; intro a hf
 refine scstep rfl ?_
 refine sxcall hf rfl rfl rfl rfl (g := 25) (vs := [pV T 0]) (ob := []) (by as_aux_lemma => kernel_rfl) An enters25 (tlen base T Bl bs w1.drew ((oTree 72 68 T Bl bs).stab hown hk0 (fun _ _ h => h)) (by have := hk0.size; omega) hbn) ?_
 clear hf; rintro _ w2 a ⟨rfl, hk⟩ hf
 have hM := hM.keepNn hk; have hk0 := hk0.trans hk; clear hk
 have hC := (hCq1i _ ⟨hM.sub (.cons_cons _ (.cons_cons _ .slnil)), hk0, trivial⟩)
 refine scdone hC ?_
 refine scstep rfl ?_
 refine sxcall hf rfl rfl rfl rfl (g := 22) (vs := [pV T 0, .agg #[iV px, iV py], iV ((bs.length : Nat) : Int)]) (ob := []) (by as_aux_lemma => kernel_rfl) An enters22 (nearest_no1 E T px py ((bs.length : Nat) : Int) w2 hn0 (hG.keep hk0 (fun _ h => h))) ?_
 clear hf; rintro _ w3 a ⟨rfl, hk⟩ hf
 have hM := hM.keepNn hk
 have hk0 := hk0.trans hk.nn
 clear hk
 have hC := (hCq1i _ ⟨hM.sub (.cons_cons _ (.cons_cons _ .slnil)), hk0, trivial⟩)
 refine scdone hC ?_
 refine qd hf hC (fun w' h => (hCq1e w' h).1) [6, 2] [{}, {}, {}, {}, {}] (nw := [(10, .val (.iface 161 (.pointer (some (E 1))))), (9, eS none 0 0)]) An ?_
 clear hf; intro a hf
 clear hC
 show K2 _ _
 refine hK2 _ _ ?_
 refine wp_seq_k (fun K3 hK3 => ?_)
 refine wp_seq_k (fun K4 hK4 => ?_)
 refine wp_region_lit ?_
 refine q0 hf hM [10, 9, 6, 2] [{}, {}] (nw := [(22, eB true)]) An ?_
 clear hf; intro a hf
 refine wpList_nil ?_
 refine hK4 _ _ ?_
 refine sxcond hf (b := true) (by kernel_rfl) (fun _ => ?_) (fun h => by cases h)
 refine wp_seq_k (fun K5 hK5 => ?_)
 refine wp_region_lit ?_
 refine q1 hf hM [6] [{ sp := true }, {}, { os := [.st 1 0, .st 1 1] }, {}, {}] (nw := fun B3 => [(8, .val (.iface 161 (.pointer (some (E 1))))), (7, eB false)]) (M' := fun B3 => [⟨B1, 46, [iV px, iV py]⟩, ⟨B1 + 1, 39, [iV 0, iV 0]⟩]) (ob := fun B3 => [Ad (B1 + 1) 0, Ad (B1 + 1) 1]) (fun B3 => (Ac (ad _ _) (Ao (ad _ _)))) ?_
 clear hf hM; intro a w4 B3 hf hM hB hk
 have hbB3 : w.heap.size ≤ B3 := by have := hk0.size; omega
 have hk0 := hk0.thenNew hk (by simp [Mem.names] <;> omega)
 clear hk hB
 refine wpList_nil ?_
 refine hK5 _ _ ?_
 refine wp_ret ?_
 refine qr (fn := Tryd.f26) hf hM [.ld 1 0, .ld 1 1] (l := [.agg #[iV 0, iV 0], bV false, .iface 161 (.pointer (some (E 1)))]) (ob := [Ad (B1 + 1) 0, Ad (B1 + 1) 1]) (Ac (ad _ _) (Ao (ad _ _))) ?_
 show (.tuple #[.agg #[iV 0, iV 0], bV false, .iface 161 (.pointer (some (E 1)))] : Value) = .tuple #[.agg #[iV 0, iV 0], bV false, .iface 161 (.pointer (some (E 1)))] ∧ Keep Nn w w4
 exact ⟨rfl, hk0⟩

set_option maxRecDepth 10000 in
set_option maxHeartbeats 1600000 in
theorem closest_ok (E : Nat → Addr) (base T : Nat) (Bl : List Nat) (bs : List (H2 × B4)) (px py : Int) (av : Option Addr) (l : List H2) (c : Nat) (w : World) (hn0 : (ofOk px py 0 0) = true) (hown : (oTree 72 68 T Bl bs).φ base w) (hbw : base ≤ w.heap.size) (hbn : bs.length ≤ 1000) (hav : Arr w 2 av l.length c (flat fH l)) (hbav : l.length ≤ 1000000) (hG : Errs [1, 3, 0] w 161 E) :
    Calls Tryd.prog 26 #[pV T 0, .agg #[iV px, iV py], .slice av l.length c] w (Ret fun v w' => v = .tuple #[.agg #[iV (((firstOut l (nearL px py ((bs.length : Nat) : Int) bs)).getD ⟨0, 0⟩).i), iV (((firstOut l (nearL px py ((bs.length : Nat) : Int) bs)).getD ⟨0, 0⟩).g)], bV ((firstOut l (nearL px py ((bs.length : Nat) : Int) bs)).isSome), .nilIface] ∧ Keep Nn w w') := by
 refine sxenter (n := 38) (args := [pV T 0, .agg #[iV px, iV py], .slice av l.length c]) Tryd.func26 rfl rfl rfl fun a hf => ?_
 replace hf : Fr 38 [(0, eP T 0), (1, .val (.agg #[iV px, iV py])), (2, eS av l.length c)] a := hf
 have hM : MemOk [] w := MemOk.nil w
 have hk0 : Keep Nn w w := Keep.refl _ _
 have hnl := nearL_le px py ((bs.length : Nat) : Int) bs
 have hq0 : (decide ((((bs.length : Nat) : Int) : Int) < 0)) = false := decide_eq_false (by omega)
 refine wp_seq_k (fun K1 hK1 => ?_)
 refine wp_region_lit ?_
 refine q1 hf hM [0, 2] [{ os := [.nw] }, { os := [.nw] }, {}, {}] (nw := fun B1 => [(6, eP (B1 + 1) 0), (4, eP B1 0)]) (M' := fun B1 => [⟨B1, 46, [iV px, iV py]⟩, ⟨B1 + 1, 39, [iV 0, iV 0]⟩]) (ob := fun B1 => []) (fun B1 => An) ?_
 clear hf hM; intro a w1 B1 hf hM hB hk
 have hbB1 : w.heap.size ≤ B1 := by have := hk0.size; omega
 have hk0 := hk0.then hk (by intro i _ h; cases h)
 clear hk hB
 refine wpList_nil ?_
 refine hK1 _ _ ?_
 refine wp_seq_k (fun K2 hK2 => ?_)
 replace hM := hM.drew; replace hk0 := hk0.drew
 obtain ⟨Cq1, hCq1i, hCq1e⟩ := qcls fun w' => MemOk [⟨B1, 46, [iV px, iV py]⟩, ⟨B1 + 1, 39, [iV 0, iV 0]⟩] w' ∧ Keep Nn w w' ∧ True
 refine sxdraw (C := Cq1) (.leaf [(0, true), (1, true), (2, true), (3, false), (4, false), (5, true), (6, true), (7, true), (8, true), (9, true)]) (by kernel_rfl) (by kernel_rfl) (by as_aux_lemma => kernel_rfl) rfl (by as_aux_lemma => kernel_rfl) (by kernel_rfl) (hCq1i _ ⟨hM.sub (.cons_cons _ (.cons_cons _ .slnil)), hk0, trivial⟩) ?_
 refine sxleaf ?_
 have hC := (hCq1i _ ⟨hM.sub (.cons_cons _ (.cons_cons _ .slnil)), hk0, trivial⟩)
 refine qd hf hC (fun w' h => (hCq1e w' h).1) [6, 2] [{}, { os := [.ld 0 0, .ld 0 1] }, {}] (nw := [(16, eP T 0), (15, .val (.agg #[iV px, iV py])), (14, eP T 0)]) (ob := [Ad B1 0, Ad B1 1]) (Ac (ad _ _) (Ao (ad _ _))) ?_
 clear hf; intro a hf
 refine scstep rfl ?_
 refine sxcall hf rfl rfl rfl rfl (g := 25) (vs := [pV T 0]) (ob := []) (by as_aux_lemma => kernel_rfl) An enters25 (tlen base T Bl bs w1.drew ((oTree 72 68 T Bl bs).stab hown hk0 (fun _ _ h => h)) (by have := hk0.size; omega) hbn) ?_
 clear hf; rintro _ w2 a ⟨rfl, hk⟩ hf
 have hM := hM.keepNn hk; have hk0 := hk0.trans hk; clear hk
 have hC := (hCq1i _ ⟨hM.sub (.cons_cons _ (.cons_cons _ .slnil)), hk0, trivial⟩)
 refine scdone hC ?_
 refine scstep rfl ?_
 have hO : OwnOk w.heap.size [⟨B1, 46, [iV px, iV py]⟩, ⟨B1 + 1, 39, [iV 0, iV 0]⟩] [] w2 := OwnOk.nil hM
 refine sxcall hf rfl rfl rfl rfl (g := 22) (vs := [pV T 0, .agg #[iV px, iV py], iV ((bs.length : Nat) : Int)]) (ob := []) (by as_aux_lemma => kernel_rfl) An enters22 (nearest_ok E base T Bl bs px py ((bs.length : Nat) : Int) w2 hn0 hq0 ((oTree 72 68 T Bl bs).stab hown hk0 (fun _ _ h => h)) (by have := hk0.size; omega) hbn (by omega) (hG.keep hk0 (fun _ h => h))) ?_
 clear hf; rintro _ w3 a ⟨an, cn, rfl, hk, hx⟩ hf
 have hO := hO.more hM hk (by have := hk0.size; omega) hx; have hM := hM.keepNn hk; have hk0 := hk0.trans hk; clear hk hx
 replace hO : OwnOk w.heap.size [⟨B1, 46, [iV px, iV py]⟩, ⟨B1 + 1, 39, [iV 0, iV 0]⟩] [oS 39 2 (.slice an ((nearL px py ((bs.length : Nat) : Int) bs).length) cn) ((nearL px py ((bs.length : Nat) : Int) bs).length) (flat fH (nearL px py ((bs.length : Nat) : Int) bs))] w3 := hO
 have hC := (hCq1i _ ⟨hM.sub (.cons_cons _ (.cons_cons _ .slnil)), hk0, trivial⟩)
 refine scdone hC ?_
 refine qd hf hC (fun w' h => (hCq1e w' h).1) [6, 2] [{}, {}, {}, {}, {}] (nw := [(10, .val (.nilIface)), (9, eS an ((nearL px py ((bs.length : Nat) : Int) bs).length) cn)]) An ?_
 clear hf; intro a hf
 clear hC
 show K2 _ _
 refine hK2 _ _ ?_
 refine wp_seq_k (fun K3 hK3 => ?_)
 refine wp_seq_k (fun K4 hK4 => ?_)
 refine wp_region_lit ?_
 refine q0 hf hM [10, 9, 6, 2] [{}, {}] (nw := [(22, eB false)]) An ?_
 clear hf; intro a hf
 refine wpList_nil ?_
 refine hK4 _ _ ?_
 refine sxcond hf (b := false) (by kernel_rfl) (fun h => by cases h) (fun _ => ?_)
 refine wp_skip ?_
 refine hK3 _ _ ?_
 refine wp_seq_k (fun K5 hK5 => ?_)
 refine wp_seq_k (fun K6 hK6 => ?_)
 refine wp_region_lit ?_
 refine q0 hf hM [6, 2] [{}, {}, {}] (nw := [(27, eI 0), (26, eI ((nearL px py ((bs.length : Nat) : Int) bs).length : Int)), (25, eS an ((nearL px py ((bs.length : Nat) : Int) bs).length) cn)]) An ?_
 clear hf; intro a hf
 refine wpList_nil ?_
 refine hK6 _ _ ?_
 refine wp_block ?_
 have hf := (hf.prune [2, 6, 25, 26, 27]).to (env' := [(2, eS av l.length c), (6, eP (B1 + 1) 0), (25, eS an ((nearL px py ((bs.length : Nat) : Int) bs).length) cn), (26, eI ((nearL px py ((bs.length : Nat) : Int) bs).length : Int)), (27, eI 0)]) (by kernel_rfl)
 refine sxloop (fun zm a w1 => ∃ (i : Int), zm = (((nearL px py ((bs.length : Nat) : Int) bs).length : Int) - i).toNat ∧ Fr 38 [(2, eS av l.length c), (6, eP (B1 + 1) 0), (25, eS an ((nearL px py ((bs.length : Nat) : Int) bs).length) cn), (26, eI ((nearL px py ((bs.length : Nat) : Int) bs).length : Int)), (27, eI i)] a ∧ MemOk [⟨B1, 46, [iV px, iV py]⟩, ⟨B1 + 1, 39, [iV 0, iV 0]⟩] w1 ∧ Keep Nn w w1 ∧ OwnOk w.heap.size [⟨B1, 46, [iV px, iV py]⟩, ⟨B1 + 1, 39, [iV 0, iV 0]⟩] [oS 39 2 (.slice an ((nearL px py ((bs.length : Nat) : Int) bs).length) cn) ((nearL px py ((bs.length : Nat) : Int) bs).length) (flat fH (nearL px py ((bs.length : Nat) : Int) bs))] w1 ∧ (0 ≤ i ∧ i ≤ ((nearL px py ((bs.length : Nat) : Int) bs).length : Int)) ∧ (firstOut l ((nearL px py ((bs.length : Nat) : Int) bs).take i.toNat) = none)) _ ⟨0, rfl, hf.conv (Ac rfl (Ac rfl (Ac rfl (Ac rfl (Ao rfl))))), hM, hk0, hO, (by omega), (by simp [firstOut])⟩ ?_
 clear hf hM hk0 hO
 rintro _ a w4 ⟨i, rfl, hf, hM, hk0, hO, hi, hnf⟩ L1 hL1
 refine wp_seq_k (fun K7 hK7 => ?_)
 refine wp_region_lit ?_
 refine q0 hf hM [2, 6, 25, 26, 27] [{}] (nw := [(28, eB (decide ((i : Int) < ((nearL px py ((bs.length : Nat) : Int) bs).length : Int))))]) An ?_
 clear hf; intro a hf
 refine wpList_nil ?_
 refine hK7 _ _ ?_
 refine wp_seq_k (fun K8 hK8 => ?_)
 refine qc hf (b := (decide ((i : Int) < ((nearL px py ((bs.length : Nat) : Int) bs).length : Int)))) (fun hc2r => ?_) (fun hc2r => ?_)
 · have hc2 := (nT hc2r)
   refine wp_skip ?_
   refine hK8 _ _ ?_
   refine wp_seq_k (fun K9 hK9 => ?_)
   refine wp_block ?_
   refine wp_seq_k (fun K10 hK10 => ?_)
   refine wp_region_lit ?_
   refine q1 hf hM [2, 6, 25, 26, 27] [{ sp := true }, { os := [.ex (iV (((nearL px py ((bs.length : Nat) : Int) bs).getD i.toNat ⟨0, 0⟩).i)), .ex (iV (((nearL px py ((bs.length : Nat) : Int) bs).getD i.toNat ⟨0, 0⟩).g))] }, { os := [.nw] }, { os := [.st 2 0, .st 2 1] }] (nw := fun B5 => [(12, eP B5 0)]) (M' := fun B5 => [⟨B1, 46, [iV px, iV py]⟩, ⟨B1 + 1, 39, [iV 0, iV 0]⟩, ⟨B5, 39, [iV (((nearL px py ((bs.length : Nat) : Int) bs).getD i.toNat ⟨0, 0⟩).i), iV (((nearL px py ((bs.length : Nat) : Int) bs).getD i.toNat ⟨0, 0⟩).g)]⟩]) (ob := fun B5 => [(0 : Int) ≤ i ∧ i < ((nearL px py ((bs.length : Nat) : Int) bs).length : Int), (an : Option Addr).isSome = true, w4.cell? (((sa an : Addr).add (i.toNat * 2)).add 0) = some (iV (((nearL px py ((bs.length : Nat) : Int) bs).getD i.toNat ⟨0, 0⟩).i)), w4.cell? (((sa an : Addr).add (i.toNat * 2)).add 1) = some (iV (((nearL px py ((bs.length : Nat) : Int) bs).getD i.toNat ⟨0, 0⟩).g)), Ad B5 0, Ad B5 1]) (fun B5 => (Ac (by first | omega | (simp; done)) (Ac ((own_arr (hO.own _ (List.Mem.head _))).some_ (by first | omega | (simp; done))) (Ac ((own_arr (hO.own _ (List.Mem.head _))).get (fun _ => rfl) (by first | omega | (simp; done)) rfl) (Ac ((own_arr (hO.own _ (List.Mem.head _))).get (fun _ => rfl) (by first | omega | (simp; done)) rfl) (Ac (ad _ _) (Ao (ad _ _)))))))) ?_
   clear hf hM; intro a w5 B5 hf hM hB hk
   have hbB5 : w.heap.size ≤ B5 := by have := hk0.size; omega
   have hk0 := hk0.thenNew hk (by simp [Mem.names] <;> omega)
   have hO := hO.step hM hk (by intro i h; simp only [Mem.names, List.map_cons, List.map_nil, List.mem_cons, List.not_mem_nil, or_false, List.map_append, List.cons_append, List.nil_append] at h ⊢; omega)
   clear hk hB
   refine wpList_nil ?_
   refine hK10 _ _ ?_
   refine wp_seq_k (fun K11 hK11 => ?_)
   refine wp_region_lit ?_
   refine q0 hf hM [12, 2, 6, 25, 26, 27] [{}, { os := [.ld 2 0, .ld 2 1] }] (nw := [(32, .val (.agg #[iV (((nearL px py ((bs.length : Nat) : Int) bs).getD i.toNat ⟨0, 0⟩).i), iV (((nearL px py ((bs.length : Nat) : Int) bs).getD i.toNat ⟨0, 0⟩).g)])), (31, eS av l.length c)]) (ob := [Ad B5 0, Ad B5 1]) (Ac (ad _ _) (Ao (ad _ _))) ?_
   clear hf; intro a hf
   refine sxcall hf rfl rfl rfl rfl (g := 50) (vs := [.slice av l.length c, .agg #[iV (((nearL px py ((bs.length : Nat) : Int) bs).getD i.toNat ⟨0, 0⟩).i), iV (((nearL px py ((bs.length : Nat) : Int) bs).getD i.toNat ⟨0, 0⟩).g)]]) (ob := []) (by as_aux_lemma => kernel_rfl) An enters50 (contains_hand av l c (((nearL px py ((bs.length : Nat) : Int) bs).getD i.toNat ⟨0, 0⟩).i) (((nearL px py ((bs.length : Nat) : Int) bs).getD i.toNat ⟨0, 0⟩).g) w5  (hav.keepNn hk0) (by first | omega | (simp; omega) | (simp; done) | exact Nat.le_trans (byKinds_len _ _) (by omega) | decide)) ?_
   clear hf; rintro _ w6 a ⟨rfl, hk⟩ hf
   have hO := hO.keepNn hk
   have hM := hM.keepNn hk
   have hk0 := hk0.trans hk.nn
   clear hk
   refine q0 hf hM [12, 2, 6, 25, 26, 27] [{}] (nw := [(34, eB (!(inS l (⟨(((nearL px py ((bs.length : Nat) : Int) bs).getD i.toNat ⟨0, 0⟩).i), (((nearL px py ((bs.length : Nat) : Int) bs).getD i.toNat ⟨0, 0⟩).g)⟩ : H2))))]) An ?_
   clear hf; intro a hf
   refine wpList_nil ?_
   refine hK11 _ _ ?_
   refine qc hf (b := !(inS l (⟨(((nearL px py ((bs.length : Nat) : Int) bs).getD i.toNat ⟨0, 0⟩).i), (((nearL px py ((bs.length : Nat) : Int) bs).getD i.toNat ⟨0, 0⟩).g)⟩ : H2))) (fun hc3r => ?_) (fun hc3r => ?_)
   · have hc3 := hc3r
     try simp only [Bool.or_eq_true, Bool.and_eq_true, Bool.not_eq_true', Bool.not_eq_false', Bool.or_eq_false_iff, Bool.and_eq_false_iff, decide_eq_true_eq, decide_eq_false_iff_not, beq_iff_eq, bne_iff_ne, beq_eq_false_iff_ne, bne_eq_false_iff_eq, Bool.and_true, Bool.true_and, ne_eq] at hc3
     refine wp_seq_k (fun K12 hK12 => ?_)
     refine wp_region_lit ?_
     refine q1 hf hM [6] [{ os := [.ld 2 0, .ld 2 1] }, { os := [.st 1 0, .st 1 1] }, {}, {}] (nw := fun B8 => [(8, .val (.nilIface)), (7, eB true)]) (M' := fun B8 => [⟨B1, 46, [iV px, iV py]⟩, ⟨B1 + 1, 39, [iV (((nearL px py ((bs.length : Nat) : Int) bs).getD i.toNat ⟨0, 0⟩).i), iV (((nearL px py ((bs.length : Nat) : Int) bs).getD i.toNat ⟨0, 0⟩).g)]⟩, ⟨B5, 39, [iV (((nearL px py ((bs.length : Nat) : Int) bs).getD i.toNat ⟨0, 0⟩).i), iV (((nearL px py ((bs.length : Nat) : Int) bs).getD i.toNat ⟨0, 0⟩).g)]⟩]) (ob := fun B8 => [Ad B5 0, Ad B5 1, Ad (B1 + 1) 0, Ad (B1 + 1) 1]) (fun B8 => (Ac (ad _ _) (Ac (ad _ _) (Ac (ad _ _) (Ao (ad _ _)))))) ?_
     clear hf hM; intro a w7 B8 hf hM hB hk
     have hbB8 : w.heap.size ≤ B8 := by have := hk0.size; omega
     have hk0 := hk0.thenNew hk (by simp [Mem.names] <;> omega)
     have hO := hO.step hM hk (by intro i h; simp only [Mem.names, List.map_cons, List.map_nil, List.mem_cons, List.not_mem_nil, or_false, List.map_append, List.cons_append, List.nil_append] at h ⊢; omega)
     clear hk hB
     refine wpList_nil ?_
     refine hK12 _ _ ?_
     refine wp_ret ?_
     refine qr (fn := Tryd.f26) hf hM [.ld 1 0, .ld 1 1] (l := [.agg #[iV (((nearL px py ((bs.length : Nat) : Int) bs).getD i.toNat ⟨0, 0⟩).i), iV (((nearL px py ((bs.length : Nat) : Int) bs).getD i.toNat ⟨0, 0⟩).g)], bV true, .nilIface]) (ob := [Ad (B1 + 1) 0, Ad (B1 + 1) 1]) (Ac (ad _ _) (Ao (ad _ _))) ?_
     show (.tuple #[.agg #[iV (((nearL px py ((bs.length : Nat) : Int) bs).getD i.toNat ⟨0, 0⟩).i), iV (((nearL px py ((bs.length : Nat) : Int) bs).getD i.toNat ⟨0, 0⟩).g)], bV true, .nilIface] : Value) = .tuple #[.agg #[iV (((firstOut l (nearL px py ((bs.length : Nat) : Int) bs)).getD ⟨0, 0⟩).i), iV (((firstOut l (nearL px py ((bs.length : Nat) : Int) bs)).getD ⟨0, 0⟩).g)], bV ((firstOut l (nearL px py ((bs.length : Nat) : Int) bs)).isSome), .nilIface] ∧ Keep Nn w w7
     have hfo := firstOut_here (but := l) (by omega) hnf (by first | assumption | (simp only [Bool.not_eq_true', Bool.not_eq_false'] at *; assumption))
     rw [hfo]
     exact ⟨rfl, hk0⟩
   · have hc3 := hc3r
     try simp only [Bool.or_eq_true, Bool.and_eq_true, Bool.not_eq_true', Bool.not_eq_false', Bool.or_eq_false_iff, Bool.and_eq_false_iff, decide_eq_true_eq, decide_eq_false_iff_not, beq_iff_eq, bne_iff_ne, beq_eq_false_iff_ne, bne_eq_false_iff_eq, Bool.and_true, Bool.true_and, ne_eq] at hc3
     refine wp_skip ?_
     refine hK9 _ _ ?_
     refine wp_region_lit ?_
     refine q0 hf hM [2, 6, 25, 26] [{ hint := some (iV (i + 1)) }, {}] (nw := [(27, eI (i + 1))]) (ob := [(iV (IntKind.i64.wrap (i + 1)) : Value) = (iV (i + 1) : Value)]) (Ao (wr (by omega))) ?_
     clear hf; intro a hf
     refine wpList_nil ?_
     have hnf2 := firstOut_next (but := l) (by omega) hnf (by assumption)
     have hf := (hf.prune [2, 6, 25, 26, 27]).to (env' := [(2, eS av l.length c), (6, eP (B1 + 1) 0), (25, eS an ((nearL px py ((bs.length : Nat) : Int) bs).length) cn), (26, eI ((nearL px py ((bs.length : Nat) : Int) bs).length : Int)), (27, eI (i + 1))]) (by kernel_rfl)
     replace hO : OwnOk w.heap.size [⟨B1, 46, [iV px, iV py]⟩, ⟨B1 + 1, 39, [iV 0, iV 0]⟩] [oS 39 2 (.slice an ((nearL px py ((bs.length : Nat) : Int) bs).length) cn) ((nearL px py ((bs.length : Nat) : Int) bs).length) (flat fH (nearL px py ((bs.length : Nat) : Int) bs))] w6 := hO.sub (.cons_cons _ (.cons_cons _ (.cons _ .slnil))) (List.Sublist.refl _)
     replace hM : MemOk [⟨B1, 46, [iV px, iV py]⟩, ⟨B1 + 1, 39, [iV 0, iV 0]⟩] w6 := hM.sub (.cons_cons _ (.cons_cons _ (.cons _ .slnil)))
     refine hL1 _ _ _ (by omega) ⟨i + 1, rfl, hf.conv (Ac rfl (Ac rfl (Ac rfl (Ac rfl (Ao rfl))))), hM, hk0, hO, (by omega), hnf2⟩
 · have hc2 := (nU hc2r)
   refine wp_exit ?_
   refine hK5 _ _ ?_
   refine wp_seq_k (fun K13 hK13 => ?_)
   refine wp_region_lit ?_
   refine q1 hf hM [6] [{ sp := true }, { os := [.st 1 0, .st 1 1] }, {}, {}] (nw := fun B10 => [(8, .val (.nilIface)), (7, eB false)]) (M' := fun B10 => [⟨B1, 46, [iV px, iV py]⟩, ⟨B1 + 1, 39, [iV 0, iV 0]⟩]) (ob := fun B10 => [Ad (B1 + 1) 0, Ad (B1 + 1) 1]) (fun B10 => (Ac (ad _ _) (Ao (ad _ _)))) ?_
   clear hf hM; intro a w8 B10 hf hM hB hk
   have hbB10 : w.heap.size ≤ B10 := by have := hk0.size; omega
   have hk0 := hk0.thenNew hk (by simp [Mem.names] <;> omega)
   have hO := hO.step hM hk (by intro i h; simp only [Mem.names, List.map_cons, List.map_nil, List.mem_cons, List.not_mem_nil, or_false, List.map_append, List.cons_append, List.nil_append] at h ⊢; omega)
   clear hk hB
   refine wpList_nil ?_
   refine hK13 _ _ ?_
   refine wp_ret ?_
   refine qr (fn := Tryd.f26) hf hM [.ld 1 0, .ld 1 1] (l := [.agg #[iV 0, iV 0], bV false, .nilIface]) (ob := [Ad (B1 + 1) 0, Ad (B1 + 1) 1]) (Ac (ad _ _) (Ao (ad _ _))) ?_
   show (.tuple #[.agg #[iV 0, iV 0], bV false, .nilIface] : Value) = .tuple #[.agg #[iV (((firstOut l (nearL px py ((bs.length : Nat) : Int) bs)).getD ⟨0, 0⟩).i), iV (((firstOut l (nearL px py ((bs.length : Nat) : Int) bs)).getD ⟨0, 0⟩).g)], bV ((firstOut l (nearL px py ((bs.length : Nat) : Int) bs)).isSome), .nilIface] ∧ Keep Nn w w8
   have e : (nearL px py ((bs.length : Nat) : Int) bs).take i.toNat = (nearL px py ((bs.length : Nat) : Int) bs) := List.take_of_length_le (by omega)
   rw [e] at hnf
   rw [hnf]
   exact ⟨rfl, hk0⟩
end Go.Proofs.YthofalkkdpjdlaaDoor
