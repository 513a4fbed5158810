/- layer 6: rows that are the same, masks -/
import Derived.Test.YtifcgjnknikjkaaDoorBC7
import Derived.Test.YtifcgjnknikjkaaDoorXp6e
namespace Go.Proofs.YtifcgjnknikjkaaDoor
open Go.Px
set_option linter.unusedVariables false
set_option linter.unusedSimpArgs false

set_option maxRecDepth 10000 in
set_option maxHeartbeats 1600000 in
theorem rsame (av : Option Addr) (l : List V3) (c : Nat) (bv : Option Addr) (m : List V3) (cm : Nat) (w : World) (hav : Arr w 3 av l.length c (flat fV l)) (hbav : l.length ≤ 1000000) (hbv : Arr w 3 bv m.length cm (flat fV m)) (hbbv : m.length ≤ 1000000) :
    Calls Tryd.prog 37 #[.slice av l.length c, .slice bv m.length cm] w (Ret fun v w' => v = .bool (sameL l m) ∧ Keep Nn w w') := by
 refine sxenter (n := 26) (args := [.slice av l.length c, .slice bv m.length cm]) Tryd.func37 rfl rfl rfl fun a hf => ?_
 replace hf : Fr 26 [(0, eS av l.length c), (1, eS bv m.length cm)] a := hf
 have hM : MemOk [] w := MemOk.nil w
 have hk0 : Keep Nn w w := Keep.refl _ _
 refine wp_seq_k (fun K1 hK1 => ?_)
 refine wp_region_lit ?_
 refine q0 hf hM [0, 1] [{}] (env' := [(0, eS av l.length c), (1, eS bv m.length cm)]) (ob := []) An ?_
 clear hf; intro a hf
 refine wpList_nil ?_
 refine hK1 _ _ ?_
 refine wp_seq_k (fun K2 hK2 => ?_)
 refine wp_seq_k (fun K3 hK3 => ?_)
 refine wp_region_lit ?_
 refine q0 hf hM [10, 0, 1] [{}, {}, {}, {}, {}] (env' := [(10, eB (((l.length : Int) : Int) != (m.length : Int))), (0, eS av l.length c), (1, eS bv m.length cm)]) (ob := []) An ?_
 clear hf; intro a hf
 refine wpList_nil ?_
 refine hK3 _ _ ?_
 refine qc hf (b := (((l.length : Int) : Int) != (m.length : Int))) (fun hc1r => ?_) (fun hc1r => ?_)
 · have hc1 := (nN hc1r)
   refine wp_seq_k (fun K4 hK4 => ?_)
   refine wp_region_lit ?_
   refine q0 hf hM [4] [{}] (env' := [(4, eB false)]) (ob := []) An ?_
   clear hf; intro a hf
   refine wpList_nil ?_
   refine hK4 _ _ ?_
   refine wp_ret ?_
   refine qr (fn := Tryd.f37) hf hM [] (l := [bV false]) (ob := []) An ?_
   show (bV false : Value) = .bool (sameL l m) ∧ Keep Nn w w
   first | exact ⟨congrArg Value.bool (sameL_len (by assumption)).symm, hk0⟩ | exact ⟨congrArg Value.bool (sameL_at (j := i.toNat) ⟨0, 0, 0⟩ (v3_neB (by assumption))).symm, hk0⟩
 · have hc1 := (nM hc1r)
   refine wp_skip ?_
   refine hK2 _ _ ?_
   refine wp_seq_k (fun K5 hK5 => ?_)
   refine wp_seq_k (fun K6 hK6 => ?_)
   refine wp_region_lit ?_
   refine q0 hf hM [13, 12, 0, 1] [{}, {}, {}] (env' := [(13, eI 0), (12, eI (l.length : Int)), (0, eS av l.length c), (1, eS bv m.length cm)]) (ob := []) An ?_
   clear hf; intro a hf
   refine wpList_nil ?_
   refine hK6 _ _ ?_
   refine wp_block ?_
   have hf := hf.prune [0, 1, 12, 13]
   replace hf : Fr 26 [(0, eS av l.length c), (1, eS bv m.length cm), (12, eI (l.length : Int)), (13, eI 0)] a := hf
   refine sxloop (fun zm a w1 => ∃ (i : Int), zm = ((l.length : Int) - i).toNat ∧ Fr 26 [(0, eS av l.length c), (1, eS bv m.length cm), (12, eI (l.length : Int)), (13, eI i)] a ∧ MemOk [] w1 ∧ Keep Nn w w1 ∧ (0 ≤ i ∧ i ≤ (l.length : Int)) ∧ (∀ j, j < i.toNat → l.getD j ⟨0, 0, 0⟩ = m.getD j ⟨0, 0, 0⟩)) _ ⟨0, rfl, hf.conv (Ac rfl (Ac rfl (Ac rfl (Ao rfl)))), hM, hk0, (by omega), (fun j hj => by simp at hj)⟩ ?_
   clear hf hM hk0
   rintro _ a w1 ⟨i, rfl, hf, hM, hk0, hi, hsm⟩ L1 hL1
   refine wp_seq_k (fun K7 hK7 => ?_)
   refine wp_region_lit ?_
   refine q0 hf hM [14, 0, 1, 12, 13] [{}] (env' := [(14, eB (decide ((i : Int) < (l.length : Int)))), (0, eS av l.length c), (1, eS bv m.length cm), (12, eI (l.length : Int)), (13, eI i)]) (ob := []) An ?_
   clear hf; intro a hf
   refine wpList_nil ?_
   refine hK7 _ _ ?_
   refine wp_seq_k (fun K8 hK8 => ?_)
   refine qc hf (b := (decide ((i : Int) < (l.length : Int)))) (fun hc2r => ?_) (fun hc2r => ?_)
   · have hc2 := (nT hc2r)
     refine wp_skip ?_
     refine hK8 _ _ ?_
     refine wp_seq_k (fun K9 hK9 => ?_)
     refine wp_block ?_
     refine wp_seq_k (fun K10 hK10 => ?_)
     refine wp_region_lit ?_
     refine q0 hf hM [5, 0, 1, 12, 13] [{}, {}] (env' := [(5, eI i), (0, eS av l.length c), (1, eS bv m.length cm), (12, eI (l.length : Int)), (13, eI i)]) (ob := []) An ?_
     clear hf; intro a hf
     refine wpList_nil ?_
     refine hK10 _ _ ?_
     refine wp_seq_k (fun K11 hK11 => ?_)
     replace hM := hM.drew; replace hk0 := hk0.drew
     obtain ⟨C1, hC1d⟩ : ∃ C : World → Prop, C = fun w' => MemOk [] w' ∧ Keep Nn w w' ∧ True := ⟨_, rfl⟩
     have hC1i : ∀ w', (MemOk [] w' ∧ Keep Nn w w' ∧ True) → C1 w' := fun w' h => by rw [hC1d]; exact h
     have hC1e : ∀ w', C1 w' → (MemOk [] w' ∧ Keep Nn w w' ∧ True) := fun w' h => by rw [hC1d] at h; exact h
     refine sxdraw (C := C1) (.leaf [(0, true), (1, true), (2, true), (3, true), (4, true), (5, true), (6, true), (7, true), (8, true)]) (by kernel_rfl) (by kernel_rfl) (by as_aux_lemma => kernel_rfl) rfl (by as_aux_lemma => kernel_rfl) (by kernel_rfl) (hC1i _ ⟨hM.sub (.slnil), hk0, trivial⟩) ?_
     refine sxleaf ?_
     have hC := (hC1i _ ⟨hM.sub (.slnil), hk0, trivial⟩)
     refine qd hf hC (fun w' h => (hC1e w' h).1) [24, 23, 22, 21, 20, 19, 18, 17, 16, 0, 1, 12, 13] [{}, {}, { sp := true }, { os := [.ex (iV (l.getD i.toNat ⟨0, 0, 0⟩).k), .ex (iV (l.getD i.toNat ⟨0, 0, 0⟩).a), .ex (iV (l.getD i.toNat ⟨0, 0, 0⟩).b)] }, {}, {}, { sp := true }, { os := [.ex (iV (m.getD i.toNat ⟨0, 0, 0⟩).k), .ex (iV (m.getD i.toNat ⟨0, 0, 0⟩).a), .ex (iV (m.getD i.toNat ⟨0, 0, 0⟩).b)] }, { sp := true, hint := some (bV (!((((l.getD i.toNat ⟨0, 0, 0⟩).k : Int) == (m.getD i.toNat ⟨0, 0, 0⟩).k) && ((((l.getD i.toNat ⟨0, 0, 0⟩).a : Int) == (m.getD i.toNat ⟨0, 0, 0⟩).a) && (((l.getD i.toNat ⟨0, 0, 0⟩).b : Int) == (m.getD i.toNat ⟨0, 0, 0⟩).b))))) }] (env' := [(24, eB (!((((l.getD i.toNat ⟨0, 0, 0⟩).k : Int) == (m.getD i.toNat ⟨0, 0, 0⟩).k) && ((((l.getD i.toNat ⟨0, 0, 0⟩).a : Int) == (m.getD i.toNat ⟨0, 0, 0⟩).a) && (((l.getD i.toNat ⟨0, 0, 0⟩).b : Int) == (m.getD i.toNat ⟨0, 0, 0⟩).b))))), (23, .val (.agg #[iV (m.getD i.toNat ⟨0, 0, 0⟩).k, iV (m.getD i.toNat ⟨0, 0, 0⟩).a, iV (m.getD i.toNat ⟨0, 0, 0⟩).b])), (22, .val (.pointer (some ((sa bv : Addr).add (i.toNat * 3))))), (21, eI i), (20, eS bv m.length cm), (19, .val (.agg #[iV (l.getD i.toNat ⟨0, 0, 0⟩).k, iV (l.getD i.toNat ⟨0, 0, 0⟩).a, iV (l.getD i.toNat ⟨0, 0, 0⟩).b])), (18, .val (.pointer (some ((sa av : Addr).add (i.toNat * 3))))), (17, eI i), (16, eS av l.length c), (0, eS av l.length c), (1, eS bv m.length cm), (12, eI (l.length : Int)), (13, eI i)]) (ob := [(0 : Int) ≤ i ∧ i < (l.length : Int), (av : Option Addr).isSome = true, (∀ w', C1 w' → w'.cell? (((sa av : Addr).add (i.toNat * 3)).add 0) = some (iV (l.getD i.toNat ⟨0, 0, 0⟩).k)), (∀ w', C1 w' → w'.cell? (((sa av : Addr).add (i.toNat * 3)).add 1) = some (iV (l.getD i.toNat ⟨0, 0, 0⟩).a)), (∀ w', C1 w' → w'.cell? (((sa av : Addr).add (i.toNat * 3)).add 2) = some (iV (l.getD i.toNat ⟨0, 0, 0⟩).b)), (0 : Int) ≤ i ∧ i < (m.length : Int), (bv : Option Addr).isSome = true, (∀ w', C1 w' → w'.cell? (((sa bv : Addr).add (i.toNat * 3)).add 0) = some (iV (m.getD i.toNat ⟨0, 0, 0⟩).k)), (∀ w', C1 w' → w'.cell? (((sa bv : Addr).add (i.toNat * 3)).add 1) = some (iV (m.getD i.toNat ⟨0, 0, 0⟩).a)), (∀ w', C1 w' → w'.cell? (((sa bv : Addr).add (i.toNat * 3)).add 2) = some (iV (m.getD i.toNat ⟨0, 0, 0⟩).b)), (bV (!((((l.getD i.toNat ⟨0, 0, 0⟩).k : Int) == (m.getD i.toNat ⟨0, 0, 0⟩).k) && ((((l.getD i.toNat ⟨0, 0, 0⟩).a : Int) == (m.getD i.toNat ⟨0, 0, 0⟩).a) && ((((l.getD i.toNat ⟨0, 0, 0⟩).b : Int) == (m.getD i.toNat ⟨0, 0, 0⟩).b) && true)))) : Value) = (bV (!((((l.getD i.toNat ⟨0, 0, 0⟩).k : Int) == (m.getD i.toNat ⟨0, 0, 0⟩).k) && ((((l.getD i.toNat ⟨0, 0, 0⟩).a : Int) == (m.getD i.toNat ⟨0, 0, 0⟩).a) && (((l.getD i.toNat ⟨0, 0, 0⟩).b : Int) == (m.getD i.toNat ⟨0, 0, 0⟩).b)))) : Value)]) (Ac (by first | omega | (simp; done)) (Ac ((hav.keepNn hk0).some_ (by first | omega | (simp; done))) (Ac (fun w' hc => by obtain ⟨hM, hk0, hO⟩ := hC1e w' hc; exact ((hav.keepNn hk0).get (fun _ => rfl) (by first | omega | (simp; done)) rfl)) (Ac (fun w' hc => by obtain ⟨hM, hk0, hO⟩ := hC1e w' hc; exact ((hav.keepNn hk0).get (fun _ => rfl) (by first | omega | (simp; done)) rfl)) (Ac (fun w' hc => by obtain ⟨hM, hk0, hO⟩ := hC1e w' hc; exact ((hav.keepNn hk0).get (fun _ => rfl) (by first | omega | (simp; done)) rfl)) (Ac (by first | omega | (simp; done)) (Ac ((hbv.keepNn hk0).some_ (by first | omega | (simp; done))) (Ac (fun w' hc => by obtain ⟨hM, hk0, hO⟩ := hC1e w' hc; exact ((hbv.keepNn hk0).get (fun _ => rfl) (by first | omega | (simp; done)) rfl)) (Ac (fun w' hc => by obtain ⟨hM, hk0, hO⟩ := hC1e w' hc; exact ((hbv.keepNn hk0).get (fun _ => rfl) (by first | omega | (simp; done)) rfl)) (Ac (fun w' hc => by obtain ⟨hM, hk0, hO⟩ := hC1e w' hc; exact ((hbv.keepNn hk0).get (fun _ => rfl) (by first | omega | (simp; done)) rfl)) (Ao (by simp)))))))))))) ?_
     clear hf; intro a hf
     clear hC
     show K11 _ _
     refine hK11 _ _ ?_
     refine qc hf (b := (!((((l.getD i.toNat ⟨0, 0, 0⟩).k : Int) == (m.getD i.toNat ⟨0, 0, 0⟩).k) && ((((l.getD i.toNat ⟨0, 0, 0⟩).a : Int) == (m.getD i.toNat ⟨0, 0, 0⟩).a) && (((l.getD i.toNat ⟨0, 0, 0⟩).b : Int) == (m.getD i.toNat ⟨0, 0, 0⟩).b))))) (fun hc3r => ?_) (fun hc3r => ?_)
     · have hc3 := hc3r
       try simp only [Bool.or_eq_true, Bool.and_eq_true, Bool.not_eq_true', Bool.not_eq_false', Bool.or_eq_false_iff, Bool.and_eq_false_iff, decide_eq_true_eq, decide_eq_false_iff_not, beq_iff_eq, bne_iff_ne, beq_eq_false_iff_ne, bne_eq_false_iff_eq, Bool.and_true, Bool.true_and, ne_eq] at hc3
       refine wp_seq_k (fun K12 hK12 => ?_)
       refine wp_region_lit ?_
       refine q0 hf hM [4] [{}] (env' := [(4, eB false)]) (ob := []) An ?_
       clear hf; intro a hf
       refine wpList_nil ?_
       refine hK12 _ _ ?_
       refine wp_ret ?_
       refine qr (fn := Tryd.f37) hf hM [] (l := [bV false]) (ob := []) An ?_
       show (bV false : Value) = .bool (sameL l m) ∧ Keep Nn w w1.drew
       first | exact ⟨congrArg Value.bool (sameL_len (by assumption)).symm, hk0⟩ | exact ⟨congrArg Value.bool (sameL_at (j := i.toNat) ⟨0, 0, 0⟩ (v3_neB (by assumption))).symm, hk0⟩
     · have hc3 := hc3r
       try simp only [Bool.or_eq_true, Bool.and_eq_true, Bool.not_eq_true', Bool.not_eq_false', Bool.or_eq_false_iff, Bool.and_eq_false_iff, decide_eq_true_eq, decide_eq_false_iff_not, beq_iff_eq, bne_iff_ne, beq_eq_false_iff_ne, bne_eq_false_iff_eq, Bool.and_true, Bool.true_and, ne_eq] at hc3
       refine wp_skip ?_
       refine hK9 _ _ ?_
       refine wp_region_lit ?_
       refine q0 hf hM [13, 24, 23, 22, 21, 20, 19, 18, 17, 16, 0, 1, 12] [{ hint := some (iV (i + 1)) }, {}] (env' := [(13, eI (i + 1)), (24, eB (!((((l.getD i.toNat ⟨0, 0, 0⟩).k : Int) == (m.getD i.toNat ⟨0, 0, 0⟩).k) && ((((l.getD i.toNat ⟨0, 0, 0⟩).a : Int) == (m.getD i.toNat ⟨0, 0, 0⟩).a) && (((l.getD i.toNat ⟨0, 0, 0⟩).b : Int) == (m.getD i.toNat ⟨0, 0, 0⟩).b))))), (23, .val (.agg #[iV (m.getD i.toNat ⟨0, 0, 0⟩).k, iV (m.getD i.toNat ⟨0, 0, 0⟩).a, iV (m.getD i.toNat ⟨0, 0, 0⟩).b])), (22, .val (.pointer (some ((sa bv : Addr).add (i.toNat * 3))))), (21, eI i), (20, eS bv m.length cm), (19, .val (.agg #[iV (l.getD i.toNat ⟨0, 0, 0⟩).k, iV (l.getD i.toNat ⟨0, 0, 0⟩).a, iV (l.getD i.toNat ⟨0, 0, 0⟩).b])), (18, .val (.pointer (some ((sa av : Addr).add (i.toNat * 3))))), (17, eI i), (16, eS av l.length c), (0, eS av l.length c), (1, eS bv m.length cm), (12, eI (l.length : Int))]) (ob := [(iV (IntKind.i64.wrap (i + 1)) : Value) = (iV (i + 1) : Value)]) (Ao (wr (by omega))) ?_
       clear hf; intro a hf
       refine wpList_nil ?_
       have hsm2 := same_next ⟨0, 0, 0⟩ (l := l) (m := m) (i := i) (by omega) hsm (v3_eqB (by assumption))
       have hf := hf.prune [0, 1, 12, 13]
       replace hf : Fr 26 [(0, eS av l.length c), (1, eS bv m.length cm), (12, eI (l.length : Int)), (13, eI (i + 1))] a := hf
       refine hL1 _ _ _ (by omega) ⟨i + 1, rfl, hf.conv (Ac rfl (Ac rfl (Ac rfl (Ao rfl)))), hM, hk0, (by omega), hsm2⟩
   · have hc2 := (nU hc2r)
     refine wp_exit ?_
     refine hK5 _ _ ?_
     refine wp_seq_k (fun K13 hK13 => ?_)
     refine wp_region_lit ?_
     refine q0 hf hM [4] [{}] (env' := [(4, eB true)]) (ob := []) An ?_
     clear hf; intro a hf
     refine wpList_nil ?_
     refine hK13 _ _ ?_
     refine wp_ret ?_
     refine qr (fn := Tryd.f37) hf hM [] (l := [bV true]) (ob := []) An ?_
     show (bV true : Value) = .bool (sameL l m) ∧ Keep Nn w w1
     exact ⟨congrArg Value.bool (sameL_all ⟨0, 0, 0⟩ (by omega) fun j hj => hsm j (by omega)).symm, hk0⟩

set_option maxRecDepth 10000 in
set_option maxHeartbeats 1600000 in
theorem rright_bad (av : Option Addr) (l : List V3) (c : Nat) (w : World) (hn0 : (firstBad l == 0) = false) (hav : Arr w 3 av l.length c (flat fV l)) (hbav : l.length ≤ 1000000) :
    Calls Tryd.prog 18 #[.slice av l.length c] w (Ret fun v w' => v = .bool (rightV l) ∧ Keep Nn w w') := by
 refine sxenter (n := 17) (args := [.slice av l.length c]) Tryd.func18 rfl rfl rfl fun a hf => ?_
 replace hf : Fr 17 [(0, eS av l.length c)] a := hf
 have hM : MemOk [] w := MemOk.nil w
 have hk0 : Keep Nn w w := Keep.refl _ _
 have hn : ¬ firstBad l = 0 := by simpa using hn0
 refine wp_seq_k (fun K1 hK1 => ?_)
 refine wp_region_lit ?_
 refine q0 hf hM [0] [{}] (env' := [(0, eS av l.length c)]) (ob := []) An ?_
 clear hf; intro a hf
 refine wpList_nil ?_
 refine hK1 _ _ ?_
 refine wp_seq_k (fun K2 hK2 => ?_)
 refine wp_region_lit ?_
 refine q0 hf hM [6, 0] [{}] (env' := [(6, eS av l.length c), (0, eS av l.length c)]) (ob := []) An ?_
 clear hf; intro a hf
 refine sxcall hf rfl rfl rfl rfl (g := 33) (vs := [.slice av l.length c]) (ob := []) (by as_aux_lemma => kernel_rfl) An enters33 (rrow_bad av l c w hn0 (hav.keepNn hk0) (by first | omega | (simp; omega) | (simp; done) | exact Nat.le_trans (byKinds_len _ _) (by omega) | decide)) ?_
 clear hf; rintro _ w1 a ⟨rfl, hk⟩ hf
 have hM := hM.keepNn hk
 have hk0 := hk0.trans hk.nn
 clear hk
 refine q0 hf hM [4, 3, 0] [{}, {}, {}, {}, {}] (env' := [(4, eI (firstBad l)), (3, eS none 0 0), (0, eS av l.length c)]) (ob := []) An ?_
 clear hf; intro a hf
 refine wpList_nil ?_
 refine hK2 _ _ ?_
 refine wp_seq_k (fun K3 hK3 => ?_)
 refine wp_region_lit ?_
 refine q0 hf hM [12, 3, 0] [{}, {}, {}] (env' := [(12, eB (((firstBad l) : Int) == 0)), (3, eS none 0 0), (0, eS av l.length c)]) (ob := []) An ?_
 clear hf; intro a hf
 rcases Bool.eq_false_or_eq_true (((firstBad l) : Int) == 0) with hg1r | hg1r
 · have hg1 := (nE hg1r)
   have hf := hf.prune [12, 3, 0]
   replace hf : Fr 17 [(12, eB (((firstBad l) : Int) == 0)), (3, eS none 0 0), (0, eS av l.length c)] a := hf
   replace hf := hf.conv (env' := [(12, eB true), (3, eS none 0 0), (0, eS av l.length c)]) (Ac (congrArg Value.bool hg1r) (Ac rfl (Ao rfl)))
   refine q0 hf hM [14, 13, 12] [{}, {}] (env' := [(14, eS none 0 0), (13, eS av l.length c), (12, eB true)]) (ob := [true = true, true = true]) (Ac rfl (Ao rfl)) ?_
   clear hf; intro a hf
   refine sxcallg hf rfl rfl rfl rfl rfl (g := 37) (vs := [.slice av l.length c, .slice none ([] : List V3).length 0]) (ob := []) (by as_aux_lemma => kernel_rfl) An enters37 (rsame av l c none ([] : List V3) 0 w1  (hav.keepNn hk0) (by first | omega | (simp; omega) | (simp; done) | exact Nat.le_trans (byKinds_len _ _) (by omega) | decide) (Arr.none_nil _ _) (by first | omega | (simp; omega) | (simp; done) | exact Nat.le_trans (byKinds_len _ _) (by omega) | decide)) ?_
   clear hf; rintro _ w2 a ⟨rfl, hk⟩ hf
   have hM := hM.keepNn hk
   have hk0 := hk0.trans hk.nn
   clear hk
   refine q0 hf hM [2] [{}, {}] (env' := [(2, eB (sameL l ([] : List V3)))]) (ob := []) An ?_
   clear hf; intro a hf
   refine wpList_nil ?_
   refine hK3 _ _ ?_
   refine wp_ret ?_
   refine qr (fn := Tryd.f18) hf hM [] (l := [bV (sameL l ([] : List V3))]) (ob := []) An ?_
   show (bV (sameL l ([] : List V3)) : Value) = .bool (rightV l) ∧ Keep Nn w w2
   have hr := rightV_bad hn
   first | exact ⟨congrArg Value.bool hr.symm, hk0⟩ | (exfalso; simp_all; done) | (refine ⟨congrArg Value.bool ?_, hk0⟩; rw [hr]; simp [hn0])
 · have hg1 := (nF hg1r)
   have hf := hf.prune [12, 3, 0]
   replace hf : Fr 17 [(12, eB (((firstBad l) : Int) == 0)), (3, eS none 0 0), (0, eS av l.length c)] a := hf
   replace hf := hf.conv (env' := [(12, eB false), (3, eS none 0 0), (0, eS av l.length c)]) (Ac (congrArg Value.bool hg1r) (Ac rfl (Ao rfl)))
   refine q0 hf hM [14, 13, 12] [{ g := .off }, { g := .off }] (env' := [(14, .val (undef)), (13, .val (undef)), (12, eB false)]) (ob := [false = !true, false = !true]) (Ac rfl (Ao rfl)) ?_
   clear hf; intro a hf
   refine q0 hf hM [2] [{ g := .off }, {}, {}] (env' := [(2, eB false)]) (ob := [false = !true]) (Ao rfl) ?_
   clear hf; intro a hf
   refine wpList_nil ?_
   refine hK3 _ _ ?_
   refine wp_ret ?_
   refine qr (fn := Tryd.f18) hf hM [] (l := [bV false]) (ob := []) An ?_
   show (bV false : Value) = .bool (rightV l) ∧ Keep Nn w w1
   have hr := rightV_bad hn
   first | exact ⟨congrArg Value.bool hr.symm, hk0⟩ | (exfalso; simp_all; done) | (refine ⟨congrArg Value.bool ?_, hk0⟩; rw [hr]; simp [hn0])

set_option maxRecDepth 10000 in
set_option maxHeartbeats 1600000 in
theorem rright_dup (av : Option Addr) (l : List V3) (c : Nat) (w : World) (hn0 : (firstBad l == 0) = true) (hn1 : (noDup l) = false) (hav : Arr w 3 av l.length c (flat fV l)) (hbav : l.length ≤ 1000000) :
    Calls Tryd.prog 18 #[.slice av l.length c] w (Ret fun v w' => v = .bool (rightV l) ∧ Keep Nn w w') := by
 refine sxenter (n := 17) (args := [.slice av l.length c]) Tryd.func18 rfl rfl rfl fun a hf => ?_
 replace hf : Fr 17 [(0, eS av l.length c)] a := hf
 have hM : MemOk [] w := MemOk.nil w
 have hk0 : Keep Nn w w := Keep.refl _ _
 refine wp_seq_k (fun K1 hK1 => ?_)
 refine wp_region_lit ?_
 refine q0 hf hM [0] [{}] (env' := [(0, eS av l.length c)]) (ob := []) An ?_
 clear hf; intro a hf
 refine wpList_nil ?_
 refine hK1 _ _ ?_
 refine wp_seq_k (fun K2 hK2 => ?_)
 refine wp_region_lit ?_
 refine q0 hf hM [6, 0] [{}] (env' := [(6, eS av l.length c), (0, eS av l.length c)]) (ob := []) An ?_
 clear hf; intro a hf
 refine sxcall hf rfl rfl rfl rfl (g := 33) (vs := [.slice av l.length c]) (ob := []) (by as_aux_lemma => kernel_rfl) An enters33 (rrow_dup av l c w hn0 hn1 (hav.keepNn hk0) (by first | omega | (simp; omega) | (simp; done) | exact Nat.le_trans (byKinds_len _ _) (by omega) | decide)) ?_
 clear hf; rintro _ w1 a ⟨rfl, hk⟩ hf
 have hM := hM.keepNn hk
 have hk0 := hk0.trans hk.nn
 clear hk
 refine q0 hf hM [4, 3, 0] [{}, {}, {}, {}, {}] (env' := [(4, eI 4), (3, eS none 0 0), (0, eS av l.length c)]) (ob := []) An ?_
 clear hf; intro a hf
 refine wpList_nil ?_
 refine hK2 _ _ ?_
 refine wp_seq_k (fun K3 hK3 => ?_)
 refine wp_region_lit ?_
 refine q0 hf hM [14, 13, 12] [{}, {}, {}, { g := .off }, { g := .off }] (env' := [(14, .val (undef)), (13, .val (undef)), (12, eB false)]) (ob := [false = !true, false = !true]) (Ac rfl (Ao rfl)) ?_
 clear hf; intro a hf
 refine q0 hf hM [2] [{ g := .off }, {}, {}] (env' := [(2, eB false)]) (ob := [false = !true]) (Ao rfl) ?_
 clear hf; intro a hf
 refine wpList_nil ?_
 refine hK3 _ _ ?_
 refine wp_ret ?_
 refine qr (fn := Tryd.f18) hf hM [] (l := [bV false]) (ob := []) An ?_
 show (bV false : Value) = .bool (rightV l) ∧ Keep Nn w w1
 exact ⟨congrArg Value.bool (rightV_dup hn1).symm, hk0⟩

set_option maxRecDepth 10000 in
set_option maxHeartbeats 1600000 in
theorem rright_ok (av : Option Addr) (l : List V3) (c : Nat) (w : World) (hn0 : (firstBad l == 0) = true) (hn1 : (noDup l) = true) (hav : Arr w 3 av l.length c (flat fV l)) (hbav : l.length ≤ 1000000) :
    Calls Tryd.prog 18 #[.slice av l.length c] w (Ret fun v w' => v = .bool (rightV l) ∧ Keep Nn w w') := by
 refine sxenter (n := 17) (args := [.slice av l.length c]) Tryd.func18 rfl rfl rfl fun a hf => ?_
 replace hf : Fr 17 [(0, eS av l.length c)] a := hf
 have hM : MemOk [] w := MemOk.nil w
 have hk0 : Keep Nn w w := Keep.refl _ _
 have hn : firstBad l = 0 := by simpa using hn0
 refine wp_seq_k (fun K1 hK1 => ?_)
 refine wp_region_lit ?_
 refine q0 hf hM [0] [{}] (env' := [(0, eS av l.length c)]) (ob := []) An ?_
 clear hf; intro a hf
 refine wpList_nil ?_
 refine hK1 _ _ ?_
 refine wp_seq_k (fun K2 hK2 => ?_)
 refine wp_region_lit ?_
 refine q0 hf hM [6, 0] [{}] (env' := [(6, eS av l.length c), (0, eS av l.length c)]) (ob := []) An ?_
 clear hf; intro a hf
 refine sxcall hf rfl rfl rfl rfl (g := 33) (vs := [.slice av l.length c]) (ob := []) (by as_aux_lemma => kernel_rfl) An enters33 (rrow_ok av l c w hn0 hn1 (hav.keepNn hk0) (by first | omega | (simp; omega) | (simp; done) | exact Nat.le_trans (byKinds_len _ _) (by omega) | decide)) ?_
 clear hf; rintro _ w1 a ⟨a'1, c'1, rfl, hk, hx1⟩ hf
 have hO : OwnOk w.heap.size [] [] w := OwnOk.nil hM
 have hO := hO.more hM hk (by have := hk0.size; omega) hx1
 replace hO : OwnOk w.heap.size [] [⟨62, 3, .slice a'1 (byKinds l 10).length c'1, (byKinds l 10).length, flat fV (byKinds l 10)⟩] _ := hO
 have hM := hM.keepNn hk
 have hk0 := hk0.trans hk.nn
 clear hk
 refine q0 hf hM [4, 3, 0] [{}, {}, {}, {}, {}] (env' := [(4, eI 0), (3, eS a'1 (byKinds l 10).length c'1), (0, eS av l.length c)]) (ob := []) An ?_
 clear hf; intro a hf
 refine wpList_nil ?_
 refine hK2 _ _ ?_
 refine wp_seq_k (fun K3 hK3 => ?_)
 refine wp_region_lit ?_
 refine q0 hf hM [14, 13, 12] [{}, {}, {}, {}, {}] (env' := [(14, eS a'1 (byKinds l 10).length c'1), (13, eS av l.length c), (12, eB true)]) (ob := [true = true, true = true]) (Ac rfl (Ao rfl)) ?_
 clear hf; intro a hf
 refine sxcallg hf rfl rfl rfl rfl rfl (g := 37) (vs := [.slice av l.length c, .slice a'1 (byKinds l 10).length c'1]) (ob := []) (by as_aux_lemma => kernel_rfl) An enters37 (rsame av l c a'1 (byKinds l 10) c'1 w1  (hav.keepNn hk0) (by first | omega | (simp; omega) | (simp; done) | exact Nat.le_trans (byKinds_len _ _) (by omega) | decide) (own_arr (hO.own _ (List.Mem.head _))) (by first | omega | (simp; omega) | (simp; done) | exact Nat.le_trans (byKinds_len _ _) (by omega) | decide)) ?_
 clear hf; rintro _ w2 a ⟨rfl, hk⟩ hf
 have hO := hO.keepNn hk
 have hM := hM.keepNn hk
 have hk0 := hk0.trans hk.nn
 clear hk
 refine q0 hf hM [2] [{}, {}] (env' := [(2, eB (sameL l (byKinds l 10)))]) (ob := []) An ?_
 clear hf; intro a hf
 refine wpList_nil ?_
 refine hK3 _ _ ?_
 refine wp_ret ?_
 refine qr (fn := Tryd.f18) hf hM [] (l := [bV (sameL l (byKinds l 10))]) (ob := []) An ?_
 show (bV (sameL l (byKinds l 10)) : Value) = .bool (rightV l) ∧ Keep Nn w w2
 exact ⟨congrArg Value.bool (rright_eq hn hn1), hk0⟩

set_option maxRecDepth 10000 in
set_option maxHeartbeats 1600000 in
theorem bit_ok (k : Int) (w : World) (hn0 : (decide (0 ≤ k ∧ k ≤ 9)) = true) :
    Calls Tryd.prog 82 #[iV k] w (Ret fun v w' => v = uV (((bitN k) : Nat) : Int) ∧ Keep Nn w w') := by
 refine sxenter (n := 11) (args := [iV k]) Tryd.func82 rfl rfl rfl fun a hf => ?_
 replace hf : Fr 11 [(0, eI k)] a := hf
 have hM : MemOk [] w := MemOk.nil w
 have hk0 : Keep Nn w w := Keep.refl _ _
 have hkk : 0 ≤ k ∧ k ≤ 9 := of_decide_eq_true hn0
 refine wp_seq_k (fun K1 hK1 => ?_)
 refine wp_region_lit ?_
 refine q0 hf hM [0] [{}] (env' := [(0, eI k)]) (ob := []) An ?_
 clear hf; intro a hf
 refine wpList_nil ?_
 refine hK1 _ _ ?_
 refine wp_seq_k (fun K2 hK2 => ?_)
 refine wp_seq_k (fun K3 hK3 => ?_)
 refine wp_region_lit ?_
 refine q0 hf hM [8, 0] [{}, {}, {}, { g := .sym }, { g := .sym }, { hint := some (bV ((decide ((k : Int) < 0)) || (decide ((k : Int) ≥ 10)))) }] (env' := [(8, eB ((decide ((k : Int) < 0)) || (decide ((k : Int) ≥ 10)))), (0, eI k)]) (ob := [((decide ((k : Int) < 0)) = false → (decide ((k : Int) < 0)) = (decide ((k : Int) < 0))), ((decide ((k : Int) < 0)) = false → (decide ((k : Int) < 0)) = (decide ((k : Int) < 0))), (bif (decide ((k : Int) < 0)) then (bV true : Value) else bV (decide ((k : Int) ≥ 10))) = .bool ((decide ((k : Int) < 0)) || (decide ((k : Int) ≥ 10)))]) (Ac (fun hgd => rfl) (Ac (fun _ => rfl) (Ao (pick_or _ _)))) ?_
 clear hf; intro a hf
 refine wpList_nil ?_
 refine hK3 _ _ ?_
 refine qc hf (b := ((decide ((k : Int) < 0)) || (decide ((k : Int) ≥ 10)))) (fun hc1r => ?_) (fun hc1r => ?_)
 · have hc1 := hc1r
   try simp only [Bool.or_eq_true, Bool.and_eq_true, Bool.not_eq_true', Bool.not_eq_false', Bool.or_eq_false_iff, Bool.and_eq_false_iff, decide_eq_true_eq, decide_eq_false_iff_not, beq_iff_eq, bne_iff_ne, beq_eq_false_iff_ne, bne_eq_false_iff_eq, Bool.and_true, Bool.true_and, ne_eq] at hc1
   exfalso; omega
 · have hc1 := hc1r
   try simp only [Bool.or_eq_true, Bool.and_eq_true, Bool.not_eq_true', Bool.not_eq_false', Bool.or_eq_false_iff, Bool.and_eq_false_iff, decide_eq_true_eq, decide_eq_false_iff_not, beq_iff_eq, bne_iff_ne, beq_eq_false_iff_ne, bne_eq_false_iff_eq, Bool.and_true, Bool.true_and, ne_eq] at hc1
   refine wp_skip ?_
   refine hK2 _ _ ?_
   refine wp_seq_k (fun K4 hK4 => ?_)
   refine wp_region_lit ?_
   refine q0 hf hM [2] [{}, { sp := true, hint := some (uV (((bitN k) : Nat) : Int)) }, {}] (env' := [(2, eU (((bitN k) : Nat) : Int))]) (ob := [0 ≤ (k : Int), (uV (IntKind.u64.wrap (1 * 2 ^ (min (k : Int).toNat IntKind.u64.bits))) : Value) = (uV (((bitN k) : Nat) : Int) : Value)]) (Ac (by omega) (Ao (shl_bit hkk))) ?_
   clear hf; intro a hf
   refine wpList_nil ?_
   refine hK4 _ _ ?_
   refine wp_ret ?_
   refine qr (fn := Tryd.f82) hf hM [] (l := [uV (((bitN k) : Nat) : Int)]) (ob := []) An ?_
   show (uV (((bitN k) : Nat) : Int) : Value) = uV (((bitN k) : Nat) : Int) ∧ Keep Nn w w
   exact ⟨rfl, hk0⟩

set_option maxRecDepth 10000 in
set_option maxHeartbeats 1600000 in
theorem bit_no (k : Int) (w : World) (hn0 : (decide (0 ≤ k ∧ k ≤ 9)) = false) :
    Calls Tryd.prog 82 #[iV k] w (Ret fun v w' => v = .int .u64 0 ∧ Keep Nn w w') := by
 refine sxenter (n := 11) (args := [iV k]) Tryd.func82 rfl rfl rfl fun a hf => ?_
 replace hf : Fr 11 [(0, eI k)] a := hf
 have hM : MemOk [] w := MemOk.nil w
 have hk0 : Keep Nn w w := Keep.refl _ _
 have hkk : ¬ (0 ≤ k ∧ k ≤ 9) := of_decide_eq_false hn0
 refine wp_seq_k (fun K1 hK1 => ?_)
 refine wp_region_lit ?_
 refine q0 hf hM [0] [{}] (env' := [(0, eI k)]) (ob := []) An ?_
 clear hf; intro a hf
 refine wpList_nil ?_
 refine hK1 _ _ ?_
 refine wp_seq_k (fun K2 hK2 => ?_)
 refine wp_seq_k (fun K3 hK3 => ?_)
 refine wp_region_lit ?_
 refine q0 hf hM [8, 0] [{}, {}, {}, { g := .sym }, { g := .sym }, { hint := some (bV ((decide ((k : Int) < 0)) || (decide ((k : Int) ≥ 10)))) }] (env' := [(8, eB ((decide ((k : Int) < 0)) || (decide ((k : Int) ≥ 10)))), (0, eI k)]) (ob := [((decide ((k : Int) < 0)) = false → (decide ((k : Int) < 0)) = (decide ((k : Int) < 0))), ((decide ((k : Int) < 0)) = false → (decide ((k : Int) < 0)) = (decide ((k : Int) < 0))), (bif (decide ((k : Int) < 0)) then (bV true : Value) else bV (decide ((k : Int) ≥ 10))) = .bool ((decide ((k : Int) < 0)) || (decide ((k : Int) ≥ 10)))]) (Ac (fun hgd => rfl) (Ac (fun _ => rfl) (Ao (pick_or _ _)))) ?_
 clear hf; intro a hf
 refine wpList_nil ?_
 refine hK3 _ _ ?_
 refine qc hf (b := ((decide ((k : Int) < 0)) || (decide ((k : Int) ≥ 10)))) (fun hc1r => ?_) (fun hc1r => ?_)
 · have hc1 := hc1r
   try simp only [Bool.or_eq_true, Bool.and_eq_true, Bool.not_eq_true', Bool.not_eq_false', Bool.or_eq_false_iff, Bool.and_eq_false_iff, decide_eq_true_eq, decide_eq_false_iff_not, beq_iff_eq, bne_iff_ne, beq_eq_false_iff_ne, bne_eq_false_iff_eq, Bool.and_true, Bool.true_and, ne_eq] at hc1
   refine wp_seq_k (fun K4 hK4 => ?_)
   refine wp_region_lit ?_
   refine q0 hf hM [2] [{}] (env' := [(2, eU 0)]) (ob := []) An ?_
   clear hf; intro a hf
   refine wpList_nil ?_
   refine hK4 _ _ ?_
   refine wp_ret ?_
   refine qr (fn := Tryd.f82) hf hM [] (l := [uV 0]) (ob := []) An ?_
   show (uV 0 : Value) = .int .u64 0 ∧ Keep Nn w w
   exact ⟨rfl, hk0⟩
 · have hc1 := hc1r
   try simp only [Bool.or_eq_true, Bool.and_eq_true, Bool.not_eq_true', Bool.not_eq_false', Bool.or_eq_false_iff, Bool.and_eq_false_iff, decide_eq_true_eq, decide_eq_false_iff_not, beq_iff_eq, bne_iff_ne, beq_eq_false_iff_ne, bne_eq_false_iff_eq, Bool.and_true, Bool.true_and, ne_eq] at hc1
   exfalso; omega

set_option maxRecDepth 10000 in
set_option maxHeartbeats 1600000 in
theorem of1_ok (E : Nat → Addr) (av : Option Addr) (k : Int) (c : Nat) (w : World) (hn0 : (decide (0 ≤ k ∧ k ≤ 9)) = true) (hav : Arr w 1 av 1 c (flat fI ([k] : List Int))) (hG : Errs [0, 3, 4] w 185 E) :
    Calls Tryd.prog 53 #[.slice av 1 c] w (Ret fun v w' => v = .tuple #[uV (((bitN k) : Nat) : Int), .nilIface] ∧ Keep Nn w w') := by
 refine sxenter (n := 24) (args := [.slice av 1 c]) Tryd.func53 rfl rfl rfl fun a hf => ?_
 replace hf : Fr 24 [(0, eS av 1 c)] a := hf
 have hM : MemOk [] w := MemOk.nil w
 have hk0 : Keep Nn w w := Keep.refl _ _
 have hkk : 0 ≤ k ∧ k ≤ 9 := of_decide_eq_true hn0
 have hbp := bitN_pos k
 refine wp_seq_k (fun K1 hK1 => ?_)
 refine wp_region_lit ?_
 refine q0 hf hM [3, 2, 0] [{}, {}] (env' := [(3, .val (.nilIface)), (2, eU 0), (0, eS av 1 c)]) (ob := []) An ?_
 clear hf; intro a hf
 refine wpList_nil ?_
 refine hK1 _ _ ?_
 refine wp_seq_k (fun K2 hK2 => ?_)
 refine wp_region_lit ?_
 refine q0 hf hM [4, 3, 2, 0] [{}] (env' := [(4, eU 0), (3, .val (.nilIface)), (2, eU 0), (0, eS av 1 c)]) (ob := []) An ?_
 clear hf; intro a hf
 refine wpList_nil ?_
 refine hK2 _ _ ?_
 refine wp_seq_k (fun K3 hK3 => ?_)
 refine wp_seq_k (fun K4 hK4 => ?_)
 refine wp_region_lit ?_
 refine q0 hf hM [10, 9, 8, 4, 3, 2] [{}, {}, {}] (env' := [(10, eI 0), (9, eI 1), (8, eS av 1 c), (4, eU 0), (3, .val (.nilIface)), (2, eU 0)]) (ob := []) An ?_
 clear hf; intro a hf
 refine wpList_nil ?_
 refine hK4 _ _ ?_
 refine wp_block ?_
 refine wp_loop_rounds 2 ?_
 refine sxround (m := 1) fun L1 hL1 => ?_
 refine wp_seq_k (fun K5 hK5 => ?_)
 refine wp_region_lit ?_
 refine q0 hf hM [11, 10, 9, 8, 4, 3, 2] [{}] (env' := [(11, eB true), (10, eI 0), (9, eI 1), (8, eS av 1 c), (4, eU 0), (3, .val (.nilIface)), (2, eU 0)]) (ob := []) An ?_
 clear hf; intro a hf
 refine wpList_nil ?_
 refine hK5 _ _ ?_
 refine wp_seq_k (fun K6 hK6 => ?_)
 refine sxcond hf (b := true) (by kernel_rfl) (fun _ => ?_) (fun h => by cases h)
 refine wp_skip ?_
 refine hK6 _ _ ?_
 refine wp_seq_k (fun K7 hK7 => ?_)
 refine wp_block ?_
 refine wp_seq_k (fun K8 hK8 => ?_)
 refine wp_region_lit ?_
 refine q0 hf hM [6, 10, 9, 8, 4, 3, 2] [{ sp := true }, { os := [.ex (iV (([k] : List Int).getD (0 : Int).toNat 0))], hint := some (iV k) }, {}] (env' := [(6, eI k), (10, eI 0), (9, eI 1), (8, eS av 1 c), (4, eU 0), (3, .val (.nilIface)), (2, eU 0)]) (ob := [(0 : Int) ≤ 0 ∧ 0 < (1 : Int), (av : Option Addr).isSome = true, w.cell? ((sa av : Addr).add ((0 : Int).toNat * 1)) = some (iV (([k] : List Int).getD (0 : Int).toNat 0)), (iV (([k] : List Int).getD (0 : Int).toNat 0) : Value) = (iV k : Value)]) (Ac (by first | omega | (simp; done)) (Ac ((hav.keepNn hk0).some_ (by first | omega | (simp; done))) (Ac ((hav.keepNn hk0).get0 (fun _ => rfl) (by first | omega | (simp; done)) rfl) (Ao rfl)))) ?_
 clear hf; intro a hf
 refine wpList_nil ?_
 refine hK8 _ _ ?_
 refine wp_seq_k (fun K9 hK9 => ?_)
 refine wp_region_lit ?_
 refine q0 hf hM [14, 10, 9, 8, 4, 3, 2] [{}] (env' := [(14, eI k), (10, eI 0), (9, eI 1), (8, eS av 1 c), (4, eU 0), (3, .val (.nilIface)), (2, eU 0)]) (ob := []) An ?_
 clear hf; intro a hf
 refine sxcall hf rfl rfl rfl rfl (g := 82) (vs := [iV k]) (ob := []) (by as_aux_lemma => kernel_rfl) An enters82 (bit_ok k w hn0 ) ?_
 clear hf; rintro _ w1 a ⟨rfl, hk⟩ hf
 have hM := hM.keepNn hk
 have hk0 := hk0.trans hk.nn
 clear hk
 refine q0 hf hM [7, 10, 9, 8, 4, 3, 2] [{}] (env' := [(7, eU (((bitN k) : Nat) : Int)), (10, eI 0), (9, eI 1), (8, eS av 1 c), (4, eU 0), (3, .val (.nilIface)), (2, eU 0)]) (ob := []) An ?_
 clear hf; intro a hf
 refine wpList_nil ?_
 refine hK9 _ _ ?_
 refine wp_seq_k (fun K10 hK10 => ?_)
 refine wp_seq_k (fun K11 hK11 => ?_)
 refine wp_region_lit ?_
 refine q0 hf hM [17, 7, 10, 9, 8, 4, 3, 2] [{}, {}] (env' := [(17, eB (((((bitN k) : Nat) : Int) : Int) == 0)), (7, eU (((bitN k) : Nat) : Int)), (10, eI 0), (9, eI 1), (8, eS av 1 c), (4, eU 0), (3, .val (.nilIface)), (2, eU 0)]) (ob := []) An ?_
 clear hf; intro a hf
 refine wpList_nil ?_
 refine hK11 _ _ ?_
 refine qc hf (b := (((((bitN k) : Nat) : Int) : Int) == 0)) (fun hc2r => ?_) (fun hc2r => ?_)
 · have hc2 := (nE hc2r)
   exfalso; omega
 · have hc2 := (nF hc2r)
   refine wp_skip ?_
   refine hK10 _ _ ?_
   refine wp_region_lit ?_
   refine q0 hf hM [4, 10, 9, 8, 3, 2] [{}, {}, { hint := some (uV (((bitN k) : Nat) : Int)) }, {}] (env' := [(4, eU (((bitN k) : Nat) : Int)), (10, eI 0), (9, eI 1), (8, eS av 1 c), (3, .val (.nilIface)), (2, eU 0)]) (ob := [(uV (IntKind.u64.wrap ((BitVec.ofInt IntKind.u64.bits 0 ||| (BitVec.ofInt IntKind.u64.bits (((bitN k) : Nat) : Int)) : BitVec IntKind.u64.bits).toNat : Int)) : Value) = (uV (((bitN k) : Nat) : Int) : Value)]) (Ao (or_u64_0 (bitN_lt' hkk))) ?_
   clear hf; intro a hf
   refine wpList_nil ?_
   refine hK7 _ _ ?_
   refine wp_region_lit ?_
   refine q0 hf hM [10, 4, 9, 8, 3, 2] [{}, {}] (env' := [(10, eI 1), (4, eU (((bitN k) : Nat) : Int)), (9, eI 1), (8, eS av 1 c), (3, .val (.nilIface)), (2, eU 0)]) (ob := []) An ?_
   clear hf; intro a hf
   refine wpList_nil ?_
   refine hL1 _ _ ?_
   refine sxround (m := 0) fun L2 hL2 => ?_
   refine wp_seq_k (fun K12 hK12 => ?_)
   refine wp_region_lit ?_
   refine q0 hf hM [11, 10, 4, 9, 8, 3, 2] [{}] (env' := [(11, eB false), (10, eI 1), (4, eU (((bitN k) : Nat) : Int)), (9, eI 1), (8, eS av 1 c), (3, .val (.nilIface)), (2, eU 0)]) (ob := []) An ?_
   clear hf; intro a hf
   refine wpList_nil ?_
   refine hK12 _ _ ?_
   refine wp_seq_k (fun K13 hK13 => ?_)
   refine sxcond hf (b := false) (by kernel_rfl) (fun h => by cases h) (fun _ => ?_)
   refine wp_exit ?_
   refine hK3 _ _ ?_
   refine wp_seq_k (fun K14 hK14 => ?_)
   refine wp_region_lit ?_
   refine q0 hf hM [3, 2] [{}, {}, {}] (env' := [(3, .val (.nilIface)), (2, eU (((bitN k) : Nat) : Int))]) (ob := []) An ?_
   clear hf; intro a hf
   refine wpList_nil ?_
   refine hK14 _ _ ?_
   refine wp_ret ?_
   refine qr (fn := Tryd.f53) hf hM [] (l := [uV (((bitN k) : Nat) : Int), .nilIface]) (ob := []) An ?_
   show (.tuple #[uV (((bitN k) : Nat) : Int), .nilIface] : Value) = .tuple #[uV (((bitN k) : Nat) : Int), .nilIface] ∧ Keep Nn w w1
   exact ⟨rfl, hk0⟩

set_option maxRecDepth 10000 in
set_option maxHeartbeats 1600000 in
theorem of1_no (E : Nat → Addr) (av : Option Addr) (k : Int) (c : Nat) (w : World) (hn0 : (decide (0 ≤ k ∧ k ≤ 9)) = false) (hav : Arr w 1 av 1 c (flat fI ([k] : List Int))) (hG : Errs [0, 3, 4] w 185 E) :
    Calls Tryd.prog 53 #[.slice av 1 c] w (Ret fun v w' => v = .tuple #[uV 0, .iface 185 (.pointer (some (E 4)))] ∧ Keep Nn w w') := by
 refine sxenter (n := 24) (args := [.slice av 1 c]) Tryd.func53 rfl rfl rfl fun a hf => ?_
 replace hf : Fr 24 [(0, eS av 1 c)] a := hf
 have hM : MemOk [] w := MemOk.nil w
 have hk0 : Keep Nn w w := Keep.refl _ _
 refine wp_seq_k (fun K1 hK1 => ?_)
 refine wp_region_lit ?_
 refine q0 hf hM [3, 2, 0] [{}, {}] (env' := [(3, .val (.nilIface)), (2, eU 0), (0, eS av 1 c)]) (ob := []) An ?_
 clear hf; intro a hf
 refine wpList_nil ?_
 refine hK1 _ _ ?_
 refine wp_seq_k (fun K2 hK2 => ?_)
 refine wp_region_lit ?_
 refine q0 hf hM [4, 3, 2, 0] [{}] (env' := [(4, eU 0), (3, .val (.nilIface)), (2, eU 0), (0, eS av 1 c)]) (ob := []) An ?_
 clear hf; intro a hf
 refine wpList_nil ?_
 refine hK2 _ _ ?_
 refine wp_seq_k (fun K3 hK3 => ?_)
 refine wp_seq_k (fun K4 hK4 => ?_)
 refine wp_region_lit ?_
 refine q0 hf hM [10, 9, 8, 4, 3, 2] [{}, {}, {}] (env' := [(10, eI 0), (9, eI 1), (8, eS av 1 c), (4, eU 0), (3, .val (.nilIface)), (2, eU 0)]) (ob := []) An ?_
 clear hf; intro a hf
 refine wpList_nil ?_
 refine hK4 _ _ ?_
 refine wp_block ?_
 refine wp_loop_rounds 2 ?_
 refine sxround (m := 1) fun L1 hL1 => ?_
 refine wp_seq_k (fun K5 hK5 => ?_)
 refine wp_region_lit ?_
 refine q0 hf hM [11, 10, 9, 8, 4, 3, 2] [{}] (env' := [(11, eB true), (10, eI 0), (9, eI 1), (8, eS av 1 c), (4, eU 0), (3, .val (.nilIface)), (2, eU 0)]) (ob := []) An ?_
 clear hf; intro a hf
 refine wpList_nil ?_
 refine hK5 _ _ ?_
 refine wp_seq_k (fun K6 hK6 => ?_)
 refine sxcond hf (b := true) (by kernel_rfl) (fun _ => ?_) (fun h => by cases h)
 refine wp_skip ?_
 refine hK6 _ _ ?_
 refine wp_seq_k (fun K7 hK7 => ?_)
 refine wp_block ?_
 refine wp_seq_k (fun K8 hK8 => ?_)
 refine wp_region_lit ?_
 refine q0 hf hM [6, 10, 9, 8, 4, 3, 2] [{ sp := true }, { os := [.ex (iV (([k] : List Int).getD (0 : Int).toNat 0))], hint := some (iV k) }, {}] (env' := [(6, eI k), (10, eI 0), (9, eI 1), (8, eS av 1 c), (4, eU 0), (3, .val (.nilIface)), (2, eU 0)]) (ob := [(0 : Int) ≤ 0 ∧ 0 < (1 : Int), (av : Option Addr).isSome = true, w.cell? ((sa av : Addr).add ((0 : Int).toNat * 1)) = some (iV (([k] : List Int).getD (0 : Int).toNat 0)), (iV (([k] : List Int).getD (0 : Int).toNat 0) : Value) = (iV k : Value)]) (Ac (by first | omega | (simp; done)) (Ac ((hav.keepNn hk0).some_ (by first | omega | (simp; done))) (Ac ((hav.keepNn hk0).get0 (fun _ => rfl) (by first | omega | (simp; done)) rfl) (Ao rfl)))) ?_
 clear hf; intro a hf
 refine wpList_nil ?_
 refine hK8 _ _ ?_
 refine wp_seq_k (fun K9 hK9 => ?_)
 refine wp_region_lit ?_
 refine q0 hf hM [14, 10, 9, 8, 4, 3, 2] [{}] (env' := [(14, eI k), (10, eI 0), (9, eI 1), (8, eS av 1 c), (4, eU 0), (3, .val (.nilIface)), (2, eU 0)]) (ob := []) An ?_
 clear hf; intro a hf
 refine sxcall hf rfl rfl rfl rfl (g := 82) (vs := [iV k]) (ob := []) (by as_aux_lemma => kernel_rfl) An enters82 (bit_no k w hn0 ) ?_
 clear hf; rintro _ w1 a ⟨rfl, hk⟩ hf
 have hM := hM.keepNn hk
 have hk0 := hk0.trans hk.nn
 clear hk
 refine q0 hf hM [7, 10, 9, 8, 4, 3, 2] [{}] (env' := [(7, eU 0), (10, eI 0), (9, eI 1), (8, eS av 1 c), (4, eU 0), (3, .val (.nilIface)), (2, eU 0)]) (ob := []) An ?_
 clear hf; intro a hf
 refine wpList_nil ?_
 refine hK9 _ _ ?_
 refine wp_seq_k (fun K10 hK10 => ?_)
 refine wp_seq_k (fun K11 hK11 => ?_)
 refine wp_region_lit ?_
 refine q0 hf hM [17, 7, 10, 9, 8, 4, 3, 2] [{}, {}] (env' := [(17, eB true), (7, eU 0), (10, eI 0), (9, eI 1), (8, eS av 1 c), (4, eU 0), (3, .val (.nilIface)), (2, eU 0)]) (ob := []) An ?_
 clear hf; intro a hf
 refine wpList_nil ?_
 refine hK11 _ _ ?_
 refine sxcond hf (b := true) (by kernel_rfl) (fun _ => ?_) (fun h => by cases h)
 refine wp_seq_k (fun K12 hK12 => ?_)
 replace hM := hM.drew; replace hk0 := hk0.drew
 obtain ⟨C1, hC1d⟩ : ∃ C : World → Prop, C = fun w' => MemOk [] w' ∧ Keep Nn w w' ∧ True := ⟨_, rfl⟩
 have hC1i : ∀ w', (MemOk [] w' ∧ Keep Nn w w' ∧ True) → C1 w' := fun w' h => by rw [hC1d]; exact h
 have hC1e : ∀ w', C1 w' → (MemOk [] w' ∧ Keep Nn w w' ∧ True) := fun w' h => by rw [hC1d] at h; exact h
 refine sxdraw (C := C1) (.leaf [(0, true), (1, true), (2, true)]) (by kernel_rfl) (by kernel_rfl) (by as_aux_lemma => kernel_rfl) rfl (by as_aux_lemma => kernel_rfl) (by kernel_rfl) (hC1i _ ⟨hM.sub (.slnil), hk0, trivial⟩) ?_
 refine sxleaf ?_
 have hC := (hC1i _ ⟨hM.sub (.slnil), hk0, trivial⟩)
 refine qd hf hC (fun w' h => (hC1e w' h).1) [3, 2] [{ os := [.ex (.iface 185 (.pointer (some (E 4))))] }, {}, {}] (env' := [(3, .val (.iface 185 (.pointer (some (E 4))))), (2, eU 0)]) (ob := [(∀ w', C1 w' → w'.cell? ⟨4, 0, none⟩ = some (.iface 185 (.pointer (some (E 4)))))]) (Ao (fun w' hc => by obtain ⟨hM, hk0, hO⟩ := hC1e w' hc; exact (hk0.cell (hG.cell 4 (by decide)) (fun h => h)))) ?_
 clear hf; intro a hf
 clear hC
 show K12 _ _
 refine hK12 _ _ ?_
 refine wp_ret ?_
 refine qr (fn := Tryd.f53) hf hM [] (l := [uV 0, .iface 185 (.pointer (some (E 4)))]) (ob := []) An ?_
 show (.tuple #[uV 0, .iface 185 (.pointer (some (E 4)))] : Value) = .tuple #[uV 0, .iface 185 (.pointer (some (E 4)))] ∧ Keep Nn w w1.drew
 exact ⟨rfl, hk0⟩

set_option maxRecDepth 10000 in
set_option maxHeartbeats 1600000 in
theorem mwith1 (na nb : Nat) (w : World) (ha : na < 2 ^ 64) (hb : nb < 2 ^ 64) :
    Calls Tryd.prog 80 #[uV ((na : Nat) : Int), uV ((nb : Nat) : Int)] w (Ret fun v w' => v = uV (((na ||| nb) : Nat) : Int) ∧ Keep Nn w w') := by
 refine sxenter (n := 8) (args := [uV ((na : Nat) : Int), uV ((nb : Nat) : Int)]) Tryd.func80 rfl rfl rfl fun a hf => ?_
 replace hf : Fr 8 [(0, eU ((na : Nat) : Int)), (1, eU ((nb : Nat) : Int))] a := hf
 have hM : MemOk [] w := MemOk.nil w
 have hk0 : Keep Nn w w := Keep.refl _ _
 refine wp_seq_k (fun K1 hK1 => ?_)
 refine wp_region_lit ?_
 refine q0 hf hM [0, 1] [{}] (env' := [(0, eU ((na : Nat) : Int)), (1, eU ((nb : Nat) : Int))]) (ob := []) An ?_
 clear hf; intro a hf
 refine wpList_nil ?_
 refine hK1 _ _ ?_
 refine wp_seq_k (fun K2 hK2 => ?_)
 refine wp_region_lit ?_
 refine q0 hf hM [4] [{}, {}, { hint := some (uV (((na ||| nb) : Nat) : Int)) }, {}] (env' := [(4, eU (((na ||| nb) : Nat) : Int))]) (ob := [(uV (IntKind.u64.wrap ((BitVec.ofInt IntKind.u64.bits ((na : Nat) : Int) ||| (BitVec.ofInt IntKind.u64.bits ((nb : Nat) : Int)) : BitVec IntKind.u64.bits).toNat : Int)) : Value) = (uV (((na ||| nb) : Nat) : Int) : Value)]) (Ao (or_u64 ha hb)) ?_
 clear hf; intro a hf
 refine wpList_nil ?_
 refine hK2 _ _ ?_
 refine wp_ret ?_
 refine qr (fn := Tryd.f80) hf hM [] (l := [uV (((na ||| nb) : Nat) : Int)]) (ob := []) An ?_
 show (uV (((na ||| nb) : Nat) : Int) : Value) = uV (((na ||| nb) : Nat) : Int) ∧ Keep Nn w w
 exact ⟨rfl, hk0⟩

set_option maxRecDepth 10000 in
set_option maxHeartbeats 1600000 in
theorem mwith_ch_ok (E : Nat → Addr) (mm : Nat) (av : Option Addr) (k : Int) (c : Nat) (w : World) (hn0 : (decide (0 ≤ k ∧ k ≤ 9)) = true) (hmm : mm < 2 ^ 64) (hav : Arr w 1 av 1 c (flat fI ([k] : List Int))) (hG : Errs [0, 3, 4] w 185 E) :
    Calls Tryd.prog 79 #[uV ((mm : Nat) : Int), .func (.func 80) #[] #[], .slice av 1 c] w (Ret fun v w' => v = .tuple #[uV (((mm ||| bitN k) : Nat) : Int), .nilIface] ∧ Keep Nn w w') := by
 refine sxenter (n := 22) (args := [uV ((mm : Nat) : Int), .func (.func 80) #[] #[], .slice av 1 c]) Tryd.func79 rfl rfl rfl fun a hf => ?_
 replace hf : Fr 22 [(0, eU ((mm : Nat) : Int)), (1, .val (.func (.func 80) #[] #[])), (2, eS av 1 c)] a := hf
 have hM : MemOk [] w := MemOk.nil w
 have hk0 : Keep Nn w w := Keep.refl _ _
 have hkk : 0 ≤ k ∧ k ≤ 9 := of_decide_eq_true hn0
 have hb64 := bitN_lt' hkk
 refine wp_seq_k (fun K1 hK1 => ?_)
 refine wp_region_lit ?_
 refine q0 hf hM [0, 1, 2] [{}, {}] (env' := [(0, eU ((mm : Nat) : Int)), (1, .val (.func (.func 80) #[] #[])), (2, eS av 1 c)]) (ob := []) An ?_
 clear hf; intro a hf
 refine wpList_nil ?_
 refine hK1 _ _ ?_
 refine wp_seq_k (fun K2 hK2 => ?_)
 refine wp_region_lit ?_
 refine q0 hf hM [11, 0, 1] [{}] (env' := [(11, eS av 1 c), (0, eU ((mm : Nat) : Int)), (1, .val (.func (.func 80) #[] #[]))]) (ob := []) An ?_
 clear hf; intro a hf
 refine sxcall hf rfl rfl rfl rfl (g := 53) (vs := [.slice av 1 c]) (ob := []) (by as_aux_lemma => kernel_rfl) An enters53 (of1_ok E av k c w hn0 (hav.keepNn hk0) (hG.keep hk0 (fun _ h => h))) ?_
 clear hf; rintro _ w1 a ⟨rfl, hk⟩ hf
 have hM := hM.keepNn hk
 have hk0 := hk0.trans hk.nn
 clear hk
 refine q0 hf hM [9, 8, 0, 1] [{}, {}, {}, {}, {}] (env' := [(9, .val (.nilIface)), (8, eU (((bitN k) : Nat) : Int)), (0, eU ((mm : Nat) : Int)), (1, .val (.func (.func 80) #[] #[]))]) (ob := []) An ?_
 clear hf; intro a hf
 refine wpList_nil ?_
 refine hK2 _ _ ?_
 refine wp_seq_k (fun K3 hK3 => ?_)
 refine wp_seq_k (fun K4 hK4 => ?_)
 refine wp_region_lit ?_
 refine q0 hf hM [16, 9, 8, 0, 1] [{}, {}] (env' := [(16, eB false), (9, .val (.nilIface)), (8, eU (((bitN k) : Nat) : Int)), (0, eU ((mm : Nat) : Int)), (1, .val (.func (.func 80) #[] #[]))]) (ob := []) An ?_
 clear hf; intro a hf
 refine wpList_nil ?_
 refine hK4 _ _ ?_
 refine sxcond hf (b := false) (by kernel_rfl) (fun h => by cases h) (fun _ => ?_)
 refine wp_skip ?_
 refine hK3 _ _ ?_
 refine wp_seq_k (fun K5 hK5 => ?_)
 refine wp_region_lit ?_
 refine q0 hf hM [20, 19, 18] [{}, {}, {}] (env' := [(20, eU (((bitN k) : Nat) : Int)), (19, eU ((mm : Nat) : Int)), (18, .val (.func (.func 80) #[] #[]))]) (ob := []) An ?_
 clear hf; intro a hf
 refine sxcall hf rfl rfl rfl rfl (g := 80) (vs := [uV ((mm : Nat) : Int), uV (((bitN k) : Nat) : Int)]) (ob := []) (by as_aux_lemma => kernel_rfl) An enters80 (mwith1 mm (bitN k) w1  (by first | assumption | exact bitN_lt' (by assumption) | omega) (by first | assumption | exact bitN_lt' (by assumption) | omega)) ?_
 clear hf; rintro _ w2 a ⟨rfl, hk⟩ hf
 have hM := hM.keepNn hk
 have hk0 := hk0.trans hk.nn
 clear hk
 refine q0 hf hM [7, 6] [{}, {}] (env' := [(7, .val (.nilIface)), (6, eU (((mm ||| (bitN k)) : Nat) : Int))]) (ob := []) An ?_
 clear hf; intro a hf
 refine wpList_nil ?_
 refine hK5 _ _ ?_
 refine wp_ret ?_
 refine qr (fn := Tryd.f79) hf hM [] (l := [uV (((mm ||| (bitN k)) : Nat) : Int), .nilIface]) (ob := []) An ?_
 show (.tuple #[uV (((mm ||| (bitN k)) : Nat) : Int), .nilIface] : Value) = .tuple #[uV (((mm ||| bitN k) : Nat) : Int), .nilIface] ∧ Keep Nn w w2
 exact ⟨rfl, hk0⟩

set_option maxRecDepth 10000 in
set_option maxHeartbeats 1600000 in
theorem mwith_ok (E : Nat → Addr) (mm : Nat) (av : Option Addr) (k : Int) (c : Nat) (w : World) (hn0 : (decide (0 ≤ k ∧ k ≤ 9)) = true) (hmm : mm < 2 ^ 64) (hav : Arr w 1 av 1 c (flat fI ([k] : List Int))) (hG : Errs [0, 3, 4] w 185 E) :
    Calls Tryd.prog 50 #[uV ((mm : Nat) : Int), .slice av 1 c] w (Ret fun v w' => v = .tuple #[uV (((mm ||| bitN k) : Nat) : Int), .nilIface] ∧ Keep Nn w w') := by
 refine sxenter (n := 11) (args := [uV ((mm : Nat) : Int), .slice av 1 c]) Tryd.func50 rfl rfl rfl fun a hf => ?_
 replace hf : Fr 11 [(0, eU ((mm : Nat) : Int)), (1, eS av 1 c)] a := hf
 have hM : MemOk [] w := MemOk.nil w
 have hk0 : Keep Nn w w := Keep.refl _ _
 have hkk : 0 ≤ k ∧ k ≤ 9 := of_decide_eq_true hn0
 have hb64 := bitN_lt' hkk
 refine wp_seq_k (fun K1 hK1 => ?_)
 refine wp_region_lit ?_
 refine q0 hf hM [0, 1] [{}, {}] (env' := [(0, eU ((mm : Nat) : Int)), (1, eS av 1 c)]) (ob := []) An ?_
 clear hf; intro a hf
 refine wpList_nil ?_
 refine hK1 _ _ ?_
 refine wp_seq_k (fun K2 hK2 => ?_)
 refine wp_region_lit ?_
 refine q0 hf hM [7, 6] [{}, {}] (env' := [(7, eS av 1 c), (6, eU ((mm : Nat) : Int))]) (ob := []) An ?_
 clear hf; intro a hf
 refine sxcall hf rfl rfl rfl rfl (g := 79) (vs := [uV ((mm : Nat) : Int), .func (.func 80) #[] #[], .slice av 1 c]) (ob := []) (by as_aux_lemma => kernel_rfl) An enters79 (mwith_ch_ok E mm av k c w hn0 (by first | assumption | exact bitN_lt' (by assumption) | omega) (hav.keepNn hk0) (hG.keep hk0 (fun _ h => h))) ?_
 clear hf; rintro _ w1 a ⟨rfl, hk⟩ hf
 have hM := hM.keepNn hk
 have hk0 := hk0.trans hk.nn
 clear hk
 refine q0 hf hM [5, 4] [{}, {}, {}, {}] (env' := [(5, .val (.nilIface)), (4, eU (((mm ||| bitN k) : Nat) : Int))]) (ob := []) An ?_
 clear hf; intro a hf
 refine wpList_nil ?_
 refine hK2 _ _ ?_
 refine wp_ret ?_
 refine qr (fn := Tryd.f50) hf hM [] (l := [uV (((mm ||| bitN k) : Nat) : Int), .nilIface]) (ob := []) An ?_
 show (.tuple #[uV (((mm ||| bitN k) : Nat) : Int), .nilIface] : Value) = .tuple #[uV (((mm ||| bitN k) : Nat) : Int), .nilIface] ∧ Keep Nn w w1
 exact ⟨rfl, hk0⟩

set_option maxRecDepth 10000 in
set_option maxHeartbeats 1600000 in
theorem mwith_ch_no (E : Nat → Addr) (mm : Nat) (av : Option Addr) (k : Int) (c : Nat) (w : World) (hn0 : (decide (0 ≤ k ∧ k ≤ 9)) = false) (hmm : mm < 2 ^ 64) (hav : Arr w 1 av 1 c (flat fI ([k] : List Int))) (hG : Errs [0, 3, 4] w 185 E) :
    Calls Tryd.prog 79 #[uV ((mm : Nat) : Int), .func (.func 80) #[] #[], .slice av 1 c] w (Ret fun v w' => v = .tuple #[uV 0, .iface 185 (.pointer (some (E 4)))] ∧ Keep Nn w w') := by
 refine sxenter (n := 22) (args := [uV ((mm : Nat) : Int), .func (.func 80) #[] #[], .slice av 1 c]) Tryd.func79 rfl rfl rfl fun a hf => ?_
 replace hf : Fr 22 [(0, eU ((mm : Nat) : Int)), (1, .val (.func (.func 80) #[] #[])), (2, eS av 1 c)] a := hf
 have hM : MemOk [] w := MemOk.nil w
 have hk0 : Keep Nn w w := Keep.refl _ _
 refine wp_seq_k (fun K1 hK1 => ?_)
 refine wp_region_lit ?_
 refine q0 hf hM [0, 1, 2] [{}, {}] (env' := [(0, eU ((mm : Nat) : Int)), (1, .val (.func (.func 80) #[] #[])), (2, eS av 1 c)]) (ob := []) An ?_
 clear hf; intro a hf
 refine wpList_nil ?_
 refine hK1 _ _ ?_
 refine wp_seq_k (fun K2 hK2 => ?_)
 refine wp_region_lit ?_
 refine q0 hf hM [11, 0, 1] [{}] (env' := [(11, eS av 1 c), (0, eU ((mm : Nat) : Int)), (1, .val (.func (.func 80) #[] #[]))]) (ob := []) An ?_
 clear hf; intro a hf
 refine sxcall hf rfl rfl rfl rfl (g := 53) (vs := [.slice av 1 c]) (ob := []) (by as_aux_lemma => kernel_rfl) An enters53 (of1_no E av k c w hn0 (hav.keepNn hk0) (hG.keep hk0 (fun _ h => h))) ?_
 clear hf; rintro _ w1 a ⟨rfl, hk⟩ hf
 have hM := hM.keepNn hk
 have hk0 := hk0.trans hk.nn
 clear hk
 refine q0 hf hM [9, 8, 0, 1] [{}, {}, {}, {}, {}] (env' := [(9, .val (.iface 185 (.pointer (some (E 4))))), (8, eU 0), (0, eU ((mm : Nat) : Int)), (1, .val (.func (.func 80) #[] #[]))]) (ob := []) An ?_
 clear hf; intro a hf
 refine wpList_nil ?_
 refine hK2 _ _ ?_
 refine wp_seq_k (fun K3 hK3 => ?_)
 refine wp_seq_k (fun K4 hK4 => ?_)
 refine wp_region_lit ?_
 refine q0 hf hM [16, 9, 8, 0, 1] [{}, {}] (env' := [(16, eB true), (9, .val (.iface 185 (.pointer (some (E 4))))), (8, eU 0), (0, eU ((mm : Nat) : Int)), (1, .val (.func (.func 80) #[] #[]))]) (ob := []) An ?_
 clear hf; intro a hf
 refine wpList_nil ?_
 refine hK4 _ _ ?_
 refine sxcond hf (b := true) (by kernel_rfl) (fun _ => ?_) (fun h => by cases h)
 refine wp_seq_k (fun K5 hK5 => ?_)
 refine wp_region_lit ?_
 refine q0 hf hM [7, 6] [{}, {}, {}] (env' := [(7, .val (.iface 185 (.pointer (some (E 4))))), (6, eU 0)]) (ob := []) An ?_
 clear hf; intro a hf
 refine wpList_nil ?_
 refine hK5 _ _ ?_
 refine wp_ret ?_
 refine qr (fn := Tryd.f79) hf hM [] (l := [uV 0, .iface 185 (.pointer (some (E 4)))]) (ob := []) An ?_
 show (.tuple #[uV 0, .iface 185 (.pointer (some (E 4)))] : Value) = .tuple #[uV 0, .iface 185 (.pointer (some (E 4)))] ∧ Keep Nn w w1
 exact ⟨rfl, hk0⟩

set_option maxRecDepth 10000 in
set_option maxHeartbeats 1600000 in
theorem mwith_no (E : Nat → Addr) (mm : Nat) (av : Option Addr) (k : Int) (c : Nat) (w : World) (hn0 : (decide (0 ≤ k ∧ k ≤ 9)) = false) (hmm : mm < 2 ^ 64) (hav : Arr w 1 av 1 c (flat fI ([k] : List Int))) (hG : Errs [0, 3, 4] w 185 E) :
    Calls Tryd.prog 50 #[uV ((mm : Nat) : Int), .slice av 1 c] w (Ret fun v w' => v = .tuple #[uV 0, .iface 185 (.pointer (some (E 4)))] ∧ Keep Nn w w') := by
 refine sxenter (n := 11) (args := [uV ((mm : Nat) : Int), .slice av 1 c]) Tryd.func50 rfl rfl rfl fun a hf => ?_
 replace hf : Fr 11 [(0, eU ((mm : Nat) : Int)), (1, eS av 1 c)] a := hf
 have hM : MemOk [] w := MemOk.nil w
 have hk0 : Keep Nn w w := Keep.refl _ _
 refine wp_seq_k (fun K1 hK1 => ?_)
 refine wp_region_lit ?_
 refine q0 hf hM [0, 1] [{}, {}] (env' := [(0, eU ((mm : Nat) : Int)), (1, eS av 1 c)]) (ob := []) An ?_
 clear hf; intro a hf
 refine wpList_nil ?_
 refine hK1 _ _ ?_
 refine wp_seq_k (fun K2 hK2 => ?_)
 refine wp_region_lit ?_
 refine q0 hf hM [7, 6] [{}, {}] (env' := [(7, eS av 1 c), (6, eU ((mm : Nat) : Int))]) (ob := []) An ?_
 clear hf; intro a hf
 refine sxcall hf rfl rfl rfl rfl (g := 79) (vs := [uV ((mm : Nat) : Int), .func (.func 80) #[] #[], .slice av 1 c]) (ob := []) (by as_aux_lemma => kernel_rfl) An enters79 (mwith_ch_no E mm av k c w hn0 (by first | assumption | exact bitN_lt' (by assumption) | omega) (hav.keepNn hk0) (hG.keep hk0 (fun _ h => h))) ?_
 clear hf; rintro _ w1 a ⟨rfl, hk⟩ hf
 have hM := hM.keepNn hk
 have hk0 := hk0.trans hk.nn
 clear hk
 refine q0 hf hM [5, 4] [{}, {}, {}, {}] (env' := [(5, .val (.iface 185 (.pointer (some (E 4))))), (4, eU 0)]) (ob := []) An ?_
 clear hf; intro a hf
 refine wpList_nil ?_
 refine hK2 _ _ ?_
 refine wp_ret ?_
 refine qr (fn := Tryd.f50) hf hM [] (l := [uV 0, .iface 185 (.pointer (some (E 4)))]) (ob := []) An ?_
 show (.tuple #[uV 0, .iface 185 (.pointer (some (E 4)))] : Value) = .tuple #[uV 0, .iface 185 (.pointer (some (E 4)))] ∧ Keep Nn w w1
 exact ⟨rfl, hk0⟩

set_option maxRecDepth 10000 in
set_option maxHeartbeats 1600000 in
theorem mless1 (na nb : Nat) (w : World) (ha : na < 2 ^ 64) (hb : nb < 2 ^ 64) :
    Calls Tryd.prog 81 #[uV ((na : Nat) : Int), uV ((nb : Nat) : Int)] w (Ret fun v w' => v = uV (((lessN na nb) : Nat) : Int) ∧ Keep Nn w w') := by
 refine sxenter (n := 8) (args := [uV ((na : Nat) : Int), uV ((nb : Nat) : Int)]) Tryd.func81 rfl rfl rfl fun a hf => ?_
 replace hf : Fr 8 [(0, eU ((na : Nat) : Int)), (1, eU ((nb : Nat) : Int))] a := hf
 have hM : MemOk [] w := MemOk.nil w
 have hk0 : Keep Nn w w := Keep.refl _ _
 refine wp_seq_k (fun K1 hK1 => ?_)
 refine wp_region_lit ?_
 refine q0 hf hM [0, 1] [{}] (env' := [(0, eU ((na : Nat) : Int)), (1, eU ((nb : Nat) : Int))]) (ob := []) An ?_
 clear hf; intro a hf
 refine wpList_nil ?_
 refine hK1 _ _ ?_
 refine wp_seq_k (fun K2 hK2 => ?_)
 refine wp_region_lit ?_
 refine q0 hf hM [4] [{}, {}, { hint := some (uV (((lessN na nb) : Nat) : Int)) }, {}] (env' := [(4, eU (((lessN na nb) : Nat) : Int))]) (ob := [(uV (IntKind.u64.wrap ((BitVec.ofInt IntKind.u64.bits ((na : Nat) : Int) &&& ~~~(BitVec.ofInt IntKind.u64.bits ((nb : Nat) : Int)) : BitVec IntKind.u64.bits).toNat : Int)) : Value) = (uV (((lessN na nb) : Nat) : Int) : Value)]) (Ao (andNot_u64 ha hb)) ?_
 clear hf; intro a hf
 refine wpList_nil ?_
 refine hK2 _ _ ?_
 refine wp_ret ?_
 refine qr (fn := Tryd.f81) hf hM [] (l := [uV (((lessN na nb) : Nat) : Int)]) (ob := []) An ?_
 show (uV (((lessN na nb) : Nat) : Int) : Value) = uV (((lessN na nb) : Nat) : Int) ∧ Keep Nn w w
 exact ⟨rfl, hk0⟩

set_option maxRecDepth 10000 in
set_option maxHeartbeats 1600000 in
theorem mless_ch_ok (E : Nat → Addr) (mm : Nat) (av : Option Addr) (k : Int) (c : Nat) (w : World) (hn0 : (decide (0 ≤ k ∧ k ≤ 9)) = true) (hmm : mm < 2 ^ 64) (hav : Arr w 1 av 1 c (flat fI ([k] : List Int))) (hG : Errs [0, 3, 4] w 185 E) :
    Calls Tryd.prog 79 #[uV ((mm : Nat) : Int), .func (.func 81) #[] #[], .slice av 1 c] w (Ret fun v w' => v = .tuple #[uV (((lessN mm (bitN k)) : Nat) : Int), .nilIface] ∧ Keep Nn w w') := by
 refine sxenter (n := 22) (args := [uV ((mm : Nat) : Int), .func (.func 81) #[] #[], .slice av 1 c]) Tryd.func79 rfl rfl rfl fun a hf => ?_
 replace hf : Fr 22 [(0, eU ((mm : Nat) : Int)), (1, .val (.func (.func 81) #[] #[])), (2, eS av 1 c)] a := hf
 have hM : MemOk [] w := MemOk.nil w
 have hk0 : Keep Nn w w := Keep.refl _ _
 have hkk : 0 ≤ k ∧ k ≤ 9 := of_decide_eq_true hn0
 have hb64 := bitN_lt' hkk
 refine wp_seq_k (fun K1 hK1 => ?_)
 refine wp_region_lit ?_
 refine q0 hf hM [0, 1, 2] [{}, {}] (env' := [(0, eU ((mm : Nat) : Int)), (1, .val (.func (.func 81) #[] #[])), (2, eS av 1 c)]) (ob := []) An ?_
 clear hf; intro a hf
 refine wpList_nil ?_
 refine hK1 _ _ ?_
 refine wp_seq_k (fun K2 hK2 => ?_)
 refine wp_region_lit ?_
 refine q0 hf hM [11, 0, 1] [{}] (env' := [(11, eS av 1 c), (0, eU ((mm : Nat) : Int)), (1, .val (.func (.func 81) #[] #[]))]) (ob := []) An ?_
 clear hf; intro a hf
 refine sxcall hf rfl rfl rfl rfl (g := 53) (vs := [.slice av 1 c]) (ob := []) (by as_aux_lemma => kernel_rfl) An enters53 (of1_ok E av k c w hn0 (hav.keepNn hk0) (hG.keep hk0 (fun _ h => h))) ?_
 clear hf; rintro _ w1 a ⟨rfl, hk⟩ hf
 have hM := hM.keepNn hk
 have hk0 := hk0.trans hk.nn
 clear hk
 refine q0 hf hM [9, 8, 0, 1] [{}, {}, {}, {}, {}] (env' := [(9, .val (.nilIface)), (8, eU (((bitN k) : Nat) : Int)), (0, eU ((mm : Nat) : Int)), (1, .val (.func (.func 81) #[] #[]))]) (ob := []) An ?_
 clear hf; intro a hf
 refine wpList_nil ?_
 refine hK2 _ _ ?_
 refine wp_seq_k (fun K3 hK3 => ?_)
 refine wp_seq_k (fun K4 hK4 => ?_)
 refine wp_region_lit ?_
 refine q0 hf hM [16, 9, 8, 0, 1] [{}, {}] (env' := [(16, eB false), (9, .val (.nilIface)), (8, eU (((bitN k) : Nat) : Int)), (0, eU ((mm : Nat) : Int)), (1, .val (.func (.func 81) #[] #[]))]) (ob := []) An ?_
 clear hf; intro a hf
 refine wpList_nil ?_
 refine hK4 _ _ ?_
 refine sxcond hf (b := false) (by kernel_rfl) (fun h => by cases h) (fun _ => ?_)
 refine wp_skip ?_
 refine hK3 _ _ ?_
 refine wp_seq_k (fun K5 hK5 => ?_)
 refine wp_region_lit ?_
 refine q0 hf hM [20, 19, 18] [{}, {}, {}] (env' := [(20, eU (((bitN k) : Nat) : Int)), (19, eU ((mm : Nat) : Int)), (18, .val (.func (.func 81) #[] #[]))]) (ob := []) An ?_
 clear hf; intro a hf
 refine sxcall hf rfl rfl rfl rfl (g := 81) (vs := [uV ((mm : Nat) : Int), uV (((bitN k) : Nat) : Int)]) (ob := []) (by as_aux_lemma => kernel_rfl) An enters81 (mless1 mm (bitN k) w1  (by first | assumption | exact bitN_lt' (by assumption) | omega) (by first | assumption | exact bitN_lt' (by assumption) | omega)) ?_
 clear hf; rintro _ w2 a ⟨rfl, hk⟩ hf
 have hM := hM.keepNn hk
 have hk0 := hk0.trans hk.nn
 clear hk
 refine q0 hf hM [7, 6] [{}, {}] (env' := [(7, .val (.nilIface)), (6, eU (((lessN mm (bitN k)) : Nat) : Int))]) (ob := []) An ?_
 clear hf; intro a hf
 refine wpList_nil ?_
 refine hK5 _ _ ?_
 refine wp_ret ?_
 refine qr (fn := Tryd.f79) hf hM [] (l := [uV (((lessN mm (bitN k)) : Nat) : Int), .nilIface]) (ob := []) An ?_
 show (.tuple #[uV (((lessN mm (bitN k)) : Nat) : Int), .nilIface] : Value) = .tuple #[uV (((lessN mm (bitN k)) : Nat) : Int), .nilIface] ∧ Keep Nn w w2
 exact ⟨rfl, hk0⟩

set_option maxRecDepth 10000 in
set_option maxHeartbeats 1600000 in
theorem mless_ok (E : Nat → Addr) (mm : Nat) (av : Option Addr) (k : Int) (c : Nat) (w : World) (hn0 : (decide (0 ≤ k ∧ k ≤ 9)) = true) (hmm : mm < 2 ^ 64) (hav : Arr w 1 av 1 c (flat fI ([k] : List Int))) (hG : Errs [0, 3, 4] w 185 E) :
    Calls Tryd.prog 51 #[uV ((mm : Nat) : Int), .slice av 1 c] w (Ret fun v w' => v = .tuple #[uV (((lessN mm (bitN k)) : Nat) : Int), .nilIface] ∧ Keep Nn w w') := by
 refine sxenter (n := 11) (args := [uV ((mm : Nat) : Int), .slice av 1 c]) Tryd.func51 rfl rfl rfl fun a hf => ?_
 replace hf : Fr 11 [(0, eU ((mm : Nat) : Int)), (1, eS av 1 c)] a := hf
 have hM : MemOk [] w := MemOk.nil w
 have hk0 : Keep Nn w w := Keep.refl _ _
 have hkk : 0 ≤ k ∧ k ≤ 9 := of_decide_eq_true hn0
 have hb64 := bitN_lt' hkk
 refine wp_seq_k (fun K1 hK1 => ?_)
 refine wp_region_lit ?_
 refine q0 hf hM [0, 1] [{}, {}] (env' := [(0, eU ((mm : Nat) : Int)), (1, eS av 1 c)]) (ob := []) An ?_
 clear hf; intro a hf
 refine wpList_nil ?_
 refine hK1 _ _ ?_
 refine wp_seq_k (fun K2 hK2 => ?_)
 refine wp_region_lit ?_
 refine q0 hf hM [7, 6] [{}, {}] (env' := [(7, eS av 1 c), (6, eU ((mm : Nat) : Int))]) (ob := []) An ?_
 clear hf; intro a hf
 refine sxcall hf rfl rfl rfl rfl (g := 79) (vs := [uV ((mm : Nat) : Int), .func (.func 81) #[] #[], .slice av 1 c]) (ob := []) (by as_aux_lemma => kernel_rfl) An enters79 (mless_ch_ok E mm av k c w hn0 (by first | assumption | exact bitN_lt' (by assumption) | omega) (hav.keepNn hk0) (hG.keep hk0 (fun _ h => h))) ?_
 clear hf; rintro _ w1 a ⟨rfl, hk⟩ hf
 have hM := hM.keepNn hk
 have hk0 := hk0.trans hk.nn
 clear hk
 refine q0 hf hM [5, 4] [{}, {}, {}, {}] (env' := [(5, .val (.nilIface)), (4, eU (((lessN mm (bitN k)) : Nat) : Int))]) (ob := []) An ?_
 clear hf; intro a hf
 refine wpList_nil ?_
 refine hK2 _ _ ?_
 refine wp_ret ?_
 refine qr (fn := Tryd.f51) hf hM [] (l := [uV (((lessN mm (bitN k)) : Nat) : Int), .nilIface]) (ob := []) An ?_
 show (.tuple #[uV (((lessN mm (bitN k)) : Nat) : Int), .nilIface] : Value) = .tuple #[uV (((lessN mm (bitN k)) : Nat) : Int), .nilIface] ∧ Keep Nn w w1
 exact ⟨rfl, hk0⟩

set_option maxRecDepth 10000 in
set_option maxHeartbeats 1600000 in
theorem mless_ch_no (E : Nat → Addr) (mm : Nat) (av : Option Addr) (k : Int) (c : Nat) (w : World) (hn0 : (decide (0 ≤ k ∧ k ≤ 9)) = false) (hmm : mm < 2 ^ 64) (hav : Arr w 1 av 1 c (flat fI ([k] : List Int))) (hG : Errs [0, 3, 4] w 185 E) :
    Calls Tryd.prog 79 #[uV ((mm : Nat) : Int), .func (.func 81) #[] #[], .slice av 1 c] w (Ret fun v w' => v = .tuple #[uV 0, .iface 185 (.pointer (some (E 4)))] ∧ Keep Nn w w') := by
 refine sxenter (n := 22) (args := [uV ((mm : Nat) : Int), .func (.func 81) #[] #[], .slice av 1 c]) Tryd.func79 rfl rfl rfl fun a hf => ?_
 replace hf : Fr 22 [(0, eU ((mm : Nat) : Int)), (1, .val (.func (.func 81) #[] #[])), (2, eS av 1 c)] a := hf
 have hM : MemOk [] w := MemOk.nil w
 have hk0 : Keep Nn w w := Keep.refl _ _
 refine wp_seq_k (fun K1 hK1 => ?_)
 refine wp_region_lit ?_
 refine q0 hf hM [0, 1, 2] [{}, {}] (env' := [(0, eU ((mm : Nat) : Int)), (1, .val (.func (.func 81) #[] #[])), (2, eS av 1 c)]) (ob := []) An ?_
 clear hf; intro a hf
 refine wpList_nil ?_
 refine hK1 _ _ ?_
 refine wp_seq_k (fun K2 hK2 => ?_)
 refine wp_region_lit ?_
 refine q0 hf hM [11, 0, 1] [{}] (env' := [(11, eS av 1 c), (0, eU ((mm : Nat) : Int)), (1, .val (.func (.func 81) #[] #[]))]) (ob := []) An ?_
 clear hf; intro a hf
 refine sxcall hf rfl rfl rfl rfl (g := 53) (vs := [.slice av 1 c]) (ob := []) (by as_aux_lemma => kernel_rfl) An enters53 (of1_no E av k c w hn0 (hav.keepNn hk0) (hG.keep hk0 (fun _ h => h))) ?_
 clear hf; rintro _ w1 a ⟨rfl, hk⟩ hf
 have hM := hM.keepNn hk
 have hk0 := hk0.trans hk.nn
 clear hk
 refine q0 hf hM [9, 8, 0, 1] [{}, {}, {}, {}, {}] (env' := [(9, .val (.iface 185 (.pointer (some (E 4))))), (8, eU 0), (0, eU ((mm : Nat) : Int)), (1, .val (.func (.func 81) #[] #[]))]) (ob := []) An ?_
 clear hf; intro a hf
 refine wpList_nil ?_
 refine hK2 _ _ ?_
 refine wp_seq_k (fun K3 hK3 => ?_)
 refine wp_seq_k (fun K4 hK4 => ?_)
 refine wp_region_lit ?_
 refine q0 hf hM [16, 9, 8, 0, 1] [{}, {}] (env' := [(16, eB true), (9, .val (.iface 185 (.pointer (some (E 4))))), (8, eU 0), (0, eU ((mm : Nat) : Int)), (1, .val (.func (.func 81) #[] #[]))]) (ob := []) An ?_
 clear hf; intro a hf
 refine wpList_nil ?_
 refine hK4 _ _ ?_
 refine sxcond hf (b := true) (by kernel_rfl) (fun _ => ?_) (fun h => by cases h)
 refine wp_seq_k (fun K5 hK5 => ?_)
 refine wp_region_lit ?_
 refine q0 hf hM [7, 6] [{}, {}, {}] (env' := [(7, .val (.iface 185 (.pointer (some (E 4))))), (6, eU 0)]) (ob := []) An ?_
 clear hf; intro a hf
 refine wpList_nil ?_
 refine hK5 _ _ ?_
 refine wp_ret ?_
 refine qr (fn := Tryd.f79) hf hM [] (l := [uV 0, .iface 185 (.pointer (some (E 4)))]) (ob := []) An ?_
 show (.tuple #[uV 0, .iface 185 (.pointer (some (E 4)))] : Value) = .tuple #[uV 0, .iface 185 (.pointer (some (E 4)))] ∧ Keep Nn w w1
 exact ⟨rfl, hk0⟩

set_option maxRecDepth 10000 in
set_option maxHeartbeats 1600000 in
theorem mless_no (E : Nat → Addr) (mm : Nat) (av : Option Addr) (k : Int) (c : Nat) (w : World) (hn0 : (decide (0 ≤ k ∧ k ≤ 9)) = false) (hmm : mm < 2 ^ 64) (hav : Arr w 1 av 1 c (flat fI ([k] : List Int))) (hG : Errs [0, 3, 4] w 185 E) :
    Calls Tryd.prog 51 #[uV ((mm : Nat) : Int), .slice av 1 c] w (Ret fun v w' => v = .tuple #[uV 0, .iface 185 (.pointer (some (E 4)))] ∧ Keep Nn w w') := by
 refine sxenter (n := 11) (args := [uV ((mm : Nat) : Int), .slice av 1 c]) Tryd.func51 rfl rfl rfl fun a hf => ?_
 replace hf : Fr 11 [(0, eU ((mm : Nat) : Int)), (1, eS av 1 c)] a := hf
 have hM : MemOk [] w := MemOk.nil w
 have hk0 : Keep Nn w w := Keep.refl _ _
 refine wp_seq_k (fun K1 hK1 => ?_)
 refine wp_region_lit ?_
 refine q0 hf hM [0, 1] [{}, {}] (env' := [(0, eU ((mm : Nat) : Int)), (1, eS av 1 c)]) (ob := []) An ?_
 clear hf; intro a hf
 refine wpList_nil ?_
 refine hK1 _ _ ?_
 refine wp_seq_k (fun K2 hK2 => ?_)
 refine wp_region_lit ?_
 refine q0 hf hM [7, 6] [{}, {}] (env' := [(7, eS av 1 c), (6, eU ((mm : Nat) : Int))]) (ob := []) An ?_
 clear hf; intro a hf
 refine sxcall hf rfl rfl rfl rfl (g := 79) (vs := [uV ((mm : Nat) : Int), .func (.func 81) #[] #[], .slice av 1 c]) (ob := []) (by as_aux_lemma => kernel_rfl) An enters79 (mless_ch_no E mm av k c w hn0 (by first | assumption | exact bitN_lt' (by assumption) | omega) (hav.keepNn hk0) (hG.keep hk0 (fun _ h => h))) ?_
 clear hf; rintro _ w1 a ⟨rfl, hk⟩ hf
 have hM := hM.keepNn hk
 have hk0 := hk0.trans hk.nn
 clear hk
 refine q0 hf hM [5, 4] [{}, {}, {}, {}] (env' := [(5, .val (.iface 185 (.pointer (some (E 4))))), (4, eU 0)]) (ob := []) An ?_
 clear hf; intro a hf
 refine wpList_nil ?_
 refine hK2 _ _ ?_
 refine wp_ret ?_
 refine qr (fn := Tryd.f51) hf hM [] (l := [uV 0, .iface 185 (.pointer (some (E 4)))]) (ob := []) An ?_
 show (.tuple #[uV 0, .iface 185 (.pointer (some (E 4)))] : Value) = .tuple #[uV 0, .iface 185 (.pointer (some (E 4)))] ∧ Keep Nn w w1
 exact ⟨rfl, hk0⟩

set_option maxRecDepth 10000 in
set_option maxHeartbeats 1600000 in
theorem smask (E : Nat → Addr) (av : Option Addr) (l : List V3) (c : Nat) (w : World) (hav : Arr w 3 av l.length c (flat fV l)) (hbav : l.length ≤ 1000000) (hkd : ∀ v ∈ l, 0 ≤ v.k ∧ v.k ≤ 9) (hG : Errs [0, 3, 4] w 185 E) :
    Calls Tryd.prog 45 #[.slice av l.length c] w (Ret fun v w' => v = uV (((maskN l) : Nat) : Int) ∧ Keep Nn w w') := by
 refine sxenter (n := 27) (args := [.slice av l.length c]) Tryd.func45 rfl rfl rfl fun a hf => ?_
 replace hf : Fr 27 [(0, eS av l.length c)] a := hf
 have hM : MemOk [] w := MemOk.nil w
 have hk0 : Keep Nn w w := Keep.refl _ _
 refine wp_seq_k (fun K1 hK1 => ?_)
 refine wp_region_lit ?_
 refine q0 hf hM [0] [{}] (env' := [(0, eS av l.length c)]) (ob := []) An ?_
 clear hf; intro a hf
 refine wpList_nil ?_
 refine hK1 _ _ ?_
 refine wp_seq_k (fun K2 hK2 => ?_)
 refine wp_region_lit ?_
 refine q0 hf hM [3, 0] [{}] (env' := [(3, eU 0), (0, eS av l.length c)]) (ob := []) An ?_
 clear hf; intro a hf
 refine wpList_nil ?_
 refine hK2 _ _ ?_
 refine wp_seq_k (fun K3 hK3 => ?_)
 refine wp_seq_k (fun K4 hK4 => ?_)
 refine wp_region_lit ?_
 refine q0 hf hM [10, 9, 8, 3] [{}, {}, {}] (env' := [(10, eI 0), (9, eI (l.length : Int)), (8, eS av l.length c), (3, eU 0)]) (ob := []) An ?_
 clear hf; intro a hf
 refine wpList_nil ?_
 refine hK4 _ _ ?_
 refine wp_block ?_
 have hf := hf.prune [3, 8, 9, 10]
 replace hf : Fr 27 [(3, eU 0), (8, eS av l.length c), (9, eI (l.length : Int)), (10, eI 0)] a := hf
 refine sxloop (fun zm a w1 => ∃ (i : Int), zm = ((l.length : Int) - i).toNat ∧ Fr 27 [(3, eU (((maskN (l.take i.toNat)) : Nat) : Int)), (8, eS av l.length c), (9, eI (l.length : Int)), (10, eI i)] a ∧ MemOk [] w1 ∧ Keep Nn w w1 ∧ (0 ≤ i ∧ i ≤ (l.length : Int))) _ ⟨0, rfl, hf.conv (Ac (congrArg (Value.int .u64) (by simp [maskN])) (Ac rfl (Ac rfl (Ao rfl)))), hM, hk0, (by omega)⟩ ?_
 clear hf hM hk0
 rintro _ a w1 ⟨i, rfl, hf, hM, hk0, hi⟩ L1 hL1
 have hml := maskN_lt64 (kinds_take hkd i.toNat)
 refine wp_seq_k (fun K5 hK5 => ?_)
 refine wp_region_lit ?_
 refine q0 hf hM [11, 3, 8, 9, 10] [{}] (env' := [(11, eB (decide ((i : Int) < (l.length : Int)))), (3, eU (((maskN (l.take i.toNat)) : Nat) : Int)), (8, eS av l.length c), (9, eI (l.length : Int)), (10, eI i)]) (ob := []) An ?_
 clear hf; intro a hf
 refine wpList_nil ?_
 refine hK5 _ _ ?_
 refine wp_seq_k (fun K6 hK6 => ?_)
 refine qc hf (b := (decide ((i : Int) < (l.length : Int)))) (fun hc1r => ?_) (fun hc1r => ?_)
 · have hc1 := (nT hc1r)
   have hka := kinds_at hkd (i := i) ⟨by omega, by omega⟩
   have hkl : decide (0 ≤ (l.getD i.toNat ⟨0, 0, 0⟩).k ∧ (l.getD i.toNat ⟨0, 0, 0⟩).k ≤ 9) = true := decide_eq_true hka
   refine wp_skip ?_
   refine hK6 _ _ ?_
   refine wp_seq_k (fun K7 hK7 => ?_)
   refine wp_block ?_
   refine wp_seq_k (fun K8 hK8 => ?_)
   refine wp_region_lit ?_
   refine q1 hf hM [5, 3, 8, 9, 10] [{ sp := true }, { os := [.ex (iV (l.getD i.toNat ⟨0, 0, 0⟩).k), .ex (iV (l.getD i.toNat ⟨0, 0, 0⟩).a), .ex (iV (l.getD i.toNat ⟨0, 0, 0⟩).b)] }, { os := [.nw] }, { os := [.st 0 0, .st 0 1, .st 0 2] }] (env' := fun B5 => [(5, eP B5 0), (3, eU (((maskN (l.take i.toNat)) : Nat) : Int)), (8, eS av l.length c), (9, eI (l.length : Int)), (10, eI i)]) (M' := fun B5 => [⟨B5, 62, [iV (l.getD i.toNat ⟨0, 0, 0⟩).k, iV (l.getD i.toNat ⟨0, 0, 0⟩).a, iV (l.getD i.toNat ⟨0, 0, 0⟩).b]⟩]) (ob := fun B5 => [(0 : Int) ≤ i ∧ i < (l.length : Int), (av : Option Addr).isSome = true, w1.cell? (((sa av : Addr).add (i.toNat * 3)).add 0) = some (iV (l.getD i.toNat ⟨0, 0, 0⟩).k), w1.cell? (((sa av : Addr).add (i.toNat * 3)).add 1) = some (iV (l.getD i.toNat ⟨0, 0, 0⟩).a), w1.cell? (((sa av : Addr).add (i.toNat * 3)).add 2) = some (iV (l.getD i.toNat ⟨0, 0, 0⟩).b), Ad B5 0, Ad B5 1, Ad B5 2]) (fun B5 => (Ac (by first | omega | (simp; done)) (Ac ((hav.keepNn hk0).some_ (by first | omega | (simp; done))) (Ac ((hav.keepNn hk0).get (fun _ => rfl) (by first | omega | (simp; done)) rfl) (Ac ((hav.keepNn hk0).get (fun _ => rfl) (by first | omega | (simp; done)) rfl) (Ac ((hav.keepNn hk0).get (fun _ => rfl) (by first | omega | (simp; done)) rfl) (Ac (ad _ _) (Ac (ad _ _) (Ao (ad _ _)))))))))) ?_
   clear hf hM; intro a w2 B5 hf hM hB hk
   have hbB5 : w.heap.size ≤ B5 := by have := hk0.size; omega
   have hk0 := hk0.then hk (by intro i _ h; cases h)
   clear hk hB
   refine wpList_nil ?_
   refine hK8 _ _ ?_
   refine wp_seq_k (fun K9 hK9 => ?_)
   refine wp_region_lit ?_
   refine q0 hf hM [17, 15, 3, 8, 9, 10] [{}, {}, { os := [.ld 0 0] }] (env' := [(17, eI (l.getD i.toNat ⟨0, 0, 0⟩).k), (15, eU (((maskN (l.take i.toNat)) : Nat) : Int)), (3, eU (((maskN (l.take i.toNat)) : Nat) : Int)), (8, eS av l.length c), (9, eI (l.length : Int)), (10, eI i)]) (ob := [Ad B5 0]) (Ao (ad _ _)) ?_
   clear hf; intro a hf
   refine sxbslice hf hM (t := 22) (e := 3) (len := 1) (cs := [iV (l.getD i.toNat ⟨0, 0, 0⟩).k]) (ob := []) rfl rfl rfl rfl (by as_aux_lemma => kernel_rfl) An (by as_aux_lemma => kernel_rfl) ?_
   clear hf hM; intro a w3 B7 hf hM hB hk
   replace hM : MemOk [⟨B5, 62, [iV (l.getD i.toNat ⟨0, 0, 0⟩).k, iV (l.getD i.toNat ⟨0, 0, 0⟩).a, iV (l.getD i.toNat ⟨0, 0, 0⟩).b]⟩, ⟨B7, 3, [iV (l.getD i.toNat ⟨0, 0, 0⟩).k]⟩] w3 := hM
   have hbB7 : w.heap.size ≤ B7 := by have := hk0.size; omega
   have hk0 := hk0.trans hk.nn
   clear hk hB
   refine sxcall hf rfl rfl rfl rfl (g := 50) (vs := [uV (((maskN (l.take i.toNat)) : Nat) : Int), .slice (some ⟨B7, 0, none⟩) 1 1]) (ob := []) (by as_aux_lemma => kernel_rfl) An enters50 (mwith_ok E (maskN (l.take i.toNat)) (some ⟨B7, 0, none⟩) (l.getD i.toNat ⟨0, 0, 0⟩).k 1 w3 hkl (by first | assumption | exact bitN_lt' (by assumption) | omega) (Arr.of_memT (sz := 1) (f := fI) (L := ([(l.getD i.toNat ⟨0, 0, 0⟩).k] : List Int)) (l := ([(l.getD i.toNat ⟨0, 0, 0⟩).k] : List Int)) hM (List.Mem.tail _ (List.Mem.head _)) (fun _ => rfl) rfl rfl) (hG.keep hk0 (fun _ h => h))) ?_
   clear hf; rintro _ w4 a ⟨rfl, hk⟩ hf
   have hM := hM.keepNn hk
   have hk0 := hk0.trans hk.nn
   clear hk
   refine q0 hf hM [7, 6, 3, 8, 9, 10] [{}, {}, {}, {}, {}] (env' := [(7, .val (.nilIface)), (6, eU ((((maskN (l.take i.toNat)) ||| bitN (l.getD i.toNat ⟨0, 0, 0⟩).k) : Nat) : Int)), (3, eU (((maskN (l.take i.toNat)) : Nat) : Int)), (8, eS av l.length c), (9, eI (l.length : Int)), (10, eI i)]) (ob := []) An ?_
   clear hf; intro a hf
   refine wpList_nil ?_
   refine hK9 _ _ ?_
   refine wp_seq_k (fun K10 hK10 => ?_)
   refine wp_region_lit ?_
   refine q0 hf hM [23, 6, 3, 8, 9, 10] [{}, {}] (env' := [(23, eB true), (6, eU ((((maskN (l.take i.toNat)) ||| bitN (l.getD i.toNat ⟨0, 0, 0⟩).k) : Nat) : Int)), (3, eU (((maskN (l.take i.toNat)) : Nat) : Int)), (8, eS av l.length c), (9, eI (l.length : Int)), (10, eI i)]) (ob := []) An ?_
   clear hf; intro a hf
   refine wpList_nil ?_
   refine hK10 _ _ ?_
   refine sxcond hf (b := true) (by kernel_rfl) (fun _ => ?_) (fun h => by cases h)
   refine wp_region_lit ?_
   refine q0 hf hM [3, 8, 9, 10] [{}, {}] (env' := [(3, eU ((((maskN (l.take i.toNat)) ||| bitN (l.getD i.toNat ⟨0, 0, 0⟩).k) : Nat) : Int)), (8, eS av l.length c), (9, eI (l.length : Int)), (10, eI i)]) (ob := []) An ?_
   clear hf; intro a hf
   refine wpList_nil ?_
   refine hK7 _ _ ?_
   refine wp_region_lit ?_
   refine q0 hf hM [10, 3, 8, 9] [{ hint := some (iV (i + 1)) }, {}] (env' := [(10, eI (i + 1)), (3, eU ((((maskN (l.take i.toNat)) ||| bitN (l.getD i.toNat ⟨0, 0, 0⟩).k) : Nat) : Int)), (8, eS av l.length c), (9, eI (l.length : Int))]) (ob := [(iV (IntKind.i64.wrap (i + 1)) : Value) = (iV (i + 1) : Value)]) (Ao (wr (by omega))) ?_
   clear hf; intro a hf
   refine wpList_nil ?_
   have hf := hf.prune [3, 8, 9, 10]
   replace hf : Fr 27 [(3, eU ((((maskN (l.take i.toNat)) ||| bitN (l.getD i.toNat ⟨0, 0, 0⟩).k) : Nat) : Int)), (8, eS av l.length c), (9, eI (l.length : Int)), (10, eI (i + 1))] a := hf
   replace hM : MemOk [] w4 := hM.sub (.cons _ (.cons _ .slnil))
   refine hL1 _ _ _ (by omega) ⟨i + 1, rfl, hf.conv (Ac (by rw [maskN_next ⟨by omega, by omega⟩]; rfl) (Ac rfl (Ac rfl (Ao rfl)))), hM, hk0, (by omega)⟩
 · have hc1 := (nU hc1r)
   refine wp_exit ?_
   refine hK3 _ _ ?_
   refine wp_seq_k (fun K11 hK11 => ?_)
   refine wp_region_lit ?_
   refine q0 hf hM [2] [{}, {}] (env' := [(2, eU (((maskN (l.take i.toNat)) : Nat) : Int))]) (ob := []) An ?_
   clear hf; intro a hf
   refine wpList_nil ?_
   refine hK11 _ _ ?_
   refine wp_ret ?_
   refine qr (fn := Tryd.f45) hf hM [] (l := [uV (((maskN (l.take i.toNat)) : Nat) : Int)]) (ob := []) An ?_
   show (uV (((maskN (l.take i.toNat)) : Nat) : Int) : Value) = uV (((maskN l) : Nat) : Int) ∧ Keep Nn w w1
   refine ⟨?_, hk0⟩
   rw [List.take_of_length_le (by omega)]

set_option maxRecDepth 10000 in
set_option maxHeartbeats 1600000 in
theorem rmask (av : Option Addr) (l : List V3) (c : Nat) (w : World) (hav : Arr w 3 av l.length c (flat fV l)) (hbav : l.length ≤ 1000000) (hkd : ∀ v ∈ l, 0 ≤ v.k ∧ v.k ≤ 9) :
    Calls Tryd.prog 46 #[.slice av l.length c] w (Ret fun v w' => v = uV (((maskN l) : Nat) : Int) ∧ Keep Nn w w') := by
 refine sxenter (n := 19) (args := [.slice av l.length c]) Tryd.func46 rfl rfl rfl fun a hf => ?_
 replace hf : Fr 19 [(0, eS av l.length c)] a := hf
 have hM : MemOk [] w := MemOk.nil w
 have hk0 : Keep Nn w w := Keep.refl _ _
 refine wp_seq_k (fun K1 hK1 => ?_)
 refine wp_region_lit ?_
 refine q0 hf hM [0] [{}] (env' := [(0, eS av l.length c)]) (ob := []) An ?_
 clear hf; intro a hf
 refine wpList_nil ?_
 refine hK1 _ _ ?_
 refine wp_seq_k (fun K2 hK2 => ?_)
 refine wp_region_lit ?_
 refine q0 hf hM [3, 0] [{}] (env' := [(3, eU 0), (0, eS av l.length c)]) (ob := []) An ?_
 clear hf; intro a hf
 refine wpList_nil ?_
 refine hK2 _ _ ?_
 refine wp_seq_k (fun K3 hK3 => ?_)
 refine wp_seq_k (fun K4 hK4 => ?_)
 refine wp_region_lit ?_
 refine q0 hf hM [8, 7, 6, 3] [{}, {}, {}] (env' := [(8, eI 0), (7, eI (l.length : Int)), (6, eS av l.length c), (3, eU 0)]) (ob := []) An ?_
 clear hf; intro a hf
 refine wpList_nil ?_
 refine hK4 _ _ ?_
 refine wp_block ?_
 have hf := hf.prune [3, 6, 7, 8]
 replace hf : Fr 19 [(3, eU 0), (6, eS av l.length c), (7, eI (l.length : Int)), (8, eI 0)] a := hf
 refine sxloop (fun zm a w1 => ∃ (i : Int), zm = ((l.length : Int) - i).toNat ∧ Fr 19 [(3, eU (((maskN (l.take i.toNat)) : Nat) : Int)), (6, eS av l.length c), (7, eI (l.length : Int)), (8, eI i)] a ∧ MemOk [] w1 ∧ Keep Nn w w1 ∧ (0 ≤ i ∧ i ≤ (l.length : Int))) _ ⟨0, rfl, hf.conv (Ac (congrArg (Value.int .u64) (by simp [maskN])) (Ac rfl (Ac rfl (Ao rfl)))), hM, hk0, (by omega)⟩ ?_
 clear hf hM hk0
 rintro _ a w1 ⟨i, rfl, hf, hM, hk0, hi⟩ L1 hL1
 have hml := maskN_lt64 (kinds_take hkd i.toNat)
 refine wp_seq_k (fun K5 hK5 => ?_)
 refine wp_region_lit ?_
 refine q0 hf hM [9, 3, 6, 7, 8] [{}] (env' := [(9, eB (decide ((i : Int) < (l.length : Int)))), (3, eU (((maskN (l.take i.toNat)) : Nat) : Int)), (6, eS av l.length c), (7, eI (l.length : Int)), (8, eI i)]) (ob := []) An ?_
 clear hf; intro a hf
 refine wpList_nil ?_
 refine hK5 _ _ ?_
 refine wp_seq_k (fun K6 hK6 => ?_)
 refine qc hf (b := (decide ((i : Int) < (l.length : Int)))) (fun hc1r => ?_) (fun hc1r => ?_)
 · have hc1 := (nT hc1r)
   refine wp_skip ?_
   refine hK6 _ _ ?_
   refine wp_seq_k (fun K7 hK7 => ?_)
   refine wp_block ?_
   refine wp_seq_k (fun K8 hK8 => ?_)
   refine wp_region_lit ?_
   refine q1 hf hM [5, 3, 6, 7, 8] [{ sp := true }, { os := [.ex (iV (l.getD i.toNat ⟨0, 0, 0⟩).k), .ex (iV (l.getD i.toNat ⟨0, 0, 0⟩).a), .ex (iV (l.getD i.toNat ⟨0, 0, 0⟩).b)] }, { os := [.nw] }, { os := [.st 0 0, .st 0 1, .st 0 2] }] (env' := fun B5 => [(5, eP B5 0), (3, eU (((maskN (l.take i.toNat)) : Nat) : Int)), (6, eS av l.length c), (7, eI (l.length : Int)), (8, eI i)]) (M' := fun B5 => [⟨B5, 62, [iV (l.getD i.toNat ⟨0, 0, 0⟩).k, iV (l.getD i.toNat ⟨0, 0, 0⟩).a, iV (l.getD i.toNat ⟨0, 0, 0⟩).b]⟩]) (ob := fun B5 => [(0 : Int) ≤ i ∧ i < (l.length : Int), (av : Option Addr).isSome = true, w1.cell? (((sa av : Addr).add (i.toNat * 3)).add 0) = some (iV (l.getD i.toNat ⟨0, 0, 0⟩).k), w1.cell? (((sa av : Addr).add (i.toNat * 3)).add 1) = some (iV (l.getD i.toNat ⟨0, 0, 0⟩).a), w1.cell? (((sa av : Addr).add (i.toNat * 3)).add 2) = some (iV (l.getD i.toNat ⟨0, 0, 0⟩).b), Ad B5 0, Ad B5 1, Ad B5 2]) (fun B5 => (Ac (by first | omega | (simp; done)) (Ac ((hav.keepNn hk0).some_ (by first | omega | (simp; done))) (Ac ((hav.keepNn hk0).get (fun _ => rfl) (by first | omega | (simp; done)) rfl) (Ac ((hav.keepNn hk0).get (fun _ => rfl) (by first | omega | (simp; done)) rfl) (Ac ((hav.keepNn hk0).get (fun _ => rfl) (by first | omega | (simp; done)) rfl) (Ac (ad _ _) (Ac (ad _ _) (Ao (ad _ _)))))))))) ?_
   clear hf hM; intro a w2 B5 hf hM hB hk
   have hbB5 : w.heap.size ≤ B5 := by have := hk0.size; omega
   have hk0 := hk0.then hk (by intro i _ h; cases h)
   clear hk hB
   refine wpList_nil ?_
   refine hK8 _ _ ?_
   refine wp_region_lit ?_
   refine q0 hf hM [3, 6, 7, 8] [{}, {}, { os := [.ld 0 0] }, { sp := true, hint := some (uV (((bitN (l.getD i.toNat ⟨0, 0, 0⟩).k) : Nat) : Int)) }, { hint := some (uV (((maskN (l.take i.toNat) ||| bitN (l.getD i.toNat ⟨0, 0, 0⟩).k) : Nat) : Int)) }, {}] (env' := [(3, eU (((maskN (l.take i.toNat) ||| bitN (l.getD i.toNat ⟨0, 0, 0⟩).k) : Nat) : Int)), (6, eS av l.length c), (7, eI (l.length : Int)), (8, eI i)]) (ob := [Ad B5 0, 0 ≤ ((l.getD i.toNat ⟨0, 0, 0⟩).k : Int), (uV (IntKind.u64.wrap (1 * 2 ^ (min ((l.getD i.toNat ⟨0, 0, 0⟩).k : Int).toNat IntKind.u64.bits))) : Value) = (uV (((bitN (l.getD i.toNat ⟨0, 0, 0⟩).k) : Nat) : Int) : Value), (uV (IntKind.u64.wrap ((BitVec.ofInt IntKind.u64.bits (((maskN (l.take i.toNat)) : Nat) : Int) ||| (BitVec.ofInt IntKind.u64.bits (((bitN (l.getD i.toNat ⟨0, 0, 0⟩).k) : Nat) : Int)) : BitVec IntKind.u64.bits).toNat : Int)) : Value) = (uV (((maskN (l.take i.toNat) ||| bitN (l.getD i.toNat ⟨0, 0, 0⟩).k) : Nat) : Int) : Value)]) (Ac (ad _ _) (Ac ((kinds_at hkd ⟨by omega, by omega⟩).1) (Ac (shl_bit (kinds_at hkd ⟨by omega, by omega⟩)) (Ao (or_u64 hml (bitN_lt' (kinds_at hkd ⟨by omega, by omega⟩))))))) ?_
   clear hf; intro a hf
   refine wpList_nil ?_
   refine hK7 _ _ ?_
   refine wp_region_lit ?_
   refine q0 hf hM [8, 3, 6, 7] [{ hint := some (iV (i + 1)) }, {}] (env' := [(8, eI (i + 1)), (3, eU (((maskN (l.take i.toNat) ||| bitN (l.getD i.toNat ⟨0, 0, 0⟩).k) : Nat) : Int)), (6, eS av l.length c), (7, eI (l.length : Int))]) (ob := [(iV (IntKind.i64.wrap (i + 1)) : Value) = (iV (i + 1) : Value)]) (Ao (wr (by omega))) ?_
   clear hf; intro a hf
   refine wpList_nil ?_
   have hf := hf.prune [3, 6, 7, 8]
   replace hf : Fr 19 [(3, eU (((maskN (l.take i.toNat) ||| bitN (l.getD i.toNat ⟨0, 0, 0⟩).k) : Nat) : Int)), (6, eS av l.length c), (7, eI (l.length : Int)), (8, eI (i + 1))] a := hf
   replace hM : MemOk [] w2 := hM.sub (.cons _ .slnil)
   refine hL1 _ _ _ (by omega) ⟨i + 1, rfl, hf.conv (Ac (by rw [maskN_next ⟨by omega, by omega⟩]; rfl) (Ac rfl (Ac rfl (Ao rfl)))), hM, hk0, (by omega)⟩
 · have hc1 := (nU hc1r)
   refine wp_exit ?_
   refine hK3 _ _ ?_
   refine wp_seq_k (fun K9 hK9 => ?_)
   refine wp_region_lit ?_
   refine q0 hf hM [2] [{}, {}] (env' := [(2, eU (((maskN (l.take i.toNat)) : Nat) : Int))]) (ob := []) An ?_
   clear hf; intro a hf
   refine wpList_nil ?_
   refine hK9 _ _ ?_
   refine wp_ret ?_
   refine qr (fn := Tryd.f46) hf hM [] (l := [uV (((maskN (l.take i.toNat)) : Nat) : Int)]) (ob := []) An ?_
   show (uV (((maskN (l.take i.toNat)) : Nat) : Int) : Value) = uV (((maskN l) : Nat) : Int) ∧ Keep Nn w w1
   refine ⟨?_, hk0⟩
   rw [List.take_of_length_le (by omega)]
end Go.Proofs.YtifcgjnknikjkaaDoor
