/- layer 6: the sort -/
import Derived.Test.YtifcgjnknikjkaaDoorBC2
import Derived.Test.YtifcgjnknikjkaaDoorSh
import Derived.Test.YtifcgjnknikjkaaDoorXS
import Derived.Test.YtifcgjnknikjkaaDoorXp6b
namespace Go.Proofs.YtifcgjnknikjkaaDoor
open Go.Px
set_option linter.unusedVariables false
set_option linter.unusedSimpArgs false

theorem swo_kind : Go.Sort.SWO (ltOf fun x y : V3 => cmpI x.k y.k) := by
  have h : ∀ x y : V3, ltOf (fun x y : V3 => cmpI x.k y.k) x y = decide (x.k < y.k) := fun x y => by
    unfold ltOf cmpI
    by_cases h1 : x.k < y.k
    · simp [h1]
    · by_cases h2 : y.k < x.k <;> simp [h1, h2]
  exact ⟨fun x => by rw [h]; simp, fun x y z h1 h2 => by rw [h] at *; simp at *; omega, fun x y z h1 h2 => by rw [h] at *; simp at *; omega⟩
theorem sort_val {w : World} {base c : Nat} {av : Option Addr} {l : List V3} (hown : w.ownsRow base 62 3 (.slice av l.length c) l.length (flat fV l)) (hb : l.length ≤ 1000000) :
    Calls Tryd.prog 73 #[.slice av l.length c, .func (.func 74) #[] #[]] w (Ret fun v w' => v = .tuple #[] ∧ ∃ l', l'.Perm l ∧ (l'.Pairwise fun x y => x.k ≤ y.k) ∧
      w'.ownsRow base 62 3 (.slice av l.length c) l.length (flat fV l') ∧ Keep (fun i => Value.ownBlock (.slice av l.length c) = some i) w w') := by
  have h := sortFunc_own (enc := fV) (cf := fun x y : V3 => cmpI x.k y.k) Go.Proofs.Tryd.sortV (k := 3) (fun w => by kernel_rfl) (fun w => by kernel_rfl) (fun _ => rfl) fV_one swo_kind (g := 74) (enters_of Tryd.func74 (by kernel_rfl) rfl)
    (fun x y w => by_kind x.k x.a x.b y.k y.a y.b w) hown (by omega)
  refine Calls.mono h fun e w' he => ?_
  obtain ⟨v, rfl, rfl, l', hp, hs, hx, hk⟩ := he
  refine ⟨_, rfl, rfl, l', hp, hs.imp fun {x y} hxy => ?_, hx, hk⟩
  simp only [cmpI] at hxy
  split at hxy
  · omega
  · split at hxy <;> omega

set_option maxRecDepth 10000 in
set_option maxHeartbeats 1600000 in
theorem srow_kind (E : Nat → Addr) (av : Option Addr) (l : List V3) (c : Nat) (w : World) (hn0 : (firstBad l == 5) = true) (hav : Arr w 3 av l.length c (flat fV l)) (hbav : l.length ≤ 1000000) (hG : Errs [0, 3, 4] w 185 E) :
    Calls Tryd.prog 40 #[.slice av l.length c] w (Ret fun v w' => v = .tuple #[.slice none 0 0, .iface 185 (.pointer (some (E 4)))] ∧ Keep Nn w w') := by
 refine sxenter (n := 29) (args := [.slice av l.length c]) Tryd.func40 rfl rfl rfl fun a hf => ?_
 replace hf : Fr 29 [(0, eS av l.length c)] a := hf
 have hM : MemOk [] w := MemOk.nil w
 have hk0 : Keep Nn w w := Keep.refl _ _
 have hn : firstBad l = 5 := by simpa using hn0
 refine wp_seq_k (fun K1 hK1 => ?_)
 refine wp_region_lit ?_
 refine q0 hf hM [3, 2, 0] [{}, {}] (env' := [(3, .val (.nilIface)), (2, eS none 0 0), (0, eS av l.length c)]) (ob := []) An ?_
 clear hf; intro a hf
 refine wpList_nil ?_
 refine hK1 _ _ ?_
 refine wp_seq_k (fun K2 hK2 => ?_)
 refine wp_seq_k (fun K3 hK3 => ?_)
 refine wp_region_lit ?_
 refine q0 hf hM [10, 9, 8, 3, 2, 0] [{}, {}, {}] (env' := [(10, eI 0), (9, eI (l.length : Int)), (8, eS av l.length c), (3, .val (.nilIface)), (2, eS none 0 0), (0, eS av l.length c)]) (ob := []) An ?_
 clear hf; intro a hf
 refine wpList_nil ?_
 refine hK3 _ _ ?_
 refine wp_block ?_
 have hf := hf.prune [0, 2, 3, 8, 9, 10]
 replace hf : Fr 29 [(0, eS av l.length c), (2, eS none 0 0), (3, .val (.nilIface)), (8, eS av l.length c), (9, eI (l.length : Int)), (10, eI 0)] a := hf
 refine sxloop (fun zm a w1 => ∃ (i : Int), zm = ((l.length : Int) - i).toNat ∧ Fr 29 [(0, eS av l.length c), (2, eS none 0 0), (3, .val (.nilIface)), (8, eS av l.length c), (9, eI (l.length : Int)), (10, eI i)] a ∧ MemOk [] w1 ∧ Keep Nn w w1 ∧ (0 ≤ i ∧ i ≤ (l.length : Int)) ∧ (firstBad (l.drop i.toNat) = firstBad l)) _ ⟨0, rfl, hf.conv (Ac rfl (Ac rfl (Ac rfl (Ac rfl (Ac rfl (Ao rfl)))))), hM, hk0, (by omega), rfl⟩ ?_
 clear hf hM hk0
 rintro _ a w1 ⟨i, rfl, hf, hM, hk0, hi, hfb⟩ L1 hL1
 refine wp_seq_k (fun K4 hK4 => ?_)
 refine wp_region_lit ?_
 refine q0 hf hM [11, 0, 2, 3, 8, 9, 10] [{}] (env' := [(11, eB (decide ((i : Int) < (l.length : Int)))), (0, eS av l.length c), (2, eS none 0 0), (3, .val (.nilIface)), (8, eS av l.length c), (9, eI (l.length : Int)), (10, eI i)]) (ob := []) An ?_
 clear hf; intro a hf
 refine wpList_nil ?_
 refine hK4 _ _ ?_
 refine wp_seq_k (fun K5 hK5 => ?_)
 refine qc hf (b := (decide ((i : Int) < (l.length : Int)))) (fun hc1r => ?_) (fun hc1r => ?_)
 · have hc1 := (nT hc1r)
   refine wp_skip ?_
   refine hK5 _ _ ?_
   refine wp_seq_k (fun K6 hK6 => ?_)
   refine wp_block ?_
   refine wp_seq_k (fun K7 hK7 => ?_)
   refine wp_region_lit ?_
   refine q1 hf hM [5, 0, 2, 3, 8, 9, 10] [{ sp := true }, { os := [.ex (iV (l.getD i.toNat ⟨0, 0, 0⟩).k), .ex (iV (l.getD i.toNat ⟨0, 0, 0⟩).a), .ex (iV (l.getD i.toNat ⟨0, 0, 0⟩).b)] }, { os := [.nw] }, { os := [.st 0 0, .st 0 1, .st 0 2] }] (env' := fun B4 => [(5, eP B4 0), (0, eS av l.length c), (2, eS none 0 0), (3, .val (.nilIface)), (8, eS av l.length c), (9, eI (l.length : Int)), (10, eI i)]) (M' := fun B4 => [⟨B4, 62, [iV (l.getD i.toNat ⟨0, 0, 0⟩).k, iV (l.getD i.toNat ⟨0, 0, 0⟩).a, iV (l.getD i.toNat ⟨0, 0, 0⟩).b]⟩]) (ob := fun B4 => [(0 : Int) ≤ i ∧ i < (l.length : Int), (av : Option Addr).isSome = true, w1.cell? (((sa av : Addr).add (i.toNat * 3)).add 0) = some (iV (l.getD i.toNat ⟨0, 0, 0⟩).k), w1.cell? (((sa av : Addr).add (i.toNat * 3)).add 1) = some (iV (l.getD i.toNat ⟨0, 0, 0⟩).a), w1.cell? (((sa av : Addr).add (i.toNat * 3)).add 2) = some (iV (l.getD i.toNat ⟨0, 0, 0⟩).b), Ad B4 0, Ad B4 1, Ad B4 2]) (fun B4 => (Ac (by first | omega | (simp; done)) (Ac ((hav.keepNn hk0).some_ (by first | omega | (simp; done))) (Ac ((hav.keepNn hk0).get (fun _ => rfl) (by first | omega | (simp; done)) rfl) (Ac ((hav.keepNn hk0).get (fun _ => rfl) (by first | omega | (simp; done)) rfl) (Ac ((hav.keepNn hk0).get (fun _ => rfl) (by first | omega | (simp; done)) rfl) (Ac (ad _ _) (Ac (ad _ _) (Ao (ad _ _)))))))))) ?_
   clear hf hM; intro a w2 B4 hf hM hB hk
   have hbB4 : w.heap.size ≤ B4 := by have := hk0.size; omega
   have hk0 := hk0.then hk (by intro i _ h; cases h)
   clear hk hB
   refine wpList_nil ?_
   refine hK7 _ _ ?_
   refine wp_seq_k (fun K8 hK8 => ?_)
   refine wp_region_lit ?_
   refine q0 hf hM [14, 0, 2, 3, 8, 9, 10] [{ os := [.ld 0 0, .ld 0 1, .ld 0 2] }] (env' := [(14, .val (.agg #[iV (l.getD i.toNat ⟨0, 0, 0⟩).k, iV (l.getD i.toNat ⟨0, 0, 0⟩).a, iV (l.getD i.toNat ⟨0, 0, 0⟩).b])), (0, eS av l.length c), (2, eS none 0 0), (3, .val (.nilIface)), (8, eS av l.length c), (9, eI (l.length : Int)), (10, eI i)]) (ob := [Ad B4 0, Ad B4 1, Ad B4 2]) (Ac (ad _ _) (Ac (ad _ _) (Ao (ad _ _)))) ?_
   clear hf; intro a hf
   rcases Bool.eq_false_or_eq_true (vkind ⟨(l.getD i.toNat ⟨0, 0, 0⟩).k, (l.getD i.toNat ⟨0, 0, 0⟩).a, (l.getD i.toNat ⟨0, 0, 0⟩).b⟩) with hs1r | hs1r
   · have hs1 := hs1r
     try simp only [Bool.or_eq_true, Bool.and_eq_true, Bool.not_eq_true', Bool.not_eq_false', Bool.or_eq_false_iff, Bool.and_eq_false_iff, decide_eq_true_eq, decide_eq_false_iff_not, beq_iff_eq, bne_iff_ne, beq_eq_false_iff_ne, bne_eq_false_iff_eq, Bool.and_true, Bool.true_and, ne_eq] at hs1
     rcases Bool.eq_false_or_eq_true (vrange ⟨(l.getD i.toNat ⟨0, 0, 0⟩).k, (l.getD i.toNat ⟨0, 0, 0⟩).a, (l.getD i.toNat ⟨0, 0, 0⟩).b⟩) with hs2r | hs2r
     · have hs2 := hs2r
       try simp only [Bool.or_eq_true, Bool.and_eq_true, Bool.not_eq_true', Bool.not_eq_false', Bool.or_eq_false_iff, Bool.and_eq_false_iff, decide_eq_true_eq, decide_eq_false_iff_not, beq_iff_eq, bne_iff_ne, beq_eq_false_iff_ne, bne_eq_false_iff_eq, Bool.and_true, Bool.true_and, ne_eq] at hs2
       refine sxcall hf rfl rfl rfl rfl (g := 31) (vs := [.agg #[iV (l.getD i.toNat ⟨0, 0, 0⟩).k, iV (l.getD i.toNat ⟨0, 0, 0⟩).a, iV (l.getD i.toNat ⟨0, 0, 0⟩).b]]) (ob := []) (by as_aux_lemma => kernel_rfl) An enters31 (scheck_ok E (l.getD i.toNat ⟨0, 0, 0⟩).k (l.getD i.toNat ⟨0, 0, 0⟩).a (l.getD i.toNat ⟨0, 0, 0⟩).b w2 hs1r hs2r (hG.keep hk0 (fun _ h => h))) ?_
       clear hf; rintro _ w3 a ⟨rfl, hk⟩ hf
       have hM := hM.keepNn hk
       have hk0 := hk0.trans hk.nn
       clear hk
       refine q0 hf hM [6, 0, 2, 3, 8, 9, 10] [{}] (env' := [(6, .val (.nilIface)), (0, eS av l.length c), (2, eS none 0 0), (3, .val (.nilIface)), (8, eS av l.length c), (9, eI (l.length : Int)), (10, eI i)]) (ob := []) An ?_
       clear hf; intro a hf
       refine wpList_nil ?_
       refine hK8 _ _ ?_
       refine wp_seq_k (fun K9 hK9 => ?_)
       refine wp_region_lit ?_
       refine q0 hf hM [17, 6, 0, 2, 3, 8, 9, 10] [{}, {}] (env' := [(17, eB false), (6, .val (.nilIface)), (0, eS av l.length c), (2, eS none 0 0), (3, .val (.nilIface)), (8, eS av l.length c), (9, eI (l.length : Int)), (10, eI i)]) (ob := []) An ?_
       clear hf; intro a hf
       refine wpList_nil ?_
       refine hK9 _ _ ?_
       refine sxcond hf (b := false) (by kernel_rfl) (fun h => by cases h) (fun _ => ?_)
       refine wp_skip ?_
       refine hK6 _ _ ?_
       refine wp_region_lit ?_
       refine q0 hf hM [10, 0, 2, 3, 8, 9] [{ hint := some (iV (i + 1)) }, {}] (env' := [(10, eI (i + 1)), (0, eS av l.length c), (2, eS none 0 0), (3, .val (.nilIface)), (8, eS av l.length c), (9, eI (l.length : Int))]) (ob := [(iV (IntKind.i64.wrap (i + 1)) : Value) = (iV (i + 1) : Value)]) (Ao (wr (by omega))) ?_
       clear hf; intro a hf
       refine wpList_nil ?_
       have hfb2 : firstBad (l.drop (i + 1).toNat) = firstBad l := by
         have h1 := firstBad_step (l := l) (i := i.toNat) (d := ⟨0, 0, 0⟩) (by omega)
         rw [vcheck_ok (v := l.getD i.toNat ⟨0, 0, 0⟩) ‹vkind _ = true› ‹vrange _ = true›, if_pos rfl, hfb] at h1
         rw [h1, show (i + 1).toNat = i.toNat + 1 by omega]
       have hf := hf.prune [0, 2, 3, 8, 9, 10]
       replace hf : Fr 29 [(0, eS av l.length c), (2, eS none 0 0), (3, .val (.nilIface)), (8, eS av l.length c), (9, eI (l.length : Int)), (10, eI (i + 1))] a := hf
       replace hM : MemOk [] w3 := hM.sub (.cons _ .slnil)
       refine hL1 _ _ _ (by omega) ⟨i + 1, rfl, hf.conv (Ac rfl (Ac rfl (Ac rfl (Ac rfl (Ac rfl (Ao rfl)))))), hM, hk0, (by omega), hfb2⟩
     · have hs2 := hs2r
       try simp only [Bool.or_eq_true, Bool.and_eq_true, Bool.not_eq_true', Bool.not_eq_false', Bool.or_eq_false_iff, Bool.and_eq_false_iff, decide_eq_true_eq, decide_eq_false_iff_not, beq_iff_eq, bne_iff_ne, beq_eq_false_iff_ne, bne_eq_false_iff_eq, Bool.and_true, Bool.true_and, ne_eq] at hs2
       refine sxcall hf rfl rfl rfl rfl (g := 31) (vs := [.agg #[iV (l.getD i.toNat ⟨0, 0, 0⟩).k, iV (l.getD i.toNat ⟨0, 0, 0⟩).a, iV (l.getD i.toNat ⟨0, 0, 0⟩).b]]) (ob := []) (by as_aux_lemma => kernel_rfl) An enters31 (scheck_range E (l.getD i.toNat ⟨0, 0, 0⟩).k (l.getD i.toNat ⟨0, 0, 0⟩).a (l.getD i.toNat ⟨0, 0, 0⟩).b w2 hs1r hs2r (hG.keep hk0 (fun _ h => h))) ?_
       clear hf; rintro _ w4 a ⟨rfl, hk⟩ hf
       have hM := hM.keepNn hk
       have hk0 := hk0.trans hk.nn
       clear hk
       refine q0 hf hM [6, 0, 2, 3, 8, 9, 10] [{}] (env' := [(6, .val (.iface 185 (.pointer (some (E 0))))), (0, eS av l.length c), (2, eS none 0 0), (3, .val (.nilIface)), (8, eS av l.length c), (9, eI (l.length : Int)), (10, eI i)]) (ob := []) An ?_
       clear hf; intro a hf
       refine wpList_nil ?_
       refine hK8 _ _ ?_
       refine wp_seq_k (fun K10 hK10 => ?_)
       refine wp_region_lit ?_
       refine q0 hf hM [17, 6, 0, 2, 3, 8, 9, 10] [{}, {}] (env' := [(17, eB true), (6, .val (.iface 185 (.pointer (some (E 0))))), (0, eS av l.length c), (2, eS none 0 0), (3, .val (.nilIface)), (8, eS av l.length c), (9, eI (l.length : Int)), (10, eI i)]) (ob := []) An ?_
       clear hf; intro a hf
       refine wpList_nil ?_
       refine hK10 _ _ ?_
       refine sxcond hf (b := true) (by kernel_rfl) (fun _ => ?_) (fun h => by cases h)
       refine wp_seq_k (fun K11 hK11 => ?_)
       refine wp_region_lit ?_
       refine q0 hf hM [3, 2] [{}, {}, {}] (env' := [(3, .val (.iface 185 (.pointer (some (E 0))))), (2, eS none 0 0)]) (ob := []) An ?_
       clear hf; intro a hf
       refine wpList_nil ?_
       refine hK11 _ _ ?_
       refine wp_ret ?_
       refine qr (fn := Tryd.f40) hf hM [] (l := [.slice none 0 0, .iface 185 (.pointer (some (E 0)))]) (ob := []) An ?_
       show (.tuple #[.slice none 0 0, .iface 185 (.pointer (some (E 0)))] : Value) = .tuple #[.slice none 0 0, .iface 185 (.pointer (some (E 4)))] ∧ Keep Nn w w4
       first | exact ⟨rfl, hk0⟩ | (exfalso; have h1 := firstBad_step (l := l) (i := i.toNat) (d := ⟨0, 0, 0⟩) (by omega); first | (rw [vcheck_kind ‹_›, if_neg (by decide)] at h1; omega) | (rw [vcheck_range ‹_› ‹_›, if_neg (by decide)] at h1; omega))
   · have hs1 := hs1r
     try simp only [Bool.or_eq_true, Bool.and_eq_true, Bool.not_eq_true', Bool.not_eq_false', Bool.or_eq_false_iff, Bool.and_eq_false_iff, decide_eq_true_eq, decide_eq_false_iff_not, beq_iff_eq, bne_iff_ne, beq_eq_false_iff_ne, bne_eq_false_iff_eq, Bool.and_true, Bool.true_and, ne_eq] at hs1
     refine sxcall hf rfl rfl rfl rfl (g := 31) (vs := [.agg #[iV (l.getD i.toNat ⟨0, 0, 0⟩).k, iV (l.getD i.toNat ⟨0, 0, 0⟩).a, iV (l.getD i.toNat ⟨0, 0, 0⟩).b]]) (ob := []) (by as_aux_lemma => kernel_rfl) An enters31 (scheck_kind E (l.getD i.toNat ⟨0, 0, 0⟩).k (l.getD i.toNat ⟨0, 0, 0⟩).a (l.getD i.toNat ⟨0, 0, 0⟩).b w2 hs1r (hG.keep hk0 (fun _ h => h))) ?_
     clear hf; rintro _ w5 a ⟨rfl, hk⟩ hf
     have hM := hM.keepNn hk
     have hk0 := hk0.trans hk.nn
     clear hk
     refine q0 hf hM [6, 0, 2, 3, 8, 9, 10] [{}] (env' := [(6, .val (.iface 185 (.pointer (some (E 4))))), (0, eS av l.length c), (2, eS none 0 0), (3, .val (.nilIface)), (8, eS av l.length c), (9, eI (l.length : Int)), (10, eI i)]) (ob := []) An ?_
     clear hf; intro a hf
     refine wpList_nil ?_
     refine hK8 _ _ ?_
     refine wp_seq_k (fun K12 hK12 => ?_)
     refine wp_region_lit ?_
     refine q0 hf hM [17, 6, 0, 2, 3, 8, 9, 10] [{}, {}] (env' := [(17, eB true), (6, .val (.iface 185 (.pointer (some (E 4))))), (0, eS av l.length c), (2, eS none 0 0), (3, .val (.nilIface)), (8, eS av l.length c), (9, eI (l.length : Int)), (10, eI i)]) (ob := []) An ?_
     clear hf; intro a hf
     refine wpList_nil ?_
     refine hK12 _ _ ?_
     refine sxcond hf (b := true) (by kernel_rfl) (fun _ => ?_) (fun h => by cases h)
     refine wp_seq_k (fun K13 hK13 => ?_)
     refine wp_region_lit ?_
     refine q0 hf hM [3, 2] [{}, {}, {}] (env' := [(3, .val (.iface 185 (.pointer (some (E 4))))), (2, eS none 0 0)]) (ob := []) An ?_
     clear hf; intro a hf
     refine wpList_nil ?_
     refine hK13 _ _ ?_
     refine wp_ret ?_
     refine qr (fn := Tryd.f40) hf hM [] (l := [.slice none 0 0, .iface 185 (.pointer (some (E 4)))]) (ob := []) An ?_
     show (.tuple #[.slice none 0 0, .iface 185 (.pointer (some (E 4)))] : Value) = .tuple #[.slice none 0 0, .iface 185 (.pointer (some (E 4)))] ∧ Keep Nn w w5
     first | exact ⟨rfl, hk0⟩ | (exfalso; have h1 := firstBad_step (l := l) (i := i.toNat) (d := ⟨0, 0, 0⟩) (by omega); first | (rw [vcheck_kind ‹_›, if_neg (by decide)] at h1; omega) | (rw [vcheck_range ‹_› ‹_›, if_neg (by decide)] at h1; omega))
 · have hc1 := (nU hc1r)
   exfalso; have h2 : l.drop i.toNat = [] := List.drop_eq_nil_of_le (by omega); rw [h2] at hfb; simp only [firstBad] at hfb; omega

set_option maxRecDepth 10000 in
set_option maxHeartbeats 1600000 in
theorem srow_range (E : Nat → Addr) (av : Option Addr) (l : List V3) (c : Nat) (w : World) (hn0 : (firstBad l == 1) = true) (hav : Arr w 3 av l.length c (flat fV l)) (hbav : l.length ≤ 1000000) (hG : Errs [0, 3, 4] w 185 E) :
    Calls Tryd.prog 40 #[.slice av l.length c] w (Ret fun v w' => v = .tuple #[.slice none 0 0, .iface 185 (.pointer (some (E 0)))] ∧ Keep Nn w w') := by
 refine sxenter (n := 29) (args := [.slice av l.length c]) Tryd.func40 rfl rfl rfl fun a hf => ?_
 replace hf : Fr 29 [(0, eS av l.length c)] a := hf
 have hM : MemOk [] w := MemOk.nil w
 have hk0 : Keep Nn w w := Keep.refl _ _
 have hn : firstBad l = 1 := by simpa using hn0
 refine wp_seq_k (fun K1 hK1 => ?_)
 refine wp_region_lit ?_
 refine q0 hf hM [3, 2, 0] [{}, {}] (env' := [(3, .val (.nilIface)), (2, eS none 0 0), (0, eS av l.length c)]) (ob := []) An ?_
 clear hf; intro a hf
 refine wpList_nil ?_
 refine hK1 _ _ ?_
 refine wp_seq_k (fun K2 hK2 => ?_)
 refine wp_seq_k (fun K3 hK3 => ?_)
 refine wp_region_lit ?_
 refine q0 hf hM [10, 9, 8, 3, 2, 0] [{}, {}, {}] (env' := [(10, eI 0), (9, eI (l.length : Int)), (8, eS av l.length c), (3, .val (.nilIface)), (2, eS none 0 0), (0, eS av l.length c)]) (ob := []) An ?_
 clear hf; intro a hf
 refine wpList_nil ?_
 refine hK3 _ _ ?_
 refine wp_block ?_
 have hf := hf.prune [0, 2, 3, 8, 9, 10]
 replace hf : Fr 29 [(0, eS av l.length c), (2, eS none 0 0), (3, .val (.nilIface)), (8, eS av l.length c), (9, eI (l.length : Int)), (10, eI 0)] a := hf
 refine sxloop (fun zm a w1 => ∃ (i : Int), zm = ((l.length : Int) - i).toNat ∧ Fr 29 [(0, eS av l.length c), (2, eS none 0 0), (3, .val (.nilIface)), (8, eS av l.length c), (9, eI (l.length : Int)), (10, eI i)] a ∧ MemOk [] w1 ∧ Keep Nn w w1 ∧ (0 ≤ i ∧ i ≤ (l.length : Int)) ∧ (firstBad (l.drop i.toNat) = firstBad l)) _ ⟨0, rfl, hf.conv (Ac rfl (Ac rfl (Ac rfl (Ac rfl (Ac rfl (Ao rfl)))))), hM, hk0, (by omega), rfl⟩ ?_
 clear hf hM hk0
 rintro _ a w1 ⟨i, rfl, hf, hM, hk0, hi, hfb⟩ L1 hL1
 refine wp_seq_k (fun K4 hK4 => ?_)
 refine wp_region_lit ?_
 refine q0 hf hM [11, 0, 2, 3, 8, 9, 10] [{}] (env' := [(11, eB (decide ((i : Int) < (l.length : Int)))), (0, eS av l.length c), (2, eS none 0 0), (3, .val (.nilIface)), (8, eS av l.length c), (9, eI (l.length : Int)), (10, eI i)]) (ob := []) An ?_
 clear hf; intro a hf
 refine wpList_nil ?_
 refine hK4 _ _ ?_
 refine wp_seq_k (fun K5 hK5 => ?_)
 refine qc hf (b := (decide ((i : Int) < (l.length : Int)))) (fun hc1r => ?_) (fun hc1r => ?_)
 · have hc1 := (nT hc1r)
   refine wp_skip ?_
   refine hK5 _ _ ?_
   refine wp_seq_k (fun K6 hK6 => ?_)
   refine wp_block ?_
   refine wp_seq_k (fun K7 hK7 => ?_)
   refine wp_region_lit ?_
   refine q1 hf hM [5, 0, 2, 3, 8, 9, 10] [{ sp := true }, { os := [.ex (iV (l.getD i.toNat ⟨0, 0, 0⟩).k), .ex (iV (l.getD i.toNat ⟨0, 0, 0⟩).a), .ex (iV (l.getD i.toNat ⟨0, 0, 0⟩).b)] }, { os := [.nw] }, { os := [.st 0 0, .st 0 1, .st 0 2] }] (env' := fun B4 => [(5, eP B4 0), (0, eS av l.length c), (2, eS none 0 0), (3, .val (.nilIface)), (8, eS av l.length c), (9, eI (l.length : Int)), (10, eI i)]) (M' := fun B4 => [⟨B4, 62, [iV (l.getD i.toNat ⟨0, 0, 0⟩).k, iV (l.getD i.toNat ⟨0, 0, 0⟩).a, iV (l.getD i.toNat ⟨0, 0, 0⟩).b]⟩]) (ob := fun B4 => [(0 : Int) ≤ i ∧ i < (l.length : Int), (av : Option Addr).isSome = true, w1.cell? (((sa av : Addr).add (i.toNat * 3)).add 0) = some (iV (l.getD i.toNat ⟨0, 0, 0⟩).k), w1.cell? (((sa av : Addr).add (i.toNat * 3)).add 1) = some (iV (l.getD i.toNat ⟨0, 0, 0⟩).a), w1.cell? (((sa av : Addr).add (i.toNat * 3)).add 2) = some (iV (l.getD i.toNat ⟨0, 0, 0⟩).b), Ad B4 0, Ad B4 1, Ad B4 2]) (fun B4 => (Ac (by first | omega | (simp; done)) (Ac ((hav.keepNn hk0).some_ (by first | omega | (simp; done))) (Ac ((hav.keepNn hk0).get (fun _ => rfl) (by first | omega | (simp; done)) rfl) (Ac ((hav.keepNn hk0).get (fun _ => rfl) (by first | omega | (simp; done)) rfl) (Ac ((hav.keepNn hk0).get (fun _ => rfl) (by first | omega | (simp; done)) rfl) (Ac (ad _ _) (Ac (ad _ _) (Ao (ad _ _)))))))))) ?_
   clear hf hM; intro a w2 B4 hf hM hB hk
   have hbB4 : w.heap.size ≤ B4 := by have := hk0.size; omega
   have hk0 := hk0.then hk (by intro i _ h; cases h)
   clear hk hB
   refine wpList_nil ?_
   refine hK7 _ _ ?_
   refine wp_seq_k (fun K8 hK8 => ?_)
   refine wp_region_lit ?_
   refine q0 hf hM [14, 0, 2, 3, 8, 9, 10] [{ os := [.ld 0 0, .ld 0 1, .ld 0 2] }] (env' := [(14, .val (.agg #[iV (l.getD i.toNat ⟨0, 0, 0⟩).k, iV (l.getD i.toNat ⟨0, 0, 0⟩).a, iV (l.getD i.toNat ⟨0, 0, 0⟩).b])), (0, eS av l.length c), (2, eS none 0 0), (3, .val (.nilIface)), (8, eS av l.length c), (9, eI (l.length : Int)), (10, eI i)]) (ob := [Ad B4 0, Ad B4 1, Ad B4 2]) (Ac (ad _ _) (Ac (ad _ _) (Ao (ad _ _)))) ?_
   clear hf; intro a hf
   rcases Bool.eq_false_or_eq_true (vkind ⟨(l.getD i.toNat ⟨0, 0, 0⟩).k, (l.getD i.toNat ⟨0, 0, 0⟩).a, (l.getD i.toNat ⟨0, 0, 0⟩).b⟩) with hs1r | hs1r
   · have hs1 := hs1r
     try simp only [Bool.or_eq_true, Bool.and_eq_true, Bool.not_eq_true', Bool.not_eq_false', Bool.or_eq_false_iff, Bool.and_eq_false_iff, decide_eq_true_eq, decide_eq_false_iff_not, beq_iff_eq, bne_iff_ne, beq_eq_false_iff_ne, bne_eq_false_iff_eq, Bool.and_true, Bool.true_and, ne_eq] at hs1
     rcases Bool.eq_false_or_eq_true (vrange ⟨(l.getD i.toNat ⟨0, 0, 0⟩).k, (l.getD i.toNat ⟨0, 0, 0⟩).a, (l.getD i.toNat ⟨0, 0, 0⟩).b⟩) with hs2r | hs2r
     · have hs2 := hs2r
       try simp only [Bool.or_eq_true, Bool.and_eq_true, Bool.not_eq_true', Bool.not_eq_false', Bool.or_eq_false_iff, Bool.and_eq_false_iff, decide_eq_true_eq, decide_eq_false_iff_not, beq_iff_eq, bne_iff_ne, beq_eq_false_iff_ne, bne_eq_false_iff_eq, Bool.and_true, Bool.true_and, ne_eq] at hs2
       refine sxcall hf rfl rfl rfl rfl (g := 31) (vs := [.agg #[iV (l.getD i.toNat ⟨0, 0, 0⟩).k, iV (l.getD i.toNat ⟨0, 0, 0⟩).a, iV (l.getD i.toNat ⟨0, 0, 0⟩).b]]) (ob := []) (by as_aux_lemma => kernel_rfl) An enters31 (scheck_ok E (l.getD i.toNat ⟨0, 0, 0⟩).k (l.getD i.toNat ⟨0, 0, 0⟩).a (l.getD i.toNat ⟨0, 0, 0⟩).b w2 hs1r hs2r (hG.keep hk0 (fun _ h => h))) ?_
       clear hf; rintro _ w3 a ⟨rfl, hk⟩ hf
       have hM := hM.keepNn hk
       have hk0 := hk0.trans hk.nn
       clear hk
       refine q0 hf hM [6, 0, 2, 3, 8, 9, 10] [{}] (env' := [(6, .val (.nilIface)), (0, eS av l.length c), (2, eS none 0 0), (3, .val (.nilIface)), (8, eS av l.length c), (9, eI (l.length : Int)), (10, eI i)]) (ob := []) An ?_
       clear hf; intro a hf
       refine wpList_nil ?_
       refine hK8 _ _ ?_
       refine wp_seq_k (fun K9 hK9 => ?_)
       refine wp_region_lit ?_
       refine q0 hf hM [17, 6, 0, 2, 3, 8, 9, 10] [{}, {}] (env' := [(17, eB false), (6, .val (.nilIface)), (0, eS av l.length c), (2, eS none 0 0), (3, .val (.nilIface)), (8, eS av l.length c), (9, eI (l.length : Int)), (10, eI i)]) (ob := []) An ?_
       clear hf; intro a hf
       refine wpList_nil ?_
       refine hK9 _ _ ?_
       refine sxcond hf (b := false) (by kernel_rfl) (fun h => by cases h) (fun _ => ?_)
       refine wp_skip ?_
       refine hK6 _ _ ?_
       refine wp_region_lit ?_
       refine q0 hf hM [10, 0, 2, 3, 8, 9] [{ hint := some (iV (i + 1)) }, {}] (env' := [(10, eI (i + 1)), (0, eS av l.length c), (2, eS none 0 0), (3, .val (.nilIface)), (8, eS av l.length c), (9, eI (l.length : Int))]) (ob := [(iV (IntKind.i64.wrap (i + 1)) : Value) = (iV (i + 1) : Value)]) (Ao (wr (by omega))) ?_
       clear hf; intro a hf
       refine wpList_nil ?_
       have hfb2 : firstBad (l.drop (i + 1).toNat) = firstBad l := by
         have h1 := firstBad_step (l := l) (i := i.toNat) (d := ⟨0, 0, 0⟩) (by omega)
         rw [vcheck_ok (v := l.getD i.toNat ⟨0, 0, 0⟩) ‹vkind _ = true› ‹vrange _ = true›, if_pos rfl, hfb] at h1
         rw [h1, show (i + 1).toNat = i.toNat + 1 by omega]
       have hf := hf.prune [0, 2, 3, 8, 9, 10]
       replace hf : Fr 29 [(0, eS av l.length c), (2, eS none 0 0), (3, .val (.nilIface)), (8, eS av l.length c), (9, eI (l.length : Int)), (10, eI (i + 1))] a := hf
       replace hM : MemOk [] w3 := hM.sub (.cons _ .slnil)
       refine hL1 _ _ _ (by omega) ⟨i + 1, rfl, hf.conv (Ac rfl (Ac rfl (Ac rfl (Ac rfl (Ac rfl (Ao rfl)))))), hM, hk0, (by omega), hfb2⟩
     · have hs2 := hs2r
       try simp only [Bool.or_eq_true, Bool.and_eq_true, Bool.not_eq_true', Bool.not_eq_false', Bool.or_eq_false_iff, Bool.and_eq_false_iff, decide_eq_true_eq, decide_eq_false_iff_not, beq_iff_eq, bne_iff_ne, beq_eq_false_iff_ne, bne_eq_false_iff_eq, Bool.and_true, Bool.true_and, ne_eq] at hs2
       refine sxcall hf rfl rfl rfl rfl (g := 31) (vs := [.agg #[iV (l.getD i.toNat ⟨0, 0, 0⟩).k, iV (l.getD i.toNat ⟨0, 0, 0⟩).a, iV (l.getD i.toNat ⟨0, 0, 0⟩).b]]) (ob := []) (by as_aux_lemma => kernel_rfl) An enters31 (scheck_range E (l.getD i.toNat ⟨0, 0, 0⟩).k (l.getD i.toNat ⟨0, 0, 0⟩).a (l.getD i.toNat ⟨0, 0, 0⟩).b w2 hs1r hs2r (hG.keep hk0 (fun _ h => h))) ?_
       clear hf; rintro _ w4 a ⟨rfl, hk⟩ hf
       have hM := hM.keepNn hk
       have hk0 := hk0.trans hk.nn
       clear hk
       refine q0 hf hM [6, 0, 2, 3, 8, 9, 10] [{}] (env' := [(6, .val (.iface 185 (.pointer (some (E 0))))), (0, eS av l.length c), (2, eS none 0 0), (3, .val (.nilIface)), (8, eS av l.length c), (9, eI (l.length : Int)), (10, eI i)]) (ob := []) An ?_
       clear hf; intro a hf
       refine wpList_nil ?_
       refine hK8 _ _ ?_
       refine wp_seq_k (fun K10 hK10 => ?_)
       refine wp_region_lit ?_
       refine q0 hf hM [17, 6, 0, 2, 3, 8, 9, 10] [{}, {}] (env' := [(17, eB true), (6, .val (.iface 185 (.pointer (some (E 0))))), (0, eS av l.length c), (2, eS none 0 0), (3, .val (.nilIface)), (8, eS av l.length c), (9, eI (l.length : Int)), (10, eI i)]) (ob := []) An ?_
       clear hf; intro a hf
       refine wpList_nil ?_
       refine hK10 _ _ ?_
       refine sxcond hf (b := true) (by kernel_rfl) (fun _ => ?_) (fun h => by cases h)
       refine wp_seq_k (fun K11 hK11 => ?_)
       refine wp_region_lit ?_
       refine q0 hf hM [3, 2] [{}, {}, {}] (env' := [(3, .val (.iface 185 (.pointer (some (E 0))))), (2, eS none 0 0)]) (ob := []) An ?_
       clear hf; intro a hf
       refine wpList_nil ?_
       refine hK11 _ _ ?_
       refine wp_ret ?_
       refine qr (fn := Tryd.f40) hf hM [] (l := [.slice none 0 0, .iface 185 (.pointer (some (E 0)))]) (ob := []) An ?_
       show (.tuple #[.slice none 0 0, .iface 185 (.pointer (some (E 0)))] : Value) = .tuple #[.slice none 0 0, .iface 185 (.pointer (some (E 0)))] ∧ Keep Nn w w4
       first | exact ⟨rfl, hk0⟩ | (exfalso; have h1 := firstBad_step (l := l) (i := i.toNat) (d := ⟨0, 0, 0⟩) (by omega); first | (rw [vcheck_kind ‹_›, if_neg (by decide)] at h1; omega) | (rw [vcheck_range ‹_› ‹_›, if_neg (by decide)] at h1; omega))
   · have hs1 := hs1r
     try simp only [Bool.or_eq_true, Bool.and_eq_true, Bool.not_eq_true', Bool.not_eq_false', Bool.or_eq_false_iff, Bool.and_eq_false_iff, decide_eq_true_eq, decide_eq_false_iff_not, beq_iff_eq, bne_iff_ne, beq_eq_false_iff_ne, bne_eq_false_iff_eq, Bool.and_true, Bool.true_and, ne_eq] at hs1
     refine sxcall hf rfl rfl rfl rfl (g := 31) (vs := [.agg #[iV (l.getD i.toNat ⟨0, 0, 0⟩).k, iV (l.getD i.toNat ⟨0, 0, 0⟩).a, iV (l.getD i.toNat ⟨0, 0, 0⟩).b]]) (ob := []) (by as_aux_lemma => kernel_rfl) An enters31 (scheck_kind E (l.getD i.toNat ⟨0, 0, 0⟩).k (l.getD i.toNat ⟨0, 0, 0⟩).a (l.getD i.toNat ⟨0, 0, 0⟩).b w2 hs1r (hG.keep hk0 (fun _ h => h))) ?_
     clear hf; rintro _ w5 a ⟨rfl, hk⟩ hf
     have hM := hM.keepNn hk
     have hk0 := hk0.trans hk.nn
     clear hk
     refine q0 hf hM [6, 0, 2, 3, 8, 9, 10] [{}] (env' := [(6, .val (.iface 185 (.pointer (some (E 4))))), (0, eS av l.length c), (2, eS none 0 0), (3, .val (.nilIface)), (8, eS av l.length c), (9, eI (l.length : Int)), (10, eI i)]) (ob := []) An ?_
     clear hf; intro a hf
     refine wpList_nil ?_
     refine hK8 _ _ ?_
     refine wp_seq_k (fun K12 hK12 => ?_)
     refine wp_region_lit ?_
     refine q0 hf hM [17, 6, 0, 2, 3, 8, 9, 10] [{}, {}] (env' := [(17, eB true), (6, .val (.iface 185 (.pointer (some (E 4))))), (0, eS av l.length c), (2, eS none 0 0), (3, .val (.nilIface)), (8, eS av l.length c), (9, eI (l.length : Int)), (10, eI i)]) (ob := []) An ?_
     clear hf; intro a hf
     refine wpList_nil ?_
     refine hK12 _ _ ?_
     refine sxcond hf (b := true) (by kernel_rfl) (fun _ => ?_) (fun h => by cases h)
     refine wp_seq_k (fun K13 hK13 => ?_)
     refine wp_region_lit ?_
     refine q0 hf hM [3, 2] [{}, {}, {}] (env' := [(3, .val (.iface 185 (.pointer (some (E 4))))), (2, eS none 0 0)]) (ob := []) An ?_
     clear hf; intro a hf
     refine wpList_nil ?_
     refine hK13 _ _ ?_
     refine wp_ret ?_
     refine qr (fn := Tryd.f40) hf hM [] (l := [.slice none 0 0, .iface 185 (.pointer (some (E 4)))]) (ob := []) An ?_
     show (.tuple #[.slice none 0 0, .iface 185 (.pointer (some (E 4)))] : Value) = .tuple #[.slice none 0 0, .iface 185 (.pointer (some (E 0)))] ∧ Keep Nn w w5
     first | exact ⟨rfl, hk0⟩ | (exfalso; have h1 := firstBad_step (l := l) (i := i.toNat) (d := ⟨0, 0, 0⟩) (by omega); first | (rw [vcheck_kind ‹_›, if_neg (by decide)] at h1; omega) | (rw [vcheck_range ‹_› ‹_›, if_neg (by decide)] at h1; omega))
 · have hc1 := (nU hc1r)
   exfalso; have h2 : l.drop i.toNat = [] := List.drop_eq_nil_of_le (by omega); rw [h2] at hfb; simp only [firstBad] at hfb; omega

set_option maxRecDepth 10000 in
set_option maxHeartbeats 1600000 in
theorem srow_ok (E : Nat → Addr) (av : Option Addr) (l : List V3) (c : Nat) (w : World) (hn0 : (firstBad l == 0) = true) (hn1 : (noDup l) = true) (hav : Arr w 3 av l.length c (flat fV l)) (hbav : l.length ≤ 1000000) (hG : Errs [0, 3, 4] w 185 E) :
    Calls Tryd.prog 40 #[.slice av l.length c] w (Ret fun v w' => ∃ a' c', v = .tuple #[.slice a' (byKinds l 10).length c', .nilIface] ∧ Keep Nn w w' ∧ World.ownsRow w' w.heap.size 62 3 (.slice a' (byKinds l 10).length c') (byKinds l 10).length (flat fV (byKinds l 10))) := by
 refine sxenter (n := 29) (args := [.slice av l.length c]) Tryd.func40 rfl rfl rfl fun a hf => ?_
 replace hf : Fr 29 [(0, eS av l.length c)] a := hf
 have hM : MemOk [] w := MemOk.nil w
 have hk0 : Keep Nn w w := Keep.refl _ _
 have hn : firstBad l = 0 := by simpa using hn0
 refine wp_seq_k (fun K1 hK1 => ?_)
 refine wp_region_lit ?_
 refine q0 hf hM [3, 2, 0] [{}, {}] (env' := [(3, .val (.nilIface)), (2, eS none 0 0), (0, eS av l.length c)]) (ob := []) An ?_
 clear hf; intro a hf
 refine wpList_nil ?_
 refine hK1 _ _ ?_
 refine wp_seq_k (fun K2 hK2 => ?_)
 refine wp_seq_k (fun K3 hK3 => ?_)
 refine wp_region_lit ?_
 refine q0 hf hM [10, 9, 8, 3, 2, 0] [{}, {}, {}] (env' := [(10, eI 0), (9, eI (l.length : Int)), (8, eS av l.length c), (3, .val (.nilIface)), (2, eS none 0 0), (0, eS av l.length c)]) (ob := []) An ?_
 clear hf; intro a hf
 refine wpList_nil ?_
 refine hK3 _ _ ?_
 refine wp_block ?_
 have hf := hf.prune [0, 2, 3, 8, 9, 10]
 replace hf : Fr 29 [(0, eS av l.length c), (2, eS none 0 0), (3, .val (.nilIface)), (8, eS av l.length c), (9, eI (l.length : Int)), (10, eI 0)] a := hf
 refine sxloop (fun zm a w1 => ∃ (i : Int), zm = ((l.length : Int) - i).toNat ∧ Fr 29 [(0, eS av l.length c), (2, eS none 0 0), (3, .val (.nilIface)), (8, eS av l.length c), (9, eI (l.length : Int)), (10, eI i)] a ∧ MemOk [] w1 ∧ Keep Nn w w1 ∧ (0 ≤ i ∧ i ≤ (l.length : Int)) ∧ (firstBad (l.drop i.toNat) = firstBad l)) _ ⟨0, rfl, hf.conv (Ac rfl (Ac rfl (Ac rfl (Ac rfl (Ac rfl (Ao rfl)))))), hM, hk0, (by omega), rfl⟩ ?_
 clear hf hM hk0
 rintro _ a w1 ⟨i, rfl, hf, hM, hk0, hi, hfb⟩ L1 hL1
 refine wp_seq_k (fun K4 hK4 => ?_)
 refine wp_region_lit ?_
 refine q0 hf hM [11, 0, 2, 3, 8, 9, 10] [{}] (env' := [(11, eB (decide ((i : Int) < (l.length : Int)))), (0, eS av l.length c), (2, eS none 0 0), (3, .val (.nilIface)), (8, eS av l.length c), (9, eI (l.length : Int)), (10, eI i)]) (ob := []) An ?_
 clear hf; intro a hf
 refine wpList_nil ?_
 refine hK4 _ _ ?_
 refine wp_seq_k (fun K5 hK5 => ?_)
 refine qc hf (b := (decide ((i : Int) < (l.length : Int)))) (fun hc1r => ?_) (fun hc1r => ?_)
 · have hc1 := (nT hc1r)
   refine wp_skip ?_
   refine hK5 _ _ ?_
   refine wp_seq_k (fun K6 hK6 => ?_)
   refine wp_block ?_
   refine wp_seq_k (fun K7 hK7 => ?_)
   refine wp_region_lit ?_
   refine q1 hf hM [5, 0, 2, 3, 8, 9, 10] [{ sp := true }, { os := [.ex (iV (l.getD i.toNat ⟨0, 0, 0⟩).k), .ex (iV (l.getD i.toNat ⟨0, 0, 0⟩).a), .ex (iV (l.getD i.toNat ⟨0, 0, 0⟩).b)] }, { os := [.nw] }, { os := [.st 0 0, .st 0 1, .st 0 2] }] (env' := fun B4 => [(5, eP B4 0), (0, eS av l.length c), (2, eS none 0 0), (3, .val (.nilIface)), (8, eS av l.length c), (9, eI (l.length : Int)), (10, eI i)]) (M' := fun B4 => [⟨B4, 62, [iV (l.getD i.toNat ⟨0, 0, 0⟩).k, iV (l.getD i.toNat ⟨0, 0, 0⟩).a, iV (l.getD i.toNat ⟨0, 0, 0⟩).b]⟩]) (ob := fun B4 => [(0 : Int) ≤ i ∧ i < (l.length : Int), (av : Option Addr).isSome = true, w1.cell? (((sa av : Addr).add (i.toNat * 3)).add 0) = some (iV (l.getD i.toNat ⟨0, 0, 0⟩).k), w1.cell? (((sa av : Addr).add (i.toNat * 3)).add 1) = some (iV (l.getD i.toNat ⟨0, 0, 0⟩).a), w1.cell? (((sa av : Addr).add (i.toNat * 3)).add 2) = some (iV (l.getD i.toNat ⟨0, 0, 0⟩).b), Ad B4 0, Ad B4 1, Ad B4 2]) (fun B4 => (Ac (by first | omega | (simp; done)) (Ac ((hav.keepNn hk0).some_ (by first | omega | (simp; done))) (Ac ((hav.keepNn hk0).get (fun _ => rfl) (by first | omega | (simp; done)) rfl) (Ac ((hav.keepNn hk0).get (fun _ => rfl) (by first | omega | (simp; done)) rfl) (Ac ((hav.keepNn hk0).get (fun _ => rfl) (by first | omega | (simp; done)) rfl) (Ac (ad _ _) (Ac (ad _ _) (Ao (ad _ _)))))))))) ?_
   clear hf hM; intro a w2 B4 hf hM hB hk
   have hbB4 : w.heap.size ≤ B4 := by have := hk0.size; omega
   have hk0 := hk0.then hk (by intro i _ h; cases h)
   clear hk hB
   refine wpList_nil ?_
   refine hK7 _ _ ?_
   refine wp_seq_k (fun K8 hK8 => ?_)
   refine wp_region_lit ?_
   refine q0 hf hM [14, 0, 2, 3, 8, 9, 10] [{ os := [.ld 0 0, .ld 0 1, .ld 0 2] }] (env' := [(14, .val (.agg #[iV (l.getD i.toNat ⟨0, 0, 0⟩).k, iV (l.getD i.toNat ⟨0, 0, 0⟩).a, iV (l.getD i.toNat ⟨0, 0, 0⟩).b])), (0, eS av l.length c), (2, eS none 0 0), (3, .val (.nilIface)), (8, eS av l.length c), (9, eI (l.length : Int)), (10, eI i)]) (ob := [Ad B4 0, Ad B4 1, Ad B4 2]) (Ac (ad _ _) (Ac (ad _ _) (Ao (ad _ _)))) ?_
   clear hf; intro a hf
   rcases Bool.eq_false_or_eq_true (vkind ⟨(l.getD i.toNat ⟨0, 0, 0⟩).k, (l.getD i.toNat ⟨0, 0, 0⟩).a, (l.getD i.toNat ⟨0, 0, 0⟩).b⟩) with hs1r | hs1r
   · have hs1 := hs1r
     try simp only [Bool.or_eq_true, Bool.and_eq_true, Bool.not_eq_true', Bool.not_eq_false', Bool.or_eq_false_iff, Bool.and_eq_false_iff, decide_eq_true_eq, decide_eq_false_iff_not, beq_iff_eq, bne_iff_ne, beq_eq_false_iff_ne, bne_eq_false_iff_eq, Bool.and_true, Bool.true_and, ne_eq] at hs1
     rcases Bool.eq_false_or_eq_true (vrange ⟨(l.getD i.toNat ⟨0, 0, 0⟩).k, (l.getD i.toNat ⟨0, 0, 0⟩).a, (l.getD i.toNat ⟨0, 0, 0⟩).b⟩) with hs2r | hs2r
     · have hs2 := hs2r
       try simp only [Bool.or_eq_true, Bool.and_eq_true, Bool.not_eq_true', Bool.not_eq_false', Bool.or_eq_false_iff, Bool.and_eq_false_iff, decide_eq_true_eq, decide_eq_false_iff_not, beq_iff_eq, bne_iff_ne, beq_eq_false_iff_ne, bne_eq_false_iff_eq, Bool.and_true, Bool.true_and, ne_eq] at hs2
       refine sxcall hf rfl rfl rfl rfl (g := 31) (vs := [.agg #[iV (l.getD i.toNat ⟨0, 0, 0⟩).k, iV (l.getD i.toNat ⟨0, 0, 0⟩).a, iV (l.getD i.toNat ⟨0, 0, 0⟩).b]]) (ob := []) (by as_aux_lemma => kernel_rfl) An enters31 (scheck_ok E (l.getD i.toNat ⟨0, 0, 0⟩).k (l.getD i.toNat ⟨0, 0, 0⟩).a (l.getD i.toNat ⟨0, 0, 0⟩).b w2 hs1r hs2r (hG.keep hk0 (fun _ h => h))) ?_
       clear hf; rintro _ w3 a ⟨rfl, hk⟩ hf
       have hM := hM.keepNn hk
       have hk0 := hk0.trans hk.nn
       clear hk
       refine q0 hf hM [6, 0, 2, 3, 8, 9, 10] [{}] (env' := [(6, .val (.nilIface)), (0, eS av l.length c), (2, eS none 0 0), (3, .val (.nilIface)), (8, eS av l.length c), (9, eI (l.length : Int)), (10, eI i)]) (ob := []) An ?_
       clear hf; intro a hf
       refine wpList_nil ?_
       refine hK8 _ _ ?_
       refine wp_seq_k (fun K9 hK9 => ?_)
       refine wp_region_lit ?_
       refine q0 hf hM [17, 6, 0, 2, 3, 8, 9, 10] [{}, {}] (env' := [(17, eB false), (6, .val (.nilIface)), (0, eS av l.length c), (2, eS none 0 0), (3, .val (.nilIface)), (8, eS av l.length c), (9, eI (l.length : Int)), (10, eI i)]) (ob := []) An ?_
       clear hf; intro a hf
       refine wpList_nil ?_
       refine hK9 _ _ ?_
       refine sxcond hf (b := false) (by kernel_rfl) (fun h => by cases h) (fun _ => ?_)
       refine wp_skip ?_
       refine hK6 _ _ ?_
       refine wp_region_lit ?_
       refine q0 hf hM [10, 0, 2, 3, 8, 9] [{ hint := some (iV (i + 1)) }, {}] (env' := [(10, eI (i + 1)), (0, eS av l.length c), (2, eS none 0 0), (3, .val (.nilIface)), (8, eS av l.length c), (9, eI (l.length : Int))]) (ob := [(iV (IntKind.i64.wrap (i + 1)) : Value) = (iV (i + 1) : Value)]) (Ao (wr (by omega))) ?_
       clear hf; intro a hf
       refine wpList_nil ?_
       have hfb2 : firstBad (l.drop (i + 1).toNat) = firstBad l := by
         have h1 := firstBad_step (l := l) (i := i.toNat) (d := ⟨0, 0, 0⟩) (by omega)
         rw [vcheck_ok (v := l.getD i.toNat ⟨0, 0, 0⟩) ‹vkind _ = true› ‹vrange _ = true›, if_pos rfl, hfb] at h1
         rw [h1, show (i + 1).toNat = i.toNat + 1 by omega]
       have hf := hf.prune [0, 2, 3, 8, 9, 10]
       replace hf : Fr 29 [(0, eS av l.length c), (2, eS none 0 0), (3, .val (.nilIface)), (8, eS av l.length c), (9, eI (l.length : Int)), (10, eI (i + 1))] a := hf
       replace hM : MemOk [] w3 := hM.sub (.cons _ .slnil)
       refine hL1 _ _ _ (by omega) ⟨i + 1, rfl, hf.conv (Ac rfl (Ac rfl (Ac rfl (Ac rfl (Ac rfl (Ao rfl)))))), hM, hk0, (by omega), hfb2⟩
     · have hs2 := hs2r
       try simp only [Bool.or_eq_true, Bool.and_eq_true, Bool.not_eq_true', Bool.not_eq_false', Bool.or_eq_false_iff, Bool.and_eq_false_iff, decide_eq_true_eq, decide_eq_false_iff_not, beq_iff_eq, bne_iff_ne, beq_eq_false_iff_ne, bne_eq_false_iff_eq, Bool.and_true, Bool.true_and, ne_eq] at hs2
       refine sxcall hf rfl rfl rfl rfl (g := 31) (vs := [.agg #[iV (l.getD i.toNat ⟨0, 0, 0⟩).k, iV (l.getD i.toNat ⟨0, 0, 0⟩).a, iV (l.getD i.toNat ⟨0, 0, 0⟩).b]]) (ob := []) (by as_aux_lemma => kernel_rfl) An enters31 (scheck_range E (l.getD i.toNat ⟨0, 0, 0⟩).k (l.getD i.toNat ⟨0, 0, 0⟩).a (l.getD i.toNat ⟨0, 0, 0⟩).b w2 hs1r hs2r (hG.keep hk0 (fun _ h => h))) ?_
       clear hf; rintro _ w4 a ⟨rfl, hk⟩ hf
       have hM := hM.keepNn hk
       have hk0 := hk0.trans hk.nn
       clear hk
       refine q0 hf hM [6, 0, 2, 3, 8, 9, 10] [{}] (env' := [(6, .val (.iface 185 (.pointer (some (E 0))))), (0, eS av l.length c), (2, eS none 0 0), (3, .val (.nilIface)), (8, eS av l.length c), (9, eI (l.length : Int)), (10, eI i)]) (ob := []) An ?_
       clear hf; intro a hf
       refine wpList_nil ?_
       refine hK8 _ _ ?_
       refine wp_seq_k (fun K10 hK10 => ?_)
       refine wp_region_lit ?_
       refine q0 hf hM [17, 6, 0, 2, 3, 8, 9, 10] [{}, {}] (env' := [(17, eB true), (6, .val (.iface 185 (.pointer (some (E 0))))), (0, eS av l.length c), (2, eS none 0 0), (3, .val (.nilIface)), (8, eS av l.length c), (9, eI (l.length : Int)), (10, eI i)]) (ob := []) An ?_
       clear hf; intro a hf
       refine wpList_nil ?_
       refine hK10 _ _ ?_
       refine sxcond hf (b := true) (by kernel_rfl) (fun _ => ?_) (fun h => by cases h)
       refine wp_seq_k (fun K11 hK11 => ?_)
       refine wp_region_lit ?_
       refine q0 hf hM [3, 2] [{}, {}, {}] (env' := [(3, .val (.iface 185 (.pointer (some (E 0))))), (2, eS none 0 0)]) (ob := []) An ?_
       clear hf; intro a hf
       refine wpList_nil ?_
       refine hK11 _ _ ?_
       refine wp_ret ?_
       refine qr (fn := Tryd.f40) hf hM [] (l := [.slice none 0 0, .iface 185 (.pointer (some (E 0)))]) (ob := []) An ?_
       show ∃ a' c', (.tuple #[.slice none 0 0, .iface 185 (.pointer (some (E 0)))] : Value) = .tuple #[.slice a' (byKinds l 10).length c', .nilIface] ∧ Keep Nn w w4 ∧ World.ownsRow w4 w.heap.size 62 3 (.slice a' (byKinds l 10).length c') (byKinds l 10).length (flat fV (byKinds l 10))
       exfalso; have h1 := firstBad_step (l := l) (i := i.toNat) (d := ⟨0, 0, 0⟩) (by omega); first | (rw [vcheck_kind ‹_›, if_neg (by decide)] at h1; omega) | (rw [vcheck_range ‹_› ‹_›, if_neg (by decide)] at h1; omega)
   · have hs1 := hs1r
     try simp only [Bool.or_eq_true, Bool.and_eq_true, Bool.not_eq_true', Bool.not_eq_false', Bool.or_eq_false_iff, Bool.and_eq_false_iff, decide_eq_true_eq, decide_eq_false_iff_not, beq_iff_eq, bne_iff_ne, beq_eq_false_iff_ne, bne_eq_false_iff_eq, Bool.and_true, Bool.true_and, ne_eq] at hs1
     refine sxcall hf rfl rfl rfl rfl (g := 31) (vs := [.agg #[iV (l.getD i.toNat ⟨0, 0, 0⟩).k, iV (l.getD i.toNat ⟨0, 0, 0⟩).a, iV (l.getD i.toNat ⟨0, 0, 0⟩).b]]) (ob := []) (by as_aux_lemma => kernel_rfl) An enters31 (scheck_kind E (l.getD i.toNat ⟨0, 0, 0⟩).k (l.getD i.toNat ⟨0, 0, 0⟩).a (l.getD i.toNat ⟨0, 0, 0⟩).b w2 hs1r (hG.keep hk0 (fun _ h => h))) ?_
     clear hf; rintro _ w5 a ⟨rfl, hk⟩ hf
     have hM := hM.keepNn hk
     have hk0 := hk0.trans hk.nn
     clear hk
     refine q0 hf hM [6, 0, 2, 3, 8, 9, 10] [{}] (env' := [(6, .val (.iface 185 (.pointer (some (E 4))))), (0, eS av l.length c), (2, eS none 0 0), (3, .val (.nilIface)), (8, eS av l.length c), (9, eI (l.length : Int)), (10, eI i)]) (ob := []) An ?_
     clear hf; intro a hf
     refine wpList_nil ?_
     refine hK8 _ _ ?_
     refine wp_seq_k (fun K12 hK12 => ?_)
     refine wp_region_lit ?_
     refine q0 hf hM [17, 6, 0, 2, 3, 8, 9, 10] [{}, {}] (env' := [(17, eB true), (6, .val (.iface 185 (.pointer (some (E 4))))), (0, eS av l.length c), (2, eS none 0 0), (3, .val (.nilIface)), (8, eS av l.length c), (9, eI (l.length : Int)), (10, eI i)]) (ob := []) An ?_
     clear hf; intro a hf
     refine wpList_nil ?_
     refine hK12 _ _ ?_
     refine sxcond hf (b := true) (by kernel_rfl) (fun _ => ?_) (fun h => by cases h)
     refine wp_seq_k (fun K13 hK13 => ?_)
     refine wp_region_lit ?_
     refine q0 hf hM [3, 2] [{}, {}, {}] (env' := [(3, .val (.iface 185 (.pointer (some (E 4))))), (2, eS none 0 0)]) (ob := []) An ?_
     clear hf; intro a hf
     refine wpList_nil ?_
     refine hK13 _ _ ?_
     refine wp_ret ?_
     refine qr (fn := Tryd.f40) hf hM [] (l := [.slice none 0 0, .iface 185 (.pointer (some (E 4)))]) (ob := []) An ?_
     show ∃ a' c', (.tuple #[.slice none 0 0, .iface 185 (.pointer (some (E 4)))] : Value) = .tuple #[.slice a' (byKinds l 10).length c', .nilIface] ∧ Keep Nn w w5 ∧ World.ownsRow w5 w.heap.size 62 3 (.slice a' (byKinds l 10).length c') (byKinds l 10).length (flat fV (byKinds l 10))
     exfalso; have h1 := firstBad_step (l := l) (i := i.toNat) (d := ⟨0, 0, 0⟩) (by omega); first | (rw [vcheck_kind ‹_›, if_neg (by decide)] at h1; omega) | (rw [vcheck_range ‹_› ‹_›, if_neg (by decide)] at h1; omega)
 · have hc1 := (nU hc1r)
   refine wp_exit ?_
   refine hK2 _ _ ?_
   refine wp_seq_k (fun K14 hK14 => ?_)
   refine wp_region_lit ?_
   refine q0 hf hM [20, 2, 3] [{}] (env' := [(20, eS av l.length c), (2, eS none 0 0), (3, .val (.nilIface))]) (ob := []) An ?_
   clear hf; intro a hf
   refine sxcall hf rfl rfl rfl rfl (g := 76) (vs := [.slice av l.length c]) (ob := []) (by as_aux_lemma => kernel_rfl) An enters76 (clone_val av l c w1  (hav.keepNn hk0) (by first | omega | (simp; omega) | (simp; done) | exact Nat.le_trans (byKinds_len _ _) (by omega) | decide)) ?_
   clear hf; rintro _ w6 a ⟨a'1, c'1, rfl, hk, hx1⟩ hf
   have hO : OwnOk w.heap.size [] [] w1 := OwnOk.nil hM
   have hO := hO.more hM hk (by have := hk0.size; omega) hx1
   replace hO : OwnOk w.heap.size [] [⟨62, 3, .slice a'1 l.length c'1, l.length, flat fV l⟩] _ := hO
   have hM := hM.keepNn hk
   have hk0 := hk0.trans hk.nn
   clear hk
   refine q0 hf hM [7, 2, 3] [{}] (env' := [(7, eS a'1 l.length c'1), (2, eS none 0 0), (3, .val (.nilIface))]) (ob := []) An ?_
   clear hf; intro a hf
   refine wpList_nil ?_
   refine hK14 _ _ ?_
   refine wp_seq_k (fun K15 hK15 => ?_)
   refine wp_region_lit ?_
   refine q0 hf hM [22, 7, 2, 3] [{}] (env' := [(22, eS a'1 l.length c'1), (7, eS a'1 l.length c'1), (2, eS none 0 0), (3, .val (.nilIface))]) (ob := []) An ?_
   clear hf; intro a hf
   replace hO : OwnOk w.heap.size [] [⟨62, 3, .slice a'1 l.length c'1, l.length, flat fV l⟩] w6 := OwnOk.front (l1 := []) (l2 := []) hO
   refine sxcall hf rfl rfl rfl rfl (g := 73) (vs := [.slice a'1 l.length c'1, .func (.func 74) #[] #[]]) (ob := []) (by as_aux_lemma => kernel_rfl) An enters73 (sort_val (hO.own _ (List.Mem.head _)) hbav) ?_
   clear hf; rintro _ w7 a ⟨rfl, ls1, hpm1, hsd1, hx, hk⟩ hf
   have hM := hO.memTurn hM hk; have hO := hO.turn hk hx; have hk0 := hk0.then hk (by intro i hi h; have := ((hO.own _ (List.Mem.head _)).lt i h).1; omega); clear hk hx
   have hlls1 : l.length = ls1.length := hpm1.length_eq.symm
   rw [hlls1] at hf hO
   have hf := hf.prune [23, 22, 7, 2, 3]
   replace hf : Fr 29 [(23, .val (.tuple #[])), (22, eS a'1 ls1.length c'1), (7, eS a'1 ls1.length c'1), (2, eS none 0 0), (3, .val (.nilIface))] a := hf
   replace hO : OwnOk w.heap.size [] [⟨62, 3, .slice a'1 ls1.length c'1, ls1.length, flat fV ls1⟩] w7 := hO
   refine wpList_nil ?_
   refine hK15 _ _ ?_
   refine wp_seq_k (fun K16 hK16 => ?_)
   refine wp_seq_k (fun K17 hK17 => ?_)
   refine wp_region_lit ?_
   refine q0 hf hM [24, 7, 2, 3] [{}] (env' := [(24, eS a'1 ls1.length c'1), (7, eS a'1 ls1.length c'1), (2, eS none 0 0), (3, .val (.nilIface))]) (ob := []) An ?_
   clear hf; intro a hf
   refine sxcall hf rfl rfl rfl rfl (g := 41) (vs := [.slice a'1 ls1.length c'1]) (ob := []) (by as_aux_lemma => kernel_rfl) An enters41 (sright E a'1 ls1 c'1 w7  (own_arr (hO.own _ (List.Mem.head _))) (by first | omega | (simp; omega) | (simp; done) | exact Nat.le_trans (byKinds_len _ _) (by omega) | decide) (hG.keep hk0 (fun _ h => h))) ?_
   clear hf; rintro _ w8 a ⟨rfl, hk⟩ hf
   have hO := hO.keepNn hk
   have hM := hM.keepNn hk
   have hk0 := hk0.trans hk.nn
   clear hk
   refine q0 hf hM [26, 7, 2, 3] [{}] (env' := [(26, eB (!(rightV ls1))), (7, eS a'1 ls1.length c'1), (2, eS none 0 0), (3, .val (.nilIface))]) (ob := []) An ?_
   clear hf; intro a hf
   refine wpList_nil ?_
   refine hK17 _ _ ?_
   refine qc hf (b := !(rightV ls1)) (fun hc5r => ?_) (fun hc5r => ?_)
   · have hc5 := hc5r
     try simp only [Bool.or_eq_true, Bool.and_eq_true, Bool.not_eq_true', Bool.not_eq_false', Bool.or_eq_false_iff, Bool.and_eq_false_iff, decide_eq_true_eq, decide_eq_false_iff_not, beq_iff_eq, bne_iff_ne, beq_eq_false_iff_ne, bne_eq_false_iff_eq, Bool.and_true, Bool.true_and, ne_eq] at hc5
     exfalso; rw [sorted_right hpm1 hsd1 hn, hn1] at hc5; simp at hc5
   · have hc5 := hc5r
     try simp only [Bool.or_eq_true, Bool.and_eq_true, Bool.not_eq_true', Bool.not_eq_false', Bool.or_eq_false_iff, Bool.and_eq_false_iff, decide_eq_true_eq, decide_eq_false_iff_not, beq_iff_eq, bne_iff_ne, beq_eq_false_iff_ne, bne_eq_false_iff_eq, Bool.and_true, Bool.true_and, ne_eq] at hc5
     refine wp_skip ?_
     refine hK16 _ _ ?_
     refine wp_seq_k (fun K18 hK18 => ?_)
     refine wp_region_lit ?_
     refine q0 hf hM [3, 2] [{}, {}, {}] (env' := [(3, .val (.nilIface)), (2, eS a'1 ls1.length c'1)]) (ob := []) An ?_
     clear hf; intro a hf
     refine wpList_nil ?_
     refine hK18 _ _ ?_
     refine wp_ret ?_
     refine qr (fn := Tryd.f40) hf hM [] (l := [.slice a'1 ls1.length c'1, .nilIface]) (ob := []) An ?_
     show ∃ a' c', (.tuple #[.slice a'1 ls1.length c'1, .nilIface] : Value) = .tuple #[.slice a' (byKinds l 10).length c', .nilIface] ∧ Keep Nn w w8 ∧ World.ownsRow w8 w.heap.size 62 3 (.slice a' (byKinds l 10).length c') (byKinds l 10).length (flat fV (byKinds l 10))
     first | (exfalso; have h1 := firstBad_step (l := l) (i := i.toNat) (d := ⟨0, 0, 0⟩) (by omega); first | (rw [vcheck_kind ‹_›, if_neg (by decide)] at h1; omega) | (rw [vcheck_range ‹_› ‹_›, if_neg (by decide)] at h1; omega)) | (have e := sorted_eq hpm1 hsd1 hn hn1; subst e; exact ⟨_, _, rfl, hk0, hO.own _ (List.Mem.head _)⟩)

set_option maxRecDepth 10000 in
set_option maxHeartbeats 1600000 in
theorem srow_dup (E : Nat → Addr) (av : Option Addr) (l : List V3) (c : Nat) (w : World) (hn0 : (firstBad l == 0) = true) (hn1 : (noDup l) = false) (hav : Arr w 3 av l.length c (flat fV l)) (hbav : l.length ≤ 1000000) (hG : Errs [0, 3, 4] w 185 E) :
    Calls Tryd.prog 40 #[.slice av l.length c] w (Ret fun v w' => v = .tuple #[.slice none 0 0, .iface 185 (.pointer (some (E 3)))] ∧ Keep Nn w w') := by
 refine sxenter (n := 29) (args := [.slice av l.length c]) Tryd.func40 rfl rfl rfl fun a hf => ?_
 replace hf : Fr 29 [(0, eS av l.length c)] a := hf
 have hM : MemOk [] w := MemOk.nil w
 have hk0 : Keep Nn w w := Keep.refl _ _
 have hn : firstBad l = 0 := by simpa using hn0
 refine wp_seq_k (fun K1 hK1 => ?_)
 refine wp_region_lit ?_
 refine q0 hf hM [3, 2, 0] [{}, {}] (env' := [(3, .val (.nilIface)), (2, eS none 0 0), (0, eS av l.length c)]) (ob := []) An ?_
 clear hf; intro a hf
 refine wpList_nil ?_
 refine hK1 _ _ ?_
 refine wp_seq_k (fun K2 hK2 => ?_)
 refine wp_seq_k (fun K3 hK3 => ?_)
 refine wp_region_lit ?_
 refine q0 hf hM [10, 9, 8, 3, 2, 0] [{}, {}, {}] (env' := [(10, eI 0), (9, eI (l.length : Int)), (8, eS av l.length c), (3, .val (.nilIface)), (2, eS none 0 0), (0, eS av l.length c)]) (ob := []) An ?_
 clear hf; intro a hf
 refine wpList_nil ?_
 refine hK3 _ _ ?_
 refine wp_block ?_
 have hf := hf.prune [0, 2, 3, 8, 9, 10]
 replace hf : Fr 29 [(0, eS av l.length c), (2, eS none 0 0), (3, .val (.nilIface)), (8, eS av l.length c), (9, eI (l.length : Int)), (10, eI 0)] a := hf
 refine sxloop (fun zm a w1 => ∃ (i : Int), zm = ((l.length : Int) - i).toNat ∧ Fr 29 [(0, eS av l.length c), (2, eS none 0 0), (3, .val (.nilIface)), (8, eS av l.length c), (9, eI (l.length : Int)), (10, eI i)] a ∧ MemOk [] w1 ∧ Keep Nn w w1 ∧ (0 ≤ i ∧ i ≤ (l.length : Int)) ∧ (firstBad (l.drop i.toNat) = firstBad l)) _ ⟨0, rfl, hf.conv (Ac rfl (Ac rfl (Ac rfl (Ac rfl (Ac rfl (Ao rfl)))))), hM, hk0, (by omega), rfl⟩ ?_
 clear hf hM hk0
 rintro _ a w1 ⟨i, rfl, hf, hM, hk0, hi, hfb⟩ L1 hL1
 refine wp_seq_k (fun K4 hK4 => ?_)
 refine wp_region_lit ?_
 refine q0 hf hM [11, 0, 2, 3, 8, 9, 10] [{}] (env' := [(11, eB (decide ((i : Int) < (l.length : Int)))), (0, eS av l.length c), (2, eS none 0 0), (3, .val (.nilIface)), (8, eS av l.length c), (9, eI (l.length : Int)), (10, eI i)]) (ob := []) An ?_
 clear hf; intro a hf
 refine wpList_nil ?_
 refine hK4 _ _ ?_
 refine wp_seq_k (fun K5 hK5 => ?_)
 refine qc hf (b := (decide ((i : Int) < (l.length : Int)))) (fun hc1r => ?_) (fun hc1r => ?_)
 · have hc1 := (nT hc1r)
   refine wp_skip ?_
   refine hK5 _ _ ?_
   refine wp_seq_k (fun K6 hK6 => ?_)
   refine wp_block ?_
   refine wp_seq_k (fun K7 hK7 => ?_)
   refine wp_region_lit ?_
   refine q1 hf hM [5, 0, 2, 3, 8, 9, 10] [{ sp := true }, { os := [.ex (iV (l.getD i.toNat ⟨0, 0, 0⟩).k), .ex (iV (l.getD i.toNat ⟨0, 0, 0⟩).a), .ex (iV (l.getD i.toNat ⟨0, 0, 0⟩).b)] }, { os := [.nw] }, { os := [.st 0 0, .st 0 1, .st 0 2] }] (env' := fun B4 => [(5, eP B4 0), (0, eS av l.length c), (2, eS none 0 0), (3, .val (.nilIface)), (8, eS av l.length c), (9, eI (l.length : Int)), (10, eI i)]) (M' := fun B4 => [⟨B4, 62, [iV (l.getD i.toNat ⟨0, 0, 0⟩).k, iV (l.getD i.toNat ⟨0, 0, 0⟩).a, iV (l.getD i.toNat ⟨0, 0, 0⟩).b]⟩]) (ob := fun B4 => [(0 : Int) ≤ i ∧ i < (l.length : Int), (av : Option Addr).isSome = true, w1.cell? (((sa av : Addr).add (i.toNat * 3)).add 0) = some (iV (l.getD i.toNat ⟨0, 0, 0⟩).k), w1.cell? (((sa av : Addr).add (i.toNat * 3)).add 1) = some (iV (l.getD i.toNat ⟨0, 0, 0⟩).a), w1.cell? (((sa av : Addr).add (i.toNat * 3)).add 2) = some (iV (l.getD i.toNat ⟨0, 0, 0⟩).b), Ad B4 0, Ad B4 1, Ad B4 2]) (fun B4 => (Ac (by first | omega | (simp; done)) (Ac ((hav.keepNn hk0).some_ (by first | omega | (simp; done))) (Ac ((hav.keepNn hk0).get (fun _ => rfl) (by first | omega | (simp; done)) rfl) (Ac ((hav.keepNn hk0).get (fun _ => rfl) (by first | omega | (simp; done)) rfl) (Ac ((hav.keepNn hk0).get (fun _ => rfl) (by first | omega | (simp; done)) rfl) (Ac (ad _ _) (Ac (ad _ _) (Ao (ad _ _)))))))))) ?_
   clear hf hM; intro a w2 B4 hf hM hB hk
   have hbB4 : w.heap.size ≤ B4 := by have := hk0.size; omega
   have hk0 := hk0.then hk (by intro i _ h; cases h)
   clear hk hB
   refine wpList_nil ?_
   refine hK7 _ _ ?_
   refine wp_seq_k (fun K8 hK8 => ?_)
   refine wp_region_lit ?_
   refine q0 hf hM [14, 0, 2, 3, 8, 9, 10] [{ os := [.ld 0 0, .ld 0 1, .ld 0 2] }] (env' := [(14, .val (.agg #[iV (l.getD i.toNat ⟨0, 0, 0⟩).k, iV (l.getD i.toNat ⟨0, 0, 0⟩).a, iV (l.getD i.toNat ⟨0, 0, 0⟩).b])), (0, eS av l.length c), (2, eS none 0 0), (3, .val (.nilIface)), (8, eS av l.length c), (9, eI (l.length : Int)), (10, eI i)]) (ob := [Ad B4 0, Ad B4 1, Ad B4 2]) (Ac (ad _ _) (Ac (ad _ _) (Ao (ad _ _)))) ?_
   clear hf; intro a hf
   rcases Bool.eq_false_or_eq_true (vkind ⟨(l.getD i.toNat ⟨0, 0, 0⟩).k, (l.getD i.toNat ⟨0, 0, 0⟩).a, (l.getD i.toNat ⟨0, 0, 0⟩).b⟩) with hs1r | hs1r
   · have hs1 := hs1r
     try simp only [Bool.or_eq_true, Bool.and_eq_true, Bool.not_eq_true', Bool.not_eq_false', Bool.or_eq_false_iff, Bool.and_eq_false_iff, decide_eq_true_eq, decide_eq_false_iff_not, beq_iff_eq, bne_iff_ne, beq_eq_false_iff_ne, bne_eq_false_iff_eq, Bool.and_true, Bool.true_and, ne_eq] at hs1
     rcases Bool.eq_false_or_eq_true (vrange ⟨(l.getD i.toNat ⟨0, 0, 0⟩).k, (l.getD i.toNat ⟨0, 0, 0⟩).a, (l.getD i.toNat ⟨0, 0, 0⟩).b⟩) with hs2r | hs2r
     · have hs2 := hs2r
       try simp only [Bool.or_eq_true, Bool.and_eq_true, Bool.not_eq_true', Bool.not_eq_false', Bool.or_eq_false_iff, Bool.and_eq_false_iff, decide_eq_true_eq, decide_eq_false_iff_not, beq_iff_eq, bne_iff_ne, beq_eq_false_iff_ne, bne_eq_false_iff_eq, Bool.and_true, Bool.true_and, ne_eq] at hs2
       refine sxcall hf rfl rfl rfl rfl (g := 31) (vs := [.agg #[iV (l.getD i.toNat ⟨0, 0, 0⟩).k, iV (l.getD i.toNat ⟨0, 0, 0⟩).a, iV (l.getD i.toNat ⟨0, 0, 0⟩).b]]) (ob := []) (by as_aux_lemma => kernel_rfl) An enters31 (scheck_ok E (l.getD i.toNat ⟨0, 0, 0⟩).k (l.getD i.toNat ⟨0, 0, 0⟩).a (l.getD i.toNat ⟨0, 0, 0⟩).b w2 hs1r hs2r (hG.keep hk0 (fun _ h => h))) ?_
       clear hf; rintro _ w3 a ⟨rfl, hk⟩ hf
       have hM := hM.keepNn hk
       have hk0 := hk0.trans hk.nn
       clear hk
       refine q0 hf hM [6, 0, 2, 3, 8, 9, 10] [{}] (env' := [(6, .val (.nilIface)), (0, eS av l.length c), (2, eS none 0 0), (3, .val (.nilIface)), (8, eS av l.length c), (9, eI (l.length : Int)), (10, eI i)]) (ob := []) An ?_
       clear hf; intro a hf
       refine wpList_nil ?_
       refine hK8 _ _ ?_
       refine wp_seq_k (fun K9 hK9 => ?_)
       refine wp_region_lit ?_
       refine q0 hf hM [17, 6, 0, 2, 3, 8, 9, 10] [{}, {}] (env' := [(17, eB false), (6, .val (.nilIface)), (0, eS av l.length c), (2, eS none 0 0), (3, .val (.nilIface)), (8, eS av l.length c), (9, eI (l.length : Int)), (10, eI i)]) (ob := []) An ?_
       clear hf; intro a hf
       refine wpList_nil ?_
       refine hK9 _ _ ?_
       refine sxcond hf (b := false) (by kernel_rfl) (fun h => by cases h) (fun _ => ?_)
       refine wp_skip ?_
       refine hK6 _ _ ?_
       refine wp_region_lit ?_
       refine q0 hf hM [10, 0, 2, 3, 8, 9] [{ hint := some (iV (i + 1)) }, {}] (env' := [(10, eI (i + 1)), (0, eS av l.length c), (2, eS none 0 0), (3, .val (.nilIface)), (8, eS av l.length c), (9, eI (l.length : Int))]) (ob := [(iV (IntKind.i64.wrap (i + 1)) : Value) = (iV (i + 1) : Value)]) (Ao (wr (by omega))) ?_
       clear hf; intro a hf
       refine wpList_nil ?_
       have hfb2 : firstBad (l.drop (i + 1).toNat) = firstBad l := by
         have h1 := firstBad_step (l := l) (i := i.toNat) (d := ⟨0, 0, 0⟩) (by omega)
         rw [vcheck_ok (v := l.getD i.toNat ⟨0, 0, 0⟩) ‹vkind _ = true› ‹vrange _ = true›, if_pos rfl, hfb] at h1
         rw [h1, show (i + 1).toNat = i.toNat + 1 by omega]
       have hf := hf.prune [0, 2, 3, 8, 9, 10]
       replace hf : Fr 29 [(0, eS av l.length c), (2, eS none 0 0), (3, .val (.nilIface)), (8, eS av l.length c), (9, eI (l.length : Int)), (10, eI (i + 1))] a := hf
       replace hM : MemOk [] w3 := hM.sub (.cons _ .slnil)
       refine hL1 _ _ _ (by omega) ⟨i + 1, rfl, hf.conv (Ac rfl (Ac rfl (Ac rfl (Ac rfl (Ac rfl (Ao rfl)))))), hM, hk0, (by omega), hfb2⟩
     · have hs2 := hs2r
       try simp only [Bool.or_eq_true, Bool.and_eq_true, Bool.not_eq_true', Bool.not_eq_false', Bool.or_eq_false_iff, Bool.and_eq_false_iff, decide_eq_true_eq, decide_eq_false_iff_not, beq_iff_eq, bne_iff_ne, beq_eq_false_iff_ne, bne_eq_false_iff_eq, Bool.and_true, Bool.true_and, ne_eq] at hs2
       refine sxcall hf rfl rfl rfl rfl (g := 31) (vs := [.agg #[iV (l.getD i.toNat ⟨0, 0, 0⟩).k, iV (l.getD i.toNat ⟨0, 0, 0⟩).a, iV (l.getD i.toNat ⟨0, 0, 0⟩).b]]) (ob := []) (by as_aux_lemma => kernel_rfl) An enters31 (scheck_range E (l.getD i.toNat ⟨0, 0, 0⟩).k (l.getD i.toNat ⟨0, 0, 0⟩).a (l.getD i.toNat ⟨0, 0, 0⟩).b w2 hs1r hs2r (hG.keep hk0 (fun _ h => h))) ?_
       clear hf; rintro _ w4 a ⟨rfl, hk⟩ hf
       have hM := hM.keepNn hk
       have hk0 := hk0.trans hk.nn
       clear hk
       refine q0 hf hM [6, 0, 2, 3, 8, 9, 10] [{}] (env' := [(6, .val (.iface 185 (.pointer (some (E 0))))), (0, eS av l.length c), (2, eS none 0 0), (3, .val (.nilIface)), (8, eS av l.length c), (9, eI (l.length : Int)), (10, eI i)]) (ob := []) An ?_
       clear hf; intro a hf
       refine wpList_nil ?_
       refine hK8 _ _ ?_
       refine wp_seq_k (fun K10 hK10 => ?_)
       refine wp_region_lit ?_
       refine q0 hf hM [17, 6, 0, 2, 3, 8, 9, 10] [{}, {}] (env' := [(17, eB true), (6, .val (.iface 185 (.pointer (some (E 0))))), (0, eS av l.length c), (2, eS none 0 0), (3, .val (.nilIface)), (8, eS av l.length c), (9, eI (l.length : Int)), (10, eI i)]) (ob := []) An ?_
       clear hf; intro a hf
       refine wpList_nil ?_
       refine hK10 _ _ ?_
       refine sxcond hf (b := true) (by kernel_rfl) (fun _ => ?_) (fun h => by cases h)
       refine wp_seq_k (fun K11 hK11 => ?_)
       refine wp_region_lit ?_
       refine q0 hf hM [3, 2] [{}, {}, {}] (env' := [(3, .val (.iface 185 (.pointer (some (E 0))))), (2, eS none 0 0)]) (ob := []) An ?_
       clear hf; intro a hf
       refine wpList_nil ?_
       refine hK11 _ _ ?_
       refine wp_ret ?_
       refine qr (fn := Tryd.f40) hf hM [] (l := [.slice none 0 0, .iface 185 (.pointer (some (E 0)))]) (ob := []) An ?_
       show (.tuple #[.slice none 0 0, .iface 185 (.pointer (some (E 0)))] : Value) = .tuple #[.slice none 0 0, .iface 185 (.pointer (some (E 3)))] ∧ Keep Nn w w4
       first | exact ⟨rfl, hk0⟩ | (exfalso; have h1 := firstBad_step (l := l) (i := i.toNat) (d := ⟨0, 0, 0⟩) (by omega); first | (rw [vcheck_kind ‹_›, if_neg (by decide)] at h1; omega) | (rw [vcheck_range ‹_› ‹_›, if_neg (by decide)] at h1; omega))
   · have hs1 := hs1r
     try simp only [Bool.or_eq_true, Bool.and_eq_true, Bool.not_eq_true', Bool.not_eq_false', Bool.or_eq_false_iff, Bool.and_eq_false_iff, decide_eq_true_eq, decide_eq_false_iff_not, beq_iff_eq, bne_iff_ne, beq_eq_false_iff_ne, bne_eq_false_iff_eq, Bool.and_true, Bool.true_and, ne_eq] at hs1
     refine sxcall hf rfl rfl rfl rfl (g := 31) (vs := [.agg #[iV (l.getD i.toNat ⟨0, 0, 0⟩).k, iV (l.getD i.toNat ⟨0, 0, 0⟩).a, iV (l.getD i.toNat ⟨0, 0, 0⟩).b]]) (ob := []) (by as_aux_lemma => kernel_rfl) An enters31 (scheck_kind E (l.getD i.toNat ⟨0, 0, 0⟩).k (l.getD i.toNat ⟨0, 0, 0⟩).a (l.getD i.toNat ⟨0, 0, 0⟩).b w2 hs1r (hG.keep hk0 (fun _ h => h))) ?_
     clear hf; rintro _ w5 a ⟨rfl, hk⟩ hf
     have hM := hM.keepNn hk
     have hk0 := hk0.trans hk.nn
     clear hk
     refine q0 hf hM [6, 0, 2, 3, 8, 9, 10] [{}] (env' := [(6, .val (.iface 185 (.pointer (some (E 4))))), (0, eS av l.length c), (2, eS none 0 0), (3, .val (.nilIface)), (8, eS av l.length c), (9, eI (l.length : Int)), (10, eI i)]) (ob := []) An ?_
     clear hf; intro a hf
     refine wpList_nil ?_
     refine hK8 _ _ ?_
     refine wp_seq_k (fun K12 hK12 => ?_)
     refine wp_region_lit ?_
     refine q0 hf hM [17, 6, 0, 2, 3, 8, 9, 10] [{}, {}] (env' := [(17, eB true), (6, .val (.iface 185 (.pointer (some (E 4))))), (0, eS av l.length c), (2, eS none 0 0), (3, .val (.nilIface)), (8, eS av l.length c), (9, eI (l.length : Int)), (10, eI i)]) (ob := []) An ?_
     clear hf; intro a hf
     refine wpList_nil ?_
     refine hK12 _ _ ?_
     refine sxcond hf (b := true) (by kernel_rfl) (fun _ => ?_) (fun h => by cases h)
     refine wp_seq_k (fun K13 hK13 => ?_)
     refine wp_region_lit ?_
     refine q0 hf hM [3, 2] [{}, {}, {}] (env' := [(3, .val (.iface 185 (.pointer (some (E 4))))), (2, eS none 0 0)]) (ob := []) An ?_
     clear hf; intro a hf
     refine wpList_nil ?_
     refine hK13 _ _ ?_
     refine wp_ret ?_
     refine qr (fn := Tryd.f40) hf hM [] (l := [.slice none 0 0, .iface 185 (.pointer (some (E 4)))]) (ob := []) An ?_
     show (.tuple #[.slice none 0 0, .iface 185 (.pointer (some (E 4)))] : Value) = .tuple #[.slice none 0 0, .iface 185 (.pointer (some (E 3)))] ∧ Keep Nn w w5
     first | exact ⟨rfl, hk0⟩ | (exfalso; have h1 := firstBad_step (l := l) (i := i.toNat) (d := ⟨0, 0, 0⟩) (by omega); first | (rw [vcheck_kind ‹_›, if_neg (by decide)] at h1; omega) | (rw [vcheck_range ‹_› ‹_›, if_neg (by decide)] at h1; omega))
 · have hc1 := (nU hc1r)
   refine wp_exit ?_
   refine hK2 _ _ ?_
   refine wp_seq_k (fun K14 hK14 => ?_)
   refine wp_region_lit ?_
   refine q0 hf hM [20, 2, 3] [{}] (env' := [(20, eS av l.length c), (2, eS none 0 0), (3, .val (.nilIface))]) (ob := []) An ?_
   clear hf; intro a hf
   refine sxcall hf rfl rfl rfl rfl (g := 76) (vs := [.slice av l.length c]) (ob := []) (by as_aux_lemma => kernel_rfl) An enters76 (clone_val av l c w1  (hav.keepNn hk0) (by first | omega | (simp; omega) | (simp; done) | exact Nat.le_trans (byKinds_len _ _) (by omega) | decide)) ?_
   clear hf; rintro _ w6 a ⟨a'1, c'1, rfl, hk, hx1⟩ hf
   have hO : OwnOk w.heap.size [] [] w1 := OwnOk.nil hM
   have hO := hO.more hM hk (by have := hk0.size; omega) hx1
   replace hO : OwnOk w.heap.size [] [⟨62, 3, .slice a'1 l.length c'1, l.length, flat fV l⟩] _ := hO
   have hM := hM.keepNn hk
   have hk0 := hk0.trans hk.nn
   clear hk
   refine q0 hf hM [7, 2, 3] [{}] (env' := [(7, eS a'1 l.length c'1), (2, eS none 0 0), (3, .val (.nilIface))]) (ob := []) An ?_
   clear hf; intro a hf
   refine wpList_nil ?_
   refine hK14 _ _ ?_
   refine wp_seq_k (fun K15 hK15 => ?_)
   refine wp_region_lit ?_
   refine q0 hf hM [22, 7, 2, 3] [{}] (env' := [(22, eS a'1 l.length c'1), (7, eS a'1 l.length c'1), (2, eS none 0 0), (3, .val (.nilIface))]) (ob := []) An ?_
   clear hf; intro a hf
   replace hO : OwnOk w.heap.size [] [⟨62, 3, .slice a'1 l.length c'1, l.length, flat fV l⟩] w6 := OwnOk.front (l1 := []) (l2 := []) hO
   refine sxcall hf rfl rfl rfl rfl (g := 73) (vs := [.slice a'1 l.length c'1, .func (.func 74) #[] #[]]) (ob := []) (by as_aux_lemma => kernel_rfl) An enters73 (sort_val (hO.own _ (List.Mem.head _)) hbav) ?_
   clear hf; rintro _ w7 a ⟨rfl, ls1, hpm1, hsd1, hx, hk⟩ hf
   have hM := hO.memTurn hM hk; have hO := hO.turn hk hx; have hk0 := hk0.then hk (by intro i hi h; have := ((hO.own _ (List.Mem.head _)).lt i h).1; omega); clear hk hx
   have hlls1 : l.length = ls1.length := hpm1.length_eq.symm
   rw [hlls1] at hf hO
   have hf := hf.prune [23, 22, 7, 2, 3]
   replace hf : Fr 29 [(23, .val (.tuple #[])), (22, eS a'1 ls1.length c'1), (7, eS a'1 ls1.length c'1), (2, eS none 0 0), (3, .val (.nilIface))] a := hf
   replace hO : OwnOk w.heap.size [] [⟨62, 3, .slice a'1 ls1.length c'1, ls1.length, flat fV ls1⟩] w7 := hO
   refine wpList_nil ?_
   refine hK15 _ _ ?_
   refine wp_seq_k (fun K16 hK16 => ?_)
   refine wp_seq_k (fun K17 hK17 => ?_)
   refine wp_region_lit ?_
   refine q0 hf hM [24, 7, 2, 3] [{}] (env' := [(24, eS a'1 ls1.length c'1), (7, eS a'1 ls1.length c'1), (2, eS none 0 0), (3, .val (.nilIface))]) (ob := []) An ?_
   clear hf; intro a hf
   refine sxcall hf rfl rfl rfl rfl (g := 41) (vs := [.slice a'1 ls1.length c'1]) (ob := []) (by as_aux_lemma => kernel_rfl) An enters41 (sright E a'1 ls1 c'1 w7  (own_arr (hO.own _ (List.Mem.head _))) (by first | omega | (simp; omega) | (simp; done) | exact Nat.le_trans (byKinds_len _ _) (by omega) | decide) (hG.keep hk0 (fun _ h => h))) ?_
   clear hf; rintro _ w8 a ⟨rfl, hk⟩ hf
   have hO := hO.keepNn hk
   have hM := hM.keepNn hk
   have hk0 := hk0.trans hk.nn
   clear hk
   refine q0 hf hM [26, 7, 2, 3] [{}] (env' := [(26, eB (!(rightV ls1))), (7, eS a'1 ls1.length c'1), (2, eS none 0 0), (3, .val (.nilIface))]) (ob := []) An ?_
   clear hf; intro a hf
   refine wpList_nil ?_
   refine hK17 _ _ ?_
   refine qc hf (b := !(rightV ls1)) (fun hc5r => ?_) (fun hc5r => ?_)
   · have hc5 := hc5r
     try simp only [Bool.or_eq_true, Bool.and_eq_true, Bool.not_eq_true', Bool.not_eq_false', Bool.or_eq_false_iff, Bool.and_eq_false_iff, decide_eq_true_eq, decide_eq_false_iff_not, beq_iff_eq, bne_iff_ne, beq_eq_false_iff_ne, bne_eq_false_iff_eq, Bool.and_true, Bool.true_and, ne_eq] at hc5
     refine wp_seq_k (fun K18 hK18 => ?_)
     replace hM := hM.drew; replace hk0 := hk0.drew; replace hO := hO.drew
     obtain ⟨C1, hC1d⟩ : ∃ C : World → Prop, C = fun w' => MemOk [] w' ∧ Keep Nn w w' ∧ OwnOk w.heap.size [] [⟨62, 3, .slice a'1 ls1.length c'1, ls1.length, flat fV ls1⟩] w' := ⟨_, rfl⟩
     have hC1i : ∀ w', (MemOk [] w' ∧ Keep Nn w w' ∧ OwnOk w.heap.size [] [⟨62, 3, .slice a'1 ls1.length c'1, ls1.length, flat fV ls1⟩] w') → C1 w' := fun w' h => by rw [hC1d]; exact h
     have hC1e : ∀ w', C1 w' → (MemOk [] w' ∧ Keep Nn w w' ∧ OwnOk w.heap.size [] [⟨62, 3, .slice a'1 ls1.length c'1, ls1.length, flat fV ls1⟩] w') := fun w' h => by rw [hC1d] at h; exact h
     refine sxdraw (C := C1) (.leaf [(0, true), (1, true), (2, true)]) (by kernel_rfl) (by kernel_rfl) (by as_aux_lemma => kernel_rfl) rfl (by as_aux_lemma => kernel_rfl) (by kernel_rfl) (hC1i _ ⟨hM.sub (.slnil), hk0, hO.sub (.slnil) (.cons_cons _ .slnil)⟩) ?_
     refine sxleaf ?_
     have hC := (hC1i _ ⟨hM.sub (.slnil), hk0, hO.sub (.slnil) (.cons_cons _ .slnil)⟩)
     refine qd hf hC (fun w' h => (hC1e w' h).1) [3, 2] [{ os := [.ex (.iface 185 (.pointer (some (E 3))))] }, {}, {}] (env' := [(3, .val (.iface 185 (.pointer (some (E 3))))), (2, eS none 0 0)]) (ob := [(∀ w', C1 w' → w'.cell? ⟨3, 0, none⟩ = some (.iface 185 (.pointer (some (E 3)))))]) (Ao (fun w' hc => by obtain ⟨hM, hk0, hO⟩ := hC1e w' hc; exact (hk0.cell (hG.cell 3 (by decide)) (fun h => h)))) ?_
     clear hf; intro a hf
     clear hC
     show K18 _ _
     refine hK18 _ _ ?_
     refine wp_ret ?_
     refine qr (fn := Tryd.f40) hf hM [] (l := [.slice none 0 0, .iface 185 (.pointer (some (E 3)))]) (ob := []) An ?_
     show (.tuple #[.slice none 0 0, .iface 185 (.pointer (some (E 3)))] : Value) = .tuple #[.slice none 0 0, .iface 185 (.pointer (some (E 3)))] ∧ Keep Nn w w8.drew
     first | exact ⟨rfl, hk0⟩ | (exfalso; have h1 := firstBad_step (l := l) (i := i.toNat) (d := ⟨0, 0, 0⟩) (by omega); first | (rw [vcheck_kind ‹_›, if_neg (by decide)] at h1; omega) | (rw [vcheck_range ‹_› ‹_›, if_neg (by decide)] at h1; omega))
   · have hc5 := hc5r
     try simp only [Bool.or_eq_true, Bool.and_eq_true, Bool.not_eq_true', Bool.not_eq_false', Bool.or_eq_false_iff, Bool.and_eq_false_iff, decide_eq_true_eq, decide_eq_false_iff_not, beq_iff_eq, bne_iff_ne, beq_eq_false_iff_ne, bne_eq_false_iff_eq, Bool.and_true, Bool.true_and, ne_eq] at hc5
     exfalso; rw [sorted_right hpm1 hsd1 hn, hn1] at hc5; simp at hc5
end Go.Proofs.YtifcgjnknikjkaaDoor
