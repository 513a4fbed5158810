/- layer 6: the document's rows -/
import Derived.Test.YtifcgjnknikjkaaDoorBC5
import Derived.Test.YtifcgjnknikjkaaDoorXp6d
namespace Go.Proofs.YtifcgjnknikjkaaDoor
open Go.Px
set_option linter.unusedVariables false
set_option linter.unusedSimpArgs false

set_option maxRecDepth 10000 in
set_option maxHeartbeats 1600000 in
theorem rrow_bad (av : Option Addr) (l : List V3) (c : Nat) (w : World) (hn0 : (firstBad l == 0) = false) (hav : Arr w 3 av l.length c (flat fV l)) (hbav : l.length ≤ 1000000) :
    Calls Tryd.prog 33 #[.slice av l.length c] w (Ret fun v w' => v = .tuple #[.slice none 0 0, .int .i64 (firstBad l)] ∧ Keep Nn w w') := by
 refine sxenter (n := 49) (args := [.slice av l.length c]) Tryd.func33 rfl rfl rfl fun a hf => ?_
 replace hf : Fr 49 [(0, eS av l.length c)] a := hf
 have hM : MemOk [] w := MemOk.nil w
 have hk0 : Keep Nn w w := Keep.refl _ _
 have hn : ¬ firstBad l = 0 := by simpa using hn0
 refine wp_seq_k (fun K1 hK1 => ?_)
 refine wp_region_lit ?_
 refine q0 hf hM [0] [{}, {}] (env' := [(0, eS av l.length c)]) (ob := []) An ?_
 clear hf; intro a hf
 refine wpList_nil ?_
 refine hK1 _ _ ?_
 refine wp_seq_k (fun K2 hK2 => ?_)
 refine wp_seq_k (fun K3 hK3 => ?_)
 refine wp_region_lit ?_
 refine q0 hf hM [14, 13, 12, 0] [{}, {}, {}] (env' := [(14, eI 0), (13, eI (l.length : Int)), (12, eS av l.length c), (0, eS av l.length c)]) (ob := []) An ?_
 clear hf; intro a hf
 refine wpList_nil ?_
 refine hK3 _ _ ?_
 refine wp_block ?_
 have hf := hf.prune [0, 12, 13, 14]
 replace hf : Fr 49 [(0, eS av l.length c), (12, eS av l.length c), (13, eI (l.length : Int)), (14, eI 0)] a := hf
 refine sxloop (fun zm a w1 => ∃ (i : Int), zm = ((l.length : Int) - i).toNat ∧ Fr 49 [(0, eS av l.length c), (12, eS av l.length c), (13, eI (l.length : Int)), (14, eI i)] a ∧ MemOk [] w1 ∧ Keep Nn w w1 ∧ (0 ≤ i ∧ i ≤ (l.length : Int)) ∧ (firstBad (l.drop i.toNat) = firstBad l)) _ ⟨0, rfl, hf.conv (Ac rfl (Ac rfl (Ac rfl (Ao rfl)))), hM, hk0, (by omega), rfl⟩ ?_
 clear hf hM hk0
 rintro _ a w1 ⟨i, rfl, hf, hM, hk0, hi, hfb⟩ L1 hL1
 refine wp_seq_k (fun K4 hK4 => ?_)
 refine wp_region_lit ?_
 refine q0 hf hM [15, 0, 12, 13, 14] [{}] (env' := [(15, eB (decide ((i : Int) < (l.length : Int)))), (0, eS av l.length c), (12, eS av l.length c), (13, eI (l.length : Int)), (14, eI i)]) (ob := []) An ?_
 clear hf; intro a hf
 refine wpList_nil ?_
 refine hK4 _ _ ?_
 refine wp_seq_k (fun K5 hK5 => ?_)
 refine qc hf (b := (decide ((i : Int) < (l.length : Int)))) (fun hc1r => ?_) (fun hc1r => ?_)
 · have hc1 := (nT hc1r)
   refine wp_skip ?_
   refine hK5 _ _ ?_
   refine wp_seq_k (fun K6 hK6 => ?_)
   refine wp_block ?_
   refine wp_seq_k (fun K7 hK7 => ?_)
   refine wp_region_lit ?_
   refine q1 hf hM [5, 0, 12, 13, 14] [{ sp := true }, { os := [.ex (iV (l.getD i.toNat ⟨0, 0, 0⟩).k), .ex (iV (l.getD i.toNat ⟨0, 0, 0⟩).a), .ex (iV (l.getD i.toNat ⟨0, 0, 0⟩).b)] }, { os := [.nw] }, { os := [.st 0 0, .st 0 1, .st 0 2] }] (env' := fun B4 => [(5, eP B4 0), (0, eS av l.length c), (12, eS av l.length c), (13, eI (l.length : Int)), (14, eI i)]) (M' := fun B4 => [⟨B4, 62, [iV (l.getD i.toNat ⟨0, 0, 0⟩).k, iV (l.getD i.toNat ⟨0, 0, 0⟩).a, iV (l.getD i.toNat ⟨0, 0, 0⟩).b]⟩]) (ob := fun B4 => [(0 : Int) ≤ i ∧ i < (l.length : Int), (av : Option Addr).isSome = true, w1.cell? (((sa av : Addr).add (i.toNat * 3)).add 0) = some (iV (l.getD i.toNat ⟨0, 0, 0⟩).k), w1.cell? (((sa av : Addr).add (i.toNat * 3)).add 1) = some (iV (l.getD i.toNat ⟨0, 0, 0⟩).a), w1.cell? (((sa av : Addr).add (i.toNat * 3)).add 2) = some (iV (l.getD i.toNat ⟨0, 0, 0⟩).b), Ad B4 0, Ad B4 1, Ad B4 2]) (fun B4 => (Ac (by first | omega | (simp; done)) (Ac ((hav.keepNn hk0).some_ (by first | omega | (simp; done))) (Ac ((hav.keepNn hk0).get (fun _ => rfl) (by first | omega | (simp; done)) rfl) (Ac ((hav.keepNn hk0).get (fun _ => rfl) (by first | omega | (simp; done)) rfl) (Ac ((hav.keepNn hk0).get (fun _ => rfl) (by first | omega | (simp; done)) rfl) (Ac (ad _ _) (Ac (ad _ _) (Ao (ad _ _)))))))))) ?_
   clear hf hM; intro a w2 B4 hf hM hB hk
   have hbB4 : w.heap.size ≤ B4 := by have := hk0.size; omega
   have hk0 := hk0.then hk (by intro i _ h; cases h)
   clear hk hB
   refine wpList_nil ?_
   refine hK7 _ _ ?_
   refine wp_seq_k (fun K8 hK8 => ?_)
   refine wp_region_lit ?_
   refine q0 hf hM [18, 0, 12, 13, 14] [{ os := [.ld 0 0, .ld 0 1, .ld 0 2] }] (env' := [(18, .val (.agg #[iV (l.getD i.toNat ⟨0, 0, 0⟩).k, iV (l.getD i.toNat ⟨0, 0, 0⟩).a, iV (l.getD i.toNat ⟨0, 0, 0⟩).b])), (0, eS av l.length c), (12, eS av l.length c), (13, eI (l.length : Int)), (14, eI i)]) (ob := [Ad B4 0, Ad B4 1, Ad B4 2]) (Ac (ad _ _) (Ac (ad _ _) (Ao (ad _ _)))) ?_
   clear hf; intro a hf
   refine sxcall hf rfl rfl rfl rfl (g := 34) (vs := [.agg #[iV (l.getD i.toNat ⟨0, 0, 0⟩).k, iV (l.getD i.toNat ⟨0, 0, 0⟩).a, iV (l.getD i.toNat ⟨0, 0, 0⟩).b]]) (ob := []) (by as_aux_lemma => kernel_rfl) An enters34 (rcheck (l.getD i.toNat ⟨0, 0, 0⟩).k (l.getD i.toNat ⟨0, 0, 0⟩).a (l.getD i.toNat ⟨0, 0, 0⟩).b w2  ) ?_
   clear hf; rintro _ w3 a ⟨rfl, hk⟩ hf
   have hM := hM.keepNn hk
   have hk0 := hk0.trans hk.nn
   clear hk
   refine q0 hf hM [6, 0, 12, 13, 14] [{}] (env' := [(6, eI (vcheck ⟨(l.getD i.toNat ⟨0, 0, 0⟩).k, (l.getD i.toNat ⟨0, 0, 0⟩).a, (l.getD i.toNat ⟨0, 0, 0⟩).b⟩)), (0, eS av l.length c), (12, eS av l.length c), (13, eI (l.length : Int)), (14, eI i)]) (ob := []) An ?_
   clear hf; intro a hf
   refine wpList_nil ?_
   refine hK8 _ _ ?_
   refine wp_seq_k (fun K9 hK9 => ?_)
   refine wp_region_lit ?_
   refine q0 hf hM [21, 6, 0, 12, 13, 14] [{}, {}] (env' := [(21, eB (((vcheck ⟨(l.getD i.toNat ⟨0, 0, 0⟩).k, (l.getD i.toNat ⟨0, 0, 0⟩).a, (l.getD i.toNat ⟨0, 0, 0⟩).b⟩) : Int) != 0)), (6, eI (vcheck ⟨(l.getD i.toNat ⟨0, 0, 0⟩).k, (l.getD i.toNat ⟨0, 0, 0⟩).a, (l.getD i.toNat ⟨0, 0, 0⟩).b⟩)), (0, eS av l.length c), (12, eS av l.length c), (13, eI (l.length : Int)), (14, eI i)]) (ob := []) An ?_
   clear hf; intro a hf
   refine wpList_nil ?_
   refine hK9 _ _ ?_
   refine qc hf (b := (((vcheck ⟨(l.getD i.toNat ⟨0, 0, 0⟩).k, (l.getD i.toNat ⟨0, 0, 0⟩).a, (l.getD i.toNat ⟨0, 0, 0⟩).b⟩) : Int) != 0)) (fun hc2r => ?_) (fun hc2r => ?_)
   · have hc2 := (nN hc2r)
     refine wp_seq_k (fun K10 hK10 => ?_)
     refine wp_region_lit ?_
     refine q0 hf hM [3, 2] [{}, {}, {}] (env' := [(3, eI (vcheck ⟨(l.getD i.toNat ⟨0, 0, 0⟩).k, (l.getD i.toNat ⟨0, 0, 0⟩).a, (l.getD i.toNat ⟨0, 0, 0⟩).b⟩)), (2, eS none 0 0)]) (ob := []) An ?_
     clear hf; intro a hf
     refine wpList_nil ?_
     refine hK10 _ _ ?_
     refine wp_ret ?_
     refine qr (fn := Tryd.f33) hf hM [] (l := [.slice none 0 0, iV (vcheck ⟨(l.getD i.toNat ⟨0, 0, 0⟩).k, (l.getD i.toNat ⟨0, 0, 0⟩).a, (l.getD i.toNat ⟨0, 0, 0⟩).b⟩)]) (ob := []) An ?_
     show (.tuple #[.slice none 0 0, iV (vcheck ⟨(l.getD i.toNat ⟨0, 0, 0⟩).k, (l.getD i.toNat ⟨0, 0, 0⟩).a, (l.getD i.toNat ⟨0, 0, 0⟩).b⟩)] : Value) = .tuple #[.slice none 0 0, .int .i64 (firstBad l)] ∧ Keep Nn w w3
     have h1 := firstBad_step (l := l) (i := i.toNat) (d := ⟨0, 0, 0⟩) (by omega)
     have h2 : ¬ vcheck (l.getD i.toNat ⟨0, 0, 0⟩) = 0 := by assumption
     rw [if_neg h2, hfb] at h1
     rw [h1]
     exact ⟨rfl, hk0⟩
   · have hc2 := (nM hc2r)
     refine wp_skip ?_
     refine hK6 _ _ ?_
     refine wp_region_lit ?_
     refine q0 hf hM [14, 0, 12, 13] [{ hint := some (iV (i + 1)) }, {}] (env' := [(14, eI (i + 1)), (0, eS av l.length c), (12, eS av l.length c), (13, eI (l.length : Int))]) (ob := [(iV (IntKind.i64.wrap (i + 1)) : Value) = (iV (i + 1) : Value)]) (Ao (wr (by omega))) ?_
     clear hf; intro a hf
     refine wpList_nil ?_
     have hfb2 : firstBad (l.drop (i + 1).toNat) = firstBad l := by
       have h1 := firstBad_step (l := l) (i := i.toNat) (d := ⟨0, 0, 0⟩) (by omega)
       have h2 : vcheck (l.getD i.toNat ⟨0, 0, 0⟩) = 0 := by assumption
       rw [h2, if_pos rfl, hfb] at h1
       rw [h1, show (i + 1).toNat = i.toNat + 1 by omega]
     have hf := hf.prune [0, 12, 13, 14]
     replace hf : Fr 49 [(0, eS av l.length c), (12, eS av l.length c), (13, eI (l.length : Int)), (14, eI (i + 1))] a := hf
     replace hM : MemOk [] w3 := hM.sub (.cons _ .slnil)
     refine hL1 _ _ _ (by omega) ⟨i + 1, rfl, hf.conv (Ac rfl (Ac rfl (Ac rfl (Ao rfl)))), hM, hk0, (by omega), hfb2⟩
 · have hc1 := (nU hc1r)
   exfalso; have h2 : l.drop i.toNat = [] := List.drop_eq_nil_of_le (by omega); rw [h2] at hfb; simp only [firstBad] at hfb; omega

set_option maxRecDepth 10000 in
set_option maxHeartbeats 1600000 in
theorem rrow_ok (av : Option Addr) (l : List V3) (c : Nat) (w : World) (hn0 : (firstBad l == 0) = true) (hn1 : (noDup l) = true) (hav : Arr w 3 av l.length c (flat fV l)) (hbav : l.length ≤ 1000000) :
    Calls Tryd.prog 33 #[.slice av l.length c] w (Ret fun v w' => ∃ a' c', v = .tuple #[.slice a' (byKinds l 10).length c', .int .i64 0] ∧ Keep Nn w w' ∧ World.ownsRow w' w.heap.size 62 3 (.slice a' (byKinds l 10).length c') (byKinds l 10).length (flat fV (byKinds l 10))) := by
 refine sxenter (n := 49) (args := [.slice av l.length c]) Tryd.func33 rfl rfl rfl fun a hf => ?_
 replace hf : Fr 49 [(0, eS av l.length c)] a := hf
 have hM : MemOk [] w := MemOk.nil w
 have hk0 : Keep Nn w w := Keep.refl _ _
 have hn : firstBad l = 0 := by simpa using hn0
 refine wp_seq_k (fun K1 hK1 => ?_)
 refine wp_region_lit ?_
 refine q0 hf hM [0] [{}, {}] (env' := [(0, eS av l.length c)]) (ob := []) An ?_
 clear hf; intro a hf
 refine wpList_nil ?_
 refine hK1 _ _ ?_
 refine wp_seq_k (fun K2 hK2 => ?_)
 refine wp_seq_k (fun K3 hK3 => ?_)
 refine wp_region_lit ?_
 refine q0 hf hM [14, 13, 12, 0] [{}, {}, {}] (env' := [(14, eI 0), (13, eI (l.length : Int)), (12, eS av l.length c), (0, eS av l.length c)]) (ob := []) An ?_
 clear hf; intro a hf
 refine wpList_nil ?_
 refine hK3 _ _ ?_
 refine wp_block ?_
 have hf := hf.prune [0, 12, 13, 14]
 replace hf : Fr 49 [(0, eS av l.length c), (12, eS av l.length c), (13, eI (l.length : Int)), (14, eI 0)] a := hf
 refine sxloop (fun zm a w1 => ∃ (i : Int), zm = ((l.length : Int) - i).toNat ∧ Fr 49 [(0, eS av l.length c), (12, eS av l.length c), (13, eI (l.length : Int)), (14, eI i)] a ∧ MemOk [] w1 ∧ Keep Nn w w1 ∧ (0 ≤ i ∧ i ≤ (l.length : Int)) ∧ (firstBad (l.drop i.toNat) = firstBad l)) _ ⟨0, rfl, hf.conv (Ac rfl (Ac rfl (Ac rfl (Ao rfl)))), hM, hk0, (by omega), rfl⟩ ?_
 clear hf hM hk0
 rintro _ a w1 ⟨i, rfl, hf, hM, hk0, hi, hfb⟩ L1 hL1
 refine wp_seq_k (fun K4 hK4 => ?_)
 refine wp_region_lit ?_
 refine q0 hf hM [15, 0, 12, 13, 14] [{}] (env' := [(15, eB (decide ((i : Int) < (l.length : Int)))), (0, eS av l.length c), (12, eS av l.length c), (13, eI (l.length : Int)), (14, eI i)]) (ob := []) An ?_
 clear hf; intro a hf
 refine wpList_nil ?_
 refine hK4 _ _ ?_
 refine wp_seq_k (fun K5 hK5 => ?_)
 refine qc hf (b := (decide ((i : Int) < (l.length : Int)))) (fun hc1r => ?_) (fun hc1r => ?_)
 · have hc1 := (nT hc1r)
   refine wp_skip ?_
   refine hK5 _ _ ?_
   refine wp_seq_k (fun K6 hK6 => ?_)
   refine wp_block ?_
   refine wp_seq_k (fun K7 hK7 => ?_)
   refine wp_region_lit ?_
   refine q1 hf hM [5, 0, 12, 13, 14] [{ sp := true }, { os := [.ex (iV (l.getD i.toNat ⟨0, 0, 0⟩).k), .ex (iV (l.getD i.toNat ⟨0, 0, 0⟩).a), .ex (iV (l.getD i.toNat ⟨0, 0, 0⟩).b)] }, { os := [.nw] }, { os := [.st 0 0, .st 0 1, .st 0 2] }] (env' := fun B4 => [(5, eP B4 0), (0, eS av l.length c), (12, eS av l.length c), (13, eI (l.length : Int)), (14, eI i)]) (M' := fun B4 => [⟨B4, 62, [iV (l.getD i.toNat ⟨0, 0, 0⟩).k, iV (l.getD i.toNat ⟨0, 0, 0⟩).a, iV (l.getD i.toNat ⟨0, 0, 0⟩).b]⟩]) (ob := fun B4 => [(0 : Int) ≤ i ∧ i < (l.length : Int), (av : Option Addr).isSome = true, w1.cell? (((sa av : Addr).add (i.toNat * 3)).add 0) = some (iV (l.getD i.toNat ⟨0, 0, 0⟩).k), w1.cell? (((sa av : Addr).add (i.toNat * 3)).add 1) = some (iV (l.getD i.toNat ⟨0, 0, 0⟩).a), w1.cell? (((sa av : Addr).add (i.toNat * 3)).add 2) = some (iV (l.getD i.toNat ⟨0, 0, 0⟩).b), Ad B4 0, Ad B4 1, Ad B4 2]) (fun B4 => (Ac (by first | omega | (simp; done)) (Ac ((hav.keepNn hk0).some_ (by first | omega | (simp; done))) (Ac ((hav.keepNn hk0).get (fun _ => rfl) (by first | omega | (simp; done)) rfl) (Ac ((hav.keepNn hk0).get (fun _ => rfl) (by first | omega | (simp; done)) rfl) (Ac ((hav.keepNn hk0).get (fun _ => rfl) (by first | omega | (simp; done)) rfl) (Ac (ad _ _) (Ac (ad _ _) (Ao (ad _ _)))))))))) ?_
   clear hf hM; intro a w2 B4 hf hM hB hk
   have hbB4 : w.heap.size ≤ B4 := by have := hk0.size; omega
   have hk0 := hk0.then hk (by intro i _ h; cases h)
   clear hk hB
   refine wpList_nil ?_
   refine hK7 _ _ ?_
   refine wp_seq_k (fun K8 hK8 => ?_)
   refine wp_region_lit ?_
   refine q0 hf hM [18, 0, 12, 13, 14] [{ os := [.ld 0 0, .ld 0 1, .ld 0 2] }] (env' := [(18, .val (.agg #[iV (l.getD i.toNat ⟨0, 0, 0⟩).k, iV (l.getD i.toNat ⟨0, 0, 0⟩).a, iV (l.getD i.toNat ⟨0, 0, 0⟩).b])), (0, eS av l.length c), (12, eS av l.length c), (13, eI (l.length : Int)), (14, eI i)]) (ob := [Ad B4 0, Ad B4 1, Ad B4 2]) (Ac (ad _ _) (Ac (ad _ _) (Ao (ad _ _)))) ?_
   clear hf; intro a hf
   refine sxcall hf rfl rfl rfl rfl (g := 34) (vs := [.agg #[iV (l.getD i.toNat ⟨0, 0, 0⟩).k, iV (l.getD i.toNat ⟨0, 0, 0⟩).a, iV (l.getD i.toNat ⟨0, 0, 0⟩).b]]) (ob := []) (by as_aux_lemma => kernel_rfl) An enters34 (rcheck (l.getD i.toNat ⟨0, 0, 0⟩).k (l.getD i.toNat ⟨0, 0, 0⟩).a (l.getD i.toNat ⟨0, 0, 0⟩).b w2  ) ?_
   clear hf; rintro _ w3 a ⟨rfl, hk⟩ hf
   have hM := hM.keepNn hk
   have hk0 := hk0.trans hk.nn
   clear hk
   refine q0 hf hM [6, 0, 12, 13, 14] [{}] (env' := [(6, eI (vcheck ⟨(l.getD i.toNat ⟨0, 0, 0⟩).k, (l.getD i.toNat ⟨0, 0, 0⟩).a, (l.getD i.toNat ⟨0, 0, 0⟩).b⟩)), (0, eS av l.length c), (12, eS av l.length c), (13, eI (l.length : Int)), (14, eI i)]) (ob := []) An ?_
   clear hf; intro a hf
   refine wpList_nil ?_
   refine hK8 _ _ ?_
   refine wp_seq_k (fun K9 hK9 => ?_)
   refine wp_region_lit ?_
   refine q0 hf hM [21, 6, 0, 12, 13, 14] [{}, {}] (env' := [(21, eB (((vcheck ⟨(l.getD i.toNat ⟨0, 0, 0⟩).k, (l.getD i.toNat ⟨0, 0, 0⟩).a, (l.getD i.toNat ⟨0, 0, 0⟩).b⟩) : Int) != 0)), (6, eI (vcheck ⟨(l.getD i.toNat ⟨0, 0, 0⟩).k, (l.getD i.toNat ⟨0, 0, 0⟩).a, (l.getD i.toNat ⟨0, 0, 0⟩).b⟩)), (0, eS av l.length c), (12, eS av l.length c), (13, eI (l.length : Int)), (14, eI i)]) (ob := []) An ?_
   clear hf; intro a hf
   refine wpList_nil ?_
   refine hK9 _ _ ?_
   refine qc hf (b := (((vcheck ⟨(l.getD i.toNat ⟨0, 0, 0⟩).k, (l.getD i.toNat ⟨0, 0, 0⟩).a, (l.getD i.toNat ⟨0, 0, 0⟩).b⟩) : Int) != 0)) (fun hc2r => ?_) (fun hc2r => ?_)
   · have hc2 := (nN hc2r)
     refine wp_seq_k (fun K10 hK10 => ?_)
     refine wp_region_lit ?_
     refine q0 hf hM [3, 2] [{}, {}, {}] (env' := [(3, eI (vcheck ⟨(l.getD i.toNat ⟨0, 0, 0⟩).k, (l.getD i.toNat ⟨0, 0, 0⟩).a, (l.getD i.toNat ⟨0, 0, 0⟩).b⟩)), (2, eS none 0 0)]) (ob := []) An ?_
     clear hf; intro a hf
     refine wpList_nil ?_
     refine hK10 _ _ ?_
     refine wp_ret ?_
     refine qr (fn := Tryd.f33) hf hM [] (l := [.slice none 0 0, iV (vcheck ⟨(l.getD i.toNat ⟨0, 0, 0⟩).k, (l.getD i.toNat ⟨0, 0, 0⟩).a, (l.getD i.toNat ⟨0, 0, 0⟩).b⟩)]) (ob := []) An ?_
     show ∃ a' c', (.tuple #[.slice none 0 0, iV (vcheck ⟨(l.getD i.toNat ⟨0, 0, 0⟩).k, (l.getD i.toNat ⟨0, 0, 0⟩).a, (l.getD i.toNat ⟨0, 0, 0⟩).b⟩)] : Value) = .tuple #[.slice a' (byKinds l 10).length c', .int .i64 0] ∧ Keep Nn w w3 ∧ World.ownsRow w3 w.heap.size 62 3 (.slice a' (byKinds l 10).length c') (byKinds l 10).length (flat fV (byKinds l 10))
     exfalso; have h1 := firstBad_step (l := l) (i := i.toNat) (d := ⟨0, 0, 0⟩) (by omega); have h2 : ¬ vcheck (l.getD i.toNat ⟨0, 0, 0⟩) = 0 := (by assumption); rw [if_neg h2, hfb, hn] at h1; exact h2 h1.symm
   · have hc2 := (nM hc2r)
     refine wp_skip ?_
     refine hK6 _ _ ?_
     refine wp_region_lit ?_
     refine q0 hf hM [14, 0, 12, 13] [{ hint := some (iV (i + 1)) }, {}] (env' := [(14, eI (i + 1)), (0, eS av l.length c), (12, eS av l.length c), (13, eI (l.length : Int))]) (ob := [(iV (IntKind.i64.wrap (i + 1)) : Value) = (iV (i + 1) : Value)]) (Ao (wr (by omega))) ?_
     clear hf; intro a hf
     refine wpList_nil ?_
     have hfb2 : firstBad (l.drop (i + 1).toNat) = firstBad l := by
       have h1 := firstBad_step (l := l) (i := i.toNat) (d := ⟨0, 0, 0⟩) (by omega)
       have h2 : vcheck (l.getD i.toNat ⟨0, 0, 0⟩) = 0 := by assumption
       rw [h2, if_pos rfl, hfb] at h1
       rw [h1, show (i + 1).toNat = i.toNat + 1 by omega]
     have hf := hf.prune [0, 12, 13, 14]
     replace hf : Fr 49 [(0, eS av l.length c), (12, eS av l.length c), (13, eI (l.length : Int)), (14, eI (i + 1))] a := hf
     replace hM : MemOk [] w3 := hM.sub (.cons _ .slnil)
     refine hL1 _ _ _ (by omega) ⟨i + 1, rfl, hf.conv (Ac rfl (Ac rfl (Ac rfl (Ao rfl)))), hM, hk0, (by omega), hfb2⟩
 · have hc1 := (nU hc1r)
   refine wp_exit ?_
   refine hK2 _ _ ?_
   refine wp_seq_k (fun K11 hK11 => ?_)
   refine wp_region_lit ?_
   refine sxbslice hf hM (t := 23) (e := 62) (len := 0) (cs := []) (ob := []) rfl rfl rfl rfl (by as_aux_lemma => kernel_rfl) An (by as_aux_lemma => kernel_rfl) ?_
   clear hf hM; intro a w4 B10 hf hM hB hk
   replace hM : MemOk [⟨B10, 62, []⟩] w4 := hM
   have hbB10 : w.heap.size ≤ B10 := by have := hk0.size; omega
   have hk0 := hk0.trans hk.nn
   clear hk hB
   refine q0 hf hM [7, 0] [{}] (env' := [(7, eS (some ⟨B10, 0, none⟩) 0 0), (0, eS av l.length c)]) (ob := []) An ?_
   clear hf; intro a hf
   refine wpList_nil ?_
   refine hK11 _ _ ?_
   refine wp_seq_k (fun K12 hK12 => ?_)
   refine wp_seq_k (fun K13 hK13 => ?_)
   refine wp_region_lit ?_
   refine q0 hf hM [8, 7, 0] [{}] (env' := [(8, eI 0), (7, eS (some ⟨B10, 0, none⟩) 0 0), (0, eS av l.length c)]) (ob := []) An ?_
   clear hf; intro a hf
   refine wpList_nil ?_
   refine hK13 _ _ ?_
   refine wp_block ?_
   have hO : OwnOk w.heap.size [⟨B10, 62, []⟩] [] w4 := OwnOk.nil hM
   replace hO := OwnOk.took (M1 := []) (M2 := []) (sz := 3) hO hM (n := 0) (c := 0) (by have := hk0.size; omega) (by decide) (by decide) rfl
   replace hM : MemOk [] w4 := hM.sub (.cons _ .slnil)
   replace hO : OwnOk w.heap.size [] [⟨62, 3, .slice (some ⟨B10, 0, none⟩) 0 0, 0, flat fV ([] : List V3)⟩] w4 := hO
   have hf := hf.prune [0, 7, 8]
   replace hf : Fr 49 [(0, eS av l.length c), (7, eS (some ⟨B10, 0, none⟩) 0 0), (8, eI 0)] a := hf
   replace hO : OwnOk w.heap.size [] [⟨62, 3, .slice (some ⟨B10, 0, none⟩) ((byKinds l (0 : Int).toNat).length) 0, (byKinds l (0 : Int).toNat).length, flat fV (byKinds l (0 : Int).toNat)⟩] w4 := by
    first | exact hO | (have e : ([⟨62, 3, .slice (some ⟨B10, 0, none⟩) 0 0, 0, flat fV ([] : List V3)⟩] : List Own) = [⟨62, 3, .slice (some ⟨B10, 0, none⟩) ((byKinds l (0 : Int).toNat).length) 0, (byKinds l (0 : Int).toNat).length, flat fV (byKinds l (0 : Int).toNat)⟩] := by rfl) <;> (rw [← e]; exact hO)
   refine sxloop (fun zm a w1 => ∃ (kk : Int) (a7 : Option Addr) (c7 : Nat), zm = (10 - kk).toNat ∧ Fr 49 [(0, eS av l.length c), (7, eS a7 (byKinds l kk.toNat).length c7), (8, eI kk)] a ∧ MemOk [] w1 ∧ Keep Nn w w1 ∧ OwnOk w.heap.size [] [⟨62, 3, .slice a7 (byKinds l kk.toNat).length c7, (byKinds l kk.toNat).length, flat fV (byKinds l kk.toNat)⟩] w1 ∧ (0 ≤ kk ∧ kk ≤ 10) ∧ (∀ j : Int, 0 ≤ j → j < kk → (l.map (·.k)).count j ≤ 1)) _ ⟨0, some ⟨B10, 0, none⟩, 0, rfl, hf.conv (Ac rfl (Ac rfl (Ao rfl))), hM, hk0, hO, (by omega), (fun j h1 h2 => by omega)⟩ ?_
   clear hf hM hk0 hO
   rintro _ a w5 ⟨kk, a7, c7, rfl, hf, hM, hk0, hO, hkk, hcn⟩ L2 hL2
   refine wp_seq_k (fun K14 hK14 => ?_)
   refine wp_seq_k (fun K15 hK15 => ?_)
   refine wp_region_lit ?_
   refine q0 hf hM [26, 0, 7, 8] [{}, {}] (env' := [(26, eB (decide ((kk : Int) < 10))), (0, eS av l.length c), (7, eS a7 (byKinds l kk.toNat).length c7), (8, eI kk)]) (ob := []) An ?_
   clear hf; intro a hf
   refine wpList_nil ?_
   refine hK15 _ _ ?_
   refine qc hf (b := (decide ((kk : Int) < 10))) (fun hc3r => ?_) (fun hc3r => ?_)
   · have hc3 := (nT hc3r)
     refine wp_skip ?_
     refine hK14 _ _ ?_
     refine wp_seq_k (fun K16 hK16 => ?_)
     refine wp_block ?_
     refine wp_seq_k (fun K17 hK17 => ?_)
     refine wp_region_lit ?_
     refine q0 hf hM [9, 0, 7, 8] [{}] (env' := [(9, eI 0), (0, eS av l.length c), (7, eS a7 (byKinds l kk.toNat).length c7), (8, eI kk)]) (ob := []) An ?_
     clear hf; intro a hf
     refine wpList_nil ?_
     refine hK17 _ _ ?_
     refine wp_seq_k (fun K18 hK18 => ?_)
     refine wp_seq_k (fun K19 hK19 => ?_)
     refine wp_region_lit ?_
     refine q0 hf hM [31, 30, 29, 9, 0, 7, 8] [{}, {}, {}] (env' := [(31, eI 0), (30, eI (l.length : Int)), (29, eS av l.length c), (9, eI 0), (0, eS av l.length c), (7, eS a7 (byKinds l kk.toNat).length c7), (8, eI kk)]) (ob := []) An ?_
     clear hf; intro a hf
     refine wpList_nil ?_
     refine hK19 _ _ ?_
     refine wp_block ?_
     have hz1 := cntTo_zero l kk; have hz2 := upTo_zero l kk
     have hf := hf.prune [0, 7, 8, 9, 29, 30, 31]
     replace hf : Fr 49 [(0, eS av l.length c), (7, eS a7 (byKinds l kk.toNat).length c7), (8, eI kk), (9, eI 0), (29, eS av l.length c), (30, eI (l.length : Int)), (31, eI 0)] a := hf
     replace hO : OwnOk w.heap.size [] [⟨62, 3, .slice a7 (upTo l kk 0).length c7, (upTo l kk 0).length, flat fV (upTo l kk 0)⟩] w5 := by
      first | exact hO | (have e : ([⟨62, 3, .slice a7 (byKinds l kk.toNat).length c7, (byKinds l kk.toNat).length, flat fV (byKinds l kk.toNat)⟩] : List Own) = [⟨62, 3, .slice a7 (upTo l kk 0).length c7, (upTo l kk 0).length, flat fV (upTo l kk 0)⟩] := by rw [upTo_zero]) <;> (rw [← e]; exact hO)
     refine sxloop (fun zm a w1 => ∃ (i : Int) (a8 : Option Addr) (c8 : Nat), zm = ((l.length : Int) - i).toNat ∧ Fr 49 [(0, eS av l.length c), (7, eS a8 (upTo l kk i).length c8), (8, eI kk), (9, eI (cntTo l kk i)), (29, eS av l.length c), (30, eI (l.length : Int)), (31, eI i)] a ∧ MemOk [] w1 ∧ Keep Nn w w1 ∧ OwnOk w.heap.size [] [⟨62, 3, .slice a8 (upTo l kk i).length c8, (upTo l kk i).length, flat fV (upTo l kk i)⟩] w1 ∧ (0 ≤ i ∧ i ≤ (l.length : Int))) _ ⟨0, a7, c7, rfl, hf.conv (Ac rfl (Ac (by rw [hz2]; rfl) (Ac rfl (Ac (congrArg _ hz1.symm) (Ac rfl (Ac rfl (Ao rfl))))))), hM, hk0, hO, (by omega)⟩ ?_
     clear hf hM hk0 hO
     rintro _ a w6 ⟨i, a8, c8, rfl, hf, hM, hk0, hO, hi⟩ L3 hL3
     have hul := upTo_len l kk i
     have hct := cntTo_le l kk i
     refine wp_seq_k (fun K20 hK20 => ?_)
     refine wp_region_lit ?_
     refine q0 hf hM [32, 0, 7, 8, 9, 29, 30, 31] [{}] (env' := [(32, eB (decide ((i : Int) < (l.length : Int)))), (0, eS av l.length c), (7, eS a8 (upTo l kk i).length c8), (8, eI kk), (9, eI (cntTo l kk i)), (29, eS av l.length c), (30, eI (l.length : Int)), (31, eI i)]) (ob := []) An ?_
     clear hf; intro a hf
     refine wpList_nil ?_
     refine hK20 _ _ ?_
     refine wp_seq_k (fun K21 hK21 => ?_)
     refine qc hf (b := (decide ((i : Int) < (l.length : Int)))) (fun hc4r => ?_) (fun hc4r => ?_)
     · have hc4 := (nT hc4r)
       refine wp_skip ?_
       refine hK21 _ _ ?_
       refine wp_seq_k (fun K22 hK22 => ?_)
       refine wp_block ?_
       refine wp_seq_k (fun K23 hK23 => ?_)
       refine wp_region_lit ?_
       refine q1 hf hM [11, 0, 7, 8, 9, 29, 30, 31] [{ sp := true }, { os := [.ex (iV (l.getD i.toNat ⟨0, 0, 0⟩).k), .ex (iV (l.getD i.toNat ⟨0, 0, 0⟩).a), .ex (iV (l.getD i.toNat ⟨0, 0, 0⟩).b)] }, { os := [.nw] }, { os := [.st 0 0, .st 0 1, .st 0 2] }] (env' := fun B17 => [(11, eP B17 0), (0, eS av l.length c), (7, eS a8 (upTo l kk i).length c8), (8, eI kk), (9, eI (cntTo l kk i)), (29, eS av l.length c), (30, eI (l.length : Int)), (31, eI i)]) (M' := fun B17 => [⟨B17, 62, [iV (l.getD i.toNat ⟨0, 0, 0⟩).k, iV (l.getD i.toNat ⟨0, 0, 0⟩).a, iV (l.getD i.toNat ⟨0, 0, 0⟩).b]⟩]) (ob := fun B17 => [(0 : Int) ≤ i ∧ i < (l.length : Int), (av : Option Addr).isSome = true, w6.cell? (((sa av : Addr).add (i.toNat * 3)).add 0) = some (iV (l.getD i.toNat ⟨0, 0, 0⟩).k), w6.cell? (((sa av : Addr).add (i.toNat * 3)).add 1) = some (iV (l.getD i.toNat ⟨0, 0, 0⟩).a), w6.cell? (((sa av : Addr).add (i.toNat * 3)).add 2) = some (iV (l.getD i.toNat ⟨0, 0, 0⟩).b), Ad B17 0, Ad B17 1, Ad B17 2]) (fun B17 => (Ac (by first | omega | (simp; done)) (Ac ((hav.keepNn hk0).some_ (by first | omega | (simp; done))) (Ac ((hav.keepNn hk0).get (fun _ => rfl) (by first | omega | (simp; done)) rfl) (Ac ((hav.keepNn hk0).get (fun _ => rfl) (by first | omega | (simp; done)) rfl) (Ac ((hav.keepNn hk0).get (fun _ => rfl) (by first | omega | (simp; done)) rfl) (Ac (ad _ _) (Ac (ad _ _) (Ao (ad _ _)))))))))) ?_
       clear hf hM; intro a w7 B17 hf hM hB hk
       have hbB17 : w.heap.size ≤ B17 := by have := hk0.size; omega
       have hk0 := hk0.then hk (by intro i _ h; cases h)
       have hO := hO.step hM (hk.mono (by intro _ _ h; cases h)) (by intro i h; simp only [Mem.names, List.map_cons, List.map_nil, List.mem_cons, List.not_mem_nil, or_false, List.map_append, List.cons_append, List.nil_append] at h ⊢; omega)
       clear hk hB
       refine wpList_nil ?_
       refine hK23 _ _ ?_
       refine wp_seq_k (fun K24 hK24 => ?_)
       refine wp_region_lit ?_
       refine q0 hf hM [38, 11, 0, 7, 8, 9, 29, 30, 31] [{}, { os := [.ld 0 0] }, {}, {}] (env' := [(38, eB (((l.getD i.toNat ⟨0, 0, 0⟩).k : Int) == kk)), (11, eP B17 0), (0, eS av l.length c), (7, eS a8 (upTo l kk i).length c8), (8, eI kk), (9, eI (cntTo l kk i)), (29, eS av l.length c), (30, eI (l.length : Int)), (31, eI i)]) (ob := [Ad B17 0]) (Ao (ad _ _)) ?_
       clear hf; intro a hf
       refine wpList_nil ?_
       refine hK24 _ _ ?_
       refine qc hf (b := (((l.getD i.toNat ⟨0, 0, 0⟩).k : Int) == kk)) (fun hc5r => ?_) (fun hc5r => ?_)
       · have hc5 := (nE hc5r)
         refine wp_seq_k (fun K25 hK25 => ?_)
         refine wp_region_lit ?_
         refine q0 hf hM [40, 39, 0, 7, 8, 9, 29, 30, 31] [{}, { os := [.ld 0 0, .ld 0 1, .ld 0 2] }] (env' := [(40, .val (.agg #[iV (l.getD i.toNat ⟨0, 0, 0⟩).k, iV (l.getD i.toNat ⟨0, 0, 0⟩).a, iV (l.getD i.toNat ⟨0, 0, 0⟩).b])), (39, eS a8 (upTo l kk i).length c8), (0, eS av l.length c), (7, eS a8 (upTo l kk i).length c8), (8, eI kk), (9, eI (cntTo l kk i)), (29, eS av l.length c), (30, eI (l.length : Int)), (31, eI i)]) (ob := [Ad B17 0, Ad B17 1, Ad B17 2]) (Ac (ad _ _) (Ac (ad _ _) (Ao (ad _ _)))) ?_
         clear hf; intro a hf
         refine sxbslice hf hM (t := 23) (e := 62) (len := 1) (cs := [iV (l.getD i.toNat ⟨0, 0, 0⟩).k, iV (l.getD i.toNat ⟨0, 0, 0⟩).a, iV (l.getD i.toNat ⟨0, 0, 0⟩).b]) (ob := []) rfl rfl rfl rfl (by as_aux_lemma => kernel_rfl) An (by as_aux_lemma => kernel_rfl) ?_
         clear hf hM; intro a w8 B20 hf hM hB hk
         replace hM : MemOk [⟨B17, 62, [iV (l.getD i.toNat ⟨0, 0, 0⟩).k, iV (l.getD i.toNat ⟨0, 0, 0⟩).a, iV (l.getD i.toNat ⟨0, 0, 0⟩).b]⟩, ⟨B20, 62, [iV (l.getD i.toNat ⟨0, 0, 0⟩).k, iV (l.getD i.toNat ⟨0, 0, 0⟩).a, iV (l.getD i.toNat ⟨0, 0, 0⟩).b]⟩] w8 := hM
         have hbB20 : w.heap.size ≤ B20 := by have := hk0.size; omega
         have hk0 := hk0.trans hk.nn
         have hO := hO.step hM hk.nn (by intro i h; simp only [Mem.names, List.map_cons, List.map_nil, List.mem_cons, List.not_mem_nil, or_false, List.map_append, List.cons_append, List.nil_append] at h ⊢; omega)
         clear hk hB
         replace hO : OwnOk w.heap.size [⟨B17, 62, [iV (l.getD i.toNat ⟨0, 0, 0⟩).k, iV (l.getD i.toNat ⟨0, 0, 0⟩).a, iV (l.getD i.toNat ⟨0, 0, 0⟩).b]⟩, ⟨B20, 62, [iV (l.getD i.toNat ⟨0, 0, 0⟩).k, iV (l.getD i.toNat ⟨0, 0, 0⟩).a, iV (l.getD i.toNat ⟨0, 0, 0⟩).b]⟩] [⟨62, 3, .slice a8 (upTo l kk i).length c8, (upTo l kk i).length, flat fV (upTo l kk i)⟩] w8 := OwnOk.front (l1 := []) (l2 := []) hO
         refine sxappend hf hM (e := 62) (sz := 3) (by_ := 24) (k := (upTo l kk i).length) (v := .slice a8 (upTo l kk i).length c8) (xs := flat fV (upTo l kk i)) hO rfl rfl rfl rfl (av := some ⟨B20, 0, none⟩) (m := 1) (c := 1) rfl rfl Tryd.underlying23 (by kernel_rfl) rfl (news := flat fV ([⟨(l.getD i.toNat ⟨0, 0, 0⟩).k, (l.getD i.toNat ⟨0, 0, 0⟩).a, (l.getD i.toNat ⟨0, 0, 0⟩).b⟩] : List V3)) (Arr.of_memT (sz := 3) (f := fV) (L := ([⟨(l.getD i.toNat ⟨0, 0, 0⟩).k, (l.getD i.toNat ⟨0, 0, 0⟩).a, (l.getD i.toNat ⟨0, 0, 0⟩).b⟩] : List V3)) (l := ([⟨(l.getD i.toNat ⟨0, 0, 0⟩).k, (l.getD i.toNat ⟨0, 0, 0⟩).a, (l.getD i.toNat ⟨0, 0, 0⟩).b⟩] : List V3)) hM (List.Mem.tail _ (List.Mem.head _)) (fun _ => rfl) rfl rfl) (flat_one1 fV_one) (by simp only [maxLen]; constructor <;> (first | omega | (simp; omega))) (by have := hk0.size; omega) ?_
         clear hf hM hO; intro a w9 av1 cv1 hf hM hO hk
         have en : ((upTo l kk i).length + 1 : Nat) = ((upTo l kk i) ++ ([⟨(l.getD i.toNat ⟨0, 0, 0⟩).k, (l.getD i.toNat ⟨0, 0, 0⟩).a, (l.getD i.toNat ⟨0, 0, 0⟩).b⟩] : List V3)).length := (by simp)
         have ec : flat fV (upTo l kk i) ++ flat fV ([⟨(l.getD i.toNat ⟨0, 0, 0⟩).k, (l.getD i.toNat ⟨0, 0, 0⟩).a, (l.getD i.toNat ⟨0, 0, 0⟩).b⟩] : List V3) = flat fV ((upTo l kk i) ++ ([⟨(l.getD i.toNat ⟨0, 0, 0⟩).k, (l.getD i.toNat ⟨0, 0, 0⟩).a, (l.getD i.toNat ⟨0, 0, 0⟩).b⟩] : List V3)) := (by simp [flat_app, flat_nil])
         rw [en] at hf hO; rw [ec] at hO; clear en ec
         replace hO : OwnOk w.heap.size [⟨B17, 62, [iV (l.getD i.toNat ⟨0, 0, 0⟩).k, iV (l.getD i.toNat ⟨0, 0, 0⟩).a, iV (l.getD i.toNat ⟨0, 0, 0⟩).b]⟩, ⟨B20, 62, [iV (l.getD i.toNat ⟨0, 0, 0⟩).k, iV (l.getD i.toNat ⟨0, 0, 0⟩).a, iV (l.getD i.toNat ⟨0, 0, 0⟩).b]⟩] [⟨62, 3, .slice av1 (((upTo l kk i) ++ ([⟨(l.getD i.toNat ⟨0, 0, 0⟩).k, (l.getD i.toNat ⟨0, 0, 0⟩).a, (l.getD i.toNat ⟨0, 0, 0⟩).b⟩] : List V3)).length) cv1, ((upTo l kk i) ++ ([⟨(l.getD i.toNat ⟨0, 0, 0⟩).k, (l.getD i.toNat ⟨0, 0, 0⟩).a, (l.getD i.toNat ⟨0, 0, 0⟩).b⟩] : List V3)).length, flat fV ((upTo l kk i) ++ ([⟨(l.getD i.toNat ⟨0, 0, 0⟩).k, (l.getD i.toNat ⟨0, 0, 0⟩).a, (l.getD i.toNat ⟨0, 0, 0⟩).b⟩] : List V3))⟩] w9 := hO
         have hk0 := hk0.then hk (by intro i hi h; have := h.1; omega)
         clear hk
         refine q0 hf hM [7, 0, 8, 9, 29, 30, 31] [{}] (env' := [(7, eS av1 (((upTo l kk i) ++ ([⟨(l.getD i.toNat ⟨0, 0, 0⟩).k, (l.getD i.toNat ⟨0, 0, 0⟩).a, (l.getD i.toNat ⟨0, 0, 0⟩).b⟩] : List V3)).length) cv1), (0, eS av l.length c), (8, eI kk), (9, eI (cntTo l kk i)), (29, eS av l.length c), (30, eI (l.length : Int)), (31, eI i)]) (ob := []) An ?_
         clear hf; intro a hf
         refine wpList_nil ?_
         refine hK25 _ _ ?_
         refine wp_region_lit ?_
         refine q0 hf hM [9, 7, 0, 8, 29, 30, 31] [{}, { hint := some (iV ((cntTo l kk i) + 1)) }, {}] (env' := [(9, eI ((cntTo l kk i) + 1)), (7, eS av1 (((upTo l kk i) ++ ([⟨(l.getD i.toNat ⟨0, 0, 0⟩).k, (l.getD i.toNat ⟨0, 0, 0⟩).a, (l.getD i.toNat ⟨0, 0, 0⟩).b⟩] : List V3)).length) cv1), (0, eS av l.length c), (8, eI kk), (29, eS av l.length c), (30, eI (l.length : Int)), (31, eI i)]) (ob := [(iV (IntKind.i64.wrap ((cntTo l kk i) + 1)) : Value) = (iV ((cntTo l kk i) + 1) : Value)]) (Ao (wr (by omega))) ?_
         clear hf; intro a hf
         refine wpList_nil ?_
         refine hK22 _ _ ?_
         refine wp_region_lit ?_
         refine q0 hf hM [31, 9, 7, 0, 8, 29, 30] [{ hint := some (iV (i + 1)) }, {}] (env' := [(31, eI (i + 1)), (9, eI ((cntTo l kk i) + 1)), (7, eS av1 (((upTo l kk i) ++ ([⟨(l.getD i.toNat ⟨0, 0, 0⟩).k, (l.getD i.toNat ⟨0, 0, 0⟩).a, (l.getD i.toNat ⟨0, 0, 0⟩).b⟩] : List V3)).length) cv1), (0, eS av l.length c), (8, eI kk), (29, eS av l.length c), (30, eI (l.length : Int))]) (ob := [(iV (IntKind.i64.wrap (i + 1)) : Value) = (iV (i + 1) : Value)]) (Ao (wr (by omega))) ?_
         clear hf; intro a hf
         refine wpList_nil ?_
         have hf := hf.prune [0, 7, 8, 9, 29, 30, 31]
         replace hf : Fr 49 [(0, eS av l.length c), (7, eS av1 (((upTo l kk i) ++ ([⟨(l.getD i.toNat ⟨0, 0, 0⟩).k, (l.getD i.toNat ⟨0, 0, 0⟩).a, (l.getD i.toNat ⟨0, 0, 0⟩).b⟩] : List V3)).length) cv1), (8, eI kk), (9, eI ((cntTo l kk i) + 1)), (29, eS av l.length c), (30, eI (l.length : Int)), (31, eI (i + 1))] a := hf
         replace hO : OwnOk w.heap.size [] [⟨62, 3, .slice av1 (((upTo l kk i) ++ ([⟨(l.getD i.toNat ⟨0, 0, 0⟩).k, (l.getD i.toNat ⟨0, 0, 0⟩).a, (l.getD i.toNat ⟨0, 0, 0⟩).b⟩] : List V3)).length) cv1, ((upTo l kk i) ++ ([⟨(l.getD i.toNat ⟨0, 0, 0⟩).k, (l.getD i.toNat ⟨0, 0, 0⟩).a, (l.getD i.toNat ⟨0, 0, 0⟩).b⟩] : List V3)).length, flat fV ((upTo l kk i) ++ ([⟨(l.getD i.toNat ⟨0, 0, 0⟩).k, (l.getD i.toNat ⟨0, 0, 0⟩).a, (l.getD i.toNat ⟨0, 0, 0⟩).b⟩] : List V3))⟩] w9 := hO.sub (.cons _ (.cons _ .slnil)) (List.Sublist.refl _)
         replace hM : MemOk [] w9 := hM.sub (.cons _ (.cons _ .slnil))
         replace hO : OwnOk w.heap.size [] [⟨62, 3, .slice av1 ((upTo l kk (i + 1)).length) cv1, (upTo l kk (i + 1)).length, flat fV (upTo l kk (i + 1))⟩] w9 := by
          first | exact hO | (have e : ([⟨62, 3, .slice av1 (((upTo l kk i) ++ ([⟨(l.getD i.toNat ⟨0, 0, 0⟩).k, (l.getD i.toNat ⟨0, 0, 0⟩).a, (l.getD i.toNat ⟨0, 0, 0⟩).b⟩] : List V3)).length) cv1, ((upTo l kk i) ++ ([⟨(l.getD i.toNat ⟨0, 0, 0⟩).k, (l.getD i.toNat ⟨0, 0, 0⟩).a, (l.getD i.toNat ⟨0, 0, 0⟩).b⟩] : List V3)).length, flat fV ((upTo l kk i) ++ ([⟨(l.getD i.toNat ⟨0, 0, 0⟩).k, (l.getD i.toNat ⟨0, 0, 0⟩).a, (l.getD i.toNat ⟨0, 0, 0⟩).b⟩] : List V3))⟩] : List Own) = [⟨62, 3, .slice av1 ((upTo l kk (i + 1)).length) cv1, (upTo l kk (i + 1)).length, flat fV (upTo l kk (i + 1))⟩] := by first | (rw [upTo_in (d := ⟨0, 0, 0⟩) (by omega) (by assumption)]; try rfl) | (rw [upTo_out (d := ⟨0, 0, 0⟩) (by omega) (by assumption)]; try rfl)) <;> (rw [← e]; exact hO)
         refine hL3 _ _ _ (by omega) ⟨i + 1, av1, cv1, rfl, hf.conv (Ac rfl (Ac (by first | rfl | (congr 1; first | (rw [upTo_in (d := ⟨0, 0, 0⟩) (by omega) (by assumption)]; try rfl) | (rw [upTo_out (d := ⟨0, 0, 0⟩) (by omega) (by assumption)]; try rfl))) (Ac rfl (Ac (by congr 1; first | (rw [cntTo_in (d := ⟨0, 0, 0⟩) (by omega) (by assumption)]; done) | (rw [cntTo_out (d := ⟨0, 0, 0⟩) (by omega) (by assumption)]; done)) (Ac rfl (Ac rfl (Ao rfl))))))), hM, hk0, hO, (by omega)⟩
       · have hc5 := (nF hc5r)
         refine wp_skip ?_
         refine hK22 _ _ ?_
         refine wp_region_lit ?_
         refine q0 hf hM [31, 0, 7, 8, 9, 29, 30] [{ hint := some (iV (i + 1)) }, {}] (env' := [(31, eI (i + 1)), (0, eS av l.length c), (7, eS a8 (upTo l kk i).length c8), (8, eI kk), (9, eI (cntTo l kk i)), (29, eS av l.length c), (30, eI (l.length : Int))]) (ob := [(iV (IntKind.i64.wrap (i + 1)) : Value) = (iV (i + 1) : Value)]) (Ao (wr (by omega))) ?_
         clear hf; intro a hf
         refine wpList_nil ?_
         have hf := hf.prune [0, 7, 8, 9, 29, 30, 31]
         replace hf : Fr 49 [(0, eS av l.length c), (7, eS a8 (upTo l kk i).length c8), (8, eI kk), (9, eI (cntTo l kk i)), (29, eS av l.length c), (30, eI (l.length : Int)), (31, eI (i + 1))] a := hf
         replace hO : OwnOk w.heap.size [] [⟨62, 3, .slice a8 (upTo l kk i).length c8, (upTo l kk i).length, flat fV (upTo l kk i)⟩] w7 := hO.sub (.cons _ .slnil) (List.Sublist.refl _)
         replace hM : MemOk [] w7 := hM.sub (.cons _ .slnil)
         replace hO : OwnOk w.heap.size [] [⟨62, 3, .slice a8 ((upTo l kk (i + 1)).length) c8, (upTo l kk (i + 1)).length, flat fV (upTo l kk (i + 1))⟩] w7 := by
          first | exact hO | (have e : ([⟨62, 3, .slice a8 (upTo l kk i).length c8, (upTo l kk i).length, flat fV (upTo l kk i)⟩] : List Own) = [⟨62, 3, .slice a8 ((upTo l kk (i + 1)).length) c8, (upTo l kk (i + 1)).length, flat fV (upTo l kk (i + 1))⟩] := by first | (rw [upTo_in (d := ⟨0, 0, 0⟩) (by omega) (by assumption)]; try rfl) | (rw [upTo_out (d := ⟨0, 0, 0⟩) (by omega) (by assumption)]; try rfl)) <;> (rw [← e]; exact hO)
         refine hL3 _ _ _ (by omega) ⟨i + 1, a8, c8, rfl, hf.conv (Ac rfl (Ac (by first | rfl | (congr 1; first | (rw [upTo_in (d := ⟨0, 0, 0⟩) (by omega) (by assumption)]; try rfl) | (rw [upTo_out (d := ⟨0, 0, 0⟩) (by omega) (by assumption)]; try rfl))) (Ac rfl (Ac (by congr 1; first | (rw [cntTo_in (d := ⟨0, 0, 0⟩) (by omega) (by assumption)]; done) | (rw [cntTo_out (d := ⟨0, 0, 0⟩) (by omega) (by assumption)]; done)) (Ac rfl (Ac rfl (Ao rfl))))))), hM, hk0, hO, (by omega)⟩
     · have hc4 := (nU hc4r)
       refine wp_exit ?_
       refine hK18 _ _ ?_
       refine wp_seq_k (fun K26 hK26 => ?_)
       refine wp_region_lit ?_
       refine q0 hf hM [47, 0, 7, 8] [{}, {}] (env' := [(47, eB (decide (((cntTo l kk i) : Int) > 1))), (0, eS av l.length c), (7, eS a8 (upTo l kk i).length c8), (8, eI kk)]) (ob := []) An ?_
       clear hf; intro a hf
       refine wpList_nil ?_
       refine hK26 _ _ ?_
       refine qc hf (b := (decide (((cntTo l kk i) : Int) > 1))) (fun hc6r => ?_) (fun hc6r => ?_)
       · have hc6 := (nT hc6r)
         exfalso; have h5 := cntTo_end (l := l) (kk := kk) (i := i) (by omega); have h6 := count_one hn1 kk; omega
       · have hc6 := (nU hc6r)
         refine wp_skip ?_
         refine hK16 _ _ ?_
         refine wp_region_lit ?_
         refine q0 hf hM [8, 0, 7] [{}, { hint := some (iV (kk + 1)) }, {}] (env' := [(8, eI (kk + 1)), (0, eS av l.length c), (7, eS a8 (upTo l kk i).length c8)]) (ob := [(iV (IntKind.i64.wrap (kk + 1)) : Value) = (iV (kk + 1) : Value)]) (Ao (wr (by omega))) ?_
         clear hf; intro a hf
         refine wpList_nil ?_
         have hcn2 : ∀ j : Int, 0 ≤ j → j < kk + 1 → (l.map (·.k)).count j ≤ 1 := fun j h1 h2 => by
           by_cases hj : j < kk
           · exact hcn j h1 hj
           · obtain rfl : j = kk := by omega
             have h5 := cntTo_end (l := l) (kk := j) (i := i) (by omega)
             omega
         have hf := hf.prune [0, 7, 8]
         replace hf : Fr 49 [(0, eS av l.length c), (7, eS a8 (upTo l kk i).length c8), (8, eI (kk + 1))] a := hf
         replace hO : OwnOk w.heap.size [] [⟨62, 3, .slice a8 ((byKinds l (kk + 1).toNat).length) c8, (byKinds l (kk + 1).toNat).length, flat fV (byKinds l (kk + 1).toNat)⟩] w6 := by
          first | exact hO | (have e : ([⟨62, 3, .slice a8 (upTo l kk i).length c8, (upTo l kk i).length, flat fV (upTo l kk i)⟩] : List Own) = [⟨62, 3, .slice a8 ((byKinds l (kk + 1).toNat).length) c8, (byKinds l (kk + 1).toNat).length, flat fV (byKinds l (kk + 1).toNat)⟩] := by rw [upTo_end (i := i) (by omega) (by omega)]) <;> (rw [← e]; exact hO)
         refine hL2 _ _ _ (by omega) ⟨kk + 1, a8, c8, rfl, hf.conv (Ac rfl (Ac (by rw [upTo_end (i := i) (by omega) (by omega)]; rfl) (Ao rfl))), hM, hk0, hO, (by omega), hcn2⟩
   · have hc3 := (nU hc3r)
     refine wp_exit ?_
     refine hK12 _ _ ?_
     refine wp_seq_k (fun K27 hK27 => ?_)
     refine wp_region_lit ?_
     refine q0 hf hM [3, 2] [{}, {}, {}] (env' := [(3, eI 0), (2, eS a7 (byKinds l kk.toNat).length c7)]) (ob := []) An ?_
     clear hf; intro a hf
     refine wpList_nil ?_
     refine hK27 _ _ ?_
     refine wp_ret ?_
     refine qr (fn := Tryd.f33) hf hM [] (l := [.slice a7 (byKinds l kk.toNat).length c7, iV 0]) (ob := []) An ?_
     show ∃ a' c', (.tuple #[.slice a7 (byKinds l kk.toNat).length c7, iV 0] : Value) = .tuple #[.slice a' (byKinds l 10).length c', .int .i64 0] ∧ Keep Nn w w5 ∧ World.ownsRow w5 w.heap.size 62 3 (.slice a' (byKinds l 10).length c') (byKinds l 10).length (flat fV (byKinds l 10))
     obtain rfl : kk = 10 := by omega
     exact ⟨_, _, rfl, hk0, hO.own _ (List.Mem.head _)⟩

set_option maxRecDepth 10000 in
set_option maxHeartbeats 1600000 in
theorem rrow_dup (av : Option Addr) (l : List V3) (c : Nat) (w : World) (hn0 : (firstBad l == 0) = true) (hn1 : (noDup l) = false) (hav : Arr w 3 av l.length c (flat fV l)) (hbav : l.length ≤ 1000000) :
    Calls Tryd.prog 33 #[.slice av l.length c] w (Ret fun v w' => v = .tuple #[.slice none 0 0, .int .i64 4] ∧ Keep Nn w w') := by
 refine sxenter (n := 49) (args := [.slice av l.length c]) Tryd.func33 rfl rfl rfl fun a hf => ?_
 replace hf : Fr 49 [(0, eS av l.length c)] a := hf
 have hM : MemOk [] w := MemOk.nil w
 have hk0 : Keep Nn w w := Keep.refl _ _
 have hn : firstBad l = 0 := by simpa using hn0
 refine wp_seq_k (fun K1 hK1 => ?_)
 refine wp_region_lit ?_
 refine q0 hf hM [0] [{}, {}] (env' := [(0, eS av l.length c)]) (ob := []) An ?_
 clear hf; intro a hf
 refine wpList_nil ?_
 refine hK1 _ _ ?_
 refine wp_seq_k (fun K2 hK2 => ?_)
 refine wp_seq_k (fun K3 hK3 => ?_)
 refine wp_region_lit ?_
 refine q0 hf hM [14, 13, 12, 0] [{}, {}, {}] (env' := [(14, eI 0), (13, eI (l.length : Int)), (12, eS av l.length c), (0, eS av l.length c)]) (ob := []) An ?_
 clear hf; intro a hf
 refine wpList_nil ?_
 refine hK3 _ _ ?_
 refine wp_block ?_
 have hf := hf.prune [0, 12, 13, 14]
 replace hf : Fr 49 [(0, eS av l.length c), (12, eS av l.length c), (13, eI (l.length : Int)), (14, eI 0)] a := hf
 refine sxloop (fun zm a w1 => ∃ (i : Int), zm = ((l.length : Int) - i).toNat ∧ Fr 49 [(0, eS av l.length c), (12, eS av l.length c), (13, eI (l.length : Int)), (14, eI i)] a ∧ MemOk [] w1 ∧ Keep Nn w w1 ∧ (0 ≤ i ∧ i ≤ (l.length : Int)) ∧ (firstBad (l.drop i.toNat) = firstBad l)) _ ⟨0, rfl, hf.conv (Ac rfl (Ac rfl (Ac rfl (Ao rfl)))), hM, hk0, (by omega), rfl⟩ ?_
 clear hf hM hk0
 rintro _ a w1 ⟨i, rfl, hf, hM, hk0, hi, hfb⟩ L1 hL1
 refine wp_seq_k (fun K4 hK4 => ?_)
 refine wp_region_lit ?_
 refine q0 hf hM [15, 0, 12, 13, 14] [{}] (env' := [(15, eB (decide ((i : Int) < (l.length : Int)))), (0, eS av l.length c), (12, eS av l.length c), (13, eI (l.length : Int)), (14, eI i)]) (ob := []) An ?_
 clear hf; intro a hf
 refine wpList_nil ?_
 refine hK4 _ _ ?_
 refine wp_seq_k (fun K5 hK5 => ?_)
 refine qc hf (b := (decide ((i : Int) < (l.length : Int)))) (fun hc1r => ?_) (fun hc1r => ?_)
 · have hc1 := (nT hc1r)
   refine wp_skip ?_
   refine hK5 _ _ ?_
   refine wp_seq_k (fun K6 hK6 => ?_)
   refine wp_block ?_
   refine wp_seq_k (fun K7 hK7 => ?_)
   refine wp_region_lit ?_
   refine q1 hf hM [5, 0, 12, 13, 14] [{ sp := true }, { os := [.ex (iV (l.getD i.toNat ⟨0, 0, 0⟩).k), .ex (iV (l.getD i.toNat ⟨0, 0, 0⟩).a), .ex (iV (l.getD i.toNat ⟨0, 0, 0⟩).b)] }, { os := [.nw] }, { os := [.st 0 0, .st 0 1, .st 0 2] }] (env' := fun B4 => [(5, eP B4 0), (0, eS av l.length c), (12, eS av l.length c), (13, eI (l.length : Int)), (14, eI i)]) (M' := fun B4 => [⟨B4, 62, [iV (l.getD i.toNat ⟨0, 0, 0⟩).k, iV (l.getD i.toNat ⟨0, 0, 0⟩).a, iV (l.getD i.toNat ⟨0, 0, 0⟩).b]⟩]) (ob := fun B4 => [(0 : Int) ≤ i ∧ i < (l.length : Int), (av : Option Addr).isSome = true, w1.cell? (((sa av : Addr).add (i.toNat * 3)).add 0) = some (iV (l.getD i.toNat ⟨0, 0, 0⟩).k), w1.cell? (((sa av : Addr).add (i.toNat * 3)).add 1) = some (iV (l.getD i.toNat ⟨0, 0, 0⟩).a), w1.cell? (((sa av : Addr).add (i.toNat * 3)).add 2) = some (iV (l.getD i.toNat ⟨0, 0, 0⟩).b), Ad B4 0, Ad B4 1, Ad B4 2]) (fun B4 => (Ac (by first | omega | (simp; done)) (Ac ((hav.keepNn hk0).some_ (by first | omega | (simp; done))) (Ac ((hav.keepNn hk0).get (fun _ => rfl) (by first | omega | (simp; done)) rfl) (Ac ((hav.keepNn hk0).get (fun _ => rfl) (by first | omega | (simp; done)) rfl) (Ac ((hav.keepNn hk0).get (fun _ => rfl) (by first | omega | (simp; done)) rfl) (Ac (ad _ _) (Ac (ad _ _) (Ao (ad _ _)))))))))) ?_
   clear hf hM; intro a w2 B4 hf hM hB hk
   have hbB4 : w.heap.size ≤ B4 := by have := hk0.size; omega
   have hk0 := hk0.then hk (by intro i _ h; cases h)
   clear hk hB
   refine wpList_nil ?_
   refine hK7 _ _ ?_
   refine wp_seq_k (fun K8 hK8 => ?_)
   refine wp_region_lit ?_
   refine q0 hf hM [18, 0, 12, 13, 14] [{ os := [.ld 0 0, .ld 0 1, .ld 0 2] }] (env' := [(18, .val (.agg #[iV (l.getD i.toNat ⟨0, 0, 0⟩).k, iV (l.getD i.toNat ⟨0, 0, 0⟩).a, iV (l.getD i.toNat ⟨0, 0, 0⟩).b])), (0, eS av l.length c), (12, eS av l.length c), (13, eI (l.length : Int)), (14, eI i)]) (ob := [Ad B4 0, Ad B4 1, Ad B4 2]) (Ac (ad _ _) (Ac (ad _ _) (Ao (ad _ _)))) ?_
   clear hf; intro a hf
   refine sxcall hf rfl rfl rfl rfl (g := 34) (vs := [.agg #[iV (l.getD i.toNat ⟨0, 0, 0⟩).k, iV (l.getD i.toNat ⟨0, 0, 0⟩).a, iV (l.getD i.toNat ⟨0, 0, 0⟩).b]]) (ob := []) (by as_aux_lemma => kernel_rfl) An enters34 (rcheck (l.getD i.toNat ⟨0, 0, 0⟩).k (l.getD i.toNat ⟨0, 0, 0⟩).a (l.getD i.toNat ⟨0, 0, 0⟩).b w2  ) ?_
   clear hf; rintro _ w3 a ⟨rfl, hk⟩ hf
   have hM := hM.keepNn hk
   have hk0 := hk0.trans hk.nn
   clear hk
   refine q0 hf hM [6, 0, 12, 13, 14] [{}] (env' := [(6, eI (vcheck ⟨(l.getD i.toNat ⟨0, 0, 0⟩).k, (l.getD i.toNat ⟨0, 0, 0⟩).a, (l.getD i.toNat ⟨0, 0, 0⟩).b⟩)), (0, eS av l.length c), (12, eS av l.length c), (13, eI (l.length : Int)), (14, eI i)]) (ob := []) An ?_
   clear hf; intro a hf
   refine wpList_nil ?_
   refine hK8 _ _ ?_
   refine wp_seq_k (fun K9 hK9 => ?_)
   refine wp_region_lit ?_
   refine q0 hf hM [21, 6, 0, 12, 13, 14] [{}, {}] (env' := [(21, eB (((vcheck ⟨(l.getD i.toNat ⟨0, 0, 0⟩).k, (l.getD i.toNat ⟨0, 0, 0⟩).a, (l.getD i.toNat ⟨0, 0, 0⟩).b⟩) : Int) != 0)), (6, eI (vcheck ⟨(l.getD i.toNat ⟨0, 0, 0⟩).k, (l.getD i.toNat ⟨0, 0, 0⟩).a, (l.getD i.toNat ⟨0, 0, 0⟩).b⟩)), (0, eS av l.length c), (12, eS av l.length c), (13, eI (l.length : Int)), (14, eI i)]) (ob := []) An ?_
   clear hf; intro a hf
   refine wpList_nil ?_
   refine hK9 _ _ ?_
   refine qc hf (b := (((vcheck ⟨(l.getD i.toNat ⟨0, 0, 0⟩).k, (l.getD i.toNat ⟨0, 0, 0⟩).a, (l.getD i.toNat ⟨0, 0, 0⟩).b⟩) : Int) != 0)) (fun hc2r => ?_) (fun hc2r => ?_)
   · have hc2 := (nN hc2r)
     refine wp_seq_k (fun K10 hK10 => ?_)
     refine wp_region_lit ?_
     refine q0 hf hM [3, 2] [{}, {}, {}] (env' := [(3, eI (vcheck ⟨(l.getD i.toNat ⟨0, 0, 0⟩).k, (l.getD i.toNat ⟨0, 0, 0⟩).a, (l.getD i.toNat ⟨0, 0, 0⟩).b⟩)), (2, eS none 0 0)]) (ob := []) An ?_
     clear hf; intro a hf
     refine wpList_nil ?_
     refine hK10 _ _ ?_
     refine wp_ret ?_
     refine qr (fn := Tryd.f33) hf hM [] (l := [.slice none 0 0, iV (vcheck ⟨(l.getD i.toNat ⟨0, 0, 0⟩).k, (l.getD i.toNat ⟨0, 0, 0⟩).a, (l.getD i.toNat ⟨0, 0, 0⟩).b⟩)]) (ob := []) An ?_
     show (.tuple #[.slice none 0 0, iV (vcheck ⟨(l.getD i.toNat ⟨0, 0, 0⟩).k, (l.getD i.toNat ⟨0, 0, 0⟩).a, (l.getD i.toNat ⟨0, 0, 0⟩).b⟩)] : Value) = .tuple #[.slice none 0 0, .int .i64 4] ∧ Keep Nn w w3
     first | exact ⟨rfl, hk0⟩ | (exfalso; have h1 := firstBad_step (l := l) (i := i.toNat) (d := ⟨0, 0, 0⟩) (by omega); have h2 : ¬ vcheck (l.getD i.toNat ⟨0, 0, 0⟩) = 0 := (by assumption); rw [if_neg h2, hfb, hn] at h1; exact h2 h1.symm)
   · have hc2 := (nM hc2r)
     refine wp_skip ?_
     refine hK6 _ _ ?_
     refine wp_region_lit ?_
     refine q0 hf hM [14, 0, 12, 13] [{ hint := some (iV (i + 1)) }, {}] (env' := [(14, eI (i + 1)), (0, eS av l.length c), (12, eS av l.length c), (13, eI (l.length : Int))]) (ob := [(iV (IntKind.i64.wrap (i + 1)) : Value) = (iV (i + 1) : Value)]) (Ao (wr (by omega))) ?_
     clear hf; intro a hf
     refine wpList_nil ?_
     have hfb2 : firstBad (l.drop (i + 1).toNat) = firstBad l := by
       have h1 := firstBad_step (l := l) (i := i.toNat) (d := ⟨0, 0, 0⟩) (by omega)
       have h2 : vcheck (l.getD i.toNat ⟨0, 0, 0⟩) = 0 := by assumption
       rw [h2, if_pos rfl, hfb] at h1
       rw [h1, show (i + 1).toNat = i.toNat + 1 by omega]
     have hf := hf.prune [0, 12, 13, 14]
     replace hf : Fr 49 [(0, eS av l.length c), (12, eS av l.length c), (13, eI (l.length : Int)), (14, eI (i + 1))] a := hf
     replace hM : MemOk [] w3 := hM.sub (.cons _ .slnil)
     refine hL1 _ _ _ (by omega) ⟨i + 1, rfl, hf.conv (Ac rfl (Ac rfl (Ac rfl (Ao rfl)))), hM, hk0, (by omega), hfb2⟩
 · have hc1 := (nU hc1r)
   refine wp_exit ?_
   refine hK2 _ _ ?_
   refine wp_seq_k (fun K11 hK11 => ?_)
   refine wp_region_lit ?_
   refine sxbslice hf hM (t := 23) (e := 62) (len := 0) (cs := []) (ob := []) rfl rfl rfl rfl (by as_aux_lemma => kernel_rfl) An (by as_aux_lemma => kernel_rfl) ?_
   clear hf hM; intro a w4 B10 hf hM hB hk
   replace hM : MemOk [⟨B10, 62, []⟩] w4 := hM
   have hbB10 : w.heap.size ≤ B10 := by have := hk0.size; omega
   have hk0 := hk0.trans hk.nn
   clear hk hB
   refine q0 hf hM [7, 0] [{}] (env' := [(7, eS (some ⟨B10, 0, none⟩) 0 0), (0, eS av l.length c)]) (ob := []) An ?_
   clear hf; intro a hf
   refine wpList_nil ?_
   refine hK11 _ _ ?_
   refine wp_seq_k (fun K12 hK12 => ?_)
   refine wp_seq_k (fun K13 hK13 => ?_)
   refine wp_region_lit ?_
   refine q0 hf hM [8, 7, 0] [{}] (env' := [(8, eI 0), (7, eS (some ⟨B10, 0, none⟩) 0 0), (0, eS av l.length c)]) (ob := []) An ?_
   clear hf; intro a hf
   refine wpList_nil ?_
   refine hK13 _ _ ?_
   refine wp_block ?_
   have hO : OwnOk w.heap.size [⟨B10, 62, []⟩] [] w4 := OwnOk.nil hM
   replace hO := OwnOk.took (M1 := []) (M2 := []) (sz := 3) hO hM (n := 0) (c := 0) (by have := hk0.size; omega) (by decide) (by decide) rfl
   replace hM : MemOk [] w4 := hM.sub (.cons _ .slnil)
   replace hO : OwnOk w.heap.size [] [⟨62, 3, .slice (some ⟨B10, 0, none⟩) 0 0, 0, flat fV ([] : List V3)⟩] w4 := hO
   have hf := hf.prune [0, 7, 8]
   replace hf : Fr 49 [(0, eS av l.length c), (7, eS (some ⟨B10, 0, none⟩) 0 0), (8, eI 0)] a := hf
   replace hO : OwnOk w.heap.size [] [⟨62, 3, .slice (some ⟨B10, 0, none⟩) ((byKinds l (0 : Int).toNat).length) 0, (byKinds l (0 : Int).toNat).length, flat fV (byKinds l (0 : Int).toNat)⟩] w4 := by
    first | exact hO | (have e : ([⟨62, 3, .slice (some ⟨B10, 0, none⟩) 0 0, 0, flat fV ([] : List V3)⟩] : List Own) = [⟨62, 3, .slice (some ⟨B10, 0, none⟩) ((byKinds l (0 : Int).toNat).length) 0, (byKinds l (0 : Int).toNat).length, flat fV (byKinds l (0 : Int).toNat)⟩] := by rfl) <;> (rw [← e]; exact hO)
   refine sxloop (fun zm a w1 => ∃ (kk : Int) (a7 : Option Addr) (c7 : Nat), zm = (10 - kk).toNat ∧ Fr 49 [(0, eS av l.length c), (7, eS a7 (byKinds l kk.toNat).length c7), (8, eI kk)] a ∧ MemOk [] w1 ∧ Keep Nn w w1 ∧ OwnOk w.heap.size [] [⟨62, 3, .slice a7 (byKinds l kk.toNat).length c7, (byKinds l kk.toNat).length, flat fV (byKinds l kk.toNat)⟩] w1 ∧ (0 ≤ kk ∧ kk ≤ 10) ∧ (∀ j : Int, 0 ≤ j → j < kk → (l.map (·.k)).count j ≤ 1)) _ ⟨0, some ⟨B10, 0, none⟩, 0, rfl, hf.conv (Ac rfl (Ac rfl (Ao rfl))), hM, hk0, hO, (by omega), (fun j h1 h2 => by omega)⟩ ?_
   clear hf hM hk0 hO
   rintro _ a w5 ⟨kk, a7, c7, rfl, hf, hM, hk0, hO, hkk, hcn⟩ L2 hL2
   refine wp_seq_k (fun K14 hK14 => ?_)
   refine wp_seq_k (fun K15 hK15 => ?_)
   refine wp_region_lit ?_
   refine q0 hf hM [26, 0, 7, 8] [{}, {}] (env' := [(26, eB (decide ((kk : Int) < 10))), (0, eS av l.length c), (7, eS a7 (byKinds l kk.toNat).length c7), (8, eI kk)]) (ob := []) An ?_
   clear hf; intro a hf
   refine wpList_nil ?_
   refine hK15 _ _ ?_
   refine qc hf (b := (decide ((kk : Int) < 10))) (fun hc3r => ?_) (fun hc3r => ?_)
   · have hc3 := (nT hc3r)
     refine wp_skip ?_
     refine hK14 _ _ ?_
     refine wp_seq_k (fun K16 hK16 => ?_)
     refine wp_block ?_
     refine wp_seq_k (fun K17 hK17 => ?_)
     refine wp_region_lit ?_
     refine q0 hf hM [9, 0, 7, 8] [{}] (env' := [(9, eI 0), (0, eS av l.length c), (7, eS a7 (byKinds l kk.toNat).length c7), (8, eI kk)]) (ob := []) An ?_
     clear hf; intro a hf
     refine wpList_nil ?_
     refine hK17 _ _ ?_
     refine wp_seq_k (fun K18 hK18 => ?_)
     refine wp_seq_k (fun K19 hK19 => ?_)
     refine wp_region_lit ?_
     refine q0 hf hM [31, 30, 29, 9, 0, 7, 8] [{}, {}, {}] (env' := [(31, eI 0), (30, eI (l.length : Int)), (29, eS av l.length c), (9, eI 0), (0, eS av l.length c), (7, eS a7 (byKinds l kk.toNat).length c7), (8, eI kk)]) (ob := []) An ?_
     clear hf; intro a hf
     refine wpList_nil ?_
     refine hK19 _ _ ?_
     refine wp_block ?_
     have hz1 := cntTo_zero l kk; have hz2 := upTo_zero l kk
     have hf := hf.prune [0, 7, 8, 9, 29, 30, 31]
     replace hf : Fr 49 [(0, eS av l.length c), (7, eS a7 (byKinds l kk.toNat).length c7), (8, eI kk), (9, eI 0), (29, eS av l.length c), (30, eI (l.length : Int)), (31, eI 0)] a := hf
     replace hO : OwnOk w.heap.size [] [⟨62, 3, .slice a7 (upTo l kk 0).length c7, (upTo l kk 0).length, flat fV (upTo l kk 0)⟩] w5 := by
      first | exact hO | (have e : ([⟨62, 3, .slice a7 (byKinds l kk.toNat).length c7, (byKinds l kk.toNat).length, flat fV (byKinds l kk.toNat)⟩] : List Own) = [⟨62, 3, .slice a7 (upTo l kk 0).length c7, (upTo l kk 0).length, flat fV (upTo l kk 0)⟩] := by rw [upTo_zero]) <;> (rw [← e]; exact hO)
     refine sxloop (fun zm a w1 => ∃ (i : Int) (a8 : Option Addr) (c8 : Nat), zm = ((l.length : Int) - i).toNat ∧ Fr 49 [(0, eS av l.length c), (7, eS a8 (upTo l kk i).length c8), (8, eI kk), (9, eI (cntTo l kk i)), (29, eS av l.length c), (30, eI (l.length : Int)), (31, eI i)] a ∧ MemOk [] w1 ∧ Keep Nn w w1 ∧ OwnOk w.heap.size [] [⟨62, 3, .slice a8 (upTo l kk i).length c8, (upTo l kk i).length, flat fV (upTo l kk i)⟩] w1 ∧ (0 ≤ i ∧ i ≤ (l.length : Int))) _ ⟨0, a7, c7, rfl, hf.conv (Ac rfl (Ac (by rw [hz2]; rfl) (Ac rfl (Ac (congrArg _ hz1.symm) (Ac rfl (Ac rfl (Ao rfl))))))), hM, hk0, hO, (by omega)⟩ ?_
     clear hf hM hk0 hO
     rintro _ a w6 ⟨i, a8, c8, rfl, hf, hM, hk0, hO, hi⟩ L3 hL3
     have hul := upTo_len l kk i
     have hct := cntTo_le l kk i
     refine wp_seq_k (fun K20 hK20 => ?_)
     refine wp_region_lit ?_
     refine q0 hf hM [32, 0, 7, 8, 9, 29, 30, 31] [{}] (env' := [(32, eB (decide ((i : Int) < (l.length : Int)))), (0, eS av l.length c), (7, eS a8 (upTo l kk i).length c8), (8, eI kk), (9, eI (cntTo l kk i)), (29, eS av l.length c), (30, eI (l.length : Int)), (31, eI i)]) (ob := []) An ?_
     clear hf; intro a hf
     refine wpList_nil ?_
     refine hK20 _ _ ?_
     refine wp_seq_k (fun K21 hK21 => ?_)
     refine qc hf (b := (decide ((i : Int) < (l.length : Int)))) (fun hc4r => ?_) (fun hc4r => ?_)
     · have hc4 := (nT hc4r)
       refine wp_skip ?_
       refine hK21 _ _ ?_
       refine wp_seq_k (fun K22 hK22 => ?_)
       refine wp_block ?_
       refine wp_seq_k (fun K23 hK23 => ?_)
       refine wp_region_lit ?_
       refine q1 hf hM [11, 0, 7, 8, 9, 29, 30, 31] [{ sp := true }, { os := [.ex (iV (l.getD i.toNat ⟨0, 0, 0⟩).k), .ex (iV (l.getD i.toNat ⟨0, 0, 0⟩).a), .ex (iV (l.getD i.toNat ⟨0, 0, 0⟩).b)] }, { os := [.nw] }, { os := [.st 0 0, .st 0 1, .st 0 2] }] (env' := fun B17 => [(11, eP B17 0), (0, eS av l.length c), (7, eS a8 (upTo l kk i).length c8), (8, eI kk), (9, eI (cntTo l kk i)), (29, eS av l.length c), (30, eI (l.length : Int)), (31, eI i)]) (M' := fun B17 => [⟨B17, 62, [iV (l.getD i.toNat ⟨0, 0, 0⟩).k, iV (l.getD i.toNat ⟨0, 0, 0⟩).a, iV (l.getD i.toNat ⟨0, 0, 0⟩).b]⟩]) (ob := fun B17 => [(0 : Int) ≤ i ∧ i < (l.length : Int), (av : Option Addr).isSome = true, w6.cell? (((sa av : Addr).add (i.toNat * 3)).add 0) = some (iV (l.getD i.toNat ⟨0, 0, 0⟩).k), w6.cell? (((sa av : Addr).add (i.toNat * 3)).add 1) = some (iV (l.getD i.toNat ⟨0, 0, 0⟩).a), w6.cell? (((sa av : Addr).add (i.toNat * 3)).add 2) = some (iV (l.getD i.toNat ⟨0, 0, 0⟩).b), Ad B17 0, Ad B17 1, Ad B17 2]) (fun B17 => (Ac (by first | omega | (simp; done)) (Ac ((hav.keepNn hk0).some_ (by first | omega | (simp; done))) (Ac ((hav.keepNn hk0).get (fun _ => rfl) (by first | omega | (simp; done)) rfl) (Ac ((hav.keepNn hk0).get (fun _ => rfl) (by first | omega | (simp; done)) rfl) (Ac ((hav.keepNn hk0).get (fun _ => rfl) (by first | omega | (simp; done)) rfl) (Ac (ad _ _) (Ac (ad _ _) (Ao (ad _ _)))))))))) ?_
       clear hf hM; intro a w7 B17 hf hM hB hk
       have hbB17 : w.heap.size ≤ B17 := by have := hk0.size; omega
       have hk0 := hk0.then hk (by intro i _ h; cases h)
       have hO := hO.step hM (hk.mono (by intro _ _ h; cases h)) (by intro i h; simp only [Mem.names, List.map_cons, List.map_nil, List.mem_cons, List.not_mem_nil, or_false, List.map_append, List.cons_append, List.nil_append] at h ⊢; omega)
       clear hk hB
       refine wpList_nil ?_
       refine hK23 _ _ ?_
       refine wp_seq_k (fun K24 hK24 => ?_)
       refine wp_region_lit ?_
       refine q0 hf hM [38, 11, 0, 7, 8, 9, 29, 30, 31] [{}, { os := [.ld 0 0] }, {}, {}] (env' := [(38, eB (((l.getD i.toNat ⟨0, 0, 0⟩).k : Int) == kk)), (11, eP B17 0), (0, eS av l.length c), (7, eS a8 (upTo l kk i).length c8), (8, eI kk), (9, eI (cntTo l kk i)), (29, eS av l.length c), (30, eI (l.length : Int)), (31, eI i)]) (ob := [Ad B17 0]) (Ao (ad _ _)) ?_
       clear hf; intro a hf
       refine wpList_nil ?_
       refine hK24 _ _ ?_
       refine qc hf (b := (((l.getD i.toNat ⟨0, 0, 0⟩).k : Int) == kk)) (fun hc5r => ?_) (fun hc5r => ?_)
       · have hc5 := (nE hc5r)
         refine wp_seq_k (fun K25 hK25 => ?_)
         refine wp_region_lit ?_
         refine q0 hf hM [40, 39, 0, 7, 8, 9, 29, 30, 31] [{}, { os := [.ld 0 0, .ld 0 1, .ld 0 2] }] (env' := [(40, .val (.agg #[iV (l.getD i.toNat ⟨0, 0, 0⟩).k, iV (l.getD i.toNat ⟨0, 0, 0⟩).a, iV (l.getD i.toNat ⟨0, 0, 0⟩).b])), (39, eS a8 (upTo l kk i).length c8), (0, eS av l.length c), (7, eS a8 (upTo l kk i).length c8), (8, eI kk), (9, eI (cntTo l kk i)), (29, eS av l.length c), (30, eI (l.length : Int)), (31, eI i)]) (ob := [Ad B17 0, Ad B17 1, Ad B17 2]) (Ac (ad _ _) (Ac (ad _ _) (Ao (ad _ _)))) ?_
         clear hf; intro a hf
         refine sxbslice hf hM (t := 23) (e := 62) (len := 1) (cs := [iV (l.getD i.toNat ⟨0, 0, 0⟩).k, iV (l.getD i.toNat ⟨0, 0, 0⟩).a, iV (l.getD i.toNat ⟨0, 0, 0⟩).b]) (ob := []) rfl rfl rfl rfl (by as_aux_lemma => kernel_rfl) An (by as_aux_lemma => kernel_rfl) ?_
         clear hf hM; intro a w8 B20 hf hM hB hk
         replace hM : MemOk [⟨B17, 62, [iV (l.getD i.toNat ⟨0, 0, 0⟩).k, iV (l.getD i.toNat ⟨0, 0, 0⟩).a, iV (l.getD i.toNat ⟨0, 0, 0⟩).b]⟩, ⟨B20, 62, [iV (l.getD i.toNat ⟨0, 0, 0⟩).k, iV (l.getD i.toNat ⟨0, 0, 0⟩).a, iV (l.getD i.toNat ⟨0, 0, 0⟩).b]⟩] w8 := hM
         have hbB20 : w.heap.size ≤ B20 := by have := hk0.size; omega
         have hk0 := hk0.trans hk.nn
         have hO := hO.step hM hk.nn (by intro i h; simp only [Mem.names, List.map_cons, List.map_nil, List.mem_cons, List.not_mem_nil, or_false, List.map_append, List.cons_append, List.nil_append] at h ⊢; omega)
         clear hk hB
         replace hO : OwnOk w.heap.size [⟨B17, 62, [iV (l.getD i.toNat ⟨0, 0, 0⟩).k, iV (l.getD i.toNat ⟨0, 0, 0⟩).a, iV (l.getD i.toNat ⟨0, 0, 0⟩).b]⟩, ⟨B20, 62, [iV (l.getD i.toNat ⟨0, 0, 0⟩).k, iV (l.getD i.toNat ⟨0, 0, 0⟩).a, iV (l.getD i.toNat ⟨0, 0, 0⟩).b]⟩] [⟨62, 3, .slice a8 (upTo l kk i).length c8, (upTo l kk i).length, flat fV (upTo l kk i)⟩] w8 := OwnOk.front (l1 := []) (l2 := []) hO
         refine sxappend hf hM (e := 62) (sz := 3) (by_ := 24) (k := (upTo l kk i).length) (v := .slice a8 (upTo l kk i).length c8) (xs := flat fV (upTo l kk i)) hO rfl rfl rfl rfl (av := some ⟨B20, 0, none⟩) (m := 1) (c := 1) rfl rfl Tryd.underlying23 (by kernel_rfl) rfl (news := flat fV ([⟨(l.getD i.toNat ⟨0, 0, 0⟩).k, (l.getD i.toNat ⟨0, 0, 0⟩).a, (l.getD i.toNat ⟨0, 0, 0⟩).b⟩] : List V3)) (Arr.of_memT (sz := 3) (f := fV) (L := ([⟨(l.getD i.toNat ⟨0, 0, 0⟩).k, (l.getD i.toNat ⟨0, 0, 0⟩).a, (l.getD i.toNat ⟨0, 0, 0⟩).b⟩] : List V3)) (l := ([⟨(l.getD i.toNat ⟨0, 0, 0⟩).k, (l.getD i.toNat ⟨0, 0, 0⟩).a, (l.getD i.toNat ⟨0, 0, 0⟩).b⟩] : List V3)) hM (List.Mem.tail _ (List.Mem.head _)) (fun _ => rfl) rfl rfl) (flat_one1 fV_one) (by simp only [maxLen]; constructor <;> (first | omega | (simp; omega))) (by have := hk0.size; omega) ?_
         clear hf hM hO; intro a w9 av1 cv1 hf hM hO hk
         have en : ((upTo l kk i).length + 1 : Nat) = ((upTo l kk i) ++ ([⟨(l.getD i.toNat ⟨0, 0, 0⟩).k, (l.getD i.toNat ⟨0, 0, 0⟩).a, (l.getD i.toNat ⟨0, 0, 0⟩).b⟩] : List V3)).length := (by simp)
         have ec : flat fV (upTo l kk i) ++ flat fV ([⟨(l.getD i.toNat ⟨0, 0, 0⟩).k, (l.getD i.toNat ⟨0, 0, 0⟩).a, (l.getD i.toNat ⟨0, 0, 0⟩).b⟩] : List V3) = flat fV ((upTo l kk i) ++ ([⟨(l.getD i.toNat ⟨0, 0, 0⟩).k, (l.getD i.toNat ⟨0, 0, 0⟩).a, (l.getD i.toNat ⟨0, 0, 0⟩).b⟩] : List V3)) := (by simp [flat_app, flat_nil])
         rw [en] at hf hO; rw [ec] at hO; clear en ec
         replace hO : OwnOk w.heap.size [⟨B17, 62, [iV (l.getD i.toNat ⟨0, 0, 0⟩).k, iV (l.getD i.toNat ⟨0, 0, 0⟩).a, iV (l.getD i.toNat ⟨0, 0, 0⟩).b]⟩, ⟨B20, 62, [iV (l.getD i.toNat ⟨0, 0, 0⟩).k, iV (l.getD i.toNat ⟨0, 0, 0⟩).a, iV (l.getD i.toNat ⟨0, 0, 0⟩).b]⟩] [⟨62, 3, .slice av1 (((upTo l kk i) ++ ([⟨(l.getD i.toNat ⟨0, 0, 0⟩).k, (l.getD i.toNat ⟨0, 0, 0⟩).a, (l.getD i.toNat ⟨0, 0, 0⟩).b⟩] : List V3)).length) cv1, ((upTo l kk i) ++ ([⟨(l.getD i.toNat ⟨0, 0, 0⟩).k, (l.getD i.toNat ⟨0, 0, 0⟩).a, (l.getD i.toNat ⟨0, 0, 0⟩).b⟩] : List V3)).length, flat fV ((upTo l kk i) ++ ([⟨(l.getD i.toNat ⟨0, 0, 0⟩).k, (l.getD i.toNat ⟨0, 0, 0⟩).a, (l.getD i.toNat ⟨0, 0, 0⟩).b⟩] : List V3))⟩] w9 := hO
         have hk0 := hk0.then hk (by intro i hi h; have := h.1; omega)
         clear hk
         refine q0 hf hM [7, 0, 8, 9, 29, 30, 31] [{}] (env' := [(7, eS av1 (((upTo l kk i) ++ ([⟨(l.getD i.toNat ⟨0, 0, 0⟩).k, (l.getD i.toNat ⟨0, 0, 0⟩).a, (l.getD i.toNat ⟨0, 0, 0⟩).b⟩] : List V3)).length) cv1), (0, eS av l.length c), (8, eI kk), (9, eI (cntTo l kk i)), (29, eS av l.length c), (30, eI (l.length : Int)), (31, eI i)]) (ob := []) An ?_
         clear hf; intro a hf
         refine wpList_nil ?_
         refine hK25 _ _ ?_
         refine wp_region_lit ?_
         refine q0 hf hM [9, 7, 0, 8, 29, 30, 31] [{}, { hint := some (iV ((cntTo l kk i) + 1)) }, {}] (env' := [(9, eI ((cntTo l kk i) + 1)), (7, eS av1 (((upTo l kk i) ++ ([⟨(l.getD i.toNat ⟨0, 0, 0⟩).k, (l.getD i.toNat ⟨0, 0, 0⟩).a, (l.getD i.toNat ⟨0, 0, 0⟩).b⟩] : List V3)).length) cv1), (0, eS av l.length c), (8, eI kk), (29, eS av l.length c), (30, eI (l.length : Int)), (31, eI i)]) (ob := [(iV (IntKind.i64.wrap ((cntTo l kk i) + 1)) : Value) = (iV ((cntTo l kk i) + 1) : Value)]) (Ao (wr (by omega))) ?_
         clear hf; intro a hf
         refine wpList_nil ?_
         refine hK22 _ _ ?_
         refine wp_region_lit ?_
         refine q0 hf hM [31, 9, 7, 0, 8, 29, 30] [{ hint := some (iV (i + 1)) }, {}] (env' := [(31, eI (i + 1)), (9, eI ((cntTo l kk i) + 1)), (7, eS av1 (((upTo l kk i) ++ ([⟨(l.getD i.toNat ⟨0, 0, 0⟩).k, (l.getD i.toNat ⟨0, 0, 0⟩).a, (l.getD i.toNat ⟨0, 0, 0⟩).b⟩] : List V3)).length) cv1), (0, eS av l.length c), (8, eI kk), (29, eS av l.length c), (30, eI (l.length : Int))]) (ob := [(iV (IntKind.i64.wrap (i + 1)) : Value) = (iV (i + 1) : Value)]) (Ao (wr (by omega))) ?_
         clear hf; intro a hf
         refine wpList_nil ?_
         have hf := hf.prune [0, 7, 8, 9, 29, 30, 31]
         replace hf : Fr 49 [(0, eS av l.length c), (7, eS av1 (((upTo l kk i) ++ ([⟨(l.getD i.toNat ⟨0, 0, 0⟩).k, (l.getD i.toNat ⟨0, 0, 0⟩).a, (l.getD i.toNat ⟨0, 0, 0⟩).b⟩] : List V3)).length) cv1), (8, eI kk), (9, eI ((cntTo l kk i) + 1)), (29, eS av l.length c), (30, eI (l.length : Int)), (31, eI (i + 1))] a := hf
         replace hO : OwnOk w.heap.size [] [⟨62, 3, .slice av1 (((upTo l kk i) ++ ([⟨(l.getD i.toNat ⟨0, 0, 0⟩).k, (l.getD i.toNat ⟨0, 0, 0⟩).a, (l.getD i.toNat ⟨0, 0, 0⟩).b⟩] : List V3)).length) cv1, ((upTo l kk i) ++ ([⟨(l.getD i.toNat ⟨0, 0, 0⟩).k, (l.getD i.toNat ⟨0, 0, 0⟩).a, (l.getD i.toNat ⟨0, 0, 0⟩).b⟩] : List V3)).length, flat fV ((upTo l kk i) ++ ([⟨(l.getD i.toNat ⟨0, 0, 0⟩).k, (l.getD i.toNat ⟨0, 0, 0⟩).a, (l.getD i.toNat ⟨0, 0, 0⟩).b⟩] : List V3))⟩] w9 := hO.sub (.cons _ (.cons _ .slnil)) (List.Sublist.refl _)
         replace hM : MemOk [] w9 := hM.sub (.cons _ (.cons _ .slnil))
         replace hO : OwnOk w.heap.size [] [⟨62, 3, .slice av1 ((upTo l kk (i + 1)).length) cv1, (upTo l kk (i + 1)).length, flat fV (upTo l kk (i + 1))⟩] w9 := by
          first | exact hO | (have e : ([⟨62, 3, .slice av1 (((upTo l kk i) ++ ([⟨(l.getD i.toNat ⟨0, 0, 0⟩).k, (l.getD i.toNat ⟨0, 0, 0⟩).a, (l.getD i.toNat ⟨0, 0, 0⟩).b⟩] : List V3)).length) cv1, ((upTo l kk i) ++ ([⟨(l.getD i.toNat ⟨0, 0, 0⟩).k, (l.getD i.toNat ⟨0, 0, 0⟩).a, (l.getD i.toNat ⟨0, 0, 0⟩).b⟩] : List V3)).length, flat fV ((upTo l kk i) ++ ([⟨(l.getD i.toNat ⟨0, 0, 0⟩).k, (l.getD i.toNat ⟨0, 0, 0⟩).a, (l.getD i.toNat ⟨0, 0, 0⟩).b⟩] : List V3))⟩] : List Own) = [⟨62, 3, .slice av1 ((upTo l kk (i + 1)).length) cv1, (upTo l kk (i + 1)).length, flat fV (upTo l kk (i + 1))⟩] := by first | (rw [upTo_in (d := ⟨0, 0, 0⟩) (by omega) (by assumption)]; try rfl) | (rw [upTo_out (d := ⟨0, 0, 0⟩) (by omega) (by assumption)]; try rfl)) <;> (rw [← e]; exact hO)
         refine hL3 _ _ _ (by omega) ⟨i + 1, av1, cv1, rfl, hf.conv (Ac rfl (Ac (by first | rfl | (congr 1; first | (rw [upTo_in (d := ⟨0, 0, 0⟩) (by omega) (by assumption)]; try rfl) | (rw [upTo_out (d := ⟨0, 0, 0⟩) (by omega) (by assumption)]; try rfl))) (Ac rfl (Ac (by congr 1; first | (rw [cntTo_in (d := ⟨0, 0, 0⟩) (by omega) (by assumption)]; done) | (rw [cntTo_out (d := ⟨0, 0, 0⟩) (by omega) (by assumption)]; done)) (Ac rfl (Ac rfl (Ao rfl))))))), hM, hk0, hO, (by omega)⟩
       · have hc5 := (nF hc5r)
         refine wp_skip ?_
         refine hK22 _ _ ?_
         refine wp_region_lit ?_
         refine q0 hf hM [31, 0, 7, 8, 9, 29, 30] [{ hint := some (iV (i + 1)) }, {}] (env' := [(31, eI (i + 1)), (0, eS av l.length c), (7, eS a8 (upTo l kk i).length c8), (8, eI kk), (9, eI (cntTo l kk i)), (29, eS av l.length c), (30, eI (l.length : Int))]) (ob := [(iV (IntKind.i64.wrap (i + 1)) : Value) = (iV (i + 1) : Value)]) (Ao (wr (by omega))) ?_
         clear hf; intro a hf
         refine wpList_nil ?_
         have hf := hf.prune [0, 7, 8, 9, 29, 30, 31]
         replace hf : Fr 49 [(0, eS av l.length c), (7, eS a8 (upTo l kk i).length c8), (8, eI kk), (9, eI (cntTo l kk i)), (29, eS av l.length c), (30, eI (l.length : Int)), (31, eI (i + 1))] a := hf
         replace hO : OwnOk w.heap.size [] [⟨62, 3, .slice a8 (upTo l kk i).length c8, (upTo l kk i).length, flat fV (upTo l kk i)⟩] w7 := hO.sub (.cons _ .slnil) (List.Sublist.refl _)
         replace hM : MemOk [] w7 := hM.sub (.cons _ .slnil)
         replace hO : OwnOk w.heap.size [] [⟨62, 3, .slice a8 ((upTo l kk (i + 1)).length) c8, (upTo l kk (i + 1)).length, flat fV (upTo l kk (i + 1))⟩] w7 := by
          first | exact hO | (have e : ([⟨62, 3, .slice a8 (upTo l kk i).length c8, (upTo l kk i).length, flat fV (upTo l kk i)⟩] : List Own) = [⟨62, 3, .slice a8 ((upTo l kk (i + 1)).length) c8, (upTo l kk (i + 1)).length, flat fV (upTo l kk (i + 1))⟩] := by first | (rw [upTo_in (d := ⟨0, 0, 0⟩) (by omega) (by assumption)]; try rfl) | (rw [upTo_out (d := ⟨0, 0, 0⟩) (by omega) (by assumption)]; try rfl)) <;> (rw [← e]; exact hO)
         refine hL3 _ _ _ (by omega) ⟨i + 1, a8, c8, rfl, hf.conv (Ac rfl (Ac (by first | rfl | (congr 1; first | (rw [upTo_in (d := ⟨0, 0, 0⟩) (by omega) (by assumption)]; try rfl) | (rw [upTo_out (d := ⟨0, 0, 0⟩) (by omega) (by assumption)]; try rfl))) (Ac rfl (Ac (by congr 1; first | (rw [cntTo_in (d := ⟨0, 0, 0⟩) (by omega) (by assumption)]; done) | (rw [cntTo_out (d := ⟨0, 0, 0⟩) (by omega) (by assumption)]; done)) (Ac rfl (Ac rfl (Ao rfl))))))), hM, hk0, hO, (by omega)⟩
     · have hc4 := (nU hc4r)
       refine wp_exit ?_
       refine hK18 _ _ ?_
       refine wp_seq_k (fun K26 hK26 => ?_)
       refine wp_region_lit ?_
       refine q0 hf hM [47, 0, 7, 8] [{}, {}] (env' := [(47, eB (decide (((cntTo l kk i) : Int) > 1))), (0, eS av l.length c), (7, eS a8 (upTo l kk i).length c8), (8, eI kk)]) (ob := []) An ?_
       clear hf; intro a hf
       refine wpList_nil ?_
       refine hK26 _ _ ?_
       refine qc hf (b := (decide (((cntTo l kk i) : Int) > 1))) (fun hc6r => ?_) (fun hc6r => ?_)
       · have hc6 := (nT hc6r)
         refine wp_seq_k (fun K27 hK27 => ?_)
         refine wp_region_lit ?_
         refine q0 hf hM [3, 2] [{}, {}] (env' := [(3, eI 4), (2, eS none 0 0)]) (ob := []) An ?_
         clear hf; intro a hf
         refine wpList_nil ?_
         refine hK27 _ _ ?_
         refine wp_ret ?_
         refine qr (fn := Tryd.f33) hf hM [] (l := [.slice none 0 0, iV 4]) (ob := []) An ?_
         show (.tuple #[.slice none 0 0, iV 4] : Value) = .tuple #[.slice none 0 0, .int .i64 4] ∧ Keep Nn w w6
         first | exact ⟨rfl, hk0⟩ | (exfalso; have h1 := firstBad_step (l := l) (i := i.toNat) (d := ⟨0, 0, 0⟩) (by omega); have h2 : ¬ vcheck (l.getD i.toNat ⟨0, 0, 0⟩) = 0 := (by assumption); rw [if_neg h2, hfb, hn] at h1; exact h2 h1.symm)
       · have hc6 := (nU hc6r)
         refine wp_skip ?_
         refine hK16 _ _ ?_
         refine wp_region_lit ?_
         refine q0 hf hM [8, 0, 7] [{}, { hint := some (iV (kk + 1)) }, {}] (env' := [(8, eI (kk + 1)), (0, eS av l.length c), (7, eS a8 (upTo l kk i).length c8)]) (ob := [(iV (IntKind.i64.wrap (kk + 1)) : Value) = (iV (kk + 1) : Value)]) (Ao (wr (by omega))) ?_
         clear hf; intro a hf
         refine wpList_nil ?_
         have hcn2 : ∀ j : Int, 0 ≤ j → j < kk + 1 → (l.map (·.k)).count j ≤ 1 := fun j h1 h2 => by
           by_cases hj : j < kk
           · exact hcn j h1 hj
           · obtain rfl : j = kk := by omega
             have h5 := cntTo_end (l := l) (kk := j) (i := i) (by omega)
             omega
         have hf := hf.prune [0, 7, 8]
         replace hf : Fr 49 [(0, eS av l.length c), (7, eS a8 (upTo l kk i).length c8), (8, eI (kk + 1))] a := hf
         replace hO : OwnOk w.heap.size [] [⟨62, 3, .slice a8 ((byKinds l (kk + 1).toNat).length) c8, (byKinds l (kk + 1).toNat).length, flat fV (byKinds l (kk + 1).toNat)⟩] w6 := by
          first | exact hO | (have e : ([⟨62, 3, .slice a8 (upTo l kk i).length c8, (upTo l kk i).length, flat fV (upTo l kk i)⟩] : List Own) = [⟨62, 3, .slice a8 ((byKinds l (kk + 1).toNat).length) c8, (byKinds l (kk + 1).toNat).length, flat fV (byKinds l (kk + 1).toNat)⟩] := by rw [upTo_end (i := i) (by omega) (by omega)]) <;> (rw [← e]; exact hO)
         refine hL2 _ _ _ (by omega) ⟨kk + 1, a8, c8, rfl, hf.conv (Ac rfl (Ac (by rw [upTo_end (i := i) (by omega) (by omega)]; rfl) (Ao rfl))), hM, hk0, hO, (by omega), hcn2⟩
   · have hc3 := (nU hc3r)
     refine wp_exit ?_
     refine hK12 _ _ ?_
     refine wp_seq_k (fun K28 hK28 => ?_)
     refine wp_region_lit ?_
     refine q0 hf hM [3, 2] [{}, {}, {}] (env' := [(3, eI 0), (2, eS a7 (byKinds l kk.toNat).length c7)]) (ob := []) An ?_
     clear hf; intro a hf
     refine wpList_nil ?_
     refine hK28 _ _ ?_
     refine wp_ret ?_
     refine qr (fn := Tryd.f33) hf hM [] (l := [.slice a7 (byKinds l kk.toNat).length c7, iV 0]) (ob := []) An ?_
     show (.tuple #[.slice a7 (byKinds l kk.toNat).length c7, iV 0] : Value) = .tuple #[.slice none 0 0, .int .i64 4] ∧ Keep Nn w w5
     exfalso
     have h5 := noDup_of hn (fun j h1 h2 => hcn j h1 (by omega))
     rw [hn1] at h5
     cases h5
end Go.Proofs.YtifcgjnknikjkaaDoor
