/- layer 2: numbers in order -/
import Derived.Test.YtllopoaojchcmaaA5
import Derived.Test.YtllopoaojchcmaaXp2h
namespace Go.Proofs.Ytllopoaojchcmaa
open Go.Px
set_option linter.unusedVariables false
set_option linter.unusedSimpArgs false

set_option maxRecDepth 10000 in
set_option maxHeartbeats 1600000 in
theorem rInts (av : Option Addr) (l : List Int) (c : Nat) (w : World) (hav : Arr w 1 av l.length c (flat fI l)) (hbav : l.length ≤ 1000000) :
    Calls Try.prog 28 #[.slice av l.length c] w (Ret fun v w' => ∃ a' c', v = .slice a' (ordS ltI l).length c' ∧ Keep Nn w w' ∧ World.ownsRow w' w.heap.size 3 1 (.slice a' (ordS ltI l).length c') (ordS ltI l).length (flat fI (ordS ltI l))) := by
 refine sxenter (n := 52) (args := [.slice av l.length c]) Try.func28 rfl rfl rfl fun a hf => ?_
 replace hf : Fr 52 [(0, eS av l.length c)] a := hf
 have hM : MemOk [] w := MemOk.nil w
 have hk0 : Keep Nn w w := Keep.refl _ _
 refine wp_seq_k (fun K1 hK1 => ?_)
 refine wp_region_lit ?_
 refine q0 hf hM [0] [{}] (nw := []) An ?_
 clear hf; intro a hf
 refine wpList_nil ?_
 refine hK1 _ _ ?_
 refine wp_seq_k (fun K2 hK2 => ?_)
 refine wp_region_lit ?_
 refine sxbslice hf hM (t := 43) (e := 3) (len := 0) (cs := []) (ob := []) rfl rfl rfl rfl (by as_aux_lemma => kernel_rfl) An (by as_aux_lemma => kernel_rfl) ?_
 clear hf hM; intro a w1 B2 hf hM hB hk
 replace hM : MemOk [⟨B2, 3, []⟩] w1 := hM
 have hbB2 : w.heap.size ≤ B2 := by have := hk0.size; omega
 have hk0 := hk0.trans hk.nn
 clear hk hB
 refine q0 hf hM [0] [{}] (nw := [(3, eS (some ⟨B2, 0, none⟩) 0 0)]) An ?_
 clear hf; intro a hf
 refine wpList_nil ?_
 refine hK2 _ _ ?_
 refine wp_seq_k (fun K3 hK3 => ?_)
 refine wp_seq_k (fun K4 hK4 => ?_)
 refine wp_region_lit ?_
 refine q0 hf hM [3] [{}, {}, {}] (nw := [(10, eI 0), (9, eI (l.length : Int)), (8, eS av l.length c)]) An ?_
 clear hf; intro a hf
 refine wpList_nil ?_
 refine hK4 _ _ ?_
 refine wp_block ?_
 have hO : OwnOk w.heap.size [⟨B2, 3, []⟩] [] w1 := OwnOk.nil hM
 replace hO := OwnOk.took (M1 := []) (M2 := []) (sz := 1) hO hM (n := 0) (c := 0) (by have := hk0.size; omega) (by decide) (by decide) rfl
 replace hM : MemOk [] w1 := hM.sub (.cons _ .slnil)
 replace hO : OwnOk w.heap.size [] [⟨3, 1, .slice (some ⟨B2, 0, none⟩) 0 0, 0, flat fI ([] : List Int)⟩] w1 := hO
 have hf := (hf.prune [3, 8, 9, 10]).to (env' := [(3, eS (some ⟨B2, 0, none⟩) 0 0), (8, eS av l.length c), (9, eI (l.length : Int)), (10, eI 0)]) (by kernel_rfl)
 replace hO : OwnOk w.heap.size [] [⟨3, 1, .slice (some ⟨B2, 0, none⟩) ((ordS ltI (l.take (0 : Int).toNat)).length) 0, (ordS ltI (l.take (0 : Int).toNat)).length, flat fI (ordS ltI (l.take (0 : Int).toNat))⟩] w1 := by
  first | exact hO | (have e : ([⟨3, 1, .slice (some ⟨B2, 0, none⟩) 0 0, 0, flat fI ([] : List Int)⟩] : List Own) = [⟨3, 1, .slice (some ⟨B2, 0, none⟩) ((ordS ltI (l.take (0 : Int).toNat)).length) 0, (ordS ltI (l.take (0 : Int).toNat)).length, flat fI (ordS ltI (l.take (0 : Int).toNat))⟩] := by rfl) <;> (rw [← e]; exact hO)
 refine sxloop (fun zm a w1 => ∃ (i : Int) (a3 : Option Addr) (c3 : Nat), zm = ((l.length : Int) - i).toNat ∧ Fr 52 [(3, eS a3 ((ordS ltI (l.take i.toNat)).length) c3), (8, eS av l.length c), (9, eI (l.length : Int)), (10, eI i)] a ∧ MemOk [] w1 ∧ Keep Nn w w1 ∧ OwnOk w.heap.size [] [⟨3, 1, .slice a3 ((ordS ltI (l.take i.toNat)).length) c3, (ordS ltI (l.take i.toNat)).length, flat fI (ordS ltI (l.take i.toNat))⟩] w1 ∧ (0 ≤ i ∧ i ≤ (l.length : Int))) _ ⟨0, some ⟨B2, 0, none⟩, 0, rfl, hf.conv (Ac rfl (Ac rfl (Ac rfl (Ao rfl)))), hM, hk0, hO, (by omega)⟩ ?_
 clear hf hM hk0 hO
 rintro _ a w2 ⟨i, a3, c3, rfl, hf, hM, hk0, hO, hi⟩ L1 hL1
 have hol := ordS_takeLen (lt := ltI) l i.toNat
 refine wp_seq_k (fun K5 hK5 => ?_)
 refine wp_region_lit ?_
 refine q0 hf hM [3, 8, 9, 10] [{}] (nw := [(11, eB (decide ((i : Int) < (l.length : Int))))]) An ?_
 clear hf; intro a hf
 refine wpList_nil ?_
 refine hK5 _ _ ?_
 refine wp_seq_k (fun K6 hK6 => ?_)
 refine qc hf (b := (decide ((i : Int) < (l.length : Int)))) (fun hc1r => ?_) (fun hc1r => ?_)
 · have hc1 := (nT hc1r)
   refine wp_skip ?_
   refine hK6 _ _ ?_
   refine wp_seq_k (fun K7 hK7 => ?_)
   refine wp_block ?_
   refine wp_seq_k (fun K8 hK8 => ?_)
   refine wp_region_lit ?_
   refine q0 hf hM [3, 8, 9, 10] [{ sp := true }, { os := [.ex (iV (l.getD i.toNat 0))] }, {}] (nw := [(5, eI (l.getD i.toNat 0))]) (ob := [(0 : Int) ≤ i ∧ i < (l.length : Int), (av : Option Addr).isSome = true, w2.cell? ((sa av : Addr).add (i.toNat * 1)) = some (iV (l.getD i.toNat 0))]) (Ac (by first | omega | (simp; done)) (Ac ((hav.keepNn hk0).some_ (by first | omega | (simp; done))) (Ao ((hav.keepNn hk0).get0 (fun _ => rfl) (by first | omega | (simp; done)) rfl)))) ?_
   clear hf; intro a hf
   refine wpList_nil ?_
   refine hK8 _ _ ?_
   refine wp_seq_k (fun K9 hK9 => ?_)
   refine wp_region_lit ?_
   refine q0 hf hM [5, 3, 8, 9, 10] [{}] (nw := [(6, eI 0)]) An ?_
   clear hf; intro a hf
   refine wpList_nil ?_
   refine hK9 _ _ ?_
   obtain ⟨K10, hK10, oK10⟩ := kcls (fun a w1 => ∃ (kk : Int), Fr 52 [(3, eS a3 ((ordS ltI (l.take i.toNat)).length) c3), (5, eI (l.getD i.toNat 0)), (6, eI kk), (8, eS av l.length c), (9, eI (l.length : Int)), (10, eI i)] a ∧ MemOk [] w1 ∧ Keep Nn w w1 ∧ OwnOk w.heap.size [] [⟨3, 1, .slice a3 ((ordS ltI (l.take i.toNat)).length) c3, (ordS ltI (l.take i.toNat)).length, flat fI (ordS ltI (l.take i.toNat))⟩] w1 ∧ (0 ≤ kk ∧ kk ≤ ((ordS ltI (l.take i.toNat)).length : Int)) ∧ (kk.toNat = pos ltI (ordS ltI (l.take i.toNat)) (l.getD i.toNat 0)))
   refine sxjoin K10 ?_ ?_
   ·
     refine wp_block ?_
     have hf := (hf.prune [3, 5, 6, 8, 9, 10]).to (env' := [(3, eS a3 ((ordS ltI (l.take i.toNat)).length) c3), (5, eI (l.getD i.toNat 0)), (6, eI 0), (8, eS av l.length c), (9, eI (l.length : Int)), (10, eI i)]) (by kernel_rfl)
     refine sxloop (fun zm a w1 => ∃ (kk : Int), zm = (((ordS ltI (l.take i.toNat)).length : Int) - kk).toNat ∧ Fr 52 [(3, eS a3 ((ordS ltI (l.take i.toNat)).length) c3), (5, eI (l.getD i.toNat 0)), (6, eI kk), (8, eS av l.length c), (9, eI (l.length : Int)), (10, eI i)] a ∧ MemOk [] w1 ∧ Keep Nn w w1 ∧ OwnOk w.heap.size [] [⟨3, 1, .slice a3 ((ordS ltI (l.take i.toNat)).length) c3, (ordS ltI (l.take i.toNat)).length, flat fI (ordS ltI (l.take i.toNat))⟩] w1 ∧ (0 ≤ kk ∧ kk ≤ ((ordS ltI (l.take i.toNat)).length : Int)) ∧ (∀ j, j < kk.toNat → ltI ((ordS ltI (l.take i.toNat)).getD j 0) (l.getD i.toNat 0) = true)) _ ⟨0, rfl, hf.conv (Ac rfl (Ac rfl (Ac rfl (Ac rfl (Ac rfl (Ao rfl)))))), hM, hk0, hO, (by omega), (fun j hj => by simp at hj)⟩ ?_
     clear hf hM hk0 hO
     rintro _ a w3 ⟨kk, rfl, hf, hM, hk0, hO, hkk, hkf⟩ L2 hL2
     refine wp_seq_k (fun K11 hK11 => ?_)
     refine wp_seq_k (fun K12 hK12 => ?_)
     refine wp_region_lit ?_
     refine q0 hf hM [3, 5, 6, 8, 9, 10] [{}, {}, {}, {}, {}, { g := .sym }, { g := .sym }, { g := .sym, sp := true }, { g := .sym, os := [.ex (iV ((ordS ltI (l.take i.toNat)).getD kk.toNat 0))] }, { g := .sym }, { g := .sym }, { hint := some (bV ((decide ((kk : Int) < ((ordS ltI (l.take i.toNat)).length : Int))) && (decide ((((ordS ltI (l.take i.toNat)).getD kk.toNat 0) : Int) < (l.getD i.toNat 0))))) }] (nw := [(25, eB ((decide ((kk : Int) < ((ordS ltI (l.take i.toNat)).length : Int))) && (decide ((((ordS ltI (l.take i.toNat)).getD kk.toNat 0) : Int) < (l.getD i.toNat 0))))), (24, .gd (decide ((kk : Int) < ((ordS ltI (l.take i.toNat)).length : Int))) true (bV (decide ((((ordS ltI (l.take i.toNat)).getD kk.toNat 0) : Int) < (l.getD i.toNat 0))))), (23, .gd (decide ((kk : Int) < ((ordS ltI (l.take i.toNat)).length : Int))) true (iV (l.getD i.toNat 0))), (22, .gd (decide ((kk : Int) < ((ordS ltI (l.take i.toNat)).length : Int))) true (iV ((ordS ltI (l.take i.toNat)).getD kk.toNat 0))), (21, .gd (decide ((kk : Int) < ((ordS ltI (l.take i.toNat)).length : Int))) true (.pointer (some ((sa a3 : Addr).add (kk.toNat * 1))))), (20, .gd (decide ((kk : Int) < ((ordS ltI (l.take i.toNat)).length : Int))) true (iV kk)), (19, .gd (decide ((kk : Int) < ((ordS ltI (l.take i.toNat)).length : Int))) true (.slice a3 ((ordS ltI (l.take i.toNat)).length) c3))]) (ob := [((decide ((kk : Int) < ((ordS ltI (l.take i.toNat)).length : Int))) = true → (decide ((kk : Int) < ((ordS ltI (l.take i.toNat)).length : Int))) = (decide ((kk : Int) < ((ordS ltI (l.take i.toNat)).length : Int)))), ((decide ((kk : Int) < ((ordS ltI (l.take i.toNat)).length : Int))) = true → (decide ((kk : Int) < ((ordS ltI (l.take i.toNat)).length : Int))) = (decide ((kk : Int) < ((ordS ltI (l.take i.toNat)).length : Int)))), ((decide ((kk : Int) < ((ordS ltI (l.take i.toNat)).length : Int))) = true → (0 : Int) ≤ kk ∧ kk < ((ordS ltI (l.take i.toNat)).length : Int)), ((decide ((kk : Int) < ((ordS ltI (l.take i.toNat)).length : Int))) = true → (a3 : Option Addr).isSome = true), ((decide ((kk : Int) < ((ordS ltI (l.take i.toNat)).length : Int))) = true → (decide ((kk : Int) < ((ordS ltI (l.take i.toNat)).length : Int))) = (decide ((kk : Int) < ((ordS ltI (l.take i.toNat)).length : Int)))), ((decide ((kk : Int) < ((ordS ltI (l.take i.toNat)).length : Int))) = true → w3.cell? ((sa a3 : Addr).add (kk.toNat * 1)) = some (iV ((ordS ltI (l.take i.toNat)).getD kk.toNat 0))), ((decide ((kk : Int) < ((ordS ltI (l.take i.toNat)).length : Int))) = true → (decide ((kk : Int) < ((ordS ltI (l.take i.toNat)).length : Int))) = (decide ((kk : Int) < ((ordS ltI (l.take i.toNat)).length : Int)))), ((decide ((kk : Int) < ((ordS ltI (l.take i.toNat)).length : Int))) = true → (decide ((kk : Int) < ((ordS ltI (l.take i.toNat)).length : Int))) = (decide ((kk : Int) < ((ordS ltI (l.take i.toNat)).length : Int)))), ((decide ((kk : Int) < ((ordS ltI (l.take i.toNat)).length : Int))) = true → (decide ((kk : Int) < ((ordS ltI (l.take i.toNat)).length : Int))) = (decide ((kk : Int) < ((ordS ltI (l.take i.toNat)).length : Int)))), (bif (decide ((kk : Int) < ((ordS ltI (l.take i.toNat)).length : Int))) then (bV (decide ((((ordS ltI (l.take i.toNat)).getD kk.toNat 0) : Int) < (l.getD i.toNat 0))) : Value) else bV false) = .bool ((decide ((kk : Int) < ((ordS ltI (l.take i.toNat)).length : Int))) && (decide ((((ordS ltI (l.take i.toNat)).getD kk.toNat 0) : Int) < (l.getD i.toNat 0))))]) (Ac (fun hgd => rfl) (Ac (fun hgd => rfl) (Ac (fun hgd => (by first | omega | (simp at hgd; omega))) (Ac (fun hgd => ((own_arr (hO.own _ (List.Mem.head _))).some_ (by first | omega | (simp at hgd; omega)))) (Ac (fun hgd => rfl) (Ac (fun hgd => ((own_arr (hO.own _ (List.Mem.head _))).get0 (fun _ => rfl) (by first | omega | (simp at hgd; omega)) rfl)) (Ac (fun hgd => rfl) (Ac (fun hgd => rfl) (Ac (fun _ => rfl) (Ao (pick_and _ _))))))))))) ?_
     clear hf; intro a hf
     refine wpList_nil ?_
     refine hK12 _ _ ?_
     refine qc hf (b := ((decide ((kk : Int) < ((ordS ltI (l.take i.toNat)).length : Int))) && (decide ((((ordS ltI (l.take i.toNat)).getD kk.toNat 0) : Int) < (l.getD i.toNat 0))))) (fun hc2r => ?_) (fun hc2r => ?_)
     · have hc2 := hc2r
       try simp only [Bool.or_eq_true, Bool.and_eq_true, Bool.not_eq_true', Bool.not_eq_false', Bool.or_eq_false_iff, Bool.and_eq_false_iff, decide_eq_true_eq, decide_eq_false_iff_not, beq_iff_eq, bne_iff_ne, beq_eq_false_iff_ne, bne_eq_false_iff_eq, Bool.and_true, Bool.true_and, ne_eq] at hc2
       refine wp_skip ?_
       refine hK11 _ _ ?_
       refine wp_block ?_
       refine wp_region_lit ?_
       refine q0 hf hM [24, 23, 22, 21, 20, 19, 3, 5, 8, 9, 10] [{}, { hint := some (iV (kk + 1)) }, {}] (nw := [(6, eI (kk + 1))]) (ob := [(iV (IntKind.i64.wrap (kk + 1)) : Value) = (iV (kk + 1) : Value)]) (Ao (wr (by omega))) ?_
       clear hf; intro a hf
       refine wpList_nil ?_
       have hkf2 : ∀ j, j < (kk + 1).toNat → ltI ((ordS ltI (l.take i.toNat)).getD j 0) (l.getD i.toNat 0) = true := fun j hj => by
         rcases Nat.lt_or_ge j kk.toNat with h | h
         · exact hkf j h
         · obtain rfl : j = kk.toNat := by omega
           simp only [ltI, decide_eq_true_eq]; omega
       have hf := (hf.prune [3, 5, 6, 8, 9, 10]).to (env' := [(3, eS a3 ((ordS ltI (l.take i.toNat)).length) c3), (5, eI (l.getD i.toNat 0)), (6, eI (kk + 1)), (8, eS av l.length c), (9, eI (l.length : Int)), (10, eI i)]) (by kernel_rfl)
       refine hL2 _ _ _ (by omega) ⟨kk + 1, rfl, hf.conv (Ac rfl (Ac rfl (Ac rfl (Ac rfl (Ac rfl (Ao rfl)))))), hM, hk0, hO, (by omega), hkf2⟩
     · have hc2 := hc2r
       try simp only [Bool.or_eq_true, Bool.and_eq_true, Bool.not_eq_true', Bool.not_eq_false', Bool.or_eq_false_iff, Bool.and_eq_false_iff, decide_eq_true_eq, decide_eq_false_iff_not, beq_iff_eq, bne_iff_ne, beq_eq_false_iff_ne, bne_eq_false_iff_eq, Bool.and_true, Bool.true_and, ne_eq] at hc2
       refine wp_exit ?_
       have hp : kk.toNat = pos ltI (ordS ltI (l.take i.toNat)) (l.getD i.toNat 0) := pos_unique (d := 0) (by omega) hkf (fun h => by simp only [ltI, decide_eq_false_iff_not]; omega)
       have hf := (hf.prune [3, 5, 6, 8, 9, 10]).to (env' := [(3, eS a3 ((ordS ltI (l.take i.toNat)).length) c3), (5, eI (l.getD i.toNat 0)), (6, eI kk), (8, eS av l.length c), (9, eI (l.length : Int)), (10, eI i)]) (by kernel_rfl)
       exact hK10 _ _ ⟨kk, hf.conv (Ac rfl (Ac rfl (Ac rfl (Ac rfl (Ac rfl (Ao rfl)))))), hM, hk0, hO, (by omega), hp⟩
   clear hf hM hk0 hO
   intro a w4 hK10j; obtain ⟨kk, hf, hM, hk0, hO, hkk, hp⟩ := oK10 _ _ hK10j; clear hK10 oK10
   obtain ⟨K13, hK13, oK13⟩ := kcls (fun a w1 => Fr 52 [(3, eS a3 ((ordS ltI (l.take i.toNat)).length) c3), (5, eI (l.getD i.toNat 0)), (6, eI kk), (8, eS av l.length c), (9, eI (l.length : Int)), (10, eI i)] a ∧ MemOk [] w1 ∧ Keep Nn w w1 ∧ OwnOk w.heap.size [] [⟨3, 1, .slice a3 ((ordS ltI (l.take i.toNat)).length) c3, (ordS ltI (l.take i.toNat)).length, flat fI (ordS ltI (l.take i.toNat))⟩] w1 ∧ (¬ (kk < ((ordS ltI (l.take i.toNat)).length : Int)) ∨ (ordS ltI (l.take i.toNat)).getD kk.toNat 0 ≠ (l.getD i.toNat 0)))
   refine sxjoin K13 ?_ ?_
   ·
     refine wp_seq_k (fun K14 hK14 => ?_)
     refine wp_region_lit ?_
     refine q0 hf hM [3, 5, 6, 8, 9, 10] [{}, {}, {}, {}, {}, { g := .sym }, { g := .sym }, { g := .sym, sp := true }, { g := .sym, os := [.ex (iV ((ordS ltI (l.take i.toNat)).getD kk.toNat 0))] }, { g := .sym }, { g := .sym }, { hint := some (bV ((decide ((kk : Int) < ((ordS ltI (l.take i.toNat)).length : Int))) && ((((ordS ltI (l.take i.toNat)).getD kk.toNat 0) : Int) == (l.getD i.toNat 0)))) }] (nw := [(39, eB ((decide ((kk : Int) < ((ordS ltI (l.take i.toNat)).length : Int))) && ((((ordS ltI (l.take i.toNat)).getD kk.toNat 0) : Int) == (l.getD i.toNat 0)))), (38, .gd (decide ((kk : Int) < ((ordS ltI (l.take i.toNat)).length : Int))) true (bV ((((ordS ltI (l.take i.toNat)).getD kk.toNat 0) : Int) == (l.getD i.toNat 0)))), (37, .gd (decide ((kk : Int) < ((ordS ltI (l.take i.toNat)).length : Int))) true (iV (l.getD i.toNat 0))), (36, .gd (decide ((kk : Int) < ((ordS ltI (l.take i.toNat)).length : Int))) true (iV ((ordS ltI (l.take i.toNat)).getD kk.toNat 0))), (35, .gd (decide ((kk : Int) < ((ordS ltI (l.take i.toNat)).length : Int))) true (.pointer (some ((sa a3 : Addr).add (kk.toNat * 1))))), (34, .gd (decide ((kk : Int) < ((ordS ltI (l.take i.toNat)).length : Int))) true (iV kk)), (33, .gd (decide ((kk : Int) < ((ordS ltI (l.take i.toNat)).length : Int))) true (.slice a3 ((ordS ltI (l.take i.toNat)).length) c3))]) (ob := [((decide ((kk : Int) < ((ordS ltI (l.take i.toNat)).length : Int))) = true → (decide ((kk : Int) < ((ordS ltI (l.take i.toNat)).length : Int))) = (decide ((kk : Int) < ((ordS ltI (l.take i.toNat)).length : Int)))), ((decide ((kk : Int) < ((ordS ltI (l.take i.toNat)).length : Int))) = true → (decide ((kk : Int) < ((ordS ltI (l.take i.toNat)).length : Int))) = (decide ((kk : Int) < ((ordS ltI (l.take i.toNat)).length : Int)))), ((decide ((kk : Int) < ((ordS ltI (l.take i.toNat)).length : Int))) = true → (0 : Int) ≤ kk ∧ kk < ((ordS ltI (l.take i.toNat)).length : Int)), ((decide ((kk : Int) < ((ordS ltI (l.take i.toNat)).length : Int))) = true → (a3 : Option Addr).isSome = true), ((decide ((kk : Int) < ((ordS ltI (l.take i.toNat)).length : Int))) = true → (decide ((kk : Int) < ((ordS ltI (l.take i.toNat)).length : Int))) = (decide ((kk : Int) < ((ordS ltI (l.take i.toNat)).length : Int)))), ((decide ((kk : Int) < ((ordS ltI (l.take i.toNat)).length : Int))) = true → w4.cell? ((sa a3 : Addr).add (kk.toNat * 1)) = some (iV ((ordS ltI (l.take i.toNat)).getD kk.toNat 0))), ((decide ((kk : Int) < ((ordS ltI (l.take i.toNat)).length : Int))) = true → (decide ((kk : Int) < ((ordS ltI (l.take i.toNat)).length : Int))) = (decide ((kk : Int) < ((ordS ltI (l.take i.toNat)).length : Int)))), ((decide ((kk : Int) < ((ordS ltI (l.take i.toNat)).length : Int))) = true → (decide ((kk : Int) < ((ordS ltI (l.take i.toNat)).length : Int))) = (decide ((kk : Int) < ((ordS ltI (l.take i.toNat)).length : Int)))), ((decide ((kk : Int) < ((ordS ltI (l.take i.toNat)).length : Int))) = true → (decide ((kk : Int) < ((ordS ltI (l.take i.toNat)).length : Int))) = (decide ((kk : Int) < ((ordS ltI (l.take i.toNat)).length : Int)))), (bif (decide ((kk : Int) < ((ordS ltI (l.take i.toNat)).length : Int))) then (bV ((((ordS ltI (l.take i.toNat)).getD kk.toNat 0) : Int) == (l.getD i.toNat 0)) : Value) else bV false) = .bool ((decide ((kk : Int) < ((ordS ltI (l.take i.toNat)).length : Int))) && ((((ordS ltI (l.take i.toNat)).getD kk.toNat 0) : Int) == (l.getD i.toNat 0)))]) (Ac (fun hgd => rfl) (Ac (fun hgd => rfl) (Ac (fun hgd => (by first | omega | (simp at hgd; omega))) (Ac (fun hgd => ((own_arr (hO.own _ (List.Mem.head _))).some_ (by first | omega | (simp at hgd; omega)))) (Ac (fun hgd => rfl) (Ac (fun hgd => ((own_arr (hO.own _ (List.Mem.head _))).get0 (fun _ => rfl) (by first | omega | (simp at hgd; omega)) rfl)) (Ac (fun hgd => rfl) (Ac (fun hgd => rfl) (Ac (fun _ => rfl) (Ao (pick_and _ _))))))))))) ?_
     clear hf; intro a hf
     refine wpList_nil ?_
     refine hK14 _ _ ?_
     refine qc hf (b := ((decide ((kk : Int) < ((ordS ltI (l.take i.toNat)).length : Int))) && ((((ordS ltI (l.take i.toNat)).getD kk.toNat 0) : Int) == (l.getD i.toNat 0)))) (fun hc3r => ?_) (fun hc3r => ?_)
     · have hc3 := hc3r
       try simp only [Bool.or_eq_true, Bool.and_eq_true, Bool.not_eq_true', Bool.not_eq_false', Bool.or_eq_false_iff, Bool.and_eq_false_iff, decide_eq_true_eq, decide_eq_false_iff_not, beq_iff_eq, bne_iff_ne, beq_eq_false_iff_ne, bne_eq_false_iff_eq, Bool.and_true, Bool.true_and, ne_eq] at hc3
       refine wp_exit ?_
       refine hK7 _ _ ?_
       refine wp_region_lit ?_
       refine q0 hf hM [38, 37, 36, 35, 34, 33, 3, 8, 9] [{ hint := some (iV (i + 1)) }, {}] (nw := [(10, eI (i + 1))]) (ob := [(iV (IntKind.i64.wrap (i + 1)) : Value) = (iV (i + 1) : Value)]) (Ao (wr (by omega))) ?_
       clear hf; intro a hf
       refine wpList_nil ?_
       have hnx : ordS ltI (l.take (i + 1).toNat) = (ordS ltI (l.take i.toNat)) := ordI_in (by omega) hp (by omega) (by omega)
       have hf := (hf.prune [3, 8, 9, 10]).to (env' := [(3, eS a3 ((ordS ltI (l.take i.toNat)).length) c3), (8, eS av l.length c), (9, eI (l.length : Int)), (10, eI (i + 1))]) (by kernel_rfl)
       replace hO : OwnOk w.heap.size [] [⟨3, 1, .slice a3 ((ordS ltI (l.take (i + 1).toNat)).length) c3, (ordS ltI (l.take (i + 1).toNat)).length, flat fI (ordS ltI (l.take (i + 1).toNat))⟩] w4 := by
        first | exact hO | (have e : ([⟨3, 1, .slice a3 ((ordS ltI (l.take i.toNat)).length) c3, (ordS ltI (l.take i.toNat)).length, flat fI (ordS ltI (l.take i.toNat))⟩] : List Own) = [⟨3, 1, .slice a3 ((ordS ltI (l.take (i + 1).toNat)).length) c3, (ordS ltI (l.take (i + 1).toNat)).length, flat fI (ordS ltI (l.take (i + 1).toNat))⟩] := by (rw [hnx]; try rfl)) <;> (rw [← e]; exact hO)
       refine hL1 _ _ _ (by omega) ⟨i + 1, a3, c3, rfl, hf.conv (Ac (by rw [hnx]; rfl) (Ac rfl (Ac rfl (Ao rfl)))), hM, hk0, hO, (by omega)⟩
     · have hc3 := hc3r
       try simp only [Bool.or_eq_true, Bool.and_eq_true, Bool.not_eq_true', Bool.not_eq_false', Bool.or_eq_false_iff, Bool.and_eq_false_iff, decide_eq_true_eq, decide_eq_false_iff_not, beq_iff_eq, bne_iff_ne, beq_eq_false_iff_ne, bne_eq_false_iff_eq, Bool.and_true, Bool.true_and, ne_eq] at hc3
       refine wp_skip ?_
       have hf := (hf.prune [3, 5, 6, 8, 9, 10]).to (env' := [(3, eS a3 ((ordS ltI (l.take i.toNat)).length) c3), (5, eI (l.getD i.toNat 0)), (6, eI kk), (8, eS av l.length c), (9, eI (l.length : Int)), (10, eI i)]) (by kernel_rfl)
       exact hK13 _ _ ⟨hf.conv (Ac rfl (Ac rfl (Ac rfl (Ac rfl (Ac rfl (Ao rfl)))))), hM, hk0, hO, (by omega)⟩
   clear hf hM hk0 hO
   intro a w5 hK13j; obtain ⟨hf, hM, hk0, hO, hne⟩ := oK13 _ _ hK13j; clear hK13 oK13
   replace hM := hM.drew; replace hk0 := hk0.drew; replace hO := hO.drew
   obtain ⟨C1, hC1i, hC1e⟩ := qcls fun w' => MemOk [] w' ∧ Keep Nn w w' ∧ OwnOk w.heap.size [] [] w'
   refine sxdrawE (C := C1) (.leaf [(0, true), (1, true), (2, true), (3, true), (5, true), (6, true), (7, true), (4, false), (8, false), (9, false), (10, true)]) (by kernel_rfl) (by kernel_rfl) (by as_aux_lemma => kernel_rfl) rfl (by as_aux_lemma => kernel_rfl) (by kernel_rfl) (hC1i _ ⟨hM.sub (.slnil), hk0, hO.sub (.slnil) (.cons _ .slnil)⟩) ?_
   refine sxleaf ?_
   have hC := (hC1i _ ⟨hM.sub (.slnil), hk0, hO.sub (.slnil) (.cons _ .slnil)⟩)
   refine qd hf hC (fun w' h => (hC1e w' h).1) [3, 8, 9, 10] [{}, {}, { sp := true, hint := some (.slice a3 (((ordS ltI (l.take i.toNat)).take kk.toNat).length) c3) }, {}, {}, {}, { sp := true, hint := some (.slice (cutA a3 kk.toNat c3 1) (((ordS ltI (l.take i.toNat)).drop kk.toNat).length) (c3 - kk.toNat)) }] (nw := [(47, eS (cutA a3 kk.toNat c3 1) (((ordS ltI (l.take i.toNat)).drop kk.toNat).length) (c3 - kk.toNat)), (46, eI kk), (45, eS a3 ((ordS ltI (l.take i.toNat)).length) c3), (43, eI (l.getD i.toNat 0)), (42, eS a3 (((ordS ltI (l.take i.toNat)).take kk.toNat).length) c3), (41, eI kk), (40, eS a3 ((ordS ltI (l.take i.toNat)).length) c3)]) (ob := [0 ≤ (kk : Int) ∧ (kk : Int) ≤ ((c3 : Nat) : Int), (.slice a3 (kk : Int).toNat c3 : Value) = (.slice a3 (((ordS ltI (l.take i.toNat)).take kk.toNat).length) c3 : Value), 0 ≤ (kk : Int) ∧ (kk : Int) ≤ (((ordS ltI (l.take i.toNat)).length : Nat) : Int), (.slice (cutA a3 (kk : Int).toNat c3 1) ((ordS ltI (l.take i.toNat)).length - (kk : Int).toNat) (c3 - (kk : Int).toNat) : Value) = (.slice (cutA a3 kk.toNat c3 1) (((ordS ltI (l.take i.toNat)).drop kk.toNat).length) (c3 - kk.toNat) : Value)]) (Ac (by have := ((own_arr (hO.own _ (List.Mem.head _)))).le; omega) (Ac (by first | rfl | (simp; done) | (simp; omega)) (Ac (by have := ((own_arr (hO.own _ (List.Mem.head _)))).le; omega) (Ao (by first | rfl | (simp; done) | (simp; omega)))))) ?_
   clear hf; intro a hf
   refine scstep rfl ?_
   refine sxbslice hf hM (t := 43) (e := 3) (len := 1) (cs := [iV (l.getD i.toNat 0)]) (ob := []) rfl rfl rfl rfl (by as_aux_lemma => kernel_rfl) An (by as_aux_lemma => kernel_rfl) ?_
   clear hf hM; intro a w6 B12 hf hM hB hk
   replace hM : MemOk [⟨B12, 3, [iV (l.getD i.toNat 0)]⟩] w6 := hM
   have hbB12 : w.heap.size ≤ B12 := by have := hk0.size; omega
   have hk0 := hk0.trans hk.nn
   have hO := hO.step hM hk.nn (by intro i h; simp only [Mem.names, List.map_cons, List.map_nil, List.mem_cons, List.not_mem_nil, or_false, List.map_append, List.cons_append, List.nil_append] at h ⊢; omega)
   clear hk hB
   have hC := (hC1i _ ⟨hM.sub (.cons _ .slnil), hk0, hO.sub (.cons _ .slnil) (.cons _ .slnil)⟩)
   refine scdone hC ?_
   refine scstep rfl ?_
   replace hO := OwnOk.took (M1 := []) (M2 := []) (sz := 1) hO hM (n := 1) (c := 1) (by have := hk0.size; omega) (by decide) (by decide) rfl
   replace hM : MemOk [] w6 := hM.sub (.cons _ .slnil)
   replace hO : OwnOk w.heap.size [] [⟨3, 1, .slice (some ⟨B12, 0, none⟩) 1 1, 1, flat fI ([(l.getD i.toNat 0)] : List Int)⟩, ⟨3, 1, .slice a3 ((ordS ltI (l.take i.toNat)).length) c3, (ordS ltI (l.take i.toNat)).length, flat fI (ordS ltI (l.take i.toNat))⟩] w6 := hO
   replace hO : OwnOk w.heap.size [] [⟨3, 1, .slice (some ⟨B12, 0, none⟩) 1 1, 1, flat fI ([(l.getD i.toNat 0)] : List Int)⟩, ⟨3, 1, .slice a3 ((ordS ltI (l.take i.toNat)).length) c3, (ordS ltI (l.take i.toNat)).length, flat fI (ordS ltI (l.take i.toNat))⟩] w6 := OwnOk.front (l1 := []) (l2 := [⟨3, 1, .slice a3 ((ordS ltI (l.take i.toNat)).length) c3, (ordS ltI (l.take i.toNat)).length, flat fI (ordS ltI (l.take i.toNat))⟩]) hO
   refine sxappend hf hM (e := 3) (sz := 1) (by_ := 8) (k := 1) (v := .slice (some ⟨B12, 0, none⟩) 1 1) (xs := flat fI ([(l.getD i.toNat 0)] : List Int)) hO rfl rfl rfl rfl (av := cutA a3 kk.toNat c3 1) (m := ((ordS ltI (l.take i.toNat)).drop kk.toNat).length) (c := (c3 - kk.toNat)) rfl rfl Try.underlying43 (by kernel_rfl) rfl (news := flat fI ((ordS ltI (l.take i.toNat)).drop kk.toNat)) (Arr.dropf (m := kk.toNat) (l := (ordS ltI (l.take i.toNat))) (own_arr (hO.own _ (List.Mem.tail _ (List.Mem.head _)))) (fun _ => rfl) (by first | rfl | (simp; done) | omega) (by omega)) (flat_one1 fI_one) (by simp only [maxLen]; constructor <;> (first | omega | (simp; omega))) (by have := hk0.size; omega) ?_
   clear hf hM hO; intro a w7 av1 cv1 hf hM hO hk
   have en : (1 + ((ordS ltI (l.take i.toNat)).drop kk.toNat).length : Nat) = (([(l.getD i.toNat 0)] : List Int) ++ ((ordS ltI (l.take i.toNat)).drop kk.toNat)).length := (by first | (simp; done) | (simp; omega))
   have ec : flat fI ([(l.getD i.toNat 0)] : List Int) ++ flat fI ((ordS ltI (l.take i.toNat)).drop kk.toNat) = flat fI (([(l.getD i.toNat 0)] : List Int) ++ ((ordS ltI (l.take i.toNat)).drop kk.toNat)) := (by first | rfl | exact (flat_app _ _ _).symm | simp [flat_app, flat_nil])
   rw [en] at hf hO; rw [ec] at hO; clear en ec
   replace hO : OwnOk w.heap.size [] [⟨3, 1, .slice av1 ((([(l.getD i.toNat 0)] : List Int) ++ ((ordS ltI (l.take i.toNat)).drop kk.toNat)).length) cv1, (([(l.getD i.toNat 0)] : List Int) ++ ((ordS ltI (l.take i.toNat)).drop kk.toNat)).length, flat fI (([(l.getD i.toNat 0)] : List Int) ++ ((ordS ltI (l.take i.toNat)).drop kk.toNat))⟩, ⟨3, 1, .slice a3 ((ordS ltI (l.take i.toNat)).length) c3, (ordS ltI (l.take i.toNat)).length, flat fI (ordS ltI (l.take i.toNat))⟩] w7 := hO
   have hk0 := hk0.then hk (by intro i hi h; have := h.1; omega)
   clear hk
   have hC := (hC1i _ ⟨hM.sub (.slnil), hk0, hO.sub (.slnil) (.cons _ (.cons _ .slnil))⟩)
   refine scdone hC ?_
   refine scstep rfl ?_
   replace hO : OwnOk w.heap.size [] [⟨3, 1, .slice a3 ((ordS ltI (l.take i.toNat)).length) c3, (ordS ltI (l.take i.toNat)).length, flat fI (ordS ltI (l.take i.toNat))⟩, ⟨3, 1, .slice av1 ((([(l.getD i.toNat 0)] : List Int) ++ ((ordS ltI (l.take i.toNat)).drop kk.toNat)).length) cv1, (([(l.getD i.toNat 0)] : List Int) ++ ((ordS ltI (l.take i.toNat)).drop kk.toNat)).length, flat fI (([(l.getD i.toNat 0)] : List Int) ++ ((ordS ltI (l.take i.toNat)).drop kk.toNat))⟩] w7 := OwnOk.front (l1 := [⟨3, 1, .slice av1 ((([(l.getD i.toNat 0)] : List Int) ++ ((ordS ltI (l.take i.toNat)).drop kk.toNat)).length) cv1, (([(l.getD i.toNat 0)] : List Int) ++ ((ordS ltI (l.take i.toNat)).drop kk.toNat)).length, flat fI (([(l.getD i.toNat 0)] : List Int) ++ ((ordS ltI (l.take i.toNat)).drop kk.toNat))⟩]) (l2 := []) hO
   have hO := hO.cut (fun _ => rfl) (m := kk.toNat) (by omega)
   replace hO : OwnOk w.heap.size [] [⟨3, 1, .slice a3 kk.toNat c3, kk.toNat, flat fI ((ordS ltI (l.take i.toNat)).take kk.toNat)⟩, ⟨3, 1, .slice av1 ((([(l.getD i.toNat 0)] : List Int) ++ ((ordS ltI (l.take i.toNat)).drop kk.toNat)).length) cv1, (([(l.getD i.toNat 0)] : List Int) ++ ((ordS ltI (l.take i.toNat)).drop kk.toNat)).length, flat fI (([(l.getD i.toNat 0)] : List Int) ++ ((ordS ltI (l.take i.toNat)).drop kk.toNat))⟩] w7 := hO
   have en : (kk.toNat : Nat) = ((ordS ltI (l.take i.toNat)).take kk.toNat).length := (by simp; omega)
   replace hO := hO.lenTo en
   clear en
   replace hO : OwnOk w.heap.size [] [⟨3, 1, .slice a3 (((ordS ltI (l.take i.toNat)).take kk.toNat).length) c3, ((ordS ltI (l.take i.toNat)).take kk.toNat).length, flat fI ((ordS ltI (l.take i.toNat)).take kk.toNat)⟩, ⟨3, 1, .slice av1 ((([(l.getD i.toNat 0)] : List Int) ++ ((ordS ltI (l.take i.toNat)).drop kk.toNat)).length) cv1, (([(l.getD i.toNat 0)] : List Int) ++ ((ordS ltI (l.take i.toNat)).drop kk.toNat)).length, flat fI (([(l.getD i.toNat 0)] : List Int) ++ ((ordS ltI (l.take i.toNat)).drop kk.toNat))⟩] w7 := hO
   replace hO : OwnOk w.heap.size [] [⟨3, 1, .slice a3 (((ordS ltI (l.take i.toNat)).take kk.toNat).length) c3, ((ordS ltI (l.take i.toNat)).take kk.toNat).length, flat fI ((ordS ltI (l.take i.toNat)).take kk.toNat)⟩, ⟨3, 1, .slice av1 ((([(l.getD i.toNat 0)] : List Int) ++ ((ordS ltI (l.take i.toNat)).drop kk.toNat)).length) cv1, (([(l.getD i.toNat 0)] : List Int) ++ ((ordS ltI (l.take i.toNat)).drop kk.toNat)).length, flat fI (([(l.getD i.toNat 0)] : List Int) ++ ((ordS ltI (l.take i.toNat)).drop kk.toNat))⟩] w7 := OwnOk.front (l1 := []) (l2 := [⟨3, 1, .slice av1 ((([(l.getD i.toNat 0)] : List Int) ++ ((ordS ltI (l.take i.toNat)).drop kk.toNat)).length) cv1, (([(l.getD i.toNat 0)] : List Int) ++ ((ordS ltI (l.take i.toNat)).drop kk.toNat)).length, flat fI (([(l.getD i.toNat 0)] : List Int) ++ ((ordS ltI (l.take i.toNat)).drop kk.toNat))⟩]) hO
   refine sxappend hf hM (e := 3) (sz := 1) (by_ := 8) (k := ((ordS ltI (l.take i.toNat)).take kk.toNat).length) (v := .slice a3 (((ordS ltI (l.take i.toNat)).take kk.toNat).length) c3) (xs := flat fI ((ordS ltI (l.take i.toNat)).take kk.toNat)) hO rfl rfl rfl rfl (av := av1) (m := (([(l.getD i.toNat 0)] : List Int) ++ ((ordS ltI (l.take i.toNat)).drop kk.toNat)).length) (c := cv1) rfl rfl Try.underlying43 (by kernel_rfl) rfl (news := flat fI (([(l.getD i.toNat 0)] : List Int) ++ ((ordS ltI (l.take i.toNat)).drop kk.toNat))) (own_arr (hO.own _ (List.Mem.tail _ (List.Mem.head _)))) (flat_one1 fI_one) (by simp only [maxLen]; constructor <;> (first | omega | (simp; omega))) (by have := hk0.size; omega) ?_
   clear hf hM hO; intro a w8 av2 cv2 hf hM hO hk
   have en : (((ordS ltI (l.take i.toNat)).take kk.toNat).length + (([(l.getD i.toNat 0)] : List Int) ++ ((ordS ltI (l.take i.toNat)).drop kk.toNat)).length : Nat) = (((ordS ltI (l.take i.toNat)).take kk.toNat) ++ (([(l.getD i.toNat 0)] : List Int) ++ ((ordS ltI (l.take i.toNat)).drop kk.toNat))).length := (by first | (simp; done) | (simp; omega))
   have ec : flat fI ((ordS ltI (l.take i.toNat)).take kk.toNat) ++ flat fI (([(l.getD i.toNat 0)] : List Int) ++ ((ordS ltI (l.take i.toNat)).drop kk.toNat)) = flat fI (((ordS ltI (l.take i.toNat)).take kk.toNat) ++ (([(l.getD i.toNat 0)] : List Int) ++ ((ordS ltI (l.take i.toNat)).drop kk.toNat))) := (by first | rfl | exact (flat_app _ _ _).symm | simp [flat_app, flat_nil])
   rw [en] at hf hO; rw [ec] at hO; clear en ec
   replace hO : OwnOk w.heap.size [] [⟨3, 1, .slice av2 ((((ordS ltI (l.take i.toNat)).take kk.toNat) ++ (([(l.getD i.toNat 0)] : List Int) ++ ((ordS ltI (l.take i.toNat)).drop kk.toNat))).length) cv2, (((ordS ltI (l.take i.toNat)).take kk.toNat) ++ (([(l.getD i.toNat 0)] : List Int) ++ ((ordS ltI (l.take i.toNat)).drop kk.toNat))).length, flat fI (((ordS ltI (l.take i.toNat)).take kk.toNat) ++ (([(l.getD i.toNat 0)] : List Int) ++ ((ordS ltI (l.take i.toNat)).drop kk.toNat)))⟩, ⟨3, 1, .slice av1 ((([(l.getD i.toNat 0)] : List Int) ++ ((ordS ltI (l.take i.toNat)).drop kk.toNat)).length) cv1, (([(l.getD i.toNat 0)] : List Int) ++ ((ordS ltI (l.take i.toNat)).drop kk.toNat)).length, flat fI (([(l.getD i.toNat 0)] : List Int) ++ ((ordS ltI (l.take i.toNat)).drop kk.toNat))⟩] w8 := hO
   have hk0 := hk0.then hk (by intro i hi h; have := h.1; omega)
   clear hk
   have hC := (hC1i _ ⟨hM.sub (.slnil), hk0, hO.sub (.slnil) (.cons _ (.cons _ .slnil))⟩)
   refine scdone hC ?_
   refine qd hf hC (fun w' h => (hC1e w' h).1) [49, 48, 44, 47, 46, 45, 43, 42, 41, 40, 8, 9, 10] [{}] (nw := [(3, eS av2 ((((ordS ltI (l.take i.toNat)).take kk.toNat) ++ (([(l.getD i.toNat 0)] : List Int) ++ ((ordS ltI (l.take i.toNat)).drop kk.toNat))).length) cv2)]) An ?_
   clear hf; intro a hf
   clear hC
   refine hK7 _ _ ?_
   refine wp_region_lit ?_
   refine q0 hf hM [3, 49, 48, 44, 47, 46, 45, 43, 42, 41, 40, 8, 9] [{ hint := some (iV (i + 1)) }, {}] (nw := [(10, eI (i + 1))]) (ob := [(iV (IntKind.i64.wrap (i + 1)) : Value) = (iV (i + 1) : Value)]) (Ao (wr (by omega))) ?_
   clear hf; intro a hf
   refine wpList_nil ?_
   have hnx : ordS ltI (l.take (i + 1).toNat) = (((ordS ltI (l.take i.toNat)).take kk.toNat) ++ (([(l.getD i.toNat 0)] : List Int) ++ ((ordS ltI (l.take i.toNat)).drop kk.toNat))) := ordI_out (by omega) hp (by omega) hne
   have hf := (hf.prune [3, 8, 9, 10]).to (env' := [(3, eS av2 ((((ordS ltI (l.take i.toNat)).take kk.toNat) ++ (([(l.getD i.toNat 0)] : List Int) ++ ((ordS ltI (l.take i.toNat)).drop kk.toNat))).length) cv2), (8, eS av l.length c), (9, eI (l.length : Int)), (10, eI (i + 1))]) (by kernel_rfl)
   replace hO : OwnOk w.heap.size [] [⟨3, 1, .slice av2 ((((ordS ltI (l.take i.toNat)).take kk.toNat) ++ (([(l.getD i.toNat 0)] : List Int) ++ ((ordS ltI (l.take i.toNat)).drop kk.toNat))).length) cv2, (((ordS ltI (l.take i.toNat)).take kk.toNat) ++ (([(l.getD i.toNat 0)] : List Int) ++ ((ordS ltI (l.take i.toNat)).drop kk.toNat))).length, flat fI (((ordS ltI (l.take i.toNat)).take kk.toNat) ++ (([(l.getD i.toNat 0)] : List Int) ++ ((ordS ltI (l.take i.toNat)).drop kk.toNat)))⟩] w8 := hO.sub (List.Sublist.refl _) (.cons_cons _ (.cons _ .slnil))
   replace hO : OwnOk w.heap.size [] [⟨3, 1, .slice av2 ((ordS ltI (l.take (i + 1).toNat)).length) cv2, (ordS ltI (l.take (i + 1).toNat)).length, flat fI (ordS ltI (l.take (i + 1).toNat))⟩] w8 := by
    first | exact hO | (have e : ([⟨3, 1, .slice av2 ((((ordS ltI (l.take i.toNat)).take kk.toNat) ++ (([(l.getD i.toNat 0)] : List Int) ++ ((ordS ltI (l.take i.toNat)).drop kk.toNat))).length) cv2, (((ordS ltI (l.take i.toNat)).take kk.toNat) ++ (([(l.getD i.toNat 0)] : List Int) ++ ((ordS ltI (l.take i.toNat)).drop kk.toNat))).length, flat fI (((ordS ltI (l.take i.toNat)).take kk.toNat) ++ (([(l.getD i.toNat 0)] : List Int) ++ ((ordS ltI (l.take i.toNat)).drop kk.toNat)))⟩] : List Own) = [⟨3, 1, .slice av2 ((ordS ltI (l.take (i + 1).toNat)).length) cv2, (ordS ltI (l.take (i + 1).toNat)).length, flat fI (ordS ltI (l.take (i + 1).toNat))⟩] := by (rw [hnx]; try rfl)) <;> (rw [← e]; exact hO)
   refine hL1 _ _ _ (by omega) ⟨i + 1, av2, cv2, rfl, hf.conv (Ac (by rw [hnx]; rfl) (Ac rfl (Ac rfl (Ao rfl)))), hM, hk0, hO, (by omega)⟩
 · have hc1 := (nU hc1r)
   refine wp_exit ?_
   refine hK3 _ _ ?_
   refine wp_seq_k (fun K15 hK15 => ?_)
   refine wp_region_lit ?_
   refine q0 hf hM [] [{}, {}] (nw := [(2, eS a3 ((ordS ltI (l.take i.toNat)).length) c3)]) An ?_
   clear hf; intro a hf
   refine wpList_nil ?_
   refine hK15 _ _ ?_
   refine wp_ret ?_
   refine qr (fn := Try.f28) hf hM [] (l := [.slice a3 ((ordS ltI (l.take i.toNat)).length) c3]) (ob := []) An ?_
   show ∃ a' c', (.slice a3 ((ordS ltI (l.take i.toNat)).length) c3 : Value) = .slice a' (ordS ltI l).length c' ∧ Keep Nn w w2 ∧ World.ownsRow w2 w.heap.size 3 1 (.slice a' (ordS ltI l).length c') (ordS ltI l).length (flat fI (ordS ltI l))
   have e : l.take i.toNat = l := List.take_of_length_le (by omega)
   rw [e] at hO
   exact ⟨_, _, by rw [e], hk0, hO.own _ (List.Mem.head _)⟩

set_option maxRecDepth 10000 in
set_option maxHeartbeats 1600000 in
theorem nInts (av : Option Addr) (l : List Int) (c : Nat) (w : World) (hav : Arr w 1 av l.length c (flat fI l)) (hbav : l.length ≤ 1000000) :
    Calls Try.prog 26 #[.slice av l.length c] w (Ret fun v w' => ∃ a', v = .slice a' l.length (l.length + 4) ∧ Keep Nn w w' ∧ World.ownsRow w' w.heap.size 3 1 (.slice a' (l.length + 4) (l.length + 4)) (l.length + 4) (flat fI (l ++ ([-91, -92, -93, -94] : List Int)))) := by
 refine sxenter (n := 16) (args := [.slice av l.length c]) Try.func26 rfl rfl rfl fun a hf => ?_
 replace hf : Fr 16 [(0, eS av l.length c)] a := hf
 have hM : MemOk [] w := MemOk.nil w
 have hk0 : Keep Nn w w := Keep.refl _ _
 refine wp_seq_k (fun K1 hK1 => ?_)
 refine wp_region_lit ?_
 refine q0 hf hM [0] [{}] (nw := []) An ?_
 clear hf; intro a hf
 refine wpList_nil ?_
 refine hK1 _ _ ?_
 refine wp_seq_k (fun K2 hK2 => ?_)
 refine wp_region_lit ?_
 refine q0 hf hM [0] [{}, {}, { hint := some (iV ((l.length : Int) + 4)) }] (nw := [(6, eI ((l.length : Int) + 4))]) (ob := [(iV (IntKind.i64.wrap ((l.length : Int) + 4)) : Value) = (iV ((l.length : Int) + 4) : Value)]) (Ao (wr (by omega))) ?_
 clear hf; intro a hf
 refine sxmake hf hM (L := _) (C := _) (l := 0) (c := (l.length : Int) + 4) (by_ := 8) (zs := [iV 0]) rfl rfl rfl rfl rfl rfl Try.underlying43 (by kernel_rfl) (by omega) ?_
 clear hf hM; intro a w1 B3 hf hM hB hk
 have en : ((0 : Int).toNat) = 0 := (by omega)
 have ec0 : (((l.length : Int) + 4 : Int).toNat) = (l.length + 4) := (by omega)
 have ec : reps (l.length + 4) [iV 0] = flat fI (List.replicate (l.length + 4) 0) := reps_flat (f := fI) (z := 0) rfl _
 rw [en, ec0] at hf; rw [ec0, ec] at hM; clear en ec0 ec
 replace hM : MemOk [⟨B3, 3, flat fI (List.replicate (l.length + 4) 0)⟩] w1 := hM
 have hbB3 : w.heap.size ≤ B3 := by have := hk0.size; omega
 have hk0 := hk0.trans hk.nn
 clear hk hB
 refine q0 hf hM [7, 0] [{}] (nw := [(8, eS av l.length c)]) An ?_
 clear hf; intro a hf
 refine sxappendM hf (M1 := []) (M2 := []) (B := B3) (e := 3) (cs := flat fI (List.replicate (l.length + 4) 0)) hM (sz := 1) (by_ := 8) (k := 0) (cap := (l.length + 4)) rfl rfl rfl rfl (av := av) (m := l.length) (c := c) rfl rfl Try.underlying43 (by kernel_rfl) (news := flat fI l) (hav.keepNn hk0) (flat_one1 fI_one) (by rw [flat_len (sz := 1) (fun _ => rfl), List.length_replicate]) (by simp only [maxLen]; omega) ?_
 clear hf hM; intro a w2 hf hM hk
 have en : (0 + l.length : Nat) = l.length := (by omega)
 have ec : (flat fI (List.replicate (l.length + 4) 0)).take (0 * 1) ++ flat fI l ++ (flat fI (List.replicate (l.length + 4) 0)).drop (0 * 1 + (flat fI l).length) = flat fI (l ++ List.replicate 4 (0 : Int)) := (by rw [flat_over (sz := 1) (fun _ => rfl)]; simp)
 rw [en] at hf
 replace hM : MemOk [⟨B3, 3, flat fI (l ++ List.replicate 4 (0 : Int))⟩] w2 := by rw [← ec]; exact hM
 have hk0 := hk0.then hk (by intro i hi h; simp only [Is, List.mem_cons, List.not_mem_nil, or_false] at h; omega)
 clear hk en ec
 refine sxbslice hf hM (t := 43) (e := 3) (len := 4) (cs := [iV (-91), iV (-92), iV (-93), iV (-94)]) (ob := []) rfl rfl rfl rfl (by as_aux_lemma => kernel_rfl) An (by as_aux_lemma => kernel_rfl) ?_
 clear hf hM; intro a w3 B5 hf hM hB hk
 replace hM : MemOk [⟨B3, 3, flat fI (l ++ List.replicate 4 (0 : Int))⟩, ⟨B5, 3, [iV (-91), iV (-92), iV (-93), iV (-94)]⟩] w3 := hM
 have hbB5 : w.heap.size ≤ B5 := by have := hk0.size; omega
 have hk0 := hk0.trans hk.nn
 clear hk hB
 refine sxappendM hf (M1 := []) (M2 := [⟨B5, 3, [iV (-91), iV (-92), iV (-93), iV (-94)]⟩]) (B := B3) (e := 3) (cs := flat fI (l ++ List.replicate 4 (0 : Int))) hM (sz := 1) (by_ := 8) (k := l.length) (cap := (l.length + 4)) rfl rfl rfl rfl (av := some ⟨B5, 0, none⟩) (m := 4) (c := 4) rfl rfl Try.underlying43 (by kernel_rfl) (news := flat fI ([(-91), (-92), (-93), (-94)] : List Int)) (Arr.of_memT (sz := 1) (f := fI) (L := ([(-91), (-92), (-93), (-94)] : List Int)) (l := ([(-91), (-92), (-93), (-94)] : List Int)) hM (List.Mem.tail _ (List.Mem.head _)) (fun _ => rfl) rfl rfl) (flat_one1 fI_one) (by rw [flat_len (sz := 1) (fun _ => rfl)]; simp) (by simp only [maxLen]; omega) ?_
 clear hf hM; intro a w4 hf hM hk
 have en : (l.length + 4 : Nat) = (l.length + 4) := rfl
 have ec : (flat fI (l ++ List.replicate 4 (0 : Int))).take (l.length * 1) ++ flat fI ([(-91), (-92), (-93), (-94)] : List Int) ++ (flat fI (l ++ List.replicate 4 (0 : Int))).drop (l.length * 1 + (flat fI ([(-91), (-92), (-93), (-94)] : List Int)).length) = flat fI (l ++ ([-91, -92, -93, -94] : List Int)) := (by rw [flat_over (sz := 1) (fun _ => rfl)]; simp)
 rw [en] at hf
 replace hM : MemOk [⟨B3, 3, flat fI (l ++ ([-91, -92, -93, -94] : List Int))⟩, ⟨B5, 3, [iV (-91), iV (-92), iV (-93), iV (-94)]⟩] w4 := by rw [← ec]; exact hM
 have hk0 := hk0.then hk (by intro i hi h; simp only [Is, List.mem_cons, List.not_mem_nil, or_false] at h; omega)
 clear hk en ec
 refine q0 hf hM [0] [{}] (nw := [(3, eS (some ⟨B3, 0, none⟩) (l.length + 4) (l.length + 4))]) An ?_
 clear hf; intro a hf
 refine wpList_nil ?_
 refine hK2 _ _ ?_
 refine wp_seq_k (fun K3 hK3 => ?_)
 refine wp_region_lit ?_
 refine q0 hf hM [] [{}, {}, {}] (nw := [(14, eI (l.length : Int)), (12, eS (some ⟨B3, 0, none⟩) (l.length + 4) (l.length + 4))]) An ?_
 clear hf; intro a hf
 refine sxval hf rfl rfl rfl rfl (v := .slice (some ⟨B3, 0, none⟩) l.length (l.length + 4)) (ob := []) (by kernel_rfl) An (by rw [show (.slice (some ⟨B3, 0, none⟩) l.length (l.length + 4) : Value) = .slice (some ⟨B3, 0, none⟩) ((l.length : Int) : Int).toNat (l.length + 4) from (by simp)]; exact ox_slice_h rfl rfl rfl Try.underlying43 (sz := 1) (by kernel_rfl) (by omega)) ?_
 clear hf; intro a hf
 refine q0 hf hM [] [{}] (nw := [(2, eS (some ⟨B3, 0, none⟩) l.length (l.length + 4))]) An ?_
 clear hf; intro a hf
 refine wpList_nil ?_
 refine hK3 _ _ ?_
 refine wp_ret ?_
 refine qr (fn := Try.f26) hf hM [] (l := [.slice (some ⟨B3, 0, none⟩) l.length (l.length + 4)]) (ob := []) An ?_
 show ∃ a', (.slice (some ⟨B3, 0, none⟩) l.length (l.length + 4) : Value) = .slice a' l.length (l.length + 4) ∧ Keep Nn w w4 ∧ World.ownsRow w4 w.heap.size 3 1 (.slice a' (l.length + 4) (l.length + 4)) (l.length + 4) (flat fI (l ++ ([-91, -92, -93, -94] : List Int)))
 exact ⟨_, rfl, hk0, own_of_mem hM (List.Mem.head _) (by omega) (by simp only [maxLen]; omega) (by rw [flat_len (sz := 1) (fun _ => rfl)]; simp)⟩

set_option maxRecDepth 10000 in
set_option maxHeartbeats 1600000 in
theorem keptInts (av : Option Addr) (l : List Int) (c : Nat) (bv : Option Addr) (cm : Nat) (w : World) (hav : Arr w 1 av (l.length + 4) (l.length + 4) (flat fI (l ++ ([-91, -92, -93, -94] : List Int)))) (hbv : Arr w 1 bv l.length cm (flat fI l)) (hbbv : l.length ≤ 1000000) :
    Calls Try.prog 30 #[.slice av l.length (l.length + 4), .slice bv l.length cm] w (Ret fun v w' => v = .bool true ∧ Keep Nn w w') := by
 refine sxenter (n := 40) (args := [.slice av l.length (l.length + 4), .slice bv l.length cm]) Try.func30 rfl rfl rfl fun a hf => ?_
 replace hf : Fr 40 [(0, eS av l.length (l.length + 4)), (1, eS bv l.length cm)] a := hf
 have hM : MemOk [] w := MemOk.nil w
 have hk0 : Keep Nn w w := Keep.refl _ _
 have hsr : sameL ((l ++ ([-91, -92, -93, -94] : List Int)).take l.length) l = true := room_take _ _
 refine wp_seq_k (fun K1 hK1 => ?_)
 refine wp_region_lit ?_
 refine q0 hf hM [0, 1] [{}] (nw := []) An ?_
 clear hf; intro a hf
 refine wpList_nil ?_
 refine hK1 _ _ ?_
 refine wp_seq_k (fun K2 hK2 => ?_)
 refine wp_region_lit ?_
 refine q0 hf hM [1] [{}, {}, {}, { sp := true, hint := some (.slice av (l.length + 4) (l.length + 4)) }, {}] (nw := [(5, eS av (l.length + 4) (l.length + 4))]) (ob := [0 ≤ ((((l.length + 4) : Nat) : Int) : Int) ∧ ((((l.length + 4) : Nat) : Int) : Int) ≤ (((l.length + 4) : Nat) : Int), (.slice av ((((l.length + 4) : Nat) : Int) : Int).toNat (l.length + 4) : Value) = (.slice av (l.length + 4) (l.length + 4) : Value)]) (Ac (by omega) (Ao (by first | rfl | (simp; done)))) ?_
 clear hf; intro a hf
 refine wpList_nil ?_
 refine hK2 _ _ ?_
 refine wp_seq_k (fun K3 hK3 => ?_)
 refine wp_seq_k (fun K4 hK4 => ?_)
 refine wp_region_lit ?_
 refine q0 hf hM [5, 1] [{}, {}, {}, {}, { hint := some (iV ((l.length : Int) + 4)) }, { hint := some (bV false) }, {}, {}, {}, {}, { sp := true, hint := some (.slice av (((l ++ ([-91, -92, -93, -94] : List Int)).take l.length).length) (l.length + 4)) }, {}] (nw := [(22, eS bv l.length cm), (21, eS av (((l ++ ([-91, -92, -93, -94] : List Int)).take l.length).length) (l.length + 4)), (17, eB false)]) (ob := [(iV (IntKind.i64.wrap ((l.length : Int) + 4)) : Value) = (iV ((l.length : Int) + 4) : Value), (bV (decide (((((l.length + 4) : Nat) : Int) : Int) < ((l.length : Int) + 4))) : Value) = (bV false : Value), false = false, false = false, false = false, false = false, 0 ≤ ((l.length : Int) : Int) ∧ ((l.length : Int) : Int) ≤ (((l.length + 4) : Nat) : Int), (.slice av ((l.length : Int) : Int).toNat (l.length + 4) : Value) = (.slice av (((l ++ ([-91, -92, -93, -94] : List Int)).take l.length).length) (l.length + 4) : Value), false = false]) (Ac (wr (by omega)) (Ac (congrArg Value.bool (decide_eq_false (by omega))) (Ac rfl (Ac rfl (Ac rfl (Ac rfl (Ac (by have := ((hav.keepNn hk0)).le; omega) (Ac (by first | rfl | (simp; done) | (simp; omega)) (Ao rfl))))))))) ?_
 clear hf; intro a hf
 refine sxcallg hf rfl rfl rfl rfl rfl (g := 29) (vs := [.slice av (((l ++ ([-91, -92, -93, -94] : List Int)).take l.length).length) (l.length + 4), .slice bv l.length cm]) (ob := []) (by as_aux_lemma => kernel_rfl) An enters29 (same_ints av ((l ++ ([-91, -92, -93, -94] : List Int)).take l.length) (l.length + 4) bv l cm w  (Arr.takef (m := l.length) (l := (l ++ ([-91, -92, -93, -94] : List Int))) (hav.keepNn hk0) (fun _ => rfl) (by first | rfl | (simp; done) | omega) (by omega)) (by first | omega | (simp; omega) | (simp; done) | exact Nat.le_trans (byKinds_len _ _) (by omega) | decide) (hbv.keepNn hk0) (by first | omega | (simp; omega) | (simp; done) | exact Nat.le_trans (byKinds_len _ _) (by omega) | decide)) ?_
 clear hf; rintro _ w1 a ⟨rfl, hk⟩ hf
 have hM := hM.keepNn hk
 have hk0 := hk0.trans hk.nn
 clear hk
 refine q0 hf hM [5, 1] [{}, {}] (nw := [(25, eB (!(sameL ((l ++ ([-91, -92, -93, -94] : List Int)).take l.length) l)))]) (ob := [false = false]) (Ao rfl) ?_
 clear hf; intro a hf
 refine wpList_nil ?_
 refine hK4 _ _ ?_
 refine sxcond hf (b := !(sameL ((l ++ ([-91, -92, -93, -94] : List Int)).take l.length) l)) (by kernel_rfl) (fun h => absurd (h.symm.trans ((congrArg Bool.not hsr).trans rfl : (!(sameL ((l ++ ([-91, -92, -93, -94] : List Int)).take l.length) l) : Bool) = false)) (by simp)) (fun _ => ?_)
 refine wp_skip ?_
 refine hK3 _ _ ?_
 refine wp_seq_k (fun K5 hK5 => ?_)
 refine wp_seq_k (fun K6 hK6 => ?_)
 refine wp_region_lit ?_
 refine q0 hf hM [5, 1] [{}] (nw := [(6, eI 0)]) An ?_
 clear hf; intro a hf
 refine wpList_nil ?_
 refine hK6 _ _ ?_
 refine wp_block ?_
 refine wp_loop_rounds 5 ?_
 refine sxround (m := 4) fun L1 hL1 => ?_
 refine wp_seq_k (fun K7 hK7 => ?_)
 refine wp_seq_k (fun K8 hK8 => ?_)
 refine wp_region_lit ?_
 refine q0 hf hM [6, 5, 1] [{}, {}] (nw := [(27, eB true)]) An ?_
 clear hf; intro a hf
 refine wpList_nil ?_
 refine hK8 _ _ ?_
 refine sxcond hf (b := true) (by kernel_rfl) (fun _ => ?_) (fun h => by cases h)
 refine wp_skip ?_
 refine hK7 _ _ ?_
 refine wp_seq_k (fun K9 hK9 => ?_)
 refine wp_block ?_
 refine wp_seq_k (fun K10 hK10 => ?_)
 refine wp_region_lit ?_
 refine q0 hf hM [6, 5, 1] [{}, {}, {}, {}, { hint := some (iV ((l.length : Int) + 0)) }, { sp := true }, { os := [.ex (iV ((l ++ ([-91, -92, -93, -94] : List Int)).getD ((l.length : Int) + 0).toNat 0))], hint := some (iV (-91)) }, {}, {}, {}] (nw := [(39, eB false)]) (ob := [(iV (IntKind.i64.wrap ((l.length : Int) + 0)) : Value) = (iV ((l.length : Int) + 0) : Value), (0 : Int) ≤ ((l.length : Int) + 0) ∧ ((l.length : Int) + 0) < (((l.length + 4) : Nat) : Int), (av : Option Addr).isSome = true, w1.cell? ((sa av : Addr).add (((l.length : Int) + 0).toNat * 1)) = some (iV ((l ++ ([-91, -92, -93, -94] : List Int)).getD ((l.length : Int) + 0).toNat 0)), (iV ((l ++ ([-91, -92, -93, -94] : List Int)).getD ((l.length : Int) + 0).toNat 0) : Value) = (iV (-91) : Value)]) (Ac (wr (by omega)) (Ac (by simp; omega) (Ac ((hav.keepNn hk0).some_ (by first | omega | (simp; done))) (Ac ((hav.keepNn hk0).get0 (fun _ => rfl) (by first | omega | (simp; done)) rfl) (Ao (congrArg (Value.int .i64) (room_at (k := 0) (by omega) (by omega)))))))) ?_
 clear hf; intro a hf
 refine wpList_nil ?_
 refine hK10 _ _ ?_
 refine sxcond hf (b := false) (by kernel_rfl) (fun h => by cases h) (fun _ => ?_)
 refine wp_skip ?_
 refine hK9 _ _ ?_
 refine wp_region_lit ?_
 refine q0 hf hM [5, 1] [{}, {}, {}] (nw := [(6, eI 1)]) An ?_
 clear hf; intro a hf
 refine wpList_nil ?_
 refine hL1 _ _ ?_
 refine sxround (m := 3) fun L2 hL2 => ?_
 refine wp_seq_k (fun K11 hK11 => ?_)
 refine wp_seq_k (fun K12 hK12 => ?_)
 refine wp_region_lit ?_
 refine q0 hf hM [6, 5, 1] [{}, {}] (nw := [(27, eB true)]) An ?_
 clear hf; intro a hf
 refine wpList_nil ?_
 refine hK12 _ _ ?_
 refine sxcond hf (b := true) (by kernel_rfl) (fun _ => ?_) (fun h => by cases h)
 refine wp_skip ?_
 refine hK11 _ _ ?_
 refine wp_seq_k (fun K13 hK13 => ?_)
 refine wp_block ?_
 refine wp_seq_k (fun K14 hK14 => ?_)
 refine wp_region_lit ?_
 refine q0 hf hM [6, 5, 1] [{}, {}, {}, {}, { hint := some (iV ((l.length : Int) + 1)) }, { sp := true }, { os := [.ex (iV ((l ++ ([-91, -92, -93, -94] : List Int)).getD ((l.length : Int) + 1).toNat 0))], hint := some (iV (-92)) }, {}, {}, {}] (nw := [(39, eB false)]) (ob := [(iV (IntKind.i64.wrap ((l.length : Int) + 1)) : Value) = (iV ((l.length : Int) + 1) : Value), (0 : Int) ≤ ((l.length : Int) + 1) ∧ ((l.length : Int) + 1) < (((l.length + 4) : Nat) : Int), (av : Option Addr).isSome = true, w1.cell? ((sa av : Addr).add (((l.length : Int) + 1).toNat * 1)) = some (iV ((l ++ ([-91, -92, -93, -94] : List Int)).getD ((l.length : Int) + 1).toNat 0)), (iV ((l ++ ([-91, -92, -93, -94] : List Int)).getD ((l.length : Int) + 1).toNat 0) : Value) = (iV (-92) : Value)]) (Ac (wr (by omega)) (Ac (by simp; omega) (Ac ((hav.keepNn hk0).some_ (by first | omega | (simp; done))) (Ac ((hav.keepNn hk0).get0 (fun _ => rfl) (by first | omega | (simp; done)) rfl) (Ao (congrArg (Value.int .i64) (room_at (k := 1) (by omega) (by omega)))))))) ?_
 clear hf; intro a hf
 refine wpList_nil ?_
 refine hK14 _ _ ?_
 refine sxcond hf (b := false) (by kernel_rfl) (fun h => by cases h) (fun _ => ?_)
 refine wp_skip ?_
 refine hK13 _ _ ?_
 refine wp_region_lit ?_
 refine q0 hf hM [5, 1] [{}, {}, {}] (nw := [(6, eI 2)]) An ?_
 clear hf; intro a hf
 refine wpList_nil ?_
 refine hL2 _ _ ?_
 refine sxround (m := 2) fun L3 hL3 => ?_
 refine wp_seq_k (fun K15 hK15 => ?_)
 refine wp_seq_k (fun K16 hK16 => ?_)
 refine wp_region_lit ?_
 refine q0 hf hM [6, 5, 1] [{}, {}] (nw := [(27, eB true)]) An ?_
 clear hf; intro a hf
 refine wpList_nil ?_
 refine hK16 _ _ ?_
 refine sxcond hf (b := true) (by kernel_rfl) (fun _ => ?_) (fun h => by cases h)
 refine wp_skip ?_
 refine hK15 _ _ ?_
 refine wp_seq_k (fun K17 hK17 => ?_)
 refine wp_block ?_
 refine wp_seq_k (fun K18 hK18 => ?_)
 refine wp_region_lit ?_
 refine q0 hf hM [6, 5, 1] [{}, {}, {}, {}, { hint := some (iV ((l.length : Int) + 2)) }, { sp := true }, { os := [.ex (iV ((l ++ ([-91, -92, -93, -94] : List Int)).getD ((l.length : Int) + 2).toNat 0))], hint := some (iV (-93)) }, {}, {}, {}] (nw := [(39, eB false)]) (ob := [(iV (IntKind.i64.wrap ((l.length : Int) + 2)) : Value) = (iV ((l.length : Int) + 2) : Value), (0 : Int) ≤ ((l.length : Int) + 2) ∧ ((l.length : Int) + 2) < (((l.length + 4) : Nat) : Int), (av : Option Addr).isSome = true, w1.cell? ((sa av : Addr).add (((l.length : Int) + 2).toNat * 1)) = some (iV ((l ++ ([-91, -92, -93, -94] : List Int)).getD ((l.length : Int) + 2).toNat 0)), (iV ((l ++ ([-91, -92, -93, -94] : List Int)).getD ((l.length : Int) + 2).toNat 0) : Value) = (iV (-93) : Value)]) (Ac (wr (by omega)) (Ac (by simp; omega) (Ac ((hav.keepNn hk0).some_ (by first | omega | (simp; done))) (Ac ((hav.keepNn hk0).get0 (fun _ => rfl) (by first | omega | (simp; done)) rfl) (Ao (congrArg (Value.int .i64) (room_at (k := 2) (by omega) (by omega)))))))) ?_
 clear hf; intro a hf
 refine wpList_nil ?_
 refine hK18 _ _ ?_
 refine sxcond hf (b := false) (by kernel_rfl) (fun h => by cases h) (fun _ => ?_)
 refine wp_skip ?_
 refine hK17 _ _ ?_
 refine wp_region_lit ?_
 refine q0 hf hM [5, 1] [{}, {}, {}] (nw := [(6, eI 3)]) An ?_
 clear hf; intro a hf
 refine wpList_nil ?_
 refine hL3 _ _ ?_
 refine sxround (m := 1) fun L4 hL4 => ?_
 refine wp_seq_k (fun K19 hK19 => ?_)
 refine wp_seq_k (fun K20 hK20 => ?_)
 refine wp_region_lit ?_
 refine q0 hf hM [6, 5, 1] [{}, {}] (nw := [(27, eB true)]) An ?_
 clear hf; intro a hf
 refine wpList_nil ?_
 refine hK20 _ _ ?_
 refine sxcond hf (b := true) (by kernel_rfl) (fun _ => ?_) (fun h => by cases h)
 refine wp_skip ?_
 refine hK19 _ _ ?_
 refine wp_seq_k (fun K21 hK21 => ?_)
 refine wp_block ?_
 refine wp_seq_k (fun K22 hK22 => ?_)
 refine wp_region_lit ?_
 refine q0 hf hM [6, 5, 1] [{}, {}, {}, {}, { hint := some (iV ((l.length : Int) + 3)) }, { sp := true }, { os := [.ex (iV ((l ++ ([-91, -92, -93, -94] : List Int)).getD ((l.length : Int) + 3).toNat 0))], hint := some (iV (-94)) }, {}, {}, {}] (nw := [(39, eB false)]) (ob := [(iV (IntKind.i64.wrap ((l.length : Int) + 3)) : Value) = (iV ((l.length : Int) + 3) : Value), (0 : Int) ≤ ((l.length : Int) + 3) ∧ ((l.length : Int) + 3) < (((l.length + 4) : Nat) : Int), (av : Option Addr).isSome = true, w1.cell? ((sa av : Addr).add (((l.length : Int) + 3).toNat * 1)) = some (iV ((l ++ ([-91, -92, -93, -94] : List Int)).getD ((l.length : Int) + 3).toNat 0)), (iV ((l ++ ([-91, -92, -93, -94] : List Int)).getD ((l.length : Int) + 3).toNat 0) : Value) = (iV (-94) : Value)]) (Ac (wr (by omega)) (Ac (by simp; omega) (Ac ((hav.keepNn hk0).some_ (by first | omega | (simp; done))) (Ac ((hav.keepNn hk0).get0 (fun _ => rfl) (by first | omega | (simp; done)) rfl) (Ao (congrArg (Value.int .i64) (room_at (k := 3) (by omega) (by omega)))))))) ?_
 clear hf; intro a hf
 refine wpList_nil ?_
 refine hK22 _ _ ?_
 refine sxcond hf (b := false) (by kernel_rfl) (fun h => by cases h) (fun _ => ?_)
 refine wp_skip ?_
 refine hK21 _ _ ?_
 refine wp_region_lit ?_
 refine q0 hf hM [5, 1] [{}, {}, {}] (nw := [(6, eI 4)]) An ?_
 clear hf; intro a hf
 refine wpList_nil ?_
 refine hL4 _ _ ?_
 refine sxround (m := 0) fun L5 hL5 => ?_
 refine wp_seq_k (fun K23 hK23 => ?_)
 refine wp_seq_k (fun K24 hK24 => ?_)
 refine wp_region_lit ?_
 refine q0 hf hM [6, 5, 1] [{}, {}] (nw := [(27, eB false)]) An ?_
 clear hf; intro a hf
 refine wpList_nil ?_
 refine hK24 _ _ ?_
 refine sxcond hf (b := false) (by kernel_rfl) (fun h => by cases h) (fun _ => ?_)
 refine wp_exit ?_
 refine hK5 _ _ ?_
 refine wp_seq_k (fun K25 hK25 => ?_)
 refine wp_region_lit ?_
 refine q0 hf hM [] [{}] (nw := [(4, eB true)]) An ?_
 clear hf; intro a hf
 refine wpList_nil ?_
 refine hK25 _ _ ?_
 refine wp_ret ?_
 refine qr (fn := Try.f30) hf hM [] (l := [bV true]) (ob := []) An ?_
 show (bV true : Value) = .bool true ∧ Keep Nn w w1
 exact ⟨rfl, hk0⟩

set_option maxRecDepth 10000 in
set_option maxHeartbeats 1600000 in
theorem index_int (av : Option Addr) (l : List Int) (c : Nat) (gg : Nat) (cb : List Value) (p : Int → Bool) (w : World) (hav : Arr w 1 av l.length c (flat fI l)) (hbav : l.length ≤ 1000000) (eg : enters Try.prog gg) (hp : ∀ (x : Int) (W : World), Keep Nn w W → Calls Try.prog gg (([iV x] : List Value) ++ cb).toArray W (Ret fun v W2 => v = .bool (p x) ∧ Keep Nn W W2)) :
    Calls Try.prog 66 #[.slice av l.length c, .func (.func gg) #[] (cb).toArray] w (Ret fun v w' => v = .int .i64 (idxF p l) ∧ Keep Nn w w') := by
 refine sxenter (n := 19) (args := [.slice av l.length c, .func (.func gg) #[] (cb).toArray]) Try.func66 rfl rfl rfl fun a hf => ?_
 replace hf : Fr 19 [(0, eS av l.length c), (1, .val (.func (.func gg) #[] (cb).toArray))] a := hf
 have hM : MemOk [] w := MemOk.nil w
 have hk0 : Keep Nn w w := Keep.refl _ _
 refine wp_seq_k (fun K1 hK1 => ?_)
 refine wp_region_lit ?_
 refine q0 hf hM [0, 1] [{}] (nw := []) An ?_
 clear hf; intro a hf
 refine wpList_nil ?_
 refine hK1 _ _ ?_
 refine wp_seq_k (fun K2 hK2 => ?_)
 refine wp_seq_k (fun K3 hK3 => ?_)
 refine wp_region_lit ?_
 refine q0 hf hM [0, 1] [{}, {}, {}] (nw := [(8, eI 0), (7, eI (l.length : Int))]) An ?_
 clear hf; intro a hf
 refine wpList_nil ?_
 refine hK3 _ _ ?_
 refine wp_block ?_
 have hf := (hf.prune [0, 1, 7, 8]).to (env' := [(0, eS av l.length c), (1, .val (.func (.func gg) #[] (cb).toArray)), (7, eI (l.length : Int)), (8, eI 0)]) (by kernel_rfl)
 refine sxloop (fun zm a w1 => ∃ (i : Int), zm = ((l.length : Int) - i).toNat ∧ Fr 19 [(0, eS av l.length c), (1, .val (.func (.func gg) #[] (cb).toArray)), (7, eI (l.length : Int)), (8, eI i)] a ∧ MemOk [] w1 ∧ Keep Nn w w1 ∧ (0 ≤ i ∧ i ≤ (l.length : Int)) ∧ (∀ j, j < i.toNat → p (l.getD j 0) = false)) _ ⟨0, rfl, hf.conv (Ac rfl (Ac rfl (Ac rfl (Ao rfl)))), hM, hk0, (by omega), (fun j hj => by simp at hj)⟩ ?_
 clear hf hM hk0
 rintro _ a w1 ⟨i, rfl, hf, hM, hk0, hi, hno⟩ L1 hL1
 refine wp_seq_k (fun K4 hK4 => ?_)
 refine wp_region_lit ?_
 refine q0 hf hM [0, 1, 7, 8] [{}] (nw := [(9, eB (decide ((i : Int) < (l.length : Int))))]) An ?_
 clear hf; intro a hf
 refine wpList_nil ?_
 refine hK4 _ _ ?_
 refine wp_seq_k (fun K5 hK5 => ?_)
 refine qc hf (b := (decide ((i : Int) < (l.length : Int)))) (fun hc1r => ?_) (fun hc1r => ?_)
 · have hc1 := (nT hc1r)
   refine wp_skip ?_
   refine hK5 _ _ ?_
   refine wp_seq_k (fun K6 hK6 => ?_)
   refine wp_block ?_
   refine wp_seq_k (fun K7 hK7 => ?_)
   refine wp_region_lit ?_
   refine q0 hf hM [0, 1, 7, 8] [{}, {}] (nw := [(5, eI i)]) An ?_
   clear hf; intro a hf
   refine wpList_nil ?_
   refine hK7 _ _ ?_
   refine wp_seq_k (fun K8 hK8 => ?_)
   refine wp_region_lit ?_
   refine q0 hf hM [5, 0, 1, 7, 8] [{}, {}, {}, { sp := true }, { os := [.ex (iV (l.getD i.toNat 0))] }] (nw := [(15, eI (l.getD i.toNat 0)), (11, .val (.func (.func gg) #[] (cb).toArray))]) (ob := [(0 : Int) ≤ i ∧ i < (l.length : Int), (av : Option Addr).isSome = true, w1.cell? ((sa av : Addr).add (i.toNat * 1)) = some (iV (l.getD i.toNat 0))]) (Ac (by first | omega | (simp; done)) (Ac ((hav.keepNn hk0).some_ (by first | omega | (simp; done))) (Ao ((hav.keepNn hk0).get0 (fun _ => rfl) (by first | omega | (simp; done)) rfl)))) ?_
   clear hf; intro a hf
   refine sxcall hf rfl rfl rfl rfl (g := gg) (vs := _) (ob := []) (by as_aux_lemma => kernel_rfl) An eg (hp (l.getD i.toNat 0) w1  hk0) ?_
   clear hf; rintro _ w2 a ⟨rfl, hk⟩ hf
   have hM := hM.keepNn hk
   have hk0 := hk0.trans hk.nn
   clear hk
   refine wpList_nil ?_
   refine hK8 _ _ ?_
   refine qc hf (b := p (l.getD i.toNat 0)) (fun hc2r => ?_) (fun hc2r => ?_)
   · have hc2 := hc2r
     refine wp_seq_k (fun K9 hK9 => ?_)
     refine wp_region_lit ?_
     refine q0 hf hM [] [{}, {}] (nw := [(4, eI i)]) An ?_
     clear hf; intro a hf
     refine wpList_nil ?_
     refine hK9 _ _ ?_
     refine wp_ret ?_
     refine qr (fn := Try.f66) hf hM [] (l := [iV i]) (ob := []) An ?_
     show (iV i : Value) = .int .i64 (idxF p l) ∧ Keep Nn w w2
     refine ⟨congrArg _ ?_, hk0⟩
     rw [idxF_here (i := i.toNat) (d := 0) (by omega) (by assumption) hno]
     omega
   · have hc2 := hc2r
     refine wp_skip ?_
     refine hK6 _ _ ?_
     refine wp_region_lit ?_
     refine q0 hf hM [0, 1, 7] [{ hint := some (iV (i + 1)) }, {}] (nw := [(8, eI (i + 1))]) (ob := [(iV (IntKind.i64.wrap (i + 1)) : Value) = (iV (i + 1) : Value)]) (Ao (wr (by omega))) ?_
     clear hf; intro a hf
     refine wpList_nil ?_
     have hno2 := no_next (l := l) (i := i) (d := 0) (by omega) hno (by assumption)
     have hf := (hf.prune [0, 1, 7, 8]).to (env' := [(0, eS av l.length c), (1, .val (.func (.func gg) #[] (cb).toArray)), (7, eI (l.length : Int)), (8, eI (i + 1))]) (by kernel_rfl)
     refine hL1 _ _ _ (by omega) ⟨i + 1, rfl, hf.conv (Ac rfl (Ac rfl (Ac rfl (Ao rfl)))), hM, hk0, (by omega), hno2⟩
 · have hc1 := (nU hc1r)
   refine wp_exit ?_
   refine hK2 _ _ ?_
   refine wp_seq_k (fun K10 hK10 => ?_)
   refine wp_region_lit ?_
   refine q0 hf hM [] [{}] (nw := [(4, eI (-1))]) An ?_
   clear hf; intro a hf
   refine wpList_nil ?_
   refine hK10 _ _ ?_
   refine wp_ret ?_
   refine qr (fn := Try.f66) hf hM [] (l := [iV (-1)]) (ob := []) An ?_
   show (iV (-1) : Value) = .int .i64 (idxF p l) ∧ Keep Nn w w1
   exact ⟨congrArg _ (idxF_none (d := 0) fun j hj => hno j (by omega)).symm, hk0⟩

set_option maxRecDepth 10000 in
set_option maxHeartbeats 1600000 in
theorem delete_int (base : Nat) (av : Option Addr) (l : List Int) (c : Nat) (gg : Nat) (cb : List Value) (p : Int → Bool) (w : World) (hown : w.ownsRow base 3 1 (.slice av l.length c) l.length (flat fI l)) (hbw : base ≤ w.heap.size) (hbav : l.length ≤ 1000000) (eg : enters Try.prog gg) (hp : ∀ (x : Int) (W : World), Keep (fun i => Value.ownBlock (.slice av l.length c) = some i) w W → Calls Try.prog gg (([iV x] : List Value) ++ cb).toArray W (Ret fun v W2 => v = .bool (p x) ∧ Keep Nn W W2)) :
    Calls Try.prog 49 #[.slice av l.length c, .func (.func gg) #[] (cb).toArray] w (Ret fun v w' => v = .slice av (dropP p l).length c ∧ World.ownsRow w' base 3 1 (.slice av (dropP p l).length c) (dropP p l).length (flat fI (dropP p l)) ∧ Keep (fun i => Value.ownBlock (.slice av l.length c) = some i) w w') := by
 refine sxenter (n := 42) (args := [.slice av l.length c, .func (.func gg) #[] (cb).toArray]) Try.func49 rfl rfl rfl fun a hf => ?_
 replace hf : Fr 42 [(0, eS av l.length c), (1, .val (.func (.func gg) #[] (cb).toArray))] a := hf
 have hM : MemOk [] w := MemOk.nil w
 have hk0 : Keep (fun i => Value.ownBlock (.slice av l.length c) = some i) w w := Keep.refl _ _
 have hO : OwnOk base [] [⟨3, 1, .slice av l.length c, l.length, flat fI l⟩] w := OwnOk.one hown
 refine wp_seq_k (fun K1 hK1 => ?_)
 refine wp_region_lit ?_
 refine q0 hf hM [0, 1] [{}] (nw := []) An ?_
 clear hf; intro a hf
 refine wpList_nil ?_
 refine hK1 _ _ ?_
 refine wp_seq_k (fun K2 hK2 => ?_)
 refine wp_region_lit ?_
 refine q0 hf hM [0, 1] [{}, {}] (nw := [(9, .val (.func (.func gg) #[] (cb).toArray)), (8, eS av l.length c)]) An ?_
 clear hf; intro a hf
 refine sxcall hf rfl rfl rfl rfl (g := 66) (vs := [.slice av l.length c, .func (.func gg) #[] (cb).toArray]) (ob := []) (by as_aux_lemma => kernel_rfl) An enters66 (index_int av l c gg cb p w  (own_arr (hO.own _ (List.Mem.head _))) (by first | omega | (simp; omega) | (simp; done) | exact Nat.le_trans (byKinds_len _ _) (by omega) | decide) eg (fun x W h => hp x W (hk0.trans h.nn))) ?_
 clear hf; rintro _ w1 a ⟨rfl, hk⟩ hf
 have hO := hO.keepNn hk
 have hM := hM.keepNn hk
 have hk0 := hk0.trans hk.nn
 clear hk
 refine q0 hf hM [0, 1] [{}] (nw := [(5, eI (idxF p l))]) An ?_
 clear hf; intro a hf
 refine wpList_nil ?_
 refine hK2 _ _ ?_
 refine wp_seq_k (fun K3 hK3 => ?_)
 refine wp_seq_k (fun K4 hK4 => ?_)
 refine wp_region_lit ?_
 refine q0 hf hM [5, 0, 1] [{}, {}] (nw := [(12, eB (((idxF p l) : Int) == (-1)))]) An ?_
 clear hf; intro a hf
 refine wpList_nil ?_
 refine hK4 _ _ ?_
 refine qc hf (b := (((idxF p l) : Int) == (-1))) (fun hc1r => ?_) (fun hc1r => ?_)
 · have hc1 := (nE hc1r)
   refine wp_seq_k (fun K5 hK5 => ?_)
   refine wp_region_lit ?_
   refine q0 hf hM [] [{}, {}] (nw := [(4, eS av l.length c)]) An ?_
   clear hf; intro a hf
   refine wpList_nil ?_
   refine hK5 _ _ ?_
   refine wp_ret ?_
   refine qr (fn := Try.f49) hf hM [] (l := [.slice av l.length c]) (ob := []) An ?_
   show (.slice av l.length c : Value) = .slice av (dropP p l).length c ∧ World.ownsRow w1 base 3 1 (.slice av (dropP p l).length c) (dropP p l).length (flat fI (dropP p l)) ∧ Keep (fun i => Value.ownBlock (.slice av l.length c) = some i) w w1
   rcases idxF_spec p 0 l with ⟨_, hn⟩ | ⟨i0, h1, _⟩
   · rw [dropP_none hn]; exact ⟨rfl, hO.own _ (List.Mem.head _), hk0⟩
   · exfalso; omega
 · have hc1 := (nF hc1r)
   rcases idxF_spec p 0 l with ⟨h1, _⟩ | ⟨i0, hi0, hi1, hi2, hi3⟩
   · exact absurd h1 (by omega)
   refine wp_skip ?_
   refine hK3 _ _ ?_
   refine wp_seq_k (fun K6 hK6 => ?_)
   refine wp_seq_k (fun K7 hK7 => ?_)
   refine wp_region_lit ?_
   refine q0 hf hM [5, 0, 1] [{}, { hint := some (iV ((idxF p l) + 1)) }, {}] (nw := [(6, eI ((idxF p l) + 1))]) (ob := [(iV (IntKind.i64.wrap ((idxF p l) + 1)) : Value) = (iV ((idxF p l) + 1) : Value)]) (Ao (wr (by omega))) ?_
   clear hf; intro a hf
   refine wpList_nil ?_
   refine hK7 _ _ ?_
   refine wp_block ?_
   have hf := (hf.prune [0, 1, 5, 6]).to (env' := [(0, eS av l.length c), (1, .val (.func (.func gg) #[] (cb).toArray)), (5, eI (idxF p l)), (6, eI ((idxF p l) + 1))]) (by kernel_rfl)
   refine sxloop (fun zm a w1 => ∃ (i j : Int) (ll : List Int), zm = ((l.length : Int) - j).toNat ∧ Fr 42 [(0, eS av l.length c), (1, .val (.func (.func gg) #[] (cb).toArray)), (5, eI i), (6, eI j)] a ∧ MemOk [] w1 ∧ Keep (fun i => Value.ownBlock (.slice av l.length c) = some i) w w1 ∧ OwnOk base [] [⟨3, 1, .slice av l.length c, l.length, flat fI ll⟩] w1 ∧ (Cut p l ll i.toNat j.toNat) ∧ (0 ≤ i ∧ 0 ≤ j)) _ ⟨idxF p l, idxF p l + 1, l, rfl, hf.conv (Ac rfl (Ac rfl (Ac rfl (Ao (by first | rfl | (congr 1; omega)))))), hM, hk0, hO, (by rw [hi0, show ((i0 : Int)).toNat = i0 by omega, show ((i0 : Int) + 1).toNat = i0 + 1 by omega]; exact Cut.start hi1 hi2 hi3), (by omega)⟩ ?_
   clear hf hM hk0 hO
   rintro _ a w2 ⟨i, j, ll, rfl, hf, hM, hk0, hO, hct, hij⟩ L1 hL1
   have hl1 := hct.le; have hl2 := hct.jl; have hl3 := hct.len
   refine wp_seq_k (fun K8 hK8 => ?_)
   refine wp_seq_k (fun K9 hK9 => ?_)
   refine wp_region_lit ?_
   refine q0 hf hM [0, 1, 5, 6] [{}, {}, {}, {}] (nw := [(19, eB (decide ((j : Int) < (l.length : Int))))]) An ?_
   clear hf; intro a hf
   refine wpList_nil ?_
   refine hK9 _ _ ?_
   refine qc hf (b := (decide ((j : Int) < (l.length : Int)))) (fun hc2r => ?_) (fun hc2r => ?_)
   · have hc2 := (nT hc2r)
     refine wp_skip ?_
     refine hK8 _ _ ?_
     refine wp_seq_k (fun K10 hK10 => ?_)
     refine wp_block ?_
     refine wp_seq_k (fun K11 hK11 => ?_)
     refine wp_region_lit ?_
     refine q0 hf hM [0, 1, 5, 6] [{}, {}, { sp := true }, { os := [.ex (iV (ll.getD j.toNat 0))] }, {}] (nw := [(7, eI (ll.getD j.toNat 0))]) (ob := [(0 : Int) ≤ j ∧ j < (l.length : Int), (av : Option Addr).isSome = true, w2.cell? ((sa av : Addr).add (j.toNat * 1)) = some (iV (ll.getD j.toNat 0))]) (Ac (by first | omega | (simp; done)) (Ac ((own_arr (hO.own _ (List.Mem.head _))).some_ (by first | omega | (simp; done))) (Ao ((own_arr (hO.own _ (List.Mem.head _))).get0 (fun _ => rfl) (by first | omega | (simp; done)) rfl)))) ?_
     clear hf; intro a hf
     refine wpList_nil ?_
     refine hK11 _ _ ?_
     refine wp_seq_k (fun K12 hK12 => ?_)
     refine wp_region_lit ?_
     refine q0 hf hM [7, 0, 1, 5, 6] [{}, {}] (nw := [(27, eI (ll.getD j.toNat 0)), (26, .val (.func (.func gg) #[] (cb).toArray))]) An ?_
     clear hf; intro a hf
     refine sxcall hf rfl rfl rfl rfl (g := gg) (vs := _) (ob := []) (by as_aux_lemma => kernel_rfl) An eg (hp (ll.getD j.toNat 0) w2  hk0) ?_
     clear hf; rintro _ w3 a ⟨rfl, hk⟩ hf
     have hO := hO.keepNn hk
     have hM := hM.keepNn hk
     have hk0 := hk0.trans hk.nn
     clear hk
     refine q0 hf hM [7, 0, 1, 5, 6] [{}] (nw := [(29, eB (!(p (ll.getD j.toNat 0))))]) An ?_
     clear hf; intro a hf
     refine wpList_nil ?_
     refine hK12 _ _ ?_
     refine qc hf (b := !(p (ll.getD j.toNat 0))) (fun hc3r => ?_) (fun hc3r => ?_)
     · have hc3 := hc3r
       try simp only [Bool.or_eq_true, Bool.and_eq_true, Bool.not_eq_true', Bool.not_eq_false', Bool.or_eq_false_iff, Bool.and_eq_false_iff, decide_eq_true_eq, decide_eq_false_iff_not, beq_iff_eq, bne_iff_ne, beq_eq_false_iff_ne, bne_eq_false_iff_eq, Bool.and_true, Bool.true_and, ne_eq] at hc3
       refine wp_seq_k (fun K13 hK13 => ?_)
       refine wp_region_lit ?_
       refine q0 hf hM [0, 1, 5, 6] [{}, {}, {}, { sp := true }] (nw := [(33, .val (.pointer (some ((sa av : Addr).add (i.toNat * 1))))), (32, eI (ll.getD j.toNat 0))]) (ob := [(0 : Int) ≤ i ∧ i < (l.length : Int), (av : Option Addr).isSome = true]) (Ac (by first | omega | (simp; done)) (Ao ((own_arr (hO.own _ (List.Mem.head _))).some_ (by first | omega | (simp; done))))) ?_
       clear hf; intro a hf
       refine sxset hf hM hO rfl rfl rfl (val := iV (ll.getD j.toNat 0)) rfl rfl (i := i.toNat) (q := 0) (x := (ll.getD j.toNat 0)) (d := 0) rfl (by kernel_rfl) (fun _ => rfl) (by omega) hl3 rfl rfl rfl (by intro u hu; simp [Value.cells] at hu; first | (subst hu; rfl) | (rcases hu with rfl | rfl <;> rfl) | (rcases hu with rfl | rfl | rfl <;> rfl) | (rcases hu with rfl | rfl | rfl | rfl <;> rfl) | (rcases hu with rfl | rfl | rfl | rfl | rfl <;> rfl)) ?_
       clear hf; intro a w4 hf hM hO hk
       have hk0 := hk0.then hk (by intro i hi h; exact h)
       clear hk
       refine wpList_nil ?_
       refine hK13 _ _ ?_
       refine wp_region_lit ?_
       refine q0 hf hM [0, 1, 6] [{}, { hint := some (iV (i + 1)) }, {}] (nw := [(5, eI (i + 1))]) (ob := [(iV (IntKind.i64.wrap (i + 1)) : Value) = (iV (i + 1) : Value)]) (Ao (wr (by omega))) ?_
       clear hf; intro a hf
       refine wpList_nil ?_
       refine hK10 _ _ ?_
       refine wp_region_lit ?_
       refine q0 hf hM [5, 0, 1] [{}, { hint := some (iV (j + 1)) }, {}] (nw := [(6, eI (j + 1))]) (ob := [(iV (IntKind.i64.wrap (j + 1)) : Value) = (iV (j + 1) : Value)]) (Ao (wr (by omega))) ?_
       clear hf; intro a hf
       refine wpList_nil ?_
       have hct2 : Cut p l (ll.set i.toNat (ll.getD j.toNat 0)) (i + 1).toNat (j + 1).toNat := by
         rw [show (j + 1).toNat = j.toNat + 1 by omega, show (i + 1).toNat = i.toNat + 1 by omega]
         exact hct.keep (d := 0) (by omega) (by assumption)
       have hf := (hf.prune [0, 1, 5, 6]).to (env' := [(0, eS av l.length c), (1, .val (.func (.func gg) #[] (cb).toArray)), (5, eI (i + 1)), (6, eI (j + 1))]) (by kernel_rfl)
       refine hL1 _ _ _ (by omega) ⟨i + 1, j + 1, (ll.set i.toNat (ll.getD j.toNat 0)), rfl, hf.conv (Ac rfl (Ac rfl (Ac rfl (Ao rfl)))), hM, hk0, hO, hct2, (by omega)⟩
     · have hc3 := hc3r
       try simp only [Bool.or_eq_true, Bool.and_eq_true, Bool.not_eq_true', Bool.not_eq_false', Bool.or_eq_false_iff, Bool.and_eq_false_iff, decide_eq_true_eq, decide_eq_false_iff_not, beq_iff_eq, bne_iff_ne, beq_eq_false_iff_ne, bne_eq_false_iff_eq, Bool.and_true, Bool.true_and, ne_eq] at hc3
       refine wp_skip ?_
       refine hK10 _ _ ?_
       refine wp_region_lit ?_
       refine q0 hf hM [0, 1, 5] [{}, { hint := some (iV (j + 1)) }, {}] (nw := [(6, eI (j + 1))]) (ob := [(iV (IntKind.i64.wrap (j + 1)) : Value) = (iV (j + 1) : Value)]) (Ao (wr (by omega))) ?_
       clear hf; intro a hf
       refine wpList_nil ?_
       have hct2 : Cut p l ll i.toNat (j + 1).toNat := by
         rw [show (j + 1).toNat = j.toNat + 1 by omega]
         exact hct.skip (d := 0) (by omega) (by assumption)
       have hf := (hf.prune [0, 1, 5, 6]).to (env' := [(0, eS av l.length c), (1, .val (.func (.func gg) #[] (cb).toArray)), (5, eI i), (6, eI (j + 1))]) (by kernel_rfl)
       refine hL1 _ _ _ (by omega) ⟨i, j + 1, ll, rfl, hf.conv (Ac rfl (Ac rfl (Ac rfl (Ao rfl)))), hM, hk0, hO, hct2, (by omega)⟩
   · have hc2 := (nU hc2r)
     refine wp_exit ?_
     refine hK6 _ _ ?_
     refine wp_seq_k (fun K14 hK14 => ?_)
     refine wp_region_lit ?_
     refine q0 hf hM [0, 5] [{}, {}, { sp := true, hint := some (.slice (cutA av i.toNat c 1) (l.length - i.toNat) (c - i.toNat)) }] (nw := [(38, eS (cutA av i.toNat c 1) (l.length - i.toNat) (c - i.toNat))]) (ob := [0 ≤ (i : Int) ∧ (i : Int) ≤ ((l.length : Nat) : Int), (.slice (cutA av (i : Int).toNat c 1) (l.length - (i : Int).toNat) (c - (i : Int).toNat) : Value) = (.slice (cutA av i.toNat c 1) (l.length - i.toNat) (c - i.toNat) : Value)]) (Ac (by have := ((own_arr (hO.own _ (List.Mem.head _)))).le; omega) (Ao (by first | rfl | (simp; done) | (simp; omega)))) ?_
     clear hf; intro a hf
     refine sxclear hf hM hO rfl rfl rfl (m := i.toNat) rfl Try.underlying43 (z := 0) (by kernel_rfl) (fun _ => rfl) fI_one rfl (by omega) ?_
     clear hf; intro a w5 hf hM hO hk
     have hk0 := hk0.then hk (by intro i hi h; exact h)
     clear hk
     refine wpList_nil ?_
     refine hK14 _ _ ?_
     refine wp_seq_k (fun K15 hK15 => ?_)
     refine wp_region_lit ?_
     refine q0 hf hM [] [{}, {}] (nw := [(40, eI i), (39, eS av l.length c)]) An ?_
     clear hf; intro a hf
     refine sxval hf rfl rfl rfl rfl (v := .slice av i.toNat c) (ob := []) (by kernel_rfl) An (by rw [show (.slice av i.toNat c : Value) = .slice av (i : Int).toNat c from (by simp)]; exact ox_slice_h rfl rfl rfl Try.underlying43 (sz := 1) (by kernel_rfl) (by have := ((own_arr (hO.own _ (List.Mem.head _)))).le; omega)) ?_
     clear hf; intro a hf
     have hO := hO.cut (fun _ => rfl) (m := i.toNat) (by omega)
     replace hO : OwnOk base [] [⟨3, 1, .slice av i.toNat c, i.toNat, flat fI ((ll.take i.toNat ++ List.replicate (l.length - i.toNat) 0).take i.toNat)⟩] w5 := hO
     have el : ((ll.take i.toNat ++ List.replicate (l.length - i.toNat) 0).take i.toNat) = (dropP p l) := (hct.done (by omega) _)
     rw [el] at hO; clear el
     have en : (i.toNat : Nat) = (dropP p l).length := (hct.lenEq (by omega))
     replace hO := hO.lenTo en
     have hf := (hf.prune [41, 40, 39]).to (env' := [(41, eS av i.toNat c), (40, eI i), (39, eS av l.length c)]) (by kernel_rfl)
     replace hf : Fr 42 [(41, eS av (dropP p l).length c), (40, eI i), (39, eS av l.length c)] a := hf.conv (Ac (by rw [en]; rfl) (Ac rfl (Ao rfl)))
     clear en
     replace hO : OwnOk base [] [⟨3, 1, .slice av (dropP p l).length c, (dropP p l).length, flat fI (dropP p l)⟩] w5 := hO
     refine q0 hf hM [] [{}] (nw := [(4, eS av (dropP p l).length c)]) An ?_
     clear hf; intro a hf
     refine wpList_nil ?_
     refine hK15 _ _ ?_
     refine wp_ret ?_
     refine qr (fn := Try.f49) hf hM [] (l := [.slice av (dropP p l).length c]) (ob := []) An ?_
     show (.slice av (dropP p l).length c : Value) = .slice av (dropP p l).length c ∧ World.ownsRow w5 base 3 1 (.slice av (dropP p l).length c) (dropP p l).length (flat fI (dropP p l)) ∧ Keep (fun i => Value.ownBlock (.slice av l.length c) = some i) w w5
     exact ⟨rfl, hO.own _ (List.Mem.head _), hk0⟩

set_option maxRecDepth 10000 in
set_option maxHeartbeats 1600000 in
theorem drop1I (m kk : Int) (B : Nat) (w : World) (hB : w.cell? ⟨B, 0, none⟩ = some (.int .i64 kk)) :
    Calls Try.prog 50 #[iV m, pV B 0] w (Ret fun v w' => v = .bool ((m : Int) == kk) ∧ Keep Nn w w') := by
 refine sxenter (n := 7) (args := [iV m, pV B 0]) Try.func50 rfl rfl rfl fun a hf => ?_
 replace hf : Fr 7 [(0, eI m), (1, eP B 0)] a := hf
 have hM : MemOk [] w := MemOk.nil w
 have hk0 : Keep Nn w w := Keep.refl _ _
 refine wp_seq_k (fun K1 hK1 => ?_)
 refine wp_region_lit ?_
 refine q0 hf hM [0, 1] [{}] (nw := []) An ?_
 clear hf; intro a hf
 refine wpList_nil ?_
 refine hK1 _ _ ?_
 refine wp_seq_k (fun K2 hK2 => ?_)
 refine wp_region_lit ?_
 refine q0 hf hM [] [{}, { os := [.ex (iV kk)] }, {}, {}] (nw := [(3, eB ((m : Int) == kk))]) (ob := [w.cell? ⟨B, 0, none⟩ = some (iV kk)]) (Ao (hk0.cell hB (fun h => h))) ?_
 clear hf; intro a hf
 refine wpList_nil ?_
 refine hK2 _ _ ?_
 refine wp_ret ?_
 refine qr (fn := Try.f50) hf hM [] (l := [bV ((m : Int) == kk)]) (ob := []) An ?_
 show (bV ((m : Int) == kk) : Value) = .bool ((m : Int) == kk) ∧ Keep Nn w w
 exact ⟨rfl, hk0⟩

set_option maxRecDepth 10000 in
set_option maxHeartbeats 1600000 in
theorem odrop (av : Option Addr) (l : List Int) (c : Nat) (n : Int) (w : World) (hav : Arr w 1 av l.length c (flat fI l)) (hbav : l.length ≤ 1000000) :
    Calls Try.prog 32 #[.slice av l.length c, iV n] w (Ret fun v w' => ∃ a' c', v = .slice a' (dropP (fun y : Int => y == n) l).length c' ∧ Keep Nn w w' ∧ World.ownsRow w' w.heap.size 3 1 (.slice a' (dropP (fun y : Int => y == n) l).length c') (dropP (fun y : Int => y == n) l).length (flat fI (dropP (fun y : Int => y == n) l))) := by
 refine sxenter (n := 9) (args := [.slice av l.length c, iV n]) Try.func32 rfl rfl rfl fun a hf => ?_
 replace hf : Fr 9 [(0, eS av l.length c), (1, eI n)] a := hf
 have hM : MemOk [] w := MemOk.nil w
 have hk0 : Keep Nn w w := Keep.refl _ _
 refine wp_seq_k (fun K1 hK1 => ?_)
 refine wp_region_lit ?_
 refine q1 hf hM [0] [{ os := [.nw] }, {}] (nw := fun B1 => [(3, eP B1 0)]) (M' := fun B1 => [⟨B1, 3, [iV n]⟩]) (ob := fun B1 => []) (fun B1 => An) ?_
 clear hf hM; intro a w1 B1 hf hM hB hk
 have hbB1 : w.heap.size ≤ B1 := by have := hk0.size; omega
 have hk0 := hk0.then hk (by intro i _ h; cases h)
 clear hk hB
 refine wpList_nil ?_
 refine hK1 _ _ ?_
 refine wp_seq_k (fun K2 hK2 => ?_)
 refine wp_region_lit ?_
 refine q0 hf hM [3] [{}] (nw := [(5, eS av l.length c)]) An ?_
 clear hf; intro a hf
 refine sxcall hf rfl rfl rfl rfl (g := 47) (vs := [.slice av l.length c]) (ob := []) (by as_aux_lemma => kernel_rfl) An enters47 (clone_int av l c w1  (hav.keepNn hk0) (by first | omega | (simp; omega) | (simp; done) | exact Nat.le_trans (byKinds_len _ _) (by omega) | decide)) ?_
 clear hf; rintro _ w2 a ⟨a'1, c'1, rfl, hk, hx1⟩ hf
 have hO : OwnOk w.heap.size [⟨B1, 3, [iV n]⟩] [] w1 := OwnOk.nil hM
 have hO := hO.more hM hk (by have := hk0.size; omega) hx1
 replace hO : OwnOk w.heap.size [⟨B1, 3, [iV n]⟩] [⟨3, 1, .slice a'1 l.length c'1, l.length, flat fI l⟩] _ := hO
 have hM := hM.keepNn hk
 have hk0 := hk0.trans hk.nn
 clear hk
 refine q0 hf hM [6] [{}] (nw := [(7, .val (.func (.func 50) #[] #[pV B1 0]))]) An ?_
 clear hf; intro a hf
 replace hO : OwnOk w.heap.size [⟨B1, 3, [iV n]⟩] [⟨3, 1, .slice a'1 l.length c'1, l.length, flat fI l⟩] w2 := OwnOk.front (l1 := []) (l2 := []) hO
 refine sxcall hf rfl rfl rfl rfl (g := 49) (vs := [.slice a'1 l.length c'1, .func (.func 50) #[] #[pV B1 0]]) (ob := []) (by as_aux_lemma => kernel_rfl) An enters49 (delete_int _ a'1 l c'1 50 [pV B1 0] (fun y : Int => y == n) w2 (hO.own _ (List.Mem.head _)) (by have := hk0.size; omega) (by omega) enters50 (fun x W h => drop1I x n _ W ((cell?_blk ((hO.memTurn hM h).at_ _ (List.Mem.head _)) 0).trans rfl))) ?_
 clear hf; rintro _ w3 a ⟨rfl, hx, hk⟩ hf
 have hM := hO.memTurn hM hk; have hk0 := hk0.then hk (by intro i hi h; have := ((hO.own _ (List.Mem.head _)).lt i h).1; omega); have hO := hO.turn2 hk hx; clear hk hx
 replace hO : OwnOk w.heap.size [⟨B1, 3, [iV n]⟩] [⟨3, 1, .slice a'1 ((dropP (fun y : Int => y == n) l).length) c'1, (dropP (fun y : Int => y == n) l).length, flat fI (dropP (fun y : Int => y == n) l)⟩] w3 := hO
 refine q0 hf hM [] [{}] (nw := [(4, eS a'1 ((dropP (fun y : Int => y == n) l).length) c'1)]) An ?_
 clear hf; intro a hf
 refine wpList_nil ?_
 refine hK2 _ _ ?_
 refine wp_ret ?_
 refine qr (fn := Try.f32) hf hM [] (l := [.slice a'1 ((dropP (fun y : Int => y == n) l).length) c'1]) (ob := []) An ?_
 show ∃ a' c', (.slice a'1 ((dropP (fun y : Int => y == n) l).length) c'1 : Value) = .slice a' (dropP (fun y : Int => y == n) l).length c' ∧ Keep Nn w w3 ∧ World.ownsRow w3 w.heap.size 3 1 (.slice a' (dropP (fun y : Int => y == n) l).length c') (dropP (fun y : Int => y == n) l).length (flat fI (dropP (fun y : Int => y == n) l))
 exact ⟨_, _, rfl, hk0, hO.own _ (List.Mem.head _)⟩
end Go.Proofs.Ytllopoaojchcmaa
