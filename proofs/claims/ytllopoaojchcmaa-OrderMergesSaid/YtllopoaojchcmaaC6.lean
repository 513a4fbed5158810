/- laws of layer 2: OrderMerges -/
import Derived.Test.YtllopoaojchcmaaB5
namespace Go.Proofs.Ytllopoaojchcmaa
open Go.Px
set_option linter.unusedVariables false
set_option linter.unusedSimpArgs false

set_option maxRecDepth 10000 in
set_option maxHeartbeats 1600000 in
theorem orderMerges_any (av : Option Addr) (l : List H2) (c : Nat) (bv : Option Addr) (m : List H2) (cm : Nat) (w : World) (hav : Arr w 2 av l.length c (flat fH l)) (hbv : Arr w 2 bv m.length cm (flat fH m)) :
    Calls Try.prog 7 #[.slice av l.length c, .slice bv m.length cm] w (Ret fun v w' => v = .bool true ∧ Keep Nn w w') := by
 refine sxenter (n := 78) (args := [.slice av l.length c, .slice bv m.length cm]) Try.func7 rfl rfl rfl fun a hf => ?_
 replace hf : Fr 78 [(0, eS av l.length c), (1, eS bv m.length cm)] a := hf
 have hM : MemOk [] w := MemOk.nil w
 have hk0 : Keep Nn w w := Keep.refl _ _
 have hol := ordS_len (lt := ltH) l
 have hom := ordS_len (lt := ltH) m
 have hob := ordS_len (lt := ltH) ((ordS ltH l) ++ (ordS ltH m))
 rw [List.length_append] at hob
 have hdw := dropP_len (inS (ordS ltH m)) (ordS ltH l)
 have hrx := ordS_rises ordH l
 have hry := ordS_rises ordH m
 have hs0 : sameL (ordS ltH ((ordS ltH l) ++ (ordS ltH m))) (ordS ltH ((ordS ltH l) ++ (ordS ltH m))) = true := sameL_refl _
 have hs1 : sameL (dropP (inS (ordS ltH m)) (ordS ltH l)) (dropP (inS (ordS ltH m)) (ordS ltH l)) = true := sameL_refl _
 have hs2 : sameL (ordS ltH l) (ordS ltH l) = true := sameL_refl _
 have hs3 : sameL (ordS ltH m) (ordS ltH m) = true := sameL_refl _
 refine wp_seq_k (fun K1 hK1 => ?_)
 refine wp_region_lit ?_
 refine q0 hf hM [0, 1] [{}] (nw := []) An ?_
 clear hf; intro a hf
 refine wpList_nil ?_
 refine hK1 _ _ ?_
 refine wp_seq_k (fun K2 hK2 => ?_)
 refine wp_seq_k (fun K3 hK3 => ?_)
 refine wp_region_lit ?_
 refine sxcall hf rfl rfl rfl rfl (g := 12) (vs := []) (ob := []) (by as_aux_lemma => kernel_rfl) An enters12 (alive2  w  ) ?_
 clear hf; rintro _ w1 a ⟨rfl, hk⟩ hf
 have hM := hM.keepNn hk
 have hk0 := hk0.trans hk.nn
 clear hk
 refine q0 hf hM [0, 1] [{}] (nw := [(14, eB false)]) An ?_
 clear hf; intro a hf
 refine wpList_nil ?_
 refine hK3 _ _ ?_
 refine sxcond hf (b := false) (by kernel_rfl) (fun h => by cases h) (fun _ => ?_)
 refine wp_skip ?_
 refine hK2 _ _ ?_
 refine wp_seq_k (fun K4 hK4 => ?_)
 refine wp_seq_k (fun K5 hK5 => ?_)
 refine wp_region_lit ?_
 refine q0 hf hM [0, 1] [{}, {}, {}, {}, { g := .sym }, { g := .sym }, { g := .sym }, { hint := some (bV ((decide (((l.length : Int) : Int) > 100)) || (decide (((m.length : Int) : Int) > 100)))) }] (nw := [(22, eB ((decide (((l.length : Int) : Int) > 100)) || (decide (((m.length : Int) : Int) > 100))))]) (ob := [((decide (((l.length : Int) : Int) > 100)) = false → (decide (((l.length : Int) : Int) > 100)) = (decide (((l.length : Int) : Int) > 100))), ((decide (((l.length : Int) : Int) > 100)) = false → (decide (((l.length : Int) : Int) > 100)) = (decide (((l.length : Int) : Int) > 100))), ((decide (((l.length : Int) : Int) > 100)) = false → (decide (((l.length : Int) : Int) > 100)) = (decide (((l.length : Int) : Int) > 100))), (bif (decide (((l.length : Int) : Int) > 100)) then (bV true : Value) else bV (decide (((m.length : Int) : Int) > 100))) = .bool ((decide (((l.length : Int) : Int) > 100)) || (decide (((m.length : Int) : Int) > 100)))]) (Ac (fun hgd => rfl) (Ac (fun hgd => rfl) (Ac (fun _ => rfl) (Ao (pick_or _ _))))) ?_
 clear hf; intro a hf
 refine wpList_nil ?_
 refine hK5 _ _ ?_
 refine qc hf (b := ((decide (((l.length : Int) : Int) > 100)) || (decide (((m.length : Int) : Int) > 100)))) (fun hc2r => ?_) (fun hc2r => ?_)
 · have hc2 := hc2r
   try simp only [Bool.or_eq_true, Bool.and_eq_true, Bool.not_eq_true', Bool.not_eq_false', Bool.or_eq_false_iff, Bool.and_eq_false_iff, decide_eq_true_eq, decide_eq_false_iff_not, beq_iff_eq, bne_iff_ne, beq_eq_false_iff_ne, bne_eq_false_iff_eq, Bool.and_true, Bool.true_and, ne_eq] at hc2
   refine wp_seq_k (fun K6 hK6 => ?_)
   refine wp_region_lit ?_
   refine q0 hf hM [] [{}] (nw := [(4, eB true)]) An ?_
   clear hf; intro a hf
   refine wpList_nil ?_
   refine hK6 _ _ ?_
   refine wp_ret ?_
   refine qr (fn := Try.f7) hf hM [] (l := [bV true]) (ob := []) An ?_
   show (bV true : Value) = .bool true ∧ Keep Nn w w1
   refine ⟨congrArg Value.bool ?_, hk0⟩
   first | rfl | (simp; done) | (simp_all; done)
 · have hc2 := hc2r
   try simp only [Bool.or_eq_true, Bool.and_eq_true, Bool.not_eq_true', Bool.not_eq_false', Bool.or_eq_false_iff, Bool.and_eq_false_iff, decide_eq_true_eq, decide_eq_false_iff_not, beq_iff_eq, bne_iff_ne, beq_eq_false_iff_ne, bne_eq_false_iff_eq, Bool.and_true, Bool.true_and, ne_eq] at hc2
   refine wp_skip ?_
   refine hK4 _ _ ?_
   refine wp_seq_k (fun K7 hK7 => ?_)
   refine wp_region_lit ?_
   refine q0 hf hM [0, 1] [{}] (nw := [(23, eS av l.length c)]) An ?_
   clear hf; intro a hf
   refine sxcall hf rfl rfl rfl rfl (g := 15) (vs := [.slice av l.length c]) (ob := []) (by as_aux_lemma => kernel_rfl) An enters15 (rHandles av l c w1  (hav.keepNn hk0) (by first | omega | (simp; omega) | (simp; done) | exact Nat.le_trans (byKinds_len _ _) (by omega) | decide)) ?_
   clear hf; rintro _ w2 a ⟨a'1, c'1, rfl, hk, hx1⟩ hf
   have hO : OwnOk w.heap.size [] [] w1 := OwnOk.nil hM
   have hO := hO.more hM hk (by have := hk0.size; omega) hx1
   replace hO : OwnOk w.heap.size [] [⟨28, 2, .slice a'1 (ordS ltH l).length c'1, (ordS ltH l).length, flat fH (ordS ltH l)⟩] _ := hO
   have hM := hM.keepNn hk
   have hk0 := hk0.trans hk.nn
   clear hk
   refine q0 hf hM [24, 0, 1] [{}] (nw := [(25, eS bv m.length cm)]) An ?_
   clear hf; intro a hf
   refine sxcall hf rfl rfl rfl rfl (g := 15) (vs := [.slice bv m.length cm]) (ob := []) (by as_aux_lemma => kernel_rfl) An enters15 (rHandles bv m cm w2  (hbv.keepNn hk0) (by first | omega | (simp; omega) | (simp; done) | exact Nat.le_trans (byKinds_len _ _) (by omega) | decide)) ?_
   clear hf; rintro _ w3 a ⟨a'2, c'2, rfl, hk, hx2⟩ hf
   have hO := hO.more hM hk (by have := hk0.size; omega) hx2
   replace hO : OwnOk w.heap.size [] [⟨28, 2, .slice a'2 (ordS ltH m).length c'2, (ordS ltH m).length, flat fH (ordS ltH m)⟩, ⟨28, 2, .slice a'1 (ordS ltH l).length c'1, (ordS ltH l).length, flat fH (ordS ltH l)⟩] _ := hO
   have hM := hM.keepNn hk
   have hk0 := hk0.trans hk.nn
   clear hk
   refine q0 hf hM [0, 1] [{}, {}] (nw := [(6, eS a'2 (ordS ltH m).length c'2), (5, eS a'1 (ordS ltH l).length c'1)]) An ?_
   clear hf; intro a hf
   refine wpList_nil ?_
   refine hK7 _ _ ?_
   refine wp_seq_k (fun K8 hK8 => ?_)
   refine wp_region_lit ?_
   refine sxbslice hf hM (t := 22) (e := 28) (len := 0) (cs := []) (ob := []) rfl rfl rfl rfl (by as_aux_lemma => kernel_rfl) An (by as_aux_lemma => kernel_rfl) ?_
   clear hf hM; intro a w4 B8 hf hM hB hk
   replace hM : MemOk [⟨B8, 28, []⟩] w4 := hM
   have hbB8 : w.heap.size ≤ B8 := by have := hk0.size; omega
   have hk0 := hk0.trans hk.nn
   have hO := hO.step hM hk.nn (by intro i h; simp only [Mem.names, List.map_cons, List.map_nil, List.mem_cons, List.not_mem_nil, or_false, List.map_append, List.cons_append, List.nil_append] at h ⊢; omega)
   clear hk hB
   refine sxbslice hf hM (t := 22) (e := 28) (len := 0) (cs := []) (ob := []) rfl rfl rfl rfl (by as_aux_lemma => kernel_rfl) An (by as_aux_lemma => kernel_rfl) ?_
   clear hf hM; intro a w5 B9 hf hM hB hk
   replace hM : MemOk [⟨B8, 28, []⟩, ⟨B9, 28, []⟩] w5 := hM
   have hbB9 : w.heap.size ≤ B9 := by have := hk0.size; omega
   have hk0 := hk0.trans hk.nn
   have hO := hO.step hM hk.nn (by intro i h; simp only [Mem.names, List.map_cons, List.map_nil, List.mem_cons, List.not_mem_nil, or_false, List.map_append, List.cons_append, List.nil_append] at h ⊢; omega)
   clear hk hB
   refine q0 hf hM [6, 5, 0, 1] [{}, {}] (nw := [(8, eS (some ⟨B9, 0, none⟩) 0 0), (7, eS (some ⟨B8, 0, none⟩) 0 0)]) An ?_
   clear hf; intro a hf
   refine wpList_nil ?_
   refine hK8 _ _ ?_
   replace hO := OwnOk.took (M1 := []) (M2 := [⟨B9, 28, []⟩]) (sz := 2) hO hM (n := 0) (c := 0) (by have := hk0.size; omega) (by decide) (by decide) rfl
   replace hM : MemOk [⟨B9, 28, []⟩] w5 := hM.sub (.cons _ (.cons_cons _ .slnil))
   replace hO : OwnOk w.heap.size [⟨B9, 28, []⟩] [⟨28, 2, .slice (some ⟨B8, 0, none⟩) 0 0, 0, flat fH ([] : List H2)⟩, ⟨28, 2, .slice a'2 (ordS ltH m).length c'2, (ordS ltH m).length, flat fH (ordS ltH m)⟩, ⟨28, 2, .slice a'1 (ordS ltH l).length c'1, (ordS ltH l).length, flat fH (ordS ltH l)⟩] w5 := hO
   replace hO := OwnOk.took (M1 := []) (M2 := []) (sz := 2) hO hM (n := 0) (c := 0) (by have := hk0.size; omega) (by decide) (by decide) rfl
   replace hM : MemOk [] w5 := hM.sub (.cons _ .slnil)
   replace hO : OwnOk w.heap.size [] [⟨28, 2, .slice (some ⟨B9, 0, none⟩) 0 0, 0, flat fH ([] : List H2)⟩, ⟨28, 2, .slice (some ⟨B8, 0, none⟩) 0 0, 0, flat fH ([] : List H2)⟩, ⟨28, 2, .slice a'2 (ordS ltH m).length c'2, (ordS ltH m).length, flat fH (ordS ltH m)⟩, ⟨28, 2, .slice a'1 (ordS ltH l).length c'1, (ordS ltH l).length, flat fH (ordS ltH l)⟩] w5 := hO
   obtain ⟨K9, hK9, oK9⟩ := kcls (fun a w1 => ∃ (a7 : Option Addr) (c7 : Nat) (a8 : Option Addr) (c8 : Nat), Fr 78 [(0, eS av l.length c), (1, eS bv m.length cm), (5, eS a'1 (ordS ltH l).length c'1), (6, eS a'2 (ordS ltH m).length c'2), (7, eS a7 (ordS ltH l).length c7), (8, eS a8 ((dropP (inS (ordS ltH m)) (ordS ltH l)).length) c8)] a ∧ MemOk [] w1 ∧ Keep Nn w w1 ∧ OwnOk w.heap.size [] [⟨28, 2, .slice a8 ((dropP (inS (ordS ltH m)) (ordS ltH l)).length) c8, (dropP (inS (ordS ltH m)) (ordS ltH l)).length, flat fH (dropP (inS (ordS ltH m)) (ordS ltH l))⟩, ⟨28, 2, .slice a7 (ordS ltH l).length c7, (ordS ltH l).length, flat fH (ordS ltH l)⟩, ⟨28, 2, .slice a'2 (ordS ltH m).length c'2, (ordS ltH m).length, flat fH (ordS ltH m)⟩, ⟨28, 2, .slice a'1 (ordS ltH l).length c'1, (ordS ltH l).length, flat fH (ordS ltH l)⟩] w1)
   refine sxjoin K9 ?_ ?_
   ·
     refine wp_seq_k (fun K10 hK10 => ?_)
     refine wp_region_lit ?_
     refine q0 hf hM [8, 7, 6, 5, 0, 1] [{}, {}, {}] (nw := [(31, eI 0), (30, eI ((ordS ltH l).length : Int)), (29, eS a'1 (ordS ltH l).length c'1)]) An ?_
     clear hf; intro a hf
     refine wpList_nil ?_
     refine hK10 _ _ ?_
     refine wp_block ?_
     have hf := (hf.prune [0, 1, 5, 6, 7, 8, 29, 30, 31]).to (env' := [(0, eS av l.length c), (1, eS bv m.length cm), (5, eS a'1 (ordS ltH l).length c'1), (6, eS a'2 (ordS ltH m).length c'2), (7, eS (some ⟨B8, 0, none⟩) 0 0), (8, eS (some ⟨B9, 0, none⟩) 0 0), (29, eS a'1 (ordS ltH l).length c'1), (30, eI ((ordS ltH l).length : Int)), (31, eI 0)]) (by kernel_rfl)
     replace hO : OwnOk w.heap.size [] [⟨28, 2, .slice (some ⟨B9, 0, none⟩) ((dropP (inS (ordS ltH m)) ((ordS ltH l).take (0 : Int).toNat)).length) 0, (dropP (inS (ordS ltH m)) ((ordS ltH l).take (0 : Int).toNat)).length, flat fH (dropP (inS (ordS ltH m)) ((ordS ltH l).take (0 : Int).toNat))⟩, ⟨28, 2, .slice (some ⟨B8, 0, none⟩) (((ordS ltH l).take (0 : Int).toNat).length) 0, ((ordS ltH l).take (0 : Int).toNat).length, flat fH ((ordS ltH l).take (0 : Int).toNat)⟩, ⟨28, 2, .slice a'2 (ordS ltH m).length c'2, (ordS ltH m).length, flat fH (ordS ltH m)⟩, ⟨28, 2, .slice a'1 (ordS ltH l).length c'1, (ordS ltH l).length, flat fH (ordS ltH l)⟩] w5 := by
      first | exact hO | (have e : ([⟨28, 2, .slice (some ⟨B9, 0, none⟩) 0 0, 0, flat fH ([] : List H2)⟩, ⟨28, 2, .slice (some ⟨B8, 0, none⟩) 0 0, 0, flat fH ([] : List H2)⟩, ⟨28, 2, .slice a'2 (ordS ltH m).length c'2, (ordS ltH m).length, flat fH (ordS ltH m)⟩, ⟨28, 2, .slice a'1 (ordS ltH l).length c'1, (ordS ltH l).length, flat fH (ordS ltH l)⟩] : List Own) = [⟨28, 2, .slice (some ⟨B9, 0, none⟩) ((dropP (inS (ordS ltH m)) ((ordS ltH l).take (0 : Int).toNat)).length) 0, (dropP (inS (ordS ltH m)) ((ordS ltH l).take (0 : Int).toNat)).length, flat fH (dropP (inS (ordS ltH m)) ((ordS ltH l).take (0 : Int).toNat))⟩, ⟨28, 2, .slice (some ⟨B8, 0, none⟩) (((ordS ltH l).take (0 : Int).toNat).length) 0, ((ordS ltH l).take (0 : Int).toNat).length, flat fH ((ordS ltH l).take (0 : Int).toNat)⟩, ⟨28, 2, .slice a'2 (ordS ltH m).length c'2, (ordS ltH m).length, flat fH (ordS ltH m)⟩, ⟨28, 2, .slice a'1 (ordS ltH l).length c'1, (ordS ltH l).length, flat fH (ordS ltH l)⟩] := by rfl) <;> (rw [← e]; exact hO)
     refine sxloop (fun zm a w1 => ∃ (i : Int) (a7 : Option Addr) (c7 : Nat) (a8 : Option Addr) (c8 : Nat), zm = (((ordS ltH l).length : Int) - i).toNat ∧ Fr 78 [(0, eS av l.length c), (1, eS bv m.length cm), (5, eS a'1 (ordS ltH l).length c'1), (6, eS a'2 (ordS ltH m).length c'2), (7, eS a7 (((ordS ltH l).take i.toNat).length) c7), (8, eS a8 ((dropP (inS (ordS ltH m)) ((ordS ltH l).take i.toNat)).length) c8), (29, eS a'1 (ordS ltH l).length c'1), (30, eI ((ordS ltH l).length : Int)), (31, eI i)] a ∧ MemOk [] w1 ∧ Keep Nn w w1 ∧ OwnOk w.heap.size [] [⟨28, 2, .slice a8 ((dropP (inS (ordS ltH m)) ((ordS ltH l).take i.toNat)).length) c8, (dropP (inS (ordS ltH m)) ((ordS ltH l).take i.toNat)).length, flat fH (dropP (inS (ordS ltH m)) ((ordS ltH l).take i.toNat))⟩, ⟨28, 2, .slice a7 (((ordS ltH l).take i.toNat).length) c7, ((ordS ltH l).take i.toNat).length, flat fH ((ordS ltH l).take i.toNat)⟩, ⟨28, 2, .slice a'2 (ordS ltH m).length c'2, (ordS ltH m).length, flat fH (ordS ltH m)⟩, ⟨28, 2, .slice a'1 (ordS ltH l).length c'1, (ordS ltH l).length, flat fH (ordS ltH l)⟩] w1 ∧ (0 ≤ i ∧ i ≤ ((ordS ltH l).length : Int))) _ ⟨0, some ⟨B8, 0, none⟩, 0, some ⟨B9, 0, none⟩, 0, rfl, hf.conv (Ac rfl (Ac rfl (Ac rfl (Ac rfl (Ac rfl (Ac rfl (Ac rfl (Ac rfl (Ao rfl))))))))), hM, hk0, hO, (by omega)⟩ ?_
     clear hf hM hk0 hO
     rintro _ a w6 ⟨i, a7, c7, a8, c8, rfl, hf, hM, hk0, hO, hi⟩ L1 hL1
     have hdl := dropP_len (inS (ordS ltH m)) ((ordS ltH l).take i.toNat)
     have hdl2 : ((ordS ltH l).take i.toNat).length ≤ (ordS ltH l).length := (List.take_sublist _ _).length_le
     refine wp_seq_k (fun K11 hK11 => ?_)
     refine wp_region_lit ?_
     refine q0 hf hM [0, 1, 5, 6, 7, 8, 29, 30, 31] [{}] (nw := [(32, eB (decide ((i : Int) < ((ordS ltH l).length : Int))))]) An ?_
     clear hf; intro a hf
     refine wpList_nil ?_
     refine hK11 _ _ ?_
     refine wp_seq_k (fun K12 hK12 => ?_)
     refine qc hf (b := (decide ((i : Int) < ((ordS ltH l).length : Int)))) (fun hc3r => ?_) (fun hc3r => ?_)
     · have hc3 := (nT hc3r)
       refine wp_skip ?_
       refine hK12 _ _ ?_
       refine wp_seq_k (fun K13 hK13 => ?_)
       refine wp_block ?_
       refine wp_seq_k (fun K14 hK14 => ?_)
       refine wp_region_lit ?_
       refine q1 hf hM [0, 1, 5, 6, 7, 8, 29, 30, 31] [{ sp := true }, { os := [.ex (iV (((ordS ltH l).getD i.toNat ⟨0, 0⟩).i)), .ex (iV (((ordS ltH l).getD i.toNat ⟨0, 0⟩).g))] }, { os := [.nw] }, { os := [.st 0 0, .st 0 1] }] (nw := fun B13 => [(10, eP B13 0)]) (M' := fun B13 => [⟨B13, 28, [iV (((ordS ltH l).getD i.toNat ⟨0, 0⟩).i), iV (((ordS ltH l).getD i.toNat ⟨0, 0⟩).g)]⟩]) (ob := fun B13 => [(0 : Int) ≤ i ∧ i < ((ordS ltH l).length : Int), (a'1 : Option Addr).isSome = true, w6.cell? (((sa a'1 : Addr).add (i.toNat * 2)).add 0) = some (iV (((ordS ltH l).getD i.toNat ⟨0, 0⟩).i)), w6.cell? (((sa a'1 : Addr).add (i.toNat * 2)).add 1) = some (iV (((ordS ltH l).getD i.toNat ⟨0, 0⟩).g)), Ad B13 0, Ad B13 1]) (fun B13 => (Ac (by first | omega | (simp; done)) (Ac ((own_arr (hO.own _ (List.Mem.tail _ (List.Mem.tail _ (List.Mem.tail _ (List.Mem.head _)))))).some_ (by first | omega | (simp; done))) (Ac ((own_arr (hO.own _ (List.Mem.tail _ (List.Mem.tail _ (List.Mem.tail _ (List.Mem.head _)))))).get (fun _ => rfl) (by first | omega | (simp; done)) rfl) (Ac ((own_arr (hO.own _ (List.Mem.tail _ (List.Mem.tail _ (List.Mem.tail _ (List.Mem.head _)))))).get (fun _ => rfl) (by first | omega | (simp; done)) rfl) (Ac (ad _ _) (Ao (ad _ _)))))))) ?_
       clear hf hM; intro a w7 B13 hf hM hB hk
       have hbB13 : w.heap.size ≤ B13 := by have := hk0.size; omega
       have hk0 := hk0.then hk (by intro i _ h; cases h)
       have hO := hO.step hM (hk.mono (by intro _ _ h; cases h)) (by intro i h; simp only [Mem.names, List.map_cons, List.map_nil, List.mem_cons, List.not_mem_nil, or_false, List.map_append, List.cons_append, List.nil_append] at h ⊢; omega)
       clear hk hB
       refine wpList_nil ?_
       refine hK14 _ _ ?_
       refine wp_seq_k (fun K15 hK15 => ?_)
       refine wp_region_lit ?_
       refine q0 hf hM [10, 0, 1, 5, 6, 7, 8, 29, 30, 31] [{}, { os := [.ld 0 0, .ld 0 1] }] (nw := [(36, .val (.agg #[iV (((ordS ltH l).getD i.toNat ⟨0, 0⟩).i), iV (((ordS ltH l).getD i.toNat ⟨0, 0⟩).g)])), (35, eS a7 (((ordS ltH l).take i.toNat).length) c7)]) (ob := [Ad B13 0, Ad B13 1]) (Ac (ad _ _) (Ao (ad _ _))) ?_
       clear hf; intro a hf
       refine sxbslice hf hM (t := 22) (e := 28) (len := 1) (cs := [iV (((ordS ltH l).getD i.toNat ⟨0, 0⟩).i), iV (((ordS ltH l).getD i.toNat ⟨0, 0⟩).g)]) (ob := []) rfl rfl rfl rfl (by as_aux_lemma => kernel_rfl) An (by as_aux_lemma => kernel_rfl) ?_
       clear hf hM; intro a w8 B15 hf hM hB hk
       replace hM : MemOk [⟨B13, 28, [iV (((ordS ltH l).getD i.toNat ⟨0, 0⟩).i), iV (((ordS ltH l).getD i.toNat ⟨0, 0⟩).g)]⟩, ⟨B15, 28, [iV (((ordS ltH l).getD i.toNat ⟨0, 0⟩).i), iV (((ordS ltH l).getD i.toNat ⟨0, 0⟩).g)]⟩] w8 := hM
       have hbB15 : w.heap.size ≤ B15 := by have := hk0.size; omega
       have hk0 := hk0.trans hk.nn
       have hO := hO.step hM hk.nn (by intro i h; simp only [Mem.names, List.map_cons, List.map_nil, List.mem_cons, List.not_mem_nil, or_false, List.map_append, List.cons_append, List.nil_append] at h ⊢; omega)
       clear hk hB
       replace hO : OwnOk w.heap.size [⟨B13, 28, [iV (((ordS ltH l).getD i.toNat ⟨0, 0⟩).i), iV (((ordS ltH l).getD i.toNat ⟨0, 0⟩).g)]⟩, ⟨B15, 28, [iV (((ordS ltH l).getD i.toNat ⟨0, 0⟩).i), iV (((ordS ltH l).getD i.toNat ⟨0, 0⟩).g)]⟩] [⟨28, 2, .slice a7 (((ordS ltH l).take i.toNat).length) c7, ((ordS ltH l).take i.toNat).length, flat fH ((ordS ltH l).take i.toNat)⟩, ⟨28, 2, .slice a8 ((dropP (inS (ordS ltH m)) ((ordS ltH l).take i.toNat)).length) c8, (dropP (inS (ordS ltH m)) ((ordS ltH l).take i.toNat)).length, flat fH (dropP (inS (ordS ltH m)) ((ordS ltH l).take i.toNat))⟩, ⟨28, 2, .slice a'2 (ordS ltH m).length c'2, (ordS ltH m).length, flat fH (ordS ltH m)⟩, ⟨28, 2, .slice a'1 (ordS ltH l).length c'1, (ordS ltH l).length, flat fH (ordS ltH l)⟩] w8 := OwnOk.front (l1 := [⟨28, 2, .slice a8 ((dropP (inS (ordS ltH m)) ((ordS ltH l).take i.toNat)).length) c8, (dropP (inS (ordS ltH m)) ((ordS ltH l).take i.toNat)).length, flat fH (dropP (inS (ordS ltH m)) ((ordS ltH l).take i.toNat))⟩]) (l2 := [⟨28, 2, .slice a'2 (ordS ltH m).length c'2, (ordS ltH m).length, flat fH (ordS ltH m)⟩, ⟨28, 2, .slice a'1 (ordS ltH l).length c'1, (ordS ltH l).length, flat fH (ordS ltH l)⟩]) hO
       refine sxappend hf hM (e := 28) (sz := 2) (by_ := 16) (k := ((ordS ltH l).take i.toNat).length) (v := .slice a7 (((ordS ltH l).take i.toNat).length) c7) (xs := flat fH ((ordS ltH l).take i.toNat)) hO rfl rfl rfl rfl (av := some ⟨B15, 0, none⟩) (m := 1) (c := 1) rfl rfl Try.underlying22 (by kernel_rfl) rfl (news := flat fH ([⟨((ordS ltH l).getD i.toNat ⟨0, 0⟩).i, ((ordS ltH l).getD i.toNat ⟨0, 0⟩).g⟩] : List H2)) (Arr.of_memT (sz := 2) (f := fH) (L := ([⟨((ordS ltH l).getD i.toNat ⟨0, 0⟩).i, ((ordS ltH l).getD i.toNat ⟨0, 0⟩).g⟩] : List H2)) (l := ([⟨((ordS ltH l).getD i.toNat ⟨0, 0⟩).i, ((ordS ltH l).getD i.toNat ⟨0, 0⟩).g⟩] : List H2)) hM (List.Mem.tail _ (List.Mem.head _)) (fun _ => rfl) rfl rfl) (flat_one1 fH_one) (by simp only [maxLen]; constructor <;> (first | omega | (simp; omega))) (by have := hk0.size; omega) ?_
       clear hf hM hO; intro a w9 av1 cv1 hf hM hO hk
       have en : (((ordS ltH l).take i.toNat).length + 1 : Nat) = (((ordS ltH l).take i.toNat) ++ ([⟨((ordS ltH l).getD i.toNat ⟨0, 0⟩).i, ((ordS ltH l).getD i.toNat ⟨0, 0⟩).g⟩] : List H2)).length := (by first | (simp; done) | (simp; omega))
       have ec : flat fH ((ordS ltH l).take i.toNat) ++ flat fH ([⟨((ordS ltH l).getD i.toNat ⟨0, 0⟩).i, ((ordS ltH l).getD i.toNat ⟨0, 0⟩).g⟩] : List H2) = flat fH (((ordS ltH l).take i.toNat) ++ ([⟨((ordS ltH l).getD i.toNat ⟨0, 0⟩).i, ((ordS ltH l).getD i.toNat ⟨0, 0⟩).g⟩] : List H2)) := (by first | rfl | exact (flat_app _ _ _).symm | simp [flat_app, flat_nil])
       rw [en] at hf hO; rw [ec] at hO; clear en ec
       replace hO : OwnOk w.heap.size [⟨B13, 28, [iV (((ordS ltH l).getD i.toNat ⟨0, 0⟩).i), iV (((ordS ltH l).getD i.toNat ⟨0, 0⟩).g)]⟩, ⟨B15, 28, [iV (((ordS ltH l).getD i.toNat ⟨0, 0⟩).i), iV (((ordS ltH l).getD i.toNat ⟨0, 0⟩).g)]⟩] [⟨28, 2, .slice av1 ((((ordS ltH l).take i.toNat) ++ ([⟨((ordS ltH l).getD i.toNat ⟨0, 0⟩).i, ((ordS ltH l).getD i.toNat ⟨0, 0⟩).g⟩] : List H2)).length) cv1, (((ordS ltH l).take i.toNat) ++ ([⟨((ordS ltH l).getD i.toNat ⟨0, 0⟩).i, ((ordS ltH l).getD i.toNat ⟨0, 0⟩).g⟩] : List H2)).length, flat fH (((ordS ltH l).take i.toNat) ++ ([⟨((ordS ltH l).getD i.toNat ⟨0, 0⟩).i, ((ordS ltH l).getD i.toNat ⟨0, 0⟩).g⟩] : List H2))⟩, ⟨28, 2, .slice a8 ((dropP (inS (ordS ltH m)) ((ordS ltH l).take i.toNat)).length) c8, (dropP (inS (ordS ltH m)) ((ordS ltH l).take i.toNat)).length, flat fH (dropP (inS (ordS ltH m)) ((ordS ltH l).take i.toNat))⟩, ⟨28, 2, .slice a'2 (ordS ltH m).length c'2, (ordS ltH m).length, flat fH (ordS ltH m)⟩, ⟨28, 2, .slice a'1 (ordS ltH l).length c'1, (ordS ltH l).length, flat fH (ordS ltH l)⟩] w9 := hO
       have hk0 := hk0.then hk (by intro i hi h; have := h.1; omega)
       clear hk
       refine q0 hf hM [10, 0, 1, 5, 6, 8, 29, 30, 31] [{}] (nw := [(7, eS av1 ((((ordS ltH l).take i.toNat) ++ ([⟨((ordS ltH l).getD i.toNat ⟨0, 0⟩).i, ((ordS ltH l).getD i.toNat ⟨0, 0⟩).g⟩] : List H2)).length) cv1)]) An ?_
       clear hf; intro a hf
       refine wpList_nil ?_
       refine hK15 _ _ ?_
       refine wp_seq_k (fun K16 hK16 => ?_)
       refine wp_region_lit ?_
       refine q0 hf hM [7, 10, 0, 1, 5, 6, 8, 29, 30, 31] [{}, { os := [.ld 0 0, .ld 0 1] }] (nw := [(40, .val (.agg #[iV (((ordS ltH l).getD i.toNat ⟨0, 0⟩).i), iV (((ordS ltH l).getD i.toNat ⟨0, 0⟩).g)])), (39, eS a'2 (ordS ltH m).length c'2)]) (ob := [Ad B13 0, Ad B13 1]) (Ac (ad _ _) (Ao (ad _ _))) ?_
       clear hf; intro a hf
       refine sxcall hf rfl rfl rfl rfl (g := 23) (vs := [.slice a'2 (ordS ltH m).length c'2, .agg #[iV (((ordS ltH l).getD i.toNat ⟨0, 0⟩).i), iV (((ordS ltH l).getD i.toNat ⟨0, 0⟩).g)]]) (ob := []) (by as_aux_lemma => kernel_rfl) An enters23 (rhas a'2 (ordS ltH m) c'2 (((ordS ltH l).getD i.toNat ⟨0, 0⟩).i) (((ordS ltH l).getD i.toNat ⟨0, 0⟩).g) w9  (own_arr (hO.own _ (List.Mem.tail _ (List.Mem.tail _ (List.Mem.head _))))) (by first | omega | (simp; omega) | (simp; done) | exact Nat.le_trans (byKinds_len _ _) (by omega) | decide)) ?_
       clear hf; rintro _ w10 a ⟨rfl, hk⟩ hf
       have hO := hO.keepNn hk
       have hM := hM.keepNn hk
       have hk0 := hk0.trans hk.nn
       clear hk
       refine q0 hf hM [7, 10, 0, 1, 5, 6, 8, 29, 30, 31] [{}] (nw := [(42, eB (!(inS (ordS ltH m) (⟨(((ordS ltH l).getD i.toNat ⟨0, 0⟩).i), (((ordS ltH l).getD i.toNat ⟨0, 0⟩).g)⟩ : H2))))]) An ?_
       clear hf; intro a hf
       refine wpList_nil ?_
       refine hK16 _ _ ?_
       refine qc hf (b := !(inS (ordS ltH m) (⟨(((ordS ltH l).getD i.toNat ⟨0, 0⟩).i), (((ordS ltH l).getD i.toNat ⟨0, 0⟩).g)⟩ : H2))) (fun hc4r => ?_) (fun hc4r => ?_)
       · have hc4 := hc4r
         try simp only [Bool.or_eq_true, Bool.and_eq_true, Bool.not_eq_true', Bool.not_eq_false', Bool.or_eq_false_iff, Bool.and_eq_false_iff, decide_eq_true_eq, decide_eq_false_iff_not, beq_iff_eq, bne_iff_ne, beq_eq_false_iff_ne, bne_eq_false_iff_eq, Bool.and_true, Bool.true_and, ne_eq] at hc4
         refine wp_region_lit ?_
         refine q0 hf hM [7, 0, 1, 5, 6, 8, 29, 30, 31] [{}, { os := [.ld 0 0, .ld 0 1] }] (nw := [(44, .val (.agg #[iV (((ordS ltH l).getD i.toNat ⟨0, 0⟩).i), iV (((ordS ltH l).getD i.toNat ⟨0, 0⟩).g)])), (43, eS a8 ((dropP (inS (ordS ltH m)) ((ordS ltH l).take i.toNat)).length) c8)]) (ob := [Ad B13 0, Ad B13 1]) (Ac (ad _ _) (Ao (ad _ _))) ?_
         clear hf; intro a hf
         refine sxbslice hf hM (t := 22) (e := 28) (len := 1) (cs := [iV (((ordS ltH l).getD i.toNat ⟨0, 0⟩).i), iV (((ordS ltH l).getD i.toNat ⟨0, 0⟩).g)]) (ob := []) rfl rfl rfl rfl (by as_aux_lemma => kernel_rfl) An (by as_aux_lemma => kernel_rfl) ?_
         clear hf hM; intro a w11 B20 hf hM hB hk
         replace hM : MemOk [⟨B13, 28, [iV (((ordS ltH l).getD i.toNat ⟨0, 0⟩).i), iV (((ordS ltH l).getD i.toNat ⟨0, 0⟩).g)]⟩, ⟨B15, 28, [iV (((ordS ltH l).getD i.toNat ⟨0, 0⟩).i), iV (((ordS ltH l).getD i.toNat ⟨0, 0⟩).g)]⟩, ⟨B20, 28, [iV (((ordS ltH l).getD i.toNat ⟨0, 0⟩).i), iV (((ordS ltH l).getD i.toNat ⟨0, 0⟩).g)]⟩] w11 := hM
         have hbB20 : w.heap.size ≤ B20 := by have := hk0.size; omega
         have hk0 := hk0.trans hk.nn
         have hO := hO.step hM hk.nn (by intro i h; simp only [Mem.names, List.map_cons, List.map_nil, List.mem_cons, List.not_mem_nil, or_false, List.map_append, List.cons_append, List.nil_append] at h ⊢; omega)
         clear hk hB
         replace hO : OwnOk w.heap.size [⟨B13, 28, [iV (((ordS ltH l).getD i.toNat ⟨0, 0⟩).i), iV (((ordS ltH l).getD i.toNat ⟨0, 0⟩).g)]⟩, ⟨B15, 28, [iV (((ordS ltH l).getD i.toNat ⟨0, 0⟩).i), iV (((ordS ltH l).getD i.toNat ⟨0, 0⟩).g)]⟩, ⟨B20, 28, [iV (((ordS ltH l).getD i.toNat ⟨0, 0⟩).i), iV (((ordS ltH l).getD i.toNat ⟨0, 0⟩).g)]⟩] [⟨28, 2, .slice a8 ((dropP (inS (ordS ltH m)) ((ordS ltH l).take i.toNat)).length) c8, (dropP (inS (ordS ltH m)) ((ordS ltH l).take i.toNat)).length, flat fH (dropP (inS (ordS ltH m)) ((ordS ltH l).take i.toNat))⟩, ⟨28, 2, .slice av1 ((((ordS ltH l).take i.toNat) ++ ([⟨((ordS ltH l).getD i.toNat ⟨0, 0⟩).i, ((ordS ltH l).getD i.toNat ⟨0, 0⟩).g⟩] : List H2)).length) cv1, (((ordS ltH l).take i.toNat) ++ ([⟨((ordS ltH l).getD i.toNat ⟨0, 0⟩).i, ((ordS ltH l).getD i.toNat ⟨0, 0⟩).g⟩] : List H2)).length, flat fH (((ordS ltH l).take i.toNat) ++ ([⟨((ordS ltH l).getD i.toNat ⟨0, 0⟩).i, ((ordS ltH l).getD i.toNat ⟨0, 0⟩).g⟩] : List H2))⟩, ⟨28, 2, .slice a'2 (ordS ltH m).length c'2, (ordS ltH m).length, flat fH (ordS ltH m)⟩, ⟨28, 2, .slice a'1 (ordS ltH l).length c'1, (ordS ltH l).length, flat fH (ordS ltH l)⟩] w11 := OwnOk.front (l1 := [⟨28, 2, .slice av1 ((((ordS ltH l).take i.toNat) ++ ([⟨((ordS ltH l).getD i.toNat ⟨0, 0⟩).i, ((ordS ltH l).getD i.toNat ⟨0, 0⟩).g⟩] : List H2)).length) cv1, (((ordS ltH l).take i.toNat) ++ ([⟨((ordS ltH l).getD i.toNat ⟨0, 0⟩).i, ((ordS ltH l).getD i.toNat ⟨0, 0⟩).g⟩] : List H2)).length, flat fH (((ordS ltH l).take i.toNat) ++ ([⟨((ordS ltH l).getD i.toNat ⟨0, 0⟩).i, ((ordS ltH l).getD i.toNat ⟨0, 0⟩).g⟩] : List H2))⟩]) (l2 := [⟨28, 2, .slice a'2 (ordS ltH m).length c'2, (ordS ltH m).length, flat fH (ordS ltH m)⟩, ⟨28, 2, .slice a'1 (ordS ltH l).length c'1, (ordS ltH l).length, flat fH (ordS ltH l)⟩]) hO
         refine sxappend hf hM (e := 28) (sz := 2) (by_ := 16) (k := (dropP (inS (ordS ltH m)) ((ordS ltH l).take i.toNat)).length) (v := .slice a8 ((dropP (inS (ordS ltH m)) ((ordS ltH l).take i.toNat)).length) c8) (xs := flat fH (dropP (inS (ordS ltH m)) ((ordS ltH l).take i.toNat))) hO rfl rfl rfl rfl (av := some ⟨B20, 0, none⟩) (m := 1) (c := 1) rfl rfl Try.underlying22 (by kernel_rfl) rfl (news := flat fH ([⟨((ordS ltH l).getD i.toNat ⟨0, 0⟩).i, ((ordS ltH l).getD i.toNat ⟨0, 0⟩).g⟩] : List H2)) (Arr.of_memT (sz := 2) (f := fH) (L := ([⟨((ordS ltH l).getD i.toNat ⟨0, 0⟩).i, ((ordS ltH l).getD i.toNat ⟨0, 0⟩).g⟩] : List H2)) (l := ([⟨((ordS ltH l).getD i.toNat ⟨0, 0⟩).i, ((ordS ltH l).getD i.toNat ⟨0, 0⟩).g⟩] : List H2)) hM (List.Mem.tail _ (List.Mem.tail _ (List.Mem.head _))) (fun _ => rfl) rfl rfl) (flat_one1 fH_one) (by simp only [maxLen]; constructor <;> (first | omega | (simp; omega))) (by have := hk0.size; omega) ?_
         clear hf hM hO; intro a w12 av2 cv2 hf hM hO hk
         have en : ((dropP (inS (ordS ltH m)) ((ordS ltH l).take i.toNat)).length + 1 : Nat) = ((dropP (inS (ordS ltH m)) ((ordS ltH l).take i.toNat)) ++ ([⟨((ordS ltH l).getD i.toNat ⟨0, 0⟩).i, ((ordS ltH l).getD i.toNat ⟨0, 0⟩).g⟩] : List H2)).length := (by first | (simp; done) | (simp; omega))
         have ec : flat fH (dropP (inS (ordS ltH m)) ((ordS ltH l).take i.toNat)) ++ flat fH ([⟨((ordS ltH l).getD i.toNat ⟨0, 0⟩).i, ((ordS ltH l).getD i.toNat ⟨0, 0⟩).g⟩] : List H2) = flat fH ((dropP (inS (ordS ltH m)) ((ordS ltH l).take i.toNat)) ++ ([⟨((ordS ltH l).getD i.toNat ⟨0, 0⟩).i, ((ordS ltH l).getD i.toNat ⟨0, 0⟩).g⟩] : List H2)) := (by first | rfl | exact (flat_app _ _ _).symm | simp [flat_app, flat_nil])
         rw [en] at hf hO; rw [ec] at hO; clear en ec
         replace hO : OwnOk w.heap.size [⟨B13, 28, [iV (((ordS ltH l).getD i.toNat ⟨0, 0⟩).i), iV (((ordS ltH l).getD i.toNat ⟨0, 0⟩).g)]⟩, ⟨B15, 28, [iV (((ordS ltH l).getD i.toNat ⟨0, 0⟩).i), iV (((ordS ltH l).getD i.toNat ⟨0, 0⟩).g)]⟩, ⟨B20, 28, [iV (((ordS ltH l).getD i.toNat ⟨0, 0⟩).i), iV (((ordS ltH l).getD i.toNat ⟨0, 0⟩).g)]⟩] [⟨28, 2, .slice av2 (((dropP (inS (ordS ltH m)) ((ordS ltH l).take i.toNat)) ++ ([⟨((ordS ltH l).getD i.toNat ⟨0, 0⟩).i, ((ordS ltH l).getD i.toNat ⟨0, 0⟩).g⟩] : List H2)).length) cv2, ((dropP (inS (ordS ltH m)) ((ordS ltH l).take i.toNat)) ++ ([⟨((ordS ltH l).getD i.toNat ⟨0, 0⟩).i, ((ordS ltH l).getD i.toNat ⟨0, 0⟩).g⟩] : List H2)).length, flat fH ((dropP (inS (ordS ltH m)) ((ordS ltH l).take i.toNat)) ++ ([⟨((ordS ltH l).getD i.toNat ⟨0, 0⟩).i, ((ordS ltH l).getD i.toNat ⟨0, 0⟩).g⟩] : List H2))⟩, ⟨28, 2, .slice av1 ((((ordS ltH l).take i.toNat) ++ ([⟨((ordS ltH l).getD i.toNat ⟨0, 0⟩).i, ((ordS ltH l).getD i.toNat ⟨0, 0⟩).g⟩] : List H2)).length) cv1, (((ordS ltH l).take i.toNat) ++ ([⟨((ordS ltH l).getD i.toNat ⟨0, 0⟩).i, ((ordS ltH l).getD i.toNat ⟨0, 0⟩).g⟩] : List H2)).length, flat fH (((ordS ltH l).take i.toNat) ++ ([⟨((ordS ltH l).getD i.toNat ⟨0, 0⟩).i, ((ordS ltH l).getD i.toNat ⟨0, 0⟩).g⟩] : List H2))⟩, ⟨28, 2, .slice a'2 (ordS ltH m).length c'2, (ordS ltH m).length, flat fH (ordS ltH m)⟩, ⟨28, 2, .slice a'1 (ordS ltH l).length c'1, (ordS ltH l).length, flat fH (ordS ltH l)⟩] w12 := hO
         have hk0 := hk0.then hk (by intro i hi h; have := h.1; omega)
         clear hk
         refine q0 hf hM [7, 0, 1, 5, 6, 29, 30, 31] [{}] (nw := [(8, eS av2 (((dropP (inS (ordS ltH m)) ((ordS ltH l).take i.toNat)) ++ ([⟨((ordS ltH l).getD i.toNat ⟨0, 0⟩).i, ((ordS ltH l).getD i.toNat ⟨0, 0⟩).g⟩] : List H2)).length) cv2)]) An ?_
         clear hf; intro a hf
         refine wpList_nil ?_
         refine hK13 _ _ ?_
         refine wp_region_lit ?_
         refine q0 hf hM [8, 7, 0, 1, 5, 6, 29, 30] [{ hint := some (iV (i + 1)) }, {}] (nw := [(31, eI (i + 1))]) (ob := [(iV (IntKind.i64.wrap (i + 1)) : Value) = (iV (i + 1) : Value)]) (Ao (wr (by omega))) ?_
         clear hf; intro a hf
         refine wpList_nil ?_
         have hx7 : (ordS ltH l).take (i + 1).toNat = (((ordS ltH l).take i.toNat) ++ ([⟨((ordS ltH l).getD i.toNat ⟨0, 0⟩).i, ((ordS ltH l).getD i.toNat ⟨0, 0⟩).g⟩] : List H2)) := take_nextI (l := (ordS ltH l)) (i := i) (d := (⟨0, 0⟩ : H2)) (by omega)
         have hx8 : dropP (inS (ordS ltH m)) ((ordS ltH l).take (i + 1).toNat) = ((dropP (inS (ordS ltH m)) ((ordS ltH l).take i.toNat)) ++ ([⟨((ordS ltH l).getD i.toNat ⟨0, 0⟩).i, ((ordS ltH l).getD i.toNat ⟨0, 0⟩).g⟩] : List H2)) := dropP_in (p := inS (ordS ltH m)) (l := (ordS ltH l)) (i := i) (⟨0, 0⟩ : H2) (by omega) (by assumption)
         have hf := (hf.prune [0, 1, 5, 6, 7, 8, 29, 30, 31]).to (env' := [(0, eS av l.length c), (1, eS bv m.length cm), (5, eS a'1 (ordS ltH l).length c'1), (6, eS a'2 (ordS ltH m).length c'2), (7, eS av1 ((((ordS ltH l).take i.toNat) ++ ([⟨((ordS ltH l).getD i.toNat ⟨0, 0⟩).i, ((ordS ltH l).getD i.toNat ⟨0, 0⟩).g⟩] : List H2)).length) cv1), (8, eS av2 (((dropP (inS (ordS ltH m)) ((ordS ltH l).take i.toNat)) ++ ([⟨((ordS ltH l).getD i.toNat ⟨0, 0⟩).i, ((ordS ltH l).getD i.toNat ⟨0, 0⟩).g⟩] : List H2)).length) cv2), (29, eS a'1 (ordS ltH l).length c'1), (30, eI ((ordS ltH l).length : Int)), (31, eI (i + 1))]) (by kernel_rfl)
         replace hO : OwnOk w.heap.size [] [⟨28, 2, .slice av2 (((dropP (inS (ordS ltH m)) ((ordS ltH l).take i.toNat)) ++ ([⟨((ordS ltH l).getD i.toNat ⟨0, 0⟩).i, ((ordS ltH l).getD i.toNat ⟨0, 0⟩).g⟩] : List H2)).length) cv2, ((dropP (inS (ordS ltH m)) ((ordS ltH l).take i.toNat)) ++ ([⟨((ordS ltH l).getD i.toNat ⟨0, 0⟩).i, ((ordS ltH l).getD i.toNat ⟨0, 0⟩).g⟩] : List H2)).length, flat fH ((dropP (inS (ordS ltH m)) ((ordS ltH l).take i.toNat)) ++ ([⟨((ordS ltH l).getD i.toNat ⟨0, 0⟩).i, ((ordS ltH l).getD i.toNat ⟨0, 0⟩).g⟩] : List H2))⟩, ⟨28, 2, .slice av1 ((((ordS ltH l).take i.toNat) ++ ([⟨((ordS ltH l).getD i.toNat ⟨0, 0⟩).i, ((ordS ltH l).getD i.toNat ⟨0, 0⟩).g⟩] : List H2)).length) cv1, (((ordS ltH l).take i.toNat) ++ ([⟨((ordS ltH l).getD i.toNat ⟨0, 0⟩).i, ((ordS ltH l).getD i.toNat ⟨0, 0⟩).g⟩] : List H2)).length, flat fH (((ordS ltH l).take i.toNat) ++ ([⟨((ordS ltH l).getD i.toNat ⟨0, 0⟩).i, ((ordS ltH l).getD i.toNat ⟨0, 0⟩).g⟩] : List H2))⟩, ⟨28, 2, .slice a'2 (ordS ltH m).length c'2, (ordS ltH m).length, flat fH (ordS ltH m)⟩, ⟨28, 2, .slice a'1 (ordS ltH l).length c'1, (ordS ltH l).length, flat fH (ordS ltH l)⟩] w12 := hO.sub (.cons _ (.cons _ (.cons _ .slnil))) (List.Sublist.refl _)
         replace hM : MemOk [] w12 := hM.sub (.cons _ (.cons _ (.cons _ .slnil)))
         replace hO : OwnOk w.heap.size [] [⟨28, 2, .slice av2 ((dropP (inS (ordS ltH m)) ((ordS ltH l).take (i + 1).toNat)).length) cv2, (dropP (inS (ordS ltH m)) ((ordS ltH l).take (i + 1).toNat)).length, flat fH (dropP (inS (ordS ltH m)) ((ordS ltH l).take (i + 1).toNat))⟩, ⟨28, 2, .slice av1 (((ordS ltH l).take (i + 1).toNat).length) cv1, ((ordS ltH l).take (i + 1).toNat).length, flat fH ((ordS ltH l).take (i + 1).toNat)⟩, ⟨28, 2, .slice a'2 (ordS ltH m).length c'2, (ordS ltH m).length, flat fH (ordS ltH m)⟩, ⟨28, 2, .slice a'1 (ordS ltH l).length c'1, (ordS ltH l).length, flat fH (ordS ltH l)⟩] w12 := by
          first | exact hO | (have e : ([⟨28, 2, .slice av2 (((dropP (inS (ordS ltH m)) ((ordS ltH l).take i.toNat)) ++ ([⟨((ordS ltH l).getD i.toNat ⟨0, 0⟩).i, ((ordS ltH l).getD i.toNat ⟨0, 0⟩).g⟩] : List H2)).length) cv2, ((dropP (inS (ordS ltH m)) ((ordS ltH l).take i.toNat)) ++ ([⟨((ordS ltH l).getD i.toNat ⟨0, 0⟩).i, ((ordS ltH l).getD i.toNat ⟨0, 0⟩).g⟩] : List H2)).length, flat fH ((dropP (inS (ordS ltH m)) ((ordS ltH l).take i.toNat)) ++ ([⟨((ordS ltH l).getD i.toNat ⟨0, 0⟩).i, ((ordS ltH l).getD i.toNat ⟨0, 0⟩).g⟩] : List H2))⟩, ⟨28, 2, .slice av1 ((((ordS ltH l).take i.toNat) ++ ([⟨((ordS ltH l).getD i.toNat ⟨0, 0⟩).i, ((ordS ltH l).getD i.toNat ⟨0, 0⟩).g⟩] : List H2)).length) cv1, (((ordS ltH l).take i.toNat) ++ ([⟨((ordS ltH l).getD i.toNat ⟨0, 0⟩).i, ((ordS ltH l).getD i.toNat ⟨0, 0⟩).g⟩] : List H2)).length, flat fH (((ordS ltH l).take i.toNat) ++ ([⟨((ordS ltH l).getD i.toNat ⟨0, 0⟩).i, ((ordS ltH l).getD i.toNat ⟨0, 0⟩).g⟩] : List H2))⟩, ⟨28, 2, .slice a'2 (ordS ltH m).length c'2, (ordS ltH m).length, flat fH (ordS ltH m)⟩, ⟨28, 2, .slice a'1 (ordS ltH l).length c'1, (ordS ltH l).length, flat fH (ordS ltH l)⟩] : List Own) = [⟨28, 2, .slice av2 ((dropP (inS (ordS ltH m)) ((ordS ltH l).take (i + 1).toNat)).length) cv2, (dropP (inS (ordS ltH m)) ((ordS ltH l).take (i + 1).toNat)).length, flat fH (dropP (inS (ordS ltH m)) ((ordS ltH l).take (i + 1).toNat))⟩, ⟨28, 2, .slice av1 (((ordS ltH l).take (i + 1).toNat).length) cv1, ((ordS ltH l).take (i + 1).toNat).length, flat fH ((ordS ltH l).take (i + 1).toNat)⟩, ⟨28, 2, .slice a'2 (ordS ltH m).length c'2, (ordS ltH m).length, flat fH (ordS ltH m)⟩, ⟨28, 2, .slice a'1 (ordS ltH l).length c'1, (ordS ltH l).length, flat fH (ordS ltH l)⟩] := by (rw [hx8, hx7]; try rfl)) <;> (rw [← e]; exact hO)
         refine hL1 _ _ _ (by omega) ⟨i + 1, av1, cv1, av2, cv2, rfl, hf.conv (Ac rfl (Ac rfl (Ac rfl (Ac rfl (Ac (by rw [hx7]; rfl) (Ac (by rw [hx8]; rfl) (Ac rfl (Ac rfl (Ao rfl))))))))), hM, hk0, hO, (by omega)⟩
       · have hc4 := hc4r
         try simp only [Bool.or_eq_true, Bool.and_eq_true, Bool.not_eq_true', Bool.not_eq_false', Bool.or_eq_false_iff, Bool.and_eq_false_iff, decide_eq_true_eq, decide_eq_false_iff_not, beq_iff_eq, bne_iff_ne, beq_eq_false_iff_ne, bne_eq_false_iff_eq, Bool.and_true, Bool.true_and, ne_eq] at hc4
         refine wp_skip ?_
         refine hK13 _ _ ?_
         refine wp_region_lit ?_
         refine q0 hf hM [7, 0, 1, 5, 6, 8, 29, 30] [{ hint := some (iV (i + 1)) }, {}] (nw := [(31, eI (i + 1))]) (ob := [(iV (IntKind.i64.wrap (i + 1)) : Value) = (iV (i + 1) : Value)]) (Ao (wr (by omega))) ?_
         clear hf; intro a hf
         refine wpList_nil ?_
         have hx7 : (ordS ltH l).take (i + 1).toNat = (((ordS ltH l).take i.toNat) ++ ([⟨((ordS ltH l).getD i.toNat ⟨0, 0⟩).i, ((ordS ltH l).getD i.toNat ⟨0, 0⟩).g⟩] : List H2)) := take_nextI (l := (ordS ltH l)) (i := i) (d := (⟨0, 0⟩ : H2)) (by omega)
         have hx8 : dropP (inS (ordS ltH m)) ((ordS ltH l).take (i + 1).toNat) = (dropP (inS (ordS ltH m)) ((ordS ltH l).take i.toNat)) := dropP_out (p := inS (ordS ltH m)) (l := (ordS ltH l)) (i := i) (⟨0, 0⟩ : H2) (by omega) (by assumption)
         have hf := (hf.prune [0, 1, 5, 6, 7, 8, 29, 30, 31]).to (env' := [(0, eS av l.length c), (1, eS bv m.length cm), (5, eS a'1 (ordS ltH l).length c'1), (6, eS a'2 (ordS ltH m).length c'2), (7, eS av1 ((((ordS ltH l).take i.toNat) ++ ([⟨((ordS ltH l).getD i.toNat ⟨0, 0⟩).i, ((ordS ltH l).getD i.toNat ⟨0, 0⟩).g⟩] : List H2)).length) cv1), (8, eS a8 ((dropP (inS (ordS ltH m)) ((ordS ltH l).take i.toNat)).length) c8), (29, eS a'1 (ordS ltH l).length c'1), (30, eI ((ordS ltH l).length : Int)), (31, eI (i + 1))]) (by kernel_rfl)
         replace hO : OwnOk w.heap.size [] [⟨28, 2, .slice av1 ((((ordS ltH l).take i.toNat) ++ ([⟨((ordS ltH l).getD i.toNat ⟨0, 0⟩).i, ((ordS ltH l).getD i.toNat ⟨0, 0⟩).g⟩] : List H2)).length) cv1, (((ordS ltH l).take i.toNat) ++ ([⟨((ordS ltH l).getD i.toNat ⟨0, 0⟩).i, ((ordS ltH l).getD i.toNat ⟨0, 0⟩).g⟩] : List H2)).length, flat fH (((ordS ltH l).take i.toNat) ++ ([⟨((ordS ltH l).getD i.toNat ⟨0, 0⟩).i, ((ordS ltH l).getD i.toNat ⟨0, 0⟩).g⟩] : List H2))⟩, ⟨28, 2, .slice a8 ((dropP (inS (ordS ltH m)) ((ordS ltH l).take i.toNat)).length) c8, (dropP (inS (ordS ltH m)) ((ordS ltH l).take i.toNat)).length, flat fH (dropP (inS (ordS ltH m)) ((ordS ltH l).take i.toNat))⟩, ⟨28, 2, .slice a'2 (ordS ltH m).length c'2, (ordS ltH m).length, flat fH (ordS ltH m)⟩, ⟨28, 2, .slice a'1 (ordS ltH l).length c'1, (ordS ltH l).length, flat fH (ordS ltH l)⟩] w10 := hO.sub (.cons _ (.cons _ .slnil)) (List.Sublist.refl _)
         replace hM : MemOk [] w10 := hM.sub (.cons _ (.cons _ .slnil))
         replace hO : OwnOk w.heap.size [] [⟨28, 2, .slice a'1 (ordS ltH l).length c'1, (ordS ltH l).length, flat fH (ordS ltH l)⟩, ⟨28, 2, .slice av1 ((((ordS ltH l).take i.toNat) ++ ([⟨((ordS ltH l).getD i.toNat ⟨0, 0⟩).i, ((ordS ltH l).getD i.toNat ⟨0, 0⟩).g⟩] : List H2)).length) cv1, (((ordS ltH l).take i.toNat) ++ ([⟨((ordS ltH l).getD i.toNat ⟨0, 0⟩).i, ((ordS ltH l).getD i.toNat ⟨0, 0⟩).g⟩] : List H2)).length, flat fH (((ordS ltH l).take i.toNat) ++ ([⟨((ordS ltH l).getD i.toNat ⟨0, 0⟩).i, ((ordS ltH l).getD i.toNat ⟨0, 0⟩).g⟩] : List H2))⟩, ⟨28, 2, .slice a8 ((dropP (inS (ordS ltH m)) ((ordS ltH l).take i.toNat)).length) c8, (dropP (inS (ordS ltH m)) ((ordS ltH l).take i.toNat)).length, flat fH (dropP (inS (ordS ltH m)) ((ordS ltH l).take i.toNat))⟩, ⟨28, 2, .slice a'2 (ordS ltH m).length c'2, (ordS ltH m).length, flat fH (ordS ltH m)⟩] w10 := OwnOk.front (l1 := [⟨28, 2, .slice av1 ((((ordS ltH l).take i.toNat) ++ ([⟨((ordS ltH l).getD i.toNat ⟨0, 0⟩).i, ((ordS ltH l).getD i.toNat ⟨0, 0⟩).g⟩] : List H2)).length) cv1, (((ordS ltH l).take i.toNat) ++ ([⟨((ordS ltH l).getD i.toNat ⟨0, 0⟩).i, ((ordS ltH l).getD i.toNat ⟨0, 0⟩).g⟩] : List H2)).length, flat fH (((ordS ltH l).take i.toNat) ++ ([⟨((ordS ltH l).getD i.toNat ⟨0, 0⟩).i, ((ordS ltH l).getD i.toNat ⟨0, 0⟩).g⟩] : List H2))⟩, ⟨28, 2, .slice a8 ((dropP (inS (ordS ltH m)) ((ordS ltH l).take i.toNat)).length) c8, (dropP (inS (ordS ltH m)) ((ordS ltH l).take i.toNat)).length, flat fH (dropP (inS (ordS ltH m)) ((ordS ltH l).take i.toNat))⟩, ⟨28, 2, .slice a'2 (ordS ltH m).length c'2, (ordS ltH m).length, flat fH (ordS ltH m)⟩]) (l2 := []) hO
         replace hO : OwnOk w.heap.size [] [⟨28, 2, .slice a'2 (ordS ltH m).length c'2, (ordS ltH m).length, flat fH (ordS ltH m)⟩, ⟨28, 2, .slice a'1 (ordS ltH l).length c'1, (ordS ltH l).length, flat fH (ordS ltH l)⟩, ⟨28, 2, .slice av1 ((((ordS ltH l).take i.toNat) ++ ([⟨((ordS ltH l).getD i.toNat ⟨0, 0⟩).i, ((ordS ltH l).getD i.toNat ⟨0, 0⟩).g⟩] : List H2)).length) cv1, (((ordS ltH l).take i.toNat) ++ ([⟨((ordS ltH l).getD i.toNat ⟨0, 0⟩).i, ((ordS ltH l).getD i.toNat ⟨0, 0⟩).g⟩] : List H2)).length, flat fH (((ordS ltH l).take i.toNat) ++ ([⟨((ordS ltH l).getD i.toNat ⟨0, 0⟩).i, ((ordS ltH l).getD i.toNat ⟨0, 0⟩).g⟩] : List H2))⟩, ⟨28, 2, .slice a8 ((dropP (inS (ordS ltH m)) ((ordS ltH l).take i.toNat)).length) c8, (dropP (inS (ordS ltH m)) ((ordS ltH l).take i.toNat)).length, flat fH (dropP (inS (ordS ltH m)) ((ordS ltH l).take i.toNat))⟩] w10 := OwnOk.front (l1 := [⟨28, 2, .slice a'1 (ordS ltH l).length c'1, (ordS ltH l).length, flat fH (ordS ltH l)⟩, ⟨28, 2, .slice av1 ((((ordS ltH l).take i.toNat) ++ ([⟨((ordS ltH l).getD i.toNat ⟨0, 0⟩).i, ((ordS ltH l).getD i.toNat ⟨0, 0⟩).g⟩] : List H2)).length) cv1, (((ordS ltH l).take i.toNat) ++ ([⟨((ordS ltH l).getD i.toNat ⟨0, 0⟩).i, ((ordS ltH l).getD i.toNat ⟨0, 0⟩).g⟩] : List H2)).length, flat fH (((ordS ltH l).take i.toNat) ++ ([⟨((ordS ltH l).getD i.toNat ⟨0, 0⟩).i, ((ordS ltH l).getD i.toNat ⟨0, 0⟩).g⟩] : List H2))⟩, ⟨28, 2, .slice a8 ((dropP (inS (ordS ltH m)) ((ordS ltH l).take i.toNat)).length) c8, (dropP (inS (ordS ltH m)) ((ordS ltH l).take i.toNat)).length, flat fH (dropP (inS (ordS ltH m)) ((ordS ltH l).take i.toNat))⟩]) (l2 := []) hO
         replace hO : OwnOk w.heap.size [] [⟨28, 2, .slice av1 ((((ordS ltH l).take i.toNat) ++ ([⟨((ordS ltH l).getD i.toNat ⟨0, 0⟩).i, ((ordS ltH l).getD i.toNat ⟨0, 0⟩).g⟩] : List H2)).length) cv1, (((ordS ltH l).take i.toNat) ++ ([⟨((ordS ltH l).getD i.toNat ⟨0, 0⟩).i, ((ordS ltH l).getD i.toNat ⟨0, 0⟩).g⟩] : List H2)).length, flat fH (((ordS ltH l).take i.toNat) ++ ([⟨((ordS ltH l).getD i.toNat ⟨0, 0⟩).i, ((ordS ltH l).getD i.toNat ⟨0, 0⟩).g⟩] : List H2))⟩, ⟨28, 2, .slice a'2 (ordS ltH m).length c'2, (ordS ltH m).length, flat fH (ordS ltH m)⟩, ⟨28, 2, .slice a'1 (ordS ltH l).length c'1, (ordS ltH l).length, flat fH (ordS ltH l)⟩, ⟨28, 2, .slice a8 ((dropP (inS (ordS ltH m)) ((ordS ltH l).take i.toNat)).length) c8, (dropP (inS (ordS ltH m)) ((ordS ltH l).take i.toNat)).length, flat fH (dropP (inS (ordS ltH m)) ((ordS ltH l).take i.toNat))⟩] w10 := OwnOk.front (l1 := [⟨28, 2, .slice a'2 (ordS ltH m).length c'2, (ordS ltH m).length, flat fH (ordS ltH m)⟩, ⟨28, 2, .slice a'1 (ordS ltH l).length c'1, (ordS ltH l).length, flat fH (ordS ltH l)⟩]) (l2 := [⟨28, 2, .slice a8 ((dropP (inS (ordS ltH m)) ((ordS ltH l).take i.toNat)).length) c8, (dropP (inS (ordS ltH m)) ((ordS ltH l).take i.toNat)).length, flat fH (dropP (inS (ordS ltH m)) ((ordS ltH l).take i.toNat))⟩]) hO
         replace hO : OwnOk w.heap.size [] [⟨28, 2, .slice a8 ((dropP (inS (ordS ltH m)) ((ordS ltH l).take i.toNat)).length) c8, (dropP (inS (ordS ltH m)) ((ordS ltH l).take i.toNat)).length, flat fH (dropP (inS (ordS ltH m)) ((ordS ltH l).take i.toNat))⟩, ⟨28, 2, .slice av1 ((((ordS ltH l).take i.toNat) ++ ([⟨((ordS ltH l).getD i.toNat ⟨0, 0⟩).i, ((ordS ltH l).getD i.toNat ⟨0, 0⟩).g⟩] : List H2)).length) cv1, (((ordS ltH l).take i.toNat) ++ ([⟨((ordS ltH l).getD i.toNat ⟨0, 0⟩).i, ((ordS ltH l).getD i.toNat ⟨0, 0⟩).g⟩] : List H2)).length, flat fH (((ordS ltH l).take i.toNat) ++ ([⟨((ordS ltH l).getD i.toNat ⟨0, 0⟩).i, ((ordS ltH l).getD i.toNat ⟨0, 0⟩).g⟩] : List H2))⟩, ⟨28, 2, .slice a'2 (ordS ltH m).length c'2, (ordS ltH m).length, flat fH (ordS ltH m)⟩, ⟨28, 2, .slice a'1 (ordS ltH l).length c'1, (ordS ltH l).length, flat fH (ordS ltH l)⟩] w10 := OwnOk.front (l1 := [⟨28, 2, .slice av1 ((((ordS ltH l).take i.toNat) ++ ([⟨((ordS ltH l).getD i.toNat ⟨0, 0⟩).i, ((ordS ltH l).getD i.toNat ⟨0, 0⟩).g⟩] : List H2)).length) cv1, (((ordS ltH l).take i.toNat) ++ ([⟨((ordS ltH l).getD i.toNat ⟨0, 0⟩).i, ((ordS ltH l).getD i.toNat ⟨0, 0⟩).g⟩] : List H2)).length, flat fH (((ordS ltH l).take i.toNat) ++ ([⟨((ordS ltH l).getD i.toNat ⟨0, 0⟩).i, ((ordS ltH l).getD i.toNat ⟨0, 0⟩).g⟩] : List H2))⟩, ⟨28, 2, .slice a'2 (ordS ltH m).length c'2, (ordS ltH m).length, flat fH (ordS ltH m)⟩, ⟨28, 2, .slice a'1 (ordS ltH l).length c'1, (ordS ltH l).length, flat fH (ordS ltH l)⟩]) (l2 := []) hO
         replace hO : OwnOk w.heap.size [] [⟨28, 2, .slice a8 ((dropP (inS (ordS ltH m)) ((ordS ltH l).take (i + 1).toNat)).length) c8, (dropP (inS (ordS ltH m)) ((ordS ltH l).take (i + 1).toNat)).length, flat fH (dropP (inS (ordS ltH m)) ((ordS ltH l).take (i + 1).toNat))⟩, ⟨28, 2, .slice av1 (((ordS ltH l).take (i + 1).toNat).length) cv1, ((ordS ltH l).take (i + 1).toNat).length, flat fH ((ordS ltH l).take (i + 1).toNat)⟩, ⟨28, 2, .slice a'2 (ordS ltH m).length c'2, (ordS ltH m).length, flat fH (ordS ltH m)⟩, ⟨28, 2, .slice a'1 (ordS ltH l).length c'1, (ordS ltH l).length, flat fH (ordS ltH l)⟩] w10 := by
          first | exact hO | (have e : ([⟨28, 2, .slice a8 ((dropP (inS (ordS ltH m)) ((ordS ltH l).take i.toNat)).length) c8, (dropP (inS (ordS ltH m)) ((ordS ltH l).take i.toNat)).length, flat fH (dropP (inS (ordS ltH m)) ((ordS ltH l).take i.toNat))⟩, ⟨28, 2, .slice av1 ((((ordS ltH l).take i.toNat) ++ ([⟨((ordS ltH l).getD i.toNat ⟨0, 0⟩).i, ((ordS ltH l).getD i.toNat ⟨0, 0⟩).g⟩] : List H2)).length) cv1, (((ordS ltH l).take i.toNat) ++ ([⟨((ordS ltH l).getD i.toNat ⟨0, 0⟩).i, ((ordS ltH l).getD i.toNat ⟨0, 0⟩).g⟩] : List H2)).length, flat fH (((ordS ltH l).take i.toNat) ++ ([⟨((ordS ltH l).getD i.toNat ⟨0, 0⟩).i, ((ordS ltH l).getD i.toNat ⟨0, 0⟩).g⟩] : List H2))⟩, ⟨28, 2, .slice a'2 (ordS ltH m).length c'2, (ordS ltH m).length, flat fH (ordS ltH m)⟩, ⟨28, 2, .slice a'1 (ordS ltH l).length c'1, (ordS ltH l).length, flat fH (ordS ltH l)⟩] : List Own) = [⟨28, 2, .slice a8 ((dropP (inS (ordS ltH m)) ((ordS ltH l).take (i + 1).toNat)).length) c8, (dropP (inS (ordS ltH m)) ((ordS ltH l).take (i + 1).toNat)).length, flat fH (dropP (inS (ordS ltH m)) ((ordS ltH l).take (i + 1).toNat))⟩, ⟨28, 2, .slice av1 (((ordS ltH l).take (i + 1).toNat).length) cv1, ((ordS ltH l).take (i + 1).toNat).length, flat fH ((ordS ltH l).take (i + 1).toNat)⟩, ⟨28, 2, .slice a'2 (ordS ltH m).length c'2, (ordS ltH m).length, flat fH (ordS ltH m)⟩, ⟨28, 2, .slice a'1 (ordS ltH l).length c'1, (ordS ltH l).length, flat fH (ordS ltH l)⟩] := by (rw [hx8, hx7]; try rfl)) <;> (rw [← e]; exact hO)
         refine hL1 _ _ _ (by omega) ⟨i + 1, av1, cv1, a8, c8, rfl, hf.conv (Ac rfl (Ac rfl (Ac rfl (Ac rfl (Ac (by rw [hx7]; rfl) (Ac (by rw [hx8]; rfl) (Ac rfl (Ac rfl (Ao rfl))))))))), hM, hk0, hO, (by omega)⟩
     · have hc3 := (nU hc3r)
       refine wp_exit ?_
       have e : ((ordS ltH l).take i.toNat) = (ordS ltH l) := List.take_of_length_le (by omega)
       have hf := (hf.prune [0, 1, 5, 6, 7, 8]).to (env' := [(0, eS av l.length c), (1, eS bv m.length cm), (5, eS a'1 (ordS ltH l).length c'1), (6, eS a'2 (ordS ltH m).length c'2), (7, eS a7 (((ordS ltH l).take i.toNat).length) c7), (8, eS a8 ((dropP (inS (ordS ltH m)) ((ordS ltH l).take i.toNat)).length) c8)]) (by kernel_rfl)
       replace hO : OwnOk w.heap.size [] [⟨28, 2, .slice a8 ((dropP (inS (ordS ltH m)) (ordS ltH l)).length) c8, (dropP (inS (ordS ltH m)) (ordS ltH l)).length, flat fH (dropP (inS (ordS ltH m)) (ordS ltH l))⟩, ⟨28, 2, .slice a7 (ordS ltH l).length c7, (ordS ltH l).length, flat fH (ordS ltH l)⟩, ⟨28, 2, .slice a'2 (ordS ltH m).length c'2, (ordS ltH m).length, flat fH (ordS ltH m)⟩, ⟨28, 2, .slice a'1 (ordS ltH l).length c'1, (ordS ltH l).length, flat fH (ordS ltH l)⟩] w6 := by
        first | exact hO | (have e : ([⟨28, 2, .slice a8 ((dropP (inS (ordS ltH m)) ((ordS ltH l).take i.toNat)).length) c8, (dropP (inS (ordS ltH m)) ((ordS ltH l).take i.toNat)).length, flat fH (dropP (inS (ordS ltH m)) ((ordS ltH l).take i.toNat))⟩, ⟨28, 2, .slice a7 (((ordS ltH l).take i.toNat).length) c7, ((ordS ltH l).take i.toNat).length, flat fH ((ordS ltH l).take i.toNat)⟩, ⟨28, 2, .slice a'2 (ordS ltH m).length c'2, (ordS ltH m).length, flat fH (ordS ltH m)⟩, ⟨28, 2, .slice a'1 (ordS ltH l).length c'1, (ordS ltH l).length, flat fH (ordS ltH l)⟩] : List Own) = [⟨28, 2, .slice a8 ((dropP (inS (ordS ltH m)) (ordS ltH l)).length) c8, (dropP (inS (ordS ltH m)) (ordS ltH l)).length, flat fH (dropP (inS (ordS ltH m)) (ordS ltH l))⟩, ⟨28, 2, .slice a7 (ordS ltH l).length c7, (ordS ltH l).length, flat fH (ordS ltH l)⟩, ⟨28, 2, .slice a'2 (ordS ltH m).length c'2, (ordS ltH m).length, flat fH (ordS ltH m)⟩, ⟨28, 2, .slice a'1 (ordS ltH l).length c'1, (ordS ltH l).length, flat fH (ordS ltH l)⟩] := by (rw [e])) <;> (rw [← e]; exact hO)
       exact hK9 _ _ ⟨a7, c7, a8, c8, hf.conv (Ac rfl (Ac rfl (Ac rfl (Ac rfl (Ac (by rw [e]; rfl) (Ao (by rw [e]; rfl))))))), hM, hk0, hO⟩
   clear hf hM hk0 hO
   intro a w13 hK9j; obtain ⟨a7, c7, a8, c8, hf, hM, hk0, hO⟩ := oK9 _ _ hK9j; clear hK9 oK9
   refine wp_seq_k (fun K17 hK17 => ?_)
   refine wp_region_lit ?_
   refine q0 hf hM [0, 1, 5, 6, 7, 8] [{}, {}] (nw := [(49, eS a'2 (ordS ltH m).length c'2), (48, eS a7 (ordS ltH l).length c7)]) An ?_
   clear hf; intro a hf
   replace hO : OwnOk w.heap.size [] [⟨28, 2, .slice a7 (ordS ltH l).length c7, (ordS ltH l).length, flat fH (ordS ltH l)⟩, ⟨28, 2, .slice a8 ((dropP (inS (ordS ltH m)) (ordS ltH l)).length) c8, (dropP (inS (ordS ltH m)) (ordS ltH l)).length, flat fH (dropP (inS (ordS ltH m)) (ordS ltH l))⟩, ⟨28, 2, .slice a'2 (ordS ltH m).length c'2, (ordS ltH m).length, flat fH (ordS ltH m)⟩, ⟨28, 2, .slice a'1 (ordS ltH l).length c'1, (ordS ltH l).length, flat fH (ordS ltH l)⟩] w13 := OwnOk.front (l1 := [⟨28, 2, .slice a8 ((dropP (inS (ordS ltH m)) (ordS ltH l)).length) c8, (dropP (inS (ordS ltH m)) (ordS ltH l)).length, flat fH (dropP (inS (ordS ltH m)) (ordS ltH l))⟩]) (l2 := [⟨28, 2, .slice a'2 (ordS ltH m).length c'2, (ordS ltH m).length, flat fH (ordS ltH m)⟩, ⟨28, 2, .slice a'1 (ordS ltH l).length c'1, (ordS ltH l).length, flat fH (ordS ltH l)⟩]) hO
   refine sxappend hf hM (e := 28) (sz := 2) (by_ := 16) (k := (ordS ltH l).length) (v := .slice a7 (ordS ltH l).length c7) (xs := flat fH (ordS ltH l)) hO rfl rfl rfl rfl (av := a'2) (m := (ordS ltH m).length) (c := c'2) rfl rfl Try.underlying22 (by kernel_rfl) rfl (news := flat fH (ordS ltH m)) (own_arr (hO.own _ (List.Mem.tail _ (List.Mem.tail _ (List.Mem.head _))))) (flat_one1 fH_one) (by simp only [maxLen]; constructor <;> (first | omega | (simp; omega))) (by have := hk0.size; omega) ?_
   clear hf hM hO; intro a w14 av3 cv3 hf hM hO hk
   have en : ((ordS ltH l).length + (ordS ltH m).length : Nat) = ((ordS ltH l) ++ (ordS ltH m)).length := (by first | (simp; done) | (simp; omega))
   have ec : flat fH (ordS ltH l) ++ flat fH (ordS ltH m) = flat fH ((ordS ltH l) ++ (ordS ltH m)) := (by first | rfl | exact (flat_app _ _ _).symm | simp [flat_app, flat_nil])
   rw [en] at hf hO; rw [ec] at hO; clear en ec
   replace hO : OwnOk w.heap.size [] [⟨28, 2, .slice av3 (((ordS ltH l) ++ (ordS ltH m)).length) cv3, ((ordS ltH l) ++ (ordS ltH m)).length, flat fH ((ordS ltH l) ++ (ordS ltH m))⟩, ⟨28, 2, .slice a8 ((dropP (inS (ordS ltH m)) (ordS ltH l)).length) c8, (dropP (inS (ordS ltH m)) (ordS ltH l)).length, flat fH (dropP (inS (ordS ltH m)) (ordS ltH l))⟩, ⟨28, 2, .slice a'2 (ordS ltH m).length c'2, (ordS ltH m).length, flat fH (ordS ltH m)⟩, ⟨28, 2, .slice a'1 (ordS ltH l).length c'1, (ordS ltH l).length, flat fH (ordS ltH l)⟩] w14 := hO
   have hk0 := hk0.then hk (by intro i hi h; have := h.1; omega)
   clear hk
   refine q0 hf hM [0, 1, 5, 6, 8] [{}] (nw := [(7, eS av3 (((ordS ltH l) ++ (ordS ltH m)).length) cv3)]) An ?_
   clear hf; intro a hf
   refine wpList_nil ?_
   refine hK17 _ _ ?_
   refine wp_seq_k (fun K18 hK18 => ?_)
   refine wp_region_lit ?_
   refine q0 hf hM [7, 0, 1, 5, 6, 8] [{}, {}] (nw := [(52, eS a'2 (ordS ltH m).length c'2), (51, eS a'1 (ordS ltH l).length c'1)]) An ?_
   clear hf; intro a hf
   refine sxcall hf rfl rfl rfl rfl (g := 24) (vs := [.slice a'1 (ordS ltH l).length c'1, .slice a'2 (ordS ltH m).length c'2]) (ob := []) (by as_aux_lemma => kernel_rfl) An enters24 (omerge a'1 (ordS ltH l) c'1 a'2 (ordS ltH m) c'2 w14  (own_arr (hO.own _ (List.Mem.tail _ (List.Mem.tail _ (List.Mem.tail _ (List.Mem.head _)))))) (own_arr (hO.own _ (List.Mem.tail _ (List.Mem.tail _ (List.Mem.head _))))) (by omega)) ?_
   clear hf; rintro _ w15 a ⟨a'3, c'3, rfl, hk, hx3⟩ hf
   have hO := hO.more hM hk (by have := hk0.size; omega) hx3
   replace hO : OwnOk w.heap.size [] [⟨28, 2, .slice a'3 ((ordS ltH ((ordS ltH l) ++ (ordS ltH m))).length) c'3, (ordS ltH ((ordS ltH l) ++ (ordS ltH m))).length, flat fH (ordS ltH ((ordS ltH l) ++ (ordS ltH m)))⟩, ⟨28, 2, .slice av3 (((ordS ltH l) ++ (ordS ltH m)).length) cv3, ((ordS ltH l) ++ (ordS ltH m)).length, flat fH ((ordS ltH l) ++ (ordS ltH m))⟩, ⟨28, 2, .slice a8 ((dropP (inS (ordS ltH m)) (ordS ltH l)).length) c8, (dropP (inS (ordS ltH m)) (ordS ltH l)).length, flat fH (dropP (inS (ordS ltH m)) (ordS ltH l))⟩, ⟨28, 2, .slice a'2 (ordS ltH m).length c'2, (ordS ltH m).length, flat fH (ordS ltH m)⟩, ⟨28, 2, .slice a'1 (ordS ltH l).length c'1, (ordS ltH l).length, flat fH (ordS ltH l)⟩] _ := hO
   have hM := hM.keepNn hk
   have hk0 := hk0.trans hk.nn
   clear hk
   refine q0 hf hM [53, 7, 0, 1, 5, 6, 8] [{}, {}] (nw := [(55, eS a'2 (ordS ltH m).length c'2), (54, eS a'1 (ordS ltH l).length c'1)]) An ?_
   clear hf; intro a hf
   refine sxcall hf rfl rfl rfl rfl (g := 25) (vs := [.slice a'1 (ordS ltH l).length c'1, .slice a'2 (ordS ltH m).length c'2]) (ob := []) (by as_aux_lemma => kernel_rfl) An enters25 (ominus a'1 (ordS ltH l) c'1 a'2 (ordS ltH m) c'2 w15  (own_arr (hO.own _ (List.Mem.tail _ (List.Mem.tail _ (List.Mem.tail _ (List.Mem.tail _ (List.Mem.head _))))))) (by first | omega | (simp; omega) | (simp; done) | exact Nat.le_trans (byKinds_len _ _) (by omega) | decide) (own_arr (hO.own _ (List.Mem.tail _ (List.Mem.tail _ (List.Mem.tail _ (List.Mem.head _)))))) (by first | omega | (simp; omega) | (simp; done) | exact Nat.le_trans (byKinds_len _ _) (by omega) | decide) (by first | assumption | exact ordS_rises ordH _ | exact ordS_rises ordI _ | (unfold Rises; decide))) ?_
   clear hf; rintro _ w16 a ⟨a'4, c'4, rfl, hk, hx4⟩ hf
   have hO := hO.more hM hk (by have := hk0.size; omega) hx4
   replace hO : OwnOk w.heap.size [] [⟨28, 2, .slice a'4 ((dropP (inS (ordS ltH m)) (ordS ltH l)).length) c'4, (dropP (inS (ordS ltH m)) (ordS ltH l)).length, flat fH (dropP (inS (ordS ltH m)) (ordS ltH l))⟩, ⟨28, 2, .slice a'3 ((ordS ltH ((ordS ltH l) ++ (ordS ltH m))).length) c'3, (ordS ltH ((ordS ltH l) ++ (ordS ltH m))).length, flat fH (ordS ltH ((ordS ltH l) ++ (ordS ltH m)))⟩, ⟨28, 2, .slice av3 (((ordS ltH l) ++ (ordS ltH m)).length) cv3, ((ordS ltH l) ++ (ordS ltH m)).length, flat fH ((ordS ltH l) ++ (ordS ltH m))⟩, ⟨28, 2, .slice a8 ((dropP (inS (ordS ltH m)) (ordS ltH l)).length) c8, (dropP (inS (ordS ltH m)) (ordS ltH l)).length, flat fH (dropP (inS (ordS ltH m)) (ordS ltH l))⟩, ⟨28, 2, .slice a'2 (ordS ltH m).length c'2, (ordS ltH m).length, flat fH (ordS ltH m)⟩, ⟨28, 2, .slice a'1 (ordS ltH l).length c'1, (ordS ltH l).length, flat fH (ordS ltH l)⟩] _ := hO
   have hM := hM.keepNn hk
   have hk0 := hk0.trans hk.nn
   clear hk
   refine q0 hf hM [7, 0, 1, 5, 6, 8] [{}, {}] (nw := [(12, eS a'4 ((dropP (inS (ordS ltH m)) (ordS ltH l)).length) c'4), (11, eS a'3 ((ordS ltH ((ordS ltH l) ++ (ordS ltH m))).length) c'3)]) An ?_
   clear hf; intro a hf
   refine wpList_nil ?_
   refine hK18 _ _ ?_
   refine wp_seq_k (fun K19 hK19 => ?_)
   refine wp_region_lit ?_
   refine q0 hf hM [12, 0, 1, 5, 6, 8] [{}, {}] (nw := [(58, eS av3 (((ordS ltH l) ++ (ordS ltH m)).length) cv3), (57, eS a'3 ((ordS ltH ((ordS ltH l) ++ (ordS ltH m))).length) c'3)]) An ?_
   clear hf; intro a hf
   refine sxcall hf rfl rfl rfl rfl (g := 15) (vs := [.slice av3 (((ordS ltH l) ++ (ordS ltH m)).length) cv3]) (ob := []) (by as_aux_lemma => kernel_rfl) An enters15 (rHandles av3 ((ordS ltH l) ++ (ordS ltH m)) cv3 w16  (own_arr (hO.own _ (List.Mem.tail _ (List.Mem.tail _ (List.Mem.head _))))) (by first | omega | (simp; omega) | (simp; done) | exact Nat.le_trans (byKinds_len _ _) (by omega) | decide)) ?_
   clear hf; rintro _ w17 a ⟨a'5, c'5, rfl, hk, hx5⟩ hf
   have hO := hO.more hM hk (by have := hk0.size; omega) hx5
   replace hO : OwnOk w.heap.size [] [⟨28, 2, .slice a'5 ((ordS ltH ((ordS ltH l) ++ (ordS ltH m))).length) c'5, (ordS ltH ((ordS ltH l) ++ (ordS ltH m))).length, flat fH (ordS ltH ((ordS ltH l) ++ (ordS ltH m)))⟩, ⟨28, 2, .slice a'4 ((dropP (inS (ordS ltH m)) (ordS ltH l)).length) c'4, (dropP (inS (ordS ltH m)) (ordS ltH l)).length, flat fH (dropP (inS (ordS ltH m)) (ordS ltH l))⟩, ⟨28, 2, .slice a'3 ((ordS ltH ((ordS ltH l) ++ (ordS ltH m))).length) c'3, (ordS ltH ((ordS ltH l) ++ (ordS ltH m))).length, flat fH (ordS ltH ((ordS ltH l) ++ (ordS ltH m)))⟩, ⟨28, 2, .slice av3 (((ordS ltH l) ++ (ordS ltH m)).length) cv3, ((ordS ltH l) ++ (ordS ltH m)).length, flat fH ((ordS ltH l) ++ (ordS ltH m))⟩, ⟨28, 2, .slice a8 ((dropP (inS (ordS ltH m)) (ordS ltH l)).length) c8, (dropP (inS (ordS ltH m)) (ordS ltH l)).length, flat fH (dropP (inS (ordS ltH m)) (ordS ltH l))⟩, ⟨28, 2, .slice a'2 (ordS ltH m).length c'2, (ordS ltH m).length, flat fH (ordS ltH m)⟩, ⟨28, 2, .slice a'1 (ordS ltH l).length c'1, (ordS ltH l).length, flat fH (ordS ltH l)⟩] _ := hO
   have hM := hM.keepNn hk
   have hk0 := hk0.trans hk.nn
   clear hk
   refine sxcall hf rfl rfl rfl rfl (g := 14) (vs := [.slice a'3 ((ordS ltH ((ordS ltH l) ++ (ordS ltH m))).length) c'3, .slice a'5 ((ordS ltH ((ordS ltH l) ++ (ordS ltH m))).length) c'5]) (ob := []) (by as_aux_lemma => kernel_rfl) An enters14 (rsameH a'3 (ordS ltH ((ordS ltH l) ++ (ordS ltH m))) c'3 a'5 (ordS ltH ((ordS ltH l) ++ (ordS ltH m))) c'5 w17  (own_arr (hO.own _ (List.Mem.tail _ (List.Mem.tail _ (List.Mem.head _))))) (by first | omega | (simp; omega) | (simp; done) | exact Nat.le_trans (byKinds_len _ _) (by omega) | decide) (own_arr (hO.own _ (List.Mem.head _))) (by first | omega | (simp; omega) | (simp; done) | exact Nat.le_trans (byKinds_len _ _) (by omega) | decide)) ?_
   clear hf; rintro _ w18 a ⟨rfl, hk⟩ hf
   have hO := hO.keepNn hk
   have hM := hM.keepNn hk
   have hk0 := hk0.trans hk.nn
   clear hk
   refine q0 hf hM [12, 0, 1, 5, 6, 8] [{}] (nw := [(61, eB (sameL (ordS ltH ((ordS ltH l) ++ (ordS ltH m))) (ordS ltH ((ordS ltH l) ++ (ordS ltH m)))))]) An ?_
   clear hf; intro a hf
   have hf := hf.setb 61 hs0
   refine q0 hf hM [61, 0, 1, 5, 6] [{}, {}] (nw := [(63, eS a8 ((dropP (inS (ordS ltH m)) (ordS ltH l)).length) c8), (62, eS a'4 ((dropP (inS (ordS ltH m)) (ordS ltH l)).length) c'4)]) (ob := [true = true, true = true]) (Ac rfl (Ao rfl)) ?_
   clear hf; intro a hf
   refine sxcallg hf rfl rfl rfl rfl rfl (g := 14) (vs := [.slice a'4 ((dropP (inS (ordS ltH m)) (ordS ltH l)).length) c'4, .slice a8 ((dropP (inS (ordS ltH m)) (ordS ltH l)).length) c8]) (ob := []) (by as_aux_lemma => kernel_rfl) An enters14 (rsameH a'4 (dropP (inS (ordS ltH m)) (ordS ltH l)) c'4 a8 (dropP (inS (ordS ltH m)) (ordS ltH l)) c8 w18  (own_arr (hO.own _ (List.Mem.tail _ (List.Mem.head _)))) (by first | omega | (simp; omega) | (simp; done) | exact Nat.le_trans (byKinds_len _ _) (by omega) | decide) (own_arr (hO.own _ (List.Mem.tail _ (List.Mem.tail _ (List.Mem.tail _ (List.Mem.tail _ (List.Mem.head _))))))) (by first | omega | (simp; omega) | (simp; done) | exact Nat.le_trans (byKinds_len _ _) (by omega) | decide)) ?_
   clear hf; rintro _ w19 a ⟨rfl, hk⟩ hf
   have hO := hO.keepNn hk
   have hM := hM.keepNn hk
   have hk0 := hk0.trans hk.nn
   clear hk
   refine q0 hf hM [0, 1, 5, 6] [{}, {}] (nw := [(66, eB (sameL (dropP (inS (ordS ltH m)) (ordS ltH l)) (dropP (inS (ordS ltH m)) (ordS ltH l))))]) An ?_
   clear hf; intro a hf
   have hf := hf.setb 66 hs1
   refine q0 hf hM [66, 1, 6] [{}, {}] (nw := [(68, eS av l.length c), (67, eS a'1 (ordS ltH l).length c'1)]) (ob := [true = true, true = true]) (Ac rfl (Ao rfl)) ?_
   clear hf; intro a hf
   refine sxcallg hf rfl rfl rfl rfl rfl (g := 15) (vs := [.slice av l.length c]) (ob := []) (by as_aux_lemma => kernel_rfl) An enters15 (rHandles av l c w19  (hav.keepNn hk0) (by first | omega | (simp; omega) | (simp; done) | exact Nat.le_trans (byKinds_len _ _) (by omega) | decide)) ?_
   clear hf; rintro _ w20 a ⟨a'6, c'6, rfl, hk, hx6⟩ hf
   have hO := hO.more hM hk (by have := hk0.size; omega) hx6
   replace hO : OwnOk w.heap.size [] [⟨28, 2, .slice a'6 (ordS ltH l).length c'6, (ordS ltH l).length, flat fH (ordS ltH l)⟩, ⟨28, 2, .slice a'5 ((ordS ltH ((ordS ltH l) ++ (ordS ltH m))).length) c'5, (ordS ltH ((ordS ltH l) ++ (ordS ltH m))).length, flat fH (ordS ltH ((ordS ltH l) ++ (ordS ltH m)))⟩, ⟨28, 2, .slice a'4 ((dropP (inS (ordS ltH m)) (ordS ltH l)).length) c'4, (dropP (inS (ordS ltH m)) (ordS ltH l)).length, flat fH (dropP (inS (ordS ltH m)) (ordS ltH l))⟩, ⟨28, 2, .slice a'3 ((ordS ltH ((ordS ltH l) ++ (ordS ltH m))).length) c'3, (ordS ltH ((ordS ltH l) ++ (ordS ltH m))).length, flat fH (ordS ltH ((ordS ltH l) ++ (ordS ltH m)))⟩, ⟨28, 2, .slice av3 (((ordS ltH l) ++ (ordS ltH m)).length) cv3, ((ordS ltH l) ++ (ordS ltH m)).length, flat fH ((ordS ltH l) ++ (ordS ltH m))⟩, ⟨28, 2, .slice a8 ((dropP (inS (ordS ltH m)) (ordS ltH l)).length) c8, (dropP (inS (ordS ltH m)) (ordS ltH l)).length, flat fH (dropP (inS (ordS ltH m)) (ordS ltH l))⟩, ⟨28, 2, .slice a'2 (ordS ltH m).length c'2, (ordS ltH m).length, flat fH (ordS ltH m)⟩, ⟨28, 2, .slice a'1 (ordS ltH l).length c'1, (ordS ltH l).length, flat fH (ordS ltH l)⟩] _ := hO
   have hM := hM.keepNn hk
   have hk0 := hk0.trans hk.nn
   clear hk
   refine sxcallg hf rfl rfl rfl rfl rfl (g := 14) (vs := [.slice a'1 (ordS ltH l).length c'1, .slice a'6 (ordS ltH l).length c'6]) (ob := []) (by as_aux_lemma => kernel_rfl) An enters14 (rsameH a'1 (ordS ltH l) c'1 a'6 (ordS ltH l) c'6 w20  (own_arr (hO.own _ (List.Mem.tail _ (List.Mem.tail _ (List.Mem.tail _ (List.Mem.tail _ (List.Mem.tail _ (List.Mem.tail _ (List.Mem.tail _ (List.Mem.head _)))))))))) (by first | omega | (simp; omega) | (simp; done) | exact Nat.le_trans (byKinds_len _ _) (by omega) | decide) (own_arr (hO.own _ (List.Mem.head _))) (by first | omega | (simp; omega) | (simp; done) | exact Nat.le_trans (byKinds_len _ _) (by omega) | decide)) ?_
   clear hf; rintro _ w21 a ⟨rfl, hk⟩ hf
   have hO := hO.keepNn hk
   have hM := hM.keepNn hk
   have hk0 := hk0.trans hk.nn
   clear hk
   refine q0 hf hM [1, 6] [{}, {}] (nw := [(72, eB (sameL (ordS ltH l) (ordS ltH l)))]) An ?_
   clear hf; intro a hf
   have hf := hf.setb 72 hs2
   refine q0 hf hM [72] [{}, {}] (nw := [(74, eS bv m.length cm), (73, eS a'2 (ordS ltH m).length c'2)]) (ob := [true = true, true = true]) (Ac rfl (Ao rfl)) ?_
   clear hf; intro a hf
   refine sxcallg hf rfl rfl rfl rfl rfl (g := 15) (vs := [.slice bv m.length cm]) (ob := []) (by as_aux_lemma => kernel_rfl) An enters15 (rHandles bv m cm w21  (hbv.keepNn hk0) (by first | omega | (simp; omega) | (simp; done) | exact Nat.le_trans (byKinds_len _ _) (by omega) | decide)) ?_
   clear hf; rintro _ w22 a ⟨a'7, c'7, rfl, hk, hx7⟩ hf
   have hO := hO.more hM hk (by have := hk0.size; omega) hx7
   replace hO : OwnOk w.heap.size [] [⟨28, 2, .slice a'7 (ordS ltH m).length c'7, (ordS ltH m).length, flat fH (ordS ltH m)⟩, ⟨28, 2, .slice a'6 (ordS ltH l).length c'6, (ordS ltH l).length, flat fH (ordS ltH l)⟩, ⟨28, 2, .slice a'5 ((ordS ltH ((ordS ltH l) ++ (ordS ltH m))).length) c'5, (ordS ltH ((ordS ltH l) ++ (ordS ltH m))).length, flat fH (ordS ltH ((ordS ltH l) ++ (ordS ltH m)))⟩, ⟨28, 2, .slice a'4 ((dropP (inS (ordS ltH m)) (ordS ltH l)).length) c'4, (dropP (inS (ordS ltH m)) (ordS ltH l)).length, flat fH (dropP (inS (ordS ltH m)) (ordS ltH l))⟩, ⟨28, 2, .slice a'3 ((ordS ltH ((ordS ltH l) ++ (ordS ltH m))).length) c'3, (ordS ltH ((ordS ltH l) ++ (ordS ltH m))).length, flat fH (ordS ltH ((ordS ltH l) ++ (ordS ltH m)))⟩, ⟨28, 2, .slice av3 (((ordS ltH l) ++ (ordS ltH m)).length) cv3, ((ordS ltH l) ++ (ordS ltH m)).length, flat fH ((ordS ltH l) ++ (ordS ltH m))⟩, ⟨28, 2, .slice a8 ((dropP (inS (ordS ltH m)) (ordS ltH l)).length) c8, (dropP (inS (ordS ltH m)) (ordS ltH l)).length, flat fH (dropP (inS (ordS ltH m)) (ordS ltH l))⟩, ⟨28, 2, .slice a'2 (ordS ltH m).length c'2, (ordS ltH m).length, flat fH (ordS ltH m)⟩, ⟨28, 2, .slice a'1 (ordS ltH l).length c'1, (ordS ltH l).length, flat fH (ordS ltH l)⟩] _ := hO
   have hM := hM.keepNn hk
   have hk0 := hk0.trans hk.nn
   clear hk
   refine sxcallg hf rfl rfl rfl rfl rfl (g := 14) (vs := [.slice a'2 (ordS ltH m).length c'2, .slice a'7 (ordS ltH m).length c'7]) (ob := []) (by as_aux_lemma => kernel_rfl) An enters14 (rsameH a'2 (ordS ltH m) c'2 a'7 (ordS ltH m) c'7 w22  (own_arr (hO.own _ (List.Mem.tail _ (List.Mem.tail _ (List.Mem.tail _ (List.Mem.tail _ (List.Mem.tail _ (List.Mem.tail _ (List.Mem.tail _ (List.Mem.head _)))))))))) (by first | omega | (simp; omega) | (simp; done) | exact Nat.le_trans (byKinds_len _ _) (by omega) | decide) (own_arr (hO.own _ (List.Mem.head _))) (by first | omega | (simp; omega) | (simp; done) | exact Nat.le_trans (byKinds_len _ _) (by omega) | decide)) ?_
   clear hf; rintro _ w23 a ⟨rfl, hk⟩ hf
   have hO := hO.keepNn hk
   have hM := hM.keepNn hk
   have hk0 := hk0.trans hk.nn
   clear hk
   refine q0 hf hM [] [{}, {}] (nw := [(4, eB (sameL (ordS ltH m) (ordS ltH m)))]) An ?_
   clear hf; intro a hf
   refine wpList_nil ?_
   refine hK19 _ _ ?_
   refine wp_ret ?_
   refine qr (fn := Try.f7) hf hM [] (l := [bV (sameL (ordS ltH m) (ordS ltH m))]) (ob := []) An ?_
   show (bV (sameL (ordS ltH m) (ordS ltH m)) : Value) = .bool true ∧ Keep Nn w w23
   refine ⟨congrArg Value.bool ?_, hk0⟩
   first | rfl | (simp; done) | (simp_all; done)
end Go.Proofs.Ytllopoaojchcmaa
