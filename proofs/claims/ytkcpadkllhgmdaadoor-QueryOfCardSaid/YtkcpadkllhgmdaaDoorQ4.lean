/- layer 9: the chapter's example, QueryOf -/
import Derived.Test.YtkcpadkllhgmdaaDoorQ3
namespace Go.Proofs.YtkcpadkllhgmdaaDoor
open Go.Px
set_option linter.unusedVariables false
set_option linter.unusedSimpArgs false

set_option maxRecDepth 10000 in
set_option maxHeartbeats 1600000 in
theorem alive9 (E : Nat → Addr) (w : World) (hG : Errs [0, 1, 2, 3, 4, 5, 6, 7, 8, 9] w 115 E) :
    Calls Tryd.prog 6 #[] w (Ret fun v w' => v = .bool true ∧ Keep Nn w w') := by
 refine sxenter (n := 30) (args := []) Tryd.func6 rfl rfl rfl fun a hf => ?_
 replace hf : Fr 30 [] a := hf
 have hM : MemOk [] w := MemOk.nil w
 have hk0 : Keep Nn w w := Keep.refl _ _
 have hk1 : kindsOk ([0] : List Int) = true := rfl
 have hk2 : kindsOk ([1] : List Int) = true := rfl
 have hz0 : ∀ v ∈ ([⟨0, 0, 0⟩] : List V3), 0 ≤ v.k ∧ v.k ≤ 9 := by decide
 have hz1 : ∀ v ∈ ([⟨0, 0, 0⟩, ⟨1, 0, 0⟩] : List V3), 0 ≤ v.k ∧ v.k ≤ 9 := by decide
 have hf1 : fitsN (maskN ([⟨0, 0, 0⟩] : List V3)) (maskI ([0] : List Int)) (maskI ([1] : List Int)) = true := by decide
 have hf2 : fitsN (maskN ([⟨0, 0, 0⟩, ⟨1, 0, 0⟩] : List V3)) (maskI ([0] : List Int)) (maskI ([1] : List Int)) = false := by decide
 refine wp_seq_k (fun K1 hK1 => ?_)
 refine wp_region_lit ?_
 refine q0 hf hM [] [{}] (nw := []) An ?_
 clear hf; intro a hf
 refine wpList_nil ?_
 refine hK1 _ _ ?_
 refine wp_seq_k (fun K2 hK2 => ?_)
 refine wp_region_lit ?_
 refine sxbslice hf hM (t := 22) (e := 3) (len := 1) (cs := [iV 0]) (ob := []) rfl rfl rfl rfl (by as_aux_lemma => kernel_rfl) An (by as_aux_lemma => kernel_rfl) ?_
 clear hf hM; intro a w1 B2 hf hM hB hk
 replace hM : MemOk [⟨B2, 3, [iV 0]⟩] w1 := hM
 have hbB2 : w.heap.size ≤ B2 := by have := hk0.size; omega
 have hk0 := hk0.trans hk.nn
 clear hk hB
 refine sxbslice hf hM (t := 22) (e := 3) (len := 1) (cs := [iV 1]) (ob := []) rfl rfl rfl rfl (by as_aux_lemma => kernel_rfl) An (by as_aux_lemma => kernel_rfl) ?_
 clear hf hM; intro a w2 B3 hf hM hB hk
 replace hM : MemOk [⟨B2, 3, [iV 0]⟩, ⟨B3, 3, [iV 1]⟩] w2 := hM
 have hbB3 : w.heap.size ≤ B3 := by have := hk0.size; omega
 have hk0 := hk0.trans hk.nn
 clear hk hB
 refine sxcall hf rfl rfl rfl rfl (g := 8) (vs := [.slice (some ⟨B2, 0, none⟩) ([0] : List Int).length 1, .slice (some ⟨B3, 0, none⟩) ([1] : List Int).length 1]) (ob := []) (by as_aux_lemma => kernel_rfl) An enters8 (qof_ok E (some ⟨B2, 0, none⟩) ([0] : List Int) 1 (some ⟨B3, 0, none⟩) ([1] : List Int) 1 w2 hk1 hk2 (Arr.of_memT (sz := 1) (f := fI) (L := ([0] : List Int)) (l := ([0] : List Int)) hM (List.Mem.head _) (fun _ => rfl) rfl rfl) (by first | omega | (simp; omega) | (simp; done) | exact Nat.le_trans (byKinds_len _ _) (by omega) | decide) (Arr.of_memT (sz := 1) (f := fI) (L := ([1] : List Int)) (l := ([1] : List Int)) hM (List.Mem.tail _ (List.Mem.head _)) (fun _ => rfl) rfl rfl) (by first | omega | (simp; omega) | (simp; done) | exact Nat.le_trans (byKinds_len _ _) (by omega) | decide) (hG.keep hk0 (fun _ h => h))) ?_
 clear hf; rintro _ w3 a ⟨rfl, hk⟩ hf
 have hM := hM.keepNn hk
 have hk0 := hk0.trans hk.nn
 clear hk
 refine q1 hf hM [] [{}, {}, {}, { os := [.nw] }, { os := [.st 2 0, .st 2 1] }, {}] (nw := fun B4 => [(2, .val (.nilIface)), (1, eP B4 0)]) (M' := fun B4 => [⟨B2, 3, [iV 0]⟩, ⟨B3, 3, [iV 1]⟩, ⟨B4, 29, [uV (((maskI ([0] : List Int)) : Nat) : Int), uV (((maskI ([1] : List Int)) : Nat) : Int)]⟩]) (ob := fun B4 => [Ad B4 0, Ad B4 1]) (fun B4 => (Ac (ad _ _) (Ao (ad _ _)))) ?_
 clear hf hM; intro a w4 B4 hf hM hB hk
 have hbB4 : w.heap.size ≤ B4 := by have := hk0.size; omega
 have hk0 := hk0.thenNew hk (by simp [Mem.names] <;> omega)
 clear hk hB
 refine wpList_nil ?_
 refine hK2 _ _ ?_
 refine wp_seq_k (fun K3 hK3 => ?_)
 refine wp_region_lit ?_
 refine q0 hf hM [1] [{}, {}, {}, { os := [.ld 2 0, .ld 2 1] }, { sp := true }, { sp := true, hint := some (bV true) }, {}, {}, { os := [.ld 2 0, .ld 2 1] }, { sp := true }] (nw := [(18, .val (.agg #[iV 0, iV 0, iV 0])), (17, .val (.agg #[uV (((maskI ([0] : List Int)) : Nat) : Int), uV (((maskI ([1] : List Int)) : Nat) : Int)])), (16, eB true)]) (ob := [true = true, Ad B4 0, Ad B4 1, true = true, true = true, (bV ((((((maskI ([0] : List Int)) : Nat) : Int) : Int) == 1) && ((((((maskI ([1] : List Int)) : Nat) : Int) : Int) == 2) && true)) : Value) = (bV true : Value), true = true, Ad B4 0, Ad B4 1, true = true]) (Ac rfl (Ac (ad _ _) (Ac (ad _ _) (Ac rfl (Ac rfl (Ac (Eq.trans (show (bV ((((((maskI ([0] : List Int)) : Nat) : Int) : Int) == 1) && ((((((maskI ([1] : List Int)) : Nat) : Int) : Int) == 2) && true)) : Value) = (bV ((((((maskI ([0] : List Int)) : Nat) : Int) : Int) == 1) && (((((maskI ([1] : List Int)) : Nat) : Int) : Int) == 2)) : Value) from (by simp)) (congrArg Value.bool (by decide))) (Ac rfl (Ac (ad _ _) (Ac (ad _ _) (Ao rfl)))))))))) ?_
 clear hf; intro a hf
 refine sxbsliceg hf hM (t := 23) (e := 59) (len := 1) (cs := [iV 0, iV 0, iV 0]) (ob := []) rfl rfl rfl rfl rfl (by as_aux_lemma => kernel_rfl) An (by as_aux_lemma => kernel_rfl) ?_
 clear hf hM; intro a w5 B6 hf hM hB hk
 replace hM : MemOk [⟨B2, 3, [iV 0]⟩, ⟨B3, 3, [iV 1]⟩, ⟨B4, 29, [uV (((maskI ([0] : List Int)) : Nat) : Int), uV (((maskI ([1] : List Int)) : Nat) : Int)]⟩, ⟨B6, 59, [iV 0, iV 0, iV 0]⟩] w5 := hM
 have hbB6 : w.heap.size ≤ B6 := by have := hk0.size; omega
 have hk0 := hk0.trans hk.nn
 clear hk hB
 refine sxcallg hf rfl rfl rfl rfl rfl (g := 13) (vs := [.agg #[uV (((maskI ([0] : List Int)) : Nat) : Int), uV (((maskI ([1] : List Int)) : Nat) : Int)], .slice (some ⟨B6, 0, none⟩) ([⟨0, 0, 0⟩] : List V3).length 1]) (ob := []) (by as_aux_lemma => kernel_rfl) An enters13 (qfits E (maskI ([0] : List Int)) (maskI ([1] : List Int)) (some ⟨B6, 0, none⟩) ([⟨0, 0, 0⟩] : List V3) 1 w5  (by first | assumption | exact maskI_lt64 (by assumption) | exact maskN_lt64 (by assumption) | decide) (by first | assumption | exact maskI_lt64 (by assumption) | exact maskN_lt64 (by assumption) | decide) (Arr.of_memT (sz := 3) (f := fV) (L := ([⟨0, 0, 0⟩] : List V3)) (l := ([⟨0, 0, 0⟩] : List V3)) hM (List.Mem.tail _ (List.Mem.tail _ (List.Mem.tail _ (List.Mem.head _)))) (fun _ => rfl) rfl rfl) (by first | omega | (simp; omega) | (simp; done) | exact Nat.le_trans (byKinds_len _ _) (by omega) | decide) (by first | assumption | exact kinds_of (rightV_parts (by assumption)).1) (hG.keep hk0 (fun _ h => h))) ?_
 clear hf; rintro _ w6 a ⟨rfl, hk⟩ hf
 have hM := hM.keepNn hk
 have hk0 := hk0.trans hk.nn
 clear hk
 refine q0 hf hM [1] [{}, {}] (nw := [(22, eB (fitsN (maskN ([⟨0, 0, 0⟩] : List V3)) (maskI ([0] : List Int)) (maskI ([1] : List Int))))]) An ?_
 clear hf; intro a hf
 have hf := hf.setb 22 hf1
 refine q0 hf hM [22] [{ os := [.ld 2 0, .ld 2 1] }, { sp := true }, { sp := true }] (nw := [(25, .val (.agg #[iV 1, iV 0, iV 0])), (24, .val (.agg #[iV 0, iV 0, iV 0])), (23, .val (.agg #[uV (((maskI ([0] : List Int)) : Nat) : Int), uV (((maskI ([1] : List Int)) : Nat) : Int)]))]) (ob := [true = true, Ad B4 0, Ad B4 1, true = true, true = true]) (Ac rfl (Ac (ad _ _) (Ac (ad _ _) (Ac rfl (Ao rfl))))) ?_
 clear hf; intro a hf
 refine sxbsliceg hf hM (t := 23) (e := 59) (len := 2) (cs := [iV 0, iV 0, iV 0, iV 1, iV 0, iV 0]) (ob := []) rfl rfl rfl rfl rfl (by as_aux_lemma => kernel_rfl) An (by as_aux_lemma => kernel_rfl) ?_
 clear hf hM; intro a w7 B9 hf hM hB hk
 replace hM : MemOk [⟨B2, 3, [iV 0]⟩, ⟨B3, 3, [iV 1]⟩, ⟨B4, 29, [uV (((maskI ([0] : List Int)) : Nat) : Int), uV (((maskI ([1] : List Int)) : Nat) : Int)]⟩, ⟨B6, 59, [iV 0, iV 0, iV 0]⟩, ⟨B9, 59, [iV 0, iV 0, iV 0, iV 1, iV 0, iV 0]⟩] w7 := hM
 have hbB9 : w.heap.size ≤ B9 := by have := hk0.size; omega
 have hk0 := hk0.trans hk.nn
 clear hk hB
 refine sxcallg hf rfl rfl rfl rfl rfl (g := 13) (vs := [.agg #[uV (((maskI ([0] : List Int)) : Nat) : Int), uV (((maskI ([1] : List Int)) : Nat) : Int)], .slice (some ⟨B9, 0, none⟩) ([⟨0, 0, 0⟩, ⟨1, 0, 0⟩] : List V3).length 2]) (ob := []) (by as_aux_lemma => kernel_rfl) An enters13 (qfits E (maskI ([0] : List Int)) (maskI ([1] : List Int)) (some ⟨B9, 0, none⟩) ([⟨0, 0, 0⟩, ⟨1, 0, 0⟩] : List V3) 2 w7  (by first | assumption | exact maskI_lt64 (by assumption) | exact maskN_lt64 (by assumption) | decide) (by first | assumption | exact maskI_lt64 (by assumption) | exact maskN_lt64 (by assumption) | decide) (Arr.of_memT (sz := 3) (f := fV) (L := ([⟨0, 0, 0⟩, ⟨1, 0, 0⟩] : List V3)) (l := ([⟨0, 0, 0⟩, ⟨1, 0, 0⟩] : List V3)) hM (List.Mem.tail _ (List.Mem.tail _ (List.Mem.tail _ (List.Mem.tail _ (List.Mem.head _))))) (fun _ => rfl) rfl rfl) (by first | omega | (simp; omega) | (simp; done) | exact Nat.le_trans (byKinds_len _ _) (by omega) | decide) (by first | assumption | exact kinds_of (rightV_parts (by assumption)).1) (hG.keep hk0 (fun _ h => h))) ?_
 clear hf; rintro _ w8 a ⟨rfl, hk⟩ hf
 have hM := hM.keepNn hk
 have hk0 := hk0.trans hk.nn
 clear hk
 refine q0 hf hM [] [{}, {}, {}] (nw := [(0, eB (!(fitsN (maskN ([⟨0, 0, 0⟩, ⟨1, 0, 0⟩] : List V3)) (maskI ([0] : List Int)) (maskI ([1] : List Int)))))]) (ob := [true = true]) (Ao rfl) ?_
 clear hf; intro a hf
 refine wpList_nil ?_
 refine hK3 _ _ ?_
 refine wp_ret ?_
 refine qr (fn := Tryd.f6) hf hM [] (l := [bV (!(fitsN (maskN ([⟨0, 0, 0⟩, ⟨1, 0, 0⟩] : List V3)) (maskI ([0] : List Int)) (maskI ([1] : List Int))))]) (ob := []) An ?_
 show (bV (!(fitsN (maskN ([⟨0, 0, 0⟩, ⟨1, 0, 0⟩] : List V3)) (maskI ([0] : List Int)) (maskI ([1] : List Int)))) : Value) = .bool true ∧ Keep Nn w w8
 refine ⟨congrArg Value.bool ?_, hk0⟩
 first | rfl | (simp_all; done)

set_option maxRecDepth 10000 in
set_option maxHeartbeats 1600000 in
theorem queryOf_any (E : Nat → Addr) (av : Option Addr) (l : List Int) (c : Nat) (bv : Option Addr) (m : List Int) (cm : Nat) (rv : Option Addr) (r : List V3) (cr : Nat) (w : World) (hav : Arr w 1 av l.length c (flat fI l)) (hbv : Arr w 1 bv m.length cm (flat fI m)) (hrv : Arr w 3 rv r.length cr (flat fV r)) (hG : Errs [0, 1, 2, 3, 4, 5, 6, 7, 8, 9] w 115 E) :
    Calls Tryd.prog 3 #[.slice av l.length c, .slice bv m.length cm, .slice rv r.length cr] w (Ret fun v w' => v = .bool true ∧ Keep Nn w w') := by
 refine sxenter (n := 101) (args := [.slice av l.length c, .slice bv m.length cm, .slice rv r.length cr]) Tryd.func3 rfl rfl rfl fun a hf => ?_
 replace hf : Fr 101 [(0, eS av l.length c), (1, eS bv m.length cm), (2, eS rv r.length cr)] a := hf
 have hM : MemOk [] w := MemOk.nil w
 have hk0 : Keep Nn w w := Keep.refl _ _
 refine wp_seq_k (fun K1 hK1 => ?_)
 refine wp_region_lit ?_
 refine q0 hf hM [0, 1, 2] [{}] (nw := []) An ?_
 clear hf; intro a hf
 refine wpList_nil ?_
 refine hK1 _ _ ?_
 refine wp_seq_k (fun K2 hK2 => ?_)
 refine wp_seq_k (fun K3 hK3 => ?_)
 refine wp_region_lit ?_
 refine sxcall hf rfl rfl rfl rfl (g := 6) (vs := []) (ob := []) (by as_aux_lemma => kernel_rfl) An enters6 (alive9 E w  (hG.keep hk0 (fun _ h => h))) ?_
 clear hf; rintro _ w1 a ⟨rfl, hk⟩ hf
 have hM := hM.keepNn hk
 have hk0 := hk0.trans hk.nn
 clear hk
 refine q0 hf hM [0, 1, 2] [{}] (nw := [(16, eB false)]) An ?_
 clear hf; intro a hf
 refine wpList_nil ?_
 refine hK3 _ _ ?_
 refine sxcond hf (b := false) (by kernel_rfl) (fun h => by cases h) (fun _ => ?_)
 refine wp_skip ?_
 refine hK2 _ _ ?_
 refine wp_seq_k (fun K4 hK4 => ?_)
 refine wp_seq_k (fun K5 hK5 => ?_)
 refine wp_region_lit ?_
 refine q0 hf hM [0, 1, 2] [{}, {}, {}, {}, { g := .sym }, { g := .sym }, { g := .sym }, { hint := some (bV ((decide (((l.length : Int) : Int) > 100)) || (decide (((m.length : Int) : Int) > 100)))) }, {}, { g := .sym }, { g := .sym }, { g := .sym }, { hint := some (bV (((decide (((l.length : Int) : Int) > 100)) || (decide (((m.length : Int) : Int) > 100))) || (decide (((r.length : Int) : Int) > 20)))) }] (nw := [(29, eB (((decide (((l.length : Int) : Int) > 100)) || (decide (((m.length : Int) : Int) > 100))) || (decide (((r.length : Int) : Int) > 20))))]) (ob := [((decide (((l.length : Int) : Int) > 100)) = false → (decide (((l.length : Int) : Int) > 100)) = (decide (((l.length : Int) : Int) > 100))), ((decide (((l.length : Int) : Int) > 100)) = false → (decide (((l.length : Int) : Int) > 100)) = (decide (((l.length : Int) : Int) > 100))), ((decide (((l.length : Int) : Int) > 100)) = false → (decide (((l.length : Int) : Int) > 100)) = (decide (((l.length : Int) : Int) > 100))), (bif (decide (((l.length : Int) : Int) > 100)) then (bV true : Value) else bV (decide (((m.length : Int) : Int) > 100))) = .bool ((decide (((l.length : Int) : Int) > 100)) || (decide (((m.length : Int) : Int) > 100))), (((decide (((l.length : Int) : Int) > 100)) || (decide (((m.length : Int) : Int) > 100))) = false → ((decide (((l.length : Int) : Int) > 100)) || (decide (((m.length : Int) : Int) > 100))) = ((decide (((l.length : Int) : Int) > 100)) || (decide (((m.length : Int) : Int) > 100)))), (((decide (((l.length : Int) : Int) > 100)) || (decide (((m.length : Int) : Int) > 100))) = false → ((decide (((l.length : Int) : Int) > 100)) || (decide (((m.length : Int) : Int) > 100))) = ((decide (((l.length : Int) : Int) > 100)) || (decide (((m.length : Int) : Int) > 100)))), (((decide (((l.length : Int) : Int) > 100)) || (decide (((m.length : Int) : Int) > 100))) = false → ((decide (((l.length : Int) : Int) > 100)) || (decide (((m.length : Int) : Int) > 100))) = ((decide (((l.length : Int) : Int) > 100)) || (decide (((m.length : Int) : Int) > 100)))), (bif ((decide (((l.length : Int) : Int) > 100)) || (decide (((m.length : Int) : Int) > 100))) then (bV true : Value) else bV (decide (((r.length : Int) : Int) > 20))) = .bool (((decide (((l.length : Int) : Int) > 100)) || (decide (((m.length : Int) : Int) > 100))) || (decide (((r.length : Int) : Int) > 20)))]) (Ac (fun hgd => rfl) (Ac (fun hgd => rfl) (Ac (fun _ => rfl) (Ac (pick_or _ _) (Ac (fun hgd => rfl) (Ac (fun hgd => rfl) (Ac (fun _ => rfl) (Ao (pick_or _ _))))))))) ?_
 clear hf; intro a hf
 refine wpList_nil ?_
 refine hK5 _ _ ?_
 refine qc hf (b := (((decide (((l.length : Int) : Int) > 100)) || (decide (((m.length : Int) : Int) > 100))) || (decide (((r.length : Int) : Int) > 20)))) (fun hc2r => ?_) (fun hc2r => ?_)
 · have hc2 := hc2r
   try simp only [Bool.or_eq_true, Bool.and_eq_true, Bool.not_eq_true', Bool.not_eq_false', Bool.or_eq_false_iff, Bool.and_eq_false_iff, decide_eq_true_eq, decide_eq_false_iff_not, beq_iff_eq, bne_iff_ne, beq_eq_false_iff_ne, bne_eq_false_iff_eq, Bool.and_true, Bool.true_and, ne_eq] at hc2
   refine wp_seq_k (fun K6 hK6 => ?_)
   refine wp_region_lit ?_
   refine q0 hf hM [] [{}] (nw := [(6, eB true)]) An ?_
   clear hf; intro a hf
   refine wpList_nil ?_
   refine hK6 _ _ ?_
   refine wp_ret ?_
   refine qr (fn := Tryd.f3) hf hM [] (l := [bV true]) (ob := []) An ?_
   show (bV true : Value) = .bool true ∧ Keep Nn w w1
   refine ⟨congrArg Value.bool ?_, hk0⟩
   first | rfl | (simp; done) | (simp_all; done)
 · have hc2 := hc2r
   try simp only [Bool.or_eq_true, Bool.and_eq_true, Bool.not_eq_true', Bool.not_eq_false', Bool.or_eq_false_iff, Bool.and_eq_false_iff, decide_eq_true_eq, decide_eq_false_iff_not, beq_iff_eq, bne_iff_ne, beq_eq_false_iff_ne, bne_eq_false_iff_eq, Bool.and_true, Bool.true_and, ne_eq] at hc2
   refine wp_skip ?_
   refine hK4 _ _ ?_
   refine wp_seq_k (fun K7 hK7 => ?_)
   refine wp_region_lit ?_
   refine q0 hf hM [0, 1, 2] [{}] (nw := [(30, eS av l.length c)]) An ?_
   clear hf; intro a hf
   refine sxcall hf rfl rfl rfl rfl (g := 7) (vs := [.slice av l.length c]) (ob := []) (by as_aux_lemma => kernel_rfl) An enters7 (nInts av l c w1  (hav.keepNn hk0) (by first | omega | (simp; omega) | (simp; done) | exact Nat.le_trans (byKinds_len _ _) (by omega) | decide)) ?_
   clear hf; rintro _ w2 a ⟨a'1, rfl, hk, hx1⟩ hf
   have hO : OwnOk w.heap.size [] [] w1 := OwnOk.nil hM
   have hO := hO.more hM hk (by have := hk0.size; omega) hx1
   replace hO : OwnOk w.heap.size [] [⟨3, 1, .slice a'1 (l.length + 4) (l.length + 4), (l.length + 4), flat fI (l ++ ([-91, -92, -93, -94] : List Int))⟩] _ := hO
   have hM := hM.keepNn hk
   have hk0 := hk0.trans hk.nn
   clear hk
   refine q0 hf hM [31, 0, 1, 2] [{}] (nw := [(32, eS bv m.length cm)]) An ?_
   clear hf; intro a hf
   refine sxcall hf rfl rfl rfl rfl (g := 7) (vs := [.slice bv m.length cm]) (ob := []) (by as_aux_lemma => kernel_rfl) An enters7 (nInts bv m cm w2  (hbv.keepNn hk0) (by first | omega | (simp; omega) | (simp; done) | exact Nat.le_trans (byKinds_len _ _) (by omega) | decide)) ?_
   clear hf; rintro _ w3 a ⟨a'2, rfl, hk, hx2⟩ hf
   have hO := hO.more hM hk (by have := hk0.size; omega) hx2
   replace hO : OwnOk w.heap.size [] [⟨3, 1, .slice a'2 (m.length + 4) (m.length + 4), (m.length + 4), flat fI (m ++ ([-91, -92, -93, -94] : List Int))⟩, ⟨3, 1, .slice a'1 (l.length + 4) (l.length + 4), (l.length + 4), flat fI (l ++ ([-91, -92, -93, -94] : List Int))⟩] _ := hO
   have hM := hM.keepNn hk
   have hk0 := hk0.trans hk.nn
   clear hk
   refine q0 hf hM [0, 1, 2] [{}, {}] (nw := [(8, eS a'2 m.length (m.length + 4)), (7, eS a'1 l.length (l.length + 4))]) An ?_
   clear hf; intro a hf
   refine wpList_nil ?_
   refine hK7 _ _ ?_
   refine wp_seq_k (fun K8 hK8 => ?_)
   refine wp_region_lit ?_
   refine q0 hf hM [8, 7, 0, 1, 2] [{}, {}] (nw := [(36, eS a'2 m.length (m.length + 4)), (35, eS a'1 l.length (l.length + 4))]) An ?_
   clear hf; intro a hf
   rcases Bool.eq_false_or_eq_true (kindsOk l) with hs1r | hs1r
   · have hs1 := hs1r
     rcases Bool.eq_false_or_eq_true (kindsOk m) with hs2r | hs2r
     · have hs2 := hs2r
       refine sxcall hf rfl rfl rfl rfl (g := 8) (vs := [.slice a'1 l.length (l.length + 4), .slice a'2 m.length (m.length + 4)]) (ob := []) (by as_aux_lemma => kernel_rfl) An enters8 (qof_ok E a'1 l (l.length + 4) a'2 m (m.length + 4) w3 hs1r hs2r (Arr.roomf (l := l) (m := ([-91, -92, -93, -94] : List Int)) (own_arr (hO.own _ (List.Mem.tail _ (List.Mem.head _)))) (fun _ => rfl) (by simp)) (by first | omega | (simp; omega) | (simp; done) | exact Nat.le_trans (byKinds_len _ _) (by omega) | decide) (Arr.roomf (l := m) (m := ([-91, -92, -93, -94] : List Int)) (own_arr (hO.own _ (List.Mem.head _))) (fun _ => rfl) (by simp)) (by first | omega | (simp; omega) | (simp; done) | exact Nat.le_trans (byKinds_len _ _) (by omega) | decide) (hG.keep hk0 (fun _ h => h))) ?_
       clear hf; rintro _ w4 a ⟨rfl, hk⟩ hf
       have hO := hO.keepNn hk
       have hM := hM.keepNn hk
       have hk0 := hk0.trans hk.nn
       clear hk
       refine q1 hf hM [8, 7, 0, 1, 2] [{}, {}, {}, { os := [.nw] }, { os := [.st 0 0, .st 0 1] }, {}] (nw := fun B9 => [(10, .val (.nilIface)), (9, eP B9 0)]) (M' := fun B9 => [⟨B9, 29, [uV (((maskI l) : Nat) : Int), uV (((maskI m) : Nat) : Int)]⟩]) (ob := fun B9 => [Ad B9 0, Ad B9 1]) (fun B9 => (Ac (ad _ _) (Ao (ad _ _)))) ?_
       clear hf hM; intro a w5 B9 hf hM hB hk
       have hbB9 : w.heap.size ≤ B9 := by have := hk0.size; omega
       have hk0 := hk0.then hk (by intro i _ h; cases h)
       have hO := hO.step hM (hk.mono (by intro _ _ h; cases h)) (by intro i h; simp only [Mem.names, List.map_cons, List.map_nil, List.mem_cons, List.not_mem_nil, or_false, List.map_append, List.cons_append, List.nil_append] at h ⊢; omega)
       clear hk hB
       refine wpList_nil ?_
       refine hK8 _ _ ?_
       refine wp_seq_k (fun K9 hK9 => ?_)
       refine wp_region_lit ?_
       refine q0 hf hM [10, 9, 8, 7, 0, 1, 2] [{}] (nw := [(41, eS av l.length c)]) An ?_
       clear hf; intro a hf
       refine sxcall hf rfl rfl rfl rfl (g := 9) (vs := [.slice av l.length c]) (ob := []) (by as_aux_lemma => kernel_rfl) An enters9 (r9mask_ok av l c w5 hs1r (hav.keepNn hk0) (by first | omega | (simp; omega) | (simp; done) | exact Nat.le_trans (byKinds_len _ _) (by omega) | decide)) ?_
       clear hf; rintro _ w6 a ⟨rfl, hk⟩ hf
       have hO := hO.keepNn hk
       have hM := hM.keepNn hk
       have hk0 := hk0.trans hk.nn
       clear hk
       refine q0 hf hM [10, 9, 8, 7, 0, 1, 2] [{}, {}, {}, {}, {}] (nw := [(12, eB true), (11, eU (((maskI l) : Nat) : Int))]) An ?_
       clear hf; intro a hf
       refine wpList_nil ?_
       refine hK9 _ _ ?_
       refine wp_seq_k (fun K10 hK10 => ?_)
       refine wp_region_lit ?_
       refine q0 hf hM [12, 11, 10, 9, 8, 7, 0, 1, 2] [{}] (nw := [(46, eS bv m.length cm)]) An ?_
       clear hf; intro a hf
       refine sxcall hf rfl rfl rfl rfl (g := 9) (vs := [.slice bv m.length cm]) (ob := []) (by as_aux_lemma => kernel_rfl) An enters9 (r9mask_ok bv m cm w6 hs2r (hbv.keepNn hk0) (by first | omega | (simp; omega) | (simp; done) | exact Nat.le_trans (byKinds_len _ _) (by omega) | decide)) ?_
       clear hf; rintro _ w7 a ⟨rfl, hk⟩ hf
       have hO := hO.keepNn hk
       have hM := hM.keepNn hk
       have hk0 := hk0.trans hk.nn
       clear hk
       refine q0 hf hM [12, 11, 10, 9, 8, 7, 0, 1, 2] [{}, {}, {}, {}, {}] (nw := [(14, eB true), (13, eU (((maskI m) : Nat) : Int))]) An ?_
       clear hf; intro a hf
       refine wpList_nil ?_
       refine hK10 _ _ ?_
       refine wp_seq_k (fun K11 hK11 => ?_)
       refine wp_seq_k (fun K12 hK12 => ?_)
       refine wp_region_lit ?_
       refine q0 hf hM [14, 13, 12, 11, 10, 9, 8, 1, 2] [{}, {}] (nw := [(51, eS av l.length c), (50, eS a'1 l.length (l.length + 4))]) An ?_
       clear hf; intro a hf
       refine sxcall hf rfl rfl rfl rfl (g := 10) (vs := [.slice a'1 l.length (l.length + 4), .slice av l.length c]) (ob := []) (by as_aux_lemma => kernel_rfl) An enters10 (keptInts a'1 l c av c w7  (own_arr (hO.own _ (List.Mem.tail _ (List.Mem.head _)))) (hav.keepNn hk0) (by first | omega | (simp; omega) | (simp; done) | exact Nat.le_trans (byKinds_len _ _) (by omega) | decide)) ?_
       clear hf; rintro _ w8 a ⟨rfl, hk⟩ hf
       have hO := hO.keepNn hk
       have hM := hM.keepNn hk
       have hk0 := hk0.trans hk.nn
       clear hk
       refine q0 hf hM [14, 13, 12, 11, 10, 9, 2] [{}, {}, {}, {}] (nw := [(56, eS bv m.length cm), (55, eS a'2 m.length (m.length + 4)), (54, eB false)]) (ob := [false = false, false = false]) (Ac rfl (Ao rfl)) ?_
       clear hf; intro a hf
       refine sxcallg hf rfl rfl rfl rfl rfl (g := 10) (vs := [.slice a'2 m.length (m.length + 4), .slice bv m.length cm]) (ob := []) (by as_aux_lemma => kernel_rfl) An enters10 (keptInts a'2 m c bv cm w8  (own_arr (hO.own _ (List.Mem.head _))) (hbv.keepNn hk0) (by first | omega | (simp; omega) | (simp; done) | exact Nat.le_trans (byKinds_len _ _) (by omega) | decide)) ?_
       clear hf; rintro _ w9 a ⟨rfl, hk⟩ hf
       have hO := hO.keepNn hk
       have hM := hM.keepNn hk
       have hk0 := hk0.trans hk.nn
       clear hk
       refine q0 hf hM [14, 13, 12, 11, 10, 9, 2] [{}, {}] (nw := [(59, eB false)]) (ob := [false = false]) (Ao rfl) ?_
       clear hf; intro a hf
       refine wpList_nil ?_
       refine hK12 _ _ ?_
       refine sxcond hf (b := false) (by kernel_rfl) (fun h => by cases h) (fun _ => ?_)
       refine wp_skip ?_
       refine hK11 _ _ ?_
       refine wp_seq_k (fun K13 hK13 => ?_)
       refine wp_seq_k (fun K14 hK14 => ?_)
       refine wp_region_lit ?_
       refine q0 hf hM [13, 11, 10, 9, 2] [{}, {}, {}, {}, {}, {}] (nw := [(65, eB false)]) (ob := [false = false, false = false]) (Ac rfl (Ao rfl)) ?_
       clear hf; intro a hf
       refine wpList_nil ?_
       refine hK14 _ _ ?_
       refine sxcond hf (b := false) (by kernel_rfl) (fun h => by cases h) (fun _ => ?_)
       refine wp_skip ?_
       refine hK13 _ _ ?_
       refine wp_seq_k (fun K15 hK15 => ?_)
       refine wp_seq_k (fun K16 hK16 => ?_)
       refine wp_region_lit ?_
       refine q0 hf hM [13, 11, 9, 2] [{}, {}, {}, {}, { os := [.ld 0 0] }, {}, { hint := some (bV false) }, {}, {}, {}, { os := [.ld 0 1] }, {}, { hint := some (bV false) }, {}] (nw := [(87, eB false)]) (ob := [false = false, false = false, Ad B9 0, false = false, false = false, (bV (((((maskI l) : Nat) : Int) : Int) != (((maskI l) : Nat) : Int)) : Value) = (bV false : Value), false = false, false = false, Ad B9 1, false = false, false = false, (bV (((((maskI m) : Nat) : Int) : Int) != (((maskI m) : Nat) : Int)) : Value) = (bV false : Value)]) (Ac rfl (Ac rfl (Ac (ad _ _) (Ac rfl (Ac rfl (Ac (by simp) (Ac rfl (Ac rfl (Ac (ad _ _) (Ac rfl (Ac rfl (Ao (by simp))))))))))))) ?_
       clear hf; intro a hf
       refine wpList_nil ?_
       refine hK16 _ _ ?_
       refine sxcond hf (b := false) (by kernel_rfl) (fun h => by cases h) (fun _ => ?_)
       refine wp_skip ?_
       refine hK15 _ _ ?_
       refine wp_seq_k (fun K17 hK17 => ?_)
       refine wp_region_lit ?_
       refine q0 hf hM [13, 11, 9, 2] [{}] (nw := [(88, eS rv r.length cr)]) An ?_
       clear hf; intro a hf
       rcases Bool.eq_false_or_eq_true (firstBad r == 0) with hs3r | hs3r
       · have hs3 := hs3r
         try simp only [Bool.or_eq_true, Bool.and_eq_true, Bool.not_eq_true', Bool.not_eq_false', Bool.or_eq_false_iff, Bool.and_eq_false_iff, decide_eq_true_eq, decide_eq_false_iff_not, beq_iff_eq, bne_iff_ne, beq_eq_false_iff_ne, bne_eq_false_iff_eq, Bool.and_true, Bool.true_and, ne_eq] at hs3
         rcases Bool.eq_false_or_eq_true (noDup r) with hs4r | hs4r
         · have hs4 := hs4r
           refine sxcall hf rfl rfl rfl rfl (g := 12) (vs := [.slice rv r.length cr]) (ob := []) (by as_aux_lemma => kernel_rfl) An enters12 (rright_ok rv r cr w9 hs3r hs4r (hrv.keepNn hk0) (by first | omega | (simp; omega) | (simp; done) | exact Nat.le_trans (byKinds_len _ _) (by omega) | decide)) ?_
           clear hf; rintro _ w10 a ⟨rfl, hk⟩ hf
           have hO := hO.keepNn hk
           have hM := hM.keepNn hk
           have hk0 := hk0.trans hk.nn
           clear hk
           refine q0 hf hM [13, 11, 9, 2] [{}, {}] (nw := [(91, eB (!(rightV r)))]) An ?_
           clear hf; intro a hf
           rcases Bool.eq_false_or_eq_true (!(rightV r)) with hg1r | hg1r
           · have hg1 := hg1r
             try simp only [Bool.or_eq_true, Bool.and_eq_true, Bool.not_eq_true', Bool.not_eq_false', Bool.or_eq_false_iff, Bool.and_eq_false_iff, decide_eq_true_eq, decide_eq_false_iff_not, beq_iff_eq, bne_iff_ne, beq_eq_false_iff_ne, bne_eq_false_iff_eq, Bool.and_true, Bool.true_and, ne_eq] at hg1
             have hf := hf.setb 91 hg1r
             refine q0 hf hM [91, 13, 11, 2] [{ g := .off }, { g := .off }] (nw := [(93, .val (undef)), (92, .val (undef))]) (ob := [true = !false, true = !false]) (Ac rfl (Ao rfl)) ?_
             clear hf; intro a hf
             refine q0 hf hM [91] [{ g := .off }, { g := .off }, { g := .off }, { g := .off }] (nw := [(97, .val (undef)), (96, .val (undef)), (95, .val (undef)), (94, .val (undef))]) (ob := [true = !false, true = !false, true = !false, true = !false]) (Ac rfl (Ac rfl (Ac rfl (Ao rfl)))) ?_
             clear hf; intro a hf
             refine q0 hf hM [] [{ g := .off }, { g := .off }, {}, {}] (nw := [(6, eB true)]) (ob := [true = !false, true = !false]) (Ac rfl (Ao rfl)) ?_
             clear hf; intro a hf
             refine wpList_nil ?_
             refine hK17 _ _ ?_
             refine wp_ret ?_
             refine qr (fn := Tryd.f3) hf hM [] (l := [bV true]) (ob := []) An ?_
             show (bV true : Value) = .bool true ∧ Keep Nn w w10
             refine ⟨congrArg Value.bool ?_, hk0⟩
             first | rfl | (simp; done) | (simp_all; done)
           · have hg1 := hg1r
             try simp only [Bool.or_eq_true, Bool.and_eq_true, Bool.not_eq_true', Bool.not_eq_false', Bool.or_eq_false_iff, Bool.and_eq_false_iff, decide_eq_true_eq, decide_eq_false_iff_not, beq_iff_eq, bne_iff_ne, beq_eq_false_iff_ne, bne_eq_false_iff_eq, Bool.and_true, Bool.true_and, ne_eq] at hg1
             have hf := hf.setb 91 hg1r
             refine q0 hf hM [91, 13, 11, 2] [{ os := [.ld 0 0, .ld 0 1] }, {}] (nw := [(93, eS rv r.length cr), (92, .val (.agg #[uV (((maskI l) : Nat) : Int), uV (((maskI m) : Nat) : Int)]))]) (ob := [false = false, Ad B9 0, Ad B9 1, false = false]) (Ac rfl (Ac (ad _ _) (Ac (ad _ _) (Ao rfl)))) ?_
             clear hf; intro a hf
             refine sxcallg hf rfl rfl rfl rfl rfl (g := 13) (vs := [.agg #[uV (((maskI l) : Nat) : Int), uV (((maskI m) : Nat) : Int)], .slice rv r.length cr]) (ob := []) (by as_aux_lemma => kernel_rfl) An enters13 (qfits E (maskI l) (maskI m) rv r cr w10  (by first | assumption | exact maskI_lt64 (by assumption) | exact maskN_lt64 (by assumption) | decide) (by first | assumption | exact maskI_lt64 (by assumption) | exact maskN_lt64 (by assumption) | decide) (hrv.keepNn hk0) (by first | omega | (simp; omega) | (simp; done) | exact Nat.le_trans (byKinds_len _ _) (by omega) | decide) (by first | assumption | exact kinds_of (rightV_parts (by assumption)).1) (hG.keep hk0 (fun _ h => h))) ?_
             clear hf; rintro _ w11 a ⟨rfl, hk⟩ hf
             have hO := hO.keepNn hk
             have hM := hM.keepNn hk
             have hk0 := hk0.trans hk.nn
             clear hk
             refine q0 hf hM [94, 91] [{}, {}, {}] (nw := [(97, eU (((maskI m) : Nat) : Int)), (96, eU (((maskI l) : Nat) : Int)), (95, eS rv r.length cr)]) (ob := [false = false, false = false, false = false]) (Ac rfl (Ac rfl (Ao rfl))) ?_
             clear hf; intro a hf
             refine sxcallg hf rfl rfl rfl rfl rfl (g := 14) (vs := [.slice rv r.length cr, uV (((maskI l) : Nat) : Int), uV (((maskI m) : Nat) : Int)]) (ob := []) (by as_aux_lemma => kernel_rfl) An enters14 (rfits (maskI l) (maskI m) rv r cr w11  (by first | assumption | exact maskI_lt64 (by assumption) | exact maskN_lt64 (by assumption) | decide) (by first | assumption | exact maskI_lt64 (by assumption) | exact maskN_lt64 (by assumption) | decide) (hrv.keepNn hk0) (by first | omega | (simp; omega) | (simp; done) | exact Nat.le_trans (byKinds_len _ _) (by omega) | decide) (by first | assumption | exact kinds_of (rightV_parts (by assumption)).1)) ?_
             clear hf; rintro _ w12 a ⟨rfl, hk⟩ hf
             have hO := hO.keepNn hk
             have hM := hM.keepNn hk
             have hk0 := hk0.trans hk.nn
             clear hk
             refine q0 hf hM [] [{ hint := some (bV true) }, {}, {}] (nw := [(6, eB true)]) (ob := [false = false, (bV ((fitsN (maskN r) (maskI l) (maskI m)) == (fitsN (maskN r) (maskI l) (maskI m))) : Value) = (bV true : Value)]) (Ac rfl (Ao (by simp))) ?_
             clear hf; intro a hf
             refine wpList_nil ?_
             refine hK17 _ _ ?_
             refine wp_ret ?_
             refine qr (fn := Tryd.f3) hf hM [] (l := [bV true]) (ob := []) An ?_
             show (bV true : Value) = .bool true ∧ Keep Nn w w12
             refine ⟨congrArg Value.bool ?_, hk0⟩
             first | rfl | (simp; done) | (simp_all; done)
         · have hs4 := hs4r
           refine sxcall hf rfl rfl rfl rfl (g := 12) (vs := [.slice rv r.length cr]) (ob := []) (by as_aux_lemma => kernel_rfl) An enters12 (rright_dup rv r cr w9 hs3r hs4r (hrv.keepNn hk0) (by first | omega | (simp; omega) | (simp; done) | exact Nat.le_trans (byKinds_len _ _) (by omega) | decide)) ?_
           clear hf; rintro _ w13 a ⟨rfl, hk⟩ hf
           have hO := hO.keepNn hk
           have hM := hM.keepNn hk
           have hk0 := hk0.trans hk.nn
           clear hk
           refine q0 hf hM [13, 11, 9, 2] [{}, {}] (nw := [(91, eB (!(rightV r)))]) An ?_
           clear hf; intro a hf
           rcases Bool.eq_false_or_eq_true (!(rightV r)) with hg2r | hg2r
           · have hg2 := hg2r
             try simp only [Bool.or_eq_true, Bool.and_eq_true, Bool.not_eq_true', Bool.not_eq_false', Bool.or_eq_false_iff, Bool.and_eq_false_iff, decide_eq_true_eq, decide_eq_false_iff_not, beq_iff_eq, bne_iff_ne, beq_eq_false_iff_ne, bne_eq_false_iff_eq, Bool.and_true, Bool.true_and, ne_eq] at hg2
             have hf := hf.setb 91 hg2r
             refine q0 hf hM [91, 13, 11, 2] [{ g := .off }, { g := .off }] (nw := [(93, .val (undef)), (92, .val (undef))]) (ob := [true = !false, true = !false]) (Ac rfl (Ao rfl)) ?_
             clear hf; intro a hf
             refine q0 hf hM [91] [{ g := .off }, { g := .off }, { g := .off }, { g := .off }] (nw := [(97, .val (undef)), (96, .val (undef)), (95, .val (undef)), (94, .val (undef))]) (ob := [true = !false, true = !false, true = !false, true = !false]) (Ac rfl (Ac rfl (Ac rfl (Ao rfl)))) ?_
             clear hf; intro a hf
             refine q0 hf hM [] [{ g := .off }, { g := .off }, {}, {}] (nw := [(6, eB true)]) (ob := [true = !false, true = !false]) (Ac rfl (Ao rfl)) ?_
             clear hf; intro a hf
             refine wpList_nil ?_
             refine hK17 _ _ ?_
             refine wp_ret ?_
             refine qr (fn := Tryd.f3) hf hM [] (l := [bV true]) (ob := []) An ?_
             show (bV true : Value) = .bool true ∧ Keep Nn w w13
             refine ⟨congrArg Value.bool ?_, hk0⟩
             first | rfl | (simp; done) | (simp_all; done)
           · have hg2 := hg2r
             try simp only [Bool.or_eq_true, Bool.and_eq_true, Bool.not_eq_true', Bool.not_eq_false', Bool.or_eq_false_iff, Bool.and_eq_false_iff, decide_eq_true_eq, decide_eq_false_iff_not, beq_iff_eq, bne_iff_ne, beq_eq_false_iff_ne, bne_eq_false_iff_eq, Bool.and_true, Bool.true_and, ne_eq] at hg2
             have hf := hf.setb 91 hg2r
             refine q0 hf hM [91, 13, 11, 2] [{ os := [.ld 0 0, .ld 0 1] }, {}] (nw := [(93, eS rv r.length cr), (92, .val (.agg #[uV (((maskI l) : Nat) : Int), uV (((maskI m) : Nat) : Int)]))]) (ob := [false = false, Ad B9 0, Ad B9 1, false = false]) (Ac rfl (Ac (ad _ _) (Ac (ad _ _) (Ao rfl)))) ?_
             clear hf; intro a hf
             refine sxcallg hf rfl rfl rfl rfl rfl (g := 13) (vs := [.agg #[uV (((maskI l) : Nat) : Int), uV (((maskI m) : Nat) : Int)], .slice rv r.length cr]) (ob := []) (by as_aux_lemma => kernel_rfl) An enters13 (qfits E (maskI l) (maskI m) rv r cr w13  (by first | assumption | exact maskI_lt64 (by assumption) | exact maskN_lt64 (by assumption) | decide) (by first | assumption | exact maskI_lt64 (by assumption) | exact maskN_lt64 (by assumption) | decide) (hrv.keepNn hk0) (by first | omega | (simp; omega) | (simp; done) | exact Nat.le_trans (byKinds_len _ _) (by omega) | decide) (by first | assumption | exact kinds_of (rightV_parts (by assumption)).1) (hG.keep hk0 (fun _ h => h))) ?_
             clear hf; rintro _ w14 a ⟨rfl, hk⟩ hf
             have hO := hO.keepNn hk
             have hM := hM.keepNn hk
             have hk0 := hk0.trans hk.nn
             clear hk
             refine q0 hf hM [94, 91] [{}, {}, {}] (nw := [(97, eU (((maskI m) : Nat) : Int)), (96, eU (((maskI l) : Nat) : Int)), (95, eS rv r.length cr)]) (ob := [false = false, false = false, false = false]) (Ac rfl (Ac rfl (Ao rfl))) ?_
             clear hf; intro a hf
             refine sxcallg hf rfl rfl rfl rfl rfl (g := 14) (vs := [.slice rv r.length cr, uV (((maskI l) : Nat) : Int), uV (((maskI m) : Nat) : Int)]) (ob := []) (by as_aux_lemma => kernel_rfl) An enters14 (rfits (maskI l) (maskI m) rv r cr w14  (by first | assumption | exact maskI_lt64 (by assumption) | exact maskN_lt64 (by assumption) | decide) (by first | assumption | exact maskI_lt64 (by assumption) | exact maskN_lt64 (by assumption) | decide) (hrv.keepNn hk0) (by first | omega | (simp; omega) | (simp; done) | exact Nat.le_trans (byKinds_len _ _) (by omega) | decide) (by first | assumption | exact kinds_of (rightV_parts (by assumption)).1)) ?_
             clear hf; rintro _ w15 a ⟨rfl, hk⟩ hf
             have hO := hO.keepNn hk
             have hM := hM.keepNn hk
             have hk0 := hk0.trans hk.nn
             clear hk
             refine q0 hf hM [] [{ hint := some (bV true) }, {}, {}] (nw := [(6, eB true)]) (ob := [false = false, (bV ((fitsN (maskN r) (maskI l) (maskI m)) == (fitsN (maskN r) (maskI l) (maskI m))) : Value) = (bV true : Value)]) (Ac rfl (Ao (by simp))) ?_
             clear hf; intro a hf
             refine wpList_nil ?_
             refine hK17 _ _ ?_
             refine wp_ret ?_
             refine qr (fn := Tryd.f3) hf hM [] (l := [bV true]) (ob := []) An ?_
             show (bV true : Value) = .bool true ∧ Keep Nn w w15
             refine ⟨congrArg Value.bool ?_, hk0⟩
             first | rfl | (simp; done) | (simp_all; done)
       · have hs3 := hs3r
         try simp only [Bool.or_eq_true, Bool.and_eq_true, Bool.not_eq_true', Bool.not_eq_false', Bool.or_eq_false_iff, Bool.and_eq_false_iff, decide_eq_true_eq, decide_eq_false_iff_not, beq_iff_eq, bne_iff_ne, beq_eq_false_iff_ne, bne_eq_false_iff_eq, Bool.and_true, Bool.true_and, ne_eq] at hs3
         refine sxcall hf rfl rfl rfl rfl (g := 12) (vs := [.slice rv r.length cr]) (ob := []) (by as_aux_lemma => kernel_rfl) An enters12 (rright_bad rv r cr w9 hs3r (hrv.keepNn hk0) (by first | omega | (simp; omega) | (simp; done) | exact Nat.le_trans (byKinds_len _ _) (by omega) | decide)) ?_
         clear hf; rintro _ w16 a ⟨rfl, hk⟩ hf
         have hO := hO.keepNn hk
         have hM := hM.keepNn hk
         have hk0 := hk0.trans hk.nn
         clear hk
         refine q0 hf hM [13, 11, 9, 2] [{}, {}] (nw := [(91, eB (!(rightV r)))]) An ?_
         clear hf; intro a hf
         rcases Bool.eq_false_or_eq_true (!(rightV r)) with hg3r | hg3r
         · have hg3 := hg3r
           try simp only [Bool.or_eq_true, Bool.and_eq_true, Bool.not_eq_true', Bool.not_eq_false', Bool.or_eq_false_iff, Bool.and_eq_false_iff, decide_eq_true_eq, decide_eq_false_iff_not, beq_iff_eq, bne_iff_ne, beq_eq_false_iff_ne, bne_eq_false_iff_eq, Bool.and_true, Bool.true_and, ne_eq] at hg3
           have hf := hf.setb 91 hg3r
           refine q0 hf hM [91, 13, 11, 2] [{ g := .off }, { g := .off }] (nw := [(93, .val (undef)), (92, .val (undef))]) (ob := [true = !false, true = !false]) (Ac rfl (Ao rfl)) ?_
           clear hf; intro a hf
           refine q0 hf hM [91] [{ g := .off }, { g := .off }, { g := .off }, { g := .off }] (nw := [(97, .val (undef)), (96, .val (undef)), (95, .val (undef)), (94, .val (undef))]) (ob := [true = !false, true = !false, true = !false, true = !false]) (Ac rfl (Ac rfl (Ac rfl (Ao rfl)))) ?_
           clear hf; intro a hf
           refine q0 hf hM [] [{ g := .off }, { g := .off }, {}, {}] (nw := [(6, eB true)]) (ob := [true = !false, true = !false]) (Ac rfl (Ao rfl)) ?_
           clear hf; intro a hf
           refine wpList_nil ?_
           refine hK17 _ _ ?_
           refine wp_ret ?_
           refine qr (fn := Tryd.f3) hf hM [] (l := [bV true]) (ob := []) An ?_
           show (bV true : Value) = .bool true ∧ Keep Nn w w16
           refine ⟨congrArg Value.bool ?_, hk0⟩
           first | rfl | (simp; done) | (simp_all; done)
         · have hg3 := hg3r
           try simp only [Bool.or_eq_true, Bool.and_eq_true, Bool.not_eq_true', Bool.not_eq_false', Bool.or_eq_false_iff, Bool.and_eq_false_iff, decide_eq_true_eq, decide_eq_false_iff_not, beq_iff_eq, bne_iff_ne, beq_eq_false_iff_ne, bne_eq_false_iff_eq, Bool.and_true, Bool.true_and, ne_eq] at hg3
           have hf := hf.setb 91 hg3r
           refine q0 hf hM [91, 13, 11, 2] [{ os := [.ld 0 0, .ld 0 1] }, {}] (nw := [(93, eS rv r.length cr), (92, .val (.agg #[uV (((maskI l) : Nat) : Int), uV (((maskI m) : Nat) : Int)]))]) (ob := [false = false, Ad B9 0, Ad B9 1, false = false]) (Ac rfl (Ac (ad _ _) (Ac (ad _ _) (Ao rfl)))) ?_
           clear hf; intro a hf
           refine sxcallg hf rfl rfl rfl rfl rfl (g := 13) (vs := [.agg #[uV (((maskI l) : Nat) : Int), uV (((maskI m) : Nat) : Int)], .slice rv r.length cr]) (ob := []) (by as_aux_lemma => kernel_rfl) An enters13 (qfits E (maskI l) (maskI m) rv r cr w16  (by first | assumption | exact maskI_lt64 (by assumption) | exact maskN_lt64 (by assumption) | decide) (by first | assumption | exact maskI_lt64 (by assumption) | exact maskN_lt64 (by assumption) | decide) (hrv.keepNn hk0) (by first | omega | (simp; omega) | (simp; done) | exact Nat.le_trans (byKinds_len _ _) (by omega) | decide) (by first | assumption | exact kinds_of (rightV_parts (by assumption)).1) (hG.keep hk0 (fun _ h => h))) ?_
           clear hf; rintro _ w17 a ⟨rfl, hk⟩ hf
           have hO := hO.keepNn hk
           have hM := hM.keepNn hk
           have hk0 := hk0.trans hk.nn
           clear hk
           refine q0 hf hM [94, 91] [{}, {}, {}] (nw := [(97, eU (((maskI m) : Nat) : Int)), (96, eU (((maskI l) : Nat) : Int)), (95, eS rv r.length cr)]) (ob := [false = false, false = false, false = false]) (Ac rfl (Ac rfl (Ao rfl))) ?_
           clear hf; intro a hf
           refine sxcallg hf rfl rfl rfl rfl rfl (g := 14) (vs := [.slice rv r.length cr, uV (((maskI l) : Nat) : Int), uV (((maskI m) : Nat) : Int)]) (ob := []) (by as_aux_lemma => kernel_rfl) An enters14 (rfits (maskI l) (maskI m) rv r cr w17  (by first | assumption | exact maskI_lt64 (by assumption) | exact maskN_lt64 (by assumption) | decide) (by first | assumption | exact maskI_lt64 (by assumption) | exact maskN_lt64 (by assumption) | decide) (hrv.keepNn hk0) (by first | omega | (simp; omega) | (simp; done) | exact Nat.le_trans (byKinds_len _ _) (by omega) | decide) (by first | assumption | exact kinds_of (rightV_parts (by assumption)).1)) ?_
           clear hf; rintro _ w18 a ⟨rfl, hk⟩ hf
           have hO := hO.keepNn hk
           have hM := hM.keepNn hk
           have hk0 := hk0.trans hk.nn
           clear hk
           refine q0 hf hM [] [{ hint := some (bV true) }, {}, {}] (nw := [(6, eB true)]) (ob := [false = false, (bV ((fitsN (maskN r) (maskI l) (maskI m)) == (fitsN (maskN r) (maskI l) (maskI m))) : Value) = (bV true : Value)]) (Ac rfl (Ao (by simp))) ?_
           clear hf; intro a hf
           refine wpList_nil ?_
           refine hK17 _ _ ?_
           refine wp_ret ?_
           refine qr (fn := Tryd.f3) hf hM [] (l := [bV true]) (ob := []) An ?_
           show (bV true : Value) = .bool true ∧ Keep Nn w w18
           refine ⟨congrArg Value.bool ?_, hk0⟩
           first | rfl | (simp; done) | (simp_all; done)
     · have hs2 := hs2r
       refine sxcall hf rfl rfl rfl rfl (g := 8) (vs := [.slice a'1 l.length (l.length + 4), .slice a'2 m.length (m.length + 4)]) (ob := []) (by as_aux_lemma => kernel_rfl) An enters8 (qof_n2 E a'1 l (l.length + 4) a'2 m (m.length + 4) w3 hs1r hs2r (Arr.roomf (l := l) (m := ([-91, -92, -93, -94] : List Int)) (own_arr (hO.own _ (List.Mem.tail _ (List.Mem.head _)))) (fun _ => rfl) (by simp)) (by first | omega | (simp; omega) | (simp; done) | exact Nat.le_trans (byKinds_len _ _) (by omega) | decide) (Arr.roomf (l := m) (m := ([-91, -92, -93, -94] : List Int)) (own_arr (hO.own _ (List.Mem.head _))) (fun _ => rfl) (by simp)) (by first | omega | (simp; omega) | (simp; done) | exact Nat.le_trans (byKinds_len _ _) (by omega) | decide) (hG.keep hk0 (fun _ h => h))) ?_
       clear hf; rintro _ w19 a ⟨rfl, hk⟩ hf
       have hO := hO.keepNn hk
       have hM := hM.keepNn hk
       have hk0 := hk0.trans hk.nn
       clear hk
       refine q1 hf hM [8, 7, 0, 1, 2] [{}, {}, {}, { os := [.nw] }, { os := [.st 0 0, .st 0 1] }, {}] (nw := fun B41 => [(10, .val (.iface 115 (.pointer (some (E 4))))), (9, eP B41 0)]) (M' := fun B41 => [⟨B41, 29, [uV 0, uV 0]⟩]) (ob := fun B41 => [Ad B41 0, Ad B41 1]) (fun B41 => (Ac (ad _ _) (Ao (ad _ _)))) ?_
       clear hf hM; intro a w20 B41 hf hM hB hk
       have hbB41 : w.heap.size ≤ B41 := by have := hk0.size; omega
       have hk0 := hk0.then hk (by intro i _ h; cases h)
       have hO := hO.step hM (hk.mono (by intro _ _ h; cases h)) (by intro i h; simp only [Mem.names, List.map_cons, List.map_nil, List.mem_cons, List.not_mem_nil, or_false, List.map_append, List.cons_append, List.nil_append] at h ⊢; omega)
       clear hk hB
       refine wpList_nil ?_
       refine hK8 _ _ ?_
       refine wp_seq_k (fun K18 hK18 => ?_)
       refine wp_region_lit ?_
       refine q0 hf hM [10, 9, 8, 7, 0, 1, 2] [{}] (nw := [(41, eS av l.length c)]) An ?_
       clear hf; intro a hf
       refine sxcall hf rfl rfl rfl rfl (g := 9) (vs := [.slice av l.length c]) (ob := []) (by as_aux_lemma => kernel_rfl) An enters9 (r9mask_ok av l c w20 hs1r (hav.keepNn hk0) (by first | omega | (simp; omega) | (simp; done) | exact Nat.le_trans (byKinds_len _ _) (by omega) | decide)) ?_
       clear hf; rintro _ w21 a ⟨rfl, hk⟩ hf
       have hO := hO.keepNn hk
       have hM := hM.keepNn hk
       have hk0 := hk0.trans hk.nn
       clear hk
       refine q0 hf hM [10, 9, 8, 7, 0, 1, 2] [{}, {}, {}, {}, {}] (nw := [(12, eB true), (11, eU (((maskI l) : Nat) : Int))]) An ?_
       clear hf; intro a hf
       refine wpList_nil ?_
       refine hK18 _ _ ?_
       refine wp_seq_k (fun K19 hK19 => ?_)
       refine wp_region_lit ?_
       refine q0 hf hM [12, 11, 10, 9, 8, 7, 0, 1, 2] [{}] (nw := [(46, eS bv m.length cm)]) An ?_
       clear hf; intro a hf
       refine sxcall hf rfl rfl rfl rfl (g := 9) (vs := [.slice bv m.length cm]) (ob := []) (by as_aux_lemma => kernel_rfl) An enters9 (r9mask_no bv m cm w21 hs2r (hbv.keepNn hk0) (by first | omega | (simp; omega) | (simp; done) | exact Nat.le_trans (byKinds_len _ _) (by omega) | decide)) ?_
       clear hf; rintro _ w22 a ⟨rfl, hk⟩ hf
       have hO := hO.keepNn hk
       have hM := hM.keepNn hk
       have hk0 := hk0.trans hk.nn
       clear hk
       refine q0 hf hM [12, 11, 10, 9, 8, 7, 0, 1, 2] [{}, {}, {}, {}, {}] (nw := [(14, eB false), (13, eU 0)]) An ?_
       clear hf; intro a hf
       refine wpList_nil ?_
       refine hK19 _ _ ?_
       refine wp_seq_k (fun K20 hK20 => ?_)
       refine wp_seq_k (fun K21 hK21 => ?_)
       refine wp_region_lit ?_
       refine q0 hf hM [14, 13, 12, 11, 10, 9, 8, 1, 2] [{}, {}] (nw := [(51, eS av l.length c), (50, eS a'1 l.length (l.length + 4))]) An ?_
       clear hf; intro a hf
       refine sxcall hf rfl rfl rfl rfl (g := 10) (vs := [.slice a'1 l.length (l.length + 4), .slice av l.length c]) (ob := []) (by as_aux_lemma => kernel_rfl) An enters10 (keptInts a'1 l c av c w22  (own_arr (hO.own _ (List.Mem.tail _ (List.Mem.head _)))) (hav.keepNn hk0) (by first | omega | (simp; omega) | (simp; done) | exact Nat.le_trans (byKinds_len _ _) (by omega) | decide)) ?_
       clear hf; rintro _ w23 a ⟨rfl, hk⟩ hf
       have hO := hO.keepNn hk
       have hM := hM.keepNn hk
       have hk0 := hk0.trans hk.nn
       clear hk
       refine q0 hf hM [14, 13, 12, 11, 10, 9, 2] [{}, {}, {}, {}] (nw := [(56, eS bv m.length cm), (55, eS a'2 m.length (m.length + 4)), (54, eB false)]) (ob := [false = false, false = false]) (Ac rfl (Ao rfl)) ?_
       clear hf; intro a hf
       refine sxcallg hf rfl rfl rfl rfl rfl (g := 10) (vs := [.slice a'2 m.length (m.length + 4), .slice bv m.length cm]) (ob := []) (by as_aux_lemma => kernel_rfl) An enters10 (keptInts a'2 m c bv cm w23  (own_arr (hO.own _ (List.Mem.head _))) (hbv.keepNn hk0) (by first | omega | (simp; omega) | (simp; done) | exact Nat.le_trans (byKinds_len _ _) (by omega) | decide)) ?_
       clear hf; rintro _ w24 a ⟨rfl, hk⟩ hf
       have hO := hO.keepNn hk
       have hM := hM.keepNn hk
       have hk0 := hk0.trans hk.nn
       clear hk
       refine q0 hf hM [14, 13, 12, 11, 10, 9, 2] [{}, {}] (nw := [(59, eB false)]) (ob := [false = false]) (Ao rfl) ?_
       clear hf; intro a hf
       refine wpList_nil ?_
       refine hK21 _ _ ?_
       refine sxcond hf (b := false) (by kernel_rfl) (fun h => by cases h) (fun _ => ?_)
       refine wp_skip ?_
       refine hK20 _ _ ?_
       refine wp_seq_k (fun K22 hK22 => ?_)
       refine wp_seq_k (fun K23 hK23 => ?_)
       refine wp_region_lit ?_
       refine q0 hf hM [13, 11, 10, 9, 2] [{}, {}, {}, {}, {}, {}] (nw := [(65, eB true)]) (ob := [false = false, false = false]) (Ac rfl (Ao rfl)) ?_
       clear hf; intro a hf
       refine wpList_nil ?_
       refine hK23 _ _ ?_
       refine sxcond hf (b := true) (by kernel_rfl) (fun _ => ?_) (fun h => by cases h)
       refine wp_seq_k (fun K24 hK24 => ?_)
       refine wp_region_lit ?_
       refine q0 hf hM [] [{ os := [.ld 0 0, .ld 0 1] }, { sp := true }, { sp := true, hint := some (bV true) }, {}, {}] (nw := [(70, .val (.iface 115 (.pointer (some (E 4))))), (69, eB true)]) (ob := [Ad B41 0, Ad B41 1, (bV (((0 : Int) == 0) && (((0 : Int) == 0) && true)) : Value) = (bV true : Value), true = true]) (Ac (ad _ _) (Ac (ad _ _) (Ac (by simp) (Ao rfl)))) ?_
       clear hf; intro a hf
       refine sxcallg hf rfl rfl rfl rfl rfl (g := 11) (vs := [.iface 115 (.pointer (some (E 4)))]) (ob := []) (by as_aux_lemma => kernel_rfl) An enters11 (num_err E 4 w24  (by decide) (hG.keep hk0 (fun _ h => h))) ?_
       clear hf; rintro _ w25 a ⟨rfl, hk⟩ hf
       have hO := hO.keepNn hk
       have hM := hM.keepNn hk
       have hk0 := hk0.trans hk.nn
       clear hk
       refine q0 hf hM [] [{}, {}, {}] (nw := [(6, eB true)]) (ob := [true = true]) (Ao rfl) ?_
       clear hf; intro a hf
       refine wpList_nil ?_
       refine hK24 _ _ ?_
       refine wp_ret ?_
       refine qr (fn := Tryd.f3) hf hM [] (l := [bV true]) (ob := []) An ?_
       show (bV true : Value) = .bool true ∧ Keep Nn w w25
       refine ⟨congrArg Value.bool ?_, hk0⟩
       first | rfl | (simp; done) | (simp_all; done)
   · have hs1 := hs1r
     rcases Bool.eq_false_or_eq_true (kindsOk m) with hs5r | hs5r
     · have hs5 := hs5r
       refine sxcall hf rfl rfl rfl rfl (g := 8) (vs := [.slice a'1 l.length (l.length + 4), .slice a'2 m.length (m.length + 4)]) (ob := []) (by as_aux_lemma => kernel_rfl) An enters8 (qof_n1 E a'1 l (l.length + 4) a'2 m (m.length + 4) w3 hs1r (Arr.roomf (l := l) (m := ([-91, -92, -93, -94] : List Int)) (own_arr (hO.own _ (List.Mem.tail _ (List.Mem.head _)))) (fun _ => rfl) (by simp)) (by first | omega | (simp; omega) | (simp; done) | exact Nat.le_trans (byKinds_len _ _) (by omega) | decide) (Arr.roomf (l := m) (m := ([-91, -92, -93, -94] : List Int)) (own_arr (hO.own _ (List.Mem.head _))) (fun _ => rfl) (by simp)) (by first | omega | (simp; omega) | (simp; done) | exact Nat.le_trans (byKinds_len _ _) (by omega) | decide) (hG.keep hk0 (fun _ h => h))) ?_
       clear hf; rintro _ w26 a ⟨rfl, hk⟩ hf
       have hO := hO.keepNn hk
       have hM := hM.keepNn hk
       have hk0 := hk0.trans hk.nn
       clear hk
       refine q1 hf hM [8, 7, 0, 1, 2] [{}, {}, {}, { os := [.nw] }, { os := [.st 0 0, .st 0 1] }, {}] (nw := fun B52 => [(10, .val (.iface 115 (.pointer (some (E 4))))), (9, eP B52 0)]) (M' := fun B52 => [⟨B52, 29, [uV 0, uV 0]⟩]) (ob := fun B52 => [Ad B52 0, Ad B52 1]) (fun B52 => (Ac (ad _ _) (Ao (ad _ _)))) ?_
       clear hf hM; intro a w27 B52 hf hM hB hk
       have hbB52 : w.heap.size ≤ B52 := by have := hk0.size; omega
       have hk0 := hk0.then hk (by intro i _ h; cases h)
       have hO := hO.step hM (hk.mono (by intro _ _ h; cases h)) (by intro i h; simp only [Mem.names, List.map_cons, List.map_nil, List.mem_cons, List.not_mem_nil, or_false, List.map_append, List.cons_append, List.nil_append] at h ⊢; omega)
       clear hk hB
       refine wpList_nil ?_
       refine hK8 _ _ ?_
       refine wp_seq_k (fun K25 hK25 => ?_)
       refine wp_region_lit ?_
       refine q0 hf hM [10, 9, 8, 7, 0, 1, 2] [{}] (nw := [(41, eS av l.length c)]) An ?_
       clear hf; intro a hf
       refine sxcall hf rfl rfl rfl rfl (g := 9) (vs := [.slice av l.length c]) (ob := []) (by as_aux_lemma => kernel_rfl) An enters9 (r9mask_no av l c w27 hs1r (hav.keepNn hk0) (by first | omega | (simp; omega) | (simp; done) | exact Nat.le_trans (byKinds_len _ _) (by omega) | decide)) ?_
       clear hf; rintro _ w28 a ⟨rfl, hk⟩ hf
       have hO := hO.keepNn hk
       have hM := hM.keepNn hk
       have hk0 := hk0.trans hk.nn
       clear hk
       refine q0 hf hM [10, 9, 8, 7, 0, 1, 2] [{}, {}, {}, {}, {}] (nw := [(12, eB false), (11, eU 0)]) An ?_
       clear hf; intro a hf
       refine wpList_nil ?_
       refine hK25 _ _ ?_
       refine wp_seq_k (fun K26 hK26 => ?_)
       refine wp_region_lit ?_
       refine q0 hf hM [12, 11, 10, 9, 8, 7, 0, 1, 2] [{}] (nw := [(46, eS bv m.length cm)]) An ?_
       clear hf; intro a hf
       refine sxcall hf rfl rfl rfl rfl (g := 9) (vs := [.slice bv m.length cm]) (ob := []) (by as_aux_lemma => kernel_rfl) An enters9 (r9mask_ok bv m cm w28 hs5r (hbv.keepNn hk0) (by first | omega | (simp; omega) | (simp; done) | exact Nat.le_trans (byKinds_len _ _) (by omega) | decide)) ?_
       clear hf; rintro _ w29 a ⟨rfl, hk⟩ hf
       have hO := hO.keepNn hk
       have hM := hM.keepNn hk
       have hk0 := hk0.trans hk.nn
       clear hk
       refine q0 hf hM [12, 11, 10, 9, 8, 7, 0, 1, 2] [{}, {}, {}, {}, {}] (nw := [(14, eB true), (13, eU (((maskI m) : Nat) : Int))]) An ?_
       clear hf; intro a hf
       refine wpList_nil ?_
       refine hK26 _ _ ?_
       refine wp_seq_k (fun K27 hK27 => ?_)
       refine wp_seq_k (fun K28 hK28 => ?_)
       refine wp_region_lit ?_
       refine q0 hf hM [14, 13, 12, 11, 10, 9, 8, 1, 2] [{}, {}] (nw := [(51, eS av l.length c), (50, eS a'1 l.length (l.length + 4))]) An ?_
       clear hf; intro a hf
       refine sxcall hf rfl rfl rfl rfl (g := 10) (vs := [.slice a'1 l.length (l.length + 4), .slice av l.length c]) (ob := []) (by as_aux_lemma => kernel_rfl) An enters10 (keptInts a'1 l c av c w29  (own_arr (hO.own _ (List.Mem.tail _ (List.Mem.head _)))) (hav.keepNn hk0) (by first | omega | (simp; omega) | (simp; done) | exact Nat.le_trans (byKinds_len _ _) (by omega) | decide)) ?_
       clear hf; rintro _ w30 a ⟨rfl, hk⟩ hf
       have hO := hO.keepNn hk
       have hM := hM.keepNn hk
       have hk0 := hk0.trans hk.nn
       clear hk
       refine q0 hf hM [14, 13, 12, 11, 10, 9, 2] [{}, {}, {}, {}] (nw := [(56, eS bv m.length cm), (55, eS a'2 m.length (m.length + 4)), (54, eB false)]) (ob := [false = false, false = false]) (Ac rfl (Ao rfl)) ?_
       clear hf; intro a hf
       refine sxcallg hf rfl rfl rfl rfl rfl (g := 10) (vs := [.slice a'2 m.length (m.length + 4), .slice bv m.length cm]) (ob := []) (by as_aux_lemma => kernel_rfl) An enters10 (keptInts a'2 m c bv cm w30  (own_arr (hO.own _ (List.Mem.head _))) (hbv.keepNn hk0) (by first | omega | (simp; omega) | (simp; done) | exact Nat.le_trans (byKinds_len _ _) (by omega) | decide)) ?_
       clear hf; rintro _ w31 a ⟨rfl, hk⟩ hf
       have hO := hO.keepNn hk
       have hM := hM.keepNn hk
       have hk0 := hk0.trans hk.nn
       clear hk
       refine q0 hf hM [14, 13, 12, 11, 10, 9, 2] [{}, {}] (nw := [(59, eB false)]) (ob := [false = false]) (Ao rfl) ?_
       clear hf; intro a hf
       refine wpList_nil ?_
       refine hK28 _ _ ?_
       refine sxcond hf (b := false) (by kernel_rfl) (fun h => by cases h) (fun _ => ?_)
       refine wp_skip ?_
       refine hK27 _ _ ?_
       refine wp_seq_k (fun K29 hK29 => ?_)
       refine wp_seq_k (fun K30 hK30 => ?_)
       refine wp_region_lit ?_
       refine q0 hf hM [13, 11, 10, 9, 2] [{}, {}, {}, { g := .off }, { g := .off }, {}] (nw := [(65, eB true)]) (ob := [true = !false, true = !false]) (Ac rfl (Ao rfl)) ?_
       clear hf; intro a hf
       refine wpList_nil ?_
       refine hK30 _ _ ?_
       refine sxcond hf (b := true) (by kernel_rfl) (fun _ => ?_) (fun h => by cases h)
       refine wp_seq_k (fun K31 hK31 => ?_)
       refine wp_region_lit ?_
       refine q0 hf hM [] [{ os := [.ld 0 0, .ld 0 1] }, { sp := true }, { sp := true, hint := some (bV true) }, {}, {}] (nw := [(70, .val (.iface 115 (.pointer (some (E 4))))), (69, eB true)]) (ob := [Ad B52 0, Ad B52 1, (bV (((0 : Int) == 0) && (((0 : Int) == 0) && true)) : Value) = (bV true : Value), true = true]) (Ac (ad _ _) (Ac (ad _ _) (Ac (by simp) (Ao rfl)))) ?_
       clear hf; intro a hf
       refine sxcallg hf rfl rfl rfl rfl rfl (g := 11) (vs := [.iface 115 (.pointer (some (E 4)))]) (ob := []) (by as_aux_lemma => kernel_rfl) An enters11 (num_err E 4 w31  (by decide) (hG.keep hk0 (fun _ h => h))) ?_
       clear hf; rintro _ w32 a ⟨rfl, hk⟩ hf
       have hO := hO.keepNn hk
       have hM := hM.keepNn hk
       have hk0 := hk0.trans hk.nn
       clear hk
       refine q0 hf hM [] [{}, {}, {}] (nw := [(6, eB true)]) (ob := [true = true]) (Ao rfl) ?_
       clear hf; intro a hf
       refine wpList_nil ?_
       refine hK31 _ _ ?_
       refine wp_ret ?_
       refine qr (fn := Tryd.f3) hf hM [] (l := [bV true]) (ob := []) An ?_
       show (bV true : Value) = .bool true ∧ Keep Nn w w32
       refine ⟨congrArg Value.bool ?_, hk0⟩
       first | rfl | (simp; done) | (simp_all; done)
     · have hs5 := hs5r
       refine sxcall hf rfl rfl rfl rfl (g := 8) (vs := [.slice a'1 l.length (l.length + 4), .slice a'2 m.length (m.length + 4)]) (ob := []) (by as_aux_lemma => kernel_rfl) An enters8 (qof_n1 E a'1 l (l.length + 4) a'2 m (m.length + 4) w3 hs1r (Arr.roomf (l := l) (m := ([-91, -92, -93, -94] : List Int)) (own_arr (hO.own _ (List.Mem.tail _ (List.Mem.head _)))) (fun _ => rfl) (by simp)) (by first | omega | (simp; omega) | (simp; done) | exact Nat.le_trans (byKinds_len _ _) (by omega) | decide) (Arr.roomf (l := m) (m := ([-91, -92, -93, -94] : List Int)) (own_arr (hO.own _ (List.Mem.head _))) (fun _ => rfl) (by simp)) (by first | omega | (simp; omega) | (simp; done) | exact Nat.le_trans (byKinds_len _ _) (by omega) | decide) (hG.keep hk0 (fun _ h => h))) ?_
       clear hf; rintro _ w33 a ⟨rfl, hk⟩ hf
       have hO := hO.keepNn hk
       have hM := hM.keepNn hk
       have hk0 := hk0.trans hk.nn
       clear hk
       refine q1 hf hM [8, 7, 0, 1, 2] [{}, {}, {}, { os := [.nw] }, { os := [.st 0 0, .st 0 1] }, {}] (nw := fun B63 => [(10, .val (.iface 115 (.pointer (some (E 4))))), (9, eP B63 0)]) (M' := fun B63 => [⟨B63, 29, [uV 0, uV 0]⟩]) (ob := fun B63 => [Ad B63 0, Ad B63 1]) (fun B63 => (Ac (ad _ _) (Ao (ad _ _)))) ?_
       clear hf hM; intro a w34 B63 hf hM hB hk
       have hbB63 : w.heap.size ≤ B63 := by have := hk0.size; omega
       have hk0 := hk0.then hk (by intro i _ h; cases h)
       have hO := hO.step hM (hk.mono (by intro _ _ h; cases h)) (by intro i h; simp only [Mem.names, List.map_cons, List.map_nil, List.mem_cons, List.not_mem_nil, or_false, List.map_append, List.cons_append, List.nil_append] at h ⊢; omega)
       clear hk hB
       refine wpList_nil ?_
       refine hK8 _ _ ?_
       refine wp_seq_k (fun K32 hK32 => ?_)
       refine wp_region_lit ?_
       refine q0 hf hM [10, 9, 8, 7, 0, 1, 2] [{}] (nw := [(41, eS av l.length c)]) An ?_
       clear hf; intro a hf
       refine sxcall hf rfl rfl rfl rfl (g := 9) (vs := [.slice av l.length c]) (ob := []) (by as_aux_lemma => kernel_rfl) An enters9 (r9mask_no av l c w34 hs1r (hav.keepNn hk0) (by first | omega | (simp; omega) | (simp; done) | exact Nat.le_trans (byKinds_len _ _) (by omega) | decide)) ?_
       clear hf; rintro _ w35 a ⟨rfl, hk⟩ hf
       have hO := hO.keepNn hk
       have hM := hM.keepNn hk
       have hk0 := hk0.trans hk.nn
       clear hk
       refine q0 hf hM [10, 9, 8, 7, 0, 1, 2] [{}, {}, {}, {}, {}] (nw := [(12, eB false), (11, eU 0)]) An ?_
       clear hf; intro a hf
       refine wpList_nil ?_
       refine hK32 _ _ ?_
       refine wp_seq_k (fun K33 hK33 => ?_)
       refine wp_region_lit ?_
       refine q0 hf hM [12, 11, 10, 9, 8, 7, 0, 1, 2] [{}] (nw := [(46, eS bv m.length cm)]) An ?_
       clear hf; intro a hf
       refine sxcall hf rfl rfl rfl rfl (g := 9) (vs := [.slice bv m.length cm]) (ob := []) (by as_aux_lemma => kernel_rfl) An enters9 (r9mask_no bv m cm w35 hs5r (hbv.keepNn hk0) (by first | omega | (simp; omega) | (simp; done) | exact Nat.le_trans (byKinds_len _ _) (by omega) | decide)) ?_
       clear hf; rintro _ w36 a ⟨rfl, hk⟩ hf
       have hO := hO.keepNn hk
       have hM := hM.keepNn hk
       have hk0 := hk0.trans hk.nn
       clear hk
       refine q0 hf hM [12, 11, 10, 9, 8, 7, 0, 1, 2] [{}, {}, {}, {}, {}] (nw := [(14, eB false), (13, eU 0)]) An ?_
       clear hf; intro a hf
       refine wpList_nil ?_
       refine hK33 _ _ ?_
       refine wp_seq_k (fun K34 hK34 => ?_)
       refine wp_seq_k (fun K35 hK35 => ?_)
       refine wp_region_lit ?_
       refine q0 hf hM [14, 13, 12, 11, 10, 9, 8, 1, 2] [{}, {}] (nw := [(51, eS av l.length c), (50, eS a'1 l.length (l.length + 4))]) An ?_
       clear hf; intro a hf
       refine sxcall hf rfl rfl rfl rfl (g := 10) (vs := [.slice a'1 l.length (l.length + 4), .slice av l.length c]) (ob := []) (by as_aux_lemma => kernel_rfl) An enters10 (keptInts a'1 l c av c w36  (own_arr (hO.own _ (List.Mem.tail _ (List.Mem.head _)))) (hav.keepNn hk0) (by first | omega | (simp; omega) | (simp; done) | exact Nat.le_trans (byKinds_len _ _) (by omega) | decide)) ?_
       clear hf; rintro _ w37 a ⟨rfl, hk⟩ hf
       have hO := hO.keepNn hk
       have hM := hM.keepNn hk
       have hk0 := hk0.trans hk.nn
       clear hk
       refine q0 hf hM [14, 13, 12, 11, 10, 9, 2] [{}, {}, {}, {}] (nw := [(56, eS bv m.length cm), (55, eS a'2 m.length (m.length + 4)), (54, eB false)]) (ob := [false = false, false = false]) (Ac rfl (Ao rfl)) ?_
       clear hf; intro a hf
       refine sxcallg hf rfl rfl rfl rfl rfl (g := 10) (vs := [.slice a'2 m.length (m.length + 4), .slice bv m.length cm]) (ob := []) (by as_aux_lemma => kernel_rfl) An enters10 (keptInts a'2 m c bv cm w37  (own_arr (hO.own _ (List.Mem.head _))) (hbv.keepNn hk0) (by first | omega | (simp; omega) | (simp; done) | exact Nat.le_trans (byKinds_len _ _) (by omega) | decide)) ?_
       clear hf; rintro _ w38 a ⟨rfl, hk⟩ hf
       have hO := hO.keepNn hk
       have hM := hM.keepNn hk
       have hk0 := hk0.trans hk.nn
       clear hk
       refine q0 hf hM [14, 13, 12, 11, 10, 9, 2] [{}, {}] (nw := [(59, eB false)]) (ob := [false = false]) (Ao rfl) ?_
       clear hf; intro a hf
       refine wpList_nil ?_
       refine hK35 _ _ ?_
       refine sxcond hf (b := false) (by kernel_rfl) (fun h => by cases h) (fun _ => ?_)
       refine wp_skip ?_
       refine hK34 _ _ ?_
       refine wp_seq_k (fun K36 hK36 => ?_)
       refine wp_seq_k (fun K37 hK37 => ?_)
       refine wp_region_lit ?_
       refine q0 hf hM [13, 11, 10, 9, 2] [{}, {}, {}, { g := .off }, { g := .off }, {}] (nw := [(65, eB true)]) (ob := [true = !false, true = !false]) (Ac rfl (Ao rfl)) ?_
       clear hf; intro a hf
       refine wpList_nil ?_
       refine hK37 _ _ ?_
       refine sxcond hf (b := true) (by kernel_rfl) (fun _ => ?_) (fun h => by cases h)
       refine wp_seq_k (fun K38 hK38 => ?_)
       refine wp_region_lit ?_
       refine q0 hf hM [] [{ os := [.ld 0 0, .ld 0 1] }, { sp := true }, { sp := true, hint := some (bV true) }, {}, {}] (nw := [(70, .val (.iface 115 (.pointer (some (E 4))))), (69, eB true)]) (ob := [Ad B63 0, Ad B63 1, (bV (((0 : Int) == 0) && (((0 : Int) == 0) && true)) : Value) = (bV true : Value), true = true]) (Ac (ad _ _) (Ac (ad _ _) (Ac (by simp) (Ao rfl)))) ?_
       clear hf; intro a hf
       refine sxcallg hf rfl rfl rfl rfl rfl (g := 11) (vs := [.iface 115 (.pointer (some (E 4)))]) (ob := []) (by as_aux_lemma => kernel_rfl) An enters11 (num_err E 4 w38  (by decide) (hG.keep hk0 (fun _ h => h))) ?_
       clear hf; rintro _ w39 a ⟨rfl, hk⟩ hf
       have hO := hO.keepNn hk
       have hM := hM.keepNn hk
       have hk0 := hk0.trans hk.nn
       clear hk
       refine q0 hf hM [] [{}, {}, {}] (nw := [(6, eB true)]) (ob := [true = true]) (Ao rfl) ?_
       clear hf; intro a hf
       refine wpList_nil ?_
       refine hK38 _ _ ?_
       refine wp_ret ?_
       refine qr (fn := Tryd.f3) hf hM [] (l := [bV true]) (ob := []) An ?_
       show (bV true : Value) = .bool true ∧ Keep Nn w w39
       refine ⟨congrArg Value.bool ?_, hk0⟩
       first | rfl | (simp; done) | (simp_all; done)
end Go.Proofs.YtkcpadkllhgmdaaDoor
