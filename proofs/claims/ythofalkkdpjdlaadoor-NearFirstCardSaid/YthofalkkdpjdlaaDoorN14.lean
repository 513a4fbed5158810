/- layer 13: the law that so many nearest ones are the first ones of more -/
import Derived.Test.YthofalkkdpjdlaaDoorN13
namespace Go.Proofs.YthofalkkdpjdlaaDoor
open Go.Px
set_option linter.unusedVariables false
set_option linter.unusedSimpArgs false

set_option maxRecDepth 10000 in
set_option maxHeartbeats 1600000 in
theorem nearFirst_any (E : Nat → Addr) (av : Option Addr) (l : List B4) (c : Nat) (px py k : Int) (w : World) (hG : Errs [1, 3, 0] w 161 E) (hav : Arr w 4 av l.length c (flat fB4 l)) :
    Calls Tryd.prog 6 #[.slice av l.length c, .agg #[iV px, iV py], iV k] w (Ret fun v w' => v = .bool true ∧ Keep Nn w w') := by
 refine sxenter (n := 115) (args := [.slice av l.length c, .agg #[iV px, iV py], iV k]) Tryd.func6 rfl rfl rfl fun a hf => ?_
 replace hf : Fr 115 [(0, eS av l.length c), (1, .val (.agg #[iV px, iV py])), (2, eI k)] a := hf
 have hM : MemOk [] w := MemOk.nil w
 have hk0 : Keep Nn w w := Keep.refl _ _
 refine wp_seq_k (fun K1 hK1 => ?_)
 refine wp_region_lit ?_
 refine q1 hf hM [0, 2] [{ os := [.nw] }, {}] (nw := fun B1 => [(6, eB false), (4, eP B1 0)]) (M' := fun B1 => [⟨B1, 46, [iV px, iV py]⟩]) (ob := fun B1 => []) (fun B1 => An) ?_
 clear hf hM; intro a w1 B1 hf hM hB hk
 have hbB1 : w.heap.size ≤ B1 := by have := hk0.size; omega
 have hk0 := hk0.then hk (by intro i _ h; cases h)
 clear hk hB
 refine wpList_nil ?_
 refine hK1 _ _ ?_
 refine wp_seq_k (fun K2 hK2 => ?_)
 refine wp_seq_k (fun K3 hK3 => ?_)
 refine wp_region_lit ?_
 refine sxcall hf rfl rfl rfl rfl (g := 18) (vs := []) (ob := []) (by as_aux_lemma => kernel_rfl) An enters18 (alive13 E w1  (hG.keep hk0 (fun _ h => h))) ?_
 clear hf; rintro _ w2 a ⟨rfl, hk⟩ hf
 have hM := hM.keepNn hk
 have hk0 := hk0.trans hk.nn
 clear hk
 refine q0 hf hM [6, 4, 0, 2] [{}] (nw := [(18, eB false)]) An ?_
 clear hf; intro a hf
 refine wpList_nil ?_
 refine hK3 _ _ ?_
 refine sxcond hf (b := false) (by kernel_rfl) (fun h => by cases h) (fun _ => ?_)
 refine wp_skip ?_
 refine hK2 _ _ ?_
 refine wp_seq_k (fun K4 hK4 => ?_)
 refine wp_region_lit ?_
 refine q0 hf hM [6, 4, 2] [{}] (nw := [(20, eS av l.length c)]) An ?_
 clear hf; intro a hf
 rcases Bool.eq_false_or_eq_true (goodL l) with hs1r | hs1r
 · have hs1 := hs1r
   refine sxcall hf rfl rfl rfl rfl (g := 19) (vs := [.slice av l.length c]) (ob := []) (by as_aux_lemma => kernel_rfl) An enters19 (filled_ok E av l c w2 hs1r (hG.keep hk0 (fun _ h => h)) (hav.keepNn hk0)) ?_
   clear hf; rintro _ w3 a ⟨T1, Bl1, a'1, c'1, rfl, hk, hx1, hdb1⟩ hf
   have hO : OwnOk w.heap.size [⟨B1, 46, [iV px, iV py]⟩] [] w2 := OwnOk.nil hM
   have hO := hO.moreB hM hk (by have := hk0.size; omega) hx1 hdb1
   replace hO : OwnOk w.heap.size [⟨B1, 46, [iV px, iV py]⟩] [oAnd (oTree 72 68 T1 Bl1 (bsy l l.length)) (oS 85 6 (.slice a'1 (bsy l l.length).length c'1) (bsy l l.length).length (flat fBx (bsy l l.length)))] _ := hO
   have hM := hM.keepNn hk
   have hk0 := hk0.trans hk.nn
   have hO := hO.split
   clear hk
   refine q0 hf hM [6, 4, 2] [{}, {}, {}, {}, {}, {}, {}] (nw := [(9, eB true), (7, eP T1 0)]) An ?_
   clear hf; intro a hf
   refine wpList_nil ?_
   refine hK4 _ _ ?_
   refine wp_seq_k (fun K5 hK5 => ?_)
   refine wp_seq_k (fun K6 hK6 => ?_)
   have hgl := goodL_at hs1r; have hby := bsy_len l l.length
   refine wp_region_lit ?_
   refine q0 hf hM [7, 6, 4, 2] [{}, {}] (nw := [(26, eB false)]) An ?_
   clear hf; intro a hf
   refine wpList_nil ?_
   refine hK6 _ _ ?_
   refine sxcond hf (b := false) (by kernel_rfl) (fun h => by cases h) (fun _ => ?_)
   refine wp_skip ?_
   refine hK5 _ _ ?_
   refine wp_seq_k (fun K7 hK7 => ?_)
   refine wp_region_lit ?_
   refine q0 hf hM [7, 6, 4] [{}, {}, { sp := true }, { hint := some (iV (k70 k)) }, {}] (nw := [(2, eI (k70 k))]) (ob := [(70 : Int) ≠ 0, (iV (IntKind.i64.wrap (Int.tmod (IntKind.u64.wrap k) 70)) : Value) = (iV (k70 k) : Value)]) (Ac (by omega) (Ao rfl)) ?_
   clear hf; intro a hf
   refine wpList_nil ?_
   refine hK7 _ _ ?_
   refine wp_seq_k (fun K8 hK8 => ?_)
   have hkb := k70_bd k
   have hq1 : decide (k70 k < 0) = false := decide_eq_false (by omega)
   have hq2 : decide (k70 k + 1 < 0) = false := decide_eq_false (by omega)
   have hnd := bsy_nd l (n := l.length) (by omega)
   have hna := nearL_len (px := px) (py := py) (k := k70 k) hnd
   have hnb := nearL_len (px := px) (py := py) (k := k70 k + 1) hnd
   have hfm := first_more (px := px) (py := py) (k := k70 k) hnd hkb.1
   have hsf : sameL (nearL px py (k70 k) (bsy l l.length)) ((nearL px py (k70 k + 1) (bsy l l.length)).take (((nearL px py (k70 k) (bsy l l.length)).length : Int).toNat)) = true := by rw [Int.toNat_natCast, ← same_first hkb.1]; exact sameL_refl _
   have hfs : (firstOut (nearL px py (k70 k) (bsy l l.length)) (nearL px py (((bsy l l.length).length : Nat) : Int) (bsy l l.length))).isSome = decide (((nearL px py (k70 k + 1) (bsy l l.length)).length : Int) > ((nearL px py (k70 k) (bsy l l.length)).length : Int)) := by
     rw [hfm]
     split
     · exact (decide_eq_true (by omega)).symm
     · exact (decide_eq_false (by omega)).symm
   have hfh : (firstOut (nearL px py (k70 k) (bsy l l.length)) (nearL px py (((bsy l l.length).length : Nat) : Int) (bsy l l.length))).isSome = true → (firstOut (nearL px py (k70 k) (bsy l l.length)) (nearL px py (((bsy l l.length).length : Nat) : Int) (bsy l l.length))).getD ⟨0, 0⟩ = (nearL px py (k70 k + 1) (bsy l l.length)).getD ((nearL px py (k70 k) (bsy l l.length)).length : Int).toNat ⟨0, 0⟩ := fun h => by
     rw [hfs] at h
     have h1 := of_decide_eq_true h
     rw [hfm, if_pos (by omega), show ((nearL px py (k70 k) (bsy l l.length)).length : Int).toNat = (k70 k).toNat by omega]
     rfl
   refine wp_region_lit ?_
   refine q0 hf hM [2, 7, 6, 4] [{}, { os := [.ld 0 0, .ld 0 1] }, {}] (nw := [(34, eI (k70 k)), (33, .val (.agg #[iV px, iV py])), (32, eP T1 0)]) (ob := [Ad B1 0, Ad B1 1]) (Ac (ad _ _) (Ao (ad _ _))) ?_
   clear hf; intro a hf
   rcases Bool.eq_false_or_eq_true (ofOk px py 0 0) with hs2r | hs2r
   · have hs2 := hs2r
     refine sxcall hf rfl rfl rfl rfl (g := 22) (vs := [pV T1 0, .agg #[iV px, iV py], iV (k70 k)]) (ob := []) (by as_aux_lemma => kernel_rfl) An enters22 (nearest_ok E w.heap.size T1 Bl1 (bsy l l.length) px py (k70 k) w3 hs2r hq1 (hO.own _ (List.Mem.head _)) (by have := hk0.size; omega) (by first | omega | (simp; omega) | (simp; done) | (rw [bsy_len]; omega)) (by omega) (hG.keep hk0 (fun _ h => h))) ?_
     clear hf; rintro _ w4 a ⟨a'2, c'2, rfl, hk, hx2⟩ hf
     have hO := hO.more hM hk (by have := hk0.size; omega) hx2
     replace hO : OwnOk w.heap.size [⟨B1, 46, [iV px, iV py]⟩] [oS 39 2 (.slice a'2 ((nearL px py (k70 k) (bsy l l.length)).length) c'2) ((nearL px py (k70 k) (bsy l l.length)).length) (flat fH (nearL px py (k70 k) (bsy l l.length))), oTree 72 68 T1 Bl1 (bsy l l.length), oS 85 6 (.slice a'1 (bsy l l.length).length c'1) (bsy l l.length).length (flat fBx (bsy l l.length))] _ := hO
     have hM := hM.keepNn hk
     have hk0 := hk0.trans hk.nn
     clear hk
     refine q0 hf hM [2, 7, 6, 4] [{}, {}, {}, {}, {}] (nw := [(11, .val (.nilIface)), (10, eS a'2 ((nearL px py (k70 k) (bsy l l.length)).length) c'2)]) An ?_
     clear hf; intro a hf
     refine wpList_nil ?_
     refine hK8 _ _ ?_
     refine wp_seq_k (fun K9 hK9 => ?_)
     refine wp_region_lit ?_
     refine q0 hf hM [11, 10, 2, 7, 6, 4] [{}, { os := [.ld 0 0, .ld 0 1] }, {}, { hint := some (iV ((k70 k) + 1)) }] (nw := [(42, eI ((k70 k) + 1)), (40, .val (.agg #[iV px, iV py])), (39, eP T1 0)]) (ob := [Ad B1 0, Ad B1 1, (iV (IntKind.i64.wrap ((k70 k) + 1)) : Value) = (iV ((k70 k) + 1) : Value)]) (Ac (ad _ _) (Ac (ad _ _) (Ao (wr (by omega))))) ?_
     clear hf; intro a hf
     rcases Bool.eq_false_or_eq_true (decide ((((k70 k) + 1) : Int) < 0)) with hs3r | hs3r
     · have hs3 := (nT hs3r)
       refine sxcall hf rfl rfl rfl rfl (g := 22) (vs := [pV T1 0, .agg #[iV px, iV py], iV ((k70 k) + 1)]) (ob := []) (by as_aux_lemma => kernel_rfl) An enters22 (nearest_no2 E T1 px py ((k70 k) + 1) w4 hs2r hs3r (hG.keep hk0 (fun _ h => h))) ?_
       clear hf; rintro _ w5 a ⟨rfl, hk⟩ hf
       have hO := hO.keepNn hk
       have hM := hM.keepNn hk
       have hk0 := hk0.trans hk.nn
       clear hk
       refine q0 hf hM [11, 10, 2, 7, 6, 4] [{}, {}, {}, {}, {}] (nw := [(13, .val (.iface 161 (.pointer (some (E 1))))), (12, eS none 0 0)]) An ?_
       clear hf; intro a hf
       refine wpList_nil ?_
       refine hK9 _ _ ?_
       refine wp_seq_k (fun K10 hK10 => ?_)
       refine wp_seq_k (fun K11 hK11 => ?_)
       refine wp_region_lit ?_
       refine q0 hf hM [13, 12, 11, 10, 2, 7, 6, 4] [{}, {}, {}, {}, {}, {}] (nw := [(51, eB true)]) (ob := [false = false, false = false]) (Ac rfl (Ao rfl)) ?_
       clear hf; intro a hf
       refine wpList_nil ?_
       refine hK11 _ _ ?_
       refine sxcond hf (b := true) (by kernel_rfl) (fun _ => ?_) (fun h => by cases h)
       refine wp_seq_k (fun K12 hK12 => ?_)
       refine wp_region_lit ?_
       refine q0 hf hM [6] [{}, {}, {}, { g := .off }, { g := .off }, {}, {}] (nw := []) (ob := [false = !true, false = !true]) (Ac rfl (Ao rfl)) ?_
       clear hf; intro a hf
       refine wpList_nil ?_
       refine hK12 _ _ ?_
       refine wp_ret ?_
       refine qr (fn := Tryd.f6) hf hM [] (l := [bV false]) (ob := []) An ?_
       show (bV false : Value) = .bool true ∧ Keep Nn w w5
       refine ⟨congrArg Value.bool ?_, hk0⟩
       simp_all
     · have hs3 := (nU hs3r)
       refine sxcall hf rfl rfl rfl rfl (g := 22) (vs := [pV T1 0, .agg #[iV px, iV py], iV ((k70 k) + 1)]) (ob := []) (by as_aux_lemma => kernel_rfl) An enters22 (nearest_ok E w.heap.size T1 Bl1 (bsy l l.length) px py ((k70 k) + 1) w4 hs2r hs3r (hO.own _ (List.Mem.tail _ (List.Mem.head _))) (by have := hk0.size; omega) (by first | omega | (simp; omega) | (simp; done) | (rw [bsy_len]; omega)) (by omega) (hG.keep hk0 (fun _ h => h))) ?_
       clear hf; rintro _ w6 a ⟨a'3, c'3, rfl, hk, hx3⟩ hf
       have hO := hO.more hM hk (by have := hk0.size; omega) hx3
       replace hO : OwnOk w.heap.size [⟨B1, 46, [iV px, iV py]⟩] [oS 39 2 (.slice a'3 ((nearL px py ((k70 k) + 1) (bsy l l.length)).length) c'3) ((nearL px py ((k70 k) + 1) (bsy l l.length)).length) (flat fH (nearL px py ((k70 k) + 1) (bsy l l.length))), oS 39 2 (.slice a'2 ((nearL px py (k70 k) (bsy l l.length)).length) c'2) ((nearL px py (k70 k) (bsy l l.length)).length) (flat fH (nearL px py (k70 k) (bsy l l.length))), oTree 72 68 T1 Bl1 (bsy l l.length), oS 85 6 (.slice a'1 (bsy l l.length).length c'1) (bsy l l.length).length (flat fBx (bsy l l.length))] _ := hO
       have hM := hM.keepNn hk
       have hk0 := hk0.trans hk.nn
       clear hk
       refine q0 hf hM [11, 10, 2, 7, 6, 4] [{}, {}, {}, {}, {}] (nw := [(13, .val (.nilIface)), (12, eS a'3 ((nearL px py ((k70 k) + 1) (bsy l l.length)).length) c'3)]) An ?_
       clear hf; intro a hf
       refine wpList_nil ?_
       refine hK9 _ _ ?_
       refine wp_seq_k (fun K13 hK13 => ?_)
       refine wp_seq_k (fun K14 hK14 => ?_)
       refine wp_region_lit ?_
       refine q0 hf hM [13, 12, 11, 10, 2, 7, 6, 4] [{}, {}, {}, {}, {}, {}] (nw := [(51, eB false)]) (ob := [false = false, false = false]) (Ac rfl (Ao rfl)) ?_
       clear hf; intro a hf
       refine wpList_nil ?_
       refine hK14 _ _ ?_
       refine sxcond hf (b := false) (by kernel_rfl) (fun h => by cases h) (fun _ => ?_)
       refine wp_skip ?_
       refine hK13 _ _ ?_
       refine wp_seq_k (fun K15 hK15 => ?_)
       refine wp_seq_k (fun K16 hK16 => ?_)
       refine wp_region_lit ?_
       refine q0 hf hM [12, 10, 2, 7, 6, 4] [{}, {}, {}, {}] (nw := [(61, eP T1 0), (60, eI (k70 k)), (59, eI ((nearL px py (k70 k) (bsy l l.length)).length : Int))]) An ?_
       clear hf; intro a hf
       refine sxcall hf rfl rfl rfl rfl (g := 25) (vs := [pV T1 0]) (ob := []) (by as_aux_lemma => kernel_rfl) An enters25 (tlen w.heap.size T1 Bl1 (bsy l l.length) w6  (hO.own _ (List.Mem.tail _ (List.Mem.tail _ (List.Mem.head _)))) (by have := hk0.size; omega) (by first | omega | (simp; omega) | (simp; done) | (rw [bsy_len]; omega))) ?_
       clear hf; rintro _ w7 a ⟨rfl, hk⟩ hf
       have hO := hO.keepNn hk
       have hM := hM.keepNn hk
       have hk0 := hk0.trans hk.nn
       clear hk
       refine q0 hf hM [12, 10, 7, 6, 4] [{}, { hint := some (bV false) }, {}, {}, {}, {}, { hint := some (iV ((k70 k) + 1)) }, {}] (nw := [(70, eP T1 0), (69, eI ((k70 k) + 1)), (67, eI (((nearL px py ((k70 k) + 1) (bsy l l.length)).length : Nat) : Int)), (65, eB false)]) (ob := [(bV ((((nearL px py (k70 k) (bsy l l.length)).length : Int) : Int) != (if (((bsy l l.length).length : Nat) : Int) < k70 k then (((bsy l l.length).length : Nat) : Int) else k70 k)) : Value) = (bV false : Value), false = false, false = false, false = false, false = false, (iV (IntKind.i64.wrap ((k70 k) + 1)) : Value) = (iV ((k70 k) + 1) : Value), false = false]) (Ac (congrArg Value.bool (by first | (rw [bne_eq_false_iff_eq]; split <;> omega) | (rw [Bool.not_eq_false', beq_iff_eq]; split <;> omega))) (Ac rfl (Ac rfl (Ac rfl (Ac rfl (Ac (wr (by omega)) (Ao rfl))))))) ?_
       clear hf; intro a hf
       refine sxcallg hf rfl rfl rfl rfl rfl (g := 25) (vs := [pV T1 0]) (ob := []) (by as_aux_lemma => kernel_rfl) An enters25 (tlen w.heap.size T1 Bl1 (bsy l l.length) w7  (hO.own _ (List.Mem.tail _ (List.Mem.tail _ (List.Mem.head _)))) (by have := hk0.size; omega) (by first | omega | (simp; omega) | (simp; done) | (rw [bsy_len]; omega))) ?_
       clear hf; rintro _ w8 a ⟨rfl, hk⟩ hf
       have hO := hO.keepNn hk
       have hM := hM.keepNn hk
       have hk0 := hk0.trans hk.nn
       clear hk
       refine q0 hf hM [12, 10, 7, 6, 4] [{}, { hint := some (bV false) }, {}] (nw := [(74, eB false)]) (ob := [false = false, false = false, (bV (((((nearL px py ((k70 k) + 1) (bsy l l.length)).length : Nat) : Int) : Int) != (if (((bsy l l.length).length : Nat) : Int) < (k70 k) + 1 then (((bsy l l.length).length : Nat) : Int) else (k70 k) + 1)) : Value) = (bV false : Value)]) (Ac rfl (Ac rfl (Ao (congrArg Value.bool (by first | (rw [bne_eq_false_iff_eq]; split <;> omega) | (rw [Bool.not_eq_false', beq_iff_eq]; split <;> omega)))))) ?_
       clear hf; intro a hf
       refine wpList_nil ?_
       refine hK16 _ _ ?_
       refine sxcond hf (b := false) (by kernel_rfl) (fun h => by cases h) (fun _ => ?_)
       refine wp_skip ?_
       refine hK15 _ _ ?_
       refine wp_seq_k (fun K17 hK17 => ?_)
       refine wp_region_lit ?_
       refine q0 hf hM [12, 10, 6] [{}, { os := [.ld 0 0, .ld 0 1] }, {}] (nw := [(78, eS a'2 ((nearL px py (k70 k) (bsy l l.length)).length) c'2), (77, .val (.agg #[iV px, iV py])), (76, eP T1 0)]) (ob := [Ad B1 0, Ad B1 1]) (Ac (ad _ _) (Ao (ad _ _))) ?_
       clear hf; intro a hf
       refine sxcall hf rfl rfl rfl rfl (g := 26) (vs := [pV T1 0, .agg #[iV px, iV py], .slice a'2 ((nearL px py (k70 k) (bsy l l.length)).length) c'2]) (ob := []) (by as_aux_lemma => kernel_rfl) An enters26 (closest_ok E w.heap.size T1 Bl1 (bsy l l.length) px py a'2 (nearL px py (k70 k) (bsy l l.length)) c'2 w8 hs2r (hO.own _ (List.Mem.tail _ (List.Mem.tail _ (List.Mem.head _)))) (by have := hk0.size; omega) (by first | omega | (simp; omega) | (simp; done) | (rw [bsy_len]; omega)) (own_arr (hO.own _ (List.Mem.tail _ (List.Mem.head _)))) (by first | omega | (simp; omega) | (simp; done) | exact Nat.le_trans (byKinds_len _ _) (by omega) | decide) (hG.keep hk0 (fun _ h => h))) ?_
       clear hf; rintro _ w9 a ⟨rfl, hk⟩ hf
       have hO := hO.keepNn hk
       have hM := hM.keepNn hk
       have hk0 := hk0.trans hk.nn
       clear hk
       refine q1 hf hM [12, 10, 6] [{}, {}, {}, {}, { os := [.nw] }, { os := [.st 1 0, .st 1 1] }, {}, {}] (nw := fun B19 => [(16, .val (.nilIface)), (15, eB ((firstOut (nearL px py (k70 k) (bsy l l.length)) (nearL px py (((bsy l l.length).length : Nat) : Int) (bsy l l.length))).isSome)), (14, eP B19 0)]) (M' := fun B19 => [⟨B1, 46, [iV px, iV py]⟩, ⟨B19, 39, [iV (((firstOut (nearL px py (k70 k) (bsy l l.length)) (nearL px py (((bsy l l.length).length : Nat) : Int) (bsy l l.length))).getD ⟨0, 0⟩).i), iV (((firstOut (nearL px py (k70 k) (bsy l l.length)) (nearL px py (((bsy l l.length).length : Nat) : Int) (bsy l l.length))).getD ⟨0, 0⟩).g)]⟩]) (ob := fun B19 => [Ad B19 0, Ad B19 1]) (fun B19 => (Ac (ad _ _) (Ao (ad _ _)))) ?_
       clear hf hM; intro a w10 B19 hf hM hB hk
       have hbB19 : w.heap.size ≤ B19 := by have := hk0.size; omega
       have hk0 := hk0.thenNew hk (by simp [Mem.names] <;> omega)
       have hO := hO.step hM hk (by intro i h; simp only [Mem.names, List.map_cons, List.map_nil, List.mem_cons, List.not_mem_nil, or_false, List.map_append, List.cons_append, List.nil_append] at h ⊢; omega)
       clear hk hB
       refine wpList_nil ?_
       refine hK17 _ _ ?_
       refine wp_seq_k (fun K18 hK18 => ?_)
       replace hM := hM.drew; replace hk0 := hk0.drew; replace hO := hO.drew
       obtain ⟨Cq1, hCq1i, hCq1e⟩ := qcls fun w' => MemOk [⟨B1, 46, [iV px, iV py]⟩, ⟨B19, 39, [iV (((firstOut (nearL px py (k70 k) (bsy l l.length)) (nearL px py (((bsy l l.length).length : Nat) : Int) (bsy l l.length))).getD ⟨0, 0⟩).i), iV (((firstOut (nearL px py (k70 k) (bsy l l.length)) (nearL px py (((bsy l l.length).length : Nat) : Int) (bsy l l.length))).getD ⟨0, 0⟩).g)]⟩] w' ∧ Keep Nn w w' ∧ OwnOk w.heap.size [⟨B1, 46, [iV px, iV py]⟩, ⟨B19, 39, [iV (((firstOut (nearL px py (k70 k) (bsy l l.length)) (nearL px py (((bsy l l.length).length : Nat) : Int) (bsy l l.length))).getD ⟨0, 0⟩).i), iV (((firstOut (nearL px py (k70 k) (bsy l l.length)) (nearL px py (((bsy l l.length).length : Nat) : Int) (bsy l l.length))).getD ⟨0, 0⟩).g)]⟩] [oS 39 2 (.slice a'3 ((nearL px py ((k70 k) + 1) (bsy l l.length)).length) c'3) ((nearL px py ((k70 k) + 1) (bsy l l.length)).length) (flat fH (nearL px py ((k70 k) + 1) (bsy l l.length))), oS 39 2 (.slice a'2 ((nearL px py (k70 k) (bsy l l.length)).length) c'2) ((nearL px py (k70 k) (bsy l l.length)).length) (flat fH (nearL px py (k70 k) (bsy l l.length))), oTree 72 68 T1 Bl1 (bsy l l.length), oS 85 6 (.slice a'1 (bsy l l.length).length c'1) (bsy l l.length).length (flat fBx (bsy l l.length))] w'
       refine sxdraw (C := Cq1) (.leaf [(0, true), (1, true), (2, true), (3, true), (4, true), (5, true), (6, true), (7, true), (8, false), (9, true), (10, true), (11, true), (12, true), (13, true), (14, true), (15, true), (16, true), (17, true), (18, true), (19, true), (20, true), (21, true), (22, true), (23, true), (24, true), (25, true), (26, true), (27, true), (28, true), (29, true), (30, true), (31, true), (32, true)]) (by kernel_rfl) (by kernel_rfl) (by as_aux_lemma => kernel_rfl) rfl (by as_aux_lemma => kernel_rfl) (by kernel_rfl) (hCq1i _ ⟨hM.sub (.cons_cons _ (.cons_cons _ .slnil)), hk0, hO.sub (.cons_cons _ (.cons_cons _ .slnil)) (.cons_cons _ (.cons_cons _ (.cons_cons _ (.cons_cons _ .slnil))))⟩) ?_
       refine sxleaf ?_
       have hC := (hCq1i _ ⟨hM.sub (.cons_cons _ (.cons_cons _ .slnil)), hk0, hO.sub (.cons_cons _ (.cons_cons _ .slnil)) (.cons_cons _ (.cons_cons _ (.cons_cons _ (.cons_cons _ .slnil))))⟩)
       refine qd hf hC (fun w' h => (hCq1e w' h).1) [15, 14, 12, 10, 6] [{}, {}, {}, {}, {}, {}, {}, { sp := true, hint := some (.slice a'3 (((nearL px py ((k70 k) + 1) (bsy l l.length)).take (((nearL px py (k70 k) (bsy l l.length)).length : Int).toNat)).length) c'3) }] (nw := [(90, eS a'3 (((nearL px py ((k70 k) + 1) (bsy l l.length)).take (((nearL px py (k70 k) (bsy l l.length)).length : Int).toNat)).length) c'3), (86, eS a'2 ((nearL px py (k70 k) (bsy l l.length)).length) c'2), (85, eB true)]) (ob := [true = true, true = true, true = true, true = true, true = true, 0 ≤ (((nearL px py (k70 k) (bsy l l.length)).length : Int) : Int) ∧ (((nearL px py (k70 k) (bsy l l.length)).length : Int) : Int) ≤ ((c'3 : Nat) : Int), (.slice a'3 (((nearL px py (k70 k) (bsy l l.length)).length : Int) : Int).toNat c'3 : Value) = (.slice a'3 (((nearL px py ((k70 k) + 1) (bsy l l.length)).take (((nearL px py (k70 k) (bsy l l.length)).length : Int).toNat)).length) c'3 : Value)]) (Ac rfl (Ac rfl (Ac rfl (Ac rfl (Ac rfl (Ac (by have := ((own_arr (hO.own _ (List.Mem.head _)))).le; omega) (Ao (by first | rfl | (simp; done) | (simp; omega))))))))) ?_
       clear hf; intro a hf
       refine scstep rfl ?_
       refine sxcallg hf rfl rfl rfl rfl rfl (g := 24) (vs := [.slice a'2 ((nearL px py (k70 k) (bsy l l.length)).length) c'2, .slice a'3 (((nearL px py ((k70 k) + 1) (bsy l l.length)).take (((nearL px py (k70 k) (bsy l l.length)).length : Int).toNat)).length) c'3]) (ob := []) (by as_aux_lemma => kernel_rfl) An enters24 (rsameH a'2 (nearL px py (k70 k) (bsy l l.length)) c'2 a'3 ((nearL px py ((k70 k) + 1) (bsy l l.length)).take (((nearL px py (k70 k) (bsy l l.length)).length : Int).toNat)) c'3 w10.drew  (own_arr (hO.own _ (List.Mem.tail _ (List.Mem.head _)))) (by first | omega | (simp; omega) | (simp; done) | exact Nat.le_trans (byKinds_len _ _) (by omega) | decide) (Arr.takef (m := ((nearL px py (k70 k) (bsy l l.length)).length : Int).toNat) (l := (nearL px py ((k70 k) + 1) (bsy l l.length))) (own_arr (hO.own _ (List.Mem.head _))) (fun _ => rfl) (by first | rfl | (simp; done) | omega) (by omega)) (by first | omega | (simp; omega) | (simp; done) | exact Nat.le_trans (byKinds_len _ _) (by omega) | decide)) ?_
       clear hf; rintro _ w11 a ⟨rfl, hk⟩ hf
       have hO := hO.keepNn hk
       have hM := hM.keepNn hk
       have hk0 := hk0.trans hk.nn
       clear hk
       have hC := (hCq1i _ ⟨hM.sub (.cons_cons _ (.cons_cons _ .slnil)), hk0, hO.sub (.cons_cons _ (.cons_cons _ .slnil)) (.cons_cons _ (.cons_cons _ (.cons_cons _ (.cons_cons _ .slnil))))⟩)
       refine scdone hC ?_
       refine qd hf hC (fun w' h => (hCq1e w' h).1) [15, 14, 12, 10, 6] [{}, {}, { g := .sym }, { g := .sym }, { g := .sym }, { g := .sym }, { g := .sym }, { g := .sym }, { g := .sym, hint := some (bV true) }, { hint := some (bV (sameL (nearL px py (k70 k) (bsy l l.length)) ((nearL px py ((k70 k) + 1) (bsy l l.length)).take (((nearL px py (k70 k) (bsy l l.length)).length : Int).toNat)))) }, {}] (nw := [(102, eB (sameL (nearL px py (k70 k) (bsy l l.length)) ((nearL px py ((k70 k) + 1) (bsy l l.length)).take (((nearL px py (k70 k) (bsy l l.length)).length : Int).toNat))))]) (ob := [((sameL (nearL px py (k70 k) (bsy l l.length)) ((nearL px py ((k70 k) + 1) (bsy l l.length)).take (((nearL px py (k70 k) (bsy l l.length)).length : Int).toNat))) = true → (sameL (nearL px py (k70 k) (bsy l l.length)) ((nearL px py ((k70 k) + 1) (bsy l l.length)).take (((nearL px py (k70 k) (bsy l l.length)).length : Int).toNat))) = (sameL (nearL px py (k70 k) (bsy l l.length)) ((nearL px py ((k70 k) + 1) (bsy l l.length)).take (((nearL px py (k70 k) (bsy l l.length)).length : Int).toNat)))), ((sameL (nearL px py (k70 k) (bsy l l.length)) ((nearL px py ((k70 k) + 1) (bsy l l.length)).take (((nearL px py (k70 k) (bsy l l.length)).length : Int).toNat))) = true → (sameL (nearL px py (k70 k) (bsy l l.length)) ((nearL px py ((k70 k) + 1) (bsy l l.length)).take (((nearL px py (k70 k) (bsy l l.length)).length : Int).toNat))) = (sameL (nearL px py (k70 k) (bsy l l.length)) ((nearL px py ((k70 k) + 1) (bsy l l.length)).take (((nearL px py (k70 k) (bsy l l.length)).length : Int).toNat)))), ((sameL (nearL px py (k70 k) (bsy l l.length)) ((nearL px py ((k70 k) + 1) (bsy l l.length)).take (((nearL px py (k70 k) (bsy l l.length)).length : Int).toNat))) = true → (sameL (nearL px py (k70 k) (bsy l l.length)) ((nearL px py ((k70 k) + 1) (bsy l l.length)).take (((nearL px py (k70 k) (bsy l l.length)).length : Int).toNat))) = (sameL (nearL px py (k70 k) (bsy l l.length)) ((nearL px py ((k70 k) + 1) (bsy l l.length)).take (((nearL px py (k70 k) (bsy l l.length)).length : Int).toNat)))), ((sameL (nearL px py (k70 k) (bsy l l.length)) ((nearL px py ((k70 k) + 1) (bsy l l.length)).take (((nearL px py (k70 k) (bsy l l.length)).length : Int).toNat))) = true → (sameL (nearL px py (k70 k) (bsy l l.length)) ((nearL px py ((k70 k) + 1) (bsy l l.length)).take (((nearL px py (k70 k) (bsy l l.length)).length : Int).toNat))) = (sameL (nearL px py (k70 k) (bsy l l.length)) ((nearL px py ((k70 k) + 1) (bsy l l.length)).take (((nearL px py (k70 k) (bsy l l.length)).length : Int).toNat)))), ((sameL (nearL px py (k70 k) (bsy l l.length)) ((nearL px py ((k70 k) + 1) (bsy l l.length)).take (((nearL px py (k70 k) (bsy l l.length)).length : Int).toNat))) = true → (sameL (nearL px py (k70 k) (bsy l l.length)) ((nearL px py ((k70 k) + 1) (bsy l l.length)).take (((nearL px py (k70 k) (bsy l l.length)).length : Int).toNat))) = (sameL (nearL px py (k70 k) (bsy l l.length)) ((nearL px py ((k70 k) + 1) (bsy l l.length)).take (((nearL px py (k70 k) (bsy l l.length)).length : Int).toNat)))), ((sameL (nearL px py (k70 k) (bsy l l.length)) ((nearL px py ((k70 k) + 1) (bsy l l.length)).take (((nearL px py (k70 k) (bsy l l.length)).length : Int).toNat))) = true → (sameL (nearL px py (k70 k) (bsy l l.length)) ((nearL px py ((k70 k) + 1) (bsy l l.length)).take (((nearL px py (k70 k) (bsy l l.length)).length : Int).toNat))) = (sameL (nearL px py (k70 k) (bsy l l.length)) ((nearL px py ((k70 k) + 1) (bsy l l.length)).take (((nearL px py (k70 k) (bsy l l.length)).length : Int).toNat)))), ((sameL (nearL px py (k70 k) (bsy l l.length)) ((nearL px py ((k70 k) + 1) (bsy l l.length)).take (((nearL px py (k70 k) (bsy l l.length)).length : Int).toNat))) = true → (bV (((firstOut (nearL px py (k70 k) (bsy l l.length)) (nearL px py (((bsy l l.length).length : Nat) : Int) (bsy l l.length))).isSome) == (decide (((((nearL px py ((k70 k) + 1) (bsy l l.length)).length : Nat) : Int) : Int) > ((nearL px py (k70 k) (bsy l l.length)).length : Int)))) : Value) = (bV true : Value)), ((sameL (nearL px py (k70 k) (bsy l l.length)) ((nearL px py ((k70 k) + 1) (bsy l l.length)).take (((nearL px py (k70 k) (bsy l l.length)).length : Int).toNat))) = true → (sameL (nearL px py (k70 k) (bsy l l.length)) ((nearL px py ((k70 k) + 1) (bsy l l.length)).take (((nearL px py (k70 k) (bsy l l.length)).length : Int).toNat))) = (sameL (nearL px py (k70 k) (bsy l l.length)) ((nearL px py ((k70 k) + 1) (bsy l l.length)).take (((nearL px py (k70 k) (bsy l l.length)).length : Int).toNat)))), (bif sameL (nearL px py (k70 k) (bsy l l.length)) ((nearL px py ((k70 k) + 1) (bsy l l.length)).take (((nearL px py (k70 k) (bsy l l.length)).length : Int).toNat)) then (bV true : Value) else bV false) = bV (sameL (nearL px py (k70 k) (bsy l l.length)) ((nearL px py ((k70 k) + 1) (bsy l l.length)).take (((nearL px py (k70 k) (bsy l l.length)).length : Int).toNat)))]) (Ac (fun hgd => rfl) (Ac (fun hgd => rfl) (Ac (fun hgd => rfl) (Ac (fun hgd => rfl) (Ac (fun hgd => rfl) (Ac (fun hgd => rfl) (Ac (fun hgd => (congrArg Value.bool (by rw [hfs]; exact beq_self_eq_true _))) (Ac (fun _ => rfl) (Ao (pick_id _)))))))))) ?_
       clear hf; intro a hf
       rcases Bool.eq_false_or_eq_true (sameL (nearL px py (k70 k) (bsy l l.length)) ((nearL px py ((k70 k) + 1) (bsy l l.length)).take (((nearL px py (k70 k) (bsy l l.length)).length : Int).toNat))) with hg1r | hg1r
       · have hg1 := hg1r
         have hf := hf.setb 102 hg1r
         refine qd hf hC (fun w' h => (hCq1e w' h).1) [102, 14, 12, 10, 6] [{}, {}, {}] (nw := [(105, eB (!((firstOut (nearL px py (k70 k) (bsy l l.length)) (nearL px py (((bsy l l.length).length : Nat) : Int) (bsy l l.length))).isSome)))]) (ob := [true = true, true = true, true = true]) (Ac rfl (Ac rfl (Ao rfl))) ?_
         clear hf; intro a hf
         rcases Bool.eq_false_or_eq_true (!((firstOut (nearL px py (k70 k) (bsy l l.length)) (nearL px py (((bsy l l.length).length : Nat) : Int) (bsy l l.length))).isSome)) with hg2r | hg2r
         · have hg2 := hg2r
           try simp only [Bool.or_eq_true, Bool.and_eq_true, Bool.not_eq_true', Bool.not_eq_false', Bool.or_eq_false_iff, Bool.and_eq_false_iff, decide_eq_true_eq, decide_eq_false_iff_not, beq_iff_eq, bne_iff_ne, beq_eq_false_iff_ne, bne_eq_false_iff_eq, Bool.and_true, Bool.true_and, ne_eq] at hg2
           have hf := hf.setb 105 hg2r
           refine qd hf hC (fun w' h => (hCq1e w' h).1) [] [{ g := .off }, { g := .off }, { g := .off }, { g := .off }, { g := .off }, { g := .off }, { g := .off }, {}, {}, {}] (nw := [(6, eB true)]) (ob := [true = !false, true = !false, true = !false, true = !false, true = !false, true = !false, true = !false, true = true]) (Ac rfl (Ac rfl (Ac rfl (Ac rfl (Ac rfl (Ac rfl (Ac rfl (Ao rfl)))))))) ?_
           clear hf; intro a hf
           clear hC
           show K18 _ _
           refine hK18 _ _ ?_
           refine wp_ret ?_
           refine qr (fn := Tryd.f6) hf hM [] (l := [bV true]) (ob := []) An ?_
           show (bV true : Value) = .bool true ∧ Keep Nn w w11
           exact ⟨rfl, hk0⟩
         · have hg2 := hg2r
           try simp only [Bool.or_eq_true, Bool.and_eq_true, Bool.not_eq_true', Bool.not_eq_false', Bool.or_eq_false_iff, Bool.and_eq_false_iff, decide_eq_true_eq, decide_eq_false_iff_not, beq_iff_eq, bne_iff_ne, beq_eq_false_iff_ne, bne_eq_false_iff_eq, Bool.and_true, Bool.true_and, ne_eq] at hg2
           have hf := hf.setb 105 hg2r
           refine qd hf hC (fun w' h => (hCq1e w' h).1) [] [{ os := [.ld 1 0, .ld 1 1] }, {}, {}, {}, { sp := true }, { os := [.ex (iV (((nearL px py ((k70 k) + 1) (bsy l l.length)).getD ((nearL px py (k70 k) (bsy l l.length)).length : Int).toNat ⟨0, 0⟩).i)), .ex (iV (((nearL px py ((k70 k) + 1) (bsy l l.length)).getD ((nearL px py (k70 k) (bsy l l.length)).length : Int).toNat ⟨0, 0⟩).g))] }, { sp := true, hint := some (bV true) }, {}, {}, {}] (nw := [(6, eB true)]) (ob := [false = false, Ad B19 0, Ad B19 1, false = false, false = false, false = false, false = false, (0 : Int) ≤ ((nearL px py (k70 k) (bsy l l.length)).length : Int) ∧ ((nearL px py (k70 k) (bsy l l.length)).length : Int) < (((nearL px py ((k70 k) + 1) (bsy l l.length)).length : Nat) : Int), (a'3 : Option Addr).isSome = true, false = false, (∀ w', Cq1 w' → w'.cell? (((sa a'3 : Addr).add (((nearL px py (k70 k) (bsy l l.length)).length : Int).toNat * 2)).add 0) = some (iV (((nearL px py ((k70 k) + 1) (bsy l l.length)).getD ((nearL px py (k70 k) (bsy l l.length)).length : Int).toNat ⟨0, 0⟩).i))), (∀ w', Cq1 w' → w'.cell? (((sa a'3 : Addr).add (((nearL px py (k70 k) (bsy l l.length)).length : Int).toNat * 2)).add 1) = some (iV (((nearL px py ((k70 k) + 1) (bsy l l.length)).getD ((nearL px py (k70 k) (bsy l l.length)).length : Int).toNat ⟨0, 0⟩).g))), false = false, (bV ((((((firstOut (nearL px py (k70 k) (bsy l l.length)) (nearL px py (((bsy l l.length).length : Nat) : Int) (bsy l l.length))).getD ⟨0, 0⟩).i) : Int) == (((nearL px py ((k70 k) + 1) (bsy l l.length)).getD ((nearL px py (k70 k) (bsy l l.length)).length : Int).toNat ⟨0, 0⟩).i)) && ((((((firstOut (nearL px py (k70 k) (bsy l l.length)) (nearL px py (((bsy l l.length).length : Nat) : Int) (bsy l l.length))).getD ⟨0, 0⟩).g) : Int) == (((nearL px py ((k70 k) + 1) (bsy l l.length)).getD ((nearL px py (k70 k) (bsy l l.length)).length : Int).toNat ⟨0, 0⟩).g)) && true)) : Value) = (bV true : Value), true = true]) (Ac rfl (Ac (ad _ _) (Ac (ad _ _) (Ac rfl (Ac rfl (Ac rfl (Ac rfl (Ac (by have h8 := of_decide_eq_true (hfs.symm.trans (show (firstOut (nearL px py (k70 k) (bsy l l.length)) (nearL px py (((bsy l l.length).length : Nat) : Int) (bsy l l.length))).isSome = true by first | assumption | exact bnot_f hgd)); omega) (Ac ((own_arr (hO.own _ (List.Mem.head _))).some_ (by have h8 := of_decide_eq_true (hfs.symm.trans (show (firstOut (nearL px py (k70 k) (bsy l l.length)) (nearL px py (((bsy l l.length).length : Nat) : Int) (bsy l l.length))).isSome = true by first | assumption | exact bnot_f hgd)); omega)) (Ac rfl (Ac (fun w' hc => by obtain ⟨hM, hk0, hO⟩ := hCq1e w' hc; exact ((own_arr (hO.own _ (List.Mem.head _))).get (fun _ => rfl) (by have h8 := of_decide_eq_true (hfs.symm.trans (show (firstOut (nearL px py (k70 k) (bsy l l.length)) (nearL px py (((bsy l l.length).length : Nat) : Int) (bsy l l.length))).isSome = true by first | assumption | exact bnot_f hgd)); omega) rfl)) (Ac (fun w' hc => by obtain ⟨hM, hk0, hO⟩ := hCq1e w' hc; exact ((own_arr (hO.own _ (List.Mem.head _))).get (fun _ => rfl) (by have h8 := of_decide_eq_true (hfs.symm.trans (show (firstOut (nearL px py (k70 k) (bsy l l.length)) (nearL px py (((bsy l l.length).length : Nat) : Int) (bsy l l.length))).isSome = true by first | assumption | exact bnot_f hgd)); omega) rfl)) (Ac rfl (Ac (Eq.trans (show (bV ((((((firstOut (nearL px py (k70 k) (bsy l l.length)) (nearL px py (((bsy l l.length).length : Nat) : Int) (bsy l l.length))).getD ⟨0, 0⟩).i) : Int) == (((nearL px py ((k70 k) + 1) (bsy l l.length)).getD ((nearL px py (k70 k) (bsy l l.length)).length : Int).toNat ⟨0, 0⟩).i)) && ((((((firstOut (nearL px py (k70 k) (bsy l l.length)) (nearL px py (((bsy l l.length).length : Nat) : Int) (bsy l l.length))).getD ⟨0, 0⟩).g) : Int) == (((nearL px py ((k70 k) + 1) (bsy l l.length)).getD ((nearL px py (k70 k) (bsy l l.length)).length : Int).toNat ⟨0, 0⟩).g)) && true)) : Value) = (bV ((((((firstOut (nearL px py (k70 k) (bsy l l.length)) (nearL px py (((bsy l l.length).length : Nat) : Int) (bsy l l.length))).getD ⟨0, 0⟩).i) : Int) == (((nearL px py ((k70 k) + 1) (bsy l l.length)).getD ((nearL px py (k70 k) (bsy l l.length)).length : Int).toNat ⟨0, 0⟩).i)) && (((((firstOut (nearL px py (k70 k) (bsy l l.length)) (nearL px py (((bsy l l.length).length : Nat) : Int) (bsy l l.length))).getD ⟨0, 0⟩).g) : Int) == (((nearL px py ((k70 k) + 1) (bsy l l.length)).getD ((nearL px py (k70 k) (bsy l l.length)).length : Int).toNat ⟨0, 0⟩).g))) : Value) from (by simp)) (congrArg Value.bool (by rw [hfh (show (firstOut (nearL px py (k70 k) (bsy l l.length)) (nearL px py (((bsy l l.length).length : Nat) : Int) (bsy l l.length))).isSome = true by first | assumption | exact bnot_f hgd)]; simp))) (Ao rfl))))))))))))))) ?_
           clear hf; intro a hf
           clear hC
           show K18 _ _
           refine hK18 _ _ ?_
           refine wp_ret ?_
           refine qr (fn := Tryd.f6) hf hM [] (l := [bV true]) (ob := []) An ?_
           show (bV true : Value) = .bool true ∧ Keep Nn w w11
           exact ⟨rfl, hk0⟩
       · have hg1 := hg1r
         have hf := hf.setb 102 hg1r
         refine qd hf hC (fun w' h => (hCq1e w' h).1) [6] [{ g := .off }, { g := .off }, { g := .off }, { g := .off }, { g := .off }, { g := .off }, { g := .off }, { g := .off }, { g := .off }, { g := .off }, { g := .off }, {}, {}] (nw := []) (ob := [false = !true, false = !true, false = !true, false = !true]) (Ac rfl (Ac rfl (Ac rfl (Ao rfl)))) ?_
         clear hf; intro a hf
         clear hC
         show K18 _ _
         refine hK18 _ _ ?_
         refine wp_ret ?_
         refine qr (fn := Tryd.f6) hf hM [] (l := [bV false]) (ob := []) An ?_
         show (bV false : Value) = .bool true ∧ Keep Nn w w11
         refine ⟨congrArg Value.bool ?_, hk0⟩
         simp_all
   · have hs2 := hs2r
     refine sxcall hf rfl rfl rfl rfl (g := 22) (vs := [pV T1 0, .agg #[iV px, iV py], iV (k70 k)]) (ob := []) (by as_aux_lemma => kernel_rfl) An enters22 (nearest_no1 E T1 px py (k70 k) w3 hs2r (hG.keep hk0 (fun _ h => h))) ?_
     clear hf; rintro _ w12 a ⟨rfl, hk⟩ hf
     have hO := hO.keepNn hk
     have hM := hM.keepNn hk
     have hk0 := hk0.trans hk.nn
     clear hk
     refine q0 hf hM [2, 7, 6, 4] [{}, {}, {}, {}, {}] (nw := [(11, .val (.iface 161 (.pointer (some (E 1))))), (10, eS none 0 0)]) An ?_
     clear hf; intro a hf
     refine wpList_nil ?_
     refine hK8 _ _ ?_
     refine wp_seq_k (fun K19 hK19 => ?_)
     refine wp_region_lit ?_
     refine q0 hf hM [11, 10, 2, 7, 6, 4] [{}, { os := [.ld 0 0, .ld 0 1] }, {}, { hint := some (iV ((k70 k) + 1)) }] (nw := [(42, eI ((k70 k) + 1)), (40, .val (.agg #[iV px, iV py])), (39, eP T1 0)]) (ob := [Ad B1 0, Ad B1 1, (iV (IntKind.i64.wrap ((k70 k) + 1)) : Value) = (iV ((k70 k) + 1) : Value)]) (Ac (ad _ _) (Ac (ad _ _) (Ao (wr (by omega))))) ?_
     clear hf; intro a hf
     refine sxcall hf rfl rfl rfl rfl (g := 22) (vs := [pV T1 0, .agg #[iV px, iV py], iV ((k70 k) + 1)]) (ob := []) (by as_aux_lemma => kernel_rfl) An enters22 (nearest_no1 E T1 px py ((k70 k) + 1) w12 hs2r (hG.keep hk0 (fun _ h => h))) ?_
     clear hf; rintro _ w13 a ⟨rfl, hk⟩ hf
     have hO := hO.keepNn hk
     have hM := hM.keepNn hk
     have hk0 := hk0.trans hk.nn
     clear hk
     refine q0 hf hM [11, 10, 2, 7, 6, 4] [{}, {}, {}, {}, {}] (nw := [(13, .val (.iface 161 (.pointer (some (E 1))))), (12, eS none 0 0)]) An ?_
     clear hf; intro a hf
     refine wpList_nil ?_
     refine hK19 _ _ ?_
     refine wp_seq_k (fun K20 hK20 => ?_)
     refine wp_seq_k (fun K21 hK21 => ?_)
     refine wp_region_lit ?_
     refine q0 hf hM [13, 12, 11, 10, 2, 7, 6, 4] [{}, {}, {}, { g := .off }, { g := .off }, {}] (nw := [(51, eB true)]) (ob := [true = !false, true = !false]) (Ac rfl (Ao rfl)) ?_
     clear hf; intro a hf
     refine wpList_nil ?_
     refine hK21 _ _ ?_
     refine sxcond hf (b := true) (by kernel_rfl) (fun _ => ?_) (fun h => by cases h)
     refine wp_seq_k (fun K22 hK22 => ?_)
     refine wp_region_lit ?_
     refine q0 hf hM [] [{}, {}, {}, {}, {}, {}, {}] (nw := [(6, eB true)]) (ob := [true = true, true = true]) (Ac rfl (Ao rfl)) ?_
     clear hf; intro a hf
     refine wpList_nil ?_
     refine hK22 _ _ ?_
     refine wp_ret ?_
     refine qr (fn := Tryd.f6) hf hM [] (l := [bV true]) (ob := []) An ?_
     show (bV true : Value) = .bool true ∧ Keep Nn w w13
     exact ⟨rfl, hk0⟩
 · have hs1 := hs1r
   refine sxcall hf rfl rfl rfl rfl (g := 19) (vs := [.slice av l.length c]) (ob := []) (by as_aux_lemma => kernel_rfl) An enters19 (filled_no E av l c w2 hs1r (hG.keep hk0 (fun _ h => h)) (hav.keepNn hk0)) ?_
   clear hf; rintro _ w14 a ⟨T2, n'1, a'4, c'4, rfl, hk⟩ hf
   have hM := hM.keepNn hk
   have hk0 := hk0.trans hk.nn
   clear hk
   refine q0 hf hM [6, 4, 2] [{}, {}, {}, {}, {}, {}, {}] (nw := [(9, eB false), (7, eP T2 0)]) An ?_
   clear hf; intro a hf
   refine wpList_nil ?_
   refine hK4 _ _ ?_
   refine wp_seq_k (fun K23 hK23 => ?_)
   refine wp_seq_k (fun K24 hK24 => ?_)
   refine wp_region_lit ?_
   refine q0 hf hM [7, 6, 4, 2] [{}, {}] (nw := [(26, eB true)]) An ?_
   clear hf; intro a hf
   refine wpList_nil ?_
   refine hK24 _ _ ?_
   refine sxcond hf (b := true) (by kernel_rfl) (fun _ => ?_) (fun h => by cases h)
   refine wp_seq_k (fun K25 hK25 => ?_)
   refine wp_region_lit ?_
   refine q0 hf hM [] [{}] (nw := [(6, eB true)]) An ?_
   clear hf; intro a hf
   refine wpList_nil ?_
   refine hK25 _ _ ?_
   refine wp_ret ?_
   refine qr (fn := Tryd.f6) hf hM [] (l := [bV true]) (ob := []) An ?_
   show (bV true : Value) = .bool true ∧ Keep Nn w w14
   exact ⟨rfl, hk0⟩
end Go.Proofs.YthofalkkdpjdlaaDoor
