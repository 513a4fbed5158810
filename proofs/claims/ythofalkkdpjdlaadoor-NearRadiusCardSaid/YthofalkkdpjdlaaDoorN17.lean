/- layer 13: the law of radii -/
import Derived.Test.YthofalkkdpjdlaaDoorN16
import Derived.Test.YthofalkkdpjdlaaDoorN15
namespace Go.Proofs.YthofalkkdpjdlaaDoor
open Go.Px
set_option linter.unusedVariables false
set_option linter.unusedSimpArgs false

set_option maxRecDepth 10000 in
set_option maxHeartbeats 1600000 in
theorem nearRadius_any (E : Nat → Addr) (av : Option Addr) (l : List B4) (c : Nat) (px py r : Int) (w : World) (hT : Errs [1, 2, 3, 4, 5, 6, 0, 7, 8, 9] w 161 E) (hav : Arr w 4 av l.length c (flat fB4 l)) :
    Calls Tryd.prog 7 #[.slice av l.length c, .agg #[iV px, iV py], iV r] w (Ret fun v w' => v = .bool true ∧ Keep Nn w w') := by
 refine sxenter (n := 58) (args := [.slice av l.length c, .agg #[iV px, iV py], iV r]) Tryd.func7 rfl rfl rfl fun a hf => ?_
 replace hf : Fr 58 [(0, eS av l.length c), (1, .val (.agg #[iV px, iV py])), (2, eI r)] a := hf
 have hM : MemOk [] w := MemOk.nil w
 have hk0 : Keep Nn w w := Keep.refl _ _
 have hG : Errs [1, 3, 0] w 161 E := hT.less (by intro g hg; revert hg; simp; omega)
 refine wp_seq_k (fun K1 hK1 => ?_)
 refine wp_region_lit ?_
 refine q1 hf hM [0, 2] [{ os := [.nw] }, {}] (nw := fun B1 => [(4, eP B1 0)]) (M' := fun B1 => [⟨B1, 46, [iV px, iV py]⟩]) (ob := fun B1 => []) (fun B1 => An) ?_
 clear hf hM; intro a w1 B1 hf hM hB hk
 have hbB1 : w.heap.size ≤ B1 := by have := hk0.size; omega
 have hk0 := hk0.then hk (by intro i _ h; cases h)
 clear hk hB
 refine wpList_nil ?_
 refine hK1 _ _ ?_
 refine wp_seq_k (fun K2 hK2 => ?_)
 refine wp_seq_k (fun K3 hK3 => ?_)
 refine wp_region_lit ?_
 refine sxcall hf rfl rfl rfl rfl (g := 18) (vs := []) (ob := []) (by as_aux_lemma => kernel_rfl) An enters18 (alive13 E w1  (hG.keep hk0 (fun _ h => h))) ?_
 clear hf; rintro _ w2 a ⟨rfl, hk⟩ hf
 have hM := hM.keepNn hk
 have hk0 := hk0.trans hk.nn
 clear hk
 refine q0 hf hM [4, 0, 2] [{}] (nw := [(13, eB false)]) An ?_
 clear hf; intro a hf
 refine wpList_nil ?_
 refine hK3 _ _ ?_
 refine sxcond hf (b := false) (by kernel_rfl) (fun h => by cases h) (fun _ => ?_)
 refine wp_skip ?_
 refine hK2 _ _ ?_
 refine wp_seq_k (fun K4 hK4 => ?_)
 refine wp_region_lit ?_
 refine q0 hf hM [4, 2] [{}] (nw := [(15, eS av l.length c)]) An ?_
 clear hf; intro a hf
 rcases Bool.eq_false_or_eq_true (goodL l) with hs1r | hs1r
 · have hs1 := hs1r
   refine sxcall hf rfl rfl rfl rfl (g := 19) (vs := [.slice av l.length c]) (ob := []) (by as_aux_lemma => kernel_rfl) An enters19 (filled_ok E av l c w2 hs1r (hG.keep hk0 (fun _ h => h)) (hav.keepNn hk0)) ?_
   clear hf; rintro _ w3 a ⟨T1, Bl1, a'1, c'1, rfl, hk, hx1, hdb1⟩ hf
   have hO : OwnOk w.heap.size [⟨B1, 46, [iV px, iV py]⟩] [] w2 := OwnOk.nil hM
   have hO := hO.moreB hM hk (by have := hk0.size; omega) hx1 hdb1
   replace hO : OwnOk w.heap.size [⟨B1, 46, [iV px, iV py]⟩] [oAnd (oTree 72 68 T1 Bl1 (bsy l l.length)) (oS 85 6 (.slice a'1 (bsy l l.length).length c'1) (bsy l l.length).length (flat fBx (bsy l l.length)))] _ := hO
   have hM := hM.keepNn hk
   have hk0 := hk0.trans hk.nn
   have hO := hO.split
   clear hk
   refine q0 hf hM [4, 2] [{}, {}, {}, {}, {}, {}, {}] (nw := [(9, eB true), (8, eS a'1 (bsy l l.length).length c'1), (7, eP T1 0)]) An ?_
   clear hf; intro a hf
   refine wpList_nil ?_
   refine hK4 _ _ ?_
   refine wp_seq_k (fun K5 hK5 => ?_)
   refine wp_seq_k (fun K6 hK6 => ?_)
   have hgl := goodL_at hs1r; have hby := bsy_len l l.length
   refine wp_region_lit ?_
   refine q0 hf hM [8, 7, 4, 2] [{}, {}] (nw := [(21, eB false)]) An ?_
   clear hf; intro a hf
   refine wpList_nil ?_
   refine hK6 _ _ ?_
   refine sxcond hf (b := false) (by kernel_rfl) (fun h => by cases h) (fun _ => ?_)
   refine wp_skip ?_
   refine hK5 _ _ ?_
   refine wp_seq_k (fun K7 hK7 => ?_)
   refine wp_region_lit ?_
   refine q0 hf hM [8, 4, 2] [{}, { os := [.ld 0 0, .ld 0 1] }, {}] (nw := [(25, eI r), (24, .val (.agg #[iV px, iV py])), (23, eP T1 0)]) (ob := [Ad B1 0, Ad B1 1]) (Ac (ad _ _) (Ao (ad _ _))) ?_
   clear hf; intro a hf
   rcases Bool.eq_false_or_eq_true (ofOk px py 0 0) with hs2r | hs2r
   · have hs2 := hs2r
     rcases Bool.eq_false_or_eq_true (decide ((r : Int) < 0)) with hs3r | hs3r
     · have hs3 := (nT hs3r)
       refine sxcall hf rfl rfl rfl rfl (g := 20) (vs := [pV T1 0, .agg #[iV px, iV py], iV r]) (ob := []) (by as_aux_lemma => kernel_rfl) An enters20 (radius_no2 E T1 px py r w3 hs2r hs3r (hG.keep hk0 (fun _ h => h))) ?_
       clear hf; rintro _ w4 a ⟨rfl, hk⟩ hf
       have hO := hO.keepNn hk
       have hM := hM.keepNn hk
       have hk0 := hk0.trans hk.nn
       clear hk
       refine q0 hf hM [8, 4, 2] [{}, {}, {}, {}, {}] (nw := [(11, .val (.iface 161 (.pointer (some (E 1))))), (10, eS none 0 0)]) An ?_
       clear hf; intro a hf
       refine wpList_nil ?_
       refine hK7 _ _ ?_
       refine wp_seq_k (fun K8 hK8 => ?_)
       refine wp_seq_k (fun K9 hK9 => ?_)
       have hsm : sameL (ordS ltH (radL px py r (bsy l l.length))) (ordS ltH (radL px py r (bsy l l.length))) = true := sameL_refl _
       have hre : reach px py = true := by have := of_decide_eq_true hs2r; unfold reach; exact decide_eq_true (by omega)
       have hla := ordS_len (lt := ltH) (radL px py r (bsy l l.length))
       have hlb := radL_len px py r (bsy l l.length)
       have hokb := bsy_ok hgl
       refine wp_region_lit ?_
       refine q0 hf hM [11, 10, 8, 4, 2] [{ os := [.ld 0 0, .ld 0 1] }] (nw := [(29, .val (.agg #[iV px, iV py]))]) (ob := [Ad B1 0, Ad B1 1]) (Ac (ad _ _) (Ao (ad _ _))) ?_
       clear hf; intro a hf
       refine sxcall hf rfl rfl rfl rfl (g := 21) (vs := [.agg #[iV px, iV py]]) (ob := []) (by as_aux_lemma => kernel_rfl) An enters21 (rplace px py w4  ) ?_
       clear hf; rintro _ w5 a ⟨rfl, hk⟩ hf
       have hO := hO.keepNn hk
       have hM := hM.keepNn hk
       have hk0 := hk0.trans hk.nn
       clear hk
       refine q0 hf hM [11, 10, 8, 4, 2] [{}, {}] (nw := [(32, eB (!(ofOk px py 0 0)))]) An ?_
       clear hf; intro a hf
       have hf := hf.setb 32 ((congrArg Bool.not hs2r).trans rfl : (!(ofOk px py 0 0) : Bool) = false)
       refine q0 hf hM [11, 10, 8, 4, 2] [{}, {}, {}, {}] (nw := [(36, eB (decide ((r : Int) < 0)))]) (ob := [false = false, false = false]) (Ac rfl (Ao rfl)) ?_
       clear hf; intro a hf
       have hf := hf.setb 36 hs3r
       refine q0 hf hM [11, 10, 8, 4, 2] [{ g := .off }, { g := .off }, {}] (nw := [(39, eB true)]) (ob := [true = !false, true = !false]) (Ac rfl (Ao rfl)) ?_
       clear hf; intro a hf
       refine wpList_nil ?_
       refine hK9 _ _ ?_
       refine sxcond hf (b := true) (by kernel_rfl) (fun _ => ?_) (fun h => by cases h)
       refine wp_seq_k (fun K10 hK10 => ?_)
       refine wp_region_lit ?_
       refine q0 hf hM [] [{}, {}, {}, {}, {}] (nw := [(44, .val (.iface 161 (.pointer (some (E 1))))), (43, eB true)]) (ob := [true = true]) (Ao rfl) ?_
       clear hf; intro a hf
       refine sxcallg hf rfl rfl rfl rfl rfl (g := 27) (vs := [.iface 161 (.pointer (some (E 1)))]) (ob := []) (by as_aux_lemma => kernel_rfl) An enters27 (num_range E w5  (hT.keep hk0 (fun _ h => h))) ?_
       clear hf; rintro _ w6 a ⟨rfl, hk⟩ hf
       have hO := hO.keepNn hk
       have hM := hM.keepNn hk
       have hk0 := hk0.trans hk.nn
       clear hk
       refine q0 hf hM [] [{}, {}, {}] (nw := [(6, eB true)]) (ob := [true = true]) (Ao rfl) ?_
       clear hf; intro a hf
       refine wpList_nil ?_
       refine hK10 _ _ ?_
       refine wp_ret ?_
       refine qr (fn := Tryd.f7) hf hM [] (l := [bV true]) (ob := []) An ?_
       show (bV true : Value) = .bool true ∧ Keep Nn w w6
       exact ⟨rfl, hk0⟩
     · have hs3 := (nU hs3r)
       rcases Bool.eq_false_or_eq_true (decide ((r : Int) > 4194304)) with hs4r | hs4r
       · have hs4 := (nT hs4r)
         refine sxcall hf rfl rfl rfl rfl (g := 20) (vs := [pV T1 0, .agg #[iV px, iV py], iV r]) (ob := []) (by as_aux_lemma => kernel_rfl) An enters20 (radius_no3 E T1 px py r w3 hs2r hs3r hs4r (hG.keep hk0 (fun _ h => h))) ?_
         clear hf; rintro _ w7 a ⟨rfl, hk⟩ hf
         have hO := hO.keepNn hk
         have hM := hM.keepNn hk
         have hk0 := hk0.trans hk.nn
         clear hk
         refine q0 hf hM [8, 4, 2] [{}, {}, {}, {}, {}] (nw := [(11, .val (.iface 161 (.pointer (some (E 1))))), (10, eS none 0 0)]) An ?_
         clear hf; intro a hf
         refine wpList_nil ?_
         refine hK7 _ _ ?_
         refine wp_seq_k (fun K11 hK11 => ?_)
         refine wp_seq_k (fun K12 hK12 => ?_)
         have hsm : sameL (ordS ltH (radL px py r (bsy l l.length))) (ordS ltH (radL px py r (bsy l l.length))) = true := sameL_refl _
         have hre : reach px py = true := by have := of_decide_eq_true hs2r; unfold reach; exact decide_eq_true (by omega)
         have hla := ordS_len (lt := ltH) (radL px py r (bsy l l.length))
         have hlb := radL_len px py r (bsy l l.length)
         have hokb := bsy_ok hgl
         refine wp_region_lit ?_
         refine q0 hf hM [11, 10, 8, 4, 2] [{ os := [.ld 0 0, .ld 0 1] }] (nw := [(29, .val (.agg #[iV px, iV py]))]) (ob := [Ad B1 0, Ad B1 1]) (Ac (ad _ _) (Ao (ad _ _))) ?_
         clear hf; intro a hf
         refine sxcall hf rfl rfl rfl rfl (g := 21) (vs := [.agg #[iV px, iV py]]) (ob := []) (by as_aux_lemma => kernel_rfl) An enters21 (rplace px py w7  ) ?_
         clear hf; rintro _ w8 a ⟨rfl, hk⟩ hf
         have hO := hO.keepNn hk
         have hM := hM.keepNn hk
         have hk0 := hk0.trans hk.nn
         clear hk
         refine q0 hf hM [11, 10, 8, 4, 2] [{}, {}] (nw := [(32, eB (!(ofOk px py 0 0)))]) An ?_
         clear hf; intro a hf
         have hf := hf.setb 32 ((congrArg Bool.not hs2r).trans rfl : (!(ofOk px py 0 0) : Bool) = false)
         refine q0 hf hM [11, 10, 8, 4, 2] [{}, {}, {}, {}] (nw := [(36, eB (decide ((r : Int) < 0)))]) (ob := [false = false, false = false]) (Ac rfl (Ao rfl)) ?_
         clear hf; intro a hf
         have hf := hf.setb 36 hs3r
         refine q0 hf hM [11, 10, 8, 4, 2] [{}, {}, {}] (nw := [(39, eB (decide ((r : Int) > 4194304)))]) (ob := [false = false, false = false]) (Ac rfl (Ao rfl)) ?_
         clear hf; intro a hf
         refine wpList_nil ?_
         refine hK12 _ _ ?_
         refine sxcond hf (b := (decide ((r : Int) > 4194304))) (by kernel_rfl) (fun _ => ?_) (fun h => absurd h (by rw [hs4r]; simp))
         refine wp_seq_k (fun K13 hK13 => ?_)
         refine wp_region_lit ?_
         refine q0 hf hM [] [{}, {}, {}, {}, {}] (nw := [(44, .val (.iface 161 (.pointer (some (E 1))))), (43, eB true)]) (ob := [true = true]) (Ao rfl) ?_
         clear hf; intro a hf
         refine sxcallg hf rfl rfl rfl rfl rfl (g := 27) (vs := [.iface 161 (.pointer (some (E 1)))]) (ob := []) (by as_aux_lemma => kernel_rfl) An enters27 (num_range E w8  (hT.keep hk0 (fun _ h => h))) ?_
         clear hf; rintro _ w9 a ⟨rfl, hk⟩ hf
         have hO := hO.keepNn hk
         have hM := hM.keepNn hk
         have hk0 := hk0.trans hk.nn
         clear hk
         refine q0 hf hM [] [{}, {}, {}] (nw := [(6, eB true)]) (ob := [true = true]) (Ao rfl) ?_
         clear hf; intro a hf
         refine wpList_nil ?_
         refine hK13 _ _ ?_
         refine wp_ret ?_
         refine qr (fn := Tryd.f7) hf hM [] (l := [bV true]) (ob := []) An ?_
         show (bV true : Value) = .bool true ∧ Keep Nn w w9
         exact ⟨rfl, hk0⟩
       · have hs4 := (nU hs4r)
         refine sxcall hf rfl rfl rfl rfl (g := 20) (vs := [pV T1 0, .agg #[iV px, iV py], iV r]) (ob := []) (by as_aux_lemma => kernel_rfl) An enters20 (radius_ok E w.heap.size T1 Bl1 (bsy l l.length) px py r w3 hs2r hs3r hs4r (hO.own _ (List.Mem.head _)) (by have := hk0.size; omega) (by first | omega | (simp; omega) | (simp; done) | (rw [bsy_len]; omega)) (hG.keep hk0 (fun _ h => h))) ?_
         clear hf; rintro _ w10 a ⟨a'2, c'2, rfl, hk, hx2⟩ hf
         have hO := hO.more hM hk (by have := hk0.size; omega) hx2
         replace hO : OwnOk w.heap.size [⟨B1, 46, [iV px, iV py]⟩] [oS 39 2 (.slice a'2 ((ordS ltH (radL px py r (bsy l l.length))).length) c'2) ((ordS ltH (radL px py r (bsy l l.length))).length) (flat fH (ordS ltH (radL px py r (bsy l l.length)))), oTree 72 68 T1 Bl1 (bsy l l.length), oS 85 6 (.slice a'1 (bsy l l.length).length c'1) (bsy l l.length).length (flat fBx (bsy l l.length))] _ := hO
         have hM := hM.keepNn hk
         have hk0 := hk0.trans hk.nn
         clear hk
         refine q0 hf hM [8, 4, 2] [{}, {}, {}, {}, {}] (nw := [(11, .val (.nilIface)), (10, eS a'2 ((ordS ltH (radL px py r (bsy l l.length))).length) c'2)]) An ?_
         clear hf; intro a hf
         refine wpList_nil ?_
         refine hK7 _ _ ?_
         refine wp_seq_k (fun K14 hK14 => ?_)
         refine wp_seq_k (fun K15 hK15 => ?_)
         have hsm : sameL (ordS ltH (radL px py r (bsy l l.length))) (ordS ltH (radL px py r (bsy l l.length))) = true := sameL_refl _
         have hre : reach px py = true := by have := of_decide_eq_true hs2r; unfold reach; exact decide_eq_true (by omega)
         have hla := ordS_len (lt := ltH) (radL px py r (bsy l l.length))
         have hlb := radL_len px py r (bsy l l.length)
         have hokb := bsy_ok hgl
         refine wp_region_lit ?_
         refine q0 hf hM [11, 10, 8, 4, 2] [{ os := [.ld 0 0, .ld 0 1] }] (nw := [(29, .val (.agg #[iV px, iV py]))]) (ob := [Ad B1 0, Ad B1 1]) (Ac (ad _ _) (Ao (ad _ _))) ?_
         clear hf; intro a hf
         refine sxcall hf rfl rfl rfl rfl (g := 21) (vs := [.agg #[iV px, iV py]]) (ob := []) (by as_aux_lemma => kernel_rfl) An enters21 (rplace px py w10  ) ?_
         clear hf; rintro _ w11 a ⟨rfl, hk⟩ hf
         have hO := hO.keepNn hk
         have hM := hM.keepNn hk
         have hk0 := hk0.trans hk.nn
         clear hk
         refine q0 hf hM [11, 10, 8, 4, 2] [{}, {}] (nw := [(32, eB (!(ofOk px py 0 0)))]) An ?_
         clear hf; intro a hf
         have hf := hf.setb 32 ((congrArg Bool.not hs2r).trans rfl : (!(ofOk px py 0 0) : Bool) = false)
         refine q0 hf hM [11, 10, 8, 4, 2] [{}, {}, {}, {}] (nw := [(36, eB (decide ((r : Int) < 0)))]) (ob := [false = false, false = false]) (Ac rfl (Ao rfl)) ?_
         clear hf; intro a hf
         have hf := hf.setb 36 hs3r
         refine q0 hf hM [11, 10, 8, 4, 2] [{}, {}, {}] (nw := [(39, eB (decide ((r : Int) > 4194304)))]) (ob := [false = false, false = false]) (Ac rfl (Ao rfl)) ?_
         clear hf; intro a hf
         refine wpList_nil ?_
         refine hK15 _ _ ?_
         refine sxcond hf (b := (decide ((r : Int) > 4194304))) (by kernel_rfl) (fun h => absurd h (by rw [hs4r]; simp)) (fun _ => ?_)
         refine wp_skip ?_
         refine hK14 _ _ ?_
         refine wp_seq_k (fun K16 hK16 => ?_)
         refine wp_region_lit ?_
         refine q0 hf hM [] [{}, {}, {}, {}, {}, { os := [.ld 0 0, .ld 0 1] }, {}] (nw := [(54, eI r), (53, .val (.agg #[iV px, iV py])), (52, eS a'1 (bsy l l.length).length c'1), (51, eS a'2 ((ordS ltH (radL px py r (bsy l l.length))).length) c'2), (50, eB true)]) (ob := [true = true, true = true, true = true, Ad B1 0, Ad B1 1, true = true]) (Ac rfl (Ac rfl (Ac rfl (Ac (ad _ _) (Ac (ad _ _) (Ao rfl)))))) ?_
         clear hf; intro a hf
         refine sxcallg hf rfl rfl rfl rfl rfl (g := 28) (vs := [.slice a'1 (bsy l l.length).length c'1, .agg #[iV px, iV py], iV r]) (ob := []) (by as_aux_lemma => kernel_rfl) An enters28 (rradius a'1 (bsy l l.length) c'1 px py r w11 hre (own_arr (hO.own _ (List.Mem.tail _ (List.Mem.tail _ (List.Mem.head _))))) (by first | omega | (simp; omega) | (simp; done) | exact Nat.le_trans (byKinds_len _ _) (by omega) | decide) hokb (by omega)) ?_
         clear hf; rintro _ w12 a ⟨a'3, c'3, rfl, hk, hx3⟩ hf
         have hO := hO.more hM hk (by have := hk0.size; omega) hx3
         replace hO : OwnOk w.heap.size [⟨B1, 46, [iV px, iV py]⟩] [oS 39 2 (.slice a'3 ((ordS ltH (radL px py r (bsy l l.length))).length) c'3) ((ordS ltH (radL px py r (bsy l l.length))).length) (flat fH (ordS ltH (radL px py r (bsy l l.length)))), oS 39 2 (.slice a'2 ((ordS ltH (radL px py r (bsy l l.length))).length) c'2) ((ordS ltH (radL px py r (bsy l l.length))).length) (flat fH (ordS ltH (radL px py r (bsy l l.length)))), oTree 72 68 T1 Bl1 (bsy l l.length), oS 85 6 (.slice a'1 (bsy l l.length).length c'1) (bsy l l.length).length (flat fBx (bsy l l.length))] _ := hO
         have hM := hM.keepNn hk
         have hk0 := hk0.trans hk.nn
         clear hk
         refine sxcallg hf rfl rfl rfl rfl rfl (g := 24) (vs := [.slice a'2 ((ordS ltH (radL px py r (bsy l l.length))).length) c'2, .slice a'3 ((ordS ltH (radL px py r (bsy l l.length))).length) c'3]) (ob := []) (by as_aux_lemma => kernel_rfl) An enters24 (rsameH a'2 (ordS ltH (radL px py r (bsy l l.length))) c'2 a'3 (ordS ltH (radL px py r (bsy l l.length))) c'3 w12  (own_arr (hO.own _ (List.Mem.tail _ (List.Mem.head _)))) (by first | omega | (simp; omega) | (simp; done) | exact Nat.le_trans (byKinds_len _ _) (by omega) | decide) (own_arr (hO.own _ (List.Mem.head _))) (by first | omega | (simp; omega) | (simp; done) | exact Nat.le_trans (byKinds_len _ _) (by omega) | decide)) ?_
         clear hf; rintro _ w13 a ⟨rfl, hk⟩ hf
         have hO := hO.keepNn hk
         have hM := hM.keepNn hk
         have hk0 := hk0.trans hk.nn
         clear hk
         refine q0 hf hM [] [{}, {}] (nw := [(6, eB (sameL (ordS ltH (radL px py r (bsy l l.length))) (ordS ltH (radL px py r (bsy l l.length)))))]) An ?_
         clear hf; intro a hf
         refine wpList_nil ?_
         refine hK16 _ _ ?_
         refine wp_ret ?_
         refine qr (fn := Tryd.f7) hf hM [] (l := [bV (sameL (ordS ltH (radL px py r (bsy l l.length))) (ordS ltH (radL px py r (bsy l l.length))))]) (ob := []) An ?_
         show (bV (sameL (ordS ltH (radL px py r (bsy l l.length))) (ordS ltH (radL px py r (bsy l l.length)))) : Value) = .bool true ∧ Keep Nn w w13
         refine ⟨congrArg Value.bool ?_, hk0⟩
         simp_all
   · have hs2 := hs2r
     refine sxcall hf rfl rfl rfl rfl (g := 20) (vs := [pV T1 0, .agg #[iV px, iV py], iV r]) (ob := []) (by as_aux_lemma => kernel_rfl) An enters20 (radius_no1 E T1 px py r w3 hs2r (hG.keep hk0 (fun _ h => h))) ?_
     clear hf; rintro _ w14 a ⟨rfl, hk⟩ hf
     have hO := hO.keepNn hk
     have hM := hM.keepNn hk
     have hk0 := hk0.trans hk.nn
     clear hk
     refine q0 hf hM [8, 4, 2] [{}, {}, {}, {}, {}] (nw := [(11, .val (.iface 161 (.pointer (some (E 1))))), (10, eS none 0 0)]) An ?_
     clear hf; intro a hf
     refine wpList_nil ?_
     refine hK7 _ _ ?_
     refine wp_seq_k (fun K17 hK17 => ?_)
     refine wp_seq_k (fun K18 hK18 => ?_)
     have hsm : sameL (ordS ltH (radL px py r (bsy l l.length))) (ordS ltH (radL px py r (bsy l l.length))) = true := sameL_refl _
     refine wp_region_lit ?_
     refine q0 hf hM [11, 10, 8, 4, 2] [{ os := [.ld 0 0, .ld 0 1] }] (nw := [(29, .val (.agg #[iV px, iV py]))]) (ob := [Ad B1 0, Ad B1 1]) (Ac (ad _ _) (Ao (ad _ _))) ?_
     clear hf; intro a hf
     refine sxcall hf rfl rfl rfl rfl (g := 21) (vs := [.agg #[iV px, iV py]]) (ob := []) (by as_aux_lemma => kernel_rfl) An enters21 (rplace px py w14  ) ?_
     clear hf; rintro _ w15 a ⟨rfl, hk⟩ hf
     have hO := hO.keepNn hk
     have hM := hM.keepNn hk
     have hk0 := hk0.trans hk.nn
     clear hk
     refine q0 hf hM [11, 10, 8, 4, 2] [{}, {}] (nw := [(32, eB (!(ofOk px py 0 0)))]) An ?_
     clear hf; intro a hf
     have hf := hf.setb 32 ((congrArg Bool.not hs2r).trans rfl : (!(ofOk px py 0 0) : Bool) = true)
     refine q0 hf hM [11, 10, 8, 4, 2] [{ g := .off }, { g := .off }, {}, {}, { g := .off }, { g := .off }, {}] (nw := [(39, eB true)]) (ob := [true = !false, true = !false, true = !false, true = !false]) (Ac rfl (Ac rfl (Ac rfl (Ao rfl)))) ?_
     clear hf; intro a hf
     refine wpList_nil ?_
     refine hK18 _ _ ?_
     refine sxcond hf (b := true) (by kernel_rfl) (fun _ => ?_) (fun h => by cases h)
     refine wp_seq_k (fun K19 hK19 => ?_)
     refine wp_region_lit ?_
     refine q0 hf hM [] [{}, {}, {}, {}, {}] (nw := [(44, .val (.iface 161 (.pointer (some (E 1))))), (43, eB true)]) (ob := [true = true]) (Ao rfl) ?_
     clear hf; intro a hf
     refine sxcallg hf rfl rfl rfl rfl rfl (g := 27) (vs := [.iface 161 (.pointer (some (E 1)))]) (ob := []) (by as_aux_lemma => kernel_rfl) An enters27 (num_range E w15  (hT.keep hk0 (fun _ h => h))) ?_
     clear hf; rintro _ w16 a ⟨rfl, hk⟩ hf
     have hO := hO.keepNn hk
     have hM := hM.keepNn hk
     have hk0 := hk0.trans hk.nn
     clear hk
     refine q0 hf hM [] [{}, {}, {}] (nw := [(6, eB true)]) (ob := [true = true]) (Ao rfl) ?_
     clear hf; intro a hf
     refine wpList_nil ?_
     refine hK19 _ _ ?_
     refine wp_ret ?_
     refine qr (fn := Tryd.f7) hf hM [] (l := [bV true]) (ob := []) An ?_
     show (bV true : Value) = .bool true ∧ Keep Nn w w16
     exact ⟨rfl, hk0⟩
 · have hs1 := hs1r
   refine sxcall hf rfl rfl rfl rfl (g := 19) (vs := [.slice av l.length c]) (ob := []) (by as_aux_lemma => kernel_rfl) An enters19 (filled_no E av l c w2 hs1r (hG.keep hk0 (fun _ h => h)) (hav.keepNn hk0)) ?_
   clear hf; rintro _ w17 a ⟨T2, n'1, a'4, c'4, rfl, hk⟩ hf
   have hM := hM.keepNn hk
   have hk0 := hk0.trans hk.nn
   clear hk
   refine q0 hf hM [4, 2] [{}, {}, {}, {}, {}, {}, {}] (nw := [(9, eB false), (8, eS a'4 n'1 c'4), (7, eP T2 0)]) An ?_
   clear hf; intro a hf
   refine wpList_nil ?_
   refine hK4 _ _ ?_
   refine wp_seq_k (fun K20 hK20 => ?_)
   refine wp_seq_k (fun K21 hK21 => ?_)
   refine wp_region_lit ?_
   refine q0 hf hM [8, 7, 4, 2] [{}, {}] (nw := [(21, eB true)]) An ?_
   clear hf; intro a hf
   refine wpList_nil ?_
   refine hK21 _ _ ?_
   refine sxcond hf (b := true) (by kernel_rfl) (fun _ => ?_) (fun h => by cases h)
   refine wp_seq_k (fun K22 hK22 => ?_)
   refine wp_region_lit ?_
   refine q0 hf hM [] [{}] (nw := [(6, eB true)]) An ?_
   clear hf; intro a hf
   refine wpList_nil ?_
   refine hK22 _ _ ?_
   refine wp_ret ?_
   refine qr (fn := Tryd.f7) hf hM [] (l := [bV true]) (ob := []) An ?_
   show (bV true : Value) = .bool true ∧ Keep Nn w w17
   exact ⟨rfl, hk0⟩
end Go.Proofs.YthofalkkdpjdlaaDoor
