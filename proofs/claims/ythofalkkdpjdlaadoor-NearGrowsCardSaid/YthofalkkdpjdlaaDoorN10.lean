/- layer 13: the law that a greater radius has no less -/
import Derived.Test.YthofalkkdpjdlaaDoorN9
namespace Go.Proofs.YthofalkkdpjdlaaDoor
open Go.Px
set_option linter.unusedVariables false
set_option linter.unusedSimpArgs false

set_option maxRecDepth 10000 in
set_option maxHeartbeats 1600000 in
theorem alive13 (E : Nat → Addr) (w : World) (hG : Errs [1, 3, 0] w 161 E) :
    Calls Tryd.prog 18 #[] w (Ret fun v w' => v = .bool true ∧ Keep Nn w w') := by
 refine sxenter (n := 54) (args := []) Tryd.func18 rfl rfl rfl fun a hf => ?_
 replace hf : Fr 54 [] a := hf
 have hM : MemOk [] w := MemOk.nil w
 have hk0 : Keep Nn w w := Keep.refl _ _
 have hg3 : goodL ([⟨0, 0, 0, 0⟩, ⟨3, 4, 3, 4⟩, ⟨9, 0, 9, 0⟩] : List B4) = true := by decide
 have ho1 : ofOk 0 0 0 0 = true := by decide
 have ho2 : ofOk 8 0 0 0 = true := by decide
 have hd1 : decide ((5 : Int) < 0) = false := by decide
 have hd2 : decide ((5 : Int) > 4194304) = false := by decide
 have hd3 : decide ((1 : Int) < 0) = false := by decide
 have hl1 : (nearL 8 0 1 (bsy ([⟨0, 0, 0, 0⟩, ⟨3, 4, 3, 4⟩, ⟨9, 0, 9, 0⟩] : List B4) ([⟨0, 0, 0, 0⟩, ⟨3, 4, 3, 4⟩, ⟨9, 0, 9, 0⟩] : List B4).length)).length = 1 := by decide
 have hl3 : (bsy ([⟨0, 0, 0, 0⟩, ⟨3, 4, 3, 4⟩, ⟨9, 0, 9, 0⟩] : List B4) ([⟨0, 0, 0, 0⟩, ⟨3, 4, 3, 4⟩, ⟨9, 0, 9, 0⟩] : List B4).length).length = 3 := by decide
 have hl2 : (ordS ltH (radL 0 0 5 (bsy ([⟨0, 0, 0, 0⟩, ⟨3, 4, 3, 4⟩, ⟨9, 0, 9, 0⟩] : List B4) ([⟨0, 0, 0, 0⟩, ⟨3, 4, 3, 4⟩, ⟨9, 0, 9, 0⟩] : List B4).length))).length = 2 := by decide
 refine wp_seq_k (fun K1 hK1 => ?_)
 refine wp_region_lit ?_
 refine q0 hf hM [] [{}] (nw := []) An ?_
 clear hf; intro a hf
 refine wpList_nil ?_
 refine hK1 _ _ ?_
 refine wp_seq_k (fun K2 hK2 => ?_)
 refine wp_region_lit ?_
 refine q0 hf hM [] [{ sp := true }, { sp := true }, { sp := true }] (nw := [(11, .val (.agg #[iV 9, iV 0, iV 9, iV 0])), (10, .val (.agg #[iV 3, iV 4, iV 3, iV 4])), (9, .val (.agg #[iV 0, iV 0, iV 0, iV 0]))]) An ?_
 clear hf; intro a hf
 refine sxbslice hf hM (t := 22) (e := 32) (len := 3) (cs := [iV 0, iV 0, iV 0, iV 0, iV 3, iV 4, iV 3, iV 4, iV 9, iV 0, iV 9, iV 0]) (ob := []) rfl rfl rfl rfl (by as_aux_lemma => kernel_rfl) An (by as_aux_lemma => kernel_rfl) ?_
 clear hf hM; intro a w1 B3 hf hM hB hk
 replace hM : MemOk [⟨B3, 32, [iV 0, iV 0, iV 0, iV 0, iV 3, iV 4, iV 3, iV 4, iV 9, iV 0, iV 9, iV 0]⟩] w1 := hM
 have hbB3 : w.heap.size ≤ B3 := by have := hk0.size; omega
 have hk0 := hk0.trans hk.nn
 clear hk hB
 refine sxcall hf rfl rfl rfl rfl (g := 19) (vs := [.slice (some ⟨B3, 0, none⟩) ([⟨0, 0, 0, 0⟩, ⟨3, 4, 3, 4⟩, ⟨9, 0, 9, 0⟩] : List B4).length 3]) (ob := []) (by as_aux_lemma => kernel_rfl) An enters19 (filled_ok E (some ⟨B3, 0, none⟩) ([⟨0, 0, 0, 0⟩, ⟨3, 4, 3, 4⟩, ⟨9, 0, 9, 0⟩] : List B4) 3 w1 hg3 (hG.keep hk0 (fun _ h => h)) (Arr.of_memT (sz := 4) (f := fB4) (L := ([⟨0, 0, 0, 0⟩, ⟨3, 4, 3, 4⟩, ⟨9, 0, 9, 0⟩] : List B4)) (l := ([⟨0, 0, 0, 0⟩, ⟨3, 4, 3, 4⟩, ⟨9, 0, 9, 0⟩] : List B4)) hM (List.Mem.head _) (fun _ => rfl) rfl rfl)) ?_
 clear hf; rintro _ w2 a ⟨T1, Bl1, a'1, c'1, rfl, hk, hx1, hdb1⟩ hf
 have hO : OwnOk w.heap.size [⟨B3, 32, [iV 0, iV 0, iV 0, iV 0, iV 3, iV 4, iV 3, iV 4, iV 9, iV 0, iV 9, iV 0]⟩] [] w1 := OwnOk.nil hM
 have hO := hO.moreB hM hk (by have := hk0.size; omega) hx1 hdb1
 replace hO : OwnOk w.heap.size [⟨B3, 32, [iV 0, iV 0, iV 0, iV 0, iV 3, iV 4, iV 3, iV 4, iV 9, iV 0, iV 9, iV 0]⟩] [oAnd (oTree 72 68 T1 Bl1 (bsy ([⟨0, 0, 0, 0⟩, ⟨3, 4, 3, 4⟩, ⟨9, 0, 9, 0⟩] : List B4) ([⟨0, 0, 0, 0⟩, ⟨3, 4, 3, 4⟩, ⟨9, 0, 9, 0⟩] : List B4).length)) (oS 85 6 (.slice a'1 (bsy ([⟨0, 0, 0, 0⟩, ⟨3, 4, 3, 4⟩, ⟨9, 0, 9, 0⟩] : List B4) ([⟨0, 0, 0, 0⟩, ⟨3, 4, 3, 4⟩, ⟨9, 0, 9, 0⟩] : List B4).length).length c'1) (bsy ([⟨0, 0, 0, 0⟩, ⟨3, 4, 3, 4⟩, ⟨9, 0, 9, 0⟩] : List B4) ([⟨0, 0, 0, 0⟩, ⟨3, 4, 3, 4⟩, ⟨9, 0, 9, 0⟩] : List B4).length).length (flat fBx (bsy ([⟨0, 0, 0, 0⟩, ⟨3, 4, 3, 4⟩, ⟨9, 0, 9, 0⟩] : List B4) ([⟨0, 0, 0, 0⟩, ⟨3, 4, 3, 4⟩, ⟨9, 0, 9, 0⟩] : List B4).length)))] _ := hO
 have hM := hM.keepNn hk
 have hk0 := hk0.trans hk.nn
 have hO := hO.split
 clear hk
 refine q0 hf hM [] [{}, {}, {}, {}, {}, {}, {}] (nw := [(3, eB true), (1, eP T1 0)]) An ?_
 clear hf; intro a hf
 refine wpList_nil ?_
 refine hK2 _ _ ?_
 refine wp_seq_k (fun K3 hK3 => ?_)
 refine wp_seq_k (fun K4 hK4 => ?_)
 refine wp_region_lit ?_
 refine q0 hf hM [1] [{}, {}] (nw := [(18, eB false)]) An ?_
 clear hf; intro a hf
 refine wpList_nil ?_
 refine hK4 _ _ ?_
 refine sxcond hf (b := false) (by kernel_rfl) (fun h => by cases h) (fun _ => ?_)
 refine wp_skip ?_
 refine hK3 _ _ ?_
 refine wp_seq_k (fun K5 hK5 => ?_)
 refine wp_region_lit ?_
 refine q0 hf hM [1] [{}, { sp := true }] (nw := [(21, .val (.agg #[iV 0, iV 0])), (20, eP T1 0)]) An ?_
 clear hf; intro a hf
 refine sxcall hf rfl rfl rfl rfl (g := 20) (vs := [pV T1 0, .agg #[iV 0, iV 0], iV 5]) (ob := []) (by as_aux_lemma => kernel_rfl) An enters20 (radius_ok E w.heap.size T1 Bl1 (bsy ([⟨0, 0, 0, 0⟩, ⟨3, 4, 3, 4⟩, ⟨9, 0, 9, 0⟩] : List B4) ([⟨0, 0, 0, 0⟩, ⟨3, 4, 3, 4⟩, ⟨9, 0, 9, 0⟩] : List B4).length) 0 0 5 w2 ho1 hd1 hd2 (hO.own _ (List.Mem.head _)) (by have := hk0.size; omega) (by first | omega | (simp; omega) | (simp; done) | (rw [bsy_len]; omega)) (hG.keep hk0 (fun _ h => h))) ?_
 clear hf; rintro _ w3 a ⟨a'2, c'2, rfl, hk, hx2⟩ hf
 have hO := hO.more hM hk (by have := hk0.size; omega) hx2
 replace hO : OwnOk w.heap.size [⟨B3, 32, [iV 0, iV 0, iV 0, iV 0, iV 3, iV 4, iV 3, iV 4, iV 9, iV 0, iV 9, iV 0]⟩] [oS 39 2 (.slice a'2 ((ordS ltH (radL 0 0 5 (bsy ([⟨0, 0, 0, 0⟩, ⟨3, 4, 3, 4⟩, ⟨9, 0, 9, 0⟩] : List B4) ([⟨0, 0, 0, 0⟩, ⟨3, 4, 3, 4⟩, ⟨9, 0, 9, 0⟩] : List B4).length))).length) c'2) ((ordS ltH (radL 0 0 5 (bsy ([⟨0, 0, 0, 0⟩, ⟨3, 4, 3, 4⟩, ⟨9, 0, 9, 0⟩] : List B4) ([⟨0, 0, 0, 0⟩, ⟨3, 4, 3, 4⟩, ⟨9, 0, 9, 0⟩] : List B4).length))).length) (flat fH (ordS ltH (radL 0 0 5 (bsy ([⟨0, 0, 0, 0⟩, ⟨3, 4, 3, 4⟩, ⟨9, 0, 9, 0⟩] : List B4) ([⟨0, 0, 0, 0⟩, ⟨3, 4, 3, 4⟩, ⟨9, 0, 9, 0⟩] : List B4).length)))), oTree 72 68 T1 Bl1 (bsy ([⟨0, 0, 0, 0⟩, ⟨3, 4, 3, 4⟩, ⟨9, 0, 9, 0⟩] : List B4) ([⟨0, 0, 0, 0⟩, ⟨3, 4, 3, 4⟩, ⟨9, 0, 9, 0⟩] : List B4).length), oS 85 6 (.slice a'1 ((bsy ([⟨0, 0, 0, 0⟩, ⟨3, 4, 3, 4⟩, ⟨9, 0, 9, 0⟩] : List B4) ([⟨0, 0, 0, 0⟩, ⟨3, 4, 3, 4⟩, ⟨9, 0, 9, 0⟩] : List B4).length).length) c'1) ((bsy ([⟨0, 0, 0, 0⟩, ⟨3, 4, 3, 4⟩, ⟨9, 0, 9, 0⟩] : List B4) ([⟨0, 0, 0, 0⟩, ⟨3, 4, 3, 4⟩, ⟨9, 0, 9, 0⟩] : List B4).length).length) (flat fBx (bsy ([⟨0, 0, 0, 0⟩, ⟨3, 4, 3, 4⟩, ⟨9, 0, 9, 0⟩] : List B4) ([⟨0, 0, 0, 0⟩, ⟨3, 4, 3, 4⟩, ⟨9, 0, 9, 0⟩] : List B4).length))] _ := hO
 have hM := hM.keepNn hk
 have hk0 := hk0.trans hk.nn
 clear hk
 refine q0 hf hM [1] [{}, {}, {}, {}, {}] (nw := [(5, .val (.nilIface)), (4, eS a'2 ((ordS ltH (radL 0 0 5 (bsy ([⟨0, 0, 0, 0⟩, ⟨3, 4, 3, 4⟩, ⟨9, 0, 9, 0⟩] : List B4) ([⟨0, 0, 0, 0⟩, ⟨3, 4, 3, 4⟩, ⟨9, 0, 9, 0⟩] : List B4).length))).length) c'2)]) An ?_
 clear hf; intro a hf
 refine wpList_nil ?_
 refine hK5 _ _ ?_
 refine wp_seq_k (fun K6 hK6 => ?_)
 refine wp_region_lit ?_
 refine q0 hf hM [5, 4] [{}, { sp := true }] (nw := [(27, .val (.agg #[iV 8, iV 0])), (26, eP T1 0)]) An ?_
 clear hf; intro a hf
 refine sxcall hf rfl rfl rfl rfl (g := 22) (vs := [pV T1 0, .agg #[iV 8, iV 0], iV 1]) (ob := []) (by as_aux_lemma => kernel_rfl) An enters22 (nearest_ok E w.heap.size T1 Bl1 (bsy ([⟨0, 0, 0, 0⟩, ⟨3, 4, 3, 4⟩, ⟨9, 0, 9, 0⟩] : List B4) ([⟨0, 0, 0, 0⟩, ⟨3, 4, 3, 4⟩, ⟨9, 0, 9, 0⟩] : List B4).length) 8 0 1 w3 ho2 hd3 (hO.own _ (List.Mem.tail _ (List.Mem.head _))) (by have := hk0.size; omega) (by first | omega | (simp; omega) | (simp; done) | (rw [bsy_len]; omega)) (by omega) (hG.keep hk0 (fun _ h => h))) ?_
 clear hf; rintro _ w4 a ⟨a'3, c'3, rfl, hk, hx3⟩ hf
 have hO := hO.more hM hk (by have := hk0.size; omega) hx3
 replace hO : OwnOk w.heap.size [⟨B3, 32, [iV 0, iV 0, iV 0, iV 0, iV 3, iV 4, iV 3, iV 4, iV 9, iV 0, iV 9, iV 0]⟩] [oS 39 2 (.slice a'3 ((nearL 8 0 1 (bsy ([⟨0, 0, 0, 0⟩, ⟨3, 4, 3, 4⟩, ⟨9, 0, 9, 0⟩] : List B4) ([⟨0, 0, 0, 0⟩, ⟨3, 4, 3, 4⟩, ⟨9, 0, 9, 0⟩] : List B4).length)).length) c'3) ((nearL 8 0 1 (bsy ([⟨0, 0, 0, 0⟩, ⟨3, 4, 3, 4⟩, ⟨9, 0, 9, 0⟩] : List B4) ([⟨0, 0, 0, 0⟩, ⟨3, 4, 3, 4⟩, ⟨9, 0, 9, 0⟩] : List B4).length)).length) (flat fH (nearL 8 0 1 (bsy ([⟨0, 0, 0, 0⟩, ⟨3, 4, 3, 4⟩, ⟨9, 0, 9, 0⟩] : List B4) ([⟨0, 0, 0, 0⟩, ⟨3, 4, 3, 4⟩, ⟨9, 0, 9, 0⟩] : List B4).length))), oS 39 2 (.slice a'2 ((ordS ltH (radL 0 0 5 (bsy ([⟨0, 0, 0, 0⟩, ⟨3, 4, 3, 4⟩, ⟨9, 0, 9, 0⟩] : List B4) ([⟨0, 0, 0, 0⟩, ⟨3, 4, 3, 4⟩, ⟨9, 0, 9, 0⟩] : List B4).length))).length) c'2) ((ordS ltH (radL 0 0 5 (bsy ([⟨0, 0, 0, 0⟩, ⟨3, 4, 3, 4⟩, ⟨9, 0, 9, 0⟩] : List B4) ([⟨0, 0, 0, 0⟩, ⟨3, 4, 3, 4⟩, ⟨9, 0, 9, 0⟩] : List B4).length))).length) (flat fH (ordS ltH (radL 0 0 5 (bsy ([⟨0, 0, 0, 0⟩, ⟨3, 4, 3, 4⟩, ⟨9, 0, 9, 0⟩] : List B4) ([⟨0, 0, 0, 0⟩, ⟨3, 4, 3, 4⟩, ⟨9, 0, 9, 0⟩] : List B4).length)))), oTree 72 68 T1 Bl1 (bsy ([⟨0, 0, 0, 0⟩, ⟨3, 4, 3, 4⟩, ⟨9, 0, 9, 0⟩] : List B4) ([⟨0, 0, 0, 0⟩, ⟨3, 4, 3, 4⟩, ⟨9, 0, 9, 0⟩] : List B4).length), oS 85 6 (.slice a'1 ((bsy ([⟨0, 0, 0, 0⟩, ⟨3, 4, 3, 4⟩, ⟨9, 0, 9, 0⟩] : List B4) ([⟨0, 0, 0, 0⟩, ⟨3, 4, 3, 4⟩, ⟨9, 0, 9, 0⟩] : List B4).length).length) c'1) ((bsy ([⟨0, 0, 0, 0⟩, ⟨3, 4, 3, 4⟩, ⟨9, 0, 9, 0⟩] : List B4) ([⟨0, 0, 0, 0⟩, ⟨3, 4, 3, 4⟩, ⟨9, 0, 9, 0⟩] : List B4).length).length) (flat fBx (bsy ([⟨0, 0, 0, 0⟩, ⟨3, 4, 3, 4⟩, ⟨9, 0, 9, 0⟩] : List B4) ([⟨0, 0, 0, 0⟩, ⟨3, 4, 3, 4⟩, ⟨9, 0, 9, 0⟩] : List B4).length))] _ := hO
 have hM := hM.keepNn hk
 have hk0 := hk0.trans hk.nn
 clear hk
 refine q0 hf hM [5, 4] [{}, {}, {}, {}, {}] (nw := [(7, .val (.nilIface)), (6, eS a'3 ((nearL 8 0 1 (bsy ([⟨0, 0, 0, 0⟩, ⟨3, 4, 3, 4⟩, ⟨9, 0, 9, 0⟩] : List B4) ([⟨0, 0, 0, 0⟩, ⟨3, 4, 3, 4⟩, ⟨9, 0, 9, 0⟩] : List B4).length)).length) c'3)]) An ?_
 clear hf; intro a hf
 refine wpList_nil ?_
 refine hK6 _ _ ?_
 refine wp_seq_k (fun K7 hK7 => ?_)
 refine wp_region_lit ?_
 refine q0 hf hM [] [{}, {}, {}, {}, {}, {}, {}, {}, {}, { hint := some (bV true) }, {}, {}, {}, {}, { hint := some (bV true) }, {}, {}, {}, { sp := true }, { os := [.ex (iV (((nearL 8 0 1 (bsy ([⟨0, 0, 0, 0⟩, ⟨3, 4, 3, 4⟩, ⟨9, 0, 9, 0⟩] : List B4) ([⟨0, 0, 0, 0⟩, ⟨3, 4, 3, 4⟩, ⟨9, 0, 9, 0⟩] : List B4).length)).getD (0 : Int).toNat ⟨0, 0⟩).i)), .ex (iV (((nearL 8 0 1 (bsy ([⟨0, 0, 0, 0⟩, ⟨3, 4, 3, 4⟩, ⟨9, 0, 9, 0⟩] : List B4) ([⟨0, 0, 0, 0⟩, ⟨3, 4, 3, 4⟩, ⟨9, 0, 9, 0⟩] : List B4).length)).getD (0 : Int).toNat ⟨0, 0⟩).g))] }, { sp := true }, { sp := true, hint := some (bV true) }, {}, {}] (nw := [(0, eB true)]) (ob := [true = true, true = true, true = true, true = true, true = true, (bV ((((ordS ltH (radL 0 0 5 (bsy ([⟨0, 0, 0, 0⟩, ⟨3, 4, 3, 4⟩, ⟨9, 0, 9, 0⟩] : List B4) ([⟨0, 0, 0, 0⟩, ⟨3, 4, 3, 4⟩, ⟨9, 0, 9, 0⟩] : List B4).length))).length : Int) : Int) == 2) : Value) = (bV true : Value), true = true, true = true, true = true, (bV ((((nearL 8 0 1 (bsy ([⟨0, 0, 0, 0⟩, ⟨3, 4, 3, 4⟩, ⟨9, 0, 9, 0⟩] : List B4) ([⟨0, 0, 0, 0⟩, ⟨3, 4, 3, 4⟩, ⟨9, 0, 9, 0⟩] : List B4).length)).length : Int) : Int) == 1) : Value) = (bV true : Value), true = true, true = true, (0 : Int) ≤ 0 ∧ 0 < ((nearL 8 0 1 (bsy ([⟨0, 0, 0, 0⟩, ⟨3, 4, 3, 4⟩, ⟨9, 0, 9, 0⟩] : List B4) ([⟨0, 0, 0, 0⟩, ⟨3, 4, 3, 4⟩, ⟨9, 0, 9, 0⟩] : List B4).length)).length : Int), (a'3 : Option Addr).isSome = true, true = true, w4.cell? (((sa a'3 : Addr).add ((0 : Int).toNat * 2)).add 0) = some (iV (((nearL 8 0 1 (bsy ([⟨0, 0, 0, 0⟩, ⟨3, 4, 3, 4⟩, ⟨9, 0, 9, 0⟩] : List B4) ([⟨0, 0, 0, 0⟩, ⟨3, 4, 3, 4⟩, ⟨9, 0, 9, 0⟩] : List B4).length)).getD (0 : Int).toNat ⟨0, 0⟩).i)), w4.cell? (((sa a'3 : Addr).add ((0 : Int).toNat * 2)).add 1) = some (iV (((nearL 8 0 1 (bsy ([⟨0, 0, 0, 0⟩, ⟨3, 4, 3, 4⟩, ⟨9, 0, 9, 0⟩] : List B4) ([⟨0, 0, 0, 0⟩, ⟨3, 4, 3, 4⟩, ⟨9, 0, 9, 0⟩] : List B4).length)).getD (0 : Int).toNat ⟨0, 0⟩).g)), true = true, true = true, (bV ((((((nearL 8 0 1 (bsy ([⟨0, 0, 0, 0⟩, ⟨3, 4, 3, 4⟩, ⟨9, 0, 9, 0⟩] : List B4) ([⟨0, 0, 0, 0⟩, ⟨3, 4, 3, 4⟩, ⟨9, 0, 9, 0⟩] : List B4).length)).getD (0 : Int).toNat ⟨0, 0⟩).i) : Int) == 14) && ((((((nearL 8 0 1 (bsy ([⟨0, 0, 0, 0⟩, ⟨3, 4, 3, 4⟩, ⟨9, 0, 9, 0⟩] : List B4) ([⟨0, 0, 0, 0⟩, ⟨3, 4, 3, 4⟩, ⟨9, 0, 9, 0⟩] : List B4).length)).getD (0 : Int).toNat ⟨0, 0⟩).g) : Int) == 1) && true)) : Value) = (bV true : Value)]) (Ac rfl (Ac rfl (Ac rfl (Ac rfl (Ac rfl (Ac (congrArg Value.bool (by rw [hl2]; rfl)) (Ac rfl (Ac rfl (Ac rfl (Ac (congrArg Value.bool (by rw [hl1]; rfl)) (Ac rfl (Ac rfl (Ac (by rw [hl1]; omega) (Ac ((own_arr (hO.own _ (List.Mem.head _))).some_ (by first | omega | (simp; done))) (Ac rfl (Ac ((own_arr (hO.own _ (List.Mem.head _))).get (fun _ => rfl) (by first | omega | (simp; done)) rfl) (Ac ((own_arr (hO.own _ (List.Mem.head _))).get (fun _ => rfl) (by first | omega | (simp; done)) rfl) (Ac rfl (Ac rfl (Ao (Eq.trans (show (bV ((((((nearL 8 0 1 (bsy ([⟨0, 0, 0, 0⟩, ⟨3, 4, 3, 4⟩, ⟨9, 0, 9, 0⟩] : List B4) ([⟨0, 0, 0, 0⟩, ⟨3, 4, 3, 4⟩, ⟨9, 0, 9, 0⟩] : List B4).length)).getD (0 : Int).toNat ⟨0, 0⟩).i) : Int) == 14) && ((((((nearL 8 0 1 (bsy ([⟨0, 0, 0, 0⟩, ⟨3, 4, 3, 4⟩, ⟨9, 0, 9, 0⟩] : List B4) ([⟨0, 0, 0, 0⟩, ⟨3, 4, 3, 4⟩, ⟨9, 0, 9, 0⟩] : List B4).length)).getD (0 : Int).toNat ⟨0, 0⟩).g) : Int) == 1) && true)) : Value) = (bV ((((((nearL 8 0 1 (bsy ([⟨0, 0, 0, 0⟩, ⟨3, 4, 3, 4⟩, ⟨9, 0, 9, 0⟩] : List B4) ([⟨0, 0, 0, 0⟩, ⟨3, 4, 3, 4⟩, ⟨9, 0, 9, 0⟩] : List B4).length)).getD (0 : Int).toNat ⟨0, 0⟩).i) : Int) == 14) && (((((nearL 8 0 1 (bsy ([⟨0, 0, 0, 0⟩, ⟨3, 4, 3, 4⟩, ⟨9, 0, 9, 0⟩] : List B4) ([⟨0, 0, 0, 0⟩, ⟨3, 4, 3, 4⟩, ⟨9, 0, 9, 0⟩] : List B4).length)).getD (0 : Int).toNat ⟨0, 0⟩).g) : Int) == 1)) : Value) from (by simp)) (congrArg Value.bool (by decide))))))))))))))))))))))) ?_
 clear hf; intro a hf
 refine wpList_nil ?_
 refine hK7 _ _ ?_
 refine wp_ret ?_
 refine qr (fn := Tryd.f18) hf hM [] (l := [bV true]) (ob := []) An ?_
 show (bV true : Value) = .bool true ∧ Keep Nn w w4
 exact ⟨rfl, hk0⟩

set_option maxRecDepth 10000 in
set_option maxHeartbeats 1600000 in
theorem rin_any (n m : Int) (w : World) (hm : 0 ≤ m ∧ m ≤ 4611686018427387904) :
    Calls Tryd.prog 44 #[iV n, iV m] w (Ret fun v w' => v = .bool (within n m) ∧ Keep Nn w w') := by
 refine sxenter (n := 14) (args := [iV n, iV m]) Tryd.func44 rfl rfl rfl fun a hf => ?_
 replace hf : Fr 14 [(0, eI n), (1, eI m)] a := hf
 have hM : MemOk [] w := MemOk.nil w
 have hk0 : Keep Nn w w := Keep.refl _ _
 refine wp_seq_k (fun K1 hK1 => ?_)
 refine wp_region_lit ?_
 refine q0 hf hM [0, 1] [{}] (nw := []) An ?_
 clear hf; intro a hf
 refine wpList_nil ?_
 refine hK1 _ _ ?_
 refine wp_seq_k (fun K2 hK2 => ?_)
 refine wp_region_lit ?_
 refine q0 hf hM [] [{}, {}, {}, {}, { g := .sym }, { g := .sym, hint := some (iV (0 - m)) }, { g := .sym }, { g := .sym }, { hint := some (bV ((decide ((n : Int) ≤ m)) && (decide (((0 - m) : Int) ≤ n)))) }, {}] (nw := [(4, eB ((decide ((n : Int) ≤ m)) && (decide (((0 - m) : Int) ≤ n))))]) (ob := [((decide ((n : Int) ≤ m)) = true → (decide ((n : Int) ≤ m)) = (decide ((n : Int) ≤ m))), ((decide ((n : Int) ≤ m)) = true → (iV (IntKind.i64.wrap (0 - m)) : Value) = (iV (0 - m) : Value)), ((decide ((n : Int) ≤ m)) = true → (decide ((n : Int) ≤ m)) = (decide ((n : Int) ≤ m))), ((decide ((n : Int) ≤ m)) = true → (decide ((n : Int) ≤ m)) = (decide ((n : Int) ≤ m))), ((decide ((n : Int) ≤ m)) = true → (decide ((n : Int) ≤ m)) = (decide ((n : Int) ≤ m))), (bif (decide ((n : Int) ≤ m)) then (bV (decide (((0 - m) : Int) ≤ n)) : Value) else bV false) = .bool ((decide ((n : Int) ≤ m)) && (decide (((0 - m) : Int) ≤ n)))]) (Ac (fun hgd => rfl) (Ac (fun hgd => (wr (by omega))) (Ac (fun hgd => rfl) (Ac (fun hgd => rfl) (Ac (fun _ => rfl) (Ao (pick_and _ _))))))) ?_
 clear hf; intro a hf
 refine wpList_nil ?_
 refine hK2 _ _ ?_
 refine wp_ret ?_
 refine qr (fn := Tryd.f44) hf hM [] (l := [bV ((decide ((n : Int) ≤ m)) && (decide (((0 - m) : Int) ≤ n)))]) (ob := []) An ?_
 show (bV ((decide ((n : Int) ≤ m)) && (decide (((0 - m) : Int) ≤ n))) : Value) = .bool (within n m) ∧ Keep Nn w w
 refine ⟨congrArg Value.bool ?_, hk0⟩
 rw [Bool.eq_iff_iff]
 simp only [within, Bool.or_eq_true, Bool.and_eq_true, Bool.not_eq_true', Bool.not_eq_false', Bool.or_eq_false_iff, Bool.and_eq_false_iff, decide_eq_true_eq, decide_eq_false_iff_not, beq_iff_eq, Bool.false_eq_true, Bool.true_eq_false, false_iff, true_iff, iff_true, iff_false, not_true, not_false_iff, true_and, and_true, false_and, and_false, ge_iff_le, gt_iff_lt] at *
 try omega

set_option maxRecDepth 10000 in
set_option maxHeartbeats 1600000 in
theorem rplace (px py : Int) (w : World) :
    Calls Tryd.prog 21 #[.agg #[iV px, iV py]] w (Ret fun v w' => v = .bool (ofOk px py 0 0) ∧ Keep Nn w w') := by
 refine sxenter (n := 11) (args := [.agg #[iV px, iV py]]) Tryd.func21 rfl rfl rfl fun a hf => ?_
 replace hf : Fr 11 [(0, .val (.agg #[iV px, iV py]))] a := hf
 have hM : MemOk [] w := MemOk.nil w
 have hk0 : Keep Nn w w := Keep.refl _ _
 refine wp_seq_k (fun K1 hK1 => ?_)
 refine wp_region_lit ?_
 refine q1 hf hM [] [{ os := [.nw] }, {}] (nw := fun B1 => [(1, eP B1 0)]) (M' := fun B1 => [⟨B1, 46, [iV px, iV py]⟩]) (ob := fun B1 => []) (fun B1 => An) ?_
 clear hf hM; intro a w1 B1 hf hM hB hk
 have hbB1 : w.heap.size ≤ B1 := by have := hk0.size; omega
 have hk0 := hk0.then hk (by intro i _ h; cases h)
 clear hk hB
 refine wpList_nil ?_
 refine hK1 _ _ ?_
 refine wp_seq_k (fun K2 hK2 => ?_)
 refine wp_region_lit ?_
 refine q0 hf hM [1] [{}, { os := [.ld 0 0] }] (nw := [(4, eI px)]) (ob := [Ad B1 0]) (Ao (ad _ _)) ?_
 clear hf; intro a hf
 refine sxcall hf rfl rfl rfl rfl (g := 44) (vs := [iV px, iV 1048576]) (ob := []) (by as_aux_lemma => kernel_rfl) An enters44 (rin_any px 1048576 w1  (by omega)) ?_
 clear hf; rintro _ w2 a ⟨rfl, hk⟩ hf
 have hM := hM.keepNn hk
 have hk0 := hk0.trans hk.nn
 clear hk
 refine q0 hf hM [1] [{}] (nw := [(6, eB (within px 1048576))]) An ?_
 clear hf; intro a hf
 rcases Bool.eq_false_or_eq_true (within px 1048576) with hg1r | hg1r
 · have hg1 := hg1r
   have hf := hf.setb 6 hg1r
   refine q0 hf hM [6] [{}, { os := [.ld 0 1] }] (nw := [(8, eI py)]) (ob := [true = true, true = true, Ad B1 1]) (Ac rfl (Ac rfl (Ao (ad _ _)))) ?_
   clear hf; intro a hf
   refine sxcallg hf rfl rfl rfl rfl rfl (g := 44) (vs := [iV py, iV 1048576]) (ob := []) (by as_aux_lemma => kernel_rfl) An enters44 (rin_any py 1048576 w2  (by omega)) ?_
   clear hf; rintro _ w3 a ⟨rfl, hk⟩ hf
   have hM := hM.keepNn hk
   have hk0 := hk0.trans hk.nn
   clear hk
   refine q0 hf hM [] [{}, {}] (nw := [(2, eB (within py 1048576))]) An ?_
   clear hf; intro a hf
   refine wpList_nil ?_
   refine hK2 _ _ ?_
   refine wp_ret ?_
   refine qr (fn := Tryd.f21) hf hM [] (l := [bV (within py 1048576)]) (ob := []) An ?_
   show (bV (within py 1048576) : Value) = .bool (ofOk px py 0 0) ∧ Keep Nn w w3
   refine ⟨congrArg Value.bool ?_, hk0⟩
   rw [Bool.eq_iff_iff]
   simp only [within, ofOk, Bool.or_eq_true, Bool.and_eq_true, Bool.not_eq_true', Bool.not_eq_false', Bool.or_eq_false_iff, Bool.and_eq_false_iff, decide_eq_true_eq, decide_eq_false_iff_not, beq_iff_eq, Bool.false_eq_true, Bool.true_eq_false, false_iff, true_iff, iff_true, iff_false, not_true, not_false_iff, true_and, and_true, false_and, and_false, ge_iff_le, gt_iff_lt] at *
   try omega
 · have hg1 := hg1r
   have hf := hf.setb 6 hg1r
   refine q0 hf hM [6] [{ g := .off }, { g := .off }] (nw := [(8, .val (undef))]) (ob := [false = !true, false = !true]) (Ac rfl (Ao rfl)) ?_
   clear hf; intro a hf
   refine q0 hf hM [] [{ g := .off }, {}, {}] (nw := [(2, eB false)]) (ob := [false = !true]) (Ao rfl) ?_
   clear hf; intro a hf
   refine wpList_nil ?_
   refine hK2 _ _ ?_
   refine wp_ret ?_
   refine qr (fn := Tryd.f21) hf hM [] (l := [bV false]) (ob := []) An ?_
   show (bV false : Value) = .bool (ofOk px py 0 0) ∧ Keep Nn w w2
   refine ⟨congrArg Value.bool ?_, hk0⟩
   rw [Bool.eq_iff_iff]
   simp only [within, ofOk, Bool.or_eq_true, Bool.and_eq_true, Bool.not_eq_true', Bool.not_eq_false', Bool.or_eq_false_iff, Bool.and_eq_false_iff, decide_eq_true_eq, decide_eq_false_iff_not, beq_iff_eq, Bool.false_eq_true, Bool.true_eq_false, false_iff, true_iff, iff_true, iff_false, not_true, not_false_iff, true_and, and_true, false_and, and_false, ge_iff_le, gt_iff_lt] at *
   try omega

set_option maxRecDepth 10000 in
set_option maxHeartbeats 1600000 in
theorem nearGrows_any (E : Nat → Addr) (av : Option Addr) (l : List B4) (c : Nat) (px py r : Int) (w : World) (hG : Errs [1, 3, 0] w 161 E) (hav : Arr w 4 av l.length c (flat fB4 l)) (hr63 : -9223372036854775808 ≤ r ∧ r ≤ 9223372036854775807) :
    Calls Tryd.prog 4 #[.slice av l.length c, .agg #[iV px, iV py], iV r] w (Ret fun v w' => v = .bool true ∧ Keep Nn w w') := by
 refine sxenter (n := 101) (args := [.slice av l.length c, .agg #[iV px, iV py], iV r]) Tryd.func4 rfl rfl rfl fun a hf => ?_
 replace hf : Fr 101 [(0, eS av l.length c), (1, .val (.agg #[iV px, iV py])), (2, eI r)] a := hf
 have hM : MemOk [] w := MemOk.nil w
 have hk0 : Keep Nn w w := Keep.refl _ _
 refine wp_seq_k (fun K1 hK1 => ?_)
 refine wp_region_lit ?_
 refine q1 hf hM [0, 2] [{ os := [.nw] }, {}] (nw := fun B1 => [(4, eP B1 0)]) (M' := fun B1 => [⟨B1, 46, [iV px, iV py]⟩]) (ob := fun B1 => []) (fun B1 => An) ?_
 clear hf hM; intro a w1 B1 hf hM hB hk
 have hbB1 : w.heap.size ≤ B1 := by have := hk0.size; omega
 have hk0 := hk0.then hk (by intro i _ h; cases h)
 clear hk hB
 refine wpList_nil ?_
 refine hK1 _ _ ?_
 refine wp_seq_k (fun K2 hK2 => ?_)
 refine wp_seq_k (fun K3 hK3 => ?_)
 refine wp_region_lit ?_
 refine sxcall hf rfl rfl rfl rfl (g := 18) (vs := []) (ob := []) (by as_aux_lemma => kernel_rfl) An enters18 (alive13 E w1  (hG.keep hk0 (fun _ h => h))) ?_
 clear hf; rintro _ w2 a ⟨rfl, hk⟩ hf
 have hM := hM.keepNn hk
 have hk0 := hk0.trans hk.nn
 clear hk
 refine q0 hf hM [4, 0, 2] [{}] (nw := [(19, eB false)]) An ?_
 clear hf; intro a hf
 refine wpList_nil ?_
 refine hK3 _ _ ?_
 refine sxcond hf (b := false) (by kernel_rfl) (fun h => by cases h) (fun _ => ?_)
 refine wp_skip ?_
 refine hK2 _ _ ?_
 refine wp_seq_k (fun K4 hK4 => ?_)
 refine wp_region_lit ?_
 refine q0 hf hM [4, 2] [{}] (nw := [(21, eS av l.length c)]) An ?_
 clear hf; intro a hf
 rcases Bool.eq_false_or_eq_true (goodL l) with hs1r | hs1r
 · have hs1 := hs1r
   refine sxcall hf rfl rfl rfl rfl (g := 19) (vs := [.slice av l.length c]) (ob := []) (by as_aux_lemma => kernel_rfl) An enters19 (filled_ok E av l c w2 hs1r (hG.keep hk0 (fun _ h => h)) (hav.keepNn hk0)) ?_
   clear hf; rintro _ w3 a ⟨T1, Bl1, a'1, c'1, rfl, hk, hx1, hdb1⟩ hf
   have hO : OwnOk w.heap.size [⟨B1, 46, [iV px, iV py]⟩] [] w2 := OwnOk.nil hM
   have hO := hO.moreB hM hk (by have := hk0.size; omega) hx1 hdb1
   replace hO : OwnOk w.heap.size [⟨B1, 46, [iV px, iV py]⟩] [oAnd (oTree 72 68 T1 Bl1 (bsy l l.length)) (oS 85 6 (.slice a'1 (bsy l l.length).length c'1) (bsy l l.length).length (flat fBx (bsy l l.length)))] _ := hO
   have hM := hM.keepNn hk
   have hk0 := hk0.trans hk.nn
   have hO := hO.split
   clear hk
   refine q0 hf hM [4, 2] [{}, {}, {}, {}, {}, {}, {}] (nw := [(9, eB true), (7, eP T1 0)]) An ?_
   clear hf; intro a hf
   refine wpList_nil ?_
   refine hK4 _ _ ?_
   refine wp_seq_k (fun K5 hK5 => ?_)
   refine wp_seq_k (fun K6 hK6 => ?_)
   have hgl := goodL_at hs1r; have hby := bsy_len l l.length
   refine wp_region_lit ?_
   refine q0 hf hM [7, 4, 2] [{}, {}, {}, {}, {}, {}, {}, { g := .sym }, { g := .sym }, { hint := some (bV ((decide ((r : Int) < 0)) || (decide ((r : Int) ≥ 4194304)))) }] (nw := [(35, eB ((decide ((r : Int) < 0)) || (decide ((r : Int) ≥ 4194304))))]) (ob := [false = false, false = false, ((decide ((r : Int) < 0)) = false → (decide ((r : Int) < 0)) = (decide ((r : Int) < 0))), ((decide ((r : Int) < 0)) = false → (decide ((r : Int) < 0)) = (decide ((r : Int) < 0))), (bif (decide ((r : Int) < 0)) then (bV true : Value) else bV (decide ((r : Int) ≥ 4194304))) = .bool ((decide ((r : Int) < 0)) || (decide ((r : Int) ≥ 4194304)))]) (Ac rfl (Ac rfl (Ac (fun hgd => rfl) (Ac (fun _ => rfl) (Ao (pick_or _ _)))))) ?_
   clear hf; intro a hf
   refine wpList_nil ?_
   refine hK6 _ _ ?_
   refine qc hf (b := ((decide ((r : Int) < 0)) || (decide ((r : Int) ≥ 4194304)))) (fun hc2r => ?_) (fun hc2r => ?_)
   · have hc2 := hc2r
     try simp only [Bool.or_eq_true, Bool.and_eq_true, Bool.not_eq_true', Bool.not_eq_false', Bool.or_eq_false_iff, Bool.and_eq_false_iff, decide_eq_true_eq, decide_eq_false_iff_not, beq_iff_eq, bne_iff_ne, beq_eq_false_iff_ne, bne_eq_false_iff_eq, Bool.and_true, Bool.true_and, ne_eq] at hc2
     refine wp_seq_k (fun K7 hK7 => ?_)
     refine wp_region_lit ?_
     refine q0 hf hM [] [{}] (nw := [(6, eB true)]) An ?_
     clear hf; intro a hf
     refine wpList_nil ?_
     refine hK7 _ _ ?_
     refine wp_ret ?_
     refine qr (fn := Tryd.f4) hf hM [] (l := [bV true]) (ob := []) An ?_
     show (bV true : Value) = .bool true ∧ Keep Nn w w3
     exact ⟨rfl, hk0⟩
   · have hc2 := hc2r
     try simp only [Bool.or_eq_true, Bool.and_eq_true, Bool.not_eq_true', Bool.not_eq_false', Bool.or_eq_false_iff, Bool.and_eq_false_iff, decide_eq_true_eq, decide_eq_false_iff_not, beq_iff_eq, bne_iff_ne, beq_eq_false_iff_ne, bne_eq_false_iff_eq, Bool.and_true, Bool.true_and, ne_eq] at hc2
     refine wp_skip ?_
     refine hK5 _ _ ?_
     refine wp_seq_k (fun K8 hK8 => ?_)
     have hr0 : 0 ≤ r ∧ r < 4194304 := by omega
     have hla := ordS_len (lt := ltH) (radL px py r (bsy l l.length))
     have hlb := radL_len px py r (bsy l l.length)
     have hlc := ordS_len (lt := ltH) (radL px py (r + 1) (bsy l l.length))
     have hld := radL_len px py (r + 1) (bsy l l.length)
     have hrl := rad_len (px := px) (py := py) (bs := (bsy l l.length)) hr0.1
     have hrf := rad_first (px := px) (py := py) (r := r) (bsy_nd l (n := l.length) (by omega))
     have hq1 : decide (r > 4194304) = false := decide_eq_false (by omega)
     have hq2 : decide (r + 1 < 0) = false := decide_eq_false (by omega)
     have hq3 : decide (r + 1 > 4194304) = false := decide_eq_false (by omega)
     have hq4 : decide (((ordS ltH (radL px py r (bsy l l.length))).length : Int) < 0) = false := decide_eq_false (by omega)
     refine wp_region_lit ?_
     refine q0 hf hM [7, 4, 2] [{}, { os := [.ld 0 0, .ld 0 1] }, {}] (nw := [(39, eI r), (38, .val (.agg #[iV px, iV py])), (37, eP T1 0)]) (ob := [Ad B1 0, Ad B1 1]) (Ac (ad _ _) (Ao (ad _ _))) ?_
     clear hf; intro a hf
     rcases Bool.eq_false_or_eq_true (ofOk px py 0 0) with hs2r | hs2r
     · have hs2 := hs2r
       rcases Bool.eq_false_or_eq_true (decide ((r : Int) < 0)) with hs3r | hs3r
       · have hs3 := (nT hs3r)
         refine sxcall hf rfl rfl rfl rfl (g := 20) (vs := [pV T1 0, .agg #[iV px, iV py], iV r]) (ob := []) (by as_aux_lemma => kernel_rfl) An enters20 (radius_no2 E T1 px py r w3 hs2r hs3r (hG.keep hk0 (fun _ h => h))) ?_
         clear hf; rintro _ w4 a ⟨rfl, hk⟩ hf
         have hO := hO.keepNn hk
         have hM := hM.keepNn hk
         have hk0 := hk0.trans hk.nn
         clear hk
         refine q0 hf hM [7, 4, 2] [{}, {}, {}, {}, {}] (nw := [(11, .val (.iface 161 (.pointer (some (E 1))))), (10, eS none 0 0)]) An ?_
         clear hf; intro a hf
         refine wpList_nil ?_
         refine hK8 _ _ ?_
         refine wp_seq_k (fun K9 hK9 => ?_)
         refine wp_seq_k (fun K10 hK10 => ?_)
         refine wp_region_lit ?_
         refine q0 hf hM [10, 7, 4, 2] [{}, {}] (nw := [(44, eB true)]) An ?_
         clear hf; intro a hf
         refine wpList_nil ?_
         refine hK10 _ _ ?_
         refine sxcond hf (b := true) (by kernel_rfl) (fun _ => ?_) (fun h => by cases h)
         refine wp_seq_k (fun K11 hK11 => ?_)
         refine wp_region_lit ?_
         refine q0 hf hM [] [{ os := [.ld 0 0, .ld 0 1] }] (nw := [(45, .val (.agg #[iV px, iV py]))]) (ob := [Ad B1 0, Ad B1 1]) (Ac (ad _ _) (Ao (ad _ _))) ?_
         clear hf; intro a hf
         refine sxcall hf rfl rfl rfl rfl (g := 21) (vs := [.agg #[iV px, iV py]]) (ob := []) (by as_aux_lemma => kernel_rfl) An enters21 (rplace px py w4  ) ?_
         clear hf; rintro _ w5 a ⟨rfl, hk⟩ hf
         have hO := hO.keepNn hk
         have hM := hM.keepNn hk
         have hk0 := hk0.trans hk.nn
         clear hk
         refine q0 hf hM [] [{}, {}] (nw := [(6, eB (!(ofOk px py 0 0)))]) An ?_
         clear hf; intro a hf
         refine wpList_nil ?_
         refine hK11 _ _ ?_
         refine wp_ret ?_
         refine qr (fn := Tryd.f4) hf hM [] (l := [bV (!(ofOk px py 0 0))]) (ob := []) An ?_
         show (bV (!(ofOk px py 0 0)) : Value) = .bool true ∧ Keep Nn w w5
         refine ⟨congrArg Value.bool ?_, hk0⟩
         simp_all
       · have hs3 := (nU hs3r)
         refine sxcall hf rfl rfl rfl rfl (g := 20) (vs := [pV T1 0, .agg #[iV px, iV py], iV r]) (ob := []) (by as_aux_lemma => kernel_rfl) An enters20 (radius_ok E w.heap.size T1 Bl1 (bsy l l.length) px py r w3 hs2r hs3r hq1 (hO.own _ (List.Mem.head _)) (by have := hk0.size; omega) (by first | omega | (simp; omega) | (simp; done) | (rw [bsy_len]; omega)) (hG.keep hk0 (fun _ h => h))) ?_
         clear hf; rintro _ w6 a ⟨a'2, c'2, rfl, hk, hx2⟩ hf
         have hO := hO.more hM hk (by have := hk0.size; omega) hx2
         replace hO : OwnOk w.heap.size [⟨B1, 46, [iV px, iV py]⟩] [oS 39 2 (.slice a'2 ((ordS ltH (radL px py r (bsy l l.length))).length) c'2) ((ordS ltH (radL px py r (bsy l l.length))).length) (flat fH (ordS ltH (radL px py r (bsy l l.length)))), oTree 72 68 T1 Bl1 (bsy l l.length), oS 85 6 (.slice a'1 (bsy l l.length).length c'1) (bsy l l.length).length (flat fBx (bsy l l.length))] _ := hO
         have hM := hM.keepNn hk
         have hk0 := hk0.trans hk.nn
         clear hk
         refine q0 hf hM [7, 4, 2] [{}, {}, {}, {}, {}] (nw := [(11, .val (.nilIface)), (10, eS a'2 ((ordS ltH (radL px py r (bsy l l.length))).length) c'2)]) An ?_
         clear hf; intro a hf
         refine wpList_nil ?_
         refine hK8 _ _ ?_
         refine wp_seq_k (fun K12 hK12 => ?_)
         refine wp_seq_k (fun K13 hK13 => ?_)
         refine wp_region_lit ?_
         refine q0 hf hM [10, 7, 4, 2] [{}, {}] (nw := [(44, eB false)]) An ?_
         clear hf; intro a hf
         refine wpList_nil ?_
         refine hK13 _ _ ?_
         refine sxcond hf (b := false) (by kernel_rfl) (fun h => by cases h) (fun _ => ?_)
         refine wp_skip ?_
         refine hK12 _ _ ?_
         refine wp_seq_k (fun K14 hK14 => ?_)
         refine wp_region_lit ?_
         refine q0 hf hM [10, 7, 4] [{}, { os := [.ld 0 0, .ld 0 1] }, {}, { hint := some (iV (r + 1)) }] (nw := [(52, eI (r + 1)), (50, .val (.agg #[iV px, iV py])), (49, eP T1 0)]) (ob := [Ad B1 0, Ad B1 1, (iV (IntKind.i64.wrap (r + 1)) : Value) = (iV (r + 1) : Value)]) (Ac (ad _ _) (Ac (ad _ _) (Ao (wr (by omega))))) ?_
         clear hf; intro a hf
         refine sxcall hf rfl rfl rfl rfl (g := 20) (vs := [pV T1 0, .agg #[iV px, iV py], iV (r + 1)]) (ob := []) (by as_aux_lemma => kernel_rfl) An enters20 (radius_ok E w.heap.size T1 Bl1 (bsy l l.length) px py (r + 1) w6 hs2r hq2 hq3 (hO.own _ (List.Mem.tail _ (List.Mem.head _))) (by have := hk0.size; omega) (by first | omega | (simp; omega) | (simp; done) | (rw [bsy_len]; omega)) (hG.keep hk0 (fun _ h => h))) ?_
         clear hf; rintro _ w7 a ⟨a'3, c'3, rfl, hk, hx3⟩ hf
         have hO := hO.more hM hk (by have := hk0.size; omega) hx3
         replace hO : OwnOk w.heap.size [⟨B1, 46, [iV px, iV py]⟩] [oS 39 2 (.slice a'3 ((ordS ltH (radL px py (r + 1) (bsy l l.length))).length) c'3) ((ordS ltH (radL px py (r + 1) (bsy l l.length))).length) (flat fH (ordS ltH (radL px py (r + 1) (bsy l l.length)))), oS 39 2 (.slice a'2 ((ordS ltH (radL px py r (bsy l l.length))).length) c'2) ((ordS ltH (radL px py r (bsy l l.length))).length) (flat fH (ordS ltH (radL px py r (bsy l l.length)))), oTree 72 68 T1 Bl1 (bsy l l.length), oS 85 6 (.slice a'1 (bsy l l.length).length c'1) (bsy l l.length).length (flat fBx (bsy l l.length))] _ := hO
         have hM := hM.keepNn hk
         have hk0 := hk0.trans hk.nn
         clear hk
         refine q0 hf hM [10, 7, 4] [{}, {}, {}, {}, {}] (nw := [(13, .val (.nilIface)), (12, eS a'3 ((ordS ltH (radL px py (r + 1) (bsy l l.length))).length) c'3)]) An ?_
         clear hf; intro a hf
         refine wpList_nil ?_
         refine hK14 _ _ ?_
         refine wp_seq_k (fun K15 hK15 => ?_)
         refine wp_region_lit ?_
         refine q0 hf hM [13, 12, 10] [{}, { os := [.ld 0 0, .ld 0 1] }, {}, {}] (nw := [(60, eI ((ordS ltH (radL px py r (bsy l l.length))).length : Int)), (58, .val (.agg #[iV px, iV py])), (57, eP T1 0)]) (ob := [Ad B1 0, Ad B1 1]) (Ac (ad _ _) (Ao (ad _ _))) ?_
         clear hf; intro a hf
         refine sxcall hf rfl rfl rfl rfl (g := 22) (vs := [pV T1 0, .agg #[iV px, iV py], iV ((ordS ltH (radL px py r (bsy l l.length))).length : Int)]) (ob := []) (by as_aux_lemma => kernel_rfl) An enters22 (nearest_ok E w.heap.size T1 Bl1 (bsy l l.length) px py ((ordS ltH (radL px py r (bsy l l.length))).length : Int) w7 hs2r hq4 (hO.own _ (List.Mem.tail _ (List.Mem.tail _ (List.Mem.head _)))) (by have := hk0.size; omega) (by first | omega | (simp; omega) | (simp; done) | (rw [bsy_len]; omega)) (by omega) (hG.keep hk0 (fun _ h => h))) ?_
         clear hf; rintro _ w8 a ⟨a'4, c'4, rfl, hk, hx4⟩ hf
         have hO := hO.more hM hk (by have := hk0.size; omega) hx4
         replace hO : OwnOk w.heap.size [⟨B1, 46, [iV px, iV py]⟩] [oS 39 2 (.slice a'4 ((nearL px py ((ordS ltH (radL px py r (bsy l l.length))).length : Int) (bsy l l.length)).length) c'4) ((nearL px py ((ordS ltH (radL px py r (bsy l l.length))).length : Int) (bsy l l.length)).length) (flat fH (nearL px py ((ordS ltH (radL px py r (bsy l l.length))).length : Int) (bsy l l.length))), oS 39 2 (.slice a'3 ((ordS ltH (radL px py (r + 1) (bsy l l.length))).length) c'3) ((ordS ltH (radL px py (r + 1) (bsy l l.length))).length) (flat fH (ordS ltH (radL px py (r + 1) (bsy l l.length)))), oS 39 2 (.slice a'2 ((ordS ltH (radL px py r (bsy l l.length))).length) c'2) ((ordS ltH (radL px py r (bsy l l.length))).length) (flat fH (ordS ltH (radL px py r (bsy l l.length)))), oTree 72 68 T1 Bl1 (bsy l l.length), oS 85 6 (.slice a'1 (bsy l l.length).length c'1) (bsy l l.length).length (flat fBx (bsy l l.length))] _ := hO
         have hM := hM.keepNn hk
         have hk0 := hk0.trans hk.nn
         clear hk
         refine q0 hf hM [13, 12, 10] [{}, {}, {}, {}, {}] (nw := [(15, .val (.nilIface)), (14, eS a'4 ((nearL px py ((ordS ltH (radL px py r (bsy l l.length))).length : Int) (bsy l l.length)).length) c'4)]) An ?_
         clear hf; intro a hf
         refine wpList_nil ?_
         refine hK15 _ _ ?_
         refine wp_seq_k (fun K16 hK16 => ?_)
         refine wp_seq_k (fun K17 hK17 => ?_)
         refine wp_region_lit ?_
         refine q0 hf hM [14, 12, 10] [{}, {}, {}, {}, {}, {}, {}, {}, {}, {}, {}, { hint := some (bV false) }, {}, {}, {}, {}, {}, {}, { hint := some (bV false) }, {}] (nw := [(83, eB false)]) (ob := [false = false, false = false, false = false, false = false, false = false, false = false, false = false, (bV (decide (((((ordS ltH (radL px py (r + 1) (bsy l l.length))).length : Nat) : Int) : Int) < ((ordS ltH (radL px py r (bsy l l.length))).length : Int))) : Value) = (bV false : Value), false = false, false = false, false = false, false = false, false = false, (bV ((((nearL px py ((ordS ltH (radL px py r (bsy l l.length))).length : Int) (bsy l l.length)).length : Int) : Int) != ((ordS ltH (radL px py r (bsy l l.length))).length : Int)) : Value) = (bV false : Value)]) (Ac rfl (Ac rfl (Ac rfl (Ac rfl (Ac rfl (Ac rfl (Ac rfl (Ac (congrArg Value.bool (decide_eq_false (by omega))) (Ac rfl (Ac rfl (Ac rfl (Ac rfl (Ac rfl (Ao (congrArg Value.bool (by rw [hrf.1]; simp)))))))))))))))) ?_
         clear hf; intro a hf
         refine wpList_nil ?_
         refine hK17 _ _ ?_
         refine sxcond hf (b := false) (by kernel_rfl) (fun h => by cases h) (fun _ => ?_)
         refine wp_skip ?_
         refine hK16 _ _ ?_
         refine wp_seq_k (fun K18 hK18 => ?_)
         refine wp_seq_k (fun K19 hK19 => ?_)
         refine wp_region_lit ?_
         refine q0 hf hM [14, 12] [{}, {}, {}] (nw := [(86, eI 0), (85, eI ((ordS ltH (radL px py r (bsy l l.length))).length : Int)), (84, eS a'2 ((ordS ltH (radL px py r (bsy l l.length))).length) c'2)]) An ?_
         clear hf; intro a hf
         refine wpList_nil ?_
         refine hK19 _ _ ?_
         refine wp_block ?_
         have hf := (hf.prune [12, 14, 84, 85, 86]).to (env' := [(12, eS a'3 ((ordS ltH (radL px py (r + 1) (bsy l l.length))).length) c'3), (14, eS a'4 ((nearL px py ((ordS ltH (radL px py r (bsy l l.length))).length : Int) (bsy l l.length)).length) c'4), (84, eS a'2 ((ordS ltH (radL px py r (bsy l l.length))).length) c'2), (85, eI ((ordS ltH (radL px py r (bsy l l.length))).length : Int)), (86, eI 0)]) (by kernel_rfl)
         refine sxloop (fun zm a w1 => ∃ (i : Int), zm = (((ordS ltH (radL px py r (bsy l l.length))).length : Int) - i).toNat ∧ Fr 101 [(12, eS a'3 ((ordS ltH (radL px py (r + 1) (bsy l l.length))).length) c'3), (14, eS a'4 ((nearL px py ((ordS ltH (radL px py r (bsy l l.length))).length : Int) (bsy l l.length)).length) c'4), (84, eS a'2 ((ordS ltH (radL px py r (bsy l l.length))).length) c'2), (85, eI ((ordS ltH (radL px py r (bsy l l.length))).length : Int)), (86, eI i)] a ∧ MemOk [⟨B1, 46, [iV px, iV py]⟩] w1 ∧ Keep Nn w w1 ∧ OwnOk w.heap.size [⟨B1, 46, [iV px, iV py]⟩] [oS 39 2 (.slice a'4 ((nearL px py ((ordS ltH (radL px py r (bsy l l.length))).length : Int) (bsy l l.length)).length) c'4) ((nearL px py ((ordS ltH (radL px py r (bsy l l.length))).length : Int) (bsy l l.length)).length) (flat fH (nearL px py ((ordS ltH (radL px py r (bsy l l.length))).length : Int) (bsy l l.length))), oS 39 2 (.slice a'3 ((ordS ltH (radL px py (r + 1) (bsy l l.length))).length) c'3) ((ordS ltH (radL px py (r + 1) (bsy l l.length))).length) (flat fH (ordS ltH (radL px py (r + 1) (bsy l l.length)))), oS 39 2 (.slice a'2 ((ordS ltH (radL px py r (bsy l l.length))).length) c'2) ((ordS ltH (radL px py r (bsy l l.length))).length) (flat fH (ordS ltH (radL px py r (bsy l l.length)))), oTree 72 68 T1 Bl1 (bsy l l.length), oS 85 6 (.slice a'1 (bsy l l.length).length c'1) (bsy l l.length).length (flat fBx (bsy l l.length))] w1 ∧ (0 ≤ i ∧ i ≤ ((ordS ltH (radL px py r (bsy l l.length))).length : Int))) _ ⟨0, rfl, hf.conv (Ac rfl (Ac rfl (Ac rfl (Ac rfl (Ao rfl))))), hM, hk0, hO, (by omega)⟩ ?_
         clear hf hM hk0 hO
         rintro _ a w9 ⟨i, rfl, hf, hM, hk0, hO, hi⟩ L1 hL1
         refine wp_seq_k (fun K20 hK20 => ?_)
         refine wp_region_lit ?_
         refine q0 hf hM [12, 14, 84, 85, 86] [{}] (nw := [(87, eB (decide ((i : Int) < ((ordS ltH (radL px py r (bsy l l.length))).length : Int))))]) An ?_
         clear hf; intro a hf
         refine wpList_nil ?_
         refine hK20 _ _ ?_
         refine wp_seq_k (fun K21 hK21 => ?_)
         refine qc hf (b := (decide ((i : Int) < ((ordS ltH (radL px py r (bsy l l.length))).length : Int)))) (fun hc6r => ?_) (fun hc6r => ?_)
         · have hc6 := (nT hc6r)
           refine wp_skip ?_
           refine hK21 _ _ ?_
           refine wp_seq_k (fun K22 hK22 => ?_)
           refine wp_block ?_
           refine wp_seq_k (fun K23 hK23 => ?_)
           refine wp_region_lit ?_
           refine q1 hf hM [12, 14, 84, 85, 86] [{ sp := true }, { os := [.ex (iV (((ordS ltH (radL px py r (bsy l l.length))).getD i.toNat ⟨0, 0⟩).i)), .ex (iV (((ordS ltH (radL px py r (bsy l l.length))).getD i.toNat ⟨0, 0⟩).g))] }, { os := [.nw] }, { os := [.st 1 0, .st 1 1] }] (nw := fun B21 => [(17, eP B21 0)]) (M' := fun B21 => [⟨B1, 46, [iV px, iV py]⟩, ⟨B21, 39, [iV (((ordS ltH (radL px py r (bsy l l.length))).getD i.toNat ⟨0, 0⟩).i), iV (((ordS ltH (radL px py r (bsy l l.length))).getD i.toNat ⟨0, 0⟩).g)]⟩]) (ob := fun B21 => [(0 : Int) ≤ i ∧ i < ((ordS ltH (radL px py r (bsy l l.length))).length : Int), (a'2 : Option Addr).isSome = true, w9.cell? (((sa a'2 : Addr).add (i.toNat * 2)).add 0) = some (iV (((ordS ltH (radL px py r (bsy l l.length))).getD i.toNat ⟨0, 0⟩).i)), w9.cell? (((sa a'2 : Addr).add (i.toNat * 2)).add 1) = some (iV (((ordS ltH (radL px py r (bsy l l.length))).getD i.toNat ⟨0, 0⟩).g)), Ad B21 0, Ad B21 1]) (fun B21 => (Ac (by first | omega | (simp; done)) (Ac ((own_arr (hO.own _ (List.Mem.tail _ (List.Mem.tail _ (List.Mem.head _))))).some_ (by first | omega | (simp; done))) (Ac ((own_arr (hO.own _ (List.Mem.tail _ (List.Mem.tail _ (List.Mem.head _))))).get (fun _ => rfl) (by first | omega | (simp; done)) rfl) (Ac ((own_arr (hO.own _ (List.Mem.tail _ (List.Mem.tail _ (List.Mem.head _))))).get (fun _ => rfl) (by first | omega | (simp; done)) rfl) (Ac (ad _ _) (Ao (ad _ _)))))))) ?_
           clear hf hM; intro a w10 B21 hf hM hB hk
           have hbB21 : w.heap.size ≤ B21 := by have := hk0.size; omega
           have hk0 := hk0.thenNew hk (by simp [Mem.names] <;> omega)
           have hO := hO.step hM hk (by intro i h; simp only [Mem.names, List.map_cons, List.map_nil, List.mem_cons, List.not_mem_nil, or_false, List.map_append, List.cons_append, List.nil_append] at h ⊢; omega)
           clear hk hB
           refine wpList_nil ?_
           refine hK23 _ _ ?_
           refine wp_seq_k (fun K24 hK24 => ?_)
           have hmi : ((ordS ltH (radL px py r (bsy l l.length))).getD i.toNat ⟨0, 0⟩) ∈ (ordS ltH (radL px py r (bsy l l.length))) := by rw [List.getD_eq_getElem?_getD, List.getElem?_eq_getElem (by omega)]; exact List.getElem_mem _
           have hi1 : inS (ordS ltH (radL px py (r + 1) (bsy l l.length))) (⟨(((ordS ltH (radL px py r (bsy l l.length))).getD i.toNat ⟨0, 0⟩).i), (((ordS ltH (radL px py r (bsy l l.length))).getD i.toNat ⟨0, 0⟩).g)⟩ : H2) = true := decide_eq_true (rad_sub hr0.1 hmi)
           have hi2 : inS (nearL px py ((ordS ltH (radL px py r (bsy l l.length))).length : Int) (bsy l l.length)) (⟨(((ordS ltH (radL px py r (bsy l l.length))).getD i.toNat ⟨0, 0⟩).i), (((ordS ltH (radL px py r (bsy l l.length))).getD i.toNat ⟨0, 0⟩).g)⟩ : H2) = true := decide_eq_true (hrf.2 _ hmi)
           refine wp_region_lit ?_
           refine q0 hf hM [17, 12, 14, 84, 85, 86] [{}, { os := [.ld 1 0, .ld 1 1] }] (nw := [(91, .val (.agg #[iV (((ordS ltH (radL px py r (bsy l l.length))).getD i.toNat ⟨0, 0⟩).i), iV (((ordS ltH (radL px py r (bsy l l.length))).getD i.toNat ⟨0, 0⟩).g)])), (90, eS a'3 ((ordS ltH (radL px py (r + 1) (bsy l l.length))).length) c'3)]) (ob := [Ad B21 0, Ad B21 1]) (Ac (ad _ _) (Ao (ad _ _))) ?_
           clear hf; intro a hf
           refine sxcall hf rfl rfl rfl rfl (g := 23) (vs := [.slice a'3 ((ordS ltH (radL px py (r + 1) (bsy l l.length))).length) c'3, .agg #[iV (((ordS ltH (radL px py r (bsy l l.length))).getD i.toNat ⟨0, 0⟩).i), iV (((ordS ltH (radL px py r (bsy l l.length))).getD i.toNat ⟨0, 0⟩).g)]]) (ob := []) (by as_aux_lemma => kernel_rfl) An enters23 (rhas a'3 (ordS ltH (radL px py (r + 1) (bsy l l.length))) c'3 (((ordS ltH (radL px py r (bsy l l.length))).getD i.toNat ⟨0, 0⟩).i) (((ordS ltH (radL px py r (bsy l l.length))).getD i.toNat ⟨0, 0⟩).g) w10  (own_arr (hO.own _ (List.Mem.tail _ (List.Mem.head _)))) (by first | omega | (simp; omega) | (simp; done) | exact Nat.le_trans (byKinds_len _ _) (by omega) | decide)) ?_
           clear hf; rintro _ w11 a ⟨rfl, hk⟩ hf
           have hO := hO.keepNn hk
           have hM := hM.keepNn hk
           have hk0 := hk0.trans hk.nn
           clear hk
           refine q0 hf hM [17, 12, 14, 84, 85, 86] [{}, {}] (nw := [(94, eB (!(inS (ordS ltH (radL px py (r + 1) (bsy l l.length))) (⟨(((ordS ltH (radL px py r (bsy l l.length))).getD i.toNat ⟨0, 0⟩).i), (((ordS ltH (radL px py r (bsy l l.length))).getD i.toNat ⟨0, 0⟩).g)⟩ : H2))))]) An ?_
           clear hf; intro a hf
           have hf := hf.setb 94 ((congrArg Bool.not hi1).trans rfl : (!(inS (ordS ltH (radL px py (r + 1) (bsy l l.length))) (⟨(((ordS ltH (radL px py r (bsy l l.length))).getD i.toNat ⟨0, 0⟩).i), (((ordS ltH (radL px py r (bsy l l.length))).getD i.toNat ⟨0, 0⟩).g)⟩ : H2)) : Bool) = false)
           refine q0 hf hM [94, 12, 14, 84, 85, 86] [{}, { os := [.ld 1 0, .ld 1 1] }] (nw := [(96, .val (.agg #[iV (((ordS ltH (radL px py r (bsy l l.length))).getD i.toNat ⟨0, 0⟩).i), iV (((ordS ltH (radL px py r (bsy l l.length))).getD i.toNat ⟨0, 0⟩).g)])), (95, eS a'4 ((nearL px py ((ordS ltH (radL px py r (bsy l l.length))).length : Int) (bsy l l.length)).length) c'4)]) (ob := [false = false, false = false, Ad B21 0, Ad B21 1]) (Ac rfl (Ac rfl (Ac (ad _ _) (Ao (ad _ _))))) ?_
           clear hf; intro a hf
           refine sxcallg hf rfl rfl rfl rfl rfl (g := 23) (vs := [.slice a'4 ((nearL px py ((ordS ltH (radL px py r (bsy l l.length))).length : Int) (bsy l l.length)).length) c'4, .agg #[iV (((ordS ltH (radL px py r (bsy l l.length))).getD i.toNat ⟨0, 0⟩).i), iV (((ordS ltH (radL px py r (bsy l l.length))).getD i.toNat ⟨0, 0⟩).g)]]) (ob := []) (by as_aux_lemma => kernel_rfl) An enters23 (rhas a'4 (nearL px py ((ordS ltH (radL px py r (bsy l l.length))).length : Int) (bsy l l.length)) c'4 (((ordS ltH (radL px py r (bsy l l.length))).getD i.toNat ⟨0, 0⟩).i) (((ordS ltH (radL px py r (bsy l l.length))).getD i.toNat ⟨0, 0⟩).g) w11  (own_arr (hO.own _ (List.Mem.head _))) (by first | omega | (simp; omega) | (simp; done) | exact Nat.le_trans (byKinds_len _ _) (by omega) | decide)) ?_
           clear hf; rintro _ w12 a ⟨rfl, hk⟩ hf
           have hO := hO.keepNn hk
           have hM := hM.keepNn hk
           have hk0 := hk0.trans hk.nn
           clear hk
           refine q0 hf hM [97, 96, 95, 12, 14, 84, 85, 86] [{}, {}] (nw := [(99, eB (!(inS (nearL px py ((ordS ltH (radL px py r (bsy l l.length))).length : Int) (bsy l l.length)) (⟨(((ordS ltH (radL px py r (bsy l l.length))).getD i.toNat ⟨0, 0⟩).i), (((ordS ltH (radL px py r (bsy l l.length))).getD i.toNat ⟨0, 0⟩).g)⟩ : H2)))), (98, eB (!(inS (nearL px py ((ordS ltH (radL px py r (bsy l l.length))).length : Int) (bsy l l.length)) (⟨(((ordS ltH (radL px py r (bsy l l.length))).getD i.toNat ⟨0, 0⟩).i), (((ordS ltH (radL px py r (bsy l l.length))).getD i.toNat ⟨0, 0⟩).g)⟩ : H2))))]) (ob := [false = false]) (Ao rfl) ?_
           clear hf; intro a hf
           refine wpList_nil ?_
           refine hK24 _ _ ?_
           refine sxcond hf (b := !(inS (nearL px py ((ordS ltH (radL px py r (bsy l l.length))).length : Int) (bsy l l.length)) (⟨(((ordS ltH (radL px py r (bsy l l.length))).getD i.toNat ⟨0, 0⟩).i), (((ordS ltH (radL px py r (bsy l l.length))).getD i.toNat ⟨0, 0⟩).g)⟩ : H2))) (by kernel_rfl) (fun h => absurd (h.symm.trans ((congrArg Bool.not hi2).trans rfl : (!(inS (nearL px py ((ordS ltH (radL px py r (bsy l l.length))).length : Int) (bsy l l.length)) (⟨(((ordS ltH (radL px py r (bsy l l.length))).getD i.toNat ⟨0, 0⟩).i), (((ordS ltH (radL px py r (bsy l l.length))).getD i.toNat ⟨0, 0⟩).g)⟩ : H2)) : Bool) = false)) (by simp)) (fun _ => ?_)
           refine wp_skip ?_
           refine hK22 _ _ ?_
           refine wp_region_lit ?_
           refine q0 hf hM [98, 97, 96, 95, 12, 14, 84, 85] [{ hint := some (iV (i + 1)) }, {}] (nw := [(86, eI (i + 1))]) (ob := [(iV (IntKind.i64.wrap (i + 1)) : Value) = (iV (i + 1) : Value)]) (Ao (wr (by omega))) ?_
           clear hf; intro a hf
           refine wpList_nil ?_
           have hf := (hf.prune [12, 14, 84, 85, 86]).to (env' := [(12, eS a'3 ((ordS ltH (radL px py (r + 1) (bsy l l.length))).length) c'3), (14, eS a'4 ((nearL px py ((ordS ltH (radL px py r (bsy l l.length))).length : Int) (bsy l l.length)).length) c'4), (84, eS a'2 ((ordS ltH (radL px py r (bsy l l.length))).length) c'2), (85, eI ((ordS ltH (radL px py r (bsy l l.length))).length : Int)), (86, eI (i + 1))]) (by kernel_rfl)
           replace hO : OwnOk w.heap.size [⟨B1, 46, [iV px, iV py]⟩] [oS 39 2 (.slice a'4 ((nearL px py ((ordS ltH (radL px py r (bsy l l.length))).length : Int) (bsy l l.length)).length) c'4) ((nearL px py ((ordS ltH (radL px py r (bsy l l.length))).length : Int) (bsy l l.length)).length) (flat fH (nearL px py ((ordS ltH (radL px py r (bsy l l.length))).length : Int) (bsy l l.length))), oS 39 2 (.slice a'3 ((ordS ltH (radL px py (r + 1) (bsy l l.length))).length) c'3) ((ordS ltH (radL px py (r + 1) (bsy l l.length))).length) (flat fH (ordS ltH (radL px py (r + 1) (bsy l l.length)))), oS 39 2 (.slice a'2 ((ordS ltH (radL px py r (bsy l l.length))).length) c'2) ((ordS ltH (radL px py r (bsy l l.length))).length) (flat fH (ordS ltH (radL px py r (bsy l l.length)))), oTree 72 68 T1 Bl1 (bsy l l.length), oS 85 6 (.slice a'1 (bsy l l.length).length c'1) (bsy l l.length).length (flat fBx (bsy l l.length))] w12 := hO.sub (.cons_cons _ (.cons _ .slnil)) (List.Sublist.refl _)
           replace hM : MemOk [⟨B1, 46, [iV px, iV py]⟩] w12 := hM.sub (.cons_cons _ (.cons _ .slnil))
           refine hL1 _ _ _ (by omega) ⟨i + 1, rfl, hf.conv (Ac rfl (Ac rfl (Ac rfl (Ac rfl (Ao rfl))))), hM, hk0, hO, (by omega)⟩
         · have hc6 := (nU hc6r)
           refine wp_exit ?_
           refine hK18 _ _ ?_
           refine wp_seq_k (fun K25 hK25 => ?_)
           refine wp_region_lit ?_
           refine q0 hf hM [] [{}] (nw := [(6, eB true)]) An ?_
           clear hf; intro a hf
           refine wpList_nil ?_
           refine hK25 _ _ ?_
           refine wp_ret ?_
           refine qr (fn := Tryd.f4) hf hM [] (l := [bV true]) (ob := []) An ?_
           show (bV true : Value) = .bool true ∧ Keep Nn w w9
           exact ⟨rfl, hk0⟩
     · have hs2 := hs2r
       refine sxcall hf rfl rfl rfl rfl (g := 20) (vs := [pV T1 0, .agg #[iV px, iV py], iV r]) (ob := []) (by as_aux_lemma => kernel_rfl) An enters20 (radius_no1 E T1 px py r w3 hs2r (hG.keep hk0 (fun _ h => h))) ?_
       clear hf; rintro _ w13 a ⟨rfl, hk⟩ hf
       have hO := hO.keepNn hk
       have hM := hM.keepNn hk
       have hk0 := hk0.trans hk.nn
       clear hk
       refine q0 hf hM [7, 4, 2] [{}, {}, {}, {}, {}] (nw := [(11, .val (.iface 161 (.pointer (some (E 1))))), (10, eS none 0 0)]) An ?_
       clear hf; intro a hf
       refine wpList_nil ?_
       refine hK8 _ _ ?_
       refine wp_seq_k (fun K26 hK26 => ?_)
       refine wp_seq_k (fun K27 hK27 => ?_)
       refine wp_region_lit ?_
       refine q0 hf hM [10, 7, 4, 2] [{}, {}] (nw := [(44, eB true)]) An ?_
       clear hf; intro a hf
       refine wpList_nil ?_
       refine hK27 _ _ ?_
       refine sxcond hf (b := true) (by kernel_rfl) (fun _ => ?_) (fun h => by cases h)
       refine wp_seq_k (fun K28 hK28 => ?_)
       refine wp_region_lit ?_
       refine q0 hf hM [] [{ os := [.ld 0 0, .ld 0 1] }] (nw := [(45, .val (.agg #[iV px, iV py]))]) (ob := [Ad B1 0, Ad B1 1]) (Ac (ad _ _) (Ao (ad _ _))) ?_
       clear hf; intro a hf
       refine sxcall hf rfl rfl rfl rfl (g := 21) (vs := [.agg #[iV px, iV py]]) (ob := []) (by as_aux_lemma => kernel_rfl) An enters21 (rplace px py w13  ) ?_
       clear hf; rintro _ w14 a ⟨rfl, hk⟩ hf
       have hO := hO.keepNn hk
       have hM := hM.keepNn hk
       have hk0 := hk0.trans hk.nn
       clear hk
       refine q0 hf hM [] [{}, {}] (nw := [(6, eB (!(ofOk px py 0 0)))]) An ?_
       clear hf; intro a hf
       refine wpList_nil ?_
       refine hK28 _ _ ?_
       refine wp_ret ?_
       refine qr (fn := Tryd.f4) hf hM [] (l := [bV (!(ofOk px py 0 0))]) (ob := []) An ?_
       show (bV (!(ofOk px py 0 0)) : Value) = .bool true ∧ Keep Nn w w14
       refine ⟨congrArg Value.bool ?_, hk0⟩
       simp_all
 · have hs1 := hs1r
   refine sxcall hf rfl rfl rfl rfl (g := 19) (vs := [.slice av l.length c]) (ob := []) (by as_aux_lemma => kernel_rfl) An enters19 (filled_no E av l c w2 hs1r (hG.keep hk0 (fun _ h => h)) (hav.keepNn hk0)) ?_
   clear hf; rintro _ w15 a ⟨T2, n'1, a'5, c'5, rfl, hk⟩ hf
   have hM := hM.keepNn hk
   have hk0 := hk0.trans hk.nn
   clear hk
   refine q0 hf hM [4, 2] [{}, {}, {}, {}, {}, {}, {}] (nw := [(9, eB false), (7, eP T2 0)]) An ?_
   clear hf; intro a hf
   refine wpList_nil ?_
   refine hK4 _ _ ?_
   refine wp_seq_k (fun K29 hK29 => ?_)
   refine wp_seq_k (fun K30 hK30 => ?_)
   refine wp_region_lit ?_
   refine q0 hf hM [7, 4, 2] [{}, {}, {}, { g := .off }, { g := .off }, {}, {}, { g := .off }, { g := .off }, {}] (nw := [(35, eB true)]) (ob := [true = !false, true = !false, true = !false, true = !false]) (Ac rfl (Ac rfl (Ac rfl (Ao rfl)))) ?_
   clear hf; intro a hf
   refine wpList_nil ?_
   refine hK30 _ _ ?_
   refine sxcond hf (b := true) (by kernel_rfl) (fun _ => ?_) (fun h => by cases h)
   refine wp_seq_k (fun K31 hK31 => ?_)
   refine wp_region_lit ?_
   refine q0 hf hM [] [{}] (nw := [(6, eB true)]) An ?_
   clear hf; intro a hf
   refine wpList_nil ?_
   refine hK31 _ _ ?_
   refine wp_ret ?_
   refine qr (fn := Tryd.f4) hf hM [] (l := [bV true]) (ob := []) An ?_
   show (bV true : Value) = .bool true ∧ Keep Nn w w15
   exact ⟨rfl, hk0⟩
end Go.Proofs.YthofalkkdpjdlaaDoor
