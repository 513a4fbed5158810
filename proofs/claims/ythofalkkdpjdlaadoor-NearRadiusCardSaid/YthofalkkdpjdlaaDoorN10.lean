/- layer 13: the chapter's example -/
import Derived.Test.YthofalkkdpjdlaaDoorN9
namespace Go.Proofs.YthofalkkdpjdlaaDoor
open Go.Px
set_option linter.unusedVariables false
set_option linter.unusedSimpArgs false

set_option maxRecDepth 10000 in
set_option maxHeartbeats 1600000 in
theorem alive13 (E : Nat → Addr) (w : World) (hG : Errs [1, 3, 0] w 161 E) :
    Calls Tryd.prog 18 #[] w (Ret fun v w' => v = .bool true ∧ Keep Nn w w') := by
 refine sxenter (n := 54) (args := []) Tryd.func18 rfl rfl rfl fun a hf => ?_
 replace hf : Fr 54 [] a := hf
 have hM : MemOk [] w := MemOk.nil w
 have hk0 : Keep Nn w w := Keep.refl _ _
 have hg3 : goodL ([⟨0, 0, 0, 0⟩, ⟨3, 4, 3, 4⟩, ⟨9, 0, 9, 0⟩] : List B4) = true := by decide
 have ho1 : ofOk 0 0 0 0 = true := by decide
 have ho2 : ofOk 8 0 0 0 = true := by decide
 have hd1 : decide ((5 : Int) < 0) = false := by decide
 have hd2 : decide ((5 : Int) > 4194304) = false := by decide
 have hd3 : decide ((1 : Int) < 0) = false := by decide
 have hl1 : (nearL 8 0 1 (bsy ([⟨0, 0, 0, 0⟩, ⟨3, 4, 3, 4⟩, ⟨9, 0, 9, 0⟩] : List B4) ([⟨0, 0, 0, 0⟩, ⟨3, 4, 3, 4⟩, ⟨9, 0, 9, 0⟩] : List B4).length)).length = 1 := by decide
 have hl3 : (bsy ([⟨0, 0, 0, 0⟩, ⟨3, 4, 3, 4⟩, ⟨9, 0, 9, 0⟩] : List B4) ([⟨0, 0, 0, 0⟩, ⟨3, 4, 3, 4⟩, ⟨9, 0, 9, 0⟩] : List B4).length).length = 3 := by decide
 have hl2 : (ordS ltH (radL 0 0 5 (bsy ([⟨0, 0, 0, 0⟩, ⟨3, 4, 3, 4⟩, ⟨9, 0, 9, 0⟩] : List B4) ([⟨0, 0, 0, 0⟩, ⟨3, 4, 3, 4⟩, ⟨9, 0, 9, 0⟩] : List B4).length))).length = 2 := by decide
 refine wp_seq_k (fun K1 hK1 => ?_)
 refine wp_region_lit ?_
 refine q0 hf hM [] [{}] (nw := []) An ?_
 clear hf; intro a hf
 refine wpList_nil ?_
 refine hK1 _ _ ?_
 refine wp_seq_k (fun K2 hK2 => ?_)
 refine wp_region_lit ?_
 refine q0 hf hM [] [{ sp := true }, { sp := true }, { sp := true }] (nw := [(11, .val (.agg #[iV 9, iV 0, iV 9, iV 0])), (10, .val (.agg #[iV 3, iV 4, iV 3, iV 4])), (9, .val (.agg #[iV 0, iV 0, iV 0, iV 0]))]) An ?_
 clear hf; intro a hf
 refine sxbslice hf hM (t := 22) (e := 32) (len := 3) (cs := [iV 0, iV 0, iV 0, iV 0, iV 3, iV 4, iV 3, iV 4, iV 9, iV 0, iV 9, iV 0]) (ob := []) rfl rfl rfl rfl (by as_aux_lemma => kernel_rfl) An (by as_aux_lemma => kernel_rfl) ?_
 clear hf hM; intro a w1 B3 hf hM hB hk
 replace hM : MemOk [⟨B3, 32, [iV 0, iV 0, iV 0, iV 0, iV 3, iV 4, iV 3, iV 4, iV 9, iV 0, iV 9, iV 0]⟩] w1 := hM
 have hbB3 : w.heap.size ≤ B3 := by have := hk0.size; omega
 have hk0 := hk0.trans hk.nn
 clear hk hB
 refine sxcall hf rfl rfl rfl rfl (g := 19) (vs := [.slice (some ⟨B3, 0, none⟩) ([⟨0, 0, 0, 0⟩, ⟨3, 4, 3, 4⟩, ⟨9, 0, 9, 0⟩] : List B4).length 3]) (ob := []) (by as_aux_lemma => kernel_rfl) An enters19 (filled_ok E (some ⟨B3, 0, none⟩) ([⟨0, 0, 0, 0⟩, ⟨3, 4, 3, 4⟩, ⟨9, 0, 9, 0⟩] : List B4) 3 w1 hg3 (hG.keep hk0 (fun _ h => h)) (Arr.of_memT (sz := 4) (f := fB4) (L := ([⟨0, 0, 0, 0⟩, ⟨3, 4, 3, 4⟩, ⟨9, 0, 9, 0⟩] : List B4)) (l := ([⟨0, 0, 0, 0⟩, ⟨3, 4, 3, 4⟩, ⟨9, 0, 9, 0⟩] : List B4)) hM (List.Mem.head _) (fun _ => rfl) rfl rfl)) ?_
 clear hf; rintro _ w2 a ⟨T1, Bl1, a'1, c'1, rfl, hk, hx1, hdb1⟩ hf
 have hO : OwnOk w.heap.size [⟨B3, 32, [iV 0, iV 0, iV 0, iV 0, iV 3, iV 4, iV 3, iV 4, iV 9, iV 0, iV 9, iV 0]⟩] [] w1 := OwnOk.nil hM
 have hO := hO.moreB hM hk (by have := hk0.size; omega) hx1 hdb1
 replace hO : OwnOk w.heap.size [⟨B3, 32, [iV 0, iV 0, iV 0, iV 0, iV 3, iV 4, iV 3, iV 4, iV 9, iV 0, iV 9, iV 0]⟩] [oAnd (oTree 72 68 T1 Bl1 (bsy ([⟨0, 0, 0, 0⟩, ⟨3, 4, 3, 4⟩, ⟨9, 0, 9, 0⟩] : List B4) ([⟨0, 0, 0, 0⟩, ⟨3, 4, 3, 4⟩, ⟨9, 0, 9, 0⟩] : List B4).length)) (oS 85 6 (.slice a'1 (bsy ([⟨0, 0, 0, 0⟩, ⟨3, 4, 3, 4⟩, ⟨9, 0, 9, 0⟩] : List B4) ([⟨0, 0, 0, 0⟩, ⟨3, 4, 3, 4⟩, ⟨9, 0, 9, 0⟩] : List B4).length).length c'1) (bsy ([⟨0, 0, 0, 0⟩, ⟨3, 4, 3, 4⟩, ⟨9, 0, 9, 0⟩] : List B4) ([⟨0, 0, 0, 0⟩, ⟨3, 4, 3, 4⟩, ⟨9, 0, 9, 0⟩] : List B4).length).length (flat fBx (bsy ([⟨0, 0, 0, 0⟩, ⟨3, 4, 3, 4⟩, ⟨9, 0, 9, 0⟩] : List B4) ([⟨0, 0, 0, 0⟩, ⟨3, 4, 3, 4⟩, ⟨9, 0, 9, 0⟩] : List B4).length)))] _ := hO
 have hM := hM.keepNn hk
 have hk0 := hk0.trans hk.nn
 have hO := hO.split
 clear hk
 refine q0 hf hM [] [{}, {}, {}, {}, {}, {}, {}] (nw := [(3, eB true), (1, eP T1 0)]) An ?_
 clear hf; intro a hf
 refine wpList_nil ?_
 refine hK2 _ _ ?_
 refine wp_seq_k (fun K3 hK3 => ?_)
 refine wp_seq_k (fun K4 hK4 => ?_)
 refine wp_region_lit ?_
 refine q0 hf hM [1] [{}, {}] (nw := [(18, eB false)]) An ?_
 clear hf; intro a hf
 refine wpList_nil ?_
 refine hK4 _ _ ?_
 refine sxcond hf (b := false) (by kernel_rfl) (fun h => by cases h) (fun _ => ?_)
 refine wp_skip ?_
 refine hK3 _ _ ?_
 refine wp_seq_k (fun K5 hK5 => ?_)
 refine wp_region_lit ?_
 refine q0 hf hM [1] [{}, { sp := true }] (nw := [(21, .val (.agg #[iV 0, iV 0])), (20, eP T1 0)]) An ?_
 clear hf; intro a hf
 refine sxcall hf rfl rfl rfl rfl (g := 20) (vs := [pV T1 0, .agg #[iV 0, iV 0], iV 5]) (ob := []) (by as_aux_lemma => kernel_rfl) An enters20 (radius_ok E w.heap.size T1 Bl1 (bsy ([⟨0, 0, 0, 0⟩, ⟨3, 4, 3, 4⟩, ⟨9, 0, 9, 0⟩] : List B4) ([⟨0, 0, 0, 0⟩, ⟨3, 4, 3, 4⟩, ⟨9, 0, 9, 0⟩] : List B4).length) 0 0 5 w2 ho1 hd1 hd2 (hO.own _ (List.Mem.head _)) (by have := hk0.size; omega) (by first | omega | (simp; omega) | (simp; done) | (rw [bsy_len]; omega)) (hG.keep hk0 (fun _ h => h))) ?_
 clear hf; rintro _ w3 a ⟨a'2, c'2, rfl, hk, hx2⟩ hf
 have hO := hO.more hM hk (by have := hk0.size; omega) hx2
 replace hO : OwnOk w.heap.size [⟨B3, 32, [iV 0, iV 0, iV 0, iV 0, iV 3, iV 4, iV 3, iV 4, iV 9, iV 0, iV 9, iV 0]⟩] [oS 39 2 (.slice a'2 ((ordS ltH (radL 0 0 5 (bsy ([⟨0, 0, 0, 0⟩, ⟨3, 4, 3, 4⟩, ⟨9, 0, 9, 0⟩] : List B4) ([⟨0, 0, 0, 0⟩, ⟨3, 4, 3, 4⟩, ⟨9, 0, 9, 0⟩] : List B4).length))).length) c'2) ((ordS ltH (radL 0 0 5 (bsy ([⟨0, 0, 0, 0⟩, ⟨3, 4, 3, 4⟩, ⟨9, 0, 9, 0⟩] : List B4) ([⟨0, 0, 0, 0⟩, ⟨3, 4, 3, 4⟩, ⟨9, 0, 9, 0⟩] : List B4).length))).length) (flat fH (ordS ltH (radL 0 0 5 (bsy ([⟨0, 0, 0, 0⟩, ⟨3, 4, 3, 4⟩, ⟨9, 0, 9, 0⟩] : List B4) ([⟨0, 0, 0, 0⟩, ⟨3, 4, 3, 4⟩, ⟨9, 0, 9, 0⟩] : List B4).length)))), oTree 72 68 T1 Bl1 (bsy ([⟨0, 0, 0, 0⟩, ⟨3, 4, 3, 4⟩, ⟨9, 0, 9, 0⟩] : List B4) ([⟨0, 0, 0, 0⟩, ⟨3, 4, 3, 4⟩, ⟨9, 0, 9, 0⟩] : List B4).length), oS 85 6 (.slice a'1 ((bsy ([⟨0, 0, 0, 0⟩, ⟨3, 4, 3, 4⟩, ⟨9, 0, 9, 0⟩] : List B4) ([⟨0, 0, 0, 0⟩, ⟨3, 4, 3, 4⟩, ⟨9, 0, 9, 0⟩] : List B4).length).length) c'1) ((bsy ([⟨0, 0, 0, 0⟩, ⟨3, 4, 3, 4⟩, ⟨9, 0, 9, 0⟩] : List B4) ([⟨0, 0, 0, 0⟩, ⟨3, 4, 3, 4⟩, ⟨9, 0, 9, 0⟩] : List B4).length).length) (flat fBx (bsy ([⟨0, 0, 0, 0⟩, ⟨3, 4, 3, 4⟩, ⟨9, 0, 9, 0⟩] : List B4) ([⟨0, 0, 0, 0⟩, ⟨3, 4, 3, 4⟩, ⟨9, 0, 9, 0⟩] : List B4).length))] _ := hO
 have hM := hM.keepNn hk
 have hk0 := hk0.trans hk.nn
 clear hk
 refine q0 hf hM [1] [{}, {}, {}, {}, {}] (nw := [(5, .val (.nilIface)), (4, eS a'2 ((ordS ltH (radL 0 0 5 (bsy ([⟨0, 0, 0, 0⟩, ⟨3, 4, 3, 4⟩, ⟨9, 0, 9, 0⟩] : List B4) ([⟨0, 0, 0, 0⟩, ⟨3, 4, 3, 4⟩, ⟨9, 0, 9, 0⟩] : List B4).length))).length) c'2)]) An ?_
 clear hf; intro a hf
 refine wpList_nil ?_
 refine hK5 _ _ ?_
 refine wp_seq_k (fun K6 hK6 => ?_)
 refine wp_region_lit ?_
 refine q0 hf hM [5, 4] [{}, { sp := true }] (nw := [(27, .val (.agg #[iV 8, iV 0])), (26, eP T1 0)]) An ?_
 clear hf; intro a hf
 refine sxcall hf rfl rfl rfl rfl (g := 22) (vs := [pV T1 0, .agg #[iV 8, iV 0], iV 1]) (ob := []) (by as_aux_lemma => kernel_rfl) An enters22 (nearest_ok E w.heap.size T1 Bl1 (bsy ([⟨0, 0, 0, 0⟩, ⟨3, 4, 3, 4⟩, ⟨9, 0, 9, 0⟩] : List B4) ([⟨0, 0, 0, 0⟩, ⟨3, 4, 3, 4⟩, ⟨9, 0, 9, 0⟩] : List B4).length) 8 0 1 w3 ho2 hd3 (hO.own _ (List.Mem.tail _ (List.Mem.head _))) (by have := hk0.size; omega) (by first | omega | (simp; omega) | (simp; done) | (rw [bsy_len]; omega)) (by omega) (hG.keep hk0 (fun _ h => h))) ?_
 clear hf; rintro _ w4 a ⟨a'3, c'3, rfl, hk, hx3⟩ hf
 have hO := hO.more hM hk (by have := hk0.size; omega) hx3
 replace hO : OwnOk w.heap.size [⟨B3, 32, [iV 0, iV 0, iV 0, iV 0, iV 3, iV 4, iV 3, iV 4, iV 9, iV 0, iV 9, iV 0]⟩] [oS 39 2 (.slice a'3 ((nearL 8 0 1 (bsy ([⟨0, 0, 0, 0⟩, ⟨3, 4, 3, 4⟩, ⟨9, 0, 9, 0⟩] : List B4) ([⟨0, 0, 0, 0⟩, ⟨3, 4, 3, 4⟩, ⟨9, 0, 9, 0⟩] : List B4).length)).length) c'3) ((nearL 8 0 1 (bsy ([⟨0, 0, 0, 0⟩, ⟨3, 4, 3, 4⟩, ⟨9, 0, 9, 0⟩] : List B4) ([⟨0, 0, 0, 0⟩, ⟨3, 4, 3, 4⟩, ⟨9, 0, 9, 0⟩] : List B4).length)).length) (flat fH (nearL 8 0 1 (bsy ([⟨0, 0, 0, 0⟩, ⟨3, 4, 3, 4⟩, ⟨9, 0, 9, 0⟩] : List B4) ([⟨0, 0, 0, 0⟩, ⟨3, 4, 3, 4⟩, ⟨9, 0, 9, 0⟩] : List B4).length))), oS 39 2 (.slice a'2 ((ordS ltH (radL 0 0 5 (bsy ([⟨0, 0, 0, 0⟩, ⟨3, 4, 3, 4⟩, ⟨9, 0, 9, 0⟩] : List B4) ([⟨0, 0, 0, 0⟩, ⟨3, 4, 3, 4⟩, ⟨9, 0, 9, 0⟩] : List B4).length))).length) c'2) ((ordS ltH (radL 0 0 5 (bsy ([⟨0, 0, 0, 0⟩, ⟨3, 4, 3, 4⟩, ⟨9, 0, 9, 0⟩] : List B4) ([⟨0, 0, 0, 0⟩, ⟨3, 4, 3, 4⟩, ⟨9, 0, 9, 0⟩] : List B4).length))).length) (flat fH (ordS ltH (radL 0 0 5 (bsy ([⟨0, 0, 0, 0⟩, ⟨3, 4, 3, 4⟩, ⟨9, 0, 9, 0⟩] : List B4) ([⟨0, 0, 0, 0⟩, ⟨3, 4, 3, 4⟩, ⟨9, 0, 9, 0⟩] : List B4).length)))), oTree 72 68 T1 Bl1 (bsy ([⟨0, 0, 0, 0⟩, ⟨3, 4, 3, 4⟩, ⟨9, 0, 9, 0⟩] : List B4) ([⟨0, 0, 0, 0⟩, ⟨3, 4, 3, 4⟩, ⟨9, 0, 9, 0⟩] : List B4).length), oS 85 6 (.slice a'1 ((bsy ([⟨0, 0, 0, 0⟩, ⟨3, 4, 3, 4⟩, ⟨9, 0, 9, 0⟩] : List B4) ([⟨0, 0, 0, 0⟩, ⟨3, 4, 3, 4⟩, ⟨9, 0, 9, 0⟩] : List B4).length).length) c'1) ((bsy ([⟨0, 0, 0, 0⟩, ⟨3, 4, 3, 4⟩, ⟨9, 0, 9, 0⟩] : List B4) ([⟨0, 0, 0, 0⟩, ⟨3, 4, 3, 4⟩, ⟨9, 0, 9, 0⟩] : List B4).length).length) (flat fBx (bsy ([⟨0, 0, 0, 0⟩, ⟨3, 4, 3, 4⟩, ⟨9, 0, 9, 0⟩] : List B4) ([⟨0, 0, 0, 0⟩, ⟨3, 4, 3, 4⟩, ⟨9, 0, 9, 0⟩] : List B4).length))] _ := hO
 have hM := hM.keepNn hk
 have hk0 := hk0.trans hk.nn
 clear hk
 refine q0 hf hM [5, 4] [{}, {}, {}, {}, {}] (nw := [(7, .val (.nilIface)), (6, eS a'3 ((nearL 8 0 1 (bsy ([⟨0, 0, 0, 0⟩, ⟨3, 4, 3, 4⟩, ⟨9, 0, 9, 0⟩] : List B4) ([⟨0, 0, 0, 0⟩, ⟨3, 4, 3, 4⟩, ⟨9, 0, 9, 0⟩] : List B4).length)).length) c'3)]) An ?_
 clear hf; intro a hf
 refine wpList_nil ?_
 refine hK6 _ _ ?_
 refine wp_seq_k (fun K7 hK7 => ?_)
 refine wp_region_lit ?_
 refine q0 hf hM [] [{}, {}, {}, {}, {}, {}, {}, {}, {}, { hint := some (bV true) }, {}, {}, {}, {}, { hint := some (bV true) }, {}, {}, {}, { sp := true }, { os := [.ex (iV (((nearL 8 0 1 (bsy ([⟨0, 0, 0, 0⟩, ⟨3, 4, 3, 4⟩, ⟨9, 0, 9, 0⟩] : List B4) ([⟨0, 0, 0, 0⟩, ⟨3, 4, 3, 4⟩, ⟨9, 0, 9, 0⟩] : List B4).length)).getD (0 : Int).toNat ⟨0, 0⟩).i)), .ex (iV (((nearL 8 0 1 (bsy ([⟨0, 0, 0, 0⟩, ⟨3, 4, 3, 4⟩, ⟨9, 0, 9, 0⟩] : List B4) ([⟨0, 0, 0, 0⟩, ⟨3, 4, 3, 4⟩, ⟨9, 0, 9, 0⟩] : List B4).length)).getD (0 : Int).toNat ⟨0, 0⟩).g))] }, { sp := true }, { sp := true, hint := some (bV true) }, {}, {}] (nw := [(0, eB true)]) (ob := [true = true, true = true, true = true, true = true, true = true, (bV ((((ordS ltH (radL 0 0 5 (bsy ([⟨0, 0, 0, 0⟩, ⟨3, 4, 3, 4⟩, ⟨9, 0, 9, 0⟩] : List B4) ([⟨0, 0, 0, 0⟩, ⟨3, 4, 3, 4⟩, ⟨9, 0, 9, 0⟩] : List B4).length))).length : Int) : Int) == 2) : Value) = (bV true : Value), true = true, true = true, true = true, (bV ((((nearL 8 0 1 (bsy ([⟨0, 0, 0, 0⟩, ⟨3, 4, 3, 4⟩, ⟨9, 0, 9, 0⟩] : List B4) ([⟨0, 0, 0, 0⟩, ⟨3, 4, 3, 4⟩, ⟨9, 0, 9, 0⟩] : List B4).length)).length : Int) : Int) == 1) : Value) = (bV true : Value), true = true, true = true, (0 : Int) ≤ 0 ∧ 0 < ((nearL 8 0 1 (bsy ([⟨0, 0, 0, 0⟩, ⟨3, 4, 3, 4⟩, ⟨9, 0, 9, 0⟩] : List B4) ([⟨0, 0, 0, 0⟩, ⟨3, 4, 3, 4⟩, ⟨9, 0, 9, 0⟩] : List B4).length)).length : Int), (a'3 : Option Addr).isSome = true, true = true, w4.cell? (((sa a'3 : Addr).add ((0 : Int).toNat * 2)).add 0) = some (iV (((nearL 8 0 1 (bsy ([⟨0, 0, 0, 0⟩, ⟨3, 4, 3, 4⟩, ⟨9, 0, 9, 0⟩] : List B4) ([⟨0, 0, 0, 0⟩, ⟨3, 4, 3, 4⟩, ⟨9, 0, 9, 0⟩] : List B4).length)).getD (0 : Int).toNat ⟨0, 0⟩).i)), w4.cell? (((sa a'3 : Addr).add ((0 : Int).toNat * 2)).add 1) = some (iV (((nearL 8 0 1 (bsy ([⟨0, 0, 0, 0⟩, ⟨3, 4, 3, 4⟩, ⟨9, 0, 9, 0⟩] : List B4) ([⟨0, 0, 0, 0⟩, ⟨3, 4, 3, 4⟩, ⟨9, 0, 9, 0⟩] : List B4).length)).getD (0 : Int).toNat ⟨0, 0⟩).g)), true = true, true = true, (bV ((((((nearL 8 0 1 (bsy ([⟨0, 0, 0, 0⟩, ⟨3, 4, 3, 4⟩, ⟨9, 0, 9, 0⟩] : List B4) ([⟨0, 0, 0, 0⟩, ⟨3, 4, 3, 4⟩, ⟨9, 0, 9, 0⟩] : List B4).length)).getD (0 : Int).toNat ⟨0, 0⟩).i) : Int) == 14) && ((((((nearL 8 0 1 (bsy ([⟨0, 0, 0, 0⟩, ⟨3, 4, 3, 4⟩, ⟨9, 0, 9, 0⟩] : List B4) ([⟨0, 0, 0, 0⟩, ⟨3, 4, 3, 4⟩, ⟨9, 0, 9, 0⟩] : List B4).length)).getD (0 : Int).toNat ⟨0, 0⟩).g) : Int) == 1) && true)) : Value) = (bV true : Value)]) (Ac rfl (Ac rfl (Ac rfl (Ac rfl (Ac rfl (Ac (congrArg Value.bool (by rw [hl2]; rfl)) (Ac rfl (Ac rfl (Ac rfl (Ac (congrArg Value.bool (by rw [hl1]; rfl)) (Ac rfl (Ac rfl (Ac (by rw [hl1]; omega) (Ac ((own_arr (hO.own _ (List.Mem.head _))).some_ (by first | omega | (simp; done))) (Ac rfl (Ac ((own_arr (hO.own _ (List.Mem.head _))).get (fun _ => rfl) (by first | omega | (simp; done)) rfl) (Ac ((own_arr (hO.own _ (List.Mem.head _))).get (fun _ => rfl) (by first | omega | (simp; done)) rfl) (Ac rfl (Ac rfl (Ao (Eq.trans (show (bV ((((((nearL 8 0 1 (bsy ([⟨0, 0, 0, 0⟩, ⟨3, 4, 3, 4⟩, ⟨9, 0, 9, 0⟩] : List B4) ([⟨0, 0, 0, 0⟩, ⟨3, 4, 3, 4⟩, ⟨9, 0, 9, 0⟩] : List B4).length)).getD (0 : Int).toNat ⟨0, 0⟩).i) : Int) == 14) && ((((((nearL 8 0 1 (bsy ([⟨0, 0, 0, 0⟩, ⟨3, 4, 3, 4⟩, ⟨9, 0, 9, 0⟩] : List B4) ([⟨0, 0, 0, 0⟩, ⟨3, 4, 3, 4⟩, ⟨9, 0, 9, 0⟩] : List B4).length)).getD (0 : Int).toNat ⟨0, 0⟩).g) : Int) == 1) && true)) : Value) = (bV ((((((nearL 8 0 1 (bsy ([⟨0, 0, 0, 0⟩, ⟨3, 4, 3, 4⟩, ⟨9, 0, 9, 0⟩] : List B4) ([⟨0, 0, 0, 0⟩, ⟨3, 4, 3, 4⟩, ⟨9, 0, 9, 0⟩] : List B4).length)).getD (0 : Int).toNat ⟨0, 0⟩).i) : Int) == 14) && (((((nearL 8 0 1 (bsy ([⟨0, 0, 0, 0⟩, ⟨3, 4, 3, 4⟩, ⟨9, 0, 9, 0⟩] : List B4) ([⟨0, 0, 0, 0⟩, ⟨3, 4, 3, 4⟩, ⟨9, 0, 9, 0⟩] : List B4).length)).getD (0 : Int).toNat ⟨0, 0⟩).g) : Int) == 1)) : Value) from (by simp)) (congrArg Value.bool (by decide))))))))))))))))))))))) ?_
 clear hf; intro a hf
 refine wpList_nil ?_
 refine hK7 _ _ ?_
 refine wp_ret ?_
 refine qr (fn := Tryd.f18) hf hM [] (l := [bV true]) (ob := []) An ?_
 show (bV true : Value) = .bool true ∧ Keep Nn w w4
 exact ⟨rfl, hk0⟩

set_option maxRecDepth 10000 in
set_option maxHeartbeats 1600000 in
theorem rin_any (n m : Int) (w : World) (hm : 0 ≤ m ∧ m ≤ 4611686018427387904) :
    Calls Tryd.prog 44 #[iV n, iV m] w (Ret fun v w' => v = .bool (within n m) ∧ Keep Nn w w') := by
 refine sxenter (n := 14) (args := [iV n, iV m]) Tryd.func44 rfl rfl rfl fun a hf => ?_
 replace hf : Fr 14 [(0, eI n), (1, eI m)] a := hf
 have hM : MemOk [] w := MemOk.nil w
 have hk0 : Keep Nn w w := Keep.refl _ _
 refine wp_seq_k (fun K1 hK1 => ?_)
 refine wp_region_lit ?_
 refine q0 hf hM [0, 1] [{}] (nw := []) An ?_
 clear hf; intro a hf
 refine wpList_nil ?_
 refine hK1 _ _ ?_
 refine wp_seq_k (fun K2 hK2 => ?_)
 refine wp_region_lit ?_
 refine q0 hf hM [] [{}, {}, {}, {}, { g := .sym }, { g := .sym, hint := some (iV (0 - m)) }, { g := .sym }, { g := .sym }, { hint := some (bV ((decide ((n : Int) ≤ m)) && (decide (((0 - m) : Int) ≤ n)))) }, {}] (nw := [(4, eB ((decide ((n : Int) ≤ m)) && (decide (((0 - m) : Int) ≤ n))))]) (ob := [((decide ((n : Int) ≤ m)) = true → (decide ((n : Int) ≤ m)) = (decide ((n : Int) ≤ m))), ((decide ((n : Int) ≤ m)) = true → (iV (IntKind.i64.wrap (0 - m)) : Value) = (iV (0 - m) : Value)), ((decide ((n : Int) ≤ m)) = true → (decide ((n : Int) ≤ m)) = (decide ((n : Int) ≤ m))), ((decide ((n : Int) ≤ m)) = true → (decide ((n : Int) ≤ m)) = (decide ((n : Int) ≤ m))), ((decide ((n : Int) ≤ m)) = true → (decide ((n : Int) ≤ m)) = (decide ((n : Int) ≤ m))), (bif (decide ((n : Int) ≤ m)) then (bV (decide (((0 - m) : Int) ≤ n)) : Value) else bV false) = .bool ((decide ((n : Int) ≤ m)) && (decide (((0 - m) : Int) ≤ n)))]) (Ac (fun hgd => rfl) (Ac (fun hgd => (wr (by omega))) (Ac (fun hgd => rfl) (Ac (fun hgd => rfl) (Ac (fun _ => rfl) (Ao (pick_and _ _))))))) ?_
 clear hf; intro a hf
 refine wpList_nil ?_
 refine hK2 _ _ ?_
 refine wp_ret ?_
 refine qr (fn := Tryd.f44) hf hM [] (l := [bV ((decide ((n : Int) ≤ m)) && (decide (((0 - m) : Int) ≤ n)))]) (ob := []) An ?_
 show (bV ((decide ((n : Int) ≤ m)) && (decide (((0 - m) : Int) ≤ n))) : Value) = .bool (within n m) ∧ Keep Nn w w
 refine ⟨congrArg Value.bool ?_, hk0⟩
 rw [Bool.eq_iff_iff]
 simp only [within, Bool.or_eq_true, Bool.and_eq_true, Bool.not_eq_true', Bool.not_eq_false', Bool.or_eq_false_iff, Bool.and_eq_false_iff, decide_eq_true_eq, decide_eq_false_iff_not, beq_iff_eq, Bool.false_eq_true, Bool.true_eq_false, false_iff, true_iff, iff_true, iff_false, not_true, not_false_iff, true_and, and_true, false_and, and_false, ge_iff_le, gt_iff_lt] at *
 try omega

set_option maxRecDepth 10000 in
set_option maxHeartbeats 1600000 in
theorem rplace (px py : Int) (w : World) :
    Calls Tryd.prog 21 #[.agg #[iV px, iV py]] w (Ret fun v w' => v = .bool (ofOk px py 0 0) ∧ Keep Nn w w') := by
 refine sxenter (n := 11) (args := [.agg #[iV px, iV py]]) Tryd.func21 rfl rfl rfl fun a hf => ?_
 replace hf : Fr 11 [(0, .val (.agg #[iV px, iV py]))] a := hf
 have hM : MemOk [] w := MemOk.nil w
 have hk0 : Keep Nn w w := Keep.refl _ _
 refine wp_seq_k (fun K1 hK1 => ?_)
 refine wp_region_lit ?_
 refine q1 hf hM [] [{ os := [.nw] }, {}] (nw := fun B1 => [(1, eP B1 0)]) (M' := fun B1 => [⟨B1, 46, [iV px, iV py]⟩]) (ob := fun B1 => []) (fun B1 => An) ?_
 clear hf hM; intro a w1 B1 hf hM hB hk
 have hbB1 : w.heap.size ≤ B1 := by have := hk0.size; omega
 have hk0 := hk0.then hk (by intro i _ h; cases h)
 clear hk hB
 refine wpList_nil ?_
 refine hK1 _ _ ?_
 refine wp_seq_k (fun K2 hK2 => ?_)
 refine wp_region_lit ?_
 refine q0 hf hM [1] [{}, { os := [.ld 0 0] }] (nw := [(4, eI px)]) (ob := [Ad B1 0]) (Ao (ad _ _)) ?_
 clear hf; intro a hf
 refine sxcall hf rfl rfl rfl rfl (g := 44) (vs := [iV px, iV 1048576]) (ob := []) (by as_aux_lemma => kernel_rfl) An enters44 (rin_any px 1048576 w1  (by omega)) ?_
 clear hf; rintro _ w2 a ⟨rfl, hk⟩ hf
 have hM := hM.keepNn hk
 have hk0 := hk0.trans hk.nn
 clear hk
 refine q0 hf hM [1] [{}] (nw := [(6, eB (within px 1048576))]) An ?_
 clear hf; intro a hf
 rcases Bool.eq_false_or_eq_true (within px 1048576) with hg1r | hg1r
 · have hg1 := hg1r
   have hf := hf.setb 6 hg1r
   refine q0 hf hM [6] [{}, { os := [.ld 0 1] }] (nw := [(8, eI py)]) (ob := [true = true, true = true, Ad B1 1]) (Ac rfl (Ac rfl (Ao (ad _ _)))) ?_
   clear hf; intro a hf
   refine sxcallg hf rfl rfl rfl rfl rfl (g := 44) (vs := [iV py, iV 1048576]) (ob := []) (by as_aux_lemma => kernel_rfl) An enters44 (rin_any py 1048576 w2  (by omega)) ?_
   clear hf; rintro _ w3 a ⟨rfl, hk⟩ hf
   have hM := hM.keepNn hk
   have hk0 := hk0.trans hk.nn
   clear hk
   refine q0 hf hM [] [{}, {}] (nw := [(2, eB (within py 1048576))]) An ?_
   clear hf; intro a hf
   refine wpList_nil ?_
   refine hK2 _ _ ?_
   refine wp_ret ?_
   refine qr (fn := Tryd.f21) hf hM [] (l := [bV (within py 1048576)]) (ob := []) An ?_
   show (bV (within py 1048576) : Value) = .bool (ofOk px py 0 0) ∧ Keep Nn w w3
   refine ⟨congrArg Value.bool ?_, hk0⟩
   rw [Bool.eq_iff_iff]
   simp only [within, ofOk, Bool.or_eq_true, Bool.and_eq_true, Bool.not_eq_true', Bool.not_eq_false', Bool.or_eq_false_iff, Bool.and_eq_false_iff, decide_eq_true_eq, decide_eq_false_iff_not, beq_iff_eq, Bool.false_eq_true, Bool.true_eq_false, false_iff, true_iff, iff_true, iff_false, not_true, not_false_iff, true_and, and_true, false_and, and_false, ge_iff_le, gt_iff_lt] at *
   try omega
 · have hg1 := hg1r
   have hf := hf.setb 6 hg1r
   refine q0 hf hM [6] [{ g := .off }, { g := .off }] (nw := [(8, .val (undef))]) (ob := [false = !true, false = !true]) (Ac rfl (Ao rfl)) ?_
   clear hf; intro a hf
   refine q0 hf hM [] [{ g := .off }, {}, {}] (nw := [(2, eB false)]) (ob := [false = !true]) (Ao rfl) ?_
   clear hf; intro a hf
   refine wpList_nil ?_
   refine hK2 _ _ ?_
   refine wp_ret ?_
   refine qr (fn := Tryd.f21) hf hM [] (l := [bV false]) (ob := []) An ?_
   show (bV false : Value) = .bool (ofOk px py 0 0) ∧ Keep Nn w w2
   refine ⟨congrArg Value.bool ?_, hk0⟩
   rw [Bool.eq_iff_iff]
   simp only [within, ofOk, Bool.or_eq_true, Bool.and_eq_true, Bool.not_eq_true', Bool.not_eq_false', Bool.or_eq_false_iff, Bool.and_eq_false_iff, decide_eq_true_eq, decide_eq_false_iff_not, beq_iff_eq, Bool.false_eq_true, Bool.true_eq_false, false_iff, true_iff, iff_true, iff_false, not_true, not_false_iff, true_and, and_true, false_and, and_false, ge_iff_le, gt_iff_lt] at *
   try omega
end Go.Proofs.YthofalkkdpjdlaaDoor
