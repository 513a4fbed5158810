/- layer 2: the chapter's example -/
import Derived.Test.YtllopoaojchcmaaA4
namespace Go.Proofs.Ytllopoaojchcmaa
open Go.Px
set_option linter.unusedVariables false
set_option linter.unusedSimpArgs false

set_option maxRecDepth 10000 in
set_option maxHeartbeats 1600000 in
theorem alive2 (w : World) :
    Calls Try.prog 12 #[] w (Ret fun v w' => v = .bool true ∧ Keep Nn w w') := by
 refine sxenter (n := 23) (args := []) Try.func12 rfl rfl rfl fun a hf => ?_
 replace hf : Fr 23 [] a := hf
 have hM : MemOk [] w := MemOk.nil w
 have hk0 : Keep Nn w w := Keep.refl _ _
 have hl3 : (ordS ltH ([⟨2, 1⟩, ⟨1, 9⟩, ⟨2, 1⟩] : List H2)).length = 2 := by decide
 have hq3 : (((ordS ltH ([⟨2, 1⟩, ⟨1, 9⟩, ⟨2, 1⟩] : List H2)).length : Int) == 2) = true := by decide
 have hs3 : sameL (putS ltI ([1, 5] : List Int) 3) ([1, 3, 5] : List Int) = true := by decide
 refine wp_seq_k (fun K1 hK1 => ?_)
 refine wp_region_lit ?_
 refine q0 hf hM [] [{}] (nw := []) An ?_
 clear hf; intro a hf
 refine wpList_nil ?_
 refine hK1 _ _ ?_
 refine wp_seq_k (fun K2 hK2 => ?_)
 refine wp_region_lit ?_
 refine q0 hf hM [] [{ sp := true }, { sp := true }, { sp := true }] (nw := [(4, .val (.agg #[iV 2, iV 1])), (3, .val (.agg #[iV 1, iV 9])), (2, .val (.agg #[iV 2, iV 1]))]) An ?_
 clear hf; intro a hf
 refine sxbslice hf hM (t := 22) (e := 28) (len := 3) (cs := [iV 2, iV 1, iV 1, iV 9, iV 2, iV 1]) (ob := []) rfl rfl rfl rfl (by as_aux_lemma => kernel_rfl) An (by as_aux_lemma => kernel_rfl) ?_
 clear hf hM; intro a w1 B3 hf hM hB hk
 replace hM : MemOk [⟨B3, 28, [iV 2, iV 1, iV 1, iV 9, iV 2, iV 1]⟩] w1 := hM
 have hbB3 : w.heap.size ≤ B3 := by have := hk0.size; omega
 have hk0 := hk0.trans hk.nn
 clear hk hB
 refine sxcall hf rfl rfl rfl rfl (g := 13) (vs := [.slice (some ⟨B3, 0, none⟩) ([⟨2, 1⟩, ⟨1, 9⟩, ⟨2, 1⟩] : List H2).length 3]) (ob := []) (by as_aux_lemma => kernel_rfl) An enters13 (oHandles (some ⟨B3, 0, none⟩) ([⟨2, 1⟩, ⟨1, 9⟩, ⟨2, 1⟩] : List H2) 3 w1  (Arr.of_memT (sz := 2) (f := fH) (L := ([⟨2, 1⟩, ⟨1, 9⟩, ⟨2, 1⟩] : List H2)) (l := ([⟨2, 1⟩, ⟨1, 9⟩, ⟨2, 1⟩] : List H2)) hM (List.Mem.head _) (fun _ => rfl) rfl rfl) (by first | omega | (simp; omega) | (simp; done) | exact Nat.le_trans (byKinds_len _ _) (by omega) | decide)) ?_
 clear hf; rintro _ w2 a ⟨a'1, c'1, rfl, hk, hx1⟩ hf
 have hO : OwnOk w.heap.size [⟨B3, 28, [iV 2, iV 1, iV 1, iV 9, iV 2, iV 1]⟩] [] w1 := OwnOk.nil hM
 have hO := hO.more hM hk (by have := hk0.size; omega) hx1
 replace hO : OwnOk w.heap.size [⟨B3, 28, [iV 2, iV 1, iV 1, iV 9, iV 2, iV 1]⟩] [⟨28, 2, .slice a'1 ((ordS ltH ([⟨2, 1⟩, ⟨1, 9⟩, ⟨2, 1⟩] : List H2)).length) c'1, (ordS ltH ([⟨2, 1⟩, ⟨1, 9⟩, ⟨2, 1⟩] : List H2)).length, flat fH (ordS ltH ([⟨2, 1⟩, ⟨1, 9⟩, ⟨2, 1⟩] : List H2))⟩] _ := hO
 have hM := hM.keepNn hk
 have hk0 := hk0.trans hk.nn
 clear hk
 refine q0 hf hM [] [{}] (nw := [(1, eS a'1 ((ordS ltH ([⟨2, 1⟩, ⟨1, 9⟩, ⟨2, 1⟩] : List H2)).length) c'1)]) An ?_
 clear hf; intro a hf
 refine wpList_nil ?_
 refine hK2 _ _ ?_
 refine wp_seq_k (fun K3 hK3 => ?_)
 refine wp_region_lit ?_
 refine q0 hf hM [1] [{}, {}, {}, {}] (nw := [(10, eB ((((ordS ltH ([⟨2, 1⟩, ⟨1, 9⟩, ⟨2, 1⟩] : List H2)).length : Int) : Int) == 2))]) An ?_
 clear hf; intro a hf
 have hf := hf.setb 10 hq3
 refine q0 hf hM [] [{}, { sp := true }, { os := [.ex (iV (((ordS ltH ([⟨2, 1⟩, ⟨1, 9⟩, ⟨2, 1⟩] : List H2)).getD (0 : Int).toNat ⟨0, 0⟩).i)), .ex (iV (((ordS ltH ([⟨2, 1⟩, ⟨1, 9⟩, ⟨2, 1⟩] : List H2)).getD (0 : Int).toNat ⟨0, 0⟩).g))] }, { sp := true }, { sp := true, hint := some (bV true) }, {}, {}] (nw := [(17, eB true)]) (ob := [true = true, true = true, (0 : Int) ≤ 0 ∧ 0 < ((ordS ltH ([⟨2, 1⟩, ⟨1, 9⟩, ⟨2, 1⟩] : List H2)).length : Int), (a'1 : Option Addr).isSome = true, true = true, w2.cell? (((sa a'1 : Addr).add ((0 : Int).toNat * 2)).add 0) = some (iV (((ordS ltH ([⟨2, 1⟩, ⟨1, 9⟩, ⟨2, 1⟩] : List H2)).getD (0 : Int).toNat ⟨0, 0⟩).i)), w2.cell? (((sa a'1 : Addr).add ((0 : Int).toNat * 2)).add 1) = some (iV (((ordS ltH ([⟨2, 1⟩, ⟨1, 9⟩, ⟨2, 1⟩] : List H2)).getD (0 : Int).toNat ⟨0, 0⟩).g)), true = true, true = true, (bV ((((((ordS ltH ([⟨2, 1⟩, ⟨1, 9⟩, ⟨2, 1⟩] : List H2)).getD (0 : Int).toNat ⟨0, 0⟩).i) : Int) == 1) && ((((((ordS ltH ([⟨2, 1⟩, ⟨1, 9⟩, ⟨2, 1⟩] : List H2)).getD (0 : Int).toNat ⟨0, 0⟩).g) : Int) == 9) && true)) : Value) = (bV true : Value)]) (Ac rfl (Ac rfl (Ac (by first | omega | (simp; done)) (Ac ((own_arr (hO.own _ (List.Mem.head _))).some_ (by first | omega | (simp; done))) (Ac rfl (Ac ((own_arr (hO.own _ (List.Mem.head _))).get (fun _ => rfl) (by first | omega | (simp; done)) rfl) (Ac ((own_arr (hO.own _ (List.Mem.head _))).get (fun _ => rfl) (by first | omega | (simp; done)) rfl) (Ac rfl (Ac rfl (Ao (Eq.trans (show (bV ((((((ordS ltH ([⟨2, 1⟩, ⟨1, 9⟩, ⟨2, 1⟩] : List H2)).getD (0 : Int).toNat ⟨0, 0⟩).i) : Int) == 1) && ((((((ordS ltH ([⟨2, 1⟩, ⟨1, 9⟩, ⟨2, 1⟩] : List H2)).getD (0 : Int).toNat ⟨0, 0⟩).g) : Int) == 9) && true)) : Value) = (bV ((((((ordS ltH ([⟨2, 1⟩, ⟨1, 9⟩, ⟨2, 1⟩] : List H2)).getD (0 : Int).toNat ⟨0, 0⟩).i) : Int) == 1) && (((((ordS ltH ([⟨2, 1⟩, ⟨1, 9⟩, ⟨2, 1⟩] : List H2)).getD (0 : Int).toNat ⟨0, 0⟩).g) : Int) == 9)) : Value) from (by simp)) (congrArg Value.bool (by decide))))))))))))) ?_
 clear hf; intro a hf
 refine sxbsliceg hf hM (t := 43) (e := 3) (len := 2) (cs := [iV 1, iV 5]) (ob := []) rfl rfl rfl rfl rfl (by as_aux_lemma => kernel_rfl) An (by as_aux_lemma => kernel_rfl) ?_
 clear hf hM; intro a w3 B7 hf hM hB hk
 replace hM : MemOk [⟨B3, 28, [iV 2, iV 1, iV 1, iV 9, iV 2, iV 1]⟩, ⟨B7, 3, [iV 1, iV 5]⟩] w3 := hM
 have hbB7 : w.heap.size ≤ B7 := by have := hk0.size; omega
 have hk0 := hk0.trans hk.nn
 have hO := hO.step hM hk.nn (by intro i h; simp only [Mem.names, List.map_cons, List.map_nil, List.mem_cons, List.not_mem_nil, or_false, List.map_append, List.cons_append, List.nil_append] at h ⊢; omega)
 clear hk hB
 refine sxcallg hf rfl rfl rfl rfl rfl (g := 31) (vs := [.slice (some ⟨B7, 0, none⟩) ([1, 5] : List Int).length 2, iV 3]) (ob := []) (by as_aux_lemma => kernel_rfl) An enters31 (oput (some ⟨B7, 0, none⟩) ([1, 5] : List Int) 2 3 w3  (Arr.of_memT (sz := 1) (f := fI) (L := ([1, 5] : List Int)) (l := ([1, 5] : List Int)) hM (List.Mem.tail _ (List.Mem.head _)) (fun _ => rfl) rfl rfl) (by first | omega | (simp; omega) | (simp; done) | exact Nat.le_trans (byKinds_len _ _) (by omega) | decide) (by first | assumption | exact ordS_rises ordH _ | exact ordS_rises ordI _ | (unfold Rises; decide))) ?_
 clear hf; rintro _ w4 a ⟨a'2, c'2, rfl, hk, hx2⟩ hf
 have hO := hO.more hM hk (by have := hk0.size; omega) hx2
 replace hO : OwnOk w.heap.size [⟨B3, 28, [iV 2, iV 1, iV 1, iV 9, iV 2, iV 1]⟩, ⟨B7, 3, [iV 1, iV 5]⟩] [⟨3, 1, .slice a'2 ((putS ltI ([1, 5] : List Int) 3).length) c'2, (putS ltI ([1, 5] : List Int) 3).length, flat fI (putS ltI ([1, 5] : List Int) 3)⟩, ⟨28, 2, .slice a'1 ((ordS ltH ([⟨2, 1⟩, ⟨1, 9⟩, ⟨2, 1⟩] : List H2)).length) c'1, (ordS ltH ([⟨2, 1⟩, ⟨1, 9⟩, ⟨2, 1⟩] : List H2)).length, flat fH (ordS ltH ([⟨2, 1⟩, ⟨1, 9⟩, ⟨2, 1⟩] : List H2))⟩] _ := hO
 have hM := hM.keepNn hk
 have hk0 := hk0.trans hk.nn
 clear hk
 refine sxbsliceg hf hM (t := 43) (e := 3) (len := 3) (cs := [iV 1, iV 3, iV 5]) (ob := []) rfl rfl rfl rfl rfl (by as_aux_lemma => kernel_rfl) An (by as_aux_lemma => kernel_rfl) ?_
 clear hf hM; intro a w5 B8 hf hM hB hk
 replace hM : MemOk [⟨B3, 28, [iV 2, iV 1, iV 1, iV 9, iV 2, iV 1]⟩, ⟨B7, 3, [iV 1, iV 5]⟩, ⟨B8, 3, [iV 1, iV 3, iV 5]⟩] w5 := hM
 have hbB8 : w.heap.size ≤ B8 := by have := hk0.size; omega
 have hk0 := hk0.trans hk.nn
 have hO := hO.step hM hk.nn (by intro i h; simp only [Mem.names, List.map_cons, List.map_nil, List.mem_cons, List.not_mem_nil, or_false, List.map_append, List.cons_append, List.nil_append] at h ⊢; omega)
 clear hk hB
 refine sxcallg hf rfl rfl rfl rfl rfl (g := 29) (vs := [.slice a'2 ((putS ltI ([1, 5] : List Int) 3).length) c'2, .slice (some ⟨B8, 0, none⟩) ([1, 3, 5] : List Int).length 3]) (ob := []) (by as_aux_lemma => kernel_rfl) An enters29 (same_ints a'2 (putS ltI ([1, 5] : List Int) 3) c'2 (some ⟨B8, 0, none⟩) ([1, 3, 5] : List Int) 3 w5  (own_arr (hO.own _ (List.Mem.head _))) (by first | omega | (simp; omega) | (simp; done) | exact Nat.le_trans (byKinds_len _ _) (by omega) | decide) (Arr.of_memT (sz := 1) (f := fI) (L := ([1, 3, 5] : List Int)) (l := ([1, 3, 5] : List Int)) hM (List.Mem.tail _ (List.Mem.tail _ (List.Mem.head _))) (fun _ => rfl) rfl rfl) (by first | omega | (simp; omega) | (simp; done) | exact Nat.le_trans (byKinds_len _ _) (by omega) | decide)) ?_
 clear hf; rintro _ w6 a ⟨rfl, hk⟩ hf
 have hO := hO.keepNn hk
 have hM := hM.keepNn hk
 have hk0 := hk0.trans hk.nn
 clear hk
 refine q0 hf hM [] [{}, {}] (nw := [(0, eB (sameL (putS ltI ([1, 5] : List Int) 3) ([1, 3, 5] : List Int)))]) An ?_
 clear hf; intro a hf
 refine wpList_nil ?_
 refine hK3 _ _ ?_
 refine wp_ret ?_
 refine qr (fn := Try.f12) hf hM [] (l := [bV (sameL (putS ltI ([1, 5] : List Int) 3) ([1, 3, 5] : List Int))]) (ob := []) An ?_
 show (bV (sameL (putS ltI ([1, 5] : List Int) 3) ([1, 3, 5] : List Int)) : Value) = .bool true ∧ Keep Nn w w6
 exact ⟨rfl, hk0⟩
end Go.Proofs.Ytllopoaojchcmaa
