/- laws of layer 2: OrderPairs -/
import Derived.Test.YtllopoaojchcmaaB3
namespace Go.Proofs.Ytllopoaojchcmaa
open Go.Px
set_option linter.unusedVariables false
set_option linter.unusedSimpArgs false

set_option maxRecDepth 10000 in
set_option maxHeartbeats 1600000 in
theorem orderPairs_any (av : Option Addr) (l : List P4) (c : Nat) (w : World) (hav : Arr w 4 av l.length c (flat fP l)) :
    Calls Try.prog 5 #[.slice av l.length c] w (Ret fun v w' => v = .bool true ∧ Keep Nn w w') := by
 refine sxenter (n := 22) (args := [.slice av l.length c]) Try.func5 rfl rfl rfl fun a hf => ?_
 replace hf : Fr 22 [(0, eS av l.length c)] a := hf
 have hM : MemOk [] w := MemOk.nil w
 have hk0 : Keep Nn w w := Keep.refl _ _
 have hs1 := sameL_refl (ordS ltP (nrmL l))
 have hs2 := sameL_refl l
 have hol := Nat.le_trans (ordS_len (lt := ltP) (nrmL l)) (nrmL_len l)
 refine wp_seq_k (fun K1 hK1 => ?_)
 refine wp_region_lit ?_
 refine q0 hf hM [0] [{}] (nw := []) An ?_
 clear hf; intro a hf
 refine wpList_nil ?_
 refine hK1 _ _ ?_
 refine wp_seq_k (fun K2 hK2 => ?_)
 refine wp_seq_k (fun K3 hK3 => ?_)
 refine wp_region_lit ?_
 refine sxcall hf rfl rfl rfl rfl (g := 12) (vs := []) (ob := []) (by as_aux_lemma => kernel_rfl) An enters12 (alive2  w  ) ?_
 clear hf; rintro _ w1 a ⟨rfl, hk⟩ hf
 have hM := hM.keepNn hk
 have hk0 := hk0.trans hk.nn
 clear hk
 refine q0 hf hM [0] [{}] (nw := [(5, eB false)]) An ?_
 clear hf; intro a hf
 refine wpList_nil ?_
 refine hK3 _ _ ?_
 refine sxcond hf (b := false) (by kernel_rfl) (fun h => by cases h) (fun _ => ?_)
 refine wp_skip ?_
 refine hK2 _ _ ?_
 refine wp_seq_k (fun K4 hK4 => ?_)
 refine wp_seq_k (fun K5 hK5 => ?_)
 refine wp_region_lit ?_
 refine q0 hf hM [0] [{}, {}, {}] (nw := [(8, eB (decide (((l.length : Int) : Int) > 200)))]) An ?_
 clear hf; intro a hf
 refine wpList_nil ?_
 refine hK5 _ _ ?_
 refine qc hf (b := (decide (((l.length : Int) : Int) > 200))) (fun hc2r => ?_) (fun hc2r => ?_)
 · have hc2 := (nT hc2r)
   refine wp_seq_k (fun K6 hK6 => ?_)
   refine wp_region_lit ?_
   refine q0 hf hM [] [{}] (nw := [(2, eB true)]) An ?_
   clear hf; intro a hf
   refine wpList_nil ?_
   refine hK6 _ _ ?_
   refine wp_ret ?_
   refine qr (fn := Try.f5) hf hM [] (l := [bV true]) (ob := []) An ?_
   show (bV true : Value) = .bool true ∧ Keep Nn w w1
   refine ⟨congrArg Value.bool ?_, hk0⟩
   first | rfl | (simp; done) | (simp_all; done)
 · have hc2 := (nU hc2r)
   refine wp_skip ?_
   refine hK4 _ _ ?_
   refine wp_seq_k (fun K7 hK7 => ?_)
   refine wp_region_lit ?_
   refine sxbslice hf hM (t := 35) (e := 31) (len := 0) (cs := []) (ob := []) rfl rfl rfl rfl (by as_aux_lemma => kernel_rfl) An (by as_aux_lemma => kernel_rfl) ?_
   clear hf hM; intro a w2 B5 hf hM hB hk
   replace hM : MemOk [⟨B5, 31, []⟩] w2 := hM
   have hbB5 : w.heap.size ≤ B5 := by have := hk0.size; omega
   have hk0 := hk0.trans hk.nn
   clear hk hB
   refine q0 hf hM [9, 0] [{}] (nw := [(10, eS av l.length c)]) An ?_
   clear hf; intro a hf
   have hO : OwnOk w.heap.size [⟨B5, 31, []⟩] [] w2 := OwnOk.nil hM
   replace hO := OwnOk.took (M1 := []) (M2 := []) (sz := 4) hO hM (n := 0) (c := 0) (by have := hk0.size; omega) (by decide) (by decide) rfl
   replace hM : MemOk [] w2 := hM.sub (.cons _ .slnil)
   replace hO : OwnOk w.heap.size [] [⟨31, 4, .slice (some ⟨B5, 0, none⟩) 0 0, 0, flat fP ([] : List P4)⟩] w2 := hO
   replace hO : OwnOk w.heap.size [] [⟨31, 4, .slice (some ⟨B5, 0, none⟩) 0 0, 0, flat fP ([] : List P4)⟩] w2 := OwnOk.front (l1 := []) (l2 := []) hO
   refine sxappend hf hM (e := 31) (sz := 4) (by_ := 32) (k := 0) (v := .slice (some ⟨B5, 0, none⟩) 0 0) (xs := flat fP ([] : List P4)) hO rfl rfl rfl rfl (av := av) (m := l.length) (c := c) rfl rfl Try.underlying35 (by kernel_rfl) rfl (news := flat fP l) (hav.keepNn hk0) (flat_one1 fP_one) (by simp only [maxLen]; constructor <;> (first | omega | (simp; omega))) (by have := hk0.size; omega) ?_
   clear hf hM hO; intro a w3 av1 cv1 hf hM hO hk
   have en : (0 + l.length : Nat) = l.length := (by first | (simp; done) | (simp; omega))
   have ec : flat fP ([] : List P4) ++ flat fP l = flat fP l := (by first | rfl | exact (flat_app _ _ _).symm | simp [flat_app, flat_nil])
   rw [en] at hf hO; rw [ec] at hO; clear en ec
   replace hO : OwnOk w.heap.size [] [⟨31, 4, .slice av1 l.length cv1, l.length, flat fP l⟩] w3 := hO
   have hk0 := hk0.then hk (by intro i hi h; have := h.1; omega)
   clear hk
   refine q0 hf hM [0] [{}] (nw := [(3, eS av1 l.length cv1)]) An ?_
   clear hf; intro a hf
   refine wpList_nil ?_
   refine hK7 _ _ ?_
   refine wp_seq_k (fun K8 hK8 => ?_)
   refine wp_region_lit ?_
   refine q0 hf hM [3, 0] [{}] (nw := [(12, eS av1 l.length cv1)]) An ?_
   clear hf; intro a hf
   refine sxcall hf rfl rfl rfl rfl (g := 20) (vs := [.slice av1 l.length cv1]) (ob := []) (by as_aux_lemma => kernel_rfl) An enters20 (oPairs av1 l cv1 w3  (own_arr (hO.own _ (List.Mem.head _))) (by first | omega | (simp; omega) | (simp; done) | exact Nat.le_trans (byKinds_len _ _) (by omega) | decide)) ?_
   clear hf; rintro _ w4 a ⟨a'1, c'1, rfl, hk, hx1⟩ hf
   have hO := hO.more hM hk (by have := hk0.size; omega) hx1
   replace hO : OwnOk w.heap.size [] [⟨31, 4, .slice a'1 ((ordS ltP (nrmL l)).length) c'1, (ordS ltP (nrmL l)).length, flat fP (ordS ltP (nrmL l))⟩, ⟨31, 4, .slice av1 l.length cv1, l.length, flat fP l⟩] _ := hO
   have hM := hM.keepNn hk
   have hk0 := hk0.trans hk.nn
   clear hk
   refine q0 hf hM [13, 3, 0] [{}] (nw := [(14, eS av l.length c)]) An ?_
   clear hf; intro a hf
   refine sxcall hf rfl rfl rfl rfl (g := 21) (vs := [.slice av l.length c]) (ob := []) (by as_aux_lemma => kernel_rfl) An enters21 (rPairs av l c w4  (hav.keepNn hk0) (by first | omega | (simp; omega) | (simp; done) | exact Nat.le_trans (byKinds_len _ _) (by omega) | decide)) ?_
   clear hf; rintro _ w5 a ⟨a'2, c'2, rfl, hk, hx2⟩ hf
   have hO := hO.more hM hk (by have := hk0.size; omega) hx2
   replace hO : OwnOk w.heap.size [] [⟨31, 4, .slice a'2 ((ordS ltP (nrmL l)).length) c'2, (ordS ltP (nrmL l)).length, flat fP (ordS ltP (nrmL l))⟩, ⟨31, 4, .slice a'1 ((ordS ltP (nrmL l)).length) c'1, (ordS ltP (nrmL l)).length, flat fP (ordS ltP (nrmL l))⟩, ⟨31, 4, .slice av1 l.length cv1, l.length, flat fP l⟩] _ := hO
   have hM := hM.keepNn hk
   have hk0 := hk0.trans hk.nn
   clear hk
   refine sxcall hf rfl rfl rfl rfl (g := 19) (vs := [.slice a'1 ((ordS ltP (nrmL l)).length) c'1, .slice a'2 ((ordS ltP (nrmL l)).length) c'2]) (ob := []) (by as_aux_lemma => kernel_rfl) An enters19 (rsameP a'1 (ordS ltP (nrmL l)) c'1 a'2 (ordS ltP (nrmL l)) c'2 w5  (own_arr (hO.own _ (List.Mem.tail _ (List.Mem.head _)))) (by first | omega | (simp; omega) | (simp; done) | exact Nat.le_trans (byKinds_len _ _) (by omega) | decide) (own_arr (hO.own _ (List.Mem.head _))) (by first | omega | (simp; omega) | (simp; done) | exact Nat.le_trans (byKinds_len _ _) (by omega) | decide)) ?_
   clear hf; rintro _ w6 a ⟨rfl, hk⟩ hf
   have hO := hO.keepNn hk
   have hM := hM.keepNn hk
   have hk0 := hk0.trans hk.nn
   clear hk
   refine q0 hf hM [3, 0] [{}] (nw := [(17, eB (sameL (ordS ltP (nrmL l)) (ordS ltP (nrmL l))))]) An ?_
   clear hf; intro a hf
   have hf := hf.setb 17 hs1
   refine q0 hf hM [17] [{}, {}] (nw := [(19, eS av l.length c), (18, eS av1 l.length cv1)]) (ob := [true = true, true = true]) (Ac rfl (Ao rfl)) ?_
   clear hf; intro a hf
   refine sxcallg hf rfl rfl rfl rfl rfl (g := 19) (vs := [.slice av1 l.length cv1, .slice av l.length c]) (ob := []) (by as_aux_lemma => kernel_rfl) An enters19 (rsameP av1 l cv1 av l c w6  (own_arr (hO.own _ (List.Mem.tail _ (List.Mem.tail _ (List.Mem.head _))))) (by first | omega | (simp; omega) | (simp; done) | exact Nat.le_trans (byKinds_len _ _) (by omega) | decide) (hav.keepNn hk0) (by first | omega | (simp; omega) | (simp; done) | exact Nat.le_trans (byKinds_len _ _) (by omega) | decide)) ?_
   clear hf; rintro _ w7 a ⟨rfl, hk⟩ hf
   have hO := hO.keepNn hk
   have hM := hM.keepNn hk
   have hk0 := hk0.trans hk.nn
   clear hk
   refine q0 hf hM [] [{}, {}] (nw := [(2, eB (sameL l l))]) An ?_
   clear hf; intro a hf
   refine wpList_nil ?_
   refine hK8 _ _ ?_
   refine wp_ret ?_
   refine qr (fn := Try.f5) hf hM [] (l := [bV (sameL l l)]) (ob := []) An ?_
   show (bV (sameL l l) : Value) = .bool true ∧ Keep Nn w w7
   refine ⟨congrArg Value.bool ?_, hk0⟩
   first | rfl | (simp; done) | (simp_all; done)
end Go.Proofs.Ytllopoaojchcmaa
