/- laws of layer 2: OrderHandles, OrderFinds -/
import Derived.Test.YtllopoaojchcmaaB1
namespace Go.Proofs.Ytllopoaojchcmaa
open Go.Px
set_option linter.unusedVariables false
set_option linter.unusedSimpArgs false

set_option maxRecDepth 10000 in
set_option maxHeartbeats 1600000 in
theorem orderHandles_any (av : Option Addr) (l : List H2) (c : Nat) (w : World) (hav : Arr w 2 av l.length c (flat fH l)) :
    Calls Try.prog 3 #[.slice av l.length c] w (Ret fun v w' => v = .bool true ∧ Keep Nn w w') := by
 refine sxenter (n := 40) (args := [.slice av l.length c]) Try.func3 rfl rfl rfl fun a hf => ?_
 replace hf : Fr 40 [(0, eS av l.length c)] a := hf
 have hM : MemOk [] w := MemOk.nil w
 have hk0 : Keep Nn w w := Keep.refl _ _
 have hs1 := sameL_refl (ordS ltH l)
 have hs2 := sameL_refl l
 have hol := ordS_len (lt := ltH) l
 refine wp_seq_k (fun K1 hK1 => ?_)
 refine wp_region_lit ?_
 refine q0 hf hM [0] [{}] (nw := []) An ?_
 clear hf; intro a hf
 refine wpList_nil ?_
 refine hK1 _ _ ?_
 refine wp_seq_k (fun K2 hK2 => ?_)
 refine wp_seq_k (fun K3 hK3 => ?_)
 refine wp_region_lit ?_
 refine sxcall hf rfl rfl rfl rfl (g := 12) (vs := []) (ob := []) (by as_aux_lemma => kernel_rfl) An enters12 (alive2  w  ) ?_
 clear hf; rintro _ w1 a ⟨rfl, hk⟩ hf
 have hM := hM.keepNn hk
 have hk0 := hk0.trans hk.nn
 clear hk
 refine q0 hf hM [0] [{}] (nw := [(7, eB false)]) An ?_
 clear hf; intro a hf
 refine wpList_nil ?_
 refine hK3 _ _ ?_
 refine sxcond hf (b := false) (by kernel_rfl) (fun h => by cases h) (fun _ => ?_)
 refine wp_skip ?_
 refine hK2 _ _ ?_
 refine wp_seq_k (fun K4 hK4 => ?_)
 refine wp_seq_k (fun K5 hK5 => ?_)
 refine wp_region_lit ?_
 refine q0 hf hM [0] [{}, {}, {}] (nw := [(10, eB (decide (((l.length : Int) : Int) > 200)))]) An ?_
 clear hf; intro a hf
 refine wpList_nil ?_
 refine hK5 _ _ ?_
 refine qc hf (b := (decide (((l.length : Int) : Int) > 200))) (fun hc2r => ?_) (fun hc2r => ?_)
 · have hc2 := (nT hc2r)
   refine wp_seq_k (fun K6 hK6 => ?_)
   refine wp_region_lit ?_
   refine q0 hf hM [] [{}] (nw := [(2, eB true)]) An ?_
   clear hf; intro a hf
   refine wpList_nil ?_
   refine hK6 _ _ ?_
   refine wp_ret ?_
   refine qr (fn := Try.f3) hf hM [] (l := [bV true]) (ob := []) An ?_
   show (bV true : Value) = .bool true ∧ Keep Nn w w1
   refine ⟨congrArg Value.bool ?_, hk0⟩
   first | rfl | (simp; done) | (simp_all; done)
 · have hc2 := (nU hc2r)
   refine wp_skip ?_
   refine hK4 _ _ ?_
   refine wp_seq_k (fun K7 hK7 => ?_)
   refine wp_region_lit ?_
   refine sxbslice hf hM (t := 22) (e := 28) (len := 0) (cs := []) (ob := []) rfl rfl rfl rfl (by as_aux_lemma => kernel_rfl) An (by as_aux_lemma => kernel_rfl) ?_
   clear hf hM; intro a w2 B5 hf hM hB hk
   replace hM : MemOk [⟨B5, 28, []⟩] w2 := hM
   have hbB5 : w.heap.size ≤ B5 := by have := hk0.size; omega
   have hk0 := hk0.trans hk.nn
   clear hk hB
   refine q0 hf hM [11, 0] [{}] (nw := [(12, eS av l.length c)]) An ?_
   clear hf; intro a hf
   have hO : OwnOk w.heap.size [⟨B5, 28, []⟩] [] w2 := OwnOk.nil hM
   replace hO := OwnOk.took (M1 := []) (M2 := []) (sz := 2) hO hM (n := 0) (c := 0) (by have := hk0.size; omega) (by decide) (by decide) rfl
   replace hM : MemOk [] w2 := hM.sub (.cons _ .slnil)
   replace hO : OwnOk w.heap.size [] [⟨28, 2, .slice (some ⟨B5, 0, none⟩) 0 0, 0, flat fH ([] : List H2)⟩] w2 := hO
   replace hO : OwnOk w.heap.size [] [⟨28, 2, .slice (some ⟨B5, 0, none⟩) 0 0, 0, flat fH ([] : List H2)⟩] w2 := OwnOk.front (l1 := []) (l2 := []) hO
   refine sxappend hf hM (e := 28) (sz := 2) (by_ := 16) (k := 0) (v := .slice (some ⟨B5, 0, none⟩) 0 0) (xs := flat fH ([] : List H2)) hO rfl rfl rfl rfl (av := av) (m := l.length) (c := c) rfl rfl Try.underlying22 (by kernel_rfl) rfl (news := flat fH l) (hav.keepNn hk0) (flat_one1 fH_one) (by simp only [maxLen]; constructor <;> (first | omega | (simp; omega))) (by have := hk0.size; omega) ?_
   clear hf hM hO; intro a w3 av1 cv1 hf hM hO hk
   have en : (0 + l.length : Nat) = l.length := (by first | (simp; done) | (simp; omega))
   have ec : flat fH ([] : List H2) ++ flat fH l = flat fH l := (by first | rfl | exact (flat_app _ _ _).symm | simp [flat_app, flat_nil])
   rw [en] at hf hO; rw [ec] at hO; clear en ec
   replace hO : OwnOk w.heap.size [] [⟨28, 2, .slice av1 l.length cv1, l.length, flat fH l⟩] w3 := hO
   have hk0 := hk0.then hk (by intro i hi h; have := h.1; omega)
   clear hk
   refine q0 hf hM [0] [{}] (nw := [(3, eS av1 l.length cv1)]) An ?_
   clear hf; intro a hf
   refine wpList_nil ?_
   refine hK7 _ _ ?_
   refine wp_seq_k (fun K8 hK8 => ?_)
   refine wp_region_lit ?_
   refine q0 hf hM [3, 0] [{}] (nw := [(14, eS av1 l.length cv1)]) An ?_
   clear hf; intro a hf
   refine sxcall hf rfl rfl rfl rfl (g := 13) (vs := [.slice av1 l.length cv1]) (ob := []) (by as_aux_lemma => kernel_rfl) An enters13 (oHandles av1 l cv1 w3  (own_arr (hO.own _ (List.Mem.head _))) (by first | omega | (simp; omega) | (simp; done) | exact Nat.le_trans (byKinds_len _ _) (by omega) | decide)) ?_
   clear hf; rintro _ w4 a ⟨a'1, c'1, rfl, hk, hx1⟩ hf
   have hO := hO.more hM hk (by have := hk0.size; omega) hx1
   replace hO : OwnOk w.heap.size [] [⟨28, 2, .slice a'1 (ordS ltH l).length c'1, (ordS ltH l).length, flat fH (ordS ltH l)⟩, ⟨28, 2, .slice av1 l.length cv1, l.length, flat fH l⟩] _ := hO
   have hM := hM.keepNn hk
   have hk0 := hk0.trans hk.nn
   clear hk
   refine q0 hf hM [3, 0] [{}] (nw := [(4, eS a'1 (ordS ltH l).length c'1)]) An ?_
   clear hf; intro a hf
   refine wpList_nil ?_
   refine hK8 _ _ ?_
   refine wp_seq_k (fun K9 hK9 => ?_)
   refine wp_seq_k (fun K10 hK10 => ?_)
   refine wp_region_lit ?_
   refine q0 hf hM [4, 3, 0] [{}, {}] (nw := [(17, eS av l.length c), (16, eS a'1 (ordS ltH l).length c'1)]) An ?_
   clear hf; intro a hf
   refine sxcall hf rfl rfl rfl rfl (g := 15) (vs := [.slice av l.length c]) (ob := []) (by as_aux_lemma => kernel_rfl) An enters15 (rHandles av l c w4  (hav.keepNn hk0) (by first | omega | (simp; omega) | (simp; done) | exact Nat.le_trans (byKinds_len _ _) (by omega) | decide)) ?_
   clear hf; rintro _ w5 a ⟨a'2, c'2, rfl, hk, hx2⟩ hf
   have hO := hO.more hM hk (by have := hk0.size; omega) hx2
   replace hO : OwnOk w.heap.size [] [⟨28, 2, .slice a'2 (ordS ltH l).length c'2, (ordS ltH l).length, flat fH (ordS ltH l)⟩, ⟨28, 2, .slice a'1 (ordS ltH l).length c'1, (ordS ltH l).length, flat fH (ordS ltH l)⟩, ⟨28, 2, .slice av1 l.length cv1, l.length, flat fH l⟩] _ := hO
   have hM := hM.keepNn hk
   have hk0 := hk0.trans hk.nn
   clear hk
   refine sxcall hf rfl rfl rfl rfl (g := 14) (vs := [.slice a'1 (ordS ltH l).length c'1, .slice a'2 (ordS ltH l).length c'2]) (ob := []) (by as_aux_lemma => kernel_rfl) An enters14 (rsameH a'1 (ordS ltH l) c'1 a'2 (ordS ltH l) c'2 w5  (own_arr (hO.own _ (List.Mem.tail _ (List.Mem.head _)))) (by first | omega | (simp; omega) | (simp; done) | exact Nat.le_trans (byKinds_len _ _) (by omega) | decide) (own_arr (hO.own _ (List.Mem.head _))) (by first | omega | (simp; omega) | (simp; done) | exact Nat.le_trans (byKinds_len _ _) (by omega) | decide)) ?_
   clear hf; rintro _ w6 a ⟨rfl, hk⟩ hf
   have hO := hO.keepNn hk
   have hM := hM.keepNn hk
   have hk0 := hk0.trans hk.nn
   clear hk
   refine q0 hf hM [4, 3, 0] [{}, {}] (nw := [(21, eB (!(sameL (ordS ltH l) (ordS ltH l))))]) An ?_
   clear hf; intro a hf
   have hf := hf.setb 21 (by simp [hs1] : (!(sameL (ordS ltH l) (ordS ltH l)) : Bool) = false)
   refine q0 hf hM [21, 4, 3, 0] [{}, {}] (nw := [(23, eS av l.length c), (22, eS av1 l.length cv1)]) (ob := [false = false, false = false]) (Ac rfl (Ao rfl)) ?_
   clear hf; intro a hf
   refine sxcallg hf rfl rfl rfl rfl rfl (g := 14) (vs := [.slice av1 l.length cv1, .slice av l.length c]) (ob := []) (by as_aux_lemma => kernel_rfl) An enters14 (rsameH av1 l cv1 av l c w6  (own_arr (hO.own _ (List.Mem.tail _ (List.Mem.tail _ (List.Mem.head _))))) (by first | omega | (simp; omega) | (simp; done) | exact Nat.le_trans (byKinds_len _ _) (by omega) | decide) (hav.keepNn hk0) (by first | omega | (simp; omega) | (simp; done) | exact Nat.le_trans (byKinds_len _ _) (by omega) | decide)) ?_
   clear hf; rintro _ w7 a ⟨rfl, hk⟩ hf
   have hO := hO.keepNn hk
   have hM := hM.keepNn hk
   have hk0 := hk0.trans hk.nn
   clear hk
   refine q0 hf hM [4, 3, 0] [{}, {}] (nw := [(26, eB (!(sameL l l)))]) (ob := [false = false]) (Ao rfl) ?_
   clear hf; intro a hf
   refine wpList_nil ?_
   refine hK10 _ _ ?_
   refine sxcond hf (b := !(sameL l l)) (by kernel_rfl) (fun h => absurd (h.symm.trans (by simp [hs2] : (!(sameL l l) : Bool) = false)) (by simp)) (fun _ => ?_)
   refine wp_skip ?_
   refine hK9 _ _ ?_
   refine wp_seq_k (fun K11 hK11 => ?_)
   refine wp_seq_k (fun K12 hK12 => ?_)
   refine wp_region_lit ?_
   refine q0 hf hM [4, 3, 0] [{}, {}, {}] (nw := [(29, eI 0), (28, eI ((ordS ltH l).length : Int))]) An ?_
   clear hf; intro a hf
   refine wpList_nil ?_
   refine hK12 _ _ ?_
   refine wp_block ?_
   have hf := (hf.prune [0, 3, 4, 28, 29]).to (env' := [(0, eS av l.length c), (3, eS av1 l.length cv1), (4, eS a'1 (ordS ltH l).length c'1), (28, eI ((ordS ltH l).length : Int)), (29, eI 0)]) (by kernel_rfl)
   refine sxloop (fun zm a w1 => ∃ (i : Int) (ll : List H2), zm = (((ordS ltH l).length : Int) - i).toNat ∧ Fr 40 [(0, eS av l.length c), (3, eS av1 l.length cv1), (4, eS a'1 (ordS ltH l).length c'1), (28, eI ((ordS ltH l).length : Int)), (29, eI i)] a ∧ MemOk [] w1 ∧ Keep Nn w w1 ∧ OwnOk w.heap.size [] [⟨28, 2, .slice a'2 (ordS ltH l).length c'2, (ordS ltH l).length, flat fH (ordS ltH l)⟩, ⟨28, 2, .slice a'1 (ordS ltH l).length c'1, (ordS ltH l).length, flat fH ll⟩, ⟨28, 2, .slice av1 l.length cv1, l.length, flat fH l⟩] w1 ∧ (0 ≤ i ∧ i ≤ ((ordS ltH l).length : Int)) ∧ (ll.length = (ordS ltH l).length)) _ ⟨0, (ordS ltH l), rfl, hf.conv (Ac rfl (Ac rfl (Ac rfl (Ac rfl (Ao rfl))))), hM, hk0, hO, (by omega), rfl⟩ ?_
   clear hf hM hk0 hO
   rintro _ a w8 ⟨i, ll, rfl, hf, hM, hk0, hO, hi, hll⟩ L1 hL1
   refine wp_seq_k (fun K13 hK13 => ?_)
   refine wp_region_lit ?_
   refine q0 hf hM [0, 3, 4, 28, 29] [{}] (nw := [(30, eB (decide ((i : Int) < ((ordS ltH l).length : Int))))]) An ?_
   clear hf; intro a hf
   refine wpList_nil ?_
   refine hK13 _ _ ?_
   refine wp_seq_k (fun K14 hK14 => ?_)
   refine qc hf (b := (decide ((i : Int) < ((ordS ltH l).length : Int)))) (fun hc4r => ?_) (fun hc4r => ?_)
   · have hc4 := (nT hc4r)
     refine wp_skip ?_
     refine hK14 _ _ ?_
     refine wp_seq_k (fun K15 hK15 => ?_)
     refine wp_block ?_
     refine wp_seq_k (fun K16 hK16 => ?_)
     refine wp_region_lit ?_
     refine q0 hf hM [0, 3, 4, 28, 29] [{}, {}] (nw := [(5, eI i)]) An ?_
     clear hf; intro a hf
     refine wpList_nil ?_
     refine hK16 _ _ ?_
     refine wp_region_lit ?_
     refine q0 hf hM [0, 3, 4, 28, 29] [{}, {}, { sp := true }, { sp := true }] (nw := [(35, .val (.pointer (some ((sa a'1 : Addr).add (i.toNat * 2))))), (34, .val (.agg #[iV (-7), iV (-7)]))]) (ob := [(0 : Int) ≤ i ∧ i < ((ordS ltH l).length : Int), (a'1 : Option Addr).isSome = true]) (Ac (by first | omega | (simp; done)) (Ao ((own_arr (hO.own _ (List.Mem.tail _ (List.Mem.head _)))).some_ (by first | omega | (simp; done))))) ?_
     clear hf; intro a hf
     replace hO : OwnOk w.heap.size [] [⟨28, 2, .slice a'1 (ordS ltH l).length c'1, (ordS ltH l).length, flat fH ll⟩, ⟨28, 2, .slice a'2 (ordS ltH l).length c'2, (ordS ltH l).length, flat fH (ordS ltH l)⟩, ⟨28, 2, .slice av1 l.length cv1, l.length, flat fH l⟩] w8 := OwnOk.front (l1 := [⟨28, 2, .slice a'2 (ordS ltH l).length c'2, (ordS ltH l).length, flat fH (ordS ltH l)⟩]) (l2 := [⟨28, 2, .slice av1 l.length cv1, l.length, flat fH l⟩]) hO
     refine sxset hf hM hO rfl rfl rfl (val := .agg #[iV (-7), iV (-7)]) rfl rfl (i := i.toNat) (q := 0) (x := ⟨-7, -7⟩) (d := ⟨0, 0⟩) rfl (by kernel_rfl) (fun _ => rfl) (by omega) hll rfl rfl rfl (by intro u hu; simp [Value.cells] at hu; first | (subst hu; rfl) | (rcases hu with rfl | rfl <;> rfl) | (rcases hu with rfl | rfl | rfl <;> rfl) | (rcases hu with rfl | rfl | rfl | rfl <;> rfl) | (rcases hu with rfl | rfl | rfl | rfl | rfl <;> rfl)) ?_
     clear hf; intro a w9 hf hM hO hk
     have hk0 := hk0.then hk (by intro i hi h; have := ((hO.own _ (List.Mem.head _)).lt i h).1; omega)
     clear hk
     refine wpList_nil ?_
     refine hK15 _ _ ?_
     refine wp_region_lit ?_
     refine q0 hf hM [0, 3, 4, 28] [{ hint := some (iV (i + 1)) }, {}] (nw := [(29, eI (i + 1))]) (ob := [(iV (IntKind.i64.wrap (i + 1)) : Value) = (iV (i + 1) : Value)]) (Ao (wr (by omega))) ?_
     clear hf; intro a hf
     refine wpList_nil ?_
     have hf := (hf.prune [0, 3, 4, 28, 29]).to (env' := [(0, eS av l.length c), (3, eS av1 l.length cv1), (4, eS a'1 (ordS ltH l).length c'1), (28, eI ((ordS ltH l).length : Int)), (29, eI (i + 1))]) (by kernel_rfl)
     replace hO : OwnOk w.heap.size [] [⟨28, 2, .slice av1 l.length cv1, l.length, flat fH l⟩, ⟨28, 2, .slice a'1 (ordS ltH l).length c'1, (ordS ltH l).length, flat fH (ll.set i.toNat ⟨-7, -7⟩)⟩, ⟨28, 2, .slice a'2 (ordS ltH l).length c'2, (ordS ltH l).length, flat fH (ordS ltH l)⟩] w9 := OwnOk.front (l1 := [⟨28, 2, .slice a'1 (ordS ltH l).length c'1, (ordS ltH l).length, flat fH (ll.set i.toNat ⟨-7, -7⟩)⟩, ⟨28, 2, .slice a'2 (ordS ltH l).length c'2, (ordS ltH l).length, flat fH (ordS ltH l)⟩]) (l2 := []) hO
     replace hO : OwnOk w.heap.size [] [⟨28, 2, .slice a'1 (ordS ltH l).length c'1, (ordS ltH l).length, flat fH (ll.set i.toNat ⟨-7, -7⟩)⟩, ⟨28, 2, .slice av1 l.length cv1, l.length, flat fH l⟩, ⟨28, 2, .slice a'2 (ordS ltH l).length c'2, (ordS ltH l).length, flat fH (ordS ltH l)⟩] w9 := OwnOk.front (l1 := [⟨28, 2, .slice av1 l.length cv1, l.length, flat fH l⟩]) (l2 := [⟨28, 2, .slice a'2 (ordS ltH l).length c'2, (ordS ltH l).length, flat fH (ordS ltH l)⟩]) hO
     replace hO : OwnOk w.heap.size [] [⟨28, 2, .slice a'2 (ordS ltH l).length c'2, (ordS ltH l).length, flat fH (ordS ltH l)⟩, ⟨28, 2, .slice a'1 (ordS ltH l).length c'1, (ordS ltH l).length, flat fH (ll.set i.toNat ⟨-7, -7⟩)⟩, ⟨28, 2, .slice av1 l.length cv1, l.length, flat fH l⟩] w9 := OwnOk.front (l1 := [⟨28, 2, .slice a'1 (ordS ltH l).length c'1, (ordS ltH l).length, flat fH (ll.set i.toNat ⟨-7, -7⟩)⟩, ⟨28, 2, .slice av1 l.length cv1, l.length, flat fH l⟩]) (l2 := []) hO
     refine hL1 _ _ _ (by omega) ⟨i + 1, (ll.set i.toNat ⟨-7, -7⟩), rfl, hf.conv (Ac rfl (Ac rfl (Ac rfl (Ac rfl (Ao rfl))))), hM, hk0, hO, (by omega), (by simpa using hll)⟩
   · have hc4 := (nU hc4r)
     refine wp_exit ?_
     refine hK11 _ _ ?_
     refine wp_seq_k (fun K17 hK17 => ?_)
     refine wp_region_lit ?_
     refine q0 hf hM [] [{}, {}] (nw := [(38, eS av l.length c), (37, eS av1 l.length cv1)]) An ?_
     clear hf; intro a hf
     refine sxcall hf rfl rfl rfl rfl (g := 14) (vs := [.slice av1 l.length cv1, .slice av l.length c]) (ob := []) (by as_aux_lemma => kernel_rfl) An enters14 (rsameH av1 l cv1 av l c w8  (own_arr (hO.own _ (List.Mem.tail _ (List.Mem.tail _ (List.Mem.head _))))) (by first | omega | (simp; omega) | (simp; done) | exact Nat.le_trans (byKinds_len _ _) (by omega) | decide) (hav.keepNn hk0) (by first | omega | (simp; omega) | (simp; done) | exact Nat.le_trans (byKinds_len _ _) (by omega) | decide)) ?_
     clear hf; rintro _ w10 a ⟨rfl, hk⟩ hf
     have hO := hO.keepNn hk
     have hM := hM.keepNn hk
     have hk0 := hk0.trans hk.nn
     clear hk
     refine q0 hf hM [] [{}] (nw := [(2, eB (sameL l l))]) An ?_
     clear hf; intro a hf
     refine wpList_nil ?_
     refine hK17 _ _ ?_
     refine wp_ret ?_
     refine qr (fn := Try.f3) hf hM [] (l := [bV (sameL l l)]) (ob := []) An ?_
     show (bV (sameL l l) : Value) = .bool true ∧ Keep Nn w w10
     refine ⟨congrArg Value.bool ?_, hk0⟩
     first | rfl | (simp; done) | (simp_all; done)

set_option maxRecDepth 10000 in
set_option maxHeartbeats 1600000 in
theorem orderFinds_any (av : Option Addr) (l : List H2) (c : Nat) (ti tg : Int) (w : World) (hav : Arr w 2 av l.length c (flat fH l)) :
    Calls Try.prog 6 #[.slice av l.length c, .agg #[iV ti, iV tg]] w (Ret fun v w' => v = .bool true ∧ Keep Nn w w') := by
 refine sxenter (n := 33) (args := [.slice av l.length c, .agg #[iV ti, iV tg]]) Try.func6 rfl rfl rfl fun a hf => ?_
 replace hf : Fr 33 [(0, eS av l.length c), (1, .val (.agg #[iV ti, iV tg]))] a := hf
 have hM : MemOk [] w := MemOk.nil w
 have hk0 : Keep Nn w w := Keep.refl _ _
 have hrs := ordS_rises ordH l
 have hol := ordS_len (lt := ltH) l
 refine wp_seq_k (fun K1 hK1 => ?_)
 refine wp_region_lit ?_
 refine q1 hf hM [0] [{ os := [.nw] }, {}] (nw := fun B1 => [(3, eP B1 0)]) (M' := fun B1 => [⟨B1, 28, [iV ti, iV tg]⟩]) (ob := fun B1 => []) (fun B1 => An) ?_
 clear hf hM; intro a w1 B1 hf hM hB hk
 have hbB1 : w.heap.size ≤ B1 := by have := hk0.size; omega
 have hk0 := hk0.then hk (by intro i _ h; cases h)
 clear hk hB
 refine wpList_nil ?_
 refine hK1 _ _ ?_
 refine wp_seq_k (fun K2 hK2 => ?_)
 refine wp_seq_k (fun K3 hK3 => ?_)
 refine wp_region_lit ?_
 refine sxcall hf rfl rfl rfl rfl (g := 12) (vs := []) (ob := []) (by as_aux_lemma => kernel_rfl) An enters12 (alive2  w1  ) ?_
 clear hf; rintro _ w2 a ⟨rfl, hk⟩ hf
 have hM := hM.keepNn hk
 have hk0 := hk0.trans hk.nn
 clear hk
 refine q0 hf hM [3, 0] [{}] (nw := [(10, eB false)]) An ?_
 clear hf; intro a hf
 refine wpList_nil ?_
 refine hK3 _ _ ?_
 refine sxcond hf (b := false) (by kernel_rfl) (fun h => by cases h) (fun _ => ?_)
 refine wp_skip ?_
 refine hK2 _ _ ?_
 refine wp_seq_k (fun K4 hK4 => ?_)
 refine wp_seq_k (fun K5 hK5 => ?_)
 refine wp_region_lit ?_
 refine q0 hf hM [3, 0] [{}, {}, {}] (nw := [(13, eB (decide (((l.length : Int) : Int) > 200)))]) An ?_
 clear hf; intro a hf
 refine wpList_nil ?_
 refine hK5 _ _ ?_
 refine qc hf (b := (decide (((l.length : Int) : Int) > 200))) (fun hc2r => ?_) (fun hc2r => ?_)
 · have hc2 := (nT hc2r)
   refine wp_seq_k (fun K6 hK6 => ?_)
   refine wp_region_lit ?_
   refine q0 hf hM [] [{}] (nw := [(4, eB true)]) An ?_
   clear hf; intro a hf
   refine wpList_nil ?_
   refine hK6 _ _ ?_
   refine wp_ret ?_
   refine qr (fn := Try.f6) hf hM [] (l := [bV true]) (ob := []) An ?_
   show (bV true : Value) = .bool true ∧ Keep Nn w w2
   exact ⟨rfl, hk0⟩
 · have hc2 := (nU hc2r)
   refine wp_skip ?_
   refine hK4 _ _ ?_
   refine wp_seq_k (fun K7 hK7 => ?_)
   refine wp_region_lit ?_
   refine q0 hf hM [3] [{}] (nw := [(14, eS av l.length c)]) An ?_
   clear hf; intro a hf
   refine sxcall hf rfl rfl rfl rfl (g := 15) (vs := [.slice av l.length c]) (ob := []) (by as_aux_lemma => kernel_rfl) An enters15 (rHandles av l c w2  (hav.keepNn hk0) (by first | omega | (simp; omega) | (simp; done) | exact Nat.le_trans (byKinds_len _ _) (by omega) | decide)) ?_
   clear hf; rintro _ w3 a ⟨a'1, c'1, rfl, hk, hx1⟩ hf
   have hO : OwnOk w.heap.size [⟨B1, 28, [iV ti, iV tg]⟩] [] w2 := OwnOk.nil hM
   have hO := hO.more hM hk (by have := hk0.size; omega) hx1
   replace hO : OwnOk w.heap.size [⟨B1, 28, [iV ti, iV tg]⟩] [⟨28, 2, .slice a'1 (ordS ltH l).length c'1, (ordS ltH l).length, flat fH (ordS ltH l)⟩] _ := hO
   have hM := hM.keepNn hk
   have hk0 := hk0.trans hk.nn
   clear hk
   refine q0 hf hM [3] [{}] (nw := [(5, eS a'1 (ordS ltH l).length c'1)]) An ?_
   clear hf; intro a hf
   refine wpList_nil ?_
   refine hK7 _ _ ?_
   refine wp_seq_k (fun K8 hK8 => ?_)
   refine wp_region_lit ?_
   refine q0 hf hM [5, 3] [{}] (nw := [(6, eI (-1))]) An ?_
   clear hf; intro a hf
   refine wpList_nil ?_
   refine hK8 _ _ ?_
   refine wp_seq_k (fun K9 hK9 => ?_)
   refine wp_seq_k (fun K10 hK10 => ?_)
   refine wp_region_lit ?_
   refine q0 hf hM [6, 5, 3] [{}, {}, {}] (nw := [(18, eI 0), (17, eI ((ordS ltH l).length : Int)), (16, eS a'1 (ordS ltH l).length c'1)]) An ?_
   clear hf; intro a hf
   refine wpList_nil ?_
   refine hK10 _ _ ?_
   refine wp_block ?_
   have hf := (hf.prune [3, 5, 6, 16, 17, 18]).to (env' := [(3, eP B1 0), (5, eS a'1 (ordS ltH l).length c'1), (6, eI (-1)), (16, eS a'1 (ordS ltH l).length c'1), (17, eI ((ordS ltH l).length : Int)), (18, eI 0)]) (by kernel_rfl)
   refine sxloop (fun zm a w1 => ∃ (i : Int), zm = (((ordS ltH l).length : Int) - i).toNat ∧ Fr 33 [(3, eP B1 0), (5, eS a'1 (ordS ltH l).length c'1), (6, eI (findS ltH ((ordS ltH l).take i.toNat) (⟨ti, tg⟩ : H2))), (16, eS a'1 (ordS ltH l).length c'1), (17, eI ((ordS ltH l).length : Int)), (18, eI i)] a ∧ MemOk [⟨B1, 28, [iV ti, iV tg]⟩] w1 ∧ Keep Nn w w1 ∧ OwnOk w.heap.size [⟨B1, 28, [iV ti, iV tg]⟩] [⟨28, 2, .slice a'1 (ordS ltH l).length c'1, (ordS ltH l).length, flat fH (ordS ltH l)⟩] w1 ∧ (0 ≤ i ∧ i ≤ ((ordS ltH l).length : Int))) _ ⟨0, rfl, hf.conv (Ac rfl (Ac rfl (Ac (congrArg (Value.int .i64) (by simp [findS])) (Ac rfl (Ac rfl (Ao rfl)))))), hM, hk0, hO, (by omega)⟩ ?_
   clear hf hM hk0 hO
   rintro _ a w4 ⟨i, rfl, hf, hM, hk0, hO, hi⟩ L1 hL1
   refine wp_seq_k (fun K11 hK11 => ?_)
   refine wp_region_lit ?_
   refine q0 hf hM [3, 5, 6, 16, 17, 18] [{}] (nw := [(19, eB (decide ((i : Int) < ((ordS ltH l).length : Int))))]) An ?_
   clear hf; intro a hf
   refine wpList_nil ?_
   refine hK11 _ _ ?_
   refine wp_seq_k (fun K12 hK12 => ?_)
   refine qc hf (b := (decide ((i : Int) < ((ordS ltH l).length : Int)))) (fun hc3r => ?_) (fun hc3r => ?_)
   · have hc3 := (nT hc3r)
     refine wp_skip ?_
     refine hK12 _ _ ?_
     refine wp_seq_k (fun K13 hK13 => ?_)
     refine wp_block ?_
     refine wp_seq_k (fun K14 hK14 => ?_)
     refine wp_region_lit ?_
     refine q1 hf hM [3, 5, 6, 16, 17, 18] [{}, { sp := true }, { os := [.ex (iV (((ordS ltH l).getD i.toNat ⟨0, 0⟩).i)), .ex (iV (((ordS ltH l).getD i.toNat ⟨0, 0⟩).g))] }, { os := [.nw] }, {}, { os := [.st 1 0, .st 1 1] }] (nw := fun B10 => [(7, eI i), (8, eP B10 0)]) (M' := fun B10 => [⟨B1, 28, [iV ti, iV tg]⟩, ⟨B10, 28, [iV (((ordS ltH l).getD i.toNat ⟨0, 0⟩).i), iV (((ordS ltH l).getD i.toNat ⟨0, 0⟩).g)]⟩]) (ob := fun B10 => [(0 : Int) ≤ i ∧ i < ((ordS ltH l).length : Int), (a'1 : Option Addr).isSome = true, w4.cell? (((sa a'1 : Addr).add (i.toNat * 2)).add 0) = some (iV (((ordS ltH l).getD i.toNat ⟨0, 0⟩).i)), w4.cell? (((sa a'1 : Addr).add (i.toNat * 2)).add 1) = some (iV (((ordS ltH l).getD i.toNat ⟨0, 0⟩).g)), Ad B10 0, Ad B10 1]) (fun B10 => (Ac (by first | omega | (simp; done)) (Ac ((own_arr (hO.own _ (List.Mem.head _))).some_ (by first | omega | (simp; done))) (Ac ((own_arr (hO.own _ (List.Mem.head _))).get (fun _ => rfl) (by first | omega | (simp; done)) rfl) (Ac ((own_arr (hO.own _ (List.Mem.head _))).get (fun _ => rfl) (by first | omega | (simp; done)) rfl) (Ac (ad _ _) (Ao (ad _ _)))))))) ?_
     clear hf hM; intro a w5 B10 hf hM hB hk
     have hbB10 : w.heap.size ≤ B10 := by have := hk0.size; omega
     have hk0 := hk0.thenNew hk (by simp [Mem.names] <;> omega)
     have hO := hO.step hM hk (by intro i h; simp only [Mem.names, List.map_cons, List.map_nil, List.mem_cons, List.not_mem_nil, or_false, List.map_append, List.cons_append, List.nil_append] at h ⊢; omega)
     clear hk hB
     refine wpList_nil ?_
     refine hK14 _ _ ?_
     refine wp_seq_k (fun K15 hK15 => ?_)
     refine wp_region_lit ?_
     refine q0 hf hM [7, 3, 5, 6, 16, 17, 18] [{ os := [.ld 1 0, .ld 1 1] }, { os := [.ld 0 0, .ld 0 1] }, { sp := true, hint := some (bV ((((((ordS ltH l).getD i.toNat ⟨0, 0⟩).i) : Int) == ti) && (((((ordS ltH l).getD i.toNat ⟨0, 0⟩).g) : Int) == tg))) }] (nw := [(25, eB ((((((ordS ltH l).getD i.toNat ⟨0, 0⟩).i) : Int) == ti) && (((((ordS ltH l).getD i.toNat ⟨0, 0⟩).g) : Int) == tg)))]) (ob := [Ad B10 0, Ad B10 1, Ad B1 0, Ad B1 1, (bV ((((((ordS ltH l).getD i.toNat ⟨0, 0⟩).i) : Int) == ti) && ((((((ordS ltH l).getD i.toNat ⟨0, 0⟩).g) : Int) == tg) && true)) : Value) = (bV ((((((ordS ltH l).getD i.toNat ⟨0, 0⟩).i) : Int) == ti) && (((((ordS ltH l).getD i.toNat ⟨0, 0⟩).g) : Int) == tg)) : Value)]) (Ac (ad _ _) (Ac (ad _ _) (Ac (ad _ _) (Ac (ad _ _) (Ao (by simp)))))) ?_
     clear hf; intro a hf
     refine wpList_nil ?_
     refine hK15 _ _ ?_
     refine qc hf (b := ((((((ordS ltH l).getD i.toNat ⟨0, 0⟩).i) : Int) == ti) && (((((ordS ltH l).getD i.toNat ⟨0, 0⟩).g) : Int) == tg))) (fun hc4r => ?_) (fun hc4r => ?_)
     · have hc4 := hc4r
       try simp only [Bool.or_eq_true, Bool.and_eq_true, Bool.not_eq_true', Bool.not_eq_false', Bool.or_eq_false_iff, Bool.and_eq_false_iff, decide_eq_true_eq, decide_eq_false_iff_not, beq_iff_eq, bne_iff_ne, beq_eq_false_iff_ne, bne_eq_false_iff_eq, Bool.and_true, Bool.true_and, ne_eq] at hc4
       refine wp_region_lit ?_
       refine q0 hf hM [3, 5, 16, 17, 18] [{}, {}] (nw := [(6, eI i)]) An ?_
       clear hf; intro a hf
       refine wpList_nil ?_
       refine hK13 _ _ ?_
       refine wp_region_lit ?_
       refine q0 hf hM [6, 3, 5, 16, 17] [{ hint := some (iV (i + 1)) }, {}] (nw := [(18, eI (i + 1))]) (ob := [(iV (IntKind.i64.wrap (i + 1)) : Value) = (iV (i + 1) : Value)]) (Ao (wr (by omega))) ?_
       clear hf; intro a hf
       refine wpList_nil ?_
       have hf := (hf.prune [3, 5, 6, 16, 17, 18]).to (env' := [(3, eP B1 0), (5, eS a'1 (ordS ltH l).length c'1), (6, eI i), (16, eS a'1 (ordS ltH l).length c'1), (17, eI ((ordS ltH l).length : Int)), (18, eI (i + 1))]) (by kernel_rfl)
       replace hO : OwnOk w.heap.size [⟨B1, 28, [iV ti, iV tg]⟩] [⟨28, 2, .slice a'1 (ordS ltH l).length c'1, (ordS ltH l).length, flat fH (ordS ltH l)⟩] w5 := hO.sub (.cons_cons _ (.cons _ .slnil)) (List.Sublist.refl _)
       replace hM : MemOk [⟨B1, 28, [iV ti, iV tg]⟩] w5 := hM.sub (.cons_cons _ (.cons _ .slnil))
       refine hL1 _ _ _ (by omega) ⟨i + 1, rfl, hf.conv (Ac rfl (Ac rfl (Ac (congrArg (Value.int .i64) (by first | rw [findS_next ordH ⟨0, 0⟩ hrs (by omega), if_pos (eqc_hT (by omega))] | rw [findS_next ordH ⟨0, 0⟩ hrs (by omega), if_neg (nec_hT (by omega))])) (Ac rfl (Ac rfl (Ao rfl)))))), hM, hk0, hO, (by omega)⟩
     · have hc4 := hc4r
       try simp only [Bool.or_eq_true, Bool.and_eq_true, Bool.not_eq_true', Bool.not_eq_false', Bool.or_eq_false_iff, Bool.and_eq_false_iff, decide_eq_true_eq, decide_eq_false_iff_not, beq_iff_eq, bne_iff_ne, beq_eq_false_iff_ne, bne_eq_false_iff_eq, Bool.and_true, Bool.true_and, ne_eq] at hc4
       refine wp_skip ?_
       refine hK13 _ _ ?_
       refine wp_region_lit ?_
       refine q0 hf hM [3, 5, 6, 16, 17] [{ hint := some (iV (i + 1)) }, {}] (nw := [(18, eI (i + 1))]) (ob := [(iV (IntKind.i64.wrap (i + 1)) : Value) = (iV (i + 1) : Value)]) (Ao (wr (by omega))) ?_
       clear hf; intro a hf
       refine wpList_nil ?_
       have hf := (hf.prune [3, 5, 6, 16, 17, 18]).to (env' := [(3, eP B1 0), (5, eS a'1 (ordS ltH l).length c'1), (6, eI (findS ltH ((ordS ltH l).take i.toNat) (⟨ti, tg⟩ : H2))), (16, eS a'1 (ordS ltH l).length c'1), (17, eI ((ordS ltH l).length : Int)), (18, eI (i + 1))]) (by kernel_rfl)
       replace hO : OwnOk w.heap.size [⟨B1, 28, [iV ti, iV tg]⟩] [⟨28, 2, .slice a'1 (ordS ltH l).length c'1, (ordS ltH l).length, flat fH (ordS ltH l)⟩] w5 := hO.sub (.cons_cons _ (.cons _ .slnil)) (List.Sublist.refl _)
       replace hM : MemOk [⟨B1, 28, [iV ti, iV tg]⟩] w5 := hM.sub (.cons_cons _ (.cons _ .slnil))
       refine hL1 _ _ _ (by omega) ⟨i + 1, rfl, hf.conv (Ac rfl (Ac rfl (Ac (congrArg (Value.int .i64) (by first | rw [findS_next ordH ⟨0, 0⟩ hrs (by omega), if_pos (eqc_hT (by omega))] | rw [findS_next ordH ⟨0, 0⟩ hrs (by omega), if_neg (nec_hT (by omega))])) (Ac rfl (Ac rfl (Ao rfl)))))), hM, hk0, hO, (by omega)⟩
   · have hc3 := (nU hc3r)
     refine wp_exit ?_
     refine hK9 _ _ ?_
     refine wp_seq_k (fun K16 hK16 => ?_)
     refine wp_region_lit ?_
     refine q0 hf hM [6] [{}, { os := [.ld 0 0, .ld 0 1] }] (nw := [(29, .val (.agg #[iV ti, iV tg])), (28, eS a'1 (ordS ltH l).length c'1)]) (ob := [Ad B1 0, Ad B1 1]) (Ac (ad _ _) (Ao (ad _ _))) ?_
     clear hf; intro a hf
     refine sxcall hf rfl rfl rfl rfl (g := 22) (vs := [.slice a'1 (ordS ltH l).length c'1, .agg #[iV ti, iV tg]]) (ob := []) (by as_aux_lemma => kernel_rfl) An enters22 (ofind a'1 (ordS ltH l) c'1 ti tg w4  (own_arr (hO.own _ (List.Mem.head _))) (by first | omega | (simp; omega) | (simp; done) | exact Nat.le_trans (byKinds_len _ _) (by omega) | decide) (by first | assumption | exact ordS_rises ordH _ | exact ordS_rises ordI _ | (unfold Rises; decide))) ?_
     clear hf; rintro _ w6 a ⟨rfl, hk⟩ hf
     have hO := hO.keepNn hk
     have hM := hM.keepNn hk
     have hk0 := hk0.trans hk.nn
     clear hk
     refine q0 hf hM [] [{}, {}, {}] (nw := [(4, eB (((findS ltH (ordS ltH l) (⟨ti, tg⟩ : H2)) : Int) == (findS ltH ((ordS ltH l).take i.toNat) (⟨ti, tg⟩ : H2))))]) An ?_
     clear hf; intro a hf
     refine wpList_nil ?_
     refine hK16 _ _ ?_
     refine wp_ret ?_
     refine qr (fn := Try.f6) hf hM [] (l := [bV (((findS ltH (ordS ltH l) (⟨ti, tg⟩ : H2)) : Int) == (findS ltH ((ordS ltH l).take i.toNat) (⟨ti, tg⟩ : H2)))]) (ob := []) An ?_
     show (bV (((findS ltH (ordS ltH l) (⟨ti, tg⟩ : H2)) : Int) == (findS ltH ((ordS ltH l).take i.toNat) (⟨ti, tg⟩ : H2))) : Value) = .bool true ∧ Keep Nn w w6
     have e : (ordS ltH l).take i.toNat = (ordS ltH l) := List.take_of_length_le (by omega)
     refine ⟨congrArg Value.bool ?_, hk0⟩
     rw [e]
     simp
end Go.Proofs.Ytllopoaojchcmaa
