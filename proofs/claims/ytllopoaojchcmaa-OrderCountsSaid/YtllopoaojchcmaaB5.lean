/- layer 2: lists put together, lists without others -/
import Derived.Test.YtllopoaojchcmaaB1
import Derived.Test.YtllopoaojchcmaaXp2h
import Derived.Test.YtllopoaojchcmaaXG
namespace Go.Proofs.Ytllopoaojchcmaa
open Go.Px
set_option linter.unusedVariables false
set_option linter.unusedSimpArgs false

set_option maxRecDepth 10000 in
set_option maxHeartbeats 1600000 in
theorem grow_hand (kk : Int) (w : World) (hk : 0 ≤ kk ∧ kk ≤ 1000000) :
    Calls Try.prog 57 #[.slice none 0 0, iV kk] w (Ret fun v w' => ∃ a' c', v = .slice a' 0 c' ∧ Keep Nn w w' ∧ World.ownsRow w' w.heap.size 28 2 (.slice a' 0 c') 0 (flat fH ([] : List H2))) := by
 refine sxenter (n := 27) (args := [.slice none 0 0, iV kk]) Try.func57 rfl rfl rfl fun a hf => ?_
 replace hf : Fr 27 [(0, eS none 0 0), (1, eI kk)] a := hf
 have hM : MemOk [] w := MemOk.nil w
 have hk0 : Keep Nn w w := Keep.refl _ _
 refine wp_seq_k (fun K1 hK1 => ?_)
 refine wp_region_lit ?_
 refine q0 hf hM [0, 1] [{}] (nw := []) An ?_
 clear hf; intro a hf
 refine wpList_nil ?_
 refine hK1 _ _ ?_
 refine wp_seq_k (fun K2 hK2 => ?_)
 refine wp_seq_k (fun K3 hK3 => ?_)
 refine wp_region_lit ?_
 refine q0 hf hM [0, 1] [{}, {}] (nw := [(6, eB (decide ((kk : Int) < 0)))]) An ?_
 clear hf; intro a hf
 refine wpList_nil ?_
 refine hK3 _ _ ?_
 refine qc hf (b := (decide ((kk : Int) < 0))) (fun hc1r => ?_) (fun hc1r => ?_)
 · have hc1 := (nT hc1r)
   exfalso; omega
 · have hc1 := (nU hc1r)
   refine wp_skip ?_
   refine hK2 _ _ ?_
   refine wp_seq_k (fun K4 hK4 => ?_)
   refine wp_seq_k (fun K5 hK5 => ?_)
   refine wp_region_lit ?_
   refine q0 hf hM [0] [{}, {}, {}, {}, {}, { hint := some (iV ((0 : Int) - 0)) }, { hint := some (iV (kk - ((0 : Int) - 0))) }, {}] (nw := [(1, eI (kk - ((0 : Int) - 0)))]) (ob := [(iV (IntKind.i64.wrap ((0 : Int) - 0)) : Value) = (iV ((0 : Int) - 0) : Value), (iV (IntKind.i64.wrap (kk - ((0 : Int) - 0))) : Value) = (iV (kk - ((0 : Int) - 0)) : Value)]) (Ac (wr (by omega)) (Ao (wr (by omega)))) ?_
   clear hf; intro a hf
   refine wpList_nil ?_
   refine hK5 _ _ ?_
   refine wp_seq_k (fun K6 hK6 => ?_)
   refine wp_region_lit ?_
   refine q0 hf hM [1, 0] [{}, {}] (nw := [(16, eB (decide (((kk - ((0 : Int) - 0)) : Int) > 0)))]) An ?_
   clear hf; intro a hf
   refine wpList_nil ?_
   refine hK6 _ _ ?_
   refine qc hf (b := (decide (((kk - ((0 : Int) - 0)) : Int) > 0))) (fun hc2r => ?_) (fun hc2r => ?_)
   · have hc2 := (nT hc2r)
     refine wp_region_lit ?_
     refine q0 hf hM [0] [{}, {}, {}, { sp := true, hint := some (.slice none 0 0) }, {}] (nw := [(21, eI (kk - ((0 : Int) - 0))), (20, eS none 0 0)]) (ob := [0 ≤ ((0 : Int) : Int) ∧ ((0 : Int) : Int) ≤ ((0 : Nat) : Int), (.slice none ((0 : Int) : Int).toNat 0 : Value) = (.slice none 0 0 : Value)]) (Ac (by omega) (Ao (by first | rfl | (simp; done) | (simp; omega)))) ?_
     clear hf; intro a hf
     have hO : OwnOk w.heap.size [] [] w := OwnOk.nil hM
     refine sxgrow hf hM hO (e := 28) (sz := 2) (by_ := 16) (k := (kk - ((0 : Int) - 0)).toNat) rfl rfl rfl rfl rfl rfl (by omega) Try.underlying22 Try.underlying3 (by kernel_rfl) rfl (by omega) (by simp only [maxLen]; omega) (by have := hk0.size; omega) ?_
     clear hf hM hO; intro a w1 B6 cv1 hf hM hO hk
     replace hO : OwnOk w.heap.size [] [⟨28, 2, .slice (some ⟨B6, 0, none⟩) 0 cv1, 0, flat fH ([] : List H2)⟩] w1 := hO
     have hk0 := hk0.trans hk
     clear hk
     refine q0 hf hM [] [{}, {}, { sp := true, hint := some (.slice (some ⟨B6, 0, none⟩) 0 cv1) }, {}] (nw := [(0, eS (some ⟨B6, 0, none⟩) 0 cv1)]) (ob := [0 ≤ (0 : Int) ∧ (0 : Int) ≤ ((cv1 : Nat) : Int), (.slice (some ⟨B6, 0, none⟩) (0 : Int).toNat cv1 : Value) = (.slice (some ⟨B6, 0, none⟩) 0 cv1 : Value)]) (Ac (by omega) (Ao (by first | rfl | (simp; done) | (simp; omega)))) ?_
     clear hf; intro a hf
     refine wpList_nil ?_
     refine hK4 _ _ ?_
     refine wp_seq_k (fun K7 hK7 => ?_)
     refine wp_region_lit ?_
     refine q0 hf hM [] [{}, {}] (nw := [(4, eS (some ⟨B6, 0, none⟩) 0 cv1)]) An ?_
     clear hf; intro a hf
     refine wpList_nil ?_
     refine hK7 _ _ ?_
     refine wp_ret ?_
     refine qr (fn := Try.f57) hf hM [] (l := [.slice (some ⟨B6, 0, none⟩) 0 cv1]) (ob := []) An ?_
     show ∃ a' c', (.slice (some ⟨B6, 0, none⟩) 0 cv1 : Value) = .slice a' 0 c' ∧ Keep Nn w w1 ∧ World.ownsRow w1 w.heap.size 28 2 (.slice a' 0 c') 0 (flat fH ([] : List H2))
     exact ⟨_, _, rfl, hk0, hO.own _ (List.Mem.head _)⟩
   · have hc2 := (nU hc2r)
     refine wp_skip ?_
     refine hK4 _ _ ?_
     refine wp_seq_k (fun K8 hK8 => ?_)
     refine wp_region_lit ?_
     refine q0 hf hM [] [{}, {}] (nw := [(4, eS none 0 0)]) An ?_
     clear hf; intro a hf
     refine wpList_nil ?_
     refine hK8 _ _ ?_
     refine wp_ret ?_
     refine qr (fn := Try.f57) hf hM [] (l := [.slice none 0 0]) (ob := []) An ?_
     show ∃ a' c', (.slice none 0 0 : Value) = .slice a' 0 c' ∧ Keep Nn w w ∧ World.ownsRow w w.heap.size 28 2 (.slice a' 0 c') 0 (flat fH ([] : List H2))
     exact ⟨none, 0, rfl, hk0, World.ownsRow_nil _ _ _ _⟩

set_option maxRecDepth 10000 in
set_option maxHeartbeats 1600000 in
theorem concat_hand (B : Nat) (av : Option Addr) (l : List H2) (c : Nat) (bv : Option Addr) (m : List H2) (cm : Nat) (w : World) (hB : w.heap[B]? = some (.cells #[.slice av l.length c, .slice bv m.length cm] 22 (0, 0))) (hav : Arr w 2 av l.length c (flat fH l)) (hbv : Arr w 2 bv m.length cm (flat fH m)) (hlm : l.length + m.length ≤ 1000000) :
    Calls Try.prog 40 #[.slice (some ⟨B, 0, none⟩) 2 2] w (Ret fun v w' => ∃ a' c', v = .slice a' (l ++ m).length c' ∧ Keep Nn w w' ∧ World.ownsRow w' w.heap.size 28 2 (.slice a' (l ++ m).length c') (l ++ m).length (flat fH (l ++ m))) := by
 refine sxenter (n := 36) (args := [.slice (some ⟨B, 0, none⟩) 2 2]) Try.func40 rfl rfl rfl fun a hf => ?_
 replace hf : Fr 36 [(0, eS (some ⟨B, 0, none⟩) 2 2)] a := hf
 have hM : MemOk [⟨B, 22, [.slice av l.length c, .slice bv m.length cm]⟩] w := MemOk.one hB
 have hk0 : Keep Nn w w := Keep.refl _ _
 refine wp_seq_k (fun K1 hK1 => ?_)
 refine wp_region_lit ?_
 refine q0 hf hM [0] [{}] (nw := []) An ?_
 clear hf; intro a hf
 refine wpList_nil ?_
 refine hK1 _ _ ?_
 refine wp_seq_k (fun K2 hK2 => ?_)
 refine wp_region_lit ?_
 refine q0 hf hM [0] [{}] (nw := [(3, eI 0)]) An ?_
 clear hf; intro a hf
 refine wpList_nil ?_
 refine hK2 _ _ ?_
 refine wp_seq_k (fun K3 hK3 => ?_)
 refine wp_seq_k (fun K4 hK4 => ?_)
 refine wp_region_lit ?_
 refine q0 hf hM [3, 0] [{}, {}, {}] (nw := [(11, eI 0), (10, eI 2), (9, eS (some ⟨B, 0, none⟩) 2 2)]) An ?_
 clear hf; intro a hf
 refine wpList_nil ?_
 refine hK4 _ _ ?_
 refine wp_block ?_
 refine wp_loop_rounds 3 ?_
 refine sxround (m := 2) fun L1 hL1 => ?_
 refine wp_seq_k (fun K5 hK5 => ?_)
 refine wp_region_lit ?_
 refine q0 hf hM [11, 10, 9, 3, 0] [{}] (nw := [(12, eB true)]) An ?_
 clear hf; intro a hf
 refine wpList_nil ?_
 refine hK5 _ _ ?_
 refine wp_seq_k (fun K6 hK6 => ?_)
 refine sxcond hf (b := true) (by kernel_rfl) (fun _ => ?_) (fun h => by cases h)
 refine wp_skip ?_
 refine hK6 _ _ ?_
 refine wp_seq_k (fun K7 hK7 => ?_)
 refine wp_block ?_
 refine wp_seq_k (fun K8 hK8 => ?_)
 refine wp_region_lit ?_
 refine q0 hf hM [11, 10, 9, 3, 0] [{ sp := true }, { os := [.ld 0 0] }, {}] (nw := [(5, eS av l.length c)]) (ob := [(0 : Int) ≤ 0 ∧ (0 : Int) < (2 : Int), (some ⟨B, 0, none⟩ : Option Addr).isSome = true, Ad B 0]) (Ac (by omega) (Ac rfl (Ao (ad _ _)))) ?_
 clear hf; intro a hf
 refine wpList_nil ?_
 refine hK8 _ _ ?_
 refine wp_seq_k (fun K9 hK9 => ?_)
 refine wp_region_lit ?_
 refine q0 hf hM [11, 10, 9, 0] [{}, {}, {}, { hint := some (iV (0 + (l.length : Int))) }, {}] (nw := [(3, eI (0 + (l.length : Int)))]) (ob := [(iV (IntKind.i64.wrap (0 + (l.length : Int))) : Value) = (iV (0 + (l.length : Int)) : Value)]) (Ao (wr (by omega))) ?_
 clear hf; intro a hf
 refine wpList_nil ?_
 refine hK9 _ _ ?_
 refine wp_seq_k (fun K10 hK10 => ?_)
 refine wp_region_lit ?_
 refine q0 hf hM [3, 11, 10, 9, 0] [{}, {}] (nw := [(20, eB (decide (((0 + (l.length : Int)) : Int) < 0)))]) An ?_
 clear hf; intro a hf
 refine wpList_nil ?_
 refine hK10 _ _ ?_
 refine qc hf (b := (decide (((0 + (l.length : Int)) : Int) < 0))) (fun hc2r => ?_) (fun hc2r => ?_)
 · have hc2 := (nT hc2r)
   exfalso; omega
 · have hc2 := (nU hc2r)
   refine wp_skip ?_
   refine hK7 _ _ ?_
   refine wp_region_lit ?_
   refine q0 hf hM [3, 10, 9, 0] [{}, {}] (nw := [(11, eI 1)]) An ?_
   clear hf; intro a hf
   refine wpList_nil ?_
   refine hL1 _ _ ?_
   refine sxround (m := 1) fun L2 hL2 => ?_
   refine wp_seq_k (fun K11 hK11 => ?_)
   refine wp_region_lit ?_
   refine q0 hf hM [11, 3, 10, 9, 0] [{}] (nw := [(12, eB true)]) An ?_
   clear hf; intro a hf
   refine wpList_nil ?_
   refine hK11 _ _ ?_
   refine wp_seq_k (fun K12 hK12 => ?_)
   refine sxcond hf (b := true) (by kernel_rfl) (fun _ => ?_) (fun h => by cases h)
   refine wp_skip ?_
   refine hK12 _ _ ?_
   refine wp_seq_k (fun K13 hK13 => ?_)
   refine wp_block ?_
   refine wp_seq_k (fun K14 hK14 => ?_)
   refine wp_region_lit ?_
   refine q0 hf hM [11, 3, 10, 9, 0] [{ sp := true }, { os := [.ld 0 1] }, {}] (nw := [(5, eS bv m.length cm)]) (ob := [(0 : Int) ≤ 1 ∧ (1 : Int) < (2 : Int), (some ⟨B, 0, none⟩ : Option Addr).isSome = true, Ad B 1]) (Ac (by omega) (Ac rfl (Ao (ad _ _)))) ?_
   clear hf; intro a hf
   refine wpList_nil ?_
   refine hK14 _ _ ?_
   refine wp_seq_k (fun K15 hK15 => ?_)
   refine wp_region_lit ?_
   refine q0 hf hM [11, 10, 9, 0] [{}, {}, {}, { hint := some (iV ((0 + (l.length : Int)) + (m.length : Int))) }, {}] (nw := [(3, eI ((0 + (l.length : Int)) + (m.length : Int)))]) (ob := [(iV (IntKind.i64.wrap ((0 + (l.length : Int)) + (m.length : Int))) : Value) = (iV ((0 + (l.length : Int)) + (m.length : Int)) : Value)]) (Ao (wr (by omega))) ?_
   clear hf; intro a hf
   refine wpList_nil ?_
   refine hK15 _ _ ?_
   refine wp_seq_k (fun K16 hK16 => ?_)
   refine wp_region_lit ?_
   refine q0 hf hM [3, 11, 10, 9, 0] [{}, {}] (nw := [(20, eB (decide ((((0 + (l.length : Int)) + (m.length : Int)) : Int) < 0)))]) An ?_
   clear hf; intro a hf
   refine wpList_nil ?_
   refine hK16 _ _ ?_
   refine qc hf (b := (decide ((((0 + (l.length : Int)) + (m.length : Int)) : Int) < 0))) (fun hc4r => ?_) (fun hc4r => ?_)
   · have hc4 := (nT hc4r)
     exfalso; omega
   · have hc4 := (nU hc4r)
     refine wp_skip ?_
     refine hK13 _ _ ?_
     refine wp_region_lit ?_
     refine q0 hf hM [3, 10, 9, 0] [{}, {}] (nw := [(11, eI 2)]) An ?_
     clear hf; intro a hf
     refine wpList_nil ?_
     refine hL2 _ _ ?_
     refine sxround (m := 0) fun L3 hL3 => ?_
     refine wp_seq_k (fun K17 hK17 => ?_)
     refine wp_region_lit ?_
     refine q0 hf hM [11, 3, 10, 9, 0] [{}] (nw := [(12, eB false)]) An ?_
     clear hf; intro a hf
     refine wpList_nil ?_
     refine hK17 _ _ ?_
     refine wp_seq_k (fun K18 hK18 => ?_)
     refine sxcond hf (b := false) (by kernel_rfl) (fun h => by cases h) (fun _ => ?_)
     refine wp_exit ?_
     refine hK3 _ _ ?_
     refine wp_seq_k (fun K19 hK19 => ?_)
     refine wp_region_lit ?_
     refine q0 hf hM [0] [{}] (nw := [(23, eI ((0 + (l.length : Int)) + (m.length : Int)))]) An ?_
     clear hf; intro a hf
     refine sxcall hf rfl rfl rfl rfl (g := 57) (vs := [.slice none 0 0, iV ((0 + (l.length : Int)) + (m.length : Int))]) (ob := []) (by as_aux_lemma => kernel_rfl) An enters57 (grow_hand ((0 + (l.length : Int)) + (m.length : Int)) w  (by omega)) ?_
     clear hf; rintro _ w1 a ⟨a'1, c'1, rfl, hk, hx1⟩ hf
     have hO : OwnOk w.heap.size [⟨B, 22, [.slice av l.length c, .slice bv m.length cm]⟩] [] w := OwnOk.nil hM
     have hO := hO.more hM hk (by have := hk0.size; omega) hx1
     replace hO : OwnOk w.heap.size [⟨B, 22, [.slice av l.length c, .slice bv m.length cm]⟩] [⟨28, 2, .slice a'1 0 c'1, 0, flat fH ([] : List H2)⟩] _ := hO
     have hM := hM.keepNn hk
     have hk0 := hk0.trans hk.nn
     clear hk
     refine q0 hf hM [0] [{}] (nw := [(6, eS a'1 0 c'1)]) An ?_
     clear hf; intro a hf
     refine wpList_nil ?_
     refine hK19 _ _ ?_
     refine wp_seq_k (fun K20 hK20 => ?_)
     refine wp_seq_k (fun K21 hK21 => ?_)
     refine wp_region_lit ?_
     refine q0 hf hM [6] [{}, {}, {}] (nw := [(27, eI 0), (26, eI 2), (25, eS (some ⟨B, 0, none⟩) 2 2)]) An ?_
     clear hf; intro a hf
     refine wpList_nil ?_
     refine hK21 _ _ ?_
     refine wp_block ?_
     refine wp_loop_rounds 3 ?_
     refine sxround (m := 2) fun L4 hL4 => ?_
     refine wp_seq_k (fun K22 hK22 => ?_)
     refine wp_region_lit ?_
     refine q0 hf hM [27, 26, 25, 6] [{}] (nw := [(28, eB true)]) An ?_
     clear hf; intro a hf
     refine wpList_nil ?_
     refine hK22 _ _ ?_
     refine wp_seq_k (fun K23 hK23 => ?_)
     refine sxcond hf (b := true) (by kernel_rfl) (fun _ => ?_) (fun h => by cases h)
     refine wp_skip ?_
     refine hK23 _ _ ?_
     refine wp_seq_k (fun K24 hK24 => ?_)
     refine wp_block ?_
     refine wp_seq_k (fun K25 hK25 => ?_)
     refine wp_region_lit ?_
     refine q0 hf hM [27, 26, 25, 6] [{ sp := true }, { os := [.ld 0 0] }, {}] (nw := [(8, eS av l.length c)]) (ob := [(0 : Int) ≤ 0 ∧ (0 : Int) < (2 : Int), (some ⟨B, 0, none⟩ : Option Addr).isSome = true, Ad B 0]) (Ac (by omega) (Ac rfl (Ao (ad _ _)))) ?_
     clear hf; intro a hf
     refine wpList_nil ?_
     refine hK25 _ _ ?_
     refine wp_region_lit ?_
     refine q0 hf hM [27, 26, 25, 6] [{}, {}] (nw := [(32, eS av l.length c), (31, eS a'1 0 c'1)]) An ?_
     clear hf; intro a hf
     replace hO : OwnOk w.heap.size [⟨B, 22, [.slice av l.length c, .slice bv m.length cm]⟩] [⟨28, 2, .slice a'1 0 c'1, 0, flat fH ([] : List H2)⟩] w1 := OwnOk.front (l1 := []) (l2 := []) hO
     refine sxappend hf hM (e := 28) (sz := 2) (by_ := 16) (k := 0) (v := .slice a'1 0 c'1) (xs := flat fH ([] : List H2)) hO rfl rfl rfl rfl (av := av) (m := l.length) (c := c) rfl rfl Try.underlying22 (by kernel_rfl) rfl (news := flat fH l) (hav.keepNn hk0) (flat_one1 fH_one) (by simp only [maxLen]; constructor <;> (first | omega | (simp; omega))) (by have := hk0.size; omega) ?_
     clear hf hM hO; intro a w2 av1 cv1 hf hM hO hk
     have en : (0 + l.length : Nat) = l.length := (by first | (simp; done) | (simp; omega))
     have ec : flat fH ([] : List H2) ++ flat fH l = flat fH l := (by first | rfl | exact (flat_app _ _ _).symm | simp [flat_app, flat_nil])
     rw [en] at hf hO; rw [ec] at hO; clear en ec
     replace hO : OwnOk w.heap.size [⟨B, 22, [.slice av l.length c, .slice bv m.length cm]⟩] [⟨28, 2, .slice av1 l.length cv1, l.length, flat fH l⟩] w2 := hO
     have hk0 := hk0.then hk (by intro i hi h; have := h.1; omega)
     clear hk
     refine q0 hf hM [27, 26, 25] [{}] (nw := [(6, eS av1 l.length cv1)]) An ?_
     clear hf; intro a hf
     refine wpList_nil ?_
     refine hK24 _ _ ?_
     refine wp_region_lit ?_
     refine q0 hf hM [6, 26, 25] [{}, {}] (nw := [(27, eI 1)]) An ?_
     clear hf; intro a hf
     refine wpList_nil ?_
     refine hL4 _ _ ?_
     refine sxround (m := 1) fun L5 hL5 => ?_
     refine wp_seq_k (fun K26 hK26 => ?_)
     refine wp_region_lit ?_
     refine q0 hf hM [27, 6, 26, 25] [{}] (nw := [(28, eB true)]) An ?_
     clear hf; intro a hf
     refine wpList_nil ?_
     refine hK26 _ _ ?_
     refine wp_seq_k (fun K27 hK27 => ?_)
     refine sxcond hf (b := true) (by kernel_rfl) (fun _ => ?_) (fun h => by cases h)
     refine wp_skip ?_
     refine hK27 _ _ ?_
     refine wp_seq_k (fun K28 hK28 => ?_)
     refine wp_block ?_
     refine wp_seq_k (fun K29 hK29 => ?_)
     refine wp_region_lit ?_
     refine q0 hf hM [27, 6, 26, 25] [{ sp := true }, { os := [.ld 0 1] }, {}] (nw := [(8, eS bv m.length cm)]) (ob := [(0 : Int) ≤ 1 ∧ (1 : Int) < (2 : Int), (some ⟨B, 0, none⟩ : Option Addr).isSome = true, Ad B 1]) (Ac (by omega) (Ac rfl (Ao (ad _ _)))) ?_
     clear hf; intro a hf
     refine wpList_nil ?_
     refine hK29 _ _ ?_
     refine wp_region_lit ?_
     refine q0 hf hM [27, 6, 26, 25] [{}, {}] (nw := [(32, eS bv m.length cm), (31, eS av1 l.length cv1)]) An ?_
     clear hf; intro a hf
     replace hO : OwnOk w.heap.size [⟨B, 22, [.slice av l.length c, .slice bv m.length cm]⟩] [⟨28, 2, .slice av1 l.length cv1, l.length, flat fH l⟩] w2 := OwnOk.front (l1 := []) (l2 := []) hO
     refine sxappend hf hM (e := 28) (sz := 2) (by_ := 16) (k := l.length) (v := .slice av1 l.length cv1) (xs := flat fH l) hO rfl rfl rfl rfl (av := bv) (m := m.length) (c := cm) rfl rfl Try.underlying22 (by kernel_rfl) rfl (news := flat fH m) (hbv.keepNn hk0) (flat_one1 fH_one) (by simp only [maxLen]; constructor <;> (first | omega | (simp; omega))) (by have := hk0.size; omega) ?_
     clear hf hM hO; intro a w3 av2 cv2 hf hM hO hk
     have en : (l.length + m.length : Nat) = (l ++ m).length := (by first | (simp; done) | (simp; omega))
     have ec : flat fH l ++ flat fH m = flat fH (l ++ m) := (by first | rfl | exact (flat_app _ _ _).symm | simp [flat_app, flat_nil])
     rw [en] at hf hO; rw [ec] at hO; clear en ec
     replace hO : OwnOk w.heap.size [⟨B, 22, [.slice av l.length c, .slice bv m.length cm]⟩] [⟨28, 2, .slice av2 (l ++ m).length cv2, (l ++ m).length, flat fH (l ++ m)⟩] w3 := hO
     have hk0 := hk0.then hk (by intro i hi h; have := h.1; omega)
     clear hk
     refine q0 hf hM [27, 26, 25] [{}] (nw := [(6, eS av2 (l ++ m).length cv2)]) An ?_
     clear hf; intro a hf
     refine wpList_nil ?_
     refine hK28 _ _ ?_
     refine wp_region_lit ?_
     refine q0 hf hM [6, 26, 25] [{}, {}] (nw := [(27, eI 2)]) An ?_
     clear hf; intro a hf
     refine wpList_nil ?_
     refine hL5 _ _ ?_
     refine sxround (m := 0) fun L6 hL6 => ?_
     refine wp_seq_k (fun K30 hK30 => ?_)
     refine wp_region_lit ?_
     refine q0 hf hM [27, 6, 26, 25] [{}] (nw := [(28, eB false)]) An ?_
     clear hf; intro a hf
     refine wpList_nil ?_
     refine hK30 _ _ ?_
     refine wp_seq_k (fun K31 hK31 => ?_)
     refine sxcond hf (b := false) (by kernel_rfl) (fun h => by cases h) (fun _ => ?_)
     refine wp_exit ?_
     refine hK20 _ _ ?_
     refine wp_seq_k (fun K32 hK32 => ?_)
     refine wp_region_lit ?_
     refine q0 hf hM [] [{}, {}] (nw := [(2, eS av2 (l ++ m).length cv2)]) An ?_
     clear hf; intro a hf
     refine wpList_nil ?_
     refine hK32 _ _ ?_
     refine wp_ret ?_
     refine qr (fn := Try.f40) hf hM [] (l := [.slice av2 (l ++ m).length cv2]) (ob := []) An ?_
     show ∃ a' c', (.slice av2 (l ++ m).length cv2 : Value) = .slice a' (l ++ m).length c' ∧ Keep Nn w w3 ∧ World.ownsRow w3 w.heap.size 28 2 (.slice a' (l ++ m).length c') (l ++ m).length (flat fH (l ++ m))
     exact ⟨_, _, rfl, hk0, hO.own _ (List.Mem.head _)⟩

set_option maxRecDepth 10000 in
set_option maxHeartbeats 1600000 in
theorem omerge (av : Option Addr) (l : List H2) (c : Nat) (bv : Option Addr) (m : List H2) (cm : Nat) (w : World) (hav : Arr w 2 av l.length c (flat fH l)) (hbv : Arr w 2 bv m.length cm (flat fH m)) (hlm : l.length + m.length ≤ 1000000) :
    Calls Try.prog 24 #[.slice av l.length c, .slice bv m.length cm] w (Ret fun v w' => ∃ a' c', v = .slice a' (ordS ltH (l ++ m)).length c' ∧ Keep Nn w w' ∧ World.ownsRow w' w.heap.size 28 2 (.slice a' (ordS ltH (l ++ m)).length c') (ordS ltH (l ++ m)).length (flat fH (ordS ltH (l ++ m)))) := by
 refine sxenter (n := 10) (args := [.slice av l.length c, .slice bv m.length cm]) Try.func24 rfl rfl rfl fun a hf => ?_
 replace hf : Fr 10 [(0, eS av l.length c), (1, eS bv m.length cm)] a := hf
 have hM : MemOk [] w := MemOk.nil w
 have hk0 : Keep Nn w w := Keep.refl _ _
 refine wp_seq_k (fun K1 hK1 => ?_)
 refine wp_region_lit ?_
 refine q0 hf hM [0, 1] [{}] (nw := []) An ?_
 clear hf; intro a hf
 refine wpList_nil ?_
 refine hK1 _ _ ?_
 refine wp_seq_k (fun K2 hK2 => ?_)
 refine wp_region_lit ?_
 refine q0 hf hM [] [{}, {}] (nw := [(6, eS bv m.length cm), (5, eS av l.length c)]) An ?_
 clear hf; intro a hf
 refine sxbslice hf hM (t := 72) (e := 22) (len := 2) (cs := [.slice av l.length c, .slice bv m.length cm]) (ob := []) rfl rfl rfl rfl (by as_aux_lemma => kernel_rfl) An (by as_aux_lemma => kernel_rfl) ?_
 clear hf hM; intro a w1 B3 hf hM hB hk
 replace hM : MemOk [⟨B3, 22, [.slice av l.length c, .slice bv m.length cm]⟩] w1 := hM
 have hbB3 : w.heap.size ≤ B3 := by have := hk0.size; omega
 have hk0 := hk0.trans hk.nn
 clear hk hB
 refine sxcall hf rfl rfl rfl rfl (g := 40) (vs := [.slice (some ⟨B3, 0, none⟩) 2 2]) (ob := []) (by as_aux_lemma => kernel_rfl) An enters40 (concat_hand B3 av l c bv m cm w1  (hM.at_ _ (List.Mem.head _)) (hav.keepNn hk0) (hbv.keepNn hk0) (by omega)) ?_
 clear hf; rintro _ w2 a ⟨a'1, c'1, rfl, hk, hx1⟩ hf
 have hO : OwnOk w.heap.size [⟨B3, 22, [.slice av l.length c, .slice bv m.length cm]⟩] [] w1 := OwnOk.nil hM
 have hO := hO.more hM hk (by have := hk0.size; omega) hx1
 replace hO : OwnOk w.heap.size [⟨B3, 22, [.slice av l.length c, .slice bv m.length cm]⟩] [⟨28, 2, .slice a'1 (l ++ m).length c'1, (l ++ m).length, flat fH (l ++ m)⟩] _ := hO
 have hM := hM.keepNn hk
 have hk0 := hk0.trans hk.nn
 clear hk
 refine sxcall hf rfl rfl rfl rfl (g := 33) (vs := [.slice a'1 (l ++ m).length c'1, .func (.func 34) #[] #[]]) (ob := []) (by as_aux_lemma => kernel_rfl) An enters33 (sorted_hand a'1 (l ++ m) c'1 w2  (own_arr (hO.own _ (List.Mem.head _))) (by first | omega | (simp; omega) | (simp; done) | exact Nat.le_trans (byKinds_len _ _) (by omega) | decide)) ?_
 clear hf; rintro _ w3 a ⟨a'2, c'2, rfl, hk, hx2⟩ hf
 have hO := hO.more hM hk (by have := hk0.size; omega) hx2
 replace hO : OwnOk w.heap.size [⟨B3, 22, [.slice av l.length c, .slice bv m.length cm]⟩] [⟨28, 2, .slice a'2 ((ordS ltH (l ++ m)).length) c'2, (ordS ltH (l ++ m)).length, flat fH (ordS ltH (l ++ m))⟩, ⟨28, 2, .slice a'1 (l ++ m).length c'1, (l ++ m).length, flat fH (l ++ m)⟩] _ := hO
 have hM := hM.keepNn hk
 have hk0 := hk0.trans hk.nn
 clear hk
 refine q0 hf hM [] [{}] (nw := [(4, eS a'2 ((ordS ltH (l ++ m)).length) c'2)]) An ?_
 clear hf; intro a hf
 refine wpList_nil ?_
 refine hK2 _ _ ?_
 refine wp_ret ?_
 refine qr (fn := Try.f24) hf hM [] (l := [.slice a'2 ((ordS ltH (l ++ m)).length) c'2]) (ob := []) An ?_
 show ∃ a' c', (.slice a'2 ((ordS ltH (l ++ m)).length) c'2 : Value) = .slice a' (ordS ltH (l ++ m)).length c' ∧ Keep Nn w w3 ∧ World.ownsRow w3 w.heap.size 28 2 (.slice a' (ordS ltH (l ++ m)).length c') (ordS ltH (l ++ m)).length (flat fH (ordS ltH (l ++ m)))
 exact ⟨_, _, rfl, hk0, hO.own _ (List.Mem.head _)⟩

set_option maxRecDepth 10000 in
set_option maxHeartbeats 1600000 in
theorem index_hand (av : Option Addr) (l : List H2) (c : Nat) (gg : Nat) (cb : List Value) (p : H2 → Bool) (w : World) (hav : Arr w 2 av l.length c (flat fH l)) (hbav : l.length ≤ 1000000) (eg : enters Try.prog gg) (hp : ∀ (x : H2) (W : World), Keep Nn w W → Calls Try.prog gg (([.agg #[iV x.i, iV x.g]] : List Value) ++ cb).toArray W (Ret fun v W2 => v = .bool (p x) ∧ Keep Nn W W2)) :
    Calls Try.prog 58 #[.slice av l.length c, .func (.func gg) #[] (cb).toArray] w (Ret fun v w' => v = .int .i64 (idxF p l) ∧ Keep Nn w w') := by
 refine sxenter (n := 19) (args := [.slice av l.length c, .func (.func gg) #[] (cb).toArray]) Try.func58 rfl rfl rfl fun a hf => ?_
 replace hf : Fr 19 [(0, eS av l.length c), (1, .val (.func (.func gg) #[] (cb).toArray))] a := hf
 have hM : MemOk [] w := MemOk.nil w
 have hk0 : Keep Nn w w := Keep.refl _ _
 refine wp_seq_k (fun K1 hK1 => ?_)
 refine wp_region_lit ?_
 refine q0 hf hM [0, 1] [{}] (nw := []) An ?_
 clear hf; intro a hf
 refine wpList_nil ?_
 refine hK1 _ _ ?_
 refine wp_seq_k (fun K2 hK2 => ?_)
 refine wp_seq_k (fun K3 hK3 => ?_)
 refine wp_region_lit ?_
 refine q0 hf hM [0, 1] [{}, {}, {}] (nw := [(8, eI 0), (7, eI (l.length : Int))]) An ?_
 clear hf; intro a hf
 refine wpList_nil ?_
 refine hK3 _ _ ?_
 refine wp_block ?_
 have hf := (hf.prune [0, 1, 7, 8]).to (env' := [(0, eS av l.length c), (1, .val (.func (.func gg) #[] (cb).toArray)), (7, eI (l.length : Int)), (8, eI 0)]) (by kernel_rfl)
 refine sxloop (fun zm a w1 => ∃ (i : Int), zm = ((l.length : Int) - i).toNat ∧ Fr 19 [(0, eS av l.length c), (1, .val (.func (.func gg) #[] (cb).toArray)), (7, eI (l.length : Int)), (8, eI i)] a ∧ MemOk [] w1 ∧ Keep Nn w w1 ∧ (0 ≤ i ∧ i ≤ (l.length : Int)) ∧ (∀ j, j < i.toNat → p (l.getD j ⟨0, 0⟩) = false)) _ ⟨0, rfl, hf.conv (Ac rfl (Ac rfl (Ac rfl (Ao rfl)))), hM, hk0, (by omega), (fun j hj => by simp at hj)⟩ ?_
 clear hf hM hk0
 rintro _ a w1 ⟨i, rfl, hf, hM, hk0, hi, hno⟩ L1 hL1
 refine wp_seq_k (fun K4 hK4 => ?_)
 refine wp_region_lit ?_
 refine q0 hf hM [0, 1, 7, 8] [{}] (nw := [(9, eB (decide ((i : Int) < (l.length : Int))))]) An ?_
 clear hf; intro a hf
 refine wpList_nil ?_
 refine hK4 _ _ ?_
 refine wp_seq_k (fun K5 hK5 => ?_)
 refine qc hf (b := (decide ((i : Int) < (l.length : Int)))) (fun hc1r => ?_) (fun hc1r => ?_)
 · have hc1 := (nT hc1r)
   refine wp_skip ?_
   refine hK5 _ _ ?_
   refine wp_seq_k (fun K6 hK6 => ?_)
   refine wp_block ?_
   refine wp_seq_k (fun K7 hK7 => ?_)
   refine wp_region_lit ?_
   refine q0 hf hM [0, 1, 7, 8] [{}, {}] (nw := [(5, eI i)]) An ?_
   clear hf; intro a hf
   refine wpList_nil ?_
   refine hK7 _ _ ?_
   refine wp_seq_k (fun K8 hK8 => ?_)
   refine wp_region_lit ?_
   refine q0 hf hM [5, 0, 1, 7, 8] [{}, {}, {}, { sp := true }, { os := [.ex (iV (l.getD i.toNat ⟨0, 0⟩).i), .ex (iV (l.getD i.toNat ⟨0, 0⟩).g)] }] (nw := [(15, .val (.agg #[iV (l.getD i.toNat ⟨0, 0⟩).i, iV (l.getD i.toNat ⟨0, 0⟩).g])), (11, .val (.func (.func gg) #[] (cb).toArray))]) (ob := [(0 : Int) ≤ i ∧ i < (l.length : Int), (av : Option Addr).isSome = true, w1.cell? (((sa av : Addr).add (i.toNat * 2)).add 0) = some (iV (l.getD i.toNat ⟨0, 0⟩).i), w1.cell? (((sa av : Addr).add (i.toNat * 2)).add 1) = some (iV (l.getD i.toNat ⟨0, 0⟩).g)]) (Ac (by first | omega | (simp; done)) (Ac ((hav.keepNn hk0).some_ (by first | omega | (simp; done))) (Ac ((hav.keepNn hk0).get (fun _ => rfl) (by first | omega | (simp; done)) rfl) (Ao ((hav.keepNn hk0).get (fun _ => rfl) (by first | omega | (simp; done)) rfl))))) ?_
   clear hf; intro a hf
   refine sxcall hf rfl rfl rfl rfl (g := gg) (vs := _) (ob := []) (by as_aux_lemma => kernel_rfl) An eg (hp (l.getD i.toNat ⟨0, 0⟩) w1  hk0) ?_
   clear hf; rintro _ w2 a ⟨rfl, hk⟩ hf
   have hM := hM.keepNn hk
   have hk0 := hk0.trans hk.nn
   clear hk
   refine wpList_nil ?_
   refine hK8 _ _ ?_
   refine qc hf (b := p (l.getD i.toNat ⟨0, 0⟩)) (fun hc2r => ?_) (fun hc2r => ?_)
   · have hc2 := hc2r
     refine wp_seq_k (fun K9 hK9 => ?_)
     refine wp_region_lit ?_
     refine q0 hf hM [] [{}, {}] (nw := [(4, eI i)]) An ?_
     clear hf; intro a hf
     refine wpList_nil ?_
     refine hK9 _ _ ?_
     refine wp_ret ?_
     refine qr (fn := Try.f58) hf hM [] (l := [iV i]) (ob := []) An ?_
     show (iV i : Value) = .int .i64 (idxF p l) ∧ Keep Nn w w2
     refine ⟨congrArg _ ?_, hk0⟩
     rw [idxF_here (i := i.toNat) (d := ⟨0, 0⟩) (by omega) (by assumption) hno]
     omega
   · have hc2 := hc2r
     refine wp_skip ?_
     refine hK6 _ _ ?_
     refine wp_region_lit ?_
     refine q0 hf hM [0, 1, 7] [{ hint := some (iV (i + 1)) }, {}] (nw := [(8, eI (i + 1))]) (ob := [(iV (IntKind.i64.wrap (i + 1)) : Value) = (iV (i + 1) : Value)]) (Ao (wr (by omega))) ?_
     clear hf; intro a hf
     refine wpList_nil ?_
     have hno2 := no_next (l := l) (i := i) (d := ⟨0, 0⟩) (by omega) hno (by assumption)
     have hf := (hf.prune [0, 1, 7, 8]).to (env' := [(0, eS av l.length c), (1, .val (.func (.func gg) #[] (cb).toArray)), (7, eI (l.length : Int)), (8, eI (i + 1))]) (by kernel_rfl)
     refine hL1 _ _ _ (by omega) ⟨i + 1, rfl, hf.conv (Ac rfl (Ac rfl (Ac rfl (Ao rfl)))), hM, hk0, (by omega), hno2⟩
 · have hc1 := (nU hc1r)
   refine wp_exit ?_
   refine hK2 _ _ ?_
   refine wp_seq_k (fun K10 hK10 => ?_)
   refine wp_region_lit ?_
   refine q0 hf hM [] [{}] (nw := [(4, eI (-1))]) An ?_
   clear hf; intro a hf
   refine wpList_nil ?_
   refine hK10 _ _ ?_
   refine wp_ret ?_
   refine qr (fn := Try.f58) hf hM [] (l := [iV (-1)]) (ob := []) An ?_
   show (iV (-1) : Value) = .int .i64 (idxF p l) ∧ Keep Nn w w1
   exact ⟨congrArg _ (idxF_none (d := ⟨0, 0⟩) fun j hj => hno j (by omega)).symm, hk0⟩

set_option maxRecDepth 10000 in
set_option maxHeartbeats 1600000 in
theorem delete_hand (base : Nat) (av : Option Addr) (l : List H2) (c : Nat) (gg : Nat) (cb : List Value) (p : H2 → Bool) (w : World) (hown : w.ownsRow base 28 2 (.slice av l.length c) l.length (flat fH l)) (hbw : base ≤ w.heap.size) (hbav : l.length ≤ 1000000) (eg : enters Try.prog gg) (hp : ∀ (x : H2) (W : World), Keep (fun i => Value.ownBlock (.slice av l.length c) = some i) w W → Calls Try.prog gg (([.agg #[iV x.i, iV x.g]] : List Value) ++ cb).toArray W (Ret fun v W2 => v = .bool (p x) ∧ Keep Nn W W2)) :
    Calls Try.prog 41 #[.slice av l.length c, .func (.func gg) #[] (cb).toArray] w (Ret fun v w' => v = .slice av (dropP p l).length c ∧ World.ownsRow w' base 28 2 (.slice av (dropP p l).length c) (dropP p l).length (flat fH (dropP p l)) ∧ Keep (fun i => Value.ownBlock (.slice av l.length c) = some i) w w') := by
 refine sxenter (n := 42) (args := [.slice av l.length c, .func (.func gg) #[] (cb).toArray]) Try.func41 rfl rfl rfl fun a hf => ?_
 replace hf : Fr 42 [(0, eS av l.length c), (1, .val (.func (.func gg) #[] (cb).toArray))] a := hf
 have hM : MemOk [] w := MemOk.nil w
 have hk0 : Keep (fun i => Value.ownBlock (.slice av l.length c) = some i) w w := Keep.refl _ _
 have hO : OwnOk base [] [⟨28, 2, .slice av l.length c, l.length, flat fH l⟩] w := OwnOk.one hown
 refine wp_seq_k (fun K1 hK1 => ?_)
 refine wp_region_lit ?_
 refine q0 hf hM [0, 1] [{}] (nw := []) An ?_
 clear hf; intro a hf
 refine wpList_nil ?_
 refine hK1 _ _ ?_
 refine wp_seq_k (fun K2 hK2 => ?_)
 refine wp_region_lit ?_
 refine q0 hf hM [0, 1] [{}, {}] (nw := [(9, .val (.func (.func gg) #[] (cb).toArray)), (8, eS av l.length c)]) An ?_
 clear hf; intro a hf
 refine sxcall hf rfl rfl rfl rfl (g := 58) (vs := [.slice av l.length c, .func (.func gg) #[] (cb).toArray]) (ob := []) (by as_aux_lemma => kernel_rfl) An enters58 (index_hand av l c gg cb p w  (own_arr (hO.own _ (List.Mem.head _))) (by first | omega | (simp; omega) | (simp; done) | exact Nat.le_trans (byKinds_len _ _) (by omega) | decide) eg (fun x W h => hp x W (hk0.trans h.nn))) ?_
 clear hf; rintro _ w1 a ⟨rfl, hk⟩ hf
 have hO := hO.keepNn hk
 have hM := hM.keepNn hk
 have hk0 := hk0.trans hk.nn
 clear hk
 refine q0 hf hM [0, 1] [{}] (nw := [(5, eI (idxF p l))]) An ?_
 clear hf; intro a hf
 refine wpList_nil ?_
 refine hK2 _ _ ?_
 refine wp_seq_k (fun K3 hK3 => ?_)
 refine wp_seq_k (fun K4 hK4 => ?_)
 refine wp_region_lit ?_
 refine q0 hf hM [5, 0, 1] [{}, {}] (nw := [(12, eB (((idxF p l) : Int) == (-1)))]) An ?_
 clear hf; intro a hf
 refine wpList_nil ?_
 refine hK4 _ _ ?_
 refine qc hf (b := (((idxF p l) : Int) == (-1))) (fun hc1r => ?_) (fun hc1r => ?_)
 · have hc1 := (nE hc1r)
   refine wp_seq_k (fun K5 hK5 => ?_)
   refine wp_region_lit ?_
   refine q0 hf hM [] [{}, {}] (nw := [(4, eS av l.length c)]) An ?_
   clear hf; intro a hf
   refine wpList_nil ?_
   refine hK5 _ _ ?_
   refine wp_ret ?_
   refine qr (fn := Try.f41) hf hM [] (l := [.slice av l.length c]) (ob := []) An ?_
   show (.slice av l.length c : Value) = .slice av (dropP p l).length c ∧ World.ownsRow w1 base 28 2 (.slice av (dropP p l).length c) (dropP p l).length (flat fH (dropP p l)) ∧ Keep (fun i => Value.ownBlock (.slice av l.length c) = some i) w w1
   rcases idxF_spec p ⟨0, 0⟩ l with ⟨_, hn⟩ | ⟨i0, h1, _⟩
   · rw [dropP_none hn]; exact ⟨rfl, hO.own _ (List.Mem.head _), hk0⟩
   · exfalso; omega
 · have hc1 := (nF hc1r)
   rcases idxF_spec p ⟨0, 0⟩ l with ⟨h1, _⟩ | ⟨i0, hi0, hi1, hi2, hi3⟩
   · exact absurd h1 (by omega)
   refine wp_skip ?_
   refine hK3 _ _ ?_
   refine wp_seq_k (fun K6 hK6 => ?_)
   refine wp_seq_k (fun K7 hK7 => ?_)
   refine wp_region_lit ?_
   refine q0 hf hM [5, 0, 1] [{}, { hint := some (iV ((idxF p l) + 1)) }, {}] (nw := [(6, eI ((idxF p l) + 1))]) (ob := [(iV (IntKind.i64.wrap ((idxF p l) + 1)) : Value) = (iV ((idxF p l) + 1) : Value)]) (Ao (wr (by omega))) ?_
   clear hf; intro a hf
   refine wpList_nil ?_
   refine hK7 _ _ ?_
   refine wp_block ?_
   have hf := (hf.prune [0, 1, 5, 6]).to (env' := [(0, eS av l.length c), (1, .val (.func (.func gg) #[] (cb).toArray)), (5, eI (idxF p l)), (6, eI ((idxF p l) + 1))]) (by kernel_rfl)
   refine sxloop (fun zm a w1 => ∃ (i j : Int) (ll : List H2), zm = ((l.length : Int) - j).toNat ∧ Fr 42 [(0, eS av l.length c), (1, .val (.func (.func gg) #[] (cb).toArray)), (5, eI i), (6, eI j)] a ∧ MemOk [] w1 ∧ Keep (fun i => Value.ownBlock (.slice av l.length c) = some i) w w1 ∧ OwnOk base [] [⟨28, 2, .slice av l.length c, l.length, flat fH ll⟩] w1 ∧ (Cut p l ll i.toNat j.toNat) ∧ (0 ≤ i ∧ 0 ≤ j)) _ ⟨idxF p l, idxF p l + 1, l, rfl, hf.conv (Ac rfl (Ac rfl (Ac rfl (Ao (by first | rfl | (congr 1; omega)))))), hM, hk0, hO, (by rw [hi0, show ((i0 : Int)).toNat = i0 by omega, show ((i0 : Int) + 1).toNat = i0 + 1 by omega]; exact Cut.start hi1 hi2 hi3), (by omega)⟩ ?_
   clear hf hM hk0 hO
   rintro _ a w2 ⟨i, j, ll, rfl, hf, hM, hk0, hO, hct, hij⟩ L1 hL1
   have hl1 := hct.le; have hl2 := hct.jl; have hl3 := hct.len
   refine wp_seq_k (fun K8 hK8 => ?_)
   refine wp_seq_k (fun K9 hK9 => ?_)
   refine wp_region_lit ?_
   refine q0 hf hM [0, 1, 5, 6] [{}, {}, {}, {}] (nw := [(19, eB (decide ((j : Int) < (l.length : Int))))]) An ?_
   clear hf; intro a hf
   refine wpList_nil ?_
   refine hK9 _ _ ?_
   refine qc hf (b := (decide ((j : Int) < (l.length : Int)))) (fun hc2r => ?_) (fun hc2r => ?_)
   · have hc2 := (nT hc2r)
     refine wp_skip ?_
     refine hK8 _ _ ?_
     refine wp_seq_k (fun K10 hK10 => ?_)
     refine wp_block ?_
     refine wp_seq_k (fun K11 hK11 => ?_)
     refine wp_region_lit ?_
     refine q1 hf hM [0, 1, 5, 6] [{}, {}, { sp := true }, { os := [.ex (iV (ll.getD j.toNat ⟨0, 0⟩).i), .ex (iV (ll.getD j.toNat ⟨0, 0⟩).g)] }, { os := [.nw] }, { os := [.st 0 0, .st 0 1] }] (nw := fun B8 => [(7, eP B8 0)]) (M' := fun B8 => [⟨B8, 28, [iV (ll.getD j.toNat ⟨0, 0⟩).i, iV (ll.getD j.toNat ⟨0, 0⟩).g]⟩]) (ob := fun B8 => [(0 : Int) ≤ j ∧ j < (l.length : Int), (av : Option Addr).isSome = true, w2.cell? (((sa av : Addr).add (j.toNat * 2)).add 0) = some (iV (ll.getD j.toNat ⟨0, 0⟩).i), w2.cell? (((sa av : Addr).add (j.toNat * 2)).add 1) = some (iV (ll.getD j.toNat ⟨0, 0⟩).g), Ad B8 0, Ad B8 1]) (fun B8 => (Ac (by first | omega | (simp; done)) (Ac ((own_arr (hO.own _ (List.Mem.head _))).some_ (by first | omega | (simp; done))) (Ac ((own_arr (hO.own _ (List.Mem.head _))).get (fun _ => rfl) (by first | omega | (simp; done)) rfl) (Ac ((own_arr (hO.own _ (List.Mem.head _))).get (fun _ => rfl) (by first | omega | (simp; done)) rfl) (Ac (ad _ _) (Ao (ad _ _)))))))) ?_
     clear hf hM; intro a w3 B8 hf hM hB hk
     have hbB8 : w.heap.size ≤ B8 := by have := hk0.size; omega
     have hk0 := hk0.then hk (by intro i _ h; cases h)
     have hO := hO.step hM (hk.mono (by intro _ _ h; cases h)) (by intro i h; simp only [Mem.names, List.map_cons, List.map_nil, List.mem_cons, List.not_mem_nil, or_false, List.map_append, List.cons_append, List.nil_append] at h ⊢; omega)
     clear hk hB
     refine wpList_nil ?_
     refine hK11 _ _ ?_
     refine wp_seq_k (fun K12 hK12 => ?_)
     refine wp_region_lit ?_
     refine q0 hf hM [7, 0, 1, 5, 6] [{}, { os := [.ld 0 0, .ld 0 1] }] (nw := [(27, .val (.agg #[iV (ll.getD j.toNat ⟨0, 0⟩).i, iV (ll.getD j.toNat ⟨0, 0⟩).g])), (26, .val (.func (.func gg) #[] (cb).toArray))]) (ob := [Ad B8 0, Ad B8 1]) (Ac (ad _ _) (Ao (ad _ _))) ?_
     clear hf; intro a hf
     refine sxcall hf rfl rfl rfl rfl (g := gg) (vs := _) (ob := []) (by as_aux_lemma => kernel_rfl) An eg (hp (ll.getD j.toNat ⟨0, 0⟩) w3  hk0) ?_
     clear hf; rintro _ w4 a ⟨rfl, hk⟩ hf
     have hO := hO.keepNn hk
     have hM := hM.keepNn hk
     have hk0 := hk0.trans hk.nn
     clear hk
     refine q0 hf hM [7, 0, 1, 5, 6] [{}] (nw := [(29, eB (!(p (ll.getD j.toNat ⟨0, 0⟩))))]) An ?_
     clear hf; intro a hf
     refine wpList_nil ?_
     refine hK12 _ _ ?_
     refine qc hf (b := !(p (ll.getD j.toNat ⟨0, 0⟩))) (fun hc3r => ?_) (fun hc3r => ?_)
     · have hc3 := hc3r
       try simp only [Bool.or_eq_true, Bool.and_eq_true, Bool.not_eq_true', Bool.not_eq_false', Bool.or_eq_false_iff, Bool.and_eq_false_iff, decide_eq_true_eq, decide_eq_false_iff_not, beq_iff_eq, bne_iff_ne, beq_eq_false_iff_ne, bne_eq_false_iff_eq, Bool.and_true, Bool.true_and, ne_eq] at hc3
       refine wp_seq_k (fun K13 hK13 => ?_)
       refine wp_region_lit ?_
       refine q0 hf hM [0, 1, 5, 6] [{}, {}, { os := [.ld 0 0, .ld 0 1] }, { sp := true }] (nw := [(33, .val (.pointer (some ((sa av : Addr).add (i.toNat * 2))))), (32, .val (.agg #[iV (ll.getD j.toNat ⟨0, 0⟩).i, iV (ll.getD j.toNat ⟨0, 0⟩).g]))]) (ob := [Ad B8 0, Ad B8 1, (0 : Int) ≤ i ∧ i < (l.length : Int), (av : Option Addr).isSome = true]) (Ac (ad _ _) (Ac (ad _ _) (Ac (by first | omega | (simp; done)) (Ao ((own_arr (hO.own _ (List.Mem.head _))).some_ (by first | omega | (simp; done))))))) ?_
       clear hf; intro a hf
       refine sxset hf hM hO rfl rfl rfl (val := .agg #[iV (ll.getD j.toNat ⟨0, 0⟩).i, iV (ll.getD j.toNat ⟨0, 0⟩).g]) rfl rfl (i := i.toNat) (q := 0) (x := ⟨(ll.getD j.toNat ⟨0, 0⟩).i, (ll.getD j.toNat ⟨0, 0⟩).g⟩) (d := ⟨0, 0⟩) rfl (by kernel_rfl) (fun _ => rfl) (by omega) hl3 rfl rfl rfl (by intro u hu; simp [Value.cells] at hu; first | (subst hu; rfl) | (rcases hu with rfl | rfl <;> rfl) | (rcases hu with rfl | rfl | rfl <;> rfl) | (rcases hu with rfl | rfl | rfl | rfl <;> rfl) | (rcases hu with rfl | rfl | rfl | rfl | rfl <;> rfl)) ?_
       clear hf; intro a w5 hf hM hO hk
       have hk0 := hk0.then hk (by intro i hi h; exact h)
       clear hk
       refine wpList_nil ?_
       refine hK13 _ _ ?_
       refine wp_region_lit ?_
       refine q0 hf hM [0, 1, 6] [{}, { hint := some (iV (i + 1)) }, {}] (nw := [(5, eI (i + 1))]) (ob := [(iV (IntKind.i64.wrap (i + 1)) : Value) = (iV (i + 1) : Value)]) (Ao (wr (by omega))) ?_
       clear hf; intro a hf
       refine wpList_nil ?_
       refine hK10 _ _ ?_
       refine wp_region_lit ?_
       refine q0 hf hM [5, 0, 1] [{}, { hint := some (iV (j + 1)) }, {}] (nw := [(6, eI (j + 1))]) (ob := [(iV (IntKind.i64.wrap (j + 1)) : Value) = (iV (j + 1) : Value)]) (Ao (wr (by omega))) ?_
       clear hf; intro a hf
       refine wpList_nil ?_
       have hct2 : Cut p l (ll.set i.toNat ⟨(ll.getD j.toNat ⟨0, 0⟩).i, (ll.getD j.toNat ⟨0, 0⟩).g⟩) (i + 1).toNat (j + 1).toNat := by
         rw [show (j + 1).toNat = j.toNat + 1 by omega, show (i + 1).toNat = i.toNat + 1 by omega]
         exact hct.keep (d := ⟨0, 0⟩) (by omega) (by assumption)
       have hf := (hf.prune [0, 1, 5, 6]).to (env' := [(0, eS av l.length c), (1, .val (.func (.func gg) #[] (cb).toArray)), (5, eI (i + 1)), (6, eI (j + 1))]) (by kernel_rfl)
       replace hO : OwnOk base [] [⟨28, 2, .slice av l.length c, l.length, flat fH (ll.set i.toNat ⟨(ll.getD j.toNat ⟨0, 0⟩).i, (ll.getD j.toNat ⟨0, 0⟩).g⟩)⟩] w5 := hO.sub (.cons _ .slnil) (List.Sublist.refl _)
       replace hM : MemOk [] w5 := hM.sub (.cons _ .slnil)
       refine hL1 _ _ _ (by omega) ⟨i + 1, j + 1, (ll.set i.toNat ⟨(ll.getD j.toNat ⟨0, 0⟩).i, (ll.getD j.toNat ⟨0, 0⟩).g⟩), rfl, hf.conv (Ac rfl (Ac rfl (Ac rfl (Ao rfl)))), hM, hk0, hO, hct2, (by omega)⟩
     · have hc3 := hc3r
       try simp only [Bool.or_eq_true, Bool.and_eq_true, Bool.not_eq_true', Bool.not_eq_false', Bool.or_eq_false_iff, Bool.and_eq_false_iff, decide_eq_true_eq, decide_eq_false_iff_not, beq_iff_eq, bne_iff_ne, beq_eq_false_iff_ne, bne_eq_false_iff_eq, Bool.and_true, Bool.true_and, ne_eq] at hc3
       refine wp_skip ?_
       refine hK10 _ _ ?_
       refine wp_region_lit ?_
       refine q0 hf hM [0, 1, 5] [{}, { hint := some (iV (j + 1)) }, {}] (nw := [(6, eI (j + 1))]) (ob := [(iV (IntKind.i64.wrap (j + 1)) : Value) = (iV (j + 1) : Value)]) (Ao (wr (by omega))) ?_
       clear hf; intro a hf
       refine wpList_nil ?_
       have hct2 : Cut p l ll i.toNat (j + 1).toNat := by
         rw [show (j + 1).toNat = j.toNat + 1 by omega]
         exact hct.skip (d := ⟨0, 0⟩) (by omega) (by assumption)
       have hf := (hf.prune [0, 1, 5, 6]).to (env' := [(0, eS av l.length c), (1, .val (.func (.func gg) #[] (cb).toArray)), (5, eI i), (6, eI (j + 1))]) (by kernel_rfl)
       replace hO : OwnOk base [] [⟨28, 2, .slice av l.length c, l.length, flat fH ll⟩] w4 := hO.sub (.cons _ .slnil) (List.Sublist.refl _)
       replace hM : MemOk [] w4 := hM.sub (.cons _ .slnil)
       refine hL1 _ _ _ (by omega) ⟨i, j + 1, ll, rfl, hf.conv (Ac rfl (Ac rfl (Ac rfl (Ao rfl)))), hM, hk0, hO, hct2, (by omega)⟩
   · have hc2 := (nU hc2r)
     refine wp_exit ?_
     refine hK6 _ _ ?_
     refine wp_seq_k (fun K14 hK14 => ?_)
     refine wp_region_lit ?_
     refine q0 hf hM [0, 5] [{}, {}, { sp := true, hint := some (.slice (cutA av i.toNat c 2) (l.length - i.toNat) (c - i.toNat)) }] (nw := [(38, eS (cutA av i.toNat c 2) (l.length - i.toNat) (c - i.toNat))]) (ob := [0 ≤ (i : Int) ∧ (i : Int) ≤ ((l.length : Nat) : Int), (.slice (cutA av (i : Int).toNat c 2) (l.length - (i : Int).toNat) (c - (i : Int).toNat) : Value) = (.slice (cutA av i.toNat c 2) (l.length - i.toNat) (c - i.toNat) : Value)]) (Ac (by have := ((own_arr (hO.own _ (List.Mem.head _)))).le; omega) (Ao (by first | rfl | (simp; done) | (simp; omega)))) ?_
     clear hf; intro a hf
     refine sxclear hf hM hO rfl rfl rfl (m := i.toNat) rfl Try.underlying22 (z := (⟨0, 0⟩ : H2)) (by kernel_rfl) (fun _ => rfl) fH_one rfl (by omega) ?_
     clear hf; intro a w6 hf hM hO hk
     have hk0 := hk0.then hk (by intro i hi h; exact h)
     clear hk
     refine wpList_nil ?_
     refine hK14 _ _ ?_
     refine wp_seq_k (fun K15 hK15 => ?_)
     refine wp_region_lit ?_
     refine q0 hf hM [] [{}, {}] (nw := [(40, eI i), (39, eS av l.length c)]) An ?_
     clear hf; intro a hf
     refine sxval hf rfl rfl rfl rfl (v := .slice av i.toNat c) (ob := []) (by kernel_rfl) An (by rw [show (.slice av i.toNat c : Value) = .slice av (i : Int).toNat c from (by simp)]; exact ox_slice_h rfl rfl rfl Try.underlying22 (sz := 2) (by kernel_rfl) (by have := ((own_arr (hO.own _ (List.Mem.head _)))).le; omega)) ?_
     clear hf; intro a hf
     have hO := hO.cut (fun _ => rfl) (m := i.toNat) (by omega)
     replace hO : OwnOk base [] [⟨28, 2, .slice av i.toNat c, i.toNat, flat fH ((ll.take i.toNat ++ List.replicate (l.length - i.toNat) (⟨0, 0⟩ : H2)).take i.toNat)⟩] w6 := hO
     have el : ((ll.take i.toNat ++ List.replicate (l.length - i.toNat) (⟨0, 0⟩ : H2)).take i.toNat) = (dropP p l) := (hct.done (by omega) _)
     rw [el] at hO; clear el
     have en : (i.toNat : Nat) = (dropP p l).length := (hct.lenEq (by omega))
     replace hO := hO.lenTo en
     have hf := (hf.prune [41, 40, 39]).to (env' := [(41, eS av i.toNat c), (40, eI i), (39, eS av l.length c)]) (by kernel_rfl)
     replace hf : Fr 42 [(41, eS av (dropP p l).length c), (40, eI i), (39, eS av l.length c)] a := hf.conv (Ac (by rw [en]; rfl) (Ac rfl (Ao rfl)))
     clear en
     replace hO : OwnOk base [] [⟨28, 2, .slice av (dropP p l).length c, (dropP p l).length, flat fH (dropP p l)⟩] w6 := hO
     refine q0 hf hM [] [{}] (nw := [(4, eS av (dropP p l).length c)]) An ?_
     clear hf; intro a hf
     refine wpList_nil ?_
     refine hK15 _ _ ?_
     refine wp_ret ?_
     refine qr (fn := Try.f41) hf hM [] (l := [.slice av (dropP p l).length c]) (ob := []) An ?_
     show (.slice av (dropP p l).length c : Value) = .slice av (dropP p l).length c ∧ World.ownsRow w6 base 28 2 (.slice av (dropP p l).length c) (dropP p l).length (flat fH (dropP p l)) ∧ Keep (fun i => Value.ownBlock (.slice av l.length c) = some i) w w6
     exact ⟨rfl, hO.own _ (List.Mem.head _), hk0⟩

set_option maxRecDepth 10000 in
set_option maxHeartbeats 1600000 in
theorem minus1 (xi xg : Int) (B : Nat) (bv : Option Addr) (m : List H2) (cm : Nat) (w : World) (hB : w.cell? ⟨B, 0, none⟩ = some (.slice bv m.length cm)) (hbv : Arr w 2 bv m.length cm (flat fH m)) (hbbv : m.length ≤ 1000000) (hrs : Rises ltH m) :
    Calls Try.prog 43 #[.agg #[iV xi, iV xg], pV B 0] w (Ret fun v w' => v = .bool (inS m ⟨xi, xg⟩) ∧ Keep Nn w w') := by
 refine sxenter (n := 8) (args := [.agg #[iV xi, iV xg], pV B 0]) Try.func43 rfl rfl rfl fun a hf => ?_
 replace hf : Fr 8 [(0, .val (.agg #[iV xi, iV xg])), (1, eP B 0)] a := hf
 have hM : MemOk [] w := MemOk.nil w
 have hk0 : Keep Nn w w := Keep.refl _ _
 refine wp_seq_k (fun K1 hK1 => ?_)
 refine wp_region_lit ?_
 refine q1 hf hM [1] [{ os := [.nw] }, {}] (nw := fun B1 => [(2, eP B1 0)]) (M' := fun B1 => [⟨B1, 28, [iV xi, iV xg]⟩]) (ob := fun B1 => []) (fun B1 => An) ?_
 clear hf hM; intro a w1 B1 hf hM hB hk
 have hbB1 : w.heap.size ≤ B1 := by have := hk0.size; omega
 have hk0 := hk0.then hk (by intro i _ h; cases h)
 clear hk hB
 refine wpList_nil ?_
 refine hK1 _ _ ?_
 refine wp_seq_k (fun K2 hK2 => ?_)
 refine wp_region_lit ?_
 refine q0 hf hM [] [{ os := [.ex (.slice bv m.length cm)] }, { os := [.ld 0 0, .ld 0 1] }] (nw := [(5, .val (.agg #[iV xi, iV xg])), (4, eS bv m.length cm)]) (ob := [w1.cell? ⟨B, 0, none⟩ = some (.slice bv m.length cm), Ad B1 0, Ad B1 1]) (Ac (hk0.cell hB (fun h => h)) (Ac (ad _ _) (Ao (ad _ _)))) ?_
 clear hf; intro a hf
 refine sxcall hf rfl rfl rfl rfl (g := 22) (vs := [.slice bv m.length cm, .agg #[iV xi, iV xg]]) (ob := []) (by as_aux_lemma => kernel_rfl) An enters22 (ofind bv m cm xi xg w1  (hbv.keepNn hk0) (by first | omega | (simp; omega) | (simp; done) | exact Nat.le_trans (byKinds_len _ _) (by omega) | decide) (by first | assumption | exact ordS_rises ordH _ | exact ordS_rises ordI _ | (unfold Rises; decide))) ?_
 clear hf; rintro _ w2 a ⟨rfl, hk⟩ hf
 have hM := hM.keepNn hk
 have hk0 := hk0.trans hk.nn
 clear hk
 refine q0 hf hM [] [{}, {}] (nw := [(3, eB (decide (((findS ltH m (⟨xi, xg⟩ : H2)) : Int) ≥ 0)))]) An ?_
 clear hf; intro a hf
 refine wpList_nil ?_
 refine hK2 _ _ ?_
 refine wp_ret ?_
 refine qr (fn := Try.f43) hf hM [] (l := [bV (decide (((findS ltH m (⟨xi, xg⟩ : H2)) : Int) ≥ 0))]) (ob := []) An ?_
 show (bV (decide (((findS ltH m (⟨xi, xg⟩ : H2)) : Int) ≥ 0)) : Value) = .bool (inS m ⟨xi, xg⟩) ∧ Keep Nn w w2
 exact ⟨congrArg Value.bool findS_in, hk0⟩

set_option maxRecDepth 10000 in
set_option maxHeartbeats 1600000 in
theorem ominus (av : Option Addr) (l : List H2) (c : Nat) (bv : Option Addr) (m : List H2) (cm : Nat) (w : World) (hav : Arr w 2 av l.length c (flat fH l)) (hbav : l.length ≤ 1000000) (hbv : Arr w 2 bv m.length cm (flat fH m)) (hbbv : m.length ≤ 1000000) (hrs : Rises ltH m) :
    Calls Try.prog 25 #[.slice av l.length c, .slice bv m.length cm] w (Ret fun v w' => ∃ a' c', v = .slice a' (dropP (inS m) l).length c' ∧ Keep Nn w w' ∧ World.ownsRow w' w.heap.size 28 2 (.slice a' (dropP (inS m) l).length c') (dropP (inS m) l).length (flat fH (dropP (inS m) l))) := by
 refine sxenter (n := 9) (args := [.slice av l.length c, .slice bv m.length cm]) Try.func25 rfl rfl rfl fun a hf => ?_
 replace hf : Fr 9 [(0, eS av l.length c), (1, eS bv m.length cm)] a := hf
 have hM : MemOk [] w := MemOk.nil w
 have hk0 : Keep Nn w w := Keep.refl _ _
 refine wp_seq_k (fun K1 hK1 => ?_)
 refine wp_region_lit ?_
 refine q1 hf hM [0] [{ os := [.nw] }, {}] (nw := fun B1 => [(3, eP B1 0)]) (M' := fun B1 => [⟨B1, 22, [.slice bv m.length cm]⟩]) (ob := fun B1 => []) (fun B1 => An) ?_
 clear hf hM; intro a w1 B1 hf hM hB hk
 have hbB1 : w.heap.size ≤ B1 := by have := hk0.size; omega
 have hk0 := hk0.then hk (by intro i _ h; cases h)
 clear hk hB
 refine wpList_nil ?_
 refine hK1 _ _ ?_
 refine wp_seq_k (fun K2 hK2 => ?_)
 refine wp_region_lit ?_
 refine q0 hf hM [3] [{}] (nw := [(5, eS av l.length c)]) An ?_
 clear hf; intro a hf
 refine sxcall hf rfl rfl rfl rfl (g := 42) (vs := [.slice av l.length c]) (ob := []) (by as_aux_lemma => kernel_rfl) An enters42 (clone_hand av l c w1  (hav.keepNn hk0) (by first | omega | (simp; omega) | (simp; done) | exact Nat.le_trans (byKinds_len _ _) (by omega) | decide)) ?_
 clear hf; rintro _ w2 a ⟨a'1, c'1, rfl, hk, hx1⟩ hf
 have hO : OwnOk w.heap.size [⟨B1, 22, [.slice bv m.length cm]⟩] [] w1 := OwnOk.nil hM
 have hO := hO.more hM hk (by have := hk0.size; omega) hx1
 replace hO : OwnOk w.heap.size [⟨B1, 22, [.slice bv m.length cm]⟩] [⟨28, 2, .slice a'1 l.length c'1, l.length, flat fH l⟩] _ := hO
 have hM := hM.keepNn hk
 have hk0 := hk0.trans hk.nn
 clear hk
 refine q0 hf hM [6] [{}] (nw := [(7, .val (.func (.func 43) #[] #[pV B1 0]))]) An ?_
 clear hf; intro a hf
 replace hO : OwnOk w.heap.size [⟨B1, 22, [.slice bv m.length cm]⟩] [⟨28, 2, .slice a'1 l.length c'1, l.length, flat fH l⟩] w2 := OwnOk.front (l1 := []) (l2 := []) hO
 refine sxcall hf rfl rfl rfl rfl (g := 41) (vs := [.slice a'1 l.length c'1, .func (.func 43) #[] #[pV B1 0]]) (ob := []) (by as_aux_lemma => kernel_rfl) An enters41 (delete_hand _ a'1 l c'1 43 [pV B1 0] (inS m) w2 (hO.own _ (List.Mem.head _)) (by have := hk0.size; omega) (by omega) enters43 (fun x W h => minus1 x.i x.g _ bv m cm W ((cell?_blk ((hO.memTurn hM h).at_ _ (List.Mem.head _)) 0).trans rfl) (hbv.keepNn (hk0.then h (by intro i hi hb; have := (hO.lt (List.Mem.head _) hb).1; omega))) hbbv hrs)) ?_
 clear hf; rintro _ w3 a ⟨rfl, hx, hk⟩ hf
 have hM := hO.memTurn hM hk; have hk0 := hk0.then hk (by intro i hi h; have := ((hO.own _ (List.Mem.head _)).lt i h).1; omega); have hO := hO.turn2 hk hx; clear hk hx
 replace hO : OwnOk w.heap.size [⟨B1, 22, [.slice bv m.length cm]⟩] [⟨28, 2, .slice a'1 ((dropP (inS m) l).length) c'1, (dropP (inS m) l).length, flat fH (dropP (inS m) l)⟩] w3 := hO
 refine q0 hf hM [] [{}] (nw := [(4, eS a'1 ((dropP (inS m) l).length) c'1)]) An ?_
 clear hf; intro a hf
 refine wpList_nil ?_
 refine hK2 _ _ ?_
 refine wp_ret ?_
 refine qr (fn := Try.f25) hf hM [] (l := [.slice a'1 ((dropP (inS m) l).length) c'1]) (ob := []) An ?_
 show ∃ a' c', (.slice a'1 ((dropP (inS m) l).length) c'1 : Value) = .slice a' (dropP (inS m) l).length c' ∧ Keep Nn w w3 ∧ World.ownsRow w3 w.heap.size 28 2 (.slice a' (dropP (inS m) l).length c') (dropP (inS m) l).length (flat fH (dropP (inS m) l))
 exact ⟨_, _, rfl, hk0, hO.own _ (List.Mem.head _)⟩

set_option maxRecDepth 10000 in
set_option maxHeartbeats 1600000 in
theorem rhas (av : Option Addr) (l : List H2) (c : Nat) (ti tg : Int) (w : World) (hav : Arr w 2 av l.length c (flat fH l)) (hbav : l.length ≤ 1000000) :
    Calls Try.prog 23 #[.slice av l.length c, .agg #[iV ti, iV tg]] w (Ret fun v w' => v = .bool (inS l (⟨ti, tg⟩ : H2)) ∧ Keep Nn w w') := by
 refine sxenter (n := 17) (args := [.slice av l.length c, .agg #[iV ti, iV tg]]) Try.func23 rfl rfl rfl fun a hf => ?_
 replace hf : Fr 17 [(0, eS av l.length c), (1, .val (.agg #[iV ti, iV tg]))] a := hf
 have hM : MemOk [] w := MemOk.nil w
 have hk0 : Keep Nn w w := Keep.refl _ _
 refine wp_seq_k (fun K1 hK1 => ?_)
 refine wp_region_lit ?_
 refine q1 hf hM [0] [{ os := [.nw] }, {}] (nw := fun B1 => [(3, eP B1 0)]) (M' := fun B1 => [⟨B1, 28, [iV ti, iV tg]⟩]) (ob := fun B1 => []) (fun B1 => An) ?_
 clear hf hM; intro a w1 B1 hf hM hB hk
 have hbB1 : w.heap.size ≤ B1 := by have := hk0.size; omega
 have hk0 := hk0.then hk (by intro i _ h; cases h)
 clear hk hB
 refine wpList_nil ?_
 refine hK1 _ _ ?_
 refine wp_seq_k (fun K2 hK2 => ?_)
 refine wp_seq_k (fun K3 hK3 => ?_)
 refine wp_region_lit ?_
 refine q0 hf hM [3] [{}, {}, {}] (nw := [(9, eI 0), (8, eI (l.length : Int)), (7, eS av l.length c)]) An ?_
 clear hf; intro a hf
 refine wpList_nil ?_
 refine hK3 _ _ ?_
 refine wp_block ?_
 have hf := (hf.prune [3, 7, 8, 9]).to (env' := [(3, eP B1 0), (7, eS av l.length c), (8, eI (l.length : Int)), (9, eI 0)]) (by kernel_rfl)
 refine sxloop (fun zm a w1 => ∃ (i : Int), zm = ((l.length : Int) - i).toNat ∧ Fr 17 [(3, eP B1 0), (7, eS av l.length c), (8, eI (l.length : Int)), (9, eI i)] a ∧ MemOk [⟨B1, 28, [iV ti, iV tg]⟩] w1 ∧ Keep Nn w w1 ∧ (0 ≤ i ∧ i ≤ (l.length : Int)) ∧ (inS (l.take i.toNat) (⟨ti, tg⟩ : H2) = false)) _ ⟨0, rfl, hf.conv (Ac rfl (Ac rfl (Ac rfl (Ao rfl)))), hM, hk0, (by omega), (by simp [inS])⟩ ?_
 clear hf hM hk0
 rintro _ a w2 ⟨i, rfl, hf, hM, hk0, hi, hno⟩ L1 hL1
 refine wp_seq_k (fun K4 hK4 => ?_)
 refine wp_region_lit ?_
 refine q0 hf hM [3, 7, 8, 9] [{}] (nw := [(10, eB (decide ((i : Int) < (l.length : Int))))]) An ?_
 clear hf; intro a hf
 refine wpList_nil ?_
 refine hK4 _ _ ?_
 refine wp_seq_k (fun K5 hK5 => ?_)
 refine qc hf (b := (decide ((i : Int) < (l.length : Int)))) (fun hc1r => ?_) (fun hc1r => ?_)
 · have hc1 := (nT hc1r)
   refine wp_skip ?_
   refine hK5 _ _ ?_
   refine wp_seq_k (fun K6 hK6 => ?_)
   refine wp_block ?_
   refine wp_seq_k (fun K7 hK7 => ?_)
   refine wp_region_lit ?_
   refine q1 hf hM [3, 7, 8, 9] [{ sp := true }, { os := [.ex (iV (l.getD i.toNat ⟨0, 0⟩).i), .ex (iV (l.getD i.toNat ⟨0, 0⟩).g)] }, { os := [.nw] }, { os := [.st 1 0, .st 1 1] }] (nw := fun B4 => [(6, eP B4 0)]) (M' := fun B4 => [⟨B1, 28, [iV ti, iV tg]⟩, ⟨B4, 28, [iV (l.getD i.toNat ⟨0, 0⟩).i, iV (l.getD i.toNat ⟨0, 0⟩).g]⟩]) (ob := fun B4 => [(0 : Int) ≤ i ∧ i < (l.length : Int), (av : Option Addr).isSome = true, w2.cell? (((sa av : Addr).add (i.toNat * 2)).add 0) = some (iV (l.getD i.toNat ⟨0, 0⟩).i), w2.cell? (((sa av : Addr).add (i.toNat * 2)).add 1) = some (iV (l.getD i.toNat ⟨0, 0⟩).g), Ad B4 0, Ad B4 1]) (fun B4 => (Ac (by first | omega | (simp; done)) (Ac ((hav.keepNn hk0).some_ (by first | omega | (simp; done))) (Ac ((hav.keepNn hk0).get (fun _ => rfl) (by first | omega | (simp; done)) rfl) (Ac ((hav.keepNn hk0).get (fun _ => rfl) (by first | omega | (simp; done)) rfl) (Ac (ad _ _) (Ao (ad _ _)))))))) ?_
   clear hf hM; intro a w3 B4 hf hM hB hk
   have hbB4 : w.heap.size ≤ B4 := by have := hk0.size; omega
   have hk0 := hk0.thenNew hk (by simp [Mem.names] <;> omega)
   clear hk hB
   refine wpList_nil ?_
   refine hK7 _ _ ?_
   refine wp_seq_k (fun K8 hK8 => ?_)
   refine wp_region_lit ?_
   refine q0 hf hM [3, 7, 8, 9] [{ os := [.ld 1 0, .ld 1 1] }, { os := [.ld 0 0, .ld 0 1] }, { sp := true, hint := some (bV ((((l.getD i.toNat ⟨0, 0⟩).i : Int) == ti) && (((l.getD i.toNat ⟨0, 0⟩).g : Int) == tg))) }] (nw := [(15, eB ((((l.getD i.toNat ⟨0, 0⟩).i : Int) == ti) && (((l.getD i.toNat ⟨0, 0⟩).g : Int) == tg)))]) (ob := [Ad B4 0, Ad B4 1, Ad B1 0, Ad B1 1, (bV ((((l.getD i.toNat ⟨0, 0⟩).i : Int) == ti) && ((((l.getD i.toNat ⟨0, 0⟩).g : Int) == tg) && true)) : Value) = (bV ((((l.getD i.toNat ⟨0, 0⟩).i : Int) == ti) && (((l.getD i.toNat ⟨0, 0⟩).g : Int) == tg)) : Value)]) (Ac (ad _ _) (Ac (ad _ _) (Ac (ad _ _) (Ac (ad _ _) (Ao (by simp)))))) ?_
   clear hf; intro a hf
   refine wpList_nil ?_
   refine hK8 _ _ ?_
   refine qc hf (b := ((((l.getD i.toNat ⟨0, 0⟩).i : Int) == ti) && (((l.getD i.toNat ⟨0, 0⟩).g : Int) == tg))) (fun hc2r => ?_) (fun hc2r => ?_)
   · have hc2 := hc2r
     try simp only [Bool.or_eq_true, Bool.and_eq_true, Bool.not_eq_true', Bool.not_eq_false', Bool.or_eq_false_iff, Bool.and_eq_false_iff, decide_eq_true_eq, decide_eq_false_iff_not, beq_iff_eq, bne_iff_ne, beq_eq_false_iff_ne, bne_eq_false_iff_eq, Bool.and_true, Bool.true_and, ne_eq] at hc2
     refine wp_seq_k (fun K9 hK9 => ?_)
     refine wp_region_lit ?_
     refine q0 hf hM [] [{}] (nw := [(4, eB true)]) An ?_
     clear hf; intro a hf
     refine wpList_nil ?_
     refine hK9 _ _ ?_
     refine wp_ret ?_
     refine qr (fn := Try.f23) hf hM [] (l := [bV true]) (ob := []) An ?_
     show (bV true : Value) = .bool (inS l (⟨ti, tg⟩ : H2)) ∧ Keep Nn w w3
     exact ⟨congrArg Value.bool (inS_here (i := i) (d := ⟨0, 0⟩) (by omega) (eqc_hT (by omega))).symm, hk0⟩
   · have hc2 := hc2r
     try simp only [Bool.or_eq_true, Bool.and_eq_true, Bool.not_eq_true', Bool.not_eq_false', Bool.or_eq_false_iff, Bool.and_eq_false_iff, decide_eq_true_eq, decide_eq_false_iff_not, beq_iff_eq, bne_iff_ne, beq_eq_false_iff_ne, bne_eq_false_iff_eq, Bool.and_true, Bool.true_and, ne_eq] at hc2
     refine wp_skip ?_
     refine hK6 _ _ ?_
     refine wp_region_lit ?_
     refine q0 hf hM [3, 7, 8] [{ hint := some (iV (i + 1)) }, {}] (nw := [(9, eI (i + 1))]) (ob := [(iV (IntKind.i64.wrap (i + 1)) : Value) = (iV (i + 1) : Value)]) (Ao (wr (by omega))) ?_
     clear hf; intro a hf
     refine wpList_nil ?_
     have hno2 := inS_next (d := ⟨0, 0⟩) (by omega) hno (nec_hT (by omega))
     have hf := (hf.prune [3, 7, 8, 9]).to (env' := [(3, eP B1 0), (7, eS av l.length c), (8, eI (l.length : Int)), (9, eI (i + 1))]) (by kernel_rfl)
     replace hM : MemOk [⟨B1, 28, [iV ti, iV tg]⟩] w3 := hM.sub (.cons_cons _ (.cons _ .slnil))
     refine hL1 _ _ _ (by omega) ⟨i + 1, rfl, hf.conv (Ac rfl (Ac rfl (Ac rfl (Ao rfl)))), hM, hk0, (by omega), hno2⟩
 · have hc1 := (nU hc1r)
   refine wp_exit ?_
   refine hK2 _ _ ?_
   refine wp_seq_k (fun K10 hK10 => ?_)
   refine wp_region_lit ?_
   refine q0 hf hM [] [{}] (nw := [(4, eB false)]) An ?_
   clear hf; intro a hf
   refine wpList_nil ?_
   refine hK10 _ _ ?_
   refine wp_ret ?_
   refine qr (fn := Try.f23) hf hM [] (l := [bV false]) (ob := []) An ?_
   show (bV false : Value) = .bool (inS l (⟨ti, tg⟩ : H2)) ∧ Keep Nn w w2
   have e : l.take i.toNat = l := List.take_of_length_le (by omega)
   rw [e] at hno
   exact ⟨congrArg Value.bool hno.symm, hk0⟩
end Go.Proofs.Ytllopoaojchcmaa
