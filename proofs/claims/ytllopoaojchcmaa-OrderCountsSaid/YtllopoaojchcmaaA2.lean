/- layer 2: copies -/
import Derived.Test.YtllopoaojchcmaaA1
namespace Go.Proofs.Ytllopoaojchcmaa
open Go.Px
set_option linter.unusedVariables false
set_option linter.unusedSimpArgs false

set_option maxRecDepth 10000 in
set_option maxHeartbeats 1600000 in
theorem clone_int (av : Option Addr) (l : List Int) (c : Nat) (w : World) (hav : Arr w 1 av l.length c (flat fI l)) (hbav : l.length ≤ 1000000) :
    Calls Try.prog 47 #[.slice av l.length c] w (Ret fun v w' => ∃ a' c', v = .slice a' l.length c' ∧ Keep Nn w w' ∧ World.ownsRow w' w.heap.size 3 1 (.slice a' l.length c') l.length (flat fI l)) := by
 refine sxenter (n := 8) (args := [.slice av l.length c]) Try.func47 rfl rfl rfl fun a hf => ?_
 replace hf : Fr 8 [(0, eS av l.length c)] a := hf
 have hM : MemOk [] w := MemOk.nil w
 have hk0 : Keep Nn w w := Keep.refl _ _
 refine wp_seq_k (fun K1 hK1 => ?_)
 refine wp_region_lit ?_
 refine q0 hf hM [0] [{}] (nw := []) An ?_
 clear hf; intro a hf
 refine wpList_nil ?_
 refine hK1 _ _ ?_
 refine wp_seq_k (fun K2 hK2 => ?_)
 refine wp_seq_k (fun K3 hK3 => ?_)
 refine wp_region_lit ?_
 refine q0 hf hM [0] [{}, { sp := true }] (nw := [(4, eB (av).isNone)]) An ?_
 clear hf; intro a hf
 refine wpList_nil ?_
 refine hK3 _ _ ?_
 refine qc hf (b := (av).isNone) (fun hc1r => ?_) (fun hc1r => ?_)
 · have hc1 := hc1r
   refine wp_seq_k (fun K4 hK4 => ?_)
   refine wp_region_lit ?_
   refine q0 hf hM [] [{}] (nw := [(2, eS none 0 0)]) An ?_
   clear hf; intro a hf
   refine wpList_nil ?_
   refine hK4 _ _ ?_
   refine wp_ret ?_
   refine qr (fn := Try.f47) hf hM [] (l := [.slice none 0 0]) (ob := []) An ?_
   show ∃ a' c', (.slice none 0 0 : Value) = .slice a' l.length c' ∧ Keep Nn w w ∧ World.ownsRow w w.heap.size 3 1 (.slice a' l.length c') l.length (flat fI l)
   have hc0 := hav.none_ (Option.isNone_iff_eq_none.1 hc1)
   have hl0 : l = [] := List.eq_nil_of_length_eq_zero (by have := hav.le; omega)
   subst hl0
   exact ⟨none, 0, rfl, hk0, World.ownsRow_nil _ _ _ _⟩
 · have hc1 := hc1r
   refine wp_skip ?_
   refine hK2 _ _ ?_
   refine wp_seq_k (fun K5 hK5 => ?_)
   refine wp_region_lit ?_
   refine sxbslice hf hM (t := 43) (e := 3) (len := 0) (cs := []) (ob := []) rfl rfl rfl rfl (by as_aux_lemma => kernel_rfl) An (by as_aux_lemma => kernel_rfl) ?_
   clear hf hM; intro a w1 B4 hf hM hB hk
   replace hM : MemOk [⟨B4, 3, []⟩] w1 := hM
   have hbB4 : w.heap.size ≤ B4 := by have := hk0.size; omega
   have hk0 := hk0.trans hk.nn
   clear hk hB
   refine q0 hf hM [5] [{}] (nw := [(6, eS av l.length c)]) An ?_
   clear hf; intro a hf
   have hO : OwnOk w.heap.size [⟨B4, 3, []⟩] [] w1 := OwnOk.nil hM
   replace hO := OwnOk.took (M1 := []) (M2 := []) (sz := 1) hO hM (n := 0) (c := 0) (by have := hk0.size; omega) (by decide) (by decide) rfl
   replace hM : MemOk [] w1 := hM.sub (.cons _ .slnil)
   replace hO : OwnOk w.heap.size [] [⟨3, 1, .slice (some ⟨B4, 0, none⟩) 0 0, 0, flat fI ([] : List Int)⟩] w1 := hO
   replace hO : OwnOk w.heap.size [] [⟨3, 1, .slice (some ⟨B4, 0, none⟩) 0 0, 0, flat fI ([] : List Int)⟩] w1 := OwnOk.front (l1 := []) (l2 := []) hO
   refine sxappend hf hM (e := 3) (sz := 1) (by_ := 8) (k := 0) (v := .slice (some ⟨B4, 0, none⟩) 0 0) (xs := flat fI ([] : List Int)) hO rfl rfl rfl rfl (av := av) (m := l.length) (c := c) rfl rfl Try.underlying43 (by kernel_rfl) rfl (news := flat fI l) (hav.keepNn hk0) (flat_one1 fI_one) (by simp only [maxLen]; constructor <;> (first | omega | (simp; omega))) (by have := hk0.size; omega) ?_
   clear hf hM hO; intro a w2 av1 cv1 hf hM hO hk
   have en : (0 + l.length : Nat) = l.length := (by first | (simp; done) | (simp; omega))
   have ec : flat fI ([] : List Int) ++ flat fI l = flat fI l := (by first | rfl | exact (flat_app _ _ _).symm | simp [flat_app, flat_nil])
   rw [en] at hf hO; rw [ec] at hO; clear en ec
   replace hO : OwnOk w.heap.size [] [⟨3, 1, .slice av1 l.length cv1, l.length, flat fI l⟩] w2 := hO
   have hk0 := hk0.then hk (by intro i hi h; have := h.1; omega)
   clear hk
   refine q0 hf hM [] [{}] (nw := [(2, eS av1 l.length cv1)]) An ?_
   clear hf; intro a hf
   refine wpList_nil ?_
   refine hK5 _ _ ?_
   refine wp_ret ?_
   refine qr (fn := Try.f47) hf hM [] (l := [.slice av1 l.length cv1]) (ob := []) An ?_
   show ∃ a' c', (.slice av1 l.length cv1 : Value) = .slice a' l.length c' ∧ Keep Nn w w2 ∧ World.ownsRow w2 w.heap.size 3 1 (.slice a' l.length c') l.length (flat fI l)
   exact ⟨_, _, rfl, hk0, hO.own _ (List.Mem.head _)⟩

set_option maxRecDepth 10000 in
set_option maxHeartbeats 1600000 in
theorem clone_hand (av : Option Addr) (l : List H2) (c : Nat) (w : World) (hav : Arr w 2 av l.length c (flat fH l)) (hbav : l.length ≤ 1000000) :
    Calls Try.prog 42 #[.slice av l.length c] w (Ret fun v w' => ∃ a' c', v = .slice a' l.length c' ∧ Keep Nn w w' ∧ World.ownsRow w' w.heap.size 28 2 (.slice a' l.length c') l.length (flat fH l)) := by
 refine sxenter (n := 8) (args := [.slice av l.length c]) Try.func42 rfl rfl rfl fun a hf => ?_
 replace hf : Fr 8 [(0, eS av l.length c)] a := hf
 have hM : MemOk [] w := MemOk.nil w
 have hk0 : Keep Nn w w := Keep.refl _ _
 refine wp_seq_k (fun K1 hK1 => ?_)
 refine wp_region_lit ?_
 refine q0 hf hM [0] [{}] (nw := []) An ?_
 clear hf; intro a hf
 refine wpList_nil ?_
 refine hK1 _ _ ?_
 refine wp_seq_k (fun K2 hK2 => ?_)
 refine wp_seq_k (fun K3 hK3 => ?_)
 refine wp_region_lit ?_
 refine q0 hf hM [0] [{}, { sp := true }] (nw := [(4, eB (av).isNone)]) An ?_
 clear hf; intro a hf
 refine wpList_nil ?_
 refine hK3 _ _ ?_
 refine qc hf (b := (av).isNone) (fun hc1r => ?_) (fun hc1r => ?_)
 · have hc1 := hc1r
   refine wp_seq_k (fun K4 hK4 => ?_)
   refine wp_region_lit ?_
   refine q0 hf hM [] [{}] (nw := [(2, eS none 0 0)]) An ?_
   clear hf; intro a hf
   refine wpList_nil ?_
   refine hK4 _ _ ?_
   refine wp_ret ?_
   refine qr (fn := Try.f42) hf hM [] (l := [.slice none 0 0]) (ob := []) An ?_
   show ∃ a' c', (.slice none 0 0 : Value) = .slice a' l.length c' ∧ Keep Nn w w ∧ World.ownsRow w w.heap.size 28 2 (.slice a' l.length c') l.length (flat fH l)
   have hc0 := hav.none_ (Option.isNone_iff_eq_none.1 hc1)
   have hl0 : l = [] := List.eq_nil_of_length_eq_zero (by have := hav.le; omega)
   subst hl0
   exact ⟨none, 0, rfl, hk0, World.ownsRow_nil _ _ _ _⟩
 · have hc1 := hc1r
   refine wp_skip ?_
   refine hK2 _ _ ?_
   refine wp_seq_k (fun K5 hK5 => ?_)
   refine wp_region_lit ?_
   refine sxbslice hf hM (t := 22) (e := 28) (len := 0) (cs := []) (ob := []) rfl rfl rfl rfl (by as_aux_lemma => kernel_rfl) An (by as_aux_lemma => kernel_rfl) ?_
   clear hf hM; intro a w1 B4 hf hM hB hk
   replace hM : MemOk [⟨B4, 28, []⟩] w1 := hM
   have hbB4 : w.heap.size ≤ B4 := by have := hk0.size; omega
   have hk0 := hk0.trans hk.nn
   clear hk hB
   refine q0 hf hM [5] [{}] (nw := [(6, eS av l.length c)]) An ?_
   clear hf; intro a hf
   have hO : OwnOk w.heap.size [⟨B4, 28, []⟩] [] w1 := OwnOk.nil hM
   replace hO := OwnOk.took (M1 := []) (M2 := []) (sz := 2) hO hM (n := 0) (c := 0) (by have := hk0.size; omega) (by decide) (by decide) rfl
   replace hM : MemOk [] w1 := hM.sub (.cons _ .slnil)
   replace hO : OwnOk w.heap.size [] [⟨28, 2, .slice (some ⟨B4, 0, none⟩) 0 0, 0, flat fH ([] : List H2)⟩] w1 := hO
   replace hO : OwnOk w.heap.size [] [⟨28, 2, .slice (some ⟨B4, 0, none⟩) 0 0, 0, flat fH ([] : List H2)⟩] w1 := OwnOk.front (l1 := []) (l2 := []) hO
   refine sxappend hf hM (e := 28) (sz := 2) (by_ := 16) (k := 0) (v := .slice (some ⟨B4, 0, none⟩) 0 0) (xs := flat fH ([] : List H2)) hO rfl rfl rfl rfl (av := av) (m := l.length) (c := c) rfl rfl Try.underlying22 (by kernel_rfl) rfl (news := flat fH l) (hav.keepNn hk0) (flat_one1 fH_one) (by simp only [maxLen]; constructor <;> (first | omega | (simp; omega))) (by have := hk0.size; omega) ?_
   clear hf hM hO; intro a w2 av1 cv1 hf hM hO hk
   have en : (0 + l.length : Nat) = l.length := (by first | (simp; done) | (simp; omega))
   have ec : flat fH ([] : List H2) ++ flat fH l = flat fH l := (by first | rfl | exact (flat_app _ _ _).symm | simp [flat_app, flat_nil])
   rw [en] at hf hO; rw [ec] at hO; clear en ec
   replace hO : OwnOk w.heap.size [] [⟨28, 2, .slice av1 l.length cv1, l.length, flat fH l⟩] w2 := hO
   have hk0 := hk0.then hk (by intro i hi h; have := h.1; omega)
   clear hk
   refine q0 hf hM [] [{}] (nw := [(2, eS av1 l.length cv1)]) An ?_
   clear hf; intro a hf
   refine wpList_nil ?_
   refine hK5 _ _ ?_
   refine wp_ret ?_
   refine qr (fn := Try.f42) hf hM [] (l := [.slice av1 l.length cv1]) (ob := []) An ?_
   show ∃ a' c', (.slice av1 l.length cv1 : Value) = .slice a' l.length c' ∧ Keep Nn w w2 ∧ World.ownsRow w2 w.heap.size 28 2 (.slice a' l.length c') l.length (flat fH l)
   exact ⟨_, _, rfl, hk0, hO.own _ (List.Mem.head _)⟩

set_option maxRecDepth 10000 in
set_option maxHeartbeats 1600000 in
theorem clone_pair (av : Option Addr) (l : List P4) (c : Nat) (w : World) (hav : Arr w 4 av l.length c (flat fP l)) (hbav : l.length ≤ 1000000) :
    Calls Try.prog 54 #[.slice av l.length c] w (Ret fun v w' => ∃ a' c', v = .slice a' l.length c' ∧ Keep Nn w w' ∧ World.ownsRow w' w.heap.size 31 4 (.slice a' l.length c') l.length (flat fP l)) := by
 refine sxenter (n := 8) (args := [.slice av l.length c]) Try.func54 rfl rfl rfl fun a hf => ?_
 replace hf : Fr 8 [(0, eS av l.length c)] a := hf
 have hM : MemOk [] w := MemOk.nil w
 have hk0 : Keep Nn w w := Keep.refl _ _
 refine wp_seq_k (fun K1 hK1 => ?_)
 refine wp_region_lit ?_
 refine q0 hf hM [0] [{}] (nw := []) An ?_
 clear hf; intro a hf
 refine wpList_nil ?_
 refine hK1 _ _ ?_
 refine wp_seq_k (fun K2 hK2 => ?_)
 refine wp_seq_k (fun K3 hK3 => ?_)
 refine wp_region_lit ?_
 refine q0 hf hM [0] [{}, { sp := true }] (nw := [(4, eB (av).isNone)]) An ?_
 clear hf; intro a hf
 refine wpList_nil ?_
 refine hK3 _ _ ?_
 refine qc hf (b := (av).isNone) (fun hc1r => ?_) (fun hc1r => ?_)
 · have hc1 := hc1r
   refine wp_seq_k (fun K4 hK4 => ?_)
   refine wp_region_lit ?_
   refine q0 hf hM [] [{}] (nw := [(2, eS none 0 0)]) An ?_
   clear hf; intro a hf
   refine wpList_nil ?_
   refine hK4 _ _ ?_
   refine wp_ret ?_
   refine qr (fn := Try.f54) hf hM [] (l := [.slice none 0 0]) (ob := []) An ?_
   show ∃ a' c', (.slice none 0 0 : Value) = .slice a' l.length c' ∧ Keep Nn w w ∧ World.ownsRow w w.heap.size 31 4 (.slice a' l.length c') l.length (flat fP l)
   have hc0 := hav.none_ (Option.isNone_iff_eq_none.1 hc1)
   have hl0 : l = [] := List.eq_nil_of_length_eq_zero (by have := hav.le; omega)
   subst hl0
   exact ⟨none, 0, rfl, hk0, World.ownsRow_nil _ _ _ _⟩
 · have hc1 := hc1r
   refine wp_skip ?_
   refine hK2 _ _ ?_
   refine wp_seq_k (fun K5 hK5 => ?_)
   refine wp_region_lit ?_
   refine sxbslice hf hM (t := 35) (e := 31) (len := 0) (cs := []) (ob := []) rfl rfl rfl rfl (by as_aux_lemma => kernel_rfl) An (by as_aux_lemma => kernel_rfl) ?_
   clear hf hM; intro a w1 B4 hf hM hB hk
   replace hM : MemOk [⟨B4, 31, []⟩] w1 := hM
   have hbB4 : w.heap.size ≤ B4 := by have := hk0.size; omega
   have hk0 := hk0.trans hk.nn
   clear hk hB
   refine q0 hf hM [5] [{}] (nw := [(6, eS av l.length c)]) An ?_
   clear hf; intro a hf
   have hO : OwnOk w.heap.size [⟨B4, 31, []⟩] [] w1 := OwnOk.nil hM
   replace hO := OwnOk.took (M1 := []) (M2 := []) (sz := 4) hO hM (n := 0) (c := 0) (by have := hk0.size; omega) (by decide) (by decide) rfl
   replace hM : MemOk [] w1 := hM.sub (.cons _ .slnil)
   replace hO : OwnOk w.heap.size [] [⟨31, 4, .slice (some ⟨B4, 0, none⟩) 0 0, 0, flat fP ([] : List P4)⟩] w1 := hO
   replace hO : OwnOk w.heap.size [] [⟨31, 4, .slice (some ⟨B4, 0, none⟩) 0 0, 0, flat fP ([] : List P4)⟩] w1 := OwnOk.front (l1 := []) (l2 := []) hO
   refine sxappend hf hM (e := 31) (sz := 4) (by_ := 32) (k := 0) (v := .slice (some ⟨B4, 0, none⟩) 0 0) (xs := flat fP ([] : List P4)) hO rfl rfl rfl rfl (av := av) (m := l.length) (c := c) rfl rfl Try.underlying35 (by kernel_rfl) rfl (news := flat fP l) (hav.keepNn hk0) (flat_one1 fP_one) (by simp only [maxLen]; constructor <;> (first | omega | (simp; omega))) (by have := hk0.size; omega) ?_
   clear hf hM hO; intro a w2 av1 cv1 hf hM hO hk
   have en : (0 + l.length : Nat) = l.length := (by first | (simp; done) | (simp; omega))
   have ec : flat fP ([] : List P4) ++ flat fP l = flat fP l := (by first | rfl | exact (flat_app _ _ _).symm | simp [flat_app, flat_nil])
   rw [en] at hf hO; rw [ec] at hO; clear en ec
   replace hO : OwnOk w.heap.size [] [⟨31, 4, .slice av1 l.length cv1, l.length, flat fP l⟩] w2 := hO
   have hk0 := hk0.then hk (by intro i hi h; have := h.1; omega)
   clear hk
   refine q0 hf hM [] [{}] (nw := [(2, eS av1 l.length cv1)]) An ?_
   clear hf; intro a hf
   refine wpList_nil ?_
   refine hK5 _ _ ?_
   refine wp_ret ?_
   refine qr (fn := Try.f54) hf hM [] (l := [.slice av1 l.length cv1]) (ob := []) An ?_
   show ∃ a' c', (.slice av1 l.length cv1 : Value) = .slice a' l.length c' ∧ Keep Nn w w2 ∧ World.ownsRow w2 w.heap.size 31 4 (.slice a' l.length c') l.length (flat fP l)
   exact ⟨_, _, rfl, hk0, hO.own _ (List.Mem.head _)⟩
end Go.Proofs.Ytllopoaojchcmaa
