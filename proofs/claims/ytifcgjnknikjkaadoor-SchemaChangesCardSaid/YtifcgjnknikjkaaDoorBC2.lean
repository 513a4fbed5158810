/- layer 6: rows -/
import Derived.Test.YtifcgjnknikjkaaDoorBC1
namespace Go.Proofs.YtifcgjnknikjkaaDoor
open Go.Px
set_option linter.unusedVariables false
set_option linter.unusedSimpArgs false

set_option maxRecDepth 10000 in
set_option maxHeartbeats 1600000 in
theorem clone_val (av : Option Addr) (l : List V3) (c : Nat) (w : World) (hav : Arr w 3 av l.length c (flat fV l)) (hbav : l.length ≤ 1000000) :
    Calls Tryd.prog 76 #[.slice av l.length c] w (Ret fun v w' => ∃ a' c', v = .slice a' l.length c' ∧ Keep Nn w w' ∧ World.ownsRow w' w.heap.size 62 3 (.slice a' l.length c') l.length (flat fV l)) := by
 refine sxenter (n := 8) (args := [.slice av l.length c]) Tryd.func76 rfl rfl rfl fun a hf => ?_
 replace hf : Fr 8 [(0, eS av l.length c)] a := hf
 have hM : MemOk [] w := MemOk.nil w
 have hk0 : Keep Nn w w := Keep.refl _ _
 refine wp_seq_k (fun K1 hK1 => ?_)
 refine wp_region_lit ?_
 refine q0 hf hM [0] [{}] (env' := [(0, eS av l.length c)]) (ob := []) An ?_
 clear hf; intro a hf
 refine wpList_nil ?_
 refine hK1 _ _ ?_
 refine wp_seq_k (fun K2 hK2 => ?_)
 refine wp_seq_k (fun K3 hK3 => ?_)
 refine wp_region_lit ?_
 refine q0 hf hM [4, 0] [{}, { sp := true }] (env' := [(4, eB (av).isNone), (0, eS av l.length c)]) (ob := []) An ?_
 clear hf; intro a hf
 refine wpList_nil ?_
 refine hK3 _ _ ?_
 refine qc hf (b := (av).isNone) (fun hc1r => ?_) (fun hc1r => ?_)
 · have hc1 := hc1r
   try simp only [Bool.or_eq_true, Bool.and_eq_true, Bool.not_eq_true', Bool.not_eq_false', Bool.or_eq_false_iff, Bool.and_eq_false_iff, decide_eq_true_eq, decide_eq_false_iff_not, beq_iff_eq, bne_iff_ne, beq_eq_false_iff_ne, bne_eq_false_iff_eq, Bool.and_true, Bool.true_and, ne_eq] at hc1
   refine wp_seq_k (fun K4 hK4 => ?_)
   refine wp_region_lit ?_
   refine q0 hf hM [2] [{}] (env' := [(2, eS none 0 0)]) (ob := []) An ?_
   clear hf; intro a hf
   refine wpList_nil ?_
   refine hK4 _ _ ?_
   refine wp_ret ?_
   refine qr (fn := Tryd.f76) hf hM [] (l := [.slice none 0 0]) (ob := []) An ?_
   show ∃ a' c', (.slice none 0 0 : Value) = .slice a' l.length c' ∧ Keep Nn w w ∧ World.ownsRow w w.heap.size 62 3 (.slice a' l.length c') l.length (flat fV l)
   have hc0 := hav.none_ (Option.isNone_iff_eq_none.1 hc1)
   have hl0 : l = [] := List.eq_nil_of_length_eq_zero (by have := hav.le; omega)
   subst hl0
   exact ⟨none, 0, rfl, hk0, World.ownsRow_nil _ _ _ _⟩
 · have hc1 := hc1r
   try simp only [Bool.or_eq_true, Bool.and_eq_true, Bool.not_eq_true', Bool.not_eq_false', Bool.or_eq_false_iff, Bool.and_eq_false_iff, decide_eq_true_eq, decide_eq_false_iff_not, beq_iff_eq, bne_iff_ne, beq_eq_false_iff_ne, bne_eq_false_iff_eq, Bool.and_true, Bool.true_and, ne_eq] at hc1
   refine wp_skip ?_
   refine hK2 _ _ ?_
   refine wp_seq_k (fun K5 hK5 => ?_)
   refine wp_region_lit ?_
   refine sxbslice hf hM (t := 23) (e := 62) (len := 0) (cs := []) (ob := []) rfl rfl rfl rfl (by as_aux_lemma => kernel_rfl) An (by as_aux_lemma => kernel_rfl) ?_
   clear hf hM; intro a w1 B4 hf hM hB hk
   replace hM : MemOk [⟨B4, 62, []⟩] w1 := hM
   have hbB4 : w.heap.size ≤ B4 := by have := hk0.size; omega
   have hk0 := hk0.trans hk.nn
   clear hk hB
   refine q0 hf hM [6, 5] [{}] (env' := [(6, eS av l.length c), (5, eS (some ⟨B4, 0, none⟩) 0 0)]) (ob := []) An ?_
   clear hf; intro a hf
   have hO : OwnOk w.heap.size [⟨B4, 62, []⟩] [] w1 := OwnOk.nil hM
   replace hO := OwnOk.took (M1 := []) (M2 := []) (sz := 3) hO hM (n := 0) (c := 0) (by have := hk0.size; omega) (by decide) (by decide) rfl
   replace hM : MemOk [] w1 := hM.sub (.cons _ .slnil)
   replace hO : OwnOk w.heap.size [] [⟨62, 3, .slice (some ⟨B4, 0, none⟩) 0 0, 0, flat fV ([] : List V3)⟩] w1 := hO
   replace hO : OwnOk w.heap.size [] [⟨62, 3, .slice (some ⟨B4, 0, none⟩) 0 0, 0, flat fV ([] : List V3)⟩] w1 := OwnOk.front (l1 := []) (l2 := []) hO
   refine sxappend hf hM (e := 62) (sz := 3) (by_ := 24) (k := 0) (v := .slice (some ⟨B4, 0, none⟩) 0 0) (xs := flat fV ([] : List V3)) hO rfl rfl rfl rfl (av := av) (m := l.length) (c := c) rfl rfl Tryd.underlying23 (by kernel_rfl) rfl (news := flat fV l) (hav.keepNn hk0) (flat_one1 fV_one) (by simp only [maxLen]; constructor <;> (first | omega | (simp; omega))) (by have := hk0.size; omega) ?_
   clear hf hM hO; intro a w2 av1 cv1 hf hM hO hk
   have en : (0 + l.length : Nat) = l.length := (by simp)
   have ec : flat fV ([] : List V3) ++ flat fV l = flat fV l := (by simp [flat_app, flat_nil])
   rw [en] at hf hO; rw [ec] at hO; clear en ec
   replace hO : OwnOk w.heap.size [] [⟨62, 3, .slice av1 l.length cv1, l.length, flat fV l⟩] w2 := hO
   have hk0 := hk0.then hk (by intro i hi h; have := h.1; omega)
   clear hk
   refine q0 hf hM [2] [{}] (env' := [(2, eS av1 l.length cv1)]) (ob := []) An ?_
   clear hf; intro a hf
   refine wpList_nil ?_
   refine hK5 _ _ ?_
   refine wp_ret ?_
   refine qr (fn := Tryd.f76) hf hM [] (l := [.slice av1 l.length cv1]) (ob := []) An ?_
   show ∃ a' c', (.slice av1 l.length cv1 : Value) = .slice a' l.length c' ∧ Keep Nn w w2 ∧ World.ownsRow w2 w.heap.size 62 3 (.slice a' l.length c') l.length (flat fV l)
   exact ⟨_, _, rfl, hk0, hO.own _ (List.Mem.head _)⟩

set_option maxRecDepth 10000 in
set_option maxHeartbeats 1600000 in
theorem sright (E : Nat → Addr) (av : Option Addr) (l : List V3) (c : Nat) (w : World) (hav : Arr w 3 av l.length c (flat fV l)) (hbav : l.length ≤ 1000000) (hG : Errs [0, 3, 4] w 185 E) :
    Calls Tryd.prog 41 #[.slice av l.length c] w (Ret fun v w' => v = .bool (rightV l) ∧ Keep Nn w w') := by
 refine sxenter (n := 31) (args := [.slice av l.length c]) Tryd.func41 rfl rfl rfl fun a hf => ?_
 replace hf : Fr 31 [(0, eS av l.length c)] a := hf
 have hM : MemOk [] w := MemOk.nil w
 have hk0 : Keep Nn w w := Keep.refl _ _
 refine wp_seq_k (fun K1 hK1 => ?_)
 refine wp_region_lit ?_
 refine q0 hf hM [0] [{}] (env' := [(0, eS av l.length c)]) (ob := []) An ?_
 clear hf; intro a hf
 refine wpList_nil ?_
 refine hK1 _ _ ?_
 refine wp_seq_k (fun K2 hK2 => ?_)
 refine wp_seq_k (fun K3 hK3 => ?_)
 refine wp_region_lit ?_
 refine q0 hf hM [7, 6, 5, 0] [{}, {}, {}] (env' := [(7, eI 0), (6, eI (l.length : Int)), (5, eS av l.length c), (0, eS av l.length c)]) (ob := []) An ?_
 clear hf; intro a hf
 refine wpList_nil ?_
 refine hK3 _ _ ?_
 refine wp_block ?_
 have hf := hf.prune [0, 5, 6, 7]
 replace hf : Fr 31 [(0, eS av l.length c), (5, eS av l.length c), (6, eI (l.length : Int)), (7, eI 0)] a := hf
 refine sxloop (fun zm a w1 => ∃ (i : Int), zm = ((l.length : Int) - i).toNat ∧ Fr 31 [(0, eS av l.length c), (5, eS av l.length c), (6, eI (l.length : Int)), (7, eI i)] a ∧ MemOk [] w1 ∧ Keep Nn w w1 ∧ (0 ≤ i ∧ i ≤ (l.length : Int)) ∧ (∀ j, j < i.toNat → vcheck (l.getD j v0) = 0 ∧ (0 < j → (l.getD (j - 1) v0).k < (l.getD j v0).k))) _ ⟨0, rfl, hf.conv (Ac rfl (Ac rfl (Ac rfl (Ao rfl)))), hM, hk0, (by omega), (fun j hj => by simp at hj)⟩ ?_
 clear hf hM hk0
 rintro _ a w1 ⟨i, rfl, hf, hM, hk0, hi, hr⟩ L1 hL1
 refine wp_seq_k (fun K4 hK4 => ?_)
 refine wp_region_lit ?_
 refine q0 hf hM [8, 0, 5, 6, 7] [{}] (env' := [(8, eB (decide ((i : Int) < (l.length : Int)))), (0, eS av l.length c), (5, eS av l.length c), (6, eI (l.length : Int)), (7, eI i)]) (ob := []) An ?_
 clear hf; intro a hf
 refine wpList_nil ?_
 refine hK4 _ _ ?_
 refine wp_seq_k (fun K5 hK5 => ?_)
 refine qc hf (b := (decide ((i : Int) < (l.length : Int)))) (fun hc1r => ?_) (fun hc1r => ?_)
 · have hc1 := (nT hc1r)
   refine wp_skip ?_
   refine hK5 _ _ ?_
   refine wp_seq_k (fun K6 hK6 => ?_)
   refine wp_block ?_
   refine wp_seq_k (fun K7 hK7 => ?_)
   refine wp_region_lit ?_
   refine q1 hf hM [3, 4, 0, 5, 6, 7] [{}, { sp := true }, { os := [.ex (iV (l.getD i.toNat ⟨0, 0, 0⟩).k), .ex (iV (l.getD i.toNat ⟨0, 0, 0⟩).a), .ex (iV (l.getD i.toNat ⟨0, 0, 0⟩).b)] }, { os := [.nw] }, {}, { os := [.st 0 0, .st 0 1, .st 0 2] }] (env' := fun B4 => [(3, eI i), (4, eP B4 0), (0, eS av l.length c), (5, eS av l.length c), (6, eI (l.length : Int)), (7, eI i)]) (M' := fun B4 => [⟨B4, 62, [iV (l.getD i.toNat ⟨0, 0, 0⟩).k, iV (l.getD i.toNat ⟨0, 0, 0⟩).a, iV (l.getD i.toNat ⟨0, 0, 0⟩).b]⟩]) (ob := fun B4 => [(0 : Int) ≤ i ∧ i < (l.length : Int), (av : Option Addr).isSome = true, w1.cell? (((sa av : Addr).add (i.toNat * 3)).add 0) = some (iV (l.getD i.toNat ⟨0, 0, 0⟩).k), w1.cell? (((sa av : Addr).add (i.toNat * 3)).add 1) = some (iV (l.getD i.toNat ⟨0, 0, 0⟩).a), w1.cell? (((sa av : Addr).add (i.toNat * 3)).add 2) = some (iV (l.getD i.toNat ⟨0, 0, 0⟩).b), Ad B4 0, Ad B4 1, Ad B4 2]) (fun B4 => (Ac (by first | omega | (simp; done)) (Ac ((hav.keepNn hk0).some_ (by first | omega | (simp; done))) (Ac ((hav.keepNn hk0).get (fun _ => rfl) (by first | omega | (simp; done)) rfl) (Ac ((hav.keepNn hk0).get (fun _ => rfl) (by first | omega | (simp; done)) rfl) (Ac ((hav.keepNn hk0).get (fun _ => rfl) (by first | omega | (simp; done)) rfl) (Ac (ad _ _) (Ac (ad _ _) (Ao (ad _ _)))))))))) ?_
   clear hf hM; intro a w2 B4 hf hM hB hk
   have hbB4 : w.heap.size ≤ B4 := by have := hk0.size; omega
   have hk0 := hk0.then hk (by intro i _ h; cases h)
   clear hk hB
   refine wpList_nil ?_
   refine hK7 _ _ ?_
   refine wp_seq_k (fun K8 hK8 => ?_)
   replace hM := hM.drew; replace hk0 := hk0.drew
   obtain ⟨C1, hC1d⟩ : ∃ C : World → Prop, C = fun w' => MemOk [⟨B4, 62, [iV (l.getD i.toNat ⟨0, 0, 0⟩).k, iV (l.getD i.toNat ⟨0, 0, 0⟩).a, iV (l.getD i.toNat ⟨0, 0, 0⟩).b]⟩] w' ∧ Keep Nn w w' ∧ True := ⟨_, rfl⟩
   have hC1i : ∀ w', (MemOk [⟨B4, 62, [iV (l.getD i.toNat ⟨0, 0, 0⟩).k, iV (l.getD i.toNat ⟨0, 0, 0⟩).a, iV (l.getD i.toNat ⟨0, 0, 0⟩).b]⟩] w' ∧ Keep Nn w w' ∧ True) → C1 w' := fun w' h => by rw [hC1d]; exact h
   have hC1e : ∀ w', C1 w' → (MemOk [⟨B4, 62, [iV (l.getD i.toNat ⟨0, 0, 0⟩).k, iV (l.getD i.toNat ⟨0, 0, 0⟩).a, iV (l.getD i.toNat ⟨0, 0, 0⟩).b]⟩] w' ∧ Keep Nn w w' ∧ True) := fun w' h => by rw [hC1d] at h; exact h
   refine sxdraw (C := C1) (.leaf [(0, true), (1, false), (2, true), (3, true), (4, true), (5, true), (6, true), (7, true), (8, true), (9, true), (10, true), (11, true), (12, true), (13, true), (14, true), (15, true), (16, true), (17, true)]) (by kernel_rfl) (by kernel_rfl) (by as_aux_lemma => kernel_rfl) rfl (by as_aux_lemma => kernel_rfl) (by kernel_rfl) (hC1i _ ⟨hM.sub (.cons_cons _ .slnil), hk0, trivial⟩) ?_
   refine sxleaf ?_
   have hC := (hC1i _ ⟨hM.sub (.cons_cons _ .slnil), hk0, trivial⟩)
   refine qd hf hC (fun w' h => (hC1e w' h).1) [12, 3, 4, 0, 5, 6, 7] [{ os := [.ld 0 0, .ld 0 1, .ld 0 2] }] (env' := [(12, .val (.agg #[iV (l.getD i.toNat ⟨0, 0, 0⟩).k, iV (l.getD i.toNat ⟨0, 0, 0⟩).a, iV (l.getD i.toNat ⟨0, 0, 0⟩).b])), (3, eI i), (4, eP B4 0), (0, eS av l.length c), (5, eS av l.length c), (6, eI (l.length : Int)), (7, eI i)]) (ob := [Ad B4 0, Ad B4 1, Ad B4 2]) (Ac (ad _ _) (Ac (ad _ _) (Ao (ad _ _)))) ?_
   clear hf; intro a hf
   rcases Bool.eq_false_or_eq_true (vkind ⟨(l.getD i.toNat ⟨0, 0, 0⟩).k, (l.getD i.toNat ⟨0, 0, 0⟩).a, (l.getD i.toNat ⟨0, 0, 0⟩).b⟩) with hg1r | hg1r
   · have hg1 := hg1r
     try simp only [Bool.or_eq_true, Bool.and_eq_true, Bool.not_eq_true', Bool.not_eq_false', Bool.or_eq_false_iff, Bool.and_eq_false_iff, decide_eq_true_eq, decide_eq_false_iff_not, beq_iff_eq, bne_iff_ne, beq_eq_false_iff_ne, bne_eq_false_iff_eq, Bool.and_true, Bool.true_and, ne_eq] at hg1
     rcases Bool.eq_false_or_eq_true (vrange ⟨(l.getD i.toNat ⟨0, 0, 0⟩).k, (l.getD i.toNat ⟨0, 0, 0⟩).a, (l.getD i.toNat ⟨0, 0, 0⟩).b⟩) with hg2r | hg2r
     · have hg2 := hg2r
       try simp only [Bool.or_eq_true, Bool.and_eq_true, Bool.not_eq_true', Bool.not_eq_false', Bool.or_eq_false_iff, Bool.and_eq_false_iff, decide_eq_true_eq, decide_eq_false_iff_not, beq_iff_eq, bne_iff_ne, beq_eq_false_iff_ne, bne_eq_false_iff_eq, Bool.and_true, Bool.true_and, ne_eq] at hg2
       refine scstep rfl ?_
       refine sxcall hf rfl rfl rfl rfl (g := 31) (vs := [.agg #[iV (l.getD i.toNat ⟨0, 0, 0⟩).k, iV (l.getD i.toNat ⟨0, 0, 0⟩).a, iV (l.getD i.toNat ⟨0, 0, 0⟩).b]]) (ob := []) (by as_aux_lemma => kernel_rfl) An enters31 (scheck_ok E (l.getD i.toNat ⟨0, 0, 0⟩).k (l.getD i.toNat ⟨0, 0, 0⟩).a (l.getD i.toNat ⟨0, 0, 0⟩).b w2.drew hg1r hg2r (hG.keep hk0 (fun _ h => h))) ?_
       clear hf; rintro _ w3 a ⟨rfl, hk⟩ hf
       have hM := hM.keepNn hk
       have hk0 := hk0.trans hk.nn
       clear hk
       have hC := (hC1i _ ⟨hM.sub (.cons_cons _ .slnil), hk0, trivial⟩)
       refine scdone hC ?_
       refine qd hf hC (fun w' h => (hC1e w' h).1) [18, 17, 16, 15, 14, 13, 12, 3, 4, 0, 5, 6, 7] [{}, {}, {}, {}, {}] (env' := [(18, eB (decide ((i : Int) > 0))), (17, eB (decide ((i : Int) > 0))), (16, eI i), (15, eB false), (14, eB false), (13, .val (.nilIface)), (12, .val (.agg #[iV (l.getD i.toNat ⟨0, 0, 0⟩).k, iV (l.getD i.toNat ⟨0, 0, 0⟩).a, iV (l.getD i.toNat ⟨0, 0, 0⟩).b])), (3, eI i), (4, eP B4 0), (0, eS av l.length c), (5, eS av l.length c), (6, eI (l.length : Int)), (7, eI i)]) (ob := [false = false, false = false, false = false]) (Ac rfl (Ac rfl (Ao rfl))) ?_
       clear hf; intro a hf
       rcases Bool.eq_false_or_eq_true (decide ((i : Int) > 0)) with hg3r | hg3r
       · have hg3 := (nT hg3r)
         have hf := hf.prune [18, 17, 16, 15, 14, 13, 12, 3, 4, 0, 5, 6, 7]
         replace hf : Fr 31 [(18, eB (decide ((i : Int) > 0))), (17, eB (decide ((i : Int) > 0))), (16, eI i), (15, eB false), (14, eB false), (13, .val (.nilIface)), (12, .val (.agg #[iV (l.getD i.toNat ⟨0, 0, 0⟩).k, iV (l.getD i.toNat ⟨0, 0, 0⟩).a, iV (l.getD i.toNat ⟨0, 0, 0⟩).b])), (3, eI i), (4, eP B4 0), (0, eS av l.length c), (5, eS av l.length c), (6, eI (l.length : Int)), (7, eI i)] a := hf
         replace hf := hf.conv (env' := [(18, eB true), (17, eB true), (16, eI i), (15, eB false), (14, eB false), (13, .val (.nilIface)), (12, .val (.agg #[iV (l.getD i.toNat ⟨0, 0, 0⟩).k, iV (l.getD i.toNat ⟨0, 0, 0⟩).a, iV (l.getD i.toNat ⟨0, 0, 0⟩).b])), (3, eI i), (4, eP B4 0), (0, eS av l.length c), (5, eS av l.length c), (6, eI (l.length : Int)), (7, eI i)]) (Ac (congrArg Value.bool hg3r) (Ac (congrArg Value.bool hg3r) (Ac rfl (Ac rfl (Ac rfl (Ac rfl (Ac rfl (Ac rfl (Ac rfl (Ac rfl (Ac rfl (Ac rfl (Ao rfl)))))))))))))
         refine qd hf hC (fun w' h => (hC1e w' h).1) [29, 28, 27, 26, 25, 24, 23, 22, 21, 20, 19, 18, 17, 16, 15, 14, 13, 12, 0, 5, 6, 7] [{}, {}, { hint := some (iV (i - 1)) }, { sp := true }, {}, { os := [.ex (iV ((l.getD (i - 1).toNat ⟨0, 0, 0⟩).k))] }, {}, { os := [.ld 0 0] }, {}, {}, {}] (env' := [(29, eB (decide ((((l.getD (i - 1).toNat ⟨0, 0, 0⟩).k) : Int) ≥ (l.getD i.toNat ⟨0, 0, 0⟩).k))), (28, eB (decide ((((l.getD (i - 1).toNat ⟨0, 0, 0⟩).k) : Int) ≥ (l.getD i.toNat ⟨0, 0, 0⟩).k))), (27, eB (decide ((((l.getD (i - 1).toNat ⟨0, 0, 0⟩).k) : Int) ≥ (l.getD i.toNat ⟨0, 0, 0⟩).k))), (26, eI (l.getD i.toNat ⟨0, 0, 0⟩).k), (25, eP B4 0), (24, eI ((l.getD (i - 1).toNat ⟨0, 0, 0⟩).k)), (23, .val (.pointer (some (((sa av : Addr).add ((i - 1).toNat * 3)).add 0)))), (22, .val (.pointer (some ((sa av : Addr).add ((i - 1).toNat * 3))))), (21, eI (i - 1)), (20, eI i), (19, eS av l.length c), (18, eB true), (17, eB true), (16, eI i), (15, eB false), (14, eB false), (13, .val (.nilIface)), (12, .val (.agg #[iV (l.getD i.toNat ⟨0, 0, 0⟩).k, iV (l.getD i.toNat ⟨0, 0, 0⟩).a, iV (l.getD i.toNat ⟨0, 0, 0⟩).b])), (0, eS av l.length c), (5, eS av l.length c), (6, eI (l.length : Int)), (7, eI i)]) (ob := [true = true, true = true, true = true, (iV (IntKind.i64.wrap (i - 1)) : Value) = (iV (i - 1) : Value), true = true, (0 : Int) ≤ (i - 1) ∧ (i - 1) < (l.length : Int), (av : Option Addr).isSome = true, true = true, true = true, (∀ w', C1 w' → w'.cell? (((sa av : Addr).add ((i - 1).toNat * 3)).add 0) = some (iV ((l.getD (i - 1).toNat ⟨0, 0, 0⟩).k))), true = true, true = true, Ad B4 0, true = true, false = false]) (Ac rfl (Ac rfl (Ac rfl (Ac (wr (by omega)) (Ac rfl (Ac (by first | omega | (simp; done)) (Ac ((hav.keepNn hk0).some_ (by first | omega | (simp; done))) (Ac rfl (Ac rfl (Ac (fun w' hc => by obtain ⟨hM, hk0, hO⟩ := hC1e w' hc; exact ((hav.keepNn hk0).get (fun _ => rfl) (by first | omega | (simp; done)) rfl)) (Ac rfl (Ac rfl (Ac (ad _ _) (Ac rfl (Ao rfl))))))))))))))) ?_
         clear hf; intro a hf
         clear hC
         show K8 _ _
         refine hK8 _ _ ?_
         refine qc hf (b := (decide ((((l.getD (i - 1).toNat ⟨0, 0, 0⟩).k) : Int) ≥ (l.getD i.toNat ⟨0, 0, 0⟩).k))) (fun hc2r => ?_) (fun hc2r => ?_)
         · have hc2 := (nT hc2r)
           refine wp_seq_k (fun K9 hK9 => ?_)
           refine wp_region_lit ?_
           refine q0 hf hM [2] [{}] (env' := [(2, eB false)]) (ob := []) An ?_
           clear hf; intro a hf
           refine wpList_nil ?_
           refine hK9 _ _ ?_
           refine wp_ret ?_
           refine qr (fn := Tryd.f41) hf hM [] (l := [bV false]) (ob := []) An ?_
           show (bV false : Value) = .bool (rightV l) ∧ Keep Nn w w3
           refine ⟨congrArg Value.bool ?_, hk0⟩
           symm
           simp only [rightV, decide_eq_false_iff_not]
           intro h
           have h1 := h i.toNat (by omega)
           have hpi : (i - 1).toNat = i.toNat - 1 := by omega
           have hv := h1.1
           simp only [v0] at h1 hv
           first | (rw [vcheck_kind ‹_›] at hv; omega) | (rw [vcheck_range ‹_› ‹_›] at hv; omega) | (simp only [hpi] at *; omega)
         · have hc2 := (nU hc2r)
           refine wp_skip ?_
           refine hK6 _ _ ?_
           refine wp_region_lit ?_
           refine q0 hf hM [7, 29, 28, 27, 26, 25, 24, 23, 22, 21, 20, 19, 18, 17, 16, 15, 14, 13, 12, 0, 5, 6] [{ hint := some (iV (i + 1)) }, {}] (env' := [(7, eI (i + 1)), (29, eB (decide ((((l.getD (i - 1).toNat ⟨0, 0, 0⟩).k) : Int) ≥ (l.getD i.toNat ⟨0, 0, 0⟩).k))), (28, eB (decide ((((l.getD (i - 1).toNat ⟨0, 0, 0⟩).k) : Int) ≥ (l.getD i.toNat ⟨0, 0, 0⟩).k))), (27, eB (decide ((((l.getD (i - 1).toNat ⟨0, 0, 0⟩).k) : Int) ≥ (l.getD i.toNat ⟨0, 0, 0⟩).k))), (26, eI (l.getD i.toNat ⟨0, 0, 0⟩).k), (25, eP B4 0), (24, eI ((l.getD (i - 1).toNat ⟨0, 0, 0⟩).k)), (23, .val (.pointer (some (((sa av : Addr).add ((i - 1).toNat * 3)).add 0)))), (22, .val (.pointer (some ((sa av : Addr).add ((i - 1).toNat * 3))))), (21, eI (i - 1)), (20, eI i), (19, eS av l.length c), (18, eB true), (17, eB true), (16, eI i), (15, eB false), (14, eB false), (13, .val (.nilIface)), (12, .val (.agg #[iV (l.getD i.toNat ⟨0, 0, 0⟩).k, iV (l.getD i.toNat ⟨0, 0, 0⟩).a, iV (l.getD i.toNat ⟨0, 0, 0⟩).b])), (0, eS av l.length c), (5, eS av l.length c), (6, eI (l.length : Int))]) (ob := [(iV (IntKind.i64.wrap (i + 1)) : Value) = (iV (i + 1) : Value)]) (Ao (wr (by omega))) ?_
           clear hf; intro a hf
           refine wpList_nil ?_
           have hr2 : ∀ j, j < (i + 1).toNat → vcheck (l.getD j v0) = 0 ∧ (0 < j → (l.getD (j - 1) v0).k < (l.getD j v0).k) := fun j hj => by
             rcases Nat.lt_or_ge j i.toNat with h | h
             · exact hr j h
             · obtain rfl : j = i.toNat := by omega
               have hpi : (i - 1).toNat = i.toNat - 1 := by omega
               refine ⟨vcheck_ok (v := l.getD i.toNat v0) ‹vkind _ = true› ‹vrange _ = true›, fun h0 => ?_⟩
               simp only [hpi] at *
               simp only [v0] at *
               omega
           have hf := hf.prune [0, 5, 6, 7]
           replace hf : Fr 31 [(0, eS av l.length c), (5, eS av l.length c), (6, eI (l.length : Int)), (7, eI (i + 1))] a := hf
           replace hM : MemOk [] w3 := hM.sub (.cons _ .slnil)
           refine hL1 _ _ _ (by omega) ⟨i + 1, rfl, hf.conv (Ac rfl (Ac rfl (Ac rfl (Ao rfl)))), hM, hk0, (by omega), hr2⟩
       · have hg3 := (nU hg3r)
         have hf := hf.prune [18, 17, 16, 15, 14, 13, 12, 3, 4, 0, 5, 6, 7]
         replace hf : Fr 31 [(18, eB (decide ((i : Int) > 0))), (17, eB (decide ((i : Int) > 0))), (16, eI i), (15, eB false), (14, eB false), (13, .val (.nilIface)), (12, .val (.agg #[iV (l.getD i.toNat ⟨0, 0, 0⟩).k, iV (l.getD i.toNat ⟨0, 0, 0⟩).a, iV (l.getD i.toNat ⟨0, 0, 0⟩).b])), (3, eI i), (4, eP B4 0), (0, eS av l.length c), (5, eS av l.length c), (6, eI (l.length : Int)), (7, eI i)] a := hf
         replace hf := hf.conv (env' := [(18, eB false), (17, eB false), (16, eI i), (15, eB false), (14, eB false), (13, .val (.nilIface)), (12, .val (.agg #[iV (l.getD i.toNat ⟨0, 0, 0⟩).k, iV (l.getD i.toNat ⟨0, 0, 0⟩).a, iV (l.getD i.toNat ⟨0, 0, 0⟩).b])), (3, eI i), (4, eP B4 0), (0, eS av l.length c), (5, eS av l.length c), (6, eI (l.length : Int)), (7, eI i)]) (Ac (congrArg Value.bool hg3r) (Ac (congrArg Value.bool hg3r) (Ac rfl (Ac rfl (Ac rfl (Ac rfl (Ac rfl (Ac rfl (Ac rfl (Ac rfl (Ac rfl (Ac rfl (Ao rfl)))))))))))))
         refine qd hf hC (fun w' h => (hC1e w' h).1) [29, 28, 27, 26, 25, 24, 23, 22, 21, 20, 19, 18, 17, 16, 15, 14, 13, 12, 0, 5, 6, 7] [{ g := .off }, { g := .off }, { g := .off }, { g := .off }, { g := .off }, { g := .off }, { g := .off }, { g := .off }, { g := .off }, {}, {}] (env' := [(29, eB false), (28, eB false), (27, .val (undef)), (26, .val (undef)), (25, .val (undef)), (24, .val (undef)), (23, .val (undef)), (22, .val (undef)), (21, .val (undef)), (20, .val (undef)), (19, .val (undef)), (18, eB false), (17, eB false), (16, eI i), (15, eB false), (14, eB false), (13, .val (.nilIface)), (12, .val (.agg #[iV (l.getD i.toNat ⟨0, 0, 0⟩).k, iV (l.getD i.toNat ⟨0, 0, 0⟩).a, iV (l.getD i.toNat ⟨0, 0, 0⟩).b])), (0, eS av l.length c), (5, eS av l.length c), (6, eI (l.length : Int)), (7, eI i)]) (ob := [false = !true, false = !true, false = !true, false = !true, false = !true, false = !true, false = !true, false = !true, false = !true, false = false]) (Ac rfl (Ac rfl (Ac rfl (Ac rfl (Ac rfl (Ac rfl (Ac rfl (Ac rfl (Ac rfl (Ao rfl)))))))))) ?_
         clear hf; intro a hf
         clear hC
         show K8 _ _
         refine hK8 _ _ ?_
         refine sxcond hf (b := false) (by kernel_rfl) (fun h => by cases h) (fun _ => ?_)
         refine wp_skip ?_
         refine hK6 _ _ ?_
         refine wp_region_lit ?_
         refine q0 hf hM [7, 29, 28, 27, 26, 25, 24, 23, 22, 21, 20, 19, 18, 17, 16, 15, 14, 13, 12, 0, 5, 6] [{ hint := some (iV (i + 1)) }, {}] (env' := [(7, eI (i + 1)), (29, eB false), (28, eB false), (27, .val (undef)), (26, .val (undef)), (25, .val (undef)), (24, .val (undef)), (23, .val (undef)), (22, .val (undef)), (21, .val (undef)), (20, .val (undef)), (19, .val (undef)), (18, eB false), (17, eB false), (16, eI i), (15, eB false), (14, eB false), (13, .val (.nilIface)), (12, .val (.agg #[iV (l.getD i.toNat ⟨0, 0, 0⟩).k, iV (l.getD i.toNat ⟨0, 0, 0⟩).a, iV (l.getD i.toNat ⟨0, 0, 0⟩).b])), (0, eS av l.length c), (5, eS av l.length c), (6, eI (l.length : Int))]) (ob := [(iV (IntKind.i64.wrap (i + 1)) : Value) = (iV (i + 1) : Value)]) (Ao (wr (by omega))) ?_
         clear hf; intro a hf
         refine wpList_nil ?_
         have hr2 : ∀ j, j < (i + 1).toNat → vcheck (l.getD j v0) = 0 ∧ (0 < j → (l.getD (j - 1) v0).k < (l.getD j v0).k) := fun j hj => by
           rcases Nat.lt_or_ge j i.toNat with h | h
           · exact hr j h
           · obtain rfl : j = i.toNat := by omega
             have hpi : (i - 1).toNat = i.toNat - 1 := by omega
             refine ⟨vcheck_ok (v := l.getD i.toNat v0) ‹vkind _ = true› ‹vrange _ = true›, fun h0 => ?_⟩
             simp only [hpi] at *
             simp only [v0] at *
             omega
         have hf := hf.prune [0, 5, 6, 7]
         replace hf : Fr 31 [(0, eS av l.length c), (5, eS av l.length c), (6, eI (l.length : Int)), (7, eI (i + 1))] a := hf
         replace hM : MemOk [] w3 := hM.sub (.cons _ .slnil)
         refine hL1 _ _ _ (by omega) ⟨i + 1, rfl, hf.conv (Ac rfl (Ac rfl (Ac rfl (Ao rfl)))), hM, hk0, (by omega), hr2⟩
     · have hg2 := hg2r
       try simp only [Bool.or_eq_true, Bool.and_eq_true, Bool.not_eq_true', Bool.not_eq_false', Bool.or_eq_false_iff, Bool.and_eq_false_iff, decide_eq_true_eq, decide_eq_false_iff_not, beq_iff_eq, bne_iff_ne, beq_eq_false_iff_ne, bne_eq_false_iff_eq, Bool.and_true, Bool.true_and, ne_eq] at hg2
       refine scstep rfl ?_
       refine sxcall hf rfl rfl rfl rfl (g := 31) (vs := [.agg #[iV (l.getD i.toNat ⟨0, 0, 0⟩).k, iV (l.getD i.toNat ⟨0, 0, 0⟩).a, iV (l.getD i.toNat ⟨0, 0, 0⟩).b]]) (ob := []) (by as_aux_lemma => kernel_rfl) An enters31 (scheck_range E (l.getD i.toNat ⟨0, 0, 0⟩).k (l.getD i.toNat ⟨0, 0, 0⟩).a (l.getD i.toNat ⟨0, 0, 0⟩).b w2.drew hg1r hg2r (hG.keep hk0 (fun _ h => h))) ?_
       clear hf; rintro _ w4 a ⟨rfl, hk⟩ hf
       have hM := hM.keepNn hk
       have hk0 := hk0.trans hk.nn
       clear hk
       have hC := (hC1i _ ⟨hM.sub (.cons_cons _ .slnil), hk0, trivial⟩)
       refine scdone hC ?_
       refine qd hf hC (fun w' h => (hC1e w' h).1) [29, 28, 27, 26, 25, 24, 23, 22, 21, 20, 19, 18, 17, 16, 15, 14, 13, 12, 0, 5, 6, 7] [{}, {}, { g := .off }, { g := .off }, { g := .off }, { g := .off }, { g := .off }, { g := .off }, { g := .off }, { g := .off }, { g := .off }, { g := .off }, { g := .off }, { g := .off }, { g := .off }, {}] (env' := [(29, eB true), (28, .val (undef)), (27, .val (undef)), (26, .val (undef)), (25, .val (undef)), (24, .val (undef)), (23, .val (undef)), (22, .val (undef)), (21, .val (undef)), (20, .val (undef)), (19, .val (undef)), (18, .val (undef)), (17, .val (undef)), (16, .val (undef)), (15, eB true), (14, eB true), (13, .val (.iface 185 (.pointer (some (E 0))))), (12, .val (.agg #[iV (l.getD i.toNat ⟨0, 0, 0⟩).k, iV (l.getD i.toNat ⟨0, 0, 0⟩).a, iV (l.getD i.toNat ⟨0, 0, 0⟩).b])), (0, eS av l.length c), (5, eS av l.length c), (6, eI (l.length : Int)), (7, eI i)]) (ob := [true = !false, true = !false, true = !false, true = !false]) (Ac rfl (Ac rfl (Ac rfl (Ao rfl)))) ?_
       clear hf; intro a hf
       clear hC
       show K8 _ _
       refine hK8 _ _ ?_
       refine sxcond hf (b := true) (by kernel_rfl) (fun _ => ?_) (fun h => by cases h)
       refine wp_seq_k (fun K10 hK10 => ?_)
       refine wp_region_lit ?_
       refine q0 hf hM [2] [{}] (env' := [(2, eB false)]) (ob := []) An ?_
       clear hf; intro a hf
       refine wpList_nil ?_
       refine hK10 _ _ ?_
       refine wp_ret ?_
       refine qr (fn := Tryd.f41) hf hM [] (l := [bV false]) (ob := []) An ?_
       show (bV false : Value) = .bool (rightV l) ∧ Keep Nn w w4
       refine ⟨congrArg Value.bool ?_, hk0⟩
       symm
       simp only [rightV, decide_eq_false_iff_not]
       intro h
       have h1 := h i.toNat (by omega)
       have hpi : (i - 1).toNat = i.toNat - 1 := by omega
       have hv := h1.1
       simp only [v0] at h1 hv
       first | (rw [vcheck_kind ‹_›] at hv; omega) | (rw [vcheck_range ‹_› ‹_›] at hv; omega) | (simp only [hpi] at *; omega)
   · have hg1 := hg1r
     try simp only [Bool.or_eq_true, Bool.and_eq_true, Bool.not_eq_true', Bool.not_eq_false', Bool.or_eq_false_iff, Bool.and_eq_false_iff, decide_eq_true_eq, decide_eq_false_iff_not, beq_iff_eq, bne_iff_ne, beq_eq_false_iff_ne, bne_eq_false_iff_eq, Bool.and_true, Bool.true_and, ne_eq] at hg1
     refine scstep rfl ?_
     refine sxcall hf rfl rfl rfl rfl (g := 31) (vs := [.agg #[iV (l.getD i.toNat ⟨0, 0, 0⟩).k, iV (l.getD i.toNat ⟨0, 0, 0⟩).a, iV (l.getD i.toNat ⟨0, 0, 0⟩).b]]) (ob := []) (by as_aux_lemma => kernel_rfl) An enters31 (scheck_kind E (l.getD i.toNat ⟨0, 0, 0⟩).k (l.getD i.toNat ⟨0, 0, 0⟩).a (l.getD i.toNat ⟨0, 0, 0⟩).b w2.drew hg1r (hG.keep hk0 (fun _ h => h))) ?_
     clear hf; rintro _ w5 a ⟨rfl, hk⟩ hf
     have hM := hM.keepNn hk
     have hk0 := hk0.trans hk.nn
     clear hk
     have hC := (hC1i _ ⟨hM.sub (.cons_cons _ .slnil), hk0, trivial⟩)
     refine scdone hC ?_
     refine qd hf hC (fun w' h => (hC1e w' h).1) [29, 28, 27, 26, 25, 24, 23, 22, 21, 20, 19, 18, 17, 16, 15, 14, 13, 12, 0, 5, 6, 7] [{}, {}, { g := .off }, { g := .off }, { g := .off }, { g := .off }, { g := .off }, { g := .off }, { g := .off }, { g := .off }, { g := .off }, { g := .off }, { g := .off }, { g := .off }, { g := .off }, {}] (env' := [(29, eB true), (28, .val (undef)), (27, .val (undef)), (26, .val (undef)), (25, .val (undef)), (24, .val (undef)), (23, .val (undef)), (22, .val (undef)), (21, .val (undef)), (20, .val (undef)), (19, .val (undef)), (18, .val (undef)), (17, .val (undef)), (16, .val (undef)), (15, eB true), (14, eB true), (13, .val (.iface 185 (.pointer (some (E 4))))), (12, .val (.agg #[iV (l.getD i.toNat ⟨0, 0, 0⟩).k, iV (l.getD i.toNat ⟨0, 0, 0⟩).a, iV (l.getD i.toNat ⟨0, 0, 0⟩).b])), (0, eS av l.length c), (5, eS av l.length c), (6, eI (l.length : Int)), (7, eI i)]) (ob := [true = !false, true = !false, true = !false, true = !false]) (Ac rfl (Ac rfl (Ac rfl (Ao rfl)))) ?_
     clear hf; intro a hf
     clear hC
     show K8 _ _
     refine hK8 _ _ ?_
     refine sxcond hf (b := true) (by kernel_rfl) (fun _ => ?_) (fun h => by cases h)
     refine wp_seq_k (fun K11 hK11 => ?_)
     refine wp_region_lit ?_
     refine q0 hf hM [2] [{}] (env' := [(2, eB false)]) (ob := []) An ?_
     clear hf; intro a hf
     refine wpList_nil ?_
     refine hK11 _ _ ?_
     refine wp_ret ?_
     refine qr (fn := Tryd.f41) hf hM [] (l := [bV false]) (ob := []) An ?_
     show (bV false : Value) = .bool (rightV l) ∧ Keep Nn w w5
     refine ⟨congrArg Value.bool ?_, hk0⟩
     symm
     simp only [rightV, decide_eq_false_iff_not]
     intro h
     have h1 := h i.toNat (by omega)
     have hpi : (i - 1).toNat = i.toNat - 1 := by omega
     have hv := h1.1
     simp only [v0] at h1 hv
     first | (rw [vcheck_kind ‹_›] at hv; omega) | (rw [vcheck_range ‹_› ‹_›] at hv; omega) | (simp only [hpi] at *; omega)
 · have hc1 := (nU hc1r)
   refine wp_exit ?_
   refine hK2 _ _ ?_
   refine wp_seq_k (fun K12 hK12 => ?_)
   refine wp_region_lit ?_
   refine q0 hf hM [2] [{}] (env' := [(2, eB true)]) (ob := []) An ?_
   clear hf; intro a hf
   refine wpList_nil ?_
   refine hK12 _ _ ?_
   refine wp_ret ?_
   refine qr (fn := Tryd.f41) hf hM [] (l := [bV true]) (ob := []) An ?_
   show (bV true : Value) = .bool (rightV l) ∧ Keep Nn w w1
   refine ⟨congrArg Value.bool ?_, hk0⟩
   symm
   simp only [rightV, decide_eq_true_eq]
   exact fun j hj => hr j (by omega)
end Go.Proofs.YtifcgjnknikjkaaDoor
