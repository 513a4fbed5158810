/- layer 13: Radius, its parts -/
import Derived.Test.YthofalkkdpjdlaaDoorN3
import Derived.Test.YthofalkkdpjdlaaDoorN4
import Derived.Test.YthofalkkdpjdlaaDoorN2
import Derived.Test.YthofalkkdpjdlaaDoorXpD
namespace Go.Proofs.YthofalkkdpjdlaaDoor
open Go.Px
set_option linter.unusedVariables false
set_option linter.unusedSimpArgs false

set_option maxRecDepth 10000 in
set_option maxHeartbeats 1600000 in
theorem rad_enter (E : Nat → Addr) (Pb Rb : Nat) (px py r d x y : Int) (w : World) (hn0 : (cellRight d x y) = true) (hn1 : (reach px py) = true) (hP0 : w.cell? ⟨Pb, 0, none⟩ = some (.int .i64 px)) (hP1 : w.cell? ⟨Pb, 1, none⟩ = some (.int .i64 py)) (hR0 : w.cell? ⟨Rb, 0, none⟩ = some (.int .i64 r)) (hrr : 0 ≤ r ∧ r ≤ 4194304) :
    Calls Tryd.prog 39 #[.agg #[iV d, iV x, iV y], pV Pb 0, pV Rb 0] w (Ret fun v w' => v = .bool (decide (gapC px py d x y ≤ r * r)) ∧ Keep Nn w w') := by
 refine sxenter (n := 21) (args := [.agg #[iV d, iV x, iV y], pV Pb 0, pV Rb 0]) Tryd.func39 rfl rfl rfl fun a hf => ?_
 replace hf : Fr 21 [(0, .val (.agg #[iV d, iV x, iV y])), (1, eP Pb 0), (2, eP Rb 0)] a := hf
 have hM : MemOk [] w := MemOk.nil w
 have hk0 : Keep Nn w w := Keep.refl _ _
 refine wp_seq_k (fun K1 hK1 => ?_)
 refine wp_region_lit ?_
 refine q1 hf hM [1, 2] [{ os := [.nw] }, {}] (nw := fun B1 => [(3, eP B1 0)]) (M' := fun B1 => [⟨B1, 29, [iV d, iV x, iV y]⟩]) (ob := fun B1 => []) (fun B1 => An) ?_
 clear hf hM; intro a w1 B1 hf hM hB hk
 have hbB1 : w.heap.size ≤ B1 := by have := hk0.size; omega
 have hk0 := hk0.then hk (by intro i _ h; cases h)
 clear hk hB
 refine wpList_nil ?_
 refine hK1 _ _ ?_
 refine wp_seq_k (fun K2 hK2 => ?_)
 refine wp_region_lit ?_
 refine q0 hf hM [2] [{ os := [.ld 0 0, .ld 0 1, .ld 0 2] }, { os := [.ex (iV px), .ex (iV py)] }] (nw := [(9, .val (.agg #[iV px, iV py])), (8, .val (.agg #[iV d, iV x, iV y]))]) (ob := [Ad B1 0, Ad B1 1, Ad B1 2, w1.cell? ⟨Pb, 0, none⟩ = some (iV px), w1.cell? ⟨Pb, 1, none⟩ = some (iV py)]) (Ac (ad _ _) (Ac (ad _ _) (Ac (ad _ _) (Ac (hk0.cell hP0 (fun h => h)) (Ao (hk0.cell hP1 (fun h => h))))))) ?_
 clear hf; intro a hf
 refine sxcall hf rfl rfl rfl rfl (g := 40) (vs := [.agg #[iV d, iV x, iV y], .agg #[iV px, iV py]]) (ob := []) (by as_aux_lemma => kernel_rfl) An enters40 (nreach_ok E px py d x y w1 hn0 hn1 ) ?_
 clear hf; rintro _ w2 a ⟨rfl, hk⟩ hf
 have hM := hM.keepNn hk
 have hk0 := hk0.trans hk.nn
 clear hk
 refine q0 hf hM [2] [{}, {}, {}, {}, {}] (nw := [(6, eB true), (5, eI (gapC px py d x y))]) An ?_
 clear hf; intro a hf
 refine wpList_nil ?_
 refine hK2 _ _ ?_
 refine wp_seq_k (fun K3 hK3 => ?_)
 refine wp_region_lit ?_
 refine q0 hf hM [] [{}, {}, {}, { os := [.ex (iV r)] }, { os := [.ex (iV r)] }, { hint := some (iV (r * r)) }, {}, {}, {}] (nw := [(4, eB (decide (((gapC px py d x y) : Int) ≤ (r * r))))]) (ob := [true = true, true = true, w2.cell? ⟨Rb, 0, none⟩ = some (iV r), true = true, w2.cell? ⟨Rb, 0, none⟩ = some (iV r), true = true, (iV (IntKind.i64.wrap (r * r)) : Value) = (iV (r * r) : Value), true = true]) (Ac rfl (Ac rfl (Ac (hk0.cell hR0 (fun h => h)) (Ac rfl (Ac (hk0.cell hR0 (fun h => h)) (Ac rfl (Ac (wr (by have := sq_bd (a := r) (m := 4194304) (by omega); omega)) (Ao rfl)))))))) ?_
 clear hf; intro a hf
 refine wpList_nil ?_
 refine hK3 _ _ ?_
 refine wp_ret ?_
 refine qr (fn := Tryd.f39) hf hM [] (l := [bV (decide (((gapC px py d x y) : Int) ≤ (r * r)))]) (ob := []) An ?_
 show (bV (decide (((gapC px py d x y) : Int) ≤ (r * r))) : Value) = .bool (decide (gapC px py d x y ≤ r * r)) ∧ Keep Nn w w2
 exact ⟨rfl, hk0⟩

set_option maxRecDepth 10000 in
set_option maxHeartbeats 1600000 in
theorem rad_each (E : Nat → Addr) (base oB Pb Rb : Nat) (px py r : Int) (av : Option Addr) (L : List H2) (c : Nat) (hi hg : Int) (x0 y0 x1 y1 : Int) (w : World) (hn0 : (boxRight x0 y0 x1 y1) = true) (hn1 : (reach px py) = true) (hM0 : MemOk [⟨oB, 50, [.slice av L.length c]⟩] w) (hO0 : OwnOk base [⟨oB, 50, [.slice av L.length c]⟩] [oS 39 2 (.slice av L.length c) L.length (flat fH L)] w) (hbL : L.length ≤ 1000000) (hP0 : w.cell? ⟨Pb, 0, none⟩ = some (.int .i64 px)) (hP1 : w.cell? ⟨Pb, 1, none⟩ = some (.int .i64 py)) (hR0 : w.cell? ⟨Rb, 0, none⟩ = some (.int .i64 r)) (hrr : 0 ≤ r ∧ r ≤ 4194304) (hnP : ¬ Pb ∈ oB :: (Value.ownBlock (.slice av L.length c)).toList) (hnR : ¬ Rb ∈ oB :: (Value.ownBlock (.slice av L.length c)).toList) (hbw : base ≤ w.heap.size) :
    Calls Tryd.prog 41 #[.agg #[iV hi, iV hg], .agg #[iV x0, iV y0, iV x1, iV y1], pV Pb 0, pV Rb 0, pV oB 0] w (Ret fun v w' => v = .tuple #[] ∧ ∃ a' c', MemOk [⟨oB, 50, [.slice a' (if awayV px py x0 y0 x1 y1 ≤ r * r then L ++ [(⟨hi, hg⟩ : H2)] else L).length c']⟩] w' ∧ OwnOk base [⟨oB, 50, [.slice a' (if awayV px py x0 y0 x1 y1 ≤ r * r then L ++ [(⟨hi, hg⟩ : H2)] else L).length c']⟩] [oS 39 2 (.slice a' (if awayV px py x0 y0 x1 y1 ≤ r * r then L ++ [(⟨hi, hg⟩ : H2)] else L).length c') (if awayV px py x0 y0 x1 y1 ≤ r * r then L ++ [(⟨hi, hg⟩ : H2)] else L).length (flat fH (if awayV px py x0 y0 x1 y1 ≤ r * r then L ++ [(⟨hi, hg⟩ : H2)] else L))] w' ∧ Keep (fun i => i ∈ oB :: (Value.ownBlock (.slice av L.length c)).toList) w w' ∧ (∀ j, Value.ownBlock (.slice a' (if awayV px py x0 y0 x1 y1 ≤ r * r then L ++ [(⟨hi, hg⟩ : H2)] else L).length c') = some j → Value.ownBlock (.slice av L.length c) = some j ∨ w.heap.size ≤ j)) := by
 refine sxenter (n := 27) (args := [.agg #[iV hi, iV hg], .agg #[iV x0, iV y0, iV x1, iV y1], pV Pb 0, pV Rb 0, pV oB 0]) Tryd.func41 rfl rfl rfl fun a hf => ?_
 replace hf : Fr 27 [(0, .val (.agg #[iV hi, iV hg])), (1, .val (.agg #[iV x0, iV y0, iV x1, iV y1])), (2, eP Pb 0), (3, eP Rb 0), (4, eP oB 0)] a := hf
 have hM : MemOk [⟨oB, 50, [.slice av L.length c]⟩] w := hM0
 have hk0 : Keep (fun i => i ∈ oB :: (Value.ownBlock (.slice av L.length c)).toList) w w := Keep.refl _ _
 have hO : OwnOk base [⟨oB, 50, [.slice av L.length c]⟩] [oS 39 2 (.slice av L.length c) L.length (flat fH L)] w := hO0
 refine wp_seq_k (fun K1 hK1 => ?_)
 refine wp_region_lit ?_
 refine q1 hf hM [2, 3, 4] [{ os := [.nw] }, { os := [.nw] }] (nw := fun B1 => [(6, eP (B1 + 1) 0), (5, eP B1 0)]) (M' := fun B1 => [⟨oB, 50, [.slice av L.length c]⟩, ⟨B1, 39, [iV hi, iV hg]⟩, ⟨B1 + 1, 32, [iV x0, iV y0, iV x1, iV y1]⟩]) (ob := fun B1 => []) (fun B1 => An) ?_
 clear hf hM; intro a w1 B1 hf hM hB hk
 have hbB1 : w.heap.size ≤ B1 := by have := hk0.size; omega
 have hk0 := hk0.then hk (by intro i hi h; simp only [Is, Mem.names, List.map_cons, List.map_nil, List.mem_cons, List.not_mem_nil, or_false] at h ⊢; omega)
 have hO := hO.step hM hk (by intro i h; simp only [Mem.names, List.map_cons, List.map_nil, List.mem_cons, List.not_mem_nil, or_false, List.map_append, List.cons_append, List.nil_append] at h ⊢; omega)
 clear hk hB
 refine wpList_nil ?_
 refine hK1 _ _ ?_
 refine wp_seq_k (fun K2 hK2 => ?_)
 refine wp_region_lit ?_
 refine q0 hf hM [5, 3, 4] [{ os := [.ld 2 0, .ld 2 1, .ld 2 2, .ld 2 3] }, { os := [.ex (iV px), .ex (iV py)] }] (nw := [(11, .val (.agg #[iV px, iV py])), (10, .val (.agg #[iV x0, iV y0, iV x1, iV y1]))]) (ob := [Ad (B1 + 1) 0, Ad (B1 + 1) 1, Ad (B1 + 1) 2, Ad (B1 + 1) 3, w1.cell? ⟨Pb, 0, none⟩ = some (iV px), w1.cell? ⟨Pb, 1, none⟩ = some (iV py)]) (Ac (ad _ _) (Ac (ad _ _) (Ac (ad _ _) (Ac (ad _ _) (Ac (hk0.cell hP0 hnP) (Ao (hk0.cell hP1 hnP))))))) ?_
 clear hf; intro a hf
 refine sxcall hf rfl rfl rfl rfl (g := 42) (vs := [.agg #[iV x0, iV y0, iV x1, iV y1], .agg #[iV px, iV py]]) (ob := []) (by as_aux_lemma => kernel_rfl) An enters42 (away_ok E px py x0 y0 x1 y1 w1 hn0 hn1 ) ?_
 clear hf; rintro _ w2 a ⟨rfl, hk⟩ hf
 have hO := hO.keepNn hk
 have hM := hM.keepNn hk
 have hk0 := hk0.trans hk.nn
 clear hk
 refine q0 hf hM [5, 3, 4] [{}, {}, {}, {}, {}] (nw := [(8, eB true), (7, eI (awayV px py x0 y0 x1 y1))]) An ?_
 clear hf; intro a hf
 refine wpList_nil ?_
 refine hK2 _ _ ?_
 refine wp_seq_k (fun K3 hK3 => ?_)
 refine wp_region_lit ?_
 refine q0 hf hM [5, 4] [{}, {}, {}, { os := [.ex (iV r)] }, { os := [.ex (iV r)] }, { hint := some (iV (r * r)) }, {}, {}] (nw := [(22, eB (decide (((awayV px py x0 y0 x1 y1) : Int) ≤ (r * r))))]) (ob := [true = true, true = true, w2.cell? ⟨Rb, 0, none⟩ = some (iV r), true = true, w2.cell? ⟨Rb, 0, none⟩ = some (iV r), true = true, (iV (IntKind.i64.wrap (r * r)) : Value) = (iV (r * r) : Value), true = true]) (Ac rfl (Ac rfl (Ac (hk0.cell hR0 hnR) (Ac rfl (Ac (hk0.cell hR0 hnR) (Ac rfl (Ac (wr (by have := sq_bd (a := r) (m := 4194304) (by omega); omega)) (Ao rfl)))))))) ?_
 clear hf; intro a hf
 refine wpList_nil ?_
 refine hK3 _ _ ?_
 refine qc hf (b := (decide (((awayV px py x0 y0 x1 y1) : Int) ≤ (r * r)))) (fun hc1r => ?_) (fun hc1r => ?_)
 · have hc1 := (nT hc1r)
   refine wp_region_lit ?_
   refine q0 hf hM [4] [{ os := [.ld 0 0] }, { os := [.ld 1 0, .ld 1 1] }] (nw := [(24, .val (.agg #[iV hi, iV hg])), (23, eS av L.length c)]) (ob := [Ad oB 0, Ad B1 0, Ad B1 1]) (Ac (ad _ _) (Ac (ad _ _) (Ao (ad _ _)))) ?_
   clear hf; intro a hf
   refine sxbslice hf hM (t := 50) (e := 39) (len := 1) (cs := [iV hi, iV hg]) (ob := []) rfl rfl rfl rfl (by as_aux_lemma => kernel_rfl) An (by as_aux_lemma => kernel_rfl) ?_
   clear hf hM; intro a w3 B6 hf hM hB hk
   replace hM : MemOk [⟨oB, 50, [.slice av L.length c]⟩, ⟨B1, 39, [iV hi, iV hg]⟩, ⟨B1 + 1, 32, [iV x0, iV y0, iV x1, iV y1]⟩, ⟨B6, 39, [iV hi, iV hg]⟩] w3 := hM
   have hbB6 : w.heap.size ≤ B6 := by have := hk0.size; omega
   have hk0 := hk0.trans hk.nn
   have hO := hO.step hM hk.nn (by intro i h; simp only [Mem.names, List.map_cons, List.map_nil, List.mem_cons, List.not_mem_nil, or_false, List.map_append, List.cons_append, List.nil_append] at h ⊢; omega)
   clear hk hB
   refine sxappendk hf hM (e := 39) (sz := 2) (by_ := 16) (k := L.length) (v := .slice av L.length c) (xs := flat fH L) hO rfl rfl rfl rfl (av := some ⟨B6, 0, none⟩) (m := 1) (c := 1) rfl rfl Tryd.underlying50 (by kernel_rfl) rfl (news := flat fH [(⟨hi, hg⟩ : H2)]) (Arr.of_memT (sz := 2) (f := fH) (L := ([⟨hi, hg⟩] : List H2)) (l := ([⟨hi, hg⟩] : List H2)) hM (List.Mem.tail _ (List.Mem.tail _ (List.Mem.tail _ (List.Mem.head _)))) (fun _ => rfl) rfl rfl) (flat_one1 fH_one) (by simp only [maxLen]; omega) (by have := hk0.size; omega) ?_
   clear hf hM hO; intro a w4 av2 cv2 hf hM hO hk hB
   have hB2 : ∀ j, Value.ownBlock (.slice av2 (L.length + 1) cv2) = some j → Value.ownBlock (.slice av L.length c) = some j ∨ w.heap.size ≤ j := fun j hj => (hB j hj).imp id (fun h => by have := hk0.size; omega)
   have hk0 := hk0.then hk (by intro i hi h; exact List.mem_cons_of_mem _ (mem_ob.2 h)); clear hk hB
   rw [← flat_app] at hO
   have en : L.length + 1 = (L ++ [(⟨hi, hg⟩ : H2)]).length := by simp
   rw [en] at hf hO hB2
   replace hO : OwnOk base [⟨oB, 50, [.slice av L.length c]⟩, ⟨B1, 39, [iV hi, iV hg]⟩, ⟨B1 + 1, 32, [iV x0, iV y0, iV x1, iV y1]⟩, ⟨B6, 39, [iV hi, iV hg]⟩] [oS 39 2 (.slice av2 ((L ++ [(⟨hi, hg⟩ : H2)]).length) cv2) ((L ++ [(⟨hi, hg⟩ : H2)]).length) (flat fH (L ++ [(⟨hi, hg⟩ : H2)]))] w4 := hO
   refine q1 hf hM [] [{ os := [.st 0 0] }] (nw := fun B7 => []) (M' := fun B7 => [⟨oB, 50, [.slice av2 ((L ++ [(⟨hi, hg⟩ : H2)]).length) cv2]⟩, ⟨B1, 39, [iV hi, iV hg]⟩, ⟨B1 + 1, 32, [iV x0, iV y0, iV x1, iV y1]⟩, ⟨B6, 39, [iV hi, iV hg]⟩]) (ob := fun B7 => [Ad oB 0]) (fun B7 => (Ao (ad _ _))) ?_
   clear hf hM; intro a w5 B7 hf hM hB hk
   have hbB7 : w.heap.size ≤ B7 := by have := hk0.size; omega
   have hk0 := hk0.then hk (by intro i hi h; simp only [Is, Mem.names, List.map_cons, List.map_nil, List.mem_cons, List.not_mem_nil, or_false] at h ⊢; omega)
   have hO := hO.step hM hk (by intro i h; simp only [Mem.names, List.map_cons, List.map_nil, List.mem_cons, List.not_mem_nil, or_false, List.map_append, List.cons_append, List.nil_append] at h ⊢; omega)
   clear hk hB
   refine wpList_nil ?_
   refine qe (fn := Tryd.f41) hf hM [] (l := []) (ob := []) An ?_
   show (.tuple #[] : Value) = .tuple #[] ∧ ∃ a' c', MemOk [⟨oB, 50, [.slice a' (if awayV px py x0 y0 x1 y1 ≤ r * r then L ++ [(⟨hi, hg⟩ : H2)] else L).length c']⟩] w5 ∧ OwnOk base [⟨oB, 50, [.slice a' (if awayV px py x0 y0 x1 y1 ≤ r * r then L ++ [(⟨hi, hg⟩ : H2)] else L).length c']⟩] [oS 39 2 (.slice a' (if awayV px py x0 y0 x1 y1 ≤ r * r then L ++ [(⟨hi, hg⟩ : H2)] else L).length c') (if awayV px py x0 y0 x1 y1 ≤ r * r then L ++ [(⟨hi, hg⟩ : H2)] else L).length (flat fH (if awayV px py x0 y0 x1 y1 ≤ r * r then L ++ [(⟨hi, hg⟩ : H2)] else L))] w5 ∧ Keep (fun i => i ∈ oB :: (Value.ownBlock (.slice av L.length c)).toList) w w5 ∧ (∀ j, Value.ownBlock (.slice a' (if awayV px py x0 y0 x1 y1 ≤ r * r then L ++ [(⟨hi, hg⟩ : H2)] else L).length c') = some j → Value.ownBlock (.slice av L.length c) = some j ∨ w.heap.size ≤ j)
   replace hO : OwnOk base [⟨oB, 50, [.slice av2 ((L ++ [(⟨hi, hg⟩ : H2)]).length) cv2]⟩] [oS 39 2 (.slice av2 ((L ++ [(⟨hi, hg⟩ : H2)]).length) cv2) ((L ++ [(⟨hi, hg⟩ : H2)]).length) (flat fH (L ++ [(⟨hi, hg⟩ : H2)]))] w5 := hO.sub (.cons_cons _ (.cons _ (.cons _ (.cons _ .slnil)))) (List.Sublist.refl _)
   replace hM : MemOk [⟨oB, 50, [.slice av2 ((L ++ [(⟨hi, hg⟩ : H2)]).length) cv2]⟩] w5 := hM.sub (.cons_cons _ (.cons _ (.cons _ (.cons _ .slnil))))
   have hle := of_decide_eq_true hc1r
   rw [if_pos hle]
   exact ⟨rfl, _, _, hM, hO, hk0, hB2⟩
 · have hc1 := (nU hc1r)
   refine wp_skip ?_
   refine qe (fn := Tryd.f41) hf hM [] (l := []) (ob := []) An ?_
   show (.tuple #[] : Value) = .tuple #[] ∧ ∃ a' c', MemOk [⟨oB, 50, [.slice a' (if awayV px py x0 y0 x1 y1 ≤ r * r then L ++ [(⟨hi, hg⟩ : H2)] else L).length c']⟩] w2 ∧ OwnOk base [⟨oB, 50, [.slice a' (if awayV px py x0 y0 x1 y1 ≤ r * r then L ++ [(⟨hi, hg⟩ : H2)] else L).length c']⟩] [oS 39 2 (.slice a' (if awayV px py x0 y0 x1 y1 ≤ r * r then L ++ [(⟨hi, hg⟩ : H2)] else L).length c') (if awayV px py x0 y0 x1 y1 ≤ r * r then L ++ [(⟨hi, hg⟩ : H2)] else L).length (flat fH (if awayV px py x0 y0 x1 y1 ≤ r * r then L ++ [(⟨hi, hg⟩ : H2)] else L))] w2 ∧ Keep (fun i => i ∈ oB :: (Value.ownBlock (.slice av L.length c)).toList) w w2 ∧ (∀ j, Value.ownBlock (.slice a' (if awayV px py x0 y0 x1 y1 ≤ r * r then L ++ [(⟨hi, hg⟩ : H2)] else L).length c') = some j → Value.ownBlock (.slice av L.length c) = some j ∨ w.heap.size ≤ j)
   replace hO : OwnOk base [⟨oB, 50, [.slice av L.length c]⟩] [oS 39 2 (.slice av L.length c) L.length (flat fH L)] w2 := hO.sub (.cons_cons _ (.cons _ (.cons _ .slnil))) (List.Sublist.refl _)
   replace hM : MemOk [⟨oB, 50, [.slice av L.length c]⟩] w2 := hM.sub (.cons_cons _ (.cons _ (.cons _ .slnil)))
   have hle := of_decide_eq_false hc1r
   rw [if_neg hle]
   exact ⟨rfl, _, _, hM, hO, hk0, (fun j hj => .inl hj)⟩
end Go.Proofs.YthofalkkdpjdlaaDoor
