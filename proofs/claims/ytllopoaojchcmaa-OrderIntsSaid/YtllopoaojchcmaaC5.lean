/- laws of layer 2: OrderInts -/
import Derived.Test.YtllopoaojchcmaaB4
namespace Go.Proofs.Ytllopoaojchcmaa
open Go.Px
set_option linter.unusedVariables false
set_option linter.unusedSimpArgs false

set_option maxRecDepth 10000 in
set_option maxHeartbeats 1600000 in
theorem orderInts_any (av : Option Addr) (l : List Int) (c : Nat) (n : Int) (w : World) (hav : Arr w 1 av l.length c (flat fI l)) :
    Calls Try.prog 8 #[.slice av l.length c, iV n] w (Ret fun v w' => v = .bool true ∧ Keep Nn w w') := by
 refine sxenter (n := 77) (args := [.slice av l.length c, iV n]) Try.func8 rfl rfl rfl fun a hf => ?_
 replace hf : Fr 77 [(0, eS av l.length c), (1, eI n)] a := hf
 have hM : MemOk [] w := MemOk.nil w
 have hk0 : Keep Nn w w := Keep.refl _ _
 have hol := ordS_len (lt := ltI) l
 have hpl := putS_len (lt := ltI) (ordS ltI l) n
 have hrw := ordS_len (lt := ltI) ((ordS ltI l) ++ [n])
 rw [List.length_append, List.length_singleton] at hrw
 have hdw := dropP_len (fun y : Int => y == n) (ordS ltI l)
 have hs0 : sameL (ordS ltI l) (ordS ltI l) = true := sameL_refl _
 have hs1 : sameL (putS ltI (ordS ltI l) n) (ordS ltI ((ordS ltI l) ++ [n])) = true := ints_put l n
 have hs2 : sameL (dropP (fun y : Int => y == n) (ordS ltI l)) (dropP (fun y : Int => y == n) (ordS ltI l)) = true := sameL_refl _
 refine wp_seq_k (fun K1 hK1 => ?_)
 refine wp_region_lit ?_
 refine q0 hf hM [0, 1] [{}] (nw := []) An ?_
 clear hf; intro a hf
 refine wpList_nil ?_
 refine hK1 _ _ ?_
 refine wp_seq_k (fun K2 hK2 => ?_)
 refine wp_seq_k (fun K3 hK3 => ?_)
 refine wp_region_lit ?_
 refine sxcall hf rfl rfl rfl rfl (g := 12) (vs := []) (ob := []) (by as_aux_lemma => kernel_rfl) An enters12 (alive2  w  ) ?_
 clear hf; rintro _ w1 a ⟨rfl, hk⟩ hf
 have hM := hM.keepNn hk
 have hk0 := hk0.trans hk.nn
 clear hk
 refine q0 hf hM [0, 1] [{}] (nw := [(15, eB false)]) An ?_
 clear hf; intro a hf
 refine wpList_nil ?_
 refine hK3 _ _ ?_
 refine sxcond hf (b := false) (by kernel_rfl) (fun h => by cases h) (fun _ => ?_)
 refine wp_skip ?_
 refine hK2 _ _ ?_
 refine wp_seq_k (fun K4 hK4 => ?_)
 refine wp_seq_k (fun K5 hK5 => ?_)
 refine wp_region_lit ?_
 refine q0 hf hM [0, 1] [{}, {}, {}] (nw := [(18, eB (decide (((l.length : Int) : Int) > 200)))]) An ?_
 clear hf; intro a hf
 refine wpList_nil ?_
 refine hK5 _ _ ?_
 refine qc hf (b := (decide (((l.length : Int) : Int) > 200))) (fun hc2r => ?_) (fun hc2r => ?_)
 · have hc2 := (nT hc2r)
   refine wp_seq_k (fun K6 hK6 => ?_)
   refine wp_region_lit ?_
   refine q0 hf hM [] [{}] (nw := [(4, eB true)]) An ?_
   clear hf; intro a hf
   refine wpList_nil ?_
   refine hK6 _ _ ?_
   refine wp_ret ?_
   refine qr (fn := Try.f8) hf hM [] (l := [bV true]) (ob := []) An ?_
   show (bV true : Value) = .bool true ∧ Keep Nn w w1
   refine ⟨congrArg Value.bool ?_, hk0⟩
   first | rfl | (simp; done) | (simp_all; done)
 · have hc2 := (nU hc2r)
   refine wp_skip ?_
   refine hK4 _ _ ?_
   refine wp_seq_k (fun K7 hK7 => ?_)
   refine wp_region_lit ?_
   refine q0 hf hM [0, 1] [{}] (nw := [(19, eS av l.length c)]) An ?_
   clear hf; intro a hf
   refine sxcall hf rfl rfl rfl rfl (g := 26) (vs := [.slice av l.length c]) (ob := []) (by as_aux_lemma => kernel_rfl) An enters26 (nInts av l c w1  (hav.keepNn hk0) (by first | omega | (simp; omega) | (simp; done) | exact Nat.le_trans (byKinds_len _ _) (by omega) | decide)) ?_
   clear hf; rintro _ w2 a ⟨a'1, rfl, hk, hx1⟩ hf
   have hO : OwnOk w.heap.size [] [] w1 := OwnOk.nil hM
   have hO := hO.more hM hk (by have := hk0.size; omega) hx1
   replace hO : OwnOk w.heap.size [] [⟨3, 1, .slice a'1 (l.length + 4) (l.length + 4), (l.length + 4), flat fI (l ++ ([-91, -92, -93, -94] : List Int))⟩] _ := hO
   have hM := hM.keepNn hk
   have hk0 := hk0.trans hk.nn
   clear hk
   refine q0 hf hM [0, 1] [{}] (nw := [(5, eS a'1 l.length (l.length + 4))]) An ?_
   clear hf; intro a hf
   refine wpList_nil ?_
   refine hK7 _ _ ?_
   refine wp_seq_k (fun K8 hK8 => ?_)
   refine wp_region_lit ?_
   refine q0 hf hM [5, 0, 1] [{}] (nw := [(21, eS a'1 l.length (l.length + 4))]) An ?_
   clear hf; intro a hf
   refine sxcall hf rfl rfl rfl rfl (g := 27) (vs := [.slice a'1 l.length (l.length + 4)]) (ob := []) (by as_aux_lemma => kernel_rfl) An enters27 (oInts a'1 l (l.length + 4) w2  (Arr.roomf (l := l) (m := ([-91, -92, -93, -94] : List Int)) (own_arr (hO.own _ (List.Mem.head _))) (fun _ => rfl) (by simp)) (by first | omega | (simp; omega) | (simp; done) | exact Nat.le_trans (byKinds_len _ _) (by omega) | decide)) ?_
   clear hf; rintro _ w3 a ⟨a'2, c'1, rfl, hk, hx2⟩ hf
   have hO := hO.more hM hk (by have := hk0.size; omega) hx2
   replace hO : OwnOk w.heap.size [] [⟨3, 1, .slice a'2 (ordS ltI l).length c'1, (ordS ltI l).length, flat fI (ordS ltI l)⟩, ⟨3, 1, .slice a'1 (l.length + 4) (l.length + 4), (l.length + 4), flat fI (l ++ ([-91, -92, -93, -94] : List Int))⟩] _ := hO
   have hM := hM.keepNn hk
   have hk0 := hk0.trans hk.nn
   clear hk
   refine q0 hf hM [5, 0, 1] [{}] (nw := [(6, eS a'2 (ordS ltI l).length c'1)]) An ?_
   clear hf; intro a hf
   refine wpList_nil ?_
   refine hK8 _ _ ?_
   refine wp_seq_k (fun K9 hK9 => ?_)
   refine wp_region_lit ?_
   refine q0 hf hM [6, 5, 0, 1] [{}] (nw := [(23, eS av l.length c)]) An ?_
   clear hf; intro a hf
   refine sxcall hf rfl rfl rfl rfl (g := 28) (vs := [.slice av l.length c]) (ob := []) (by as_aux_lemma => kernel_rfl) An enters28 (rInts av l c w3  (hav.keepNn hk0) (by first | omega | (simp; omega) | (simp; done) | exact Nat.le_trans (byKinds_len _ _) (by omega) | decide)) ?_
   clear hf; rintro _ w4 a ⟨a'3, c'2, rfl, hk, hx3⟩ hf
   have hO := hO.more hM hk (by have := hk0.size; omega) hx3
   replace hO : OwnOk w.heap.size [] [⟨3, 1, .slice a'3 (ordS ltI l).length c'2, (ordS ltI l).length, flat fI (ordS ltI l)⟩, ⟨3, 1, .slice a'2 (ordS ltI l).length c'1, (ordS ltI l).length, flat fI (ordS ltI l)⟩, ⟨3, 1, .slice a'1 (l.length + 4) (l.length + 4), (l.length + 4), flat fI (l ++ ([-91, -92, -93, -94] : List Int))⟩] _ := hO
   have hM := hM.keepNn hk
   have hk0 := hk0.trans hk.nn
   clear hk
   refine q0 hf hM [6, 5, 0, 1] [{}] (nw := [(7, eS a'3 (ordS ltI l).length c'2)]) An ?_
   clear hf; intro a hf
   refine wpList_nil ?_
   refine hK9 _ _ ?_
   refine wp_seq_k (fun K10 hK10 => ?_)
   refine wp_seq_k (fun K11 hK11 => ?_)
   refine wp_region_lit ?_
   refine q0 hf hM [7, 5, 0, 1] [{}, {}] (nw := [(26, eS a'3 (ordS ltI l).length c'2), (25, eS a'2 (ordS ltI l).length c'1)]) An ?_
   clear hf; intro a hf
   refine sxcall hf rfl rfl rfl rfl (g := 29) (vs := [.slice a'2 (ordS ltI l).length c'1, .slice a'3 (ordS ltI l).length c'2]) (ob := []) (by as_aux_lemma => kernel_rfl) An enters29 (same_ints a'2 (ordS ltI l) c'1 a'3 (ordS ltI l) c'2 w4  (own_arr (hO.own _ (List.Mem.tail _ (List.Mem.head _)))) (by first | omega | (simp; omega) | (simp; done) | exact Nat.le_trans (byKinds_len _ _) (by omega) | decide) (own_arr (hO.own _ (List.Mem.head _))) (by first | omega | (simp; omega) | (simp; done) | exact Nat.le_trans (byKinds_len _ _) (by omega) | decide)) ?_
   clear hf; rintro _ w5 a ⟨rfl, hk⟩ hf
   have hO := hO.keepNn hk
   have hM := hM.keepNn hk
   have hk0 := hk0.trans hk.nn
   clear hk
   refine q0 hf hM [7, 5, 0, 1] [{}, {}] (nw := [(29, eB (!(sameL (ordS ltI l) (ordS ltI l))))]) An ?_
   clear hf; intro a hf
   have hf := hf.setb 29 ((congrArg Bool.not hs0).trans rfl : (!(sameL (ordS ltI l) (ordS ltI l)) : Bool) = false)
   refine q0 hf hM [29, 7, 1] [{}, {}] (nw := [(31, eS av l.length c), (30, eS a'1 l.length (l.length + 4))]) (ob := [false = false, false = false]) (Ac rfl (Ao rfl)) ?_
   clear hf; intro a hf
   refine sxcallg hf rfl rfl rfl rfl rfl (g := 30) (vs := [.slice a'1 l.length (l.length + 4), .slice av l.length c]) (ob := []) (by as_aux_lemma => kernel_rfl) An enters30 (keptInts a'1 l c av c w5  (own_arr (hO.own _ (List.Mem.tail _ (List.Mem.tail _ (List.Mem.head _))))) (hav.keepNn hk0) (by first | omega | (simp; omega) | (simp; done) | exact Nat.le_trans (byKinds_len _ _) (by omega) | decide)) ?_
   clear hf; rintro _ w6 a ⟨rfl, hk⟩ hf
   have hO := hO.keepNn hk
   have hM := hM.keepNn hk
   have hk0 := hk0.trans hk.nn
   clear hk
   refine q0 hf hM [7, 1] [{}, {}] (nw := [(34, eB false)]) (ob := [false = false]) (Ao rfl) ?_
   clear hf; intro a hf
   refine wpList_nil ?_
   refine hK11 _ _ ?_
   refine sxcond hf (b := false) (by kernel_rfl) (fun h => by cases h) (fun _ => ?_)
   refine wp_skip ?_
   refine hK10 _ _ ?_
   refine wp_seq_k (fun K12 hK12 => ?_)
   refine wp_region_lit ?_
   refine sxbslice hf hM (t := 43) (e := 3) (len := 0) (cs := []) (ob := []) rfl rfl rfl rfl (by as_aux_lemma => kernel_rfl) An (by as_aux_lemma => kernel_rfl) ?_
   clear hf hM; intro a w7 B15 hf hM hB hk
   replace hM : MemOk [⟨B15, 3, []⟩] w7 := hM
   have hbB15 : w.heap.size ≤ B15 := by have := hk0.size; omega
   have hk0 := hk0.trans hk.nn
   have hO := hO.step hM hk.nn (by intro i h; simp only [Mem.names, List.map_cons, List.map_nil, List.mem_cons, List.not_mem_nil, or_false, List.map_append, List.cons_append, List.nil_append] at h ⊢; omega)
   clear hk hB
   refine q0 hf hM [7, 1] [{}] (nw := [(8, eS (some ⟨B15, 0, none⟩) 0 0)]) An ?_
   clear hf; intro a hf
   refine wpList_nil ?_
   refine hK12 _ _ ?_
   replace hO := OwnOk.took (M1 := []) (M2 := []) (sz := 1) hO hM (n := 0) (c := 0) (by have := hk0.size; omega) (by decide) (by decide) rfl
   replace hM : MemOk [] w7 := hM.sub (.cons _ .slnil)
   replace hO : OwnOk w.heap.size [] [⟨3, 1, .slice (some ⟨B15, 0, none⟩) 0 0, 0, flat fI ([] : List Int)⟩, ⟨3, 1, .slice a'3 (ordS ltI l).length c'2, (ordS ltI l).length, flat fI (ordS ltI l)⟩, ⟨3, 1, .slice a'2 (ordS ltI l).length c'1, (ordS ltI l).length, flat fI (ordS ltI l)⟩, ⟨3, 1, .slice a'1 (l.length + 4) (l.length + 4), (l.length + 4), flat fI (l ++ ([-91, -92, -93, -94] : List Int))⟩] w7 := hO
   obtain ⟨K13, hK13, oK13⟩ := kcls (fun a w1 => ∃ (a8 : Option Addr) (c8 : Nat), Fr 77 [(1, eI n), (7, eS a'3 (ordS ltI l).length c'2), (8, eS a8 ((dropP (fun y : Int => y == n) (ordS ltI l)).length) c8)] a ∧ MemOk [] w1 ∧ Keep Nn w w1 ∧ OwnOk w.heap.size [] [⟨3, 1, .slice a8 ((dropP (fun y : Int => y == n) (ordS ltI l)).length) c8, (dropP (fun y : Int => y == n) (ordS ltI l)).length, flat fI (dropP (fun y : Int => y == n) (ordS ltI l))⟩, ⟨3, 1, .slice a'3 (ordS ltI l).length c'2, (ordS ltI l).length, flat fI (ordS ltI l)⟩, ⟨3, 1, .slice a'2 (ordS ltI l).length c'1, (ordS ltI l).length, flat fI (ordS ltI l)⟩, ⟨3, 1, .slice a'1 (l.length + 4) (l.length + 4), (l.length + 4), flat fI (l ++ ([-91, -92, -93, -94] : List Int))⟩] w1)
   refine sxjoin K13 ?_ ?_
   ·
     refine wp_seq_k (fun K14 hK14 => ?_)
     refine wp_region_lit ?_
     refine q0 hf hM [8, 7, 1] [{}, {}, {}] (nw := [(38, eI 0), (37, eI ((ordS ltI l).length : Int)), (36, eS a'3 (ordS ltI l).length c'2)]) An ?_
     clear hf; intro a hf
     refine wpList_nil ?_
     refine hK14 _ _ ?_
     refine wp_block ?_
     have hf := (hf.prune [1, 7, 8, 36, 37, 38]).to (env' := [(1, eI n), (7, eS a'3 (ordS ltI l).length c'2), (8, eS (some ⟨B15, 0, none⟩) 0 0), (36, eS a'3 (ordS ltI l).length c'2), (37, eI ((ordS ltI l).length : Int)), (38, eI 0)]) (by kernel_rfl)
     replace hO : OwnOk w.heap.size [] [⟨3, 1, .slice (some ⟨B15, 0, none⟩) ((dropP (fun y : Int => y == n) ((ordS ltI l).take (0 : Int).toNat)).length) 0, (dropP (fun y : Int => y == n) ((ordS ltI l).take (0 : Int).toNat)).length, flat fI (dropP (fun y : Int => y == n) ((ordS ltI l).take (0 : Int).toNat))⟩, ⟨3, 1, .slice a'3 (ordS ltI l).length c'2, (ordS ltI l).length, flat fI (ordS ltI l)⟩, ⟨3, 1, .slice a'2 (ordS ltI l).length c'1, (ordS ltI l).length, flat fI (ordS ltI l)⟩, ⟨3, 1, .slice a'1 (l.length + 4) (l.length + 4), (l.length + 4), flat fI (l ++ ([-91, -92, -93, -94] : List Int))⟩] w7 := by
      first | exact hO | (have e : ([⟨3, 1, .slice (some ⟨B15, 0, none⟩) 0 0, 0, flat fI ([] : List Int)⟩, ⟨3, 1, .slice a'3 (ordS ltI l).length c'2, (ordS ltI l).length, flat fI (ordS ltI l)⟩, ⟨3, 1, .slice a'2 (ordS ltI l).length c'1, (ordS ltI l).length, flat fI (ordS ltI l)⟩, ⟨3, 1, .slice a'1 (l.length + 4) (l.length + 4), (l.length + 4), flat fI (l ++ ([-91, -92, -93, -94] : List Int))⟩] : List Own) = [⟨3, 1, .slice (some ⟨B15, 0, none⟩) ((dropP (fun y : Int => y == n) ((ordS ltI l).take (0 : Int).toNat)).length) 0, (dropP (fun y : Int => y == n) ((ordS ltI l).take (0 : Int).toNat)).length, flat fI (dropP (fun y : Int => y == n) ((ordS ltI l).take (0 : Int).toNat))⟩, ⟨3, 1, .slice a'3 (ordS ltI l).length c'2, (ordS ltI l).length, flat fI (ordS ltI l)⟩, ⟨3, 1, .slice a'2 (ordS ltI l).length c'1, (ordS ltI l).length, flat fI (ordS ltI l)⟩, ⟨3, 1, .slice a'1 (l.length + 4) (l.length + 4), (l.length + 4), flat fI (l ++ ([-91, -92, -93, -94] : List Int))⟩] := by rfl) <;> (rw [← e]; exact hO)
     refine sxloop (fun zm a w1 => ∃ (i : Int) (a8 : Option Addr) (c8 : Nat), zm = (((ordS ltI l).length : Int) - i).toNat ∧ Fr 77 [(1, eI n), (7, eS a'3 (ordS ltI l).length c'2), (8, eS a8 ((dropP (fun y : Int => y == n) ((ordS ltI l).take i.toNat)).length) c8), (36, eS a'3 (ordS ltI l).length c'2), (37, eI ((ordS ltI l).length : Int)), (38, eI i)] a ∧ MemOk [] w1 ∧ Keep Nn w w1 ∧ OwnOk w.heap.size [] [⟨3, 1, .slice a8 ((dropP (fun y : Int => y == n) ((ordS ltI l).take i.toNat)).length) c8, (dropP (fun y : Int => y == n) ((ordS ltI l).take i.toNat)).length, flat fI (dropP (fun y : Int => y == n) ((ordS ltI l).take i.toNat))⟩, ⟨3, 1, .slice a'3 (ordS ltI l).length c'2, (ordS ltI l).length, flat fI (ordS ltI l)⟩, ⟨3, 1, .slice a'2 (ordS ltI l).length c'1, (ordS ltI l).length, flat fI (ordS ltI l)⟩, ⟨3, 1, .slice a'1 (l.length + 4) (l.length + 4), (l.length + 4), flat fI (l ++ ([-91, -92, -93, -94] : List Int))⟩] w1 ∧ (0 ≤ i ∧ i ≤ ((ordS ltI l).length : Int))) _ ⟨0, some ⟨B15, 0, none⟩, 0, rfl, hf.conv (Ac rfl (Ac rfl (Ac rfl (Ac rfl (Ac rfl (Ao rfl)))))), hM, hk0, hO, (by omega)⟩ ?_
     clear hf hM hk0 hO
     rintro _ a w8 ⟨i, a8, c8, rfl, hf, hM, hk0, hO, hi⟩ L1 hL1
     have hdl := dropP_len (fun y : Int => y == n) ((ordS ltI l).take i.toNat)
     rw [List.length_take] at hdl
     refine wp_seq_k (fun K15 hK15 => ?_)
     refine wp_region_lit ?_
     refine q0 hf hM [1, 7, 8, 36, 37, 38] [{}] (nw := [(39, eB (decide ((i : Int) < ((ordS ltI l).length : Int))))]) An ?_
     clear hf; intro a hf
     refine wpList_nil ?_
     refine hK15 _ _ ?_
     refine wp_seq_k (fun K16 hK16 => ?_)
     refine qc hf (b := (decide ((i : Int) < ((ordS ltI l).length : Int)))) (fun hc4r => ?_) (fun hc4r => ?_)
     · have hc4 := (nT hc4r)
       refine wp_skip ?_
       refine hK16 _ _ ?_
       refine wp_seq_k (fun K17 hK17 => ?_)
       refine wp_block ?_
       refine wp_seq_k (fun K18 hK18 => ?_)
       refine wp_region_lit ?_
       refine q0 hf hM [1, 7, 8, 36, 37, 38] [{ sp := true }, { os := [.ex (iV ((ordS ltI l).getD i.toNat 0))] }, {}] (nw := [(10, eI ((ordS ltI l).getD i.toNat 0))]) (ob := [(0 : Int) ≤ i ∧ i < ((ordS ltI l).length : Int), (a'3 : Option Addr).isSome = true, w8.cell? ((sa a'3 : Addr).add (i.toNat * 1)) = some (iV ((ordS ltI l).getD i.toNat 0))]) (Ac (by first | omega | (simp; done)) (Ac ((own_arr (hO.own _ (List.Mem.tail _ (List.Mem.head _)))).some_ (by first | omega | (simp; done))) (Ao ((own_arr (hO.own _ (List.Mem.tail _ (List.Mem.head _)))).get0 (fun _ => rfl) (by first | omega | (simp; done)) rfl)))) ?_
       clear hf; intro a hf
       refine wpList_nil ?_
       refine hK18 _ _ ?_
       refine wp_seq_k (fun K19 hK19 => ?_)
       refine wp_region_lit ?_
       refine q0 hf hM [10, 1, 7, 8, 36, 37, 38] [{}, {}, {}] (nw := [(44, eB ((((ordS ltI l).getD i.toNat 0) : Int) != n))]) An ?_
       clear hf; intro a hf
       refine wpList_nil ?_
       refine hK19 _ _ ?_
       refine qc hf (b := ((((ordS ltI l).getD i.toNat 0) : Int) != n)) (fun hc5r => ?_) (fun hc5r => ?_)
       · have hc5 := (nN hc5r)
         refine wp_region_lit ?_
         refine q0 hf hM [1, 7, 8, 36, 37, 38] [{}, {}] (nw := [(46, eI ((ordS ltI l).getD i.toNat 0)), (45, eS a8 ((dropP (fun y : Int => y == n) ((ordS ltI l).take i.toNat)).length) c8)]) An ?_
         clear hf; intro a hf
         refine sxbslice hf hM (t := 43) (e := 3) (len := 1) (cs := [iV ((ordS ltI l).getD i.toNat 0)]) (ob := []) rfl rfl rfl rfl (by as_aux_lemma => kernel_rfl) An (by as_aux_lemma => kernel_rfl) ?_
         clear hf hM; intro a w9 B22 hf hM hB hk
         replace hM : MemOk [⟨B22, 3, [iV ((ordS ltI l).getD i.toNat 0)]⟩] w9 := hM
         have hbB22 : w.heap.size ≤ B22 := by have := hk0.size; omega
         have hk0 := hk0.trans hk.nn
         have hO := hO.step hM hk.nn (by intro i h; simp only [Mem.names, List.map_cons, List.map_nil, List.mem_cons, List.not_mem_nil, or_false, List.map_append, List.cons_append, List.nil_append] at h ⊢; omega)
         clear hk hB
         replace hO : OwnOk w.heap.size [⟨B22, 3, [iV ((ordS ltI l).getD i.toNat 0)]⟩] [⟨3, 1, .slice a8 ((dropP (fun y : Int => y == n) ((ordS ltI l).take i.toNat)).length) c8, (dropP (fun y : Int => y == n) ((ordS ltI l).take i.toNat)).length, flat fI (dropP (fun y : Int => y == n) ((ordS ltI l).take i.toNat))⟩, ⟨3, 1, .slice a'3 (ordS ltI l).length c'2, (ordS ltI l).length, flat fI (ordS ltI l)⟩, ⟨3, 1, .slice a'2 (ordS ltI l).length c'1, (ordS ltI l).length, flat fI (ordS ltI l)⟩, ⟨3, 1, .slice a'1 (l.length + 4) (l.length + 4), (l.length + 4), flat fI (l ++ ([-91, -92, -93, -94] : List Int))⟩] w9 := OwnOk.front (l1 := []) (l2 := [⟨3, 1, .slice a'3 (ordS ltI l).length c'2, (ordS ltI l).length, flat fI (ordS ltI l)⟩, ⟨3, 1, .slice a'2 (ordS ltI l).length c'1, (ordS ltI l).length, flat fI (ordS ltI l)⟩, ⟨3, 1, .slice a'1 (l.length + 4) (l.length + 4), (l.length + 4), flat fI (l ++ ([-91, -92, -93, -94] : List Int))⟩]) hO
         refine sxappend hf hM (e := 3) (sz := 1) (by_ := 8) (k := (dropP (fun y : Int => y == n) ((ordS ltI l).take i.toNat)).length) (v := .slice a8 ((dropP (fun y : Int => y == n) ((ordS ltI l).take i.toNat)).length) c8) (xs := flat fI (dropP (fun y : Int => y == n) ((ordS ltI l).take i.toNat))) hO rfl rfl rfl rfl (av := some ⟨B22, 0, none⟩) (m := 1) (c := 1) rfl rfl Try.underlying43 (by kernel_rfl) rfl (news := flat fI ([((ordS ltI l).getD i.toNat 0)] : List Int)) (Arr.of_memT (sz := 1) (f := fI) (L := ([((ordS ltI l).getD i.toNat 0)] : List Int)) (l := ([((ordS ltI l).getD i.toNat 0)] : List Int)) hM (List.Mem.head _) (fun _ => rfl) rfl rfl) (flat_one1 fI_one) (by simp only [maxLen]; constructor <;> (first | omega | (simp; omega))) (by have := hk0.size; omega) ?_
         clear hf hM hO; intro a w10 av1 cv1 hf hM hO hk
         have en : ((dropP (fun y : Int => y == n) ((ordS ltI l).take i.toNat)).length + 1 : Nat) = ((dropP (fun y : Int => y == n) ((ordS ltI l).take i.toNat)) ++ ([((ordS ltI l).getD i.toNat 0)] : List Int)).length := (by first | (simp; done) | (simp; omega))
         have ec : flat fI (dropP (fun y : Int => y == n) ((ordS ltI l).take i.toNat)) ++ flat fI ([((ordS ltI l).getD i.toNat 0)] : List Int) = flat fI ((dropP (fun y : Int => y == n) ((ordS ltI l).take i.toNat)) ++ ([((ordS ltI l).getD i.toNat 0)] : List Int)) := (by first | rfl | exact (flat_app _ _ _).symm | simp [flat_app, flat_nil])
         rw [en] at hf hO; rw [ec] at hO; clear en ec
         replace hO : OwnOk w.heap.size [⟨B22, 3, [iV ((ordS ltI l).getD i.toNat 0)]⟩] [⟨3, 1, .slice av1 (((dropP (fun y : Int => y == n) ((ordS ltI l).take i.toNat)) ++ ([((ordS ltI l).getD i.toNat 0)] : List Int)).length) cv1, ((dropP (fun y : Int => y == n) ((ordS ltI l).take i.toNat)) ++ ([((ordS ltI l).getD i.toNat 0)] : List Int)).length, flat fI ((dropP (fun y : Int => y == n) ((ordS ltI l).take i.toNat)) ++ ([((ordS ltI l).getD i.toNat 0)] : List Int))⟩, ⟨3, 1, .slice a'3 (ordS ltI l).length c'2, (ordS ltI l).length, flat fI (ordS ltI l)⟩, ⟨3, 1, .slice a'2 (ordS ltI l).length c'1, (ordS ltI l).length, flat fI (ordS ltI l)⟩, ⟨3, 1, .slice a'1 (l.length + 4) (l.length + 4), (l.length + 4), flat fI (l ++ ([-91, -92, -93, -94] : List Int))⟩] w10 := hO
         have hk0 := hk0.then hk (by intro i hi h; have := h.1; omega)
         clear hk
         refine q0 hf hM [1, 7, 36, 37, 38] [{}] (nw := [(8, eS av1 (((dropP (fun y : Int => y == n) ((ordS ltI l).take i.toNat)) ++ ([((ordS ltI l).getD i.toNat 0)] : List Int)).length) cv1)]) An ?_
         clear hf; intro a hf
         refine wpList_nil ?_
         refine hK17 _ _ ?_
         refine wp_region_lit ?_
         refine q0 hf hM [8, 1, 7, 36, 37] [{ hint := some (iV (i + 1)) }, {}] (nw := [(38, eI (i + 1))]) (ob := [(iV (IntKind.i64.wrap (i + 1)) : Value) = (iV (i + 1) : Value)]) (Ao (wr (by omega))) ?_
         clear hf; intro a hf
         refine wpList_nil ?_
         have hnx : dropP (fun y : Int => y == n) ((ordS ltI l).take (i + 1).toNat) = ((dropP (fun y : Int => y == n) ((ordS ltI l).take i.toNat)) ++ ([((ordS ltI l).getD i.toNat 0)] : List Int)) := dropP_in 0 (by omega) (beq_eq_false_iff_ne.2 (by omega))
         have hf := (hf.prune [1, 7, 8, 36, 37, 38]).to (env' := [(1, eI n), (7, eS a'3 (ordS ltI l).length c'2), (8, eS av1 (((dropP (fun y : Int => y == n) ((ordS ltI l).take i.toNat)) ++ ([((ordS ltI l).getD i.toNat 0)] : List Int)).length) cv1), (36, eS a'3 (ordS ltI l).length c'2), (37, eI ((ordS ltI l).length : Int)), (38, eI (i + 1))]) (by kernel_rfl)
         replace hO : OwnOk w.heap.size [] [⟨3, 1, .slice av1 (((dropP (fun y : Int => y == n) ((ordS ltI l).take i.toNat)) ++ ([((ordS ltI l).getD i.toNat 0)] : List Int)).length) cv1, ((dropP (fun y : Int => y == n) ((ordS ltI l).take i.toNat)) ++ ([((ordS ltI l).getD i.toNat 0)] : List Int)).length, flat fI ((dropP (fun y : Int => y == n) ((ordS ltI l).take i.toNat)) ++ ([((ordS ltI l).getD i.toNat 0)] : List Int))⟩, ⟨3, 1, .slice a'3 (ordS ltI l).length c'2, (ordS ltI l).length, flat fI (ordS ltI l)⟩, ⟨3, 1, .slice a'2 (ordS ltI l).length c'1, (ordS ltI l).length, flat fI (ordS ltI l)⟩, ⟨3, 1, .slice a'1 (l.length + 4) (l.length + 4), (l.length + 4), flat fI (l ++ ([-91, -92, -93, -94] : List Int))⟩] w10 := hO.sub (.cons _ .slnil) (List.Sublist.refl _)
         replace hM : MemOk [] w10 := hM.sub (.cons _ .slnil)
         replace hO : OwnOk w.heap.size [] [⟨3, 1, .slice av1 ((dropP (fun y : Int => y == n) ((ordS ltI l).take (i + 1).toNat)).length) cv1, (dropP (fun y : Int => y == n) ((ordS ltI l).take (i + 1).toNat)).length, flat fI (dropP (fun y : Int => y == n) ((ordS ltI l).take (i + 1).toNat))⟩, ⟨3, 1, .slice a'3 (ordS ltI l).length c'2, (ordS ltI l).length, flat fI (ordS ltI l)⟩, ⟨3, 1, .slice a'2 (ordS ltI l).length c'1, (ordS ltI l).length, flat fI (ordS ltI l)⟩, ⟨3, 1, .slice a'1 (l.length + 4) (l.length + 4), (l.length + 4), flat fI (l ++ ([-91, -92, -93, -94] : List Int))⟩] w10 := by
          first | exact hO | (have e : ([⟨3, 1, .slice av1 (((dropP (fun y : Int => y == n) ((ordS ltI l).take i.toNat)) ++ ([((ordS ltI l).getD i.toNat 0)] : List Int)).length) cv1, ((dropP (fun y : Int => y == n) ((ordS ltI l).take i.toNat)) ++ ([((ordS ltI l).getD i.toNat 0)] : List Int)).length, flat fI ((dropP (fun y : Int => y == n) ((ordS ltI l).take i.toNat)) ++ ([((ordS ltI l).getD i.toNat 0)] : List Int))⟩, ⟨3, 1, .slice a'3 (ordS ltI l).length c'2, (ordS ltI l).length, flat fI (ordS ltI l)⟩, ⟨3, 1, .slice a'2 (ordS ltI l).length c'1, (ordS ltI l).length, flat fI (ordS ltI l)⟩, ⟨3, 1, .slice a'1 (l.length + 4) (l.length + 4), (l.length + 4), flat fI (l ++ ([-91, -92, -93, -94] : List Int))⟩] : List Own) = [⟨3, 1, .slice av1 ((dropP (fun y : Int => y == n) ((ordS ltI l).take (i + 1).toNat)).length) cv1, (dropP (fun y : Int => y == n) ((ordS ltI l).take (i + 1).toNat)).length, flat fI (dropP (fun y : Int => y == n) ((ordS ltI l).take (i + 1).toNat))⟩, ⟨3, 1, .slice a'3 (ordS ltI l).length c'2, (ordS ltI l).length, flat fI (ordS ltI l)⟩, ⟨3, 1, .slice a'2 (ordS ltI l).length c'1, (ordS ltI l).length, flat fI (ordS ltI l)⟩, ⟨3, 1, .slice a'1 (l.length + 4) (l.length + 4), (l.length + 4), flat fI (l ++ ([-91, -92, -93, -94] : List Int))⟩] := by (rw [hnx]; try rfl)) <;> (rw [← e]; exact hO)
         refine hL1 _ _ _ (by omega) ⟨i + 1, av1, cv1, rfl, hf.conv (Ac rfl (Ac rfl (Ac (by rw [hnx]; rfl) (Ac rfl (Ac rfl (Ao rfl)))))), hM, hk0, hO, (by omega)⟩
       · have hc5 := (nM hc5r)
         refine wp_skip ?_
         refine hK17 _ _ ?_
         refine wp_region_lit ?_
         refine q0 hf hM [1, 7, 8, 36, 37] [{ hint := some (iV (i + 1)) }, {}] (nw := [(38, eI (i + 1))]) (ob := [(iV (IntKind.i64.wrap (i + 1)) : Value) = (iV (i + 1) : Value)]) (Ao (wr (by omega))) ?_
         clear hf; intro a hf
         refine wpList_nil ?_
         have hnx : dropP (fun y : Int => y == n) ((ordS ltI l).take (i + 1).toNat) = (dropP (fun y : Int => y == n) ((ordS ltI l).take i.toNat)) := dropP_out 0 (by omega) (beq_iff_eq.2 (by omega))
         have hf := (hf.prune [1, 7, 8, 36, 37, 38]).to (env' := [(1, eI n), (7, eS a'3 (ordS ltI l).length c'2), (8, eS a8 ((dropP (fun y : Int => y == n) ((ordS ltI l).take i.toNat)).length) c8), (36, eS a'3 (ordS ltI l).length c'2), (37, eI ((ordS ltI l).length : Int)), (38, eI (i + 1))]) (by kernel_rfl)
         replace hO : OwnOk w.heap.size [] [⟨3, 1, .slice a8 ((dropP (fun y : Int => y == n) ((ordS ltI l).take (i + 1).toNat)).length) c8, (dropP (fun y : Int => y == n) ((ordS ltI l).take (i + 1).toNat)).length, flat fI (dropP (fun y : Int => y == n) ((ordS ltI l).take (i + 1).toNat))⟩, ⟨3, 1, .slice a'3 (ordS ltI l).length c'2, (ordS ltI l).length, flat fI (ordS ltI l)⟩, ⟨3, 1, .slice a'2 (ordS ltI l).length c'1, (ordS ltI l).length, flat fI (ordS ltI l)⟩, ⟨3, 1, .slice a'1 (l.length + 4) (l.length + 4), (l.length + 4), flat fI (l ++ ([-91, -92, -93, -94] : List Int))⟩] w8 := by
          first | exact hO | (have e : ([⟨3, 1, .slice a8 ((dropP (fun y : Int => y == n) ((ordS ltI l).take i.toNat)).length) c8, (dropP (fun y : Int => y == n) ((ordS ltI l).take i.toNat)).length, flat fI (dropP (fun y : Int => y == n) ((ordS ltI l).take i.toNat))⟩, ⟨3, 1, .slice a'3 (ordS ltI l).length c'2, (ordS ltI l).length, flat fI (ordS ltI l)⟩, ⟨3, 1, .slice a'2 (ordS ltI l).length c'1, (ordS ltI l).length, flat fI (ordS ltI l)⟩, ⟨3, 1, .slice a'1 (l.length + 4) (l.length + 4), (l.length + 4), flat fI (l ++ ([-91, -92, -93, -94] : List Int))⟩] : List Own) = [⟨3, 1, .slice a8 ((dropP (fun y : Int => y == n) ((ordS ltI l).take (i + 1).toNat)).length) c8, (dropP (fun y : Int => y == n) ((ordS ltI l).take (i + 1).toNat)).length, flat fI (dropP (fun y : Int => y == n) ((ordS ltI l).take (i + 1).toNat))⟩, ⟨3, 1, .slice a'3 (ordS ltI l).length c'2, (ordS ltI l).length, flat fI (ordS ltI l)⟩, ⟨3, 1, .slice a'2 (ordS ltI l).length c'1, (ordS ltI l).length, flat fI (ordS ltI l)⟩, ⟨3, 1, .slice a'1 (l.length + 4) (l.length + 4), (l.length + 4), flat fI (l ++ ([-91, -92, -93, -94] : List Int))⟩] := by (rw [hnx]; try rfl)) <;> (rw [← e]; exact hO)
         refine hL1 _ _ _ (by omega) ⟨i + 1, a8, c8, rfl, hf.conv (Ac rfl (Ac rfl (Ac (by rw [hnx]; rfl) (Ac rfl (Ac rfl (Ao rfl)))))), hM, hk0, hO, (by omega)⟩
     · have hc4 := (nU hc4r)
       refine wp_exit ?_
       have e : (ordS ltI l).take i.toNat = (ordS ltI l) := List.take_of_length_le (by omega)
       have hf := (hf.prune [1, 7, 8]).to (env' := [(1, eI n), (7, eS a'3 (ordS ltI l).length c'2), (8, eS a8 ((dropP (fun y : Int => y == n) ((ordS ltI l).take i.toNat)).length) c8)]) (by kernel_rfl)
       replace hO : OwnOk w.heap.size [] [⟨3, 1, .slice a8 ((dropP (fun y : Int => y == n) (ordS ltI l)).length) c8, (dropP (fun y : Int => y == n) (ordS ltI l)).length, flat fI (dropP (fun y : Int => y == n) (ordS ltI l))⟩, ⟨3, 1, .slice a'3 (ordS ltI l).length c'2, (ordS ltI l).length, flat fI (ordS ltI l)⟩, ⟨3, 1, .slice a'2 (ordS ltI l).length c'1, (ordS ltI l).length, flat fI (ordS ltI l)⟩, ⟨3, 1, .slice a'1 (l.length + 4) (l.length + 4), (l.length + 4), flat fI (l ++ ([-91, -92, -93, -94] : List Int))⟩] w8 := by
        first | exact hO | (have e : ([⟨3, 1, .slice a8 ((dropP (fun y : Int => y == n) ((ordS ltI l).take i.toNat)).length) c8, (dropP (fun y : Int => y == n) ((ordS ltI l).take i.toNat)).length, flat fI (dropP (fun y : Int => y == n) ((ordS ltI l).take i.toNat))⟩, ⟨3, 1, .slice a'3 (ordS ltI l).length c'2, (ordS ltI l).length, flat fI (ordS ltI l)⟩, ⟨3, 1, .slice a'2 (ordS ltI l).length c'1, (ordS ltI l).length, flat fI (ordS ltI l)⟩, ⟨3, 1, .slice a'1 (l.length + 4) (l.length + 4), (l.length + 4), flat fI (l ++ ([-91, -92, -93, -94] : List Int))⟩] : List Own) = [⟨3, 1, .slice a8 ((dropP (fun y : Int => y == n) (ordS ltI l)).length) c8, (dropP (fun y : Int => y == n) (ordS ltI l)).length, flat fI (dropP (fun y : Int => y == n) (ordS ltI l))⟩, ⟨3, 1, .slice a'3 (ordS ltI l).length c'2, (ordS ltI l).length, flat fI (ordS ltI l)⟩, ⟨3, 1, .slice a'2 (ordS ltI l).length c'1, (ordS ltI l).length, flat fI (ordS ltI l)⟩, ⟨3, 1, .slice a'1 (l.length + 4) (l.length + 4), (l.length + 4), flat fI (l ++ ([-91, -92, -93, -94] : List Int))⟩] := by (rw [e])) <;> (rw [← e]; exact hO)
       exact hK13 _ _ ⟨a8, c8, hf.conv (Ac rfl (Ac rfl (Ao (by rw [e]; rfl)))), hM, hk0, hO⟩
   clear hf hM hk0 hO
   intro a w11 hK13j; obtain ⟨a8, c8, hf, hM, hk0, hO⟩ := oK13 _ _ hK13j; clear hK13 oK13
   refine wp_seq_k (fun K20 hK20 => ?_)
   refine wp_region_lit ?_
   refine q0 hf hM [1, 7, 8] [{}] (nw := [(50, eS a'3 (ordS ltI l).length c'2)]) An ?_
   clear hf; intro a hf
   refine sxcall hf rfl rfl rfl rfl (g := 26) (vs := [.slice a'3 (ordS ltI l).length c'2]) (ob := []) (by as_aux_lemma => kernel_rfl) An enters26 (nInts a'3 (ordS ltI l) c'2 w11  (own_arr (hO.own _ (List.Mem.tail _ (List.Mem.head _)))) (by first | omega | (simp; omega) | (simp; done) | exact Nat.le_trans (byKinds_len _ _) (by omega) | decide)) ?_
   clear hf; rintro _ w12 a ⟨a'4, rfl, hk, hx4⟩ hf
   have hO := hO.more hM hk (by have := hk0.size; omega) hx4
   replace hO : OwnOk w.heap.size [] [⟨3, 1, .slice a'4 ((ordS ltI l).length + 4) ((ordS ltI l).length + 4), ((ordS ltI l).length + 4), flat fI ((ordS ltI l) ++ ([-91, -92, -93, -94] : List Int))⟩, ⟨3, 1, .slice a8 ((dropP (fun y : Int => y == n) (ordS ltI l)).length) c8, (dropP (fun y : Int => y == n) (ordS ltI l)).length, flat fI (dropP (fun y : Int => y == n) (ordS ltI l))⟩, ⟨3, 1, .slice a'3 (ordS ltI l).length c'2, (ordS ltI l).length, flat fI (ordS ltI l)⟩, ⟨3, 1, .slice a'2 (ordS ltI l).length c'1, (ordS ltI l).length, flat fI (ordS ltI l)⟩, ⟨3, 1, .slice a'1 (l.length + 4) (l.length + 4), (l.length + 4), flat fI (l ++ ([-91, -92, -93, -94] : List Int))⟩] _ := hO
   have hM := hM.keepNn hk
   have hk0 := hk0.trans hk.nn
   clear hk
   refine q0 hf hM [1, 7, 8] [{}] (nw := [(11, eS a'4 (ordS ltI l).length ((ordS ltI l).length + 4))]) An ?_
   clear hf; intro a hf
   refine wpList_nil ?_
   refine hK20 _ _ ?_
   refine wp_seq_k (fun K21 hK21 => ?_)
   refine wp_region_lit ?_
   refine q0 hf hM [11, 1, 7, 8] [{}, {}] (nw := [(53, eI n), (52, eS a'4 (ordS ltI l).length ((ordS ltI l).length + 4))]) An ?_
   clear hf; intro a hf
   refine sxcall hf rfl rfl rfl rfl (g := 31) (vs := [.slice a'4 (ordS ltI l).length ((ordS ltI l).length + 4), iV n]) (ob := []) (by as_aux_lemma => kernel_rfl) An enters31 (oput a'4 (ordS ltI l) ((ordS ltI l).length + 4) n w12  (Arr.roomf (l := (ordS ltI l)) (m := ([-91, -92, -93, -94] : List Int)) (own_arr (hO.own _ (List.Mem.head _))) (fun _ => rfl) (by simp)) (by first | omega | (simp; omega) | (simp; done) | exact Nat.le_trans (byKinds_len _ _) (by omega) | decide) (by first | assumption | exact ordS_rises ordH _ | exact ordS_rises ordI _ | (unfold Rises; decide))) ?_
   clear hf; rintro _ w13 a ⟨a'5, c'3, rfl, hk, hx5⟩ hf
   have hO := hO.more hM hk (by have := hk0.size; omega) hx5
   replace hO : OwnOk w.heap.size [] [⟨3, 1, .slice a'5 ((putS ltI (ordS ltI l) n).length) c'3, (putS ltI (ordS ltI l) n).length, flat fI (putS ltI (ordS ltI l) n)⟩, ⟨3, 1, .slice a'4 ((ordS ltI l).length + 4) ((ordS ltI l).length + 4), ((ordS ltI l).length + 4), flat fI ((ordS ltI l) ++ ([-91, -92, -93, -94] : List Int))⟩, ⟨3, 1, .slice a8 ((dropP (fun y : Int => y == n) (ordS ltI l)).length) c8, (dropP (fun y : Int => y == n) (ordS ltI l)).length, flat fI (dropP (fun y : Int => y == n) (ordS ltI l))⟩, ⟨3, 1, .slice a'3 (ordS ltI l).length c'2, (ordS ltI l).length, flat fI (ordS ltI l)⟩, ⟨3, 1, .slice a'2 (ordS ltI l).length c'1, (ordS ltI l).length, flat fI (ordS ltI l)⟩, ⟨3, 1, .slice a'1 (l.length + 4) (l.length + 4), (l.length + 4), flat fI (l ++ ([-91, -92, -93, -94] : List Int))⟩] _ := hO
   have hM := hM.keepNn hk
   have hk0 := hk0.trans hk.nn
   clear hk
   refine q0 hf hM [54, 11, 1, 7, 8] [{}, {}] (nw := [(56, eI n), (55, eS a'4 (ordS ltI l).length ((ordS ltI l).length + 4))]) An ?_
   clear hf; intro a hf
   refine sxcall hf rfl rfl rfl rfl (g := 32) (vs := [.slice a'4 (ordS ltI l).length ((ordS ltI l).length + 4), iV n]) (ob := []) (by as_aux_lemma => kernel_rfl) An enters32 (odrop a'4 (ordS ltI l) ((ordS ltI l).length + 4) n w13  (Arr.roomf (l := (ordS ltI l)) (m := ([-91, -92, -93, -94] : List Int)) (own_arr (hO.own _ (List.Mem.tail _ (List.Mem.head _)))) (fun _ => rfl) (by simp)) (by first | omega | (simp; omega) | (simp; done) | exact Nat.le_trans (byKinds_len _ _) (by omega) | decide)) ?_
   clear hf; rintro _ w14 a ⟨a'6, c'4, rfl, hk, hx6⟩ hf
   have hO := hO.more hM hk (by have := hk0.size; omega) hx6
   replace hO : OwnOk w.heap.size [] [⟨3, 1, .slice a'6 ((dropP (fun y : Int => y == n) (ordS ltI l)).length) c'4, (dropP (fun y : Int => y == n) (ordS ltI l)).length, flat fI (dropP (fun y : Int => y == n) (ordS ltI l))⟩, ⟨3, 1, .slice a'5 ((putS ltI (ordS ltI l) n).length) c'3, (putS ltI (ordS ltI l) n).length, flat fI (putS ltI (ordS ltI l) n)⟩, ⟨3, 1, .slice a'4 ((ordS ltI l).length + 4) ((ordS ltI l).length + 4), ((ordS ltI l).length + 4), flat fI ((ordS ltI l) ++ ([-91, -92, -93, -94] : List Int))⟩, ⟨3, 1, .slice a8 ((dropP (fun y : Int => y == n) (ordS ltI l)).length) c8, (dropP (fun y : Int => y == n) (ordS ltI l)).length, flat fI (dropP (fun y : Int => y == n) (ordS ltI l))⟩, ⟨3, 1, .slice a'3 (ordS ltI l).length c'2, (ordS ltI l).length, flat fI (ordS ltI l)⟩, ⟨3, 1, .slice a'2 (ordS ltI l).length c'1, (ordS ltI l).length, flat fI (ordS ltI l)⟩, ⟨3, 1, .slice a'1 (l.length + 4) (l.length + 4), (l.length + 4), flat fI (l ++ ([-91, -92, -93, -94] : List Int))⟩] _ := hO
   have hM := hM.keepNn hk
   have hk0 := hk0.trans hk.nn
   clear hk
   refine q0 hf hM [11, 1, 7, 8] [{}, {}] (nw := [(13, eS a'6 ((dropP (fun y : Int => y == n) (ordS ltI l)).length) c'4), (12, eS a'5 ((putS ltI (ordS ltI l) n).length) c'3)]) An ?_
   clear hf; intro a hf
   refine wpList_nil ?_
   refine hK21 _ _ ?_
   refine wp_seq_k (fun K22 hK22 => ?_)
   refine wp_region_lit ?_
   refine q0 hf hM [13, 11, 1, 7, 8] [{}] (nw := [(58, eS a'5 ((putS ltI (ordS ltI l) n).length) c'3)]) An ?_
   clear hf; intro a hf
   refine sxbslice hf hM (t := 43) (e := 3) (len := 0) (cs := []) (ob := []) rfl rfl rfl rfl (by as_aux_lemma => kernel_rfl) An (by as_aux_lemma => kernel_rfl) ?_
   clear hf hM; intro a w15 B32 hf hM hB hk
   replace hM : MemOk [⟨B32, 3, []⟩] w15 := hM
   have hbB32 : w.heap.size ≤ B32 := by have := hk0.size; omega
   have hk0 := hk0.trans hk.nn
   have hO := hO.step hM hk.nn (by intro i h; simp only [Mem.names, List.map_cons, List.map_nil, List.mem_cons, List.not_mem_nil, or_false, List.map_append, List.cons_append, List.nil_append] at h ⊢; omega)
   clear hk hB
   refine q0 hf hM [59, 58, 13, 11, 1, 7, 8] [{}] (nw := [(60, eS a'3 (ordS ltI l).length c'2)]) An ?_
   clear hf; intro a hf
   replace hO := OwnOk.took (M1 := []) (M2 := []) (sz := 1) hO hM (n := 0) (c := 0) (by have := hk0.size; omega) (by decide) (by decide) rfl
   replace hM : MemOk [] w15 := hM.sub (.cons _ .slnil)
   replace hO : OwnOk w.heap.size [] [⟨3, 1, .slice (some ⟨B32, 0, none⟩) 0 0, 0, flat fI ([] : List Int)⟩, ⟨3, 1, .slice a'6 ((dropP (fun y : Int => y == n) (ordS ltI l)).length) c'4, (dropP (fun y : Int => y == n) (ordS ltI l)).length, flat fI (dropP (fun y : Int => y == n) (ordS ltI l))⟩, ⟨3, 1, .slice a'5 ((putS ltI (ordS ltI l) n).length) c'3, (putS ltI (ordS ltI l) n).length, flat fI (putS ltI (ordS ltI l) n)⟩, ⟨3, 1, .slice a'4 ((ordS ltI l).length + 4) ((ordS ltI l).length + 4), ((ordS ltI l).length + 4), flat fI ((ordS ltI l) ++ ([-91, -92, -93, -94] : List Int))⟩, ⟨3, 1, .slice a8 ((dropP (fun y : Int => y == n) (ordS ltI l)).length) c8, (dropP (fun y : Int => y == n) (ordS ltI l)).length, flat fI (dropP (fun y : Int => y == n) (ordS ltI l))⟩, ⟨3, 1, .slice a'3 (ordS ltI l).length c'2, (ordS ltI l).length, flat fI (ordS ltI l)⟩, ⟨3, 1, .slice a'2 (ordS ltI l).length c'1, (ordS ltI l).length, flat fI (ordS ltI l)⟩, ⟨3, 1, .slice a'1 (l.length + 4) (l.length + 4), (l.length + 4), flat fI (l ++ ([-91, -92, -93, -94] : List Int))⟩] w15 := hO
   replace hO : OwnOk w.heap.size [] [⟨3, 1, .slice (some ⟨B32, 0, none⟩) 0 0, 0, flat fI ([] : List Int)⟩, ⟨3, 1, .slice a'6 ((dropP (fun y : Int => y == n) (ordS ltI l)).length) c'4, (dropP (fun y : Int => y == n) (ordS ltI l)).length, flat fI (dropP (fun y : Int => y == n) (ordS ltI l))⟩, ⟨3, 1, .slice a'5 ((putS ltI (ordS ltI l) n).length) c'3, (putS ltI (ordS ltI l) n).length, flat fI (putS ltI (ordS ltI l) n)⟩, ⟨3, 1, .slice a'4 ((ordS ltI l).length + 4) ((ordS ltI l).length + 4), ((ordS ltI l).length + 4), flat fI ((ordS ltI l) ++ ([-91, -92, -93, -94] : List Int))⟩, ⟨3, 1, .slice a8 ((dropP (fun y : Int => y == n) (ordS ltI l)).length) c8, (dropP (fun y : Int => y == n) (ordS ltI l)).length, flat fI (dropP (fun y : Int => y == n) (ordS ltI l))⟩, ⟨3, 1, .slice a'3 (ordS ltI l).length c'2, (ordS ltI l).length, flat fI (ordS ltI l)⟩, ⟨3, 1, .slice a'2 (ordS ltI l).length c'1, (ordS ltI l).length, flat fI (ordS ltI l)⟩, ⟨3, 1, .slice a'1 (l.length + 4) (l.length + 4), (l.length + 4), flat fI (l ++ ([-91, -92, -93, -94] : List Int))⟩] w15 := OwnOk.front (l1 := []) (l2 := [⟨3, 1, .slice a'6 ((dropP (fun y : Int => y == n) (ordS ltI l)).length) c'4, (dropP (fun y : Int => y == n) (ordS ltI l)).length, flat fI (dropP (fun y : Int => y == n) (ordS ltI l))⟩, ⟨3, 1, .slice a'5 ((putS ltI (ordS ltI l) n).length) c'3, (putS ltI (ordS ltI l) n).length, flat fI (putS ltI (ordS ltI l) n)⟩, ⟨3, 1, .slice a'4 ((ordS ltI l).length + 4) ((ordS ltI l).length + 4), ((ordS ltI l).length + 4), flat fI ((ordS ltI l) ++ ([-91, -92, -93, -94] : List Int))⟩, ⟨3, 1, .slice a8 ((dropP (fun y : Int => y == n) (ordS ltI l)).length) c8, (dropP (fun y : Int => y == n) (ordS ltI l)).length, flat fI (dropP (fun y : Int => y == n) (ordS ltI l))⟩, ⟨3, 1, .slice a'3 (ordS ltI l).length c'2, (ordS ltI l).length, flat fI (ordS ltI l)⟩, ⟨3, 1, .slice a'2 (ordS ltI l).length c'1, (ordS ltI l).length, flat fI (ordS ltI l)⟩, ⟨3, 1, .slice a'1 (l.length + 4) (l.length + 4), (l.length + 4), flat fI (l ++ ([-91, -92, -93, -94] : List Int))⟩]) hO
   refine sxappend hf hM (e := 3) (sz := 1) (by_ := 8) (k := 0) (v := .slice (some ⟨B32, 0, none⟩) 0 0) (xs := flat fI ([] : List Int)) hO rfl rfl rfl rfl (av := a'3) (m := (ordS ltI l).length) (c := c'2) rfl rfl Try.underlying43 (by kernel_rfl) rfl (news := flat fI (ordS ltI l)) (own_arr (hO.own _ (List.Mem.tail _ (List.Mem.tail _ (List.Mem.tail _ (List.Mem.tail _ (List.Mem.tail _ (List.Mem.head _)))))))) (flat_one1 fI_one) (by simp only [maxLen]; constructor <;> (first | omega | (simp; omega))) (by have := hk0.size; omega) ?_
   clear hf hM hO; intro a w16 av2 cv2 hf hM hO hk
   have en : (0 + (ordS ltI l).length : Nat) = (ordS ltI l).length := (by first | (simp; done) | (simp; omega))
   have ec : flat fI ([] : List Int) ++ flat fI (ordS ltI l) = flat fI (ordS ltI l) := (by first | rfl | exact (flat_app _ _ _).symm | simp [flat_app, flat_nil])
   rw [en] at hf hO; rw [ec] at hO; clear en ec
   replace hO : OwnOk w.heap.size [] [⟨3, 1, .slice av2 (ordS ltI l).length cv2, (ordS ltI l).length, flat fI (ordS ltI l)⟩, ⟨3, 1, .slice a'6 ((dropP (fun y : Int => y == n) (ordS ltI l)).length) c'4, (dropP (fun y : Int => y == n) (ordS ltI l)).length, flat fI (dropP (fun y : Int => y == n) (ordS ltI l))⟩, ⟨3, 1, .slice a'5 ((putS ltI (ordS ltI l) n).length) c'3, (putS ltI (ordS ltI l) n).length, flat fI (putS ltI (ordS ltI l) n)⟩, ⟨3, 1, .slice a'4 ((ordS ltI l).length + 4) ((ordS ltI l).length + 4), ((ordS ltI l).length + 4), flat fI ((ordS ltI l) ++ ([-91, -92, -93, -94] : List Int))⟩, ⟨3, 1, .slice a8 ((dropP (fun y : Int => y == n) (ordS ltI l)).length) c8, (dropP (fun y : Int => y == n) (ordS ltI l)).length, flat fI (dropP (fun y : Int => y == n) (ordS ltI l))⟩, ⟨3, 1, .slice a'3 (ordS ltI l).length c'2, (ordS ltI l).length, flat fI (ordS ltI l)⟩, ⟨3, 1, .slice a'2 (ordS ltI l).length c'1, (ordS ltI l).length, flat fI (ordS ltI l)⟩, ⟨3, 1, .slice a'1 (l.length + 4) (l.length + 4), (l.length + 4), flat fI (l ++ ([-91, -92, -93, -94] : List Int))⟩] w16 := hO
   have hk0 := hk0.then hk (by intro i hi h; have := h.1; omega)
   clear hk
   refine q0 hf hM [61, 58, 13, 11, 7, 8] [{}] (nw := [(62, eI n)]) An ?_
   clear hf; intro a hf
   refine sxbslice hf hM (t := 43) (e := 3) (len := 1) (cs := [iV n]) (ob := []) rfl rfl rfl rfl (by as_aux_lemma => kernel_rfl) An (by as_aux_lemma => kernel_rfl) ?_
   clear hf hM; intro a w17 B35 hf hM hB hk
   replace hM : MemOk [⟨B35, 3, [iV n]⟩] w17 := hM
   have hbB35 : w.heap.size ≤ B35 := by have := hk0.size; omega
   have hk0 := hk0.trans hk.nn
   have hO := hO.step hM hk.nn (by intro i h; simp only [Mem.names, List.map_cons, List.map_nil, List.mem_cons, List.not_mem_nil, or_false, List.map_append, List.cons_append, List.nil_append] at h ⊢; omega)
   clear hk hB
   replace hO : OwnOk w.heap.size [⟨B35, 3, [iV n]⟩] [⟨3, 1, .slice av2 (ordS ltI l).length cv2, (ordS ltI l).length, flat fI (ordS ltI l)⟩, ⟨3, 1, .slice a'6 ((dropP (fun y : Int => y == n) (ordS ltI l)).length) c'4, (dropP (fun y : Int => y == n) (ordS ltI l)).length, flat fI (dropP (fun y : Int => y == n) (ordS ltI l))⟩, ⟨3, 1, .slice a'5 ((putS ltI (ordS ltI l) n).length) c'3, (putS ltI (ordS ltI l) n).length, flat fI (putS ltI (ordS ltI l) n)⟩, ⟨3, 1, .slice a'4 ((ordS ltI l).length + 4) ((ordS ltI l).length + 4), ((ordS ltI l).length + 4), flat fI ((ordS ltI l) ++ ([-91, -92, -93, -94] : List Int))⟩, ⟨3, 1, .slice a8 ((dropP (fun y : Int => y == n) (ordS ltI l)).length) c8, (dropP (fun y : Int => y == n) (ordS ltI l)).length, flat fI (dropP (fun y : Int => y == n) (ordS ltI l))⟩, ⟨3, 1, .slice a'3 (ordS ltI l).length c'2, (ordS ltI l).length, flat fI (ordS ltI l)⟩, ⟨3, 1, .slice a'2 (ordS ltI l).length c'1, (ordS ltI l).length, flat fI (ordS ltI l)⟩, ⟨3, 1, .slice a'1 (l.length + 4) (l.length + 4), (l.length + 4), flat fI (l ++ ([-91, -92, -93, -94] : List Int))⟩] w17 := OwnOk.front (l1 := []) (l2 := [⟨3, 1, .slice a'6 ((dropP (fun y : Int => y == n) (ordS ltI l)).length) c'4, (dropP (fun y : Int => y == n) (ordS ltI l)).length, flat fI (dropP (fun y : Int => y == n) (ordS ltI l))⟩, ⟨3, 1, .slice a'5 ((putS ltI (ordS ltI l) n).length) c'3, (putS ltI (ordS ltI l) n).length, flat fI (putS ltI (ordS ltI l) n)⟩, ⟨3, 1, .slice a'4 ((ordS ltI l).length + 4) ((ordS ltI l).length + 4), ((ordS ltI l).length + 4), flat fI ((ordS ltI l) ++ ([-91, -92, -93, -94] : List Int))⟩, ⟨3, 1, .slice a8 ((dropP (fun y : Int => y == n) (ordS ltI l)).length) c8, (dropP (fun y : Int => y == n) (ordS ltI l)).length, flat fI (dropP (fun y : Int => y == n) (ordS ltI l))⟩, ⟨3, 1, .slice a'3 (ordS ltI l).length c'2, (ordS ltI l).length, flat fI (ordS ltI l)⟩, ⟨3, 1, .slice a'2 (ordS ltI l).length c'1, (ordS ltI l).length, flat fI (ordS ltI l)⟩, ⟨3, 1, .slice a'1 (l.length + 4) (l.length + 4), (l.length + 4), flat fI (l ++ ([-91, -92, -93, -94] : List Int))⟩]) hO
   refine sxappend hf hM (e := 3) (sz := 1) (by_ := 8) (k := (ordS ltI l).length) (v := .slice av2 (ordS ltI l).length cv2) (xs := flat fI (ordS ltI l)) hO rfl rfl rfl rfl (av := some ⟨B35, 0, none⟩) (m := 1) (c := 1) rfl rfl Try.underlying43 (by kernel_rfl) rfl (news := flat fI ([n] : List Int)) (Arr.of_memT (sz := 1) (f := fI) (L := ([n] : List Int)) (l := ([n] : List Int)) hM (List.Mem.head _) (fun _ => rfl) rfl rfl) (flat_one1 fI_one) (by simp only [maxLen]; constructor <;> (first | omega | (simp; omega))) (by have := hk0.size; omega) ?_
   clear hf hM hO; intro a w18 av3 cv3 hf hM hO hk
   have en : ((ordS ltI l).length + 1 : Nat) = ((ordS ltI l) ++ ([n] : List Int)).length := (by first | (simp; done) | (simp; omega))
   have ec : flat fI (ordS ltI l) ++ flat fI ([n] : List Int) = flat fI ((ordS ltI l) ++ ([n] : List Int)) := (by first | rfl | exact (flat_app _ _ _).symm | simp [flat_app, flat_nil])
   rw [en] at hf hO; rw [ec] at hO; clear en ec
   replace hO : OwnOk w.heap.size [⟨B35, 3, [iV n]⟩] [⟨3, 1, .slice av3 (((ordS ltI l) ++ ([n] : List Int)).length) cv3, ((ordS ltI l) ++ ([n] : List Int)).length, flat fI ((ordS ltI l) ++ ([n] : List Int))⟩, ⟨3, 1, .slice a'6 ((dropP (fun y : Int => y == n) (ordS ltI l)).length) c'4, (dropP (fun y : Int => y == n) (ordS ltI l)).length, flat fI (dropP (fun y : Int => y == n) (ordS ltI l))⟩, ⟨3, 1, .slice a'5 ((putS ltI (ordS ltI l) n).length) c'3, (putS ltI (ordS ltI l) n).length, flat fI (putS ltI (ordS ltI l) n)⟩, ⟨3, 1, .slice a'4 ((ordS ltI l).length + 4) ((ordS ltI l).length + 4), ((ordS ltI l).length + 4), flat fI ((ordS ltI l) ++ ([-91, -92, -93, -94] : List Int))⟩, ⟨3, 1, .slice a8 ((dropP (fun y : Int => y == n) (ordS ltI l)).length) c8, (dropP (fun y : Int => y == n) (ordS ltI l)).length, flat fI (dropP (fun y : Int => y == n) (ordS ltI l))⟩, ⟨3, 1, .slice a'3 (ordS ltI l).length c'2, (ordS ltI l).length, flat fI (ordS ltI l)⟩, ⟨3, 1, .slice a'2 (ordS ltI l).length c'1, (ordS ltI l).length, flat fI (ordS ltI l)⟩, ⟨3, 1, .slice a'1 (l.length + 4) (l.length + 4), (l.length + 4), flat fI (l ++ ([-91, -92, -93, -94] : List Int))⟩] w18 := hO
   have hk0 := hk0.then hk (by intro i hi h; have := h.1; omega)
   clear hk
   refine sxcall hf rfl rfl rfl rfl (g := 28) (vs := [.slice av3 (((ordS ltI l) ++ ([n] : List Int)).length) cv3]) (ob := []) (by as_aux_lemma => kernel_rfl) An enters28 (rInts av3 ((ordS ltI l) ++ ([n] : List Int)) cv3 w18  (own_arr (hO.own _ (List.Mem.head _))) (by first | omega | (simp; omega) | (simp; done) | exact Nat.le_trans (byKinds_len _ _) (by omega) | decide)) ?_
   clear hf; rintro _ w19 a ⟨a'7, c'5, rfl, hk, hx7⟩ hf
   have hO := hO.more hM hk (by have := hk0.size; omega) hx7
   replace hO : OwnOk w.heap.size [⟨B35, 3, [iV n]⟩] [⟨3, 1, .slice a'7 ((ordS ltI ((ordS ltI l) ++ ([n] : List Int))).length) c'5, (ordS ltI ((ordS ltI l) ++ ([n] : List Int))).length, flat fI (ordS ltI ((ordS ltI l) ++ ([n] : List Int)))⟩, ⟨3, 1, .slice av3 (((ordS ltI l) ++ ([n] : List Int)).length) cv3, ((ordS ltI l) ++ ([n] : List Int)).length, flat fI ((ordS ltI l) ++ ([n] : List Int))⟩, ⟨3, 1, .slice a'6 ((dropP (fun y : Int => y == n) (ordS ltI l)).length) c'4, (dropP (fun y : Int => y == n) (ordS ltI l)).length, flat fI (dropP (fun y : Int => y == n) (ordS ltI l))⟩, ⟨3, 1, .slice a'5 ((putS ltI (ordS ltI l) n).length) c'3, (putS ltI (ordS ltI l) n).length, flat fI (putS ltI (ordS ltI l) n)⟩, ⟨3, 1, .slice a'4 ((ordS ltI l).length + 4) ((ordS ltI l).length + 4), ((ordS ltI l).length + 4), flat fI ((ordS ltI l) ++ ([-91, -92, -93, -94] : List Int))⟩, ⟨3, 1, .slice a8 ((dropP (fun y : Int => y == n) (ordS ltI l)).length) c8, (dropP (fun y : Int => y == n) (ordS ltI l)).length, flat fI (dropP (fun y : Int => y == n) (ordS ltI l))⟩, ⟨3, 1, .slice a'3 (ordS ltI l).length c'2, (ordS ltI l).length, flat fI (ordS ltI l)⟩, ⟨3, 1, .slice a'2 (ordS ltI l).length c'1, (ordS ltI l).length, flat fI (ordS ltI l)⟩, ⟨3, 1, .slice a'1 (l.length + 4) (l.length + 4), (l.length + 4), flat fI (l ++ ([-91, -92, -93, -94] : List Int))⟩] _ := hO
   have hM := hM.keepNn hk
   have hk0 := hk0.trans hk.nn
   clear hk
   refine sxcall hf rfl rfl rfl rfl (g := 29) (vs := [.slice a'5 ((putS ltI (ordS ltI l) n).length) c'3, .slice a'7 ((ordS ltI ((ordS ltI l) ++ ([n] : List Int))).length) c'5]) (ob := []) (by as_aux_lemma => kernel_rfl) An enters29 (same_ints a'5 (putS ltI (ordS ltI l) n) c'3 a'7 (ordS ltI ((ordS ltI l) ++ ([n] : List Int))) c'5 w19  (own_arr (hO.own _ (List.Mem.tail _ (List.Mem.tail _ (List.Mem.tail _ (List.Mem.head _)))))) (by first | omega | (simp; omega) | (simp; done) | exact Nat.le_trans (byKinds_len _ _) (by omega) | decide) (own_arr (hO.own _ (List.Mem.head _))) (by first | omega | (simp; omega) | (simp; done) | exact Nat.le_trans (byKinds_len _ _) (by omega) | decide)) ?_
   clear hf; rintro _ w20 a ⟨rfl, hk⟩ hf
   have hO := hO.keepNn hk
   have hM := hM.keepNn hk
   have hk0 := hk0.trans hk.nn
   clear hk
   refine q0 hf hM [13, 11, 7, 8] [{}] (nw := [(67, eB (sameL (putS ltI (ordS ltI l) n) (ordS ltI ((ordS ltI l) ++ ([n] : List Int)))))]) An ?_
   clear hf; intro a hf
   rcases Bool.eq_false_or_eq_true (sameL (putS ltI (ordS ltI l) n) (ordS ltI ((ordS ltI l) ++ ([n] : List Int)))) with hg1r | hg1r
   · have hg1 := hg1r
     have hf := hf.setb 67 hg1r
     refine q0 hf hM [67, 11, 7] [{}, {}] (nw := [(69, eS a8 ((dropP (fun y : Int => y == n) (ordS ltI l)).length) c8), (68, eS a'6 ((dropP (fun y : Int => y == n) (ordS ltI l)).length) c'4)]) (ob := [true = true, true = true]) (Ac rfl (Ao rfl)) ?_
     clear hf; intro a hf
     refine sxcallg hf rfl rfl rfl rfl rfl (g := 29) (vs := [.slice a'6 ((dropP (fun y : Int => y == n) (ordS ltI l)).length) c'4, .slice a8 ((dropP (fun y : Int => y == n) (ordS ltI l)).length) c8]) (ob := []) (by as_aux_lemma => kernel_rfl) An enters29 (same_ints a'6 (dropP (fun y : Int => y == n) (ordS ltI l)) c'4 a8 (dropP (fun y : Int => y == n) (ordS ltI l)) c8 w20  (own_arr (hO.own _ (List.Mem.tail _ (List.Mem.tail _ (List.Mem.head _))))) (by first | omega | (simp; omega) | (simp; done) | exact Nat.le_trans (byKinds_len _ _) (by omega) | decide) (own_arr (hO.own _ (List.Mem.tail _ (List.Mem.tail _ (List.Mem.tail _ (List.Mem.tail _ (List.Mem.tail _ (List.Mem.head _)))))))) (by first | omega | (simp; omega) | (simp; done) | exact Nat.le_trans (byKinds_len _ _) (by omega) | decide)) ?_
     clear hf; rintro _ w21 a ⟨rfl, hk⟩ hf
     have hO := hO.keepNn hk
     have hM := hM.keepNn hk
     have hk0 := hk0.trans hk.nn
     clear hk
     refine q0 hf hM [11, 7] [{}, {}] (nw := [(72, eB (sameL (dropP (fun y : Int => y == n) (ordS ltI l)) (dropP (fun y : Int => y == n) (ordS ltI l))))]) An ?_
     clear hf; intro a hf
     have hf := hf.setb 72 hs2
     refine q0 hf hM [72] [{}, {}] (nw := [(74, eS a'3 (ordS ltI l).length c'2), (73, eS a'4 (ordS ltI l).length ((ordS ltI l).length + 4))]) (ob := [true = true, true = true]) (Ac rfl (Ao rfl)) ?_
     clear hf; intro a hf
     refine sxcallg hf rfl rfl rfl rfl rfl (g := 30) (vs := [.slice a'4 (ordS ltI l).length ((ordS ltI l).length + 4), .slice a'3 (ordS ltI l).length c'2]) (ob := []) (by as_aux_lemma => kernel_rfl) An enters30 (keptInts a'4 (ordS ltI l) c a'3 c'2 w21  (own_arr (hO.own _ (List.Mem.tail _ (List.Mem.tail _ (List.Mem.tail _ (List.Mem.tail _ (List.Mem.head _))))))) (own_arr (hO.own _ (List.Mem.tail _ (List.Mem.tail _ (List.Mem.tail _ (List.Mem.tail _ (List.Mem.tail _ (List.Mem.tail _ (List.Mem.head _))))))))) (by first | omega | (simp; omega) | (simp; done) | exact Nat.le_trans (byKinds_len _ _) (by omega) | decide)) ?_
     clear hf; rintro _ w22 a ⟨rfl, hk⟩ hf
     have hO := hO.keepNn hk
     have hM := hM.keepNn hk
     have hk0 := hk0.trans hk.nn
     clear hk
     refine q0 hf hM [] [{}, {}] (nw := [(4, eB true)]) An ?_
     clear hf; intro a hf
     refine wpList_nil ?_
     refine hK22 _ _ ?_
     refine wp_ret ?_
     refine qr (fn := Try.f8) hf hM [] (l := [bV true]) (ob := []) An ?_
     show (bV true : Value) = .bool true ∧ Keep Nn w w22
     refine ⟨congrArg Value.bool ?_, hk0⟩
     first | rfl | (simp; done) | (simp_all; done)
   · have hg1 := hg1r
     have hf := hf.setb 67 hg1r
     refine q0 hf hM [67, 11, 7] [{ g := .off }, { g := .off }] (nw := [(69, .val (undef)), (68, .val (undef))]) (ob := [false = !true, false = !true]) (Ac rfl (Ao rfl)) ?_
     clear hf; intro a hf
     refine q0 hf hM [] [{ g := .off }, {}, {}, { g := .off }, { g := .off }] (nw := [(74, .val (undef)), (73, .val (undef)), (72, eB false)]) (ob := [false = !true, false = !true, false = !true]) (Ac rfl (Ac rfl (Ao rfl))) ?_
     clear hf; intro a hf
     refine q0 hf hM [] [{ g := .off }, {}, {}] (nw := [(4, eB false)]) (ob := [false = !true]) (Ao rfl) ?_
     clear hf; intro a hf
     refine wpList_nil ?_
     refine hK22 _ _ ?_
     refine wp_ret ?_
     refine qr (fn := Try.f8) hf hM [] (l := [bV false]) (ob := []) An ?_
     show (bV false : Value) = .bool true ∧ Keep Nn w w20
     refine ⟨congrArg Value.bool ?_, hk0⟩
     first | rfl | (simp; done) | (simp_all; done)
end Go.Proofs.Ytllopoaojchcmaa
