/- layer 13: Nearest, its parts -/
import Derived.Test.YthofalkkdpjdlaaDoorN6
import Derived.Test.YthofalkkdpjdlaaDoorN1
import Derived.Test.YthofalkkdpjdlaaDoorXpD
namespace Go.Proofs.YthofalkkdpjdlaaDoor
open Go.Px
set_option linter.unusedVariables false
set_option linter.unusedSimpArgs false

set_option maxRecDepth 10000 in
set_option maxHeartbeats 1600000 in
theorem or3 (av : Option Addr) (x y z : Int) (c : Nat) (w : World) (hav : Arr w 1 av 3 c (flat fI ([x, y, z] : List Int))) :
    Calls Tryd.prog 65 #[.slice av 3 c] w (Ret fun v w' => v = .int .i64 (orI x (orI y z)) ∧ Keep Nn w w') := by
 refine sxenter (n := 18) (args := [.slice av 3 c]) Tryd.func65 rfl rfl rfl fun a hf => ?_
 replace hf : Fr 18 [(0, eS av 3 c)] a := hf
 have hM : MemOk [] w := MemOk.nil w
 have hk0 : Keep Nn w w := Keep.refl _ _
 refine wp_seq_k (fun K1 hK1 => ?_)
 refine wp_region_lit ?_
 refine q0 hf hM [0] [{}] (nw := []) An ?_
 clear hf; intro a hf
 refine wpList_nil ?_
 refine hK1 _ _ ?_
 refine wp_seq_k (fun K2 hK2 => ?_)
 refine wp_region_lit ?_
 refine q0 hf hM [0] [{}] (nw := [(3, eI 0)]) An ?_
 clear hf; intro a hf
 refine wpList_nil ?_
 refine hK2 _ _ ?_
 refine wp_seq_k (fun K3 hK3 => ?_)
 refine wp_seq_k (fun K4 hK4 => ?_)
 refine wp_region_lit ?_
 refine q0 hf hM [3] [{}, {}, {}] (nw := [(8, eI 0), (7, eI 3), (6, eS av 3 c)]) An ?_
 clear hf; intro a hf
 refine wpList_nil ?_
 refine hK4 _ _ ?_
 refine wp_block ?_
 refine wp_loop_rounds 4 ?_
 refine sxround (m := 3) fun L1 hL1 => ?_
 refine wp_seq_k (fun K5 hK5 => ?_)
 refine wp_region_lit ?_
 refine q0 hf hM [8, 7, 6, 3] [{}] (nw := [(9, eB true)]) An ?_
 clear hf; intro a hf
 refine wpList_nil ?_
 refine hK5 _ _ ?_
 refine wp_seq_k (fun K6 hK6 => ?_)
 refine sxcond hf (b := true) (by kernel_rfl) (fun _ => ?_) (fun h => by cases h)
 refine wp_skip ?_
 refine hK6 _ _ ?_
 refine wp_seq_k (fun K7 hK7 => ?_)
 refine wp_block ?_
 refine wp_seq_k (fun K8 hK8 => ?_)
 refine wp_region_lit ?_
 refine q0 hf hM [8, 7, 6, 3] [{ sp := true }, { os := [.ex (iV (([x, y, z] : List Int).getD (0 : Int).toNat 0))], hint := some (iV x) }, {}] (nw := [(5, eI x)]) (ob := [(0 : Int) ≤ 0 ∧ 0 < (3 : Int), (av : Option Addr).isSome = true, w.cell? ((sa av : Addr).add ((0 : Int).toNat * 1)) = some (iV (([x, y, z] : List Int).getD (0 : Int).toNat 0)), (iV (([x, y, z] : List Int).getD (0 : Int).toNat 0) : Value) = (iV x : Value)]) (Ac (by first | omega | (simp; done)) (Ac ((hav.keepNn hk0).some_ (by first | omega | (simp; done))) (Ac ((hav.keepNn hk0).get0 (fun _ => rfl) (by first | omega | (simp; done)) rfl) (Ao rfl)))) ?_
 clear hf; intro a hf
 refine wpList_nil ?_
 refine hK8 _ _ ?_
 refine wp_seq_k (fun K9 hK9 => ?_)
 refine wp_region_lit ?_
 refine q0 hf hM [5, 8, 7, 6, 3] [{}, {}, {}] (nw := [(14, eB ((x : Int) != 0))]) An ?_
 clear hf; intro a hf
 refine wpList_nil ?_
 refine hK9 _ _ ?_
 refine qc hf (b := ((x : Int) != 0)) (fun hc2r => ?_) (fun hc2r => ?_)
 · have hc2 := (nN hc2r)
   refine wp_seq_k (fun K10 hK10 => ?_)
   refine wp_region_lit ?_
   refine q0 hf hM [] [{}, {}] (nw := [(2, eI x)]) An ?_
   clear hf; intro a hf
   refine wpList_nil ?_
   refine hK10 _ _ ?_
   refine wp_ret ?_
   refine qr (fn := Tryd.f65) hf hM [] (l := [iV x]) (ob := []) An ?_
   show (iV x : Value) = .int .i64 (orI x (orI y z)) ∧ Keep Nn w w
   refine ⟨congrArg _ ?_, hk0⟩
   unfold orI
   repeat' split
   all_goals first | rfl | omega
 · have hc2 := (nM hc2r)
   refine wp_skip ?_
   refine hK7 _ _ ?_
   refine wp_region_lit ?_
   refine q0 hf hM [7, 6, 3] [{}, {}] (nw := [(8, eI 1)]) An ?_
   clear hf; intro a hf
   refine wpList_nil ?_
   refine hL1 _ _ ?_
   refine sxround (m := 2) fun L2 hL2 => ?_
   refine wp_seq_k (fun K11 hK11 => ?_)
   refine wp_region_lit ?_
   refine q0 hf hM [8, 7, 6, 3] [{}] (nw := [(9, eB true)]) An ?_
   clear hf; intro a hf
   refine wpList_nil ?_
   refine hK11 _ _ ?_
   refine wp_seq_k (fun K12 hK12 => ?_)
   refine sxcond hf (b := true) (by kernel_rfl) (fun _ => ?_) (fun h => by cases h)
   refine wp_skip ?_
   refine hK12 _ _ ?_
   refine wp_seq_k (fun K13 hK13 => ?_)
   refine wp_block ?_
   refine wp_seq_k (fun K14 hK14 => ?_)
   refine wp_region_lit ?_
   refine q0 hf hM [8, 7, 6, 3] [{ sp := true }, { os := [.ex (iV (([x, y, z] : List Int).getD (1 : Int).toNat 0))], hint := some (iV y) }, {}] (nw := [(5, eI y)]) (ob := [(0 : Int) ≤ 1 ∧ 1 < (3 : Int), (av : Option Addr).isSome = true, w.cell? ((sa av : Addr).add ((1 : Int).toNat * 1)) = some (iV (([x, y, z] : List Int).getD (1 : Int).toNat 0)), (iV (([x, y, z] : List Int).getD (1 : Int).toNat 0) : Value) = (iV y : Value)]) (Ac (by first | omega | (simp; done)) (Ac ((hav.keepNn hk0).some_ (by first | omega | (simp; done))) (Ac ((hav.keepNn hk0).get0 (fun _ => rfl) (by first | omega | (simp; done)) rfl) (Ao rfl)))) ?_
   clear hf; intro a hf
   refine wpList_nil ?_
   refine hK14 _ _ ?_
   refine wp_seq_k (fun K15 hK15 => ?_)
   refine wp_region_lit ?_
   refine q0 hf hM [5, 8, 7, 6, 3] [{}, {}, {}] (nw := [(14, eB ((y : Int) != 0))]) An ?_
   clear hf; intro a hf
   refine wpList_nil ?_
   refine hK15 _ _ ?_
   refine qc hf (b := ((y : Int) != 0)) (fun hc4r => ?_) (fun hc4r => ?_)
   · have hc4 := (nN hc4r)
     refine wp_seq_k (fun K16 hK16 => ?_)
     refine wp_region_lit ?_
     refine q0 hf hM [] [{}, {}] (nw := [(2, eI y)]) An ?_
     clear hf; intro a hf
     refine wpList_nil ?_
     refine hK16 _ _ ?_
     refine wp_ret ?_
     refine qr (fn := Tryd.f65) hf hM [] (l := [iV y]) (ob := []) An ?_
     show (iV y : Value) = .int .i64 (orI x (orI y z)) ∧ Keep Nn w w
     refine ⟨congrArg _ ?_, hk0⟩
     unfold orI
     repeat' split
     all_goals first | rfl | omega
   · have hc4 := (nM hc4r)
     refine wp_skip ?_
     refine hK13 _ _ ?_
     refine wp_region_lit ?_
     refine q0 hf hM [7, 6, 3] [{}, {}] (nw := [(8, eI 2)]) An ?_
     clear hf; intro a hf
     refine wpList_nil ?_
     refine hL2 _ _ ?_
     refine sxround (m := 1) fun L3 hL3 => ?_
     refine wp_seq_k (fun K17 hK17 => ?_)
     refine wp_region_lit ?_
     refine q0 hf hM [8, 7, 6, 3] [{}] (nw := [(9, eB true)]) An ?_
     clear hf; intro a hf
     refine wpList_nil ?_
     refine hK17 _ _ ?_
     refine wp_seq_k (fun K18 hK18 => ?_)
     refine sxcond hf (b := true) (by kernel_rfl) (fun _ => ?_) (fun h => by cases h)
     refine wp_skip ?_
     refine hK18 _ _ ?_
     refine wp_seq_k (fun K19 hK19 => ?_)
     refine wp_block ?_
     refine wp_seq_k (fun K20 hK20 => ?_)
     refine wp_region_lit ?_
     refine q0 hf hM [8, 7, 6, 3] [{ sp := true }, { os := [.ex (iV (([x, y, z] : List Int).getD (2 : Int).toNat 0))], hint := some (iV z) }, {}] (nw := [(5, eI z)]) (ob := [(0 : Int) ≤ 2 ∧ 2 < (3 : Int), (av : Option Addr).isSome = true, w.cell? ((sa av : Addr).add ((2 : Int).toNat * 1)) = some (iV (([x, y, z] : List Int).getD (2 : Int).toNat 0)), (iV (([x, y, z] : List Int).getD (2 : Int).toNat 0) : Value) = (iV z : Value)]) (Ac (by first | omega | (simp; done)) (Ac ((hav.keepNn hk0).some_ (by first | omega | (simp; done))) (Ac ((hav.keepNn hk0).get0 (fun _ => rfl) (by first | omega | (simp; done)) rfl) (Ao rfl)))) ?_
     clear hf; intro a hf
     refine wpList_nil ?_
     refine hK20 _ _ ?_
     refine wp_seq_k (fun K21 hK21 => ?_)
     refine wp_region_lit ?_
     refine q0 hf hM [5, 8, 7, 6, 3] [{}, {}, {}] (nw := [(14, eB ((z : Int) != 0))]) An ?_
     clear hf; intro a hf
     refine wpList_nil ?_
     refine hK21 _ _ ?_
     refine qc hf (b := ((z : Int) != 0)) (fun hc6r => ?_) (fun hc6r => ?_)
     · have hc6 := (nN hc6r)
       refine wp_seq_k (fun K22 hK22 => ?_)
       refine wp_region_lit ?_
       refine q0 hf hM [] [{}, {}] (nw := [(2, eI z)]) An ?_
       clear hf; intro a hf
       refine wpList_nil ?_
       refine hK22 _ _ ?_
       refine wp_ret ?_
       refine qr (fn := Tryd.f65) hf hM [] (l := [iV z]) (ob := []) An ?_
       show (iV z : Value) = .int .i64 (orI x (orI y z)) ∧ Keep Nn w w
       refine ⟨congrArg _ ?_, hk0⟩
       unfold orI
       repeat' split
       all_goals first | rfl | omega
     · have hc6 := (nM hc6r)
       refine wp_skip ?_
       refine hK19 _ _ ?_
       refine wp_region_lit ?_
       refine q0 hf hM [7, 6, 3] [{}, {}] (nw := [(8, eI 3)]) An ?_
       clear hf; intro a hf
       refine wpList_nil ?_
       refine hL3 _ _ ?_
       refine sxround (m := 0) fun L4 hL4 => ?_
       refine wp_seq_k (fun K23 hK23 => ?_)
       refine wp_region_lit ?_
       refine q0 hf hM [8, 7, 6, 3] [{}] (nw := [(9, eB false)]) An ?_
       clear hf; intro a hf
       refine wpList_nil ?_
       refine hK23 _ _ ?_
       refine wp_seq_k (fun K24 hK24 => ?_)
       refine sxcond hf (b := false) (by kernel_rfl) (fun h => by cases h) (fun _ => ?_)
       refine wp_exit ?_
       refine hK3 _ _ ?_
       refine wp_seq_k (fun K25 hK25 => ?_)
       refine wp_region_lit ?_
       refine q0 hf hM [] [{}, {}] (nw := [(2, eI 0)]) An ?_
       clear hf; intro a hf
       refine wpList_nil ?_
       refine hK25 _ _ ?_
       refine wp_ret ?_
       refine qr (fn := Tryd.f65) hf hM [] (l := [iV 0]) (ob := []) An ?_
       show (iV 0 : Value) = .int .i64 (orI x (orI y z)) ∧ Keep Nn w w
       refine ⟨congrArg _ ?_, hk0⟩
       unfold orI
       repeat' split
       all_goals first | rfl | omega

set_option maxRecDepth 10000 in
set_option maxHeartbeats 1600000 in
theorem ncompare (xi xg xa yi yg ya : Int) (w : World) :
    Calls Tryd.prog 48 #[.agg #[iV xi, iV xg, iV xa], .agg #[iV yi, iV yg, iV ya]] w (Ret fun v w' => v = .int .i64 (cmpF (⟨xi, xg, xa⟩ : F3) (⟨yi, yg, ya⟩ : F3)) ∧ Keep Nn w w') := by
 refine sxenter (n := 26) (args := [.agg #[iV xi, iV xg, iV xa], .agg #[iV yi, iV yg, iV ya]]) Tryd.func48 rfl rfl rfl fun a hf => ?_
 replace hf : Fr 26 [(0, .val (.agg #[iV xi, iV xg, iV xa])), (1, .val (.agg #[iV yi, iV yg, iV ya]))] a := hf
 have hM : MemOk [] w := MemOk.nil w
 have hk0 : Keep Nn w w := Keep.refl _ _
 refine wp_seq_k (fun K1 hK1 => ?_)
 refine wp_region_lit ?_
 refine q1 hf hM [] [{ os := [.nw] }, { os := [.nw] }, {}] (nw := fun B1 => [(4, eI 0), (3, eP (B1 + 1) 0), (2, eP B1 0)]) (M' := fun B1 => [⟨B1, 93, [iV xi, iV xg, iV xa]⟩, ⟨B1 + 1, 93, [iV yi, iV yg, iV ya]⟩]) (ob := fun B1 => []) (fun B1 => An) ?_
 clear hf hM; intro a w1 B1 hf hM hB hk
 have hbB1 : w.heap.size ≤ B1 := by have := hk0.size; omega
 have hk0 := hk0.then hk (by intro i _ h; cases h)
 clear hk hB
 refine wpList_nil ?_
 refine hK1 _ _ ?_
 refine wp_seq_k (fun K2 hK2 => ?_)
 replace hM := hM.drew; replace hk0 := hk0.drew
 obtain ⟨Cq1, hCq1i, hCq1e⟩ := qcls fun w' => MemOk [⟨B1, 93, [iV xi, iV xg, iV xa]⟩, ⟨B1 + 1, 93, [iV yi, iV yg, iV ya]⟩] w' ∧ Keep Nn w w' ∧ True
 refine sxdraw (C := Cq1) (.leaf [(0, true), (1, true), (2, true), (3, true), (5, true), (6, true), (7, true), (8, true), (9, true), (10, true), (12, true), (13, true), (14, true), (15, true), (16, true), (17, true), (4, false), (11, false), (18, false), (19, false), (20, false), (21, true)]) (by kernel_rfl) (by kernel_rfl) (by as_aux_lemma => kernel_rfl) rfl (by as_aux_lemma => kernel_rfl) (by kernel_rfl) (hCq1i _ ⟨hM.sub (.cons_cons _ (.cons_cons _ .slnil)), hk0, trivial⟩) ?_
 refine sxleaf ?_
 have hC := (hCq1i _ ⟨hM.sub (.cons_cons _ (.cons_cons _ .slnil)), hk0, trivial⟩)
 refine qd hf hC (fun w' h => (hCq1e w' h).1) [4] [{}, { os := [.ld 0 2] }, {}, { os := [.ld 1 2] }, {}, {}, { os := [.ld 0 0] }, {}, {}, { os := [.ld 1 0] }, {}, {}, { os := [.ld 0 1] }, {}, {}, { os := [.ld 1 1] }] (nw := [(22, eI yg), (19, eI xg), (15, eI yi), (12, eI xi), (8, eI ya), (6, eI xa)]) (ob := [Ad B1 2, Ad (B1 + 1) 2, Ad B1 0, Ad (B1 + 1) 0, Ad B1 1, Ad (B1 + 1) 1]) (Ac (ad _ _) (Ac (ad _ _) (Ac (ad _ _) (Ac (ad _ _) (Ac (ad _ _) (Ao (ad _ _))))))) ?_
 clear hf; intro a hf
 refine scstep rfl ?_
 refine sxcall hf rfl rfl rfl rfl (g := 66) (vs := [iV xa, iV ya]) (ob := []) (by as_aux_lemma => kernel_rfl) An enters66 (compare_int xa ya w1.drew  ) ?_
 clear hf; rintro _ w2 a ⟨rfl, hk⟩ hf
 have hM := hM.keepNn hk
 have hk0 := hk0.trans hk.nn
 clear hk
 have hC := (hCq1i _ ⟨hM.sub (.cons_cons _ (.cons_cons _ .slnil)), hk0, trivial⟩)
 refine scdone hC ?_
 refine scstep rfl ?_
 refine sxcall hf rfl rfl rfl rfl (g := 66) (vs := [iV xi, iV yi]) (ob := []) (by as_aux_lemma => kernel_rfl) An enters66 (compare_int xi yi w2  ) ?_
 clear hf; rintro _ w3 a ⟨rfl, hk⟩ hf
 have hM := hM.keepNn hk
 have hk0 := hk0.trans hk.nn
 clear hk
 have hC := (hCq1i _ ⟨hM.sub (.cons_cons _ (.cons_cons _ .slnil)), hk0, trivial⟩)
 refine scdone hC ?_
 refine scstep rfl ?_
 refine sxcall hf rfl rfl rfl rfl (g := 66) (vs := [iV xg, iV yg]) (ob := []) (by as_aux_lemma => kernel_rfl) An enters66 (compare_int xg yg w3  ) ?_
 clear hf; rintro _ w4 a ⟨rfl, hk⟩ hf
 have hM := hM.keepNn hk
 have hk0 := hk0.trans hk.nn
 clear hk
 have hC := (hCq1i _ ⟨hM.sub (.cons_cons _ (.cons_cons _ .slnil)), hk0, trivial⟩)
 refine scdone hC ?_
 refine scstep rfl ?_
 refine sxbslice hf hM (t := 102) (e := 3) (len := 3) (cs := [iV (cmpN xa ya), iV (cmpN xi yi), iV (cmpN xg yg)]) (ob := []) rfl rfl rfl rfl (by as_aux_lemma => kernel_rfl) An (by as_aux_lemma => kernel_rfl) ?_
 clear hf hM; intro a w5 B2 hf hM hB hk
 replace hM : MemOk [⟨B1, 93, [iV xi, iV xg, iV xa]⟩, ⟨B1 + 1, 93, [iV yi, iV yg, iV ya]⟩, ⟨B2, 3, [iV (cmpN xa ya), iV (cmpN xi yi), iV (cmpN xg yg)]⟩] w5 := hM
 have hbB2 : w.heap.size ≤ B2 := by have := hk0.size; omega
 have hk0 := hk0.trans hk.nn
 clear hk hB
 have hC := (hCq1i _ ⟨hM.sub (.cons_cons _ (.cons_cons _ (.cons _ .slnil))), hk0, trivial⟩)
 refine scdone hC ?_
 refine scstep rfl ?_
 refine sxcall hf rfl rfl rfl rfl (g := 65) (vs := [.slice (some ⟨B2, 0, none⟩) 3 3]) (ob := []) (by as_aux_lemma => kernel_rfl) An enters65 (or3 (some ⟨B2, 0, none⟩) (cmpN xa ya) (cmpN xi yi) (cmpN xg yg) 3 w5  (Arr.of_memT (sz := 1) (f := fI) (L := ([(cmpN xa ya), (cmpN xi yi), (cmpN xg yg)] : List Int)) (l := ([(cmpN xa ya), (cmpN xi yi), (cmpN xg yg)] : List Int)) hM (List.Mem.tail _ (List.Mem.tail _ (List.Mem.head _))) (fun _ => rfl) rfl rfl)) ?_
 clear hf; rintro _ w6 a ⟨rfl, hk⟩ hf
 have hM := hM.keepNn hk
 have hk0 := hk0.trans hk.nn
 clear hk
 have hC := (hCq1i _ ⟨hM.sub (.cons_cons _ (.cons_cons _ (.cons _ .slnil))), hk0, trivial⟩)
 refine scdone hC ?_
 refine qd hf hC (fun w' h => (hCq1e w' h).1) [] [{}] (nw := [(4, eI (orI (cmpN xa ya) (orI (cmpN xi yi) (cmpN xg yg))))]) An ?_
 clear hf; intro a hf
 clear hC
 show K2 _ _
 refine hK2 _ _ ?_
 refine wp_ret ?_
 refine qr (fn := Tryd.f48) hf hM [] (l := [iV (orI (cmpN xa ya) (orI (cmpN xi yi) (cmpN xg yg)))]) (ob := []) An ?_
 show (iV (orI (cmpN xa ya) (orI (cmpN xi yi) (cmpN xg yg))) : Value) = .int .i64 (cmpF (⟨xi, xg, xa⟩ : F3) (⟨yi, yg, ya⟩ : F3)) ∧ Keep Nn w w6
 exact ⟨rfl, hk0⟩

set_option maxRecDepth 10000 in
set_option maxHeartbeats 1600000 in
theorem bsearch_found (av : Option Addr) (l : List F3) (c : Nat) (ti tg ta : Int) (w : World) (hav : Arr w 3 av l.length c (flat fF l)) (hbav : l.length ≤ 1000000) (hrs : Rises ltF l) :
    Calls Tryd.prog 47 #[.slice av l.length c, .agg #[iV ti, iV tg, iV ta], .func (.func 48) #[] #[]] w (Ret fun v w' => v = .tuple #[iV ((pos ltF l (⟨ti, tg, ta⟩ : F3) : Nat) : Int), bV (inS l (⟨ti, tg, ta⟩ : F3))] ∧ Keep Nn w w') := by
 refine sxenter (n := 49) (args := [.slice av l.length c, .agg #[iV ti, iV tg, iV ta], .func (.func 48) #[] #[]]) Tryd.func47 rfl rfl rfl fun a hf => ?_
 replace hf : Fr 49 [(0, eS av l.length c), (1, .val (.agg #[iV ti, iV tg, iV ta])), (2, .val (.func (.func 48) #[] #[]))] a := hf
 have hM : MemOk [] w := MemOk.nil w
 have hk0 : Keep Nn w w := Keep.refl _ _
 refine wp_seq_k (fun K1 hK1 => ?_)
 refine wp_region_lit ?_
 refine q1 hf hM [0, 2] [{ os := [.nw] }, {}, {}] (nw := fun B1 => [(7, eB false), (6, eI 0), (4, eP B1 0)]) (M' := fun B1 => [⟨B1, 93, [iV ti, iV tg, iV ta]⟩]) (ob := fun B1 => []) (fun B1 => An) ?_
 clear hf hM; intro a w1 B1 hf hM hB hk
 have hbB1 : w.heap.size ≤ B1 := by have := hk0.size; omega
 have hk0 := hk0.then hk (by intro i _ h; cases h)
 clear hk hB
 refine wpList_nil ?_
 refine hK1 _ _ ?_
 refine wp_seq_k (fun K2 hK2 => ?_)
 refine wp_region_lit ?_
 refine q0 hf hM [7, 6, 4, 0, 2] [{}, {}, {}] (nw := [(8, eI (l.length : Int))]) An ?_
 clear hf; intro a hf
 refine wpList_nil ?_
 refine hK2 _ _ ?_
 refine wp_seq_k (fun K3 hK3 => ?_)
 refine wp_region_lit ?_
 refine q0 hf hM [8, 7, 6, 4, 0, 2] [{}, {}, {}] (nw := [(10, eI (l.length : Int)), (9, eI 0)]) An ?_
 clear hf; intro a hf
 refine wpList_nil ?_
 refine hK3 _ _ ?_
 refine wp_seq_k (fun K4 hK4 => ?_)
 refine wp_block ?_
 have hf := (hf.prune [0, 2, 4, 6, 7, 8, 9, 10]).to (env' := [(0, eS av l.length c), (2, .val (.func (.func 48) #[] #[])), (4, eP B1 0), (6, eI 0), (7, eB false), (8, eI (l.length : Int)), (9, eI 0), (10, eI (l.length : Int))]) (by kernel_rfl)
 refine sxloop (fun zm a w1 => ∃ (i j : Int), zm = (j - i).toNat ∧ Fr 49 [(0, eS av l.length c), (2, .val (.func (.func 48) #[] #[])), (4, eP B1 0), (6, eI 0), (7, eB false), (8, eI (l.length : Int)), (9, eI i), (10, eI j)] a ∧ MemOk [⟨B1, 93, [iV ti, iV tg, iV ta]⟩] w1 ∧ Keep Nn w w1 ∧ (Half ltF l (⟨ti, tg, ta⟩ : F3) ⟨0, 0, 0⟩ i j)) _ ⟨0, (l.length : Int), rfl, hf.conv (Ac rfl (Ac rfl (Ac rfl (Ac rfl (Ac rfl (Ac rfl (Ac rfl (Ao rfl)))))))), hM, hk0, Half.start _ _ _⟩ ?_
 clear hf hM hk0
 rintro _ a w2 ⟨i, j, rfl, hf, hM, hk0, hhf⟩ L1 hL1
 have hh1 := hhf.le
 refine wp_seq_k (fun K5 hK5 => ?_)
 refine wp_seq_k (fun K6 hK6 => ?_)
 refine wp_region_lit ?_
 refine q0 hf hM [0, 2, 4, 6, 7, 8, 9, 10] [{}, {}, {}] (nw := [(17, eB (decide ((i : Int) < j)))]) An ?_
 clear hf; intro a hf
 refine wpList_nil ?_
 refine hK6 _ _ ?_
 refine qc hf (b := (decide ((i : Int) < j))) (fun hc1r => ?_) (fun hc1r => ?_)
 · have hc1 := (nT hc1r)
   refine wp_skip ?_
   refine hK5 _ _ ?_
   refine wp_block ?_
   refine wp_seq_k (fun K7 hK7 => ?_)
   refine wp_region_lit ?_
   refine q0 hf hM [0, 2, 4, 6, 7, 8, 9, 10] [{}, {}, { hint := some (iV (i + j)) }, { hint := some (uV (i + j)) }, { sp := true, hint := some (uV ((i + j) / 2)) }, { hint := some (iV ((i + j) / 2)) }, {}] (nw := [(11, eI ((i + j) / 2))]) (ob := [(iV (IntKind.i64.wrap (i + j)) : Value) = (iV (i + j) : Value), (uV (IntKind.u64.wrap (i + j)) : Value) = (uV (i + j) : Value), 0 ≤ (1 : Int), (uV (Int.fdiv (i + j) (2 ^ (min (1 : Int).toNat IntKind.u64.bits))) : Value) = (uV ((i + j) / 2) : Value), (iV (IntKind.i64.wrap ((i + j) / 2)) : Value) = (iV ((i + j) / 2) : Value)]) (Ac (wr (by omega)) (Ac (wru (by omega)) (Ac (by omega) (Ac (shrOne (by omega)) (Ao (wr (by omega))))))) ?_
   clear hf; intro a hf
   refine wpList_nil ?_
   refine hK7 _ _ ?_
   refine wp_seq_k (fun K8 hK8 => ?_)
   replace hM := hM.drew; replace hk0 := hk0.drew
   obtain ⟨Cq1, hCq1i, hCq1e⟩ := qcls fun w' => MemOk [⟨B1, 93, [iV ti, iV tg, iV ta]⟩] w' ∧ Keep Nn w w' ∧ True
   refine sxdraw (C := Cq1) (.leaf [(0, true), (1, true), (2, true), (3, true), (4, true), (5, true), (6, false), (7, true)]) (by kernel_rfl) (by kernel_rfl) (by as_aux_lemma => kernel_rfl) rfl (by as_aux_lemma => kernel_rfl) (by kernel_rfl) (hCq1i _ ⟨hM.sub (.cons_cons _ .slnil), hk0, trivial⟩) ?_
   refine sxleaf ?_
   have hC := (hCq1i _ ⟨hM.sub (.cons_cons _ .slnil), hk0, trivial⟩)
   refine qd hf hC (fun w' h => (hCq1e w' h).1) [11, 0, 2, 4, 6, 7, 8, 9, 10] [{}, {}, {}, { sp := true }, { os := [.ex (iV ((l.getD ((i + j) / 2).toNat ⟨0, 0, 0⟩).i)), .ex (iV ((l.getD ((i + j) / 2).toNat ⟨0, 0, 0⟩).g)), .ex (iV ((l.getD ((i + j) / 2).toNat ⟨0, 0, 0⟩).a))] }, { os := [.ld 0 0, .ld 0 1, .ld 0 2] }] (nw := [(29, .val (.agg #[iV ti, iV tg, iV ta])), (28, .val (.agg #[iV ((l.getD ((i + j) / 2).toNat ⟨0, 0, 0⟩).i), iV ((l.getD ((i + j) / 2).toNat ⟨0, 0, 0⟩).g), iV ((l.getD ((i + j) / 2).toNat ⟨0, 0, 0⟩).a)])), (27, .val (.pointer (some ((sa av : Addr).add (((i + j) / 2).toNat * 3))))), (26, eI ((i + j) / 2)), (25, eS av l.length c), (24, .val (.func (.func 48) #[] #[]))]) (ob := [(0 : Int) ≤ ((i + j) / 2) ∧ ((i + j) / 2) < (l.length : Int), (av : Option Addr).isSome = true, (∀ w', Cq1 w' → w'.cell? (((sa av : Addr).add (((i + j) / 2).toNat * 3)).add 0) = some (iV ((l.getD ((i + j) / 2).toNat ⟨0, 0, 0⟩).i))), (∀ w', Cq1 w' → w'.cell? (((sa av : Addr).add (((i + j) / 2).toNat * 3)).add 1) = some (iV ((l.getD ((i + j) / 2).toNat ⟨0, 0, 0⟩).g))), (∀ w', Cq1 w' → w'.cell? (((sa av : Addr).add (((i + j) / 2).toNat * 3)).add 2) = some (iV ((l.getD ((i + j) / 2).toNat ⟨0, 0, 0⟩).a))), Ad B1 0, Ad B1 1, Ad B1 2]) (Ac (by first | omega | (simp; done)) (Ac ((hav.keepNn hk0).some_ (by first | omega | (simp; done))) (Ac (fun w' hc => by obtain ⟨hM, hk0, hO⟩ := hCq1e w' hc; exact ((hav.keepNn hk0).get (fun _ => rfl) (by first | omega | (simp; done)) rfl)) (Ac (fun w' hc => by obtain ⟨hM, hk0, hO⟩ := hCq1e w' hc; exact ((hav.keepNn hk0).get (fun _ => rfl) (by first | omega | (simp; done)) rfl)) (Ac (fun w' hc => by obtain ⟨hM, hk0, hO⟩ := hCq1e w' hc; exact ((hav.keepNn hk0).get (fun _ => rfl) (by first | omega | (simp; done)) rfl)) (Ac (ad _ _) (Ac (ad _ _) (Ao (ad _ _))))))))) ?_
   clear hf; intro a hf
   refine scstep rfl ?_
   refine sxcall hf rfl rfl rfl rfl (g := 48) (vs := [.agg #[iV ((l.getD ((i + j) / 2).toNat ⟨0, 0, 0⟩).i), iV ((l.getD ((i + j) / 2).toNat ⟨0, 0, 0⟩).g), iV ((l.getD ((i + j) / 2).toNat ⟨0, 0, 0⟩).a)], .agg #[iV ti, iV tg, iV ta]]) (ob := []) (by as_aux_lemma => kernel_rfl) An enters48 (ncompare ((l.getD ((i + j) / 2).toNat ⟨0, 0, 0⟩).i) ((l.getD ((i + j) / 2).toNat ⟨0, 0, 0⟩).g) ((l.getD ((i + j) / 2).toNat ⟨0, 0, 0⟩).a) ti tg ta w2.drew  ) ?_
   clear hf; rintro _ w3 a ⟨rfl, hk⟩ hf
   have hM := hM.keepNn hk
   have hk0 := hk0.trans hk.nn
   clear hk
   have hC := (hCq1i _ ⟨hM.sub (.cons_cons _ .slnil), hk0, trivial⟩)
   refine scdone hC ?_
   refine qd hf hC (fun w' h => (hCq1e w' h).1) [30, 29, 28, 27, 26, 25, 24, 11, 0, 2, 4, 6, 7, 8, 9, 10] [{}] (nw := [(31, eB (decide (((cmpF (⟨((l.getD ((i + j) / 2).toNat ⟨0, 0, 0⟩).i), ((l.getD ((i + j) / 2).toNat ⟨0, 0, 0⟩).g), ((l.getD ((i + j) / 2).toNat ⟨0, 0, 0⟩).a)⟩ : F3) (⟨ti, tg, ta⟩ : F3)) : Int) < 0)))]) An ?_
   clear hf; intro a hf
   clear hC
   show K8 _ _
   refine hK8 _ _ ?_
   refine qc hf (b := (decide (((cmpF (⟨((l.getD ((i + j) / 2).toNat ⟨0, 0, 0⟩).i), ((l.getD ((i + j) / 2).toNat ⟨0, 0, 0⟩).g), ((l.getD ((i + j) / 2).toNat ⟨0, 0, 0⟩).a)⟩ : F3) (⟨ti, tg, ta⟩ : F3)) : Int) < 0))) (fun hc2r => ?_) (fun hc2r => ?_)
   · have hc2 := (nT hc2r)
     refine wp_region_lit ?_
     refine q0 hf hM [31, 30, 29, 28, 27, 26, 25, 24, 0, 2, 4, 6, 7, 8, 10] [{}, { hint := some (iV (((i + j) / 2) + 1)) }, {}] (nw := [(9, eI (((i + j) / 2) + 1))]) (ob := [(iV (IntKind.i64.wrap (((i + j) / 2) + 1)) : Value) = (iV (((i + j) / 2) + 1) : Value)]) (Ao (wr (by omega))) ?_
     clear hf; intro a hf
     refine wpList_nil ?_
     have hhf2 := hhf.low ordF hrs (m := (i + j) / 2) ⟨by omega, by omega⟩ ((cmpF_neg _ _).1 (by assumption))
     have hf := (hf.prune [0, 2, 4, 6, 7, 8, 9, 10]).to (env' := [(0, eS av l.length c), (2, .val (.func (.func 48) #[] #[])), (4, eP B1 0), (6, eI 0), (7, eB false), (8, eI (l.length : Int)), (9, eI (((i + j) / 2) + 1)), (10, eI j)]) (by kernel_rfl)
     refine hL1 _ _ _ (by omega) ⟨((i + j) / 2) + 1, j, rfl, hf.conv (Ac rfl (Ac rfl (Ac rfl (Ac rfl (Ac rfl (Ac rfl (Ac rfl (Ao rfl)))))))), hM, hk0, hhf2⟩
   · have hc2 := (nU hc2r)
     refine wp_region_lit ?_
     refine q0 hf hM [31, 30, 29, 28, 27, 26, 25, 24, 0, 2, 4, 6, 7, 8, 9] [{}, {}] (nw := [(10, eI ((i + j) / 2))]) An ?_
     clear hf; intro a hf
     refine wpList_nil ?_
     have hhf2 := hhf.high ordF hrs (m := (i + j) / 2) ⟨by omega, by omega⟩ (by rw [← Bool.not_eq_true, ← cmpF_neg]; assumption)
     have hf := (hf.prune [0, 2, 4, 6, 7, 8, 9, 10]).to (env' := [(0, eS av l.length c), (2, .val (.func (.func 48) #[] #[])), (4, eP B1 0), (6, eI 0), (7, eB false), (8, eI (l.length : Int)), (9, eI i), (10, eI ((i + j) / 2))]) (by kernel_rfl)
     refine hL1 _ _ _ (by omega) ⟨i, (i + j) / 2, rfl, hf.conv (Ac rfl (Ac rfl (Ac rfl (Ac rfl (Ac rfl (Ac rfl (Ac rfl (Ao rfl)))))))), hM, hk0, hhf2⟩
 · have hc1 := (nU hc1r)
   refine wp_exit ?_
   refine hK4 _ _ ?_
   refine wp_seq_k (fun K9 hK9 => ?_)
   replace hM := hM.drew; replace hk0 := hk0.drew
   obtain ⟨Cq2, hCq2i, hCq2e⟩ := qcls fun w' => MemOk [⟨B1, 93, [iV ti, iV tg, iV ta]⟩] w' ∧ Keep Nn w w' ∧ True
   refine sxdraw (C := Cq2) (.leaf [(0, true), (1, true), (2, true), (3, true), (4, true), (5, true), (6, true), (7, true), (8, true), (9, true), (10, true), (11, false), (12, true), (13, true), (14, true), (15, true)]) (by kernel_rfl) (by kernel_rfl) (by as_aux_lemma => kernel_rfl) rfl (by as_aux_lemma => kernel_rfl) (by kernel_rfl) (hCq2i _ ⟨hM.sub (.cons_cons _ .slnil), hk0, trivial⟩) ?_
   refine sxleaf ?_
   have hC := (hCq2i _ ⟨hM.sub (.cons_cons _ .slnil), hk0, trivial⟩)
   refine qd hf hC (fun w' h => (hCq2e w' h).1) [0, 2, 4, 6, 7, 9] [{}, {}, {}, {}, {}] (nw := [(39, eB (decide ((i : Int) < (l.length : Int)))), (35, eI i)]) An ?_
   clear hf; intro a hf
   rcases Bool.eq_false_or_eq_true (decide ((i : Int) < (l.length : Int))) with hg1r | hg1r
   · have hg1 := (nT hg1r)
     have hf := hf.setb 39 hg1r
     refine qd hf hC (fun w' h => (hCq2e w' h).1) [39, 35, 6, 7] [{}, {}, {}, { sp := true }, { os := [.ex (iV (l.getD i.toNat ⟨0, 0, 0⟩).i), .ex (iV (l.getD i.toNat ⟨0, 0, 0⟩).g), .ex (iV (l.getD i.toNat ⟨0, 0, 0⟩).a)] }, { os := [.ld 0 0, .ld 0 1, .ld 0 2] }] (nw := [(45, .val (.agg #[iV ti, iV tg, iV ta])), (44, .val (.agg #[iV (l.getD i.toNat ⟨0, 0, 0⟩).i, iV (l.getD i.toNat ⟨0, 0, 0⟩).g, iV (l.getD i.toNat ⟨0, 0, 0⟩).a])), (40, .val (.func (.func 48) #[] #[]))]) (ob := [true = true, true = true, true = true, true = true, (0 : Int) ≤ i ∧ i < (l.length : Int), (av : Option Addr).isSome = true, true = true, (∀ w', Cq2 w' → w'.cell? (((sa av : Addr).add (i.toNat * 3)).add 0) = some (iV (l.getD i.toNat ⟨0, 0, 0⟩).i)), (∀ w', Cq2 w' → w'.cell? (((sa av : Addr).add (i.toNat * 3)).add 1) = some (iV (l.getD i.toNat ⟨0, 0, 0⟩).g)), (∀ w', Cq2 w' → w'.cell? (((sa av : Addr).add (i.toNat * 3)).add 2) = some (iV (l.getD i.toNat ⟨0, 0, 0⟩).a)), true = true, Ad B1 0, Ad B1 1, Ad B1 2]) (Ac rfl (Ac rfl (Ac rfl (Ac rfl (Ac (by first | omega | (simp; done)) (Ac ((hav.keepNn hk0).some_ (by first | omega | (simp; done))) (Ac rfl (Ac (fun w' hc => by obtain ⟨hM, hk0, hO⟩ := hCq2e w' hc; exact ((hav.keepNn hk0).get (fun _ => rfl) (by first | omega | (simp; done)) rfl)) (Ac (fun w' hc => by obtain ⟨hM, hk0, hO⟩ := hCq2e w' hc; exact ((hav.keepNn hk0).get (fun _ => rfl) (by first | omega | (simp; done)) rfl)) (Ac (fun w' hc => by obtain ⟨hM, hk0, hO⟩ := hCq2e w' hc; exact ((hav.keepNn hk0).get (fun _ => rfl) (by first | omega | (simp; done)) rfl)) (Ac rfl (Ac (ad _ _) (Ac (ad _ _) (Ao (ad _ _))))))))))))))) ?_
     clear hf; intro a hf
     refine scstep rfl ?_
     refine sxcallg hf rfl rfl rfl rfl rfl (g := 48) (vs := [.agg #[iV (l.getD i.toNat ⟨0, 0, 0⟩).i, iV (l.getD i.toNat ⟨0, 0, 0⟩).g, iV (l.getD i.toNat ⟨0, 0, 0⟩).a], .agg #[iV ti, iV tg, iV ta]]) (ob := []) (by as_aux_lemma => kernel_rfl) An enters48 (ncompare (l.getD i.toNat ⟨0, 0, 0⟩).i (l.getD i.toNat ⟨0, 0, 0⟩).g (l.getD i.toNat ⟨0, 0, 0⟩).a ti tg ta w2.drew  ) ?_
     clear hf; rintro _ w4 a ⟨rfl, hk⟩ hf
     have hM := hM.keepNn hk
     have hk0 := hk0.trans hk.nn
     clear hk
     have hC := (hCq2i _ ⟨hM.sub (.cons_cons _ .slnil), hk0, trivial⟩)
     refine scdone hC ?_
     refine qd hf hC (fun w' h => (hCq2e w' h).1) [] [{}, {}, {}, {}] (nw := [(7, eB (((cmpF (⟨(l.getD i.toNat ⟨0, 0, 0⟩).i, (l.getD i.toNat ⟨0, 0, 0⟩).g, (l.getD i.toNat ⟨0, 0, 0⟩).a⟩ : F3) (⟨ti, tg, ta⟩ : F3)) : Int) == 0)), (6, eI i)]) (ob := [true = true]) (Ao rfl) ?_
     clear hf; intro a hf
     clear hC
     show K9 _ _
     refine hK9 _ _ ?_
     refine wp_ret ?_
     refine qr (fn := Tryd.f47) hf hM [] (l := [iV i, bV (((cmpF (⟨(l.getD i.toNat ⟨0, 0, 0⟩).i, (l.getD i.toNat ⟨0, 0, 0⟩).g, (l.getD i.toNat ⟨0, 0, 0⟩).a⟩ : F3) (⟨ti, tg, ta⟩ : F3)) : Int) == 0)]) (ob := []) An ?_
     show (.tuple #[iV i, bV (((cmpF (⟨(l.getD i.toNat ⟨0, 0, 0⟩).i, (l.getD i.toNat ⟨0, 0, 0⟩).g, (l.getD i.toNat ⟨0, 0, 0⟩).a⟩ : F3) (⟨ti, tg, ta⟩ : F3)) : Int) == 0)] : Value) = .tuple #[iV ((pos ltF l (⟨ti, tg, ta⟩ : F3) : Nat) : Int), bV (inS l (⟨ti, tg, ta⟩ : F3))] ∧ Keep Nn w w4
     have hd := hhf.done (by omega)
     have hm := half_inF (d := ⟨0, 0, 0⟩) hrs hd (by omega)
     rw [← hd, ← hm]
     exact ⟨rfl, hk0⟩
   · have hg1 := (nU hg1r)
     have hf := hf.setb 39 hg1r
     refine qd hf hC (fun w' h => (hCq2e w' h).1) [39, 35, 6, 7] [{ g := .off }, { g := .off }, { g := .off }, { g := .off }, { g := .off }, { g := .off }] (nw := [(45, .val (undef)), (44, .val (undef)), (40, .val (undef))]) (ob := [false = !true, false = !true, false = !true, false = !true, false = !true, false = !true]) (Ac rfl (Ac rfl (Ac rfl (Ac rfl (Ac rfl (Ao rfl)))))) ?_
     clear hf; intro a hf
     refine scstep rfl ?_
     refine q0 hf hM [39, 35, 6, 7] [{ g := .off }] (nw := [(46, .val (undef))]) (ob := [false = !true]) (Ao rfl) ?_
     clear hf; intro a hf
     have hC := (hCq2i _ ⟨hM.sub (.cons_cons _ .slnil), hk0, trivial⟩)
     refine scdone hC ?_
     refine qd hf hC (fun w' h => (hCq2e w' h).1) [7] [{ g := .off }, {}, {}, {}] (nw := [(6, eI i)]) (ob := [false = !true]) (Ao rfl) ?_
     clear hf; intro a hf
     clear hC
     show K9 _ _
     refine hK9 _ _ ?_
     refine wp_ret ?_
     refine qr (fn := Tryd.f47) hf hM [] (l := [iV i, bV false]) (ob := []) An ?_
     show (.tuple #[iV i, bV false] : Value) = .tuple #[iV ((pos ltF l (⟨ti, tg, ta⟩ : F3) : Nat) : Int), bV (inS l (⟨ti, tg, ta⟩ : F3))] ∧ Keep Nn w w2.drew
     have hd := hhf.done (by omega)
     have hm := half_out ordF hrs hd (by omega) ⟨0, 0, 0⟩
     rw [← hd, hm]
     exact ⟨rfl, hk0⟩

set_option maxRecDepth 10000 in
set_option maxHeartbeats 1600000 in
theorem near_enter (E : Nat → Addr) (Pb oB Rb : Nat) (px py k : Int) (av : Option Addr) (L : List F3) (c : Nat) (d x y : Int) (w : World) (hn0 : (cellRight d x y) = true) (hn1 : (reach px py) = true) (hP0 : w.cell? ⟨Pb, 0, none⟩ = some (.int .i64 px)) (hP1 : w.cell? ⟨Pb, 1, none⟩ = some (.int .i64 py)) (hR0 : w.cell? ⟨Rb, 0, none⟩ = some (.int .i64 k)) (hkk : 0 ≤ k ∧ k ≤ 9223372036854775807) (hLV : w.cell? ⟨oB, 0, none⟩ = some (.slice av L.length c)) (hav : Arr w 3 av L.length c (flat fF L)) (hbL : L.length ≤ 1000000) :
    Calls Tryd.prog 45 #[.agg #[iV d, iV x, iV y], pV Pb 0, pV oB 0, pV Rb 0] w (Ret fun v w' => v = .bool (nearE px py k L (⟨d, x, y⟩ : C3)) ∧ Keep Nn w w') := by
 refine sxenter (n := 35) (args := [.agg #[iV d, iV x, iV y], pV Pb 0, pV oB 0, pV Rb 0]) Tryd.func45 rfl rfl rfl fun a hf => ?_
 replace hf : Fr 35 [(0, .val (.agg #[iV d, iV x, iV y])), (1, eP Pb 0), (2, eP oB 0), (3, eP Rb 0)] a := hf
 have hM : MemOk [] w := MemOk.nil w
 have hk0 : Keep Nn w w := Keep.refl _ _
 refine wp_seq_k (fun K1 hK1 => ?_)
 refine wp_region_lit ?_
 refine q1 hf hM [1, 2, 3] [{ os := [.nw] }, {}] (nw := fun B1 => [(4, eP B1 0)]) (M' := fun B1 => [⟨B1, 29, [iV d, iV x, iV y]⟩]) (ob := fun B1 => []) (fun B1 => An) ?_
 clear hf hM; intro a w1 B1 hf hM hB hk
 have hbB1 : w.heap.size ≤ B1 := by have := hk0.size; omega
 have hk0 := hk0.then hk (by intro i _ h; cases h)
 clear hk hB
 refine wpList_nil ?_
 refine hK1 _ _ ?_
 refine wp_seq_k (fun K2 hK2 => ?_)
 refine wp_region_lit ?_
 refine q0 hf hM [2, 3] [{ os := [.ld 0 0, .ld 0 1, .ld 0 2] }, { os := [.ex (iV px), .ex (iV py)] }] (nw := [(10, .val (.agg #[iV px, iV py])), (9, .val (.agg #[iV d, iV x, iV y]))]) (ob := [Ad B1 0, Ad B1 1, Ad B1 2, w1.cell? ⟨Pb, 0, none⟩ = some (iV px), w1.cell? ⟨Pb, 1, none⟩ = some (iV py)]) (Ac (ad _ _) (Ac (ad _ _) (Ac (ad _ _) (Ac (hk0.cell hP0 (fun h => h)) (Ao (hk0.cell hP1 (fun h => h))))))) ?_
 clear hf; intro a hf
 refine sxcall hf rfl rfl rfl rfl (g := 40) (vs := [.agg #[iV d, iV x, iV y], .agg #[iV px, iV py]]) (ob := []) (by as_aux_lemma => kernel_rfl) An enters40 (nreach_ok E px py d x y w1 hn0 hn1 ) ?_
 clear hf; rintro _ w2 a ⟨rfl, hk⟩ hf
 have hM := hM.keepNn hk
 have hk0 := hk0.trans hk.nn
 clear hk
 refine q0 hf hM [2, 3] [{}, {}, {}, {}, {}] (nw := [(7, eB true), (6, eI (gapC px py d x y))]) An ?_
 clear hf; intro a hf
 refine wpList_nil ?_
 refine hK2 _ _ ?_
 refine wp_seq_k (fun K3 hK3 => ?_)
 refine wp_region_lit ?_
 refine q0 hf hM [6, 2, 3] [{}, {}, { os := [.ex (.slice av L.length c)] }, {}, { os := [.ex (iV k)] }, {}, {}] (nw := [(20, eB (decide (((L.length : Int) : Int) < k))), (15, eB true)]) (ob := [true = true, w2.cell? ⟨oB, 0, none⟩ = some (.slice av L.length c), true = true, true = true, w2.cell? ⟨Rb, 0, none⟩ = some (iV k), true = true, true = true]) (Ac rfl (Ac (hk0.cell hLV (fun h => h)) (Ac rfl (Ac rfl (Ac (hk0.cell hR0 (fun h => h)) (Ac rfl (Ao rfl))))))) ?_
 clear hf; intro a hf
 rcases Bool.eq_false_or_eq_true (decide (((L.length : Int) : Int) < k)) with hg1r | hg1r
 · have hg1 := (nT hg1r)
   have hf := hf.setb 20 hg1r
   refine q0 hf hM [] [{ g := .off }, { g := .off }, { g := .off }, { g := .off }, { g := .off }, { g := .off }, { g := .off }, { g := .off }, { g := .off }, { g := .off }, { g := .off }, { g := .off }, {}, {}, {}] (nw := [(5, eB true)]) (ob := [true = !false, true = !false, true = !false, true = !false, true = true]) (Ac rfl (Ac rfl (Ac rfl (Ac rfl (Ao rfl))))) ?_
   clear hf; intro a hf
   refine wpList_nil ?_
   refine hK3 _ _ ?_
   refine wp_ret ?_
   refine qr (fn := Tryd.f45) hf hM [] (l := [bV true]) (ob := []) An ?_
   show (bV true : Value) = .bool (nearE px py k L (⟨d, x, y⟩ : C3)) ∧ Keep Nn w w2
   refine ⟨congrArg Value.bool ?_, hk0⟩
   unfold nearE
   simp only [hg1r, Bool.true_or, Bool.false_or, Bool.true_and, Bool.false_and, Bool.or_false]
 · have hg1 := (nU hg1r)
   have hf := hf.setb 20 hg1r
   refine q0 hf hM [20, 15, 6, 2, 3] [{ os := [.ex (iV k)] }, {}, {}] (nw := [(23, eB (decide ((k : Int) > 0)))]) (ob := [false = false, w2.cell? ⟨Rb, 0, none⟩ = some (iV k), false = false, false = false]) (Ac rfl (Ac (hk0.cell hR0 (fun h => h)) (Ac rfl (Ao rfl)))) ?_
   clear hf; intro a hf
   rcases Bool.eq_false_or_eq_true (decide ((k : Int) > 0)) with hg2r | hg2r
   · have hg2 := (nT hg2r)
     have hf := hf.setb 23 hg2r
     refine q0 hf hM [] [{}, { os := [.ex (.slice av L.length c)] }, { os := [.ex (iV k)] }, { hint := some (iV (k - 1)) }, { sp := true }, {}, { os := [.ex (iV ((L.getD (k - 1).toNat ⟨0, 0, 0⟩).a))] }, {}, {}, {}, {}, {}] (nw := [(5, eB (decide (((gapC px py d x y) : Int) ≤ ((L.getD (k - 1).toNat ⟨0, 0, 0⟩).a))))]) (ob := [true = true, true = true, w2.cell? ⟨oB, 0, none⟩ = some (.slice av L.length c), true = true, w2.cell? ⟨Rb, 0, none⟩ = some (iV k), true = true, (iV (IntKind.i64.wrap (k - 1)) : Value) = (iV (k - 1) : Value), true = true, (0 : Int) ≤ (k - 1) ∧ (k - 1) < (L.length : Int), (av : Option Addr).isSome = true, true = true, true = true, w2.cell? (((sa av : Addr).add ((k - 1).toNat * 3)).add 2) = some (iV ((L.getD (k - 1).toNat ⟨0, 0, 0⟩).a)), true = true, false = false, true = true]) (Ac rfl (Ac rfl (Ac (hk0.cell hLV (fun h => h)) (Ac rfl (Ac (hk0.cell hR0 (fun h => h)) (Ac rfl (Ac (wr (by omega)) (Ac rfl (Ac (by first | omega | (simp; done)) (Ac ((hav.keepNn hk0).some_ (by first | omega | (simp; done))) (Ac rfl (Ac rfl (Ac ((hav.keepNn hk0).get (fun _ => rfl) (by first | omega | (simp; done)) rfl) (Ac rfl (Ac rfl (Ao rfl)))))))))))))))) ?_
     clear hf; intro a hf
     refine wpList_nil ?_
     refine hK3 _ _ ?_
     refine wp_ret ?_
     refine qr (fn := Tryd.f45) hf hM [] (l := [bV (decide (((gapC px py d x y) : Int) ≤ ((L.getD (k - 1).toNat ⟨0, 0, 0⟩).a)))]) (ob := []) An ?_
     show (bV (decide (((gapC px py d x y) : Int) ≤ ((L.getD (k - 1).toNat ⟨0, 0, 0⟩).a))) : Value) = .bool (nearE px py k L (⟨d, x, y⟩ : C3)) ∧ Keep Nn w w2
     refine ⟨congrArg Value.bool ?_, hk0⟩
     unfold nearE
     simp only [hg1r, hg2r, Bool.true_or, Bool.false_or, Bool.true_and, Bool.false_and, Bool.or_false]
   · have hg2 := (nU hg2r)
     have hf := hf.setb 23 hg2r
     refine q0 hf hM [] [{ g := .off }, { g := .off }, { g := .off }, { g := .off }, { g := .off }, { g := .off }, { g := .off }, { g := .off }, {}, {}, {}, {}] (nw := [(5, eB false)]) (ob := [false = !true, false = !true, false = !true, false = !true, false = !true, false = !true, false = !true, false = !true, false = false, true = true]) (Ac rfl (Ac rfl (Ac rfl (Ac rfl (Ac rfl (Ac rfl (Ac rfl (Ac rfl (Ac rfl (Ao rfl)))))))))) ?_
     clear hf; intro a hf
     refine wpList_nil ?_
     refine hK3 _ _ ?_
     refine wp_ret ?_
     refine qr (fn := Tryd.f45) hf hM [] (l := [bV false]) (ob := []) An ?_
     show (bV false : Value) = .bool (nearE px py k L (⟨d, x, y⟩ : C3)) ∧ Keep Nn w w2
     refine ⟨congrArg Value.bool ?_, hk0⟩
     unfold nearE
     simp only [hg1r, hg2r, Bool.true_or, Bool.false_or, Bool.true_and, Bool.false_and, Bool.or_false]

set_option maxRecDepth 10000 in
set_option maxHeartbeats 1600000 in
theorem near_each (E : Nat → Addr) (base oB Pb Rb : Nat) (px py k : Int) (av : Option Addr) (L : List F3) (c : Nat) (hi hg : Int) (x0 y0 x1 y1 : Int) (w : World) (hn0 : (boxRight x0 y0 x1 y1) = true) (hn1 : (reach px py) = true) (hM0 : MemOk [⟨oB, 91, [.slice av L.length c]⟩] w) (hO0 : OwnOk base [⟨oB, 91, [.slice av L.length c]⟩] [oS 93 3 (.slice av L.length c) L.length (flat fF L)] w) (hbL : L.length ≤ 1000000) (hrs : Rises ltF L) (hP0 : w.cell? ⟨Pb, 0, none⟩ = some (.int .i64 px)) (hP1 : w.cell? ⟨Pb, 1, none⟩ = some (.int .i64 py)) (hR0 : w.cell? ⟨Rb, 0, none⟩ = some (.int .i64 k)) (hkk : 0 ≤ k ∧ k ≤ 9223372036854775807) (hnP : ¬ Pb ∈ oB :: (Value.ownBlock (.slice av L.length c)).toList) (hnR : ¬ Rb ∈ oB :: (Value.ownBlock (.slice av L.length c)).toList) (hbw : base ≤ w.heap.size) :
    Calls Tryd.prog 46 #[.agg #[iV hi, iV hg], .agg #[iV x0, iV y0, iV x1, iV y1], pV Pb 0, pV oB 0, pV Rb 0] w (Ret fun v w' => v = .tuple #[] ∧ ∃ a' c', MemOk [⟨oB, 91, [.slice a' ((insL ltF L (toF px py ((⟨hi, hg⟩ : H2), (⟨x0, y0, x1, y1⟩ : B4)))).take k.toNat).length c']⟩] w' ∧ OwnOk base [⟨oB, 91, [.slice a' ((insL ltF L (toF px py ((⟨hi, hg⟩ : H2), (⟨x0, y0, x1, y1⟩ : B4)))).take k.toNat).length c']⟩] [oS 93 3 (.slice a' ((insL ltF L (toF px py ((⟨hi, hg⟩ : H2), (⟨x0, y0, x1, y1⟩ : B4)))).take k.toNat).length c') ((insL ltF L (toF px py ((⟨hi, hg⟩ : H2), (⟨x0, y0, x1, y1⟩ : B4)))).take k.toNat).length (flat fF ((insL ltF L (toF px py ((⟨hi, hg⟩ : H2), (⟨x0, y0, x1, y1⟩ : B4)))).take k.toNat))] w' ∧ Keep (fun i => i ∈ oB :: (Value.ownBlock (.slice av L.length c)).toList) w w' ∧ (∀ j, Value.ownBlock (.slice a' ((insL ltF L (toF px py ((⟨hi, hg⟩ : H2), (⟨x0, y0, x1, y1⟩ : B4)))).take k.toNat).length c') = some j → Value.ownBlock (.slice av L.length c) = some j ∨ w.heap.size ≤ j)) := by
 refine sxenter (n := 41) (args := [.agg #[iV hi, iV hg], .agg #[iV x0, iV y0, iV x1, iV y1], pV Pb 0, pV oB 0, pV Rb 0]) Tryd.func46 rfl rfl rfl fun a hf => ?_
 replace hf : Fr 41 [(0, .val (.agg #[iV hi, iV hg])), (1, .val (.agg #[iV x0, iV y0, iV x1, iV y1])), (2, eP Pb 0), (3, eP oB 0), (4, eP Rb 0)] a := hf
 have hM : MemOk [⟨oB, 91, [.slice av L.length c]⟩] w := hM0
 have hk0 : Keep (fun i => i ∈ oB :: (Value.ownBlock (.slice av L.length c)).toList) w w := Keep.refl _ _
 have hO : OwnOk base [⟨oB, 91, [.slice av L.length c]⟩] [oS 93 3 (.slice av L.length c) L.length (flat fF L)] w := hO0
 have hil := insL_len (lt := ltF) L (toF px py ((⟨hi, hg⟩ : H2), (⟨x0, y0, x1, y1⟩ : B4)))
 refine wp_seq_k (fun K1 hK1 => ?_)
 refine wp_region_lit ?_
 refine q1 hf hM [2, 3, 4] [{ os := [.nw] }, { os := [.nw] }] (nw := fun B1 => [(6, eP (B1 + 1) 0), (5, eP B1 0)]) (M' := fun B1 => [⟨oB, 91, [.slice av L.length c]⟩, ⟨B1, 39, [iV hi, iV hg]⟩, ⟨B1 + 1, 32, [iV x0, iV y0, iV x1, iV y1]⟩]) (ob := fun B1 => []) (fun B1 => An) ?_
 clear hf hM; intro a w1 B1 hf hM hB hk
 have hbB1 : w.heap.size ≤ B1 := by have := hk0.size; omega
 have hk0 := hk0.then hk (by intro i hi h; simp only [Is, Mem.names, List.map_cons, List.map_nil, List.mem_cons, List.not_mem_nil, or_false] at h ⊢; omega)
 have hO := hO.step hM hk (by intro i h; simp only [Mem.names, List.map_cons, List.map_nil, List.mem_cons, List.not_mem_nil, or_false, List.map_append, List.cons_append, List.nil_append] at h ⊢; omega)
 clear hk hB
 refine wpList_nil ?_
 refine hK1 _ _ ?_
 refine wp_seq_k (fun K2 hK2 => ?_)
 refine wp_region_lit ?_
 refine q0 hf hM [5, 3, 4] [{ os := [.ld 2 0, .ld 2 1, .ld 2 2, .ld 2 3] }, { os := [.ex (iV px), .ex (iV py)] }] (nw := [(14, .val (.agg #[iV px, iV py])), (13, .val (.agg #[iV x0, iV y0, iV x1, iV y1]))]) (ob := [Ad (B1 + 1) 0, Ad (B1 + 1) 1, Ad (B1 + 1) 2, Ad (B1 + 1) 3, w1.cell? ⟨Pb, 0, none⟩ = some (iV px), w1.cell? ⟨Pb, 1, none⟩ = some (iV py)]) (Ac (ad _ _) (Ac (ad _ _) (Ac (ad _ _) (Ac (ad _ _) (Ac (hk0.cell hP0 hnP) (Ao (hk0.cell hP1 hnP))))))) ?_
 clear hf; intro a hf
 refine sxcall hf rfl rfl rfl rfl (g := 42) (vs := [.agg #[iV x0, iV y0, iV x1, iV y1], .agg #[iV px, iV py]]) (ob := []) (by as_aux_lemma => kernel_rfl) An enters42 (away_ok E px py x0 y0 x1 y1 w1 hn0 hn1 ) ?_
 clear hf; rintro _ w2 a ⟨rfl, hk⟩ hf
 have hO := hO.keepNn hk
 have hM := hM.keepNn hk
 have hk0 := hk0.trans hk.nn
 clear hk
 refine q0 hf hM [5, 3, 4] [{}, {}, {}, {}, {}] (nw := [(8, eB true), (7, eI (awayV px py x0 y0 x1 y1))]) An ?_
 clear hf; intro a hf
 refine wpList_nil ?_
 refine hK2 _ _ ?_
 refine wp_seq_k (fun K3 hK3 => ?_)
 refine wp_seq_k (fun K4 hK4 => ?_)
 refine wp_region_lit ?_
 refine q0 hf hM [7, 5, 3, 4] [{}, {}] (nw := [(19, eB false)]) An ?_
 clear hf; intro a hf
 refine wpList_nil ?_
 refine hK4 _ _ ?_
 refine sxcond hf (b := false) (by kernel_rfl) (fun h => by cases h) (fun _ => ?_)
 refine wp_skip ?_
 refine hK3 _ _ ?_
 refine wp_seq_k (fun K5 hK5 => ?_)
 refine wp_region_lit ?_
 refine q1 hf hM [3, 4] [{ os := [.ld 1 0, .ld 1 1] }, {}, { sp := true }, { os := [.nw] }, { os := [.st 3 0, .st 3 1, .st 3 2] }] (nw := fun B5 => [(9, eP B5 0)]) (M' := fun B5 => [⟨oB, 91, [.slice av L.length c]⟩, ⟨B1, 39, [iV hi, iV hg]⟩, ⟨B1 + 1, 32, [iV x0, iV y0, iV x1, iV y1]⟩, ⟨B5, 93, [iV hi, iV hg, iV (awayV px py x0 y0 x1 y1)]⟩]) (ob := fun B5 => [Ad B1 0, Ad B1 1, Ad B5 0, Ad B5 1, Ad B5 2]) (fun B5 => (Ac (ad _ _) (Ac (ad _ _) (Ac (ad _ _) (Ac (ad _ _) (Ao (ad _ _))))))) ?_
 clear hf hM; intro a w3 B5 hf hM hB hk
 have hbB5 : w.heap.size ≤ B5 := by have := hk0.size; omega
 have hk0 := hk0.then hk (by intro i hi h; simp only [Is, Mem.names, List.map_cons, List.map_nil, List.mem_cons, List.not_mem_nil, or_false] at h ⊢; omega)
 have hO := hO.step hM hk (by intro i h; simp only [Mem.names, List.map_cons, List.map_nil, List.mem_cons, List.not_mem_nil, or_false, List.map_append, List.cons_append, List.nil_append] at h ⊢; omega)
 clear hk hB
 refine wpList_nil ?_
 refine hK5 _ _ ?_
 refine wp_seq_k (fun K6 hK6 => ?_)
 refine wp_region_lit ?_
 refine q0 hf hM [9, 3, 4] [{ os := [.ld 0 0] }, { os := [.ld 3 0, .ld 3 1, .ld 3 2] }] (nw := [(25, .val (.agg #[iV hi, iV hg, iV (awayV px py x0 y0 x1 y1)])), (24, eS av L.length c)]) (ob := [Ad oB 0, Ad B5 0, Ad B5 1, Ad B5 2]) (Ac (ad _ _) (Ac (ad _ _) (Ac (ad _ _) (Ao (ad _ _))))) ?_
 clear hf; intro a hf
 refine sxcall hf rfl rfl rfl rfl (g := 47) (vs := [.slice av L.length c, .agg #[iV hi, iV hg, iV (awayV px py x0 y0 x1 y1)], .func (.func 48) #[] #[]]) (ob := []) (by as_aux_lemma => kernel_rfl) An enters47 (bsearch_found av L c hi hg (awayV px py x0 y0 x1 y1) w3  (own_arr (hO.own _ (List.Mem.head _))) (by first | omega | (simp; omega) | (simp; done) | exact Nat.le_trans (byKinds_len _ _) (by omega) | decide) hrs) ?_
 clear hf; rintro _ w4 a ⟨rfl, hk⟩ hf
 have hO := hO.keepNn hk
 have hM := hM.keepNn hk
 have hk0 := hk0.trans hk.nn
 clear hk
 refine q0 hf hM [9, 3, 4] [{}, {}, {}, {}, {}] (nw := [(10, eI ((pos ltF L (⟨hi, hg, (awayV px py x0 y0 x1 y1)⟩ : F3) : Nat) : Int))]) An ?_
 clear hf; intro a hf
 refine wpList_nil ?_
 refine hK6 _ _ ?_
 refine wp_seq_k (fun K7 hK7 => ?_)
 refine wp_region_lit ?_
 refine q0 hf hM [3, 4] [{ os := [.ld 0 0] }, {}, { os := [.ld 3 0, .ld 3 1, .ld 3 2] }] (nw := [(31, .val (.agg #[iV hi, iV hg, iV (awayV px py x0 y0 x1 y1)])), (30, eI ((pos ltF L (⟨hi, hg, (awayV px py x0 y0 x1 y1)⟩ : F3) : Nat) : Int)), (29, eS av L.length c)]) (ob := [Ad oB 0, Ad B5 0, Ad B5 1, Ad B5 2]) (Ac (ad _ _) (Ac (ad _ _) (Ac (ad _ _) (Ao (ad _ _))))) ?_
 clear hf; intro a hf
 refine sxbslice hf hM (t := 91) (e := 93) (len := 1) (cs := [iV hi, iV hg, iV (awayV px py x0 y0 x1 y1)]) (ob := []) rfl rfl rfl rfl (by as_aux_lemma => kernel_rfl) An (by as_aux_lemma => kernel_rfl) ?_
 clear hf hM; intro a w5 B9 hf hM hB hk
 replace hM : MemOk [⟨oB, 91, [.slice av L.length c]⟩, ⟨B1, 39, [iV hi, iV hg]⟩, ⟨B1 + 1, 32, [iV x0, iV y0, iV x1, iV y1]⟩, ⟨B5, 93, [iV hi, iV hg, iV (awayV px py x0 y0 x1 y1)]⟩, ⟨B9, 93, [iV hi, iV hg, iV (awayV px py x0 y0 x1 y1)]⟩] w5 := hM
 have hbB9 : w.heap.size ≤ B9 := by have := hk0.size; omega
 have hk0 := hk0.trans hk.nn
 have hO := hO.step hM hk.nn (by intro i h; simp only [Mem.names, List.map_cons, List.map_nil, List.mem_cons, List.not_mem_nil, or_false, List.map_append, List.cons_append, List.nil_append] at h ⊢; omega)
 clear hk hB
 have hMv : MemOk [⟨B9, 93, [iV hi, iV hg, iV (awayV px py x0 y0 x1 y1)]⟩] w5 := hM.sub (.cons _ (.cons _ (.cons _ (.cons _ (.cons_cons _ .slnil)))))
 refine sxcall hf rfl rfl rfl rfl (g := 49) (vs := [.slice av L.length c, iV ((pos ltF L (⟨hi, hg, (awayV px py x0 y0 x1 y1)⟩ : F3) : Nat) : Int), .slice (some ⟨B9, 0, none⟩) 1 1]) (ob := []) (by as_aux_lemma => kernel_rfl) An enters49 (finsert base av L c (pos ltF L (toF px py ((⟨hi, hg⟩ : H2), (⟨x0, y0, x1, y1⟩ : B4)))) B9 (toF px py ((⟨hi, hg⟩ : H2), (⟨x0, y0, x1, y1⟩ : B4))) w5 (hO.own _ (List.Mem.head _)) (pos_le _ _) hbL hMv (fun h => hO.apart (List.Mem.head _) h (by simp [Mem.names])) (by have := hk0.size; omega)) ?_
 clear hf hMv; rintro _ w6 a ⟨av2, cv2, rfl, hx, hk, hB⟩ hf
 have hB2 : ∀ j, Value.ownBlock (.slice av2 (L.take (pos ltF L (toF px py ((⟨hi, hg⟩ : H2), (⟨x0, y0, x1, y1⟩ : B4)))) ++ (toF px py ((⟨hi, hg⟩ : H2), (⟨x0, y0, x1, y1⟩ : B4))) :: L.drop (pos ltF L (toF px py ((⟨hi, hg⟩ : H2), (⟨x0, y0, x1, y1⟩ : B4))))).length cv2) = some j → Value.ownBlock (.slice av L.length c) = some j ∨ w.heap.size ≤ j := fun j hj => (hB j hj).imp id (fun h => by have := hk0.size; omega)
 have hO2 := hO.turnB hM (hk.mono fun i _ hi => mem_ob.2 hi) (o' := oS 93 3 _ _ _) hx (fun i hi => (hB i (mem_ob.1 hi)).imp (fun h => mem_ob.2 h) id) (ob_nd _); have hM := hO.memTurn hM hk; clear hO; have hO := hO2; clear hO2
 have hk0 := hk0.then hk (by intro i hi h; exact List.mem_cons_of_mem _ (mem_ob.2 h)); clear hk hB hx
 rw [insL_pos] at hO hf hB2
 replace hO : OwnOk base [⟨oB, 91, [.slice av L.length c]⟩, ⟨B1, 39, [iV hi, iV hg]⟩, ⟨B1 + 1, 32, [iV x0, iV y0, iV x1, iV y1]⟩, ⟨B5, 93, [iV hi, iV hg, iV (awayV px py x0 y0 x1 y1)]⟩, ⟨B9, 93, [iV hi, iV hg, iV (awayV px py x0 y0 x1 y1)]⟩] [oS 93 3 (.slice av2 ((insL ltF L (toF px py ((⟨hi, hg⟩ : H2), (⟨x0, y0, x1, y1⟩ : B4)))).length) cv2) ((insL ltF L (toF px py ((⟨hi, hg⟩ : H2), (⟨x0, y0, x1, y1⟩ : B4)))).length) (flat fF (insL ltF L (toF px py ((⟨hi, hg⟩ : H2), (⟨x0, y0, x1, y1⟩ : B4)))))] w6 := hO
 refine q1 hf hM [3, 4] [{ os := [.st 0 0] }] (nw := fun B10 => []) (M' := fun B10 => [⟨oB, 91, [.slice av2 ((insL ltF L (toF px py ((⟨hi, hg⟩ : H2), (⟨x0, y0, x1, y1⟩ : B4)))).length) cv2]⟩, ⟨B1, 39, [iV hi, iV hg]⟩, ⟨B1 + 1, 32, [iV x0, iV y0, iV x1, iV y1]⟩, ⟨B5, 93, [iV hi, iV hg, iV (awayV px py x0 y0 x1 y1)]⟩, ⟨B9, 93, [iV hi, iV hg, iV (awayV px py x0 y0 x1 y1)]⟩]) (ob := fun B10 => [Ad oB 0]) (fun B10 => (Ao (ad _ _))) ?_
 clear hf hM; intro a w7 B10 hf hM hB hk
 have hbB10 : w.heap.size ≤ B10 := by have := hk0.size; omega
 have hk0 := hk0.then hk (by intro i hi h; simp only [Is, Mem.names, List.map_cons, List.map_nil, List.mem_cons, List.not_mem_nil, or_false] at h ⊢; omega)
 have hO := hO.step hM hk (by intro i h; simp only [Mem.names, List.map_cons, List.map_nil, List.mem_cons, List.not_mem_nil, or_false, List.map_append, List.cons_append, List.nil_append] at h ⊢; omega)
 clear hk hB
 refine wpList_nil ?_
 refine hK7 _ _ ?_
 refine wp_seq_k (fun K8 hK8 => ?_)
 refine wp_region_lit ?_
 refine q0 hf hM [3, 4] [{ os := [.ld 0 0] }, {}, { os := [.ex (iV k)] }, {}] (nw := [(37, eB (decide ((((insL ltF L (toF px py ((⟨hi, hg⟩ : H2), (⟨x0, y0, x1, y1⟩ : B4)))).length : Int) : Int) > k)))]) (ob := [Ad oB 0, w7.cell? ⟨Rb, 0, none⟩ = some (iV k)]) (Ac (ad _ _) (Ao (hk0.cell hR0 hnR))) ?_
 clear hf; intro a hf
 refine wpList_nil ?_
 refine hK8 _ _ ?_
 refine qc hf (b := (decide ((((insL ltF L (toF px py ((⟨hi, hg⟩ : H2), (⟨x0, y0, x1, y1⟩ : B4)))).length : Int) : Int) > k))) (fun hc2r => ?_) (fun hc2r => ?_)
 · have hc2 := (nT hc2r)
   refine wp_region_lit ?_
   refine q0 hf hM [3] [{ os := [.ld 0 0] }, { os := [.ex (iV k)] }] (nw := [(39, eI k), (38, eS av2 ((insL ltF L (toF px py ((⟨hi, hg⟩ : H2), (⟨x0, y0, x1, y1⟩ : B4)))).length) cv2)]) (ob := [Ad oB 0, w7.cell? ⟨Rb, 0, none⟩ = some (iV k)]) (Ac (ad _ _) (Ao (hk0.cell hR0 hnR))) ?_
   clear hf; intro a hf
   refine sxval hf rfl rfl rfl rfl (v := .slice av2 k.toNat cv2) (ob := []) (by kernel_rfl) An (by rw [show (.slice av2 k.toNat cv2 : Value) = .slice av2 (k : Int).toNat cv2 from rfl]; exact ox_slice_h rfl rfl rfl Tryd.underlying91 (sz := 3) (by kernel_rfl) (by have := (own_arr (hO.own _ (List.Mem.head _))).le; omega)) ?_
   clear hf; intro a hf
   have hO := hO.cut (fun _ => rfl) (m := k.toNat) (by omega)
   replace hO : OwnOk base [⟨oB, 91, [.slice av2 ((insL ltF L (toF px py ((⟨hi, hg⟩ : H2), (⟨x0, y0, x1, y1⟩ : B4)))).length) cv2]⟩, ⟨B1, 39, [iV hi, iV hg]⟩, ⟨B1 + 1, 32, [iV x0, iV y0, iV x1, iV y1]⟩, ⟨B5, 93, [iV hi, iV hg, iV (awayV px py x0 y0 x1 y1)]⟩, ⟨B9, 93, [iV hi, iV hg, iV (awayV px py x0 y0 x1 y1)]⟩] [oS 93 3 (.slice av2 k.toNat cv2) k.toNat (flat fF ((insL ltF L (toF px py ((⟨hi, hg⟩ : H2), (⟨x0, y0, x1, y1⟩ : B4)))).take k.toNat))] w7 := hO
   have el : ((insL ltF L (toF px py ((⟨hi, hg⟩ : H2), (⟨x0, y0, x1, y1⟩ : B4)))).take k.toNat) = ((insL ltF L (toF px py ((⟨hi, hg⟩ : H2), (⟨x0, y0, x1, y1⟩ : B4)))).take k.toNat) := rfl
   rw [el] at hO; clear el
   have en : (k.toNat : Nat) = ((insL ltF L (toF px py ((⟨hi, hg⟩ : H2), (⟨x0, y0, x1, y1⟩ : B4)))).take k.toNat).length := (by rw [List.length_take]; omega)
   replace hO := hO.lenTo en
   have hf := (hf.prune [40, 39, 38, 3]).to (env' := [(40, eS av2 k.toNat cv2), (39, eI k), (38, eS av2 ((insL ltF L (toF px py ((⟨hi, hg⟩ : H2), (⟨x0, y0, x1, y1⟩ : B4)))).length) cv2), (3, eP oB 0)]) (by kernel_rfl)
   replace hf : Fr 41 [(40, eS av2 (((insL ltF L (toF px py ((⟨hi, hg⟩ : H2), (⟨x0, y0, x1, y1⟩ : B4)))).take k.toNat).length) cv2), (39, eI k), (38, eS av2 ((insL ltF L (toF px py ((⟨hi, hg⟩ : H2), (⟨x0, y0, x1, y1⟩ : B4)))).length) cv2), (3, eP oB 0)] a := hf.conv (Ac (by first | (rw [en]; rfl) | exact congrArg (fun z => Value.slice (av2) z (cv2)) en) (Ac rfl (Ac rfl (Ao rfl))))
   clear en
   replace hO : OwnOk base [⟨oB, 91, [.slice av2 ((insL ltF L (toF px py ((⟨hi, hg⟩ : H2), (⟨x0, y0, x1, y1⟩ : B4)))).length) cv2]⟩, ⟨B1, 39, [iV hi, iV hg]⟩, ⟨B1 + 1, 32, [iV x0, iV y0, iV x1, iV y1]⟩, ⟨B5, 93, [iV hi, iV hg, iV (awayV px py x0 y0 x1 y1)]⟩, ⟨B9, 93, [iV hi, iV hg, iV (awayV px py x0 y0 x1 y1)]⟩] [oS 93 3 (.slice av2 (((insL ltF L (toF px py ((⟨hi, hg⟩ : H2), (⟨x0, y0, x1, y1⟩ : B4)))).take k.toNat).length) cv2) (((insL ltF L (toF px py ((⟨hi, hg⟩ : H2), (⟨x0, y0, x1, y1⟩ : B4)))).take k.toNat).length) (flat fF ((insL ltF L (toF px py ((⟨hi, hg⟩ : H2), (⟨x0, y0, x1, y1⟩ : B4)))).take k.toNat))] w7 := hO
   refine q1 hf hM [] [{ os := [.st 0 0] }] (nw := fun B13 => []) (M' := fun B13 => [⟨oB, 91, [.slice av2 (((insL ltF L (toF px py ((⟨hi, hg⟩ : H2), (⟨x0, y0, x1, y1⟩ : B4)))).take k.toNat).length) cv2]⟩, ⟨B1, 39, [iV hi, iV hg]⟩, ⟨B1 + 1, 32, [iV x0, iV y0, iV x1, iV y1]⟩, ⟨B5, 93, [iV hi, iV hg, iV (awayV px py x0 y0 x1 y1)]⟩, ⟨B9, 93, [iV hi, iV hg, iV (awayV px py x0 y0 x1 y1)]⟩]) (ob := fun B13 => [Ad oB 0]) (fun B13 => (Ao (ad _ _))) ?_
   clear hf hM; intro a w8 B13 hf hM hB hk
   have hbB13 : w.heap.size ≤ B13 := by have := hk0.size; omega
   have hk0 := hk0.then hk (by intro i hi h; simp only [Is, Mem.names, List.map_cons, List.map_nil, List.mem_cons, List.not_mem_nil, or_false] at h ⊢; omega)
   have hO := hO.step hM hk (by intro i h; simp only [Mem.names, List.map_cons, List.map_nil, List.mem_cons, List.not_mem_nil, or_false, List.map_append, List.cons_append, List.nil_append] at h ⊢; omega)
   clear hk hB
   refine wpList_nil ?_
   refine qe (fn := Tryd.f46) hf hM [] (l := []) (ob := []) An ?_
   show (.tuple #[] : Value) = .tuple #[] ∧ ∃ a' c', MemOk [⟨oB, 91, [.slice a' ((insL ltF L (toF px py ((⟨hi, hg⟩ : H2), (⟨x0, y0, x1, y1⟩ : B4)))).take k.toNat).length c']⟩] w8 ∧ OwnOk base [⟨oB, 91, [.slice a' ((insL ltF L (toF px py ((⟨hi, hg⟩ : H2), (⟨x0, y0, x1, y1⟩ : B4)))).take k.toNat).length c']⟩] [oS 93 3 (.slice a' ((insL ltF L (toF px py ((⟨hi, hg⟩ : H2), (⟨x0, y0, x1, y1⟩ : B4)))).take k.toNat).length c') ((insL ltF L (toF px py ((⟨hi, hg⟩ : H2), (⟨x0, y0, x1, y1⟩ : B4)))).take k.toNat).length (flat fF ((insL ltF L (toF px py ((⟨hi, hg⟩ : H2), (⟨x0, y0, x1, y1⟩ : B4)))).take k.toNat))] w8 ∧ Keep (fun i => i ∈ oB :: (Value.ownBlock (.slice av L.length c)).toList) w w8 ∧ (∀ j, Value.ownBlock (.slice a' ((insL ltF L (toF px py ((⟨hi, hg⟩ : H2), (⟨x0, y0, x1, y1⟩ : B4)))).take k.toNat).length c') = some j → Value.ownBlock (.slice av L.length c) = some j ∨ w.heap.size ≤ j)
   replace hO : OwnOk base [⟨oB, 91, [.slice av2 (((insL ltF L (toF px py ((⟨hi, hg⟩ : H2), (⟨x0, y0, x1, y1⟩ : B4)))).take k.toNat).length) cv2]⟩] [oS 93 3 (.slice av2 (((insL ltF L (toF px py ((⟨hi, hg⟩ : H2), (⟨x0, y0, x1, y1⟩ : B4)))).take k.toNat).length) cv2) (((insL ltF L (toF px py ((⟨hi, hg⟩ : H2), (⟨x0, y0, x1, y1⟩ : B4)))).take k.toNat).length) (flat fF ((insL ltF L (toF px py ((⟨hi, hg⟩ : H2), (⟨x0, y0, x1, y1⟩ : B4)))).take k.toNat))] w8 := hO.sub (.cons_cons _ (.cons _ (.cons _ (.cons _ (.cons _ .slnil))))) (List.Sublist.refl _)
   replace hM : MemOk [⟨oB, 91, [.slice av2 (((insL ltF L (toF px py ((⟨hi, hg⟩ : H2), (⟨x0, y0, x1, y1⟩ : B4)))).take k.toNat).length) cv2]⟩] w8 := hM.sub (.cons_cons _ (.cons _ (.cons _ (.cons _ (.cons _ .slnil)))))
   have en : k.toNat = ((insL ltF L (toF px py ((⟨hi, hg⟩ : H2), (⟨x0, y0, x1, y1⟩ : B4)))).take k.toNat).length := by rw [List.length_take]; omega
   exact ⟨rfl, _, _, hM, hO, hk0, (fun j hj => hB2 j (by cases av2 <;> exact hj))⟩
 · have hc2 := (nU hc2r)
   refine wp_skip ?_
   refine qe (fn := Tryd.f46) hf hM [] (l := []) (ob := []) An ?_
   show (.tuple #[] : Value) = .tuple #[] ∧ ∃ a' c', MemOk [⟨oB, 91, [.slice a' ((insL ltF L (toF px py ((⟨hi, hg⟩ : H2), (⟨x0, y0, x1, y1⟩ : B4)))).take k.toNat).length c']⟩] w7 ∧ OwnOk base [⟨oB, 91, [.slice a' ((insL ltF L (toF px py ((⟨hi, hg⟩ : H2), (⟨x0, y0, x1, y1⟩ : B4)))).take k.toNat).length c']⟩] [oS 93 3 (.slice a' ((insL ltF L (toF px py ((⟨hi, hg⟩ : H2), (⟨x0, y0, x1, y1⟩ : B4)))).take k.toNat).length c') ((insL ltF L (toF px py ((⟨hi, hg⟩ : H2), (⟨x0, y0, x1, y1⟩ : B4)))).take k.toNat).length (flat fF ((insL ltF L (toF px py ((⟨hi, hg⟩ : H2), (⟨x0, y0, x1, y1⟩ : B4)))).take k.toNat))] w7 ∧ Keep (fun i => i ∈ oB :: (Value.ownBlock (.slice av L.length c)).toList) w w7 ∧ (∀ j, Value.ownBlock (.slice a' ((insL ltF L (toF px py ((⟨hi, hg⟩ : H2), (⟨x0, y0, x1, y1⟩ : B4)))).take k.toNat).length c') = some j → Value.ownBlock (.slice av L.length c) = some j ∨ w.heap.size ≤ j)
   replace hO : OwnOk base [⟨oB, 91, [.slice av2 ((insL ltF L (toF px py ((⟨hi, hg⟩ : H2), (⟨x0, y0, x1, y1⟩ : B4)))).length) cv2]⟩] [oS 93 3 (.slice av2 ((insL ltF L (toF px py ((⟨hi, hg⟩ : H2), (⟨x0, y0, x1, y1⟩ : B4)))).length) cv2) ((insL ltF L (toF px py ((⟨hi, hg⟩ : H2), (⟨x0, y0, x1, y1⟩ : B4)))).length) (flat fF (insL ltF L (toF px py ((⟨hi, hg⟩ : H2), (⟨x0, y0, x1, y1⟩ : B4)))))] w7 := hO.sub (.cons_cons _ (.cons _ (.cons _ (.cons _ (.cons _ .slnil))))) (List.Sublist.refl _)
   replace hM : MemOk [⟨oB, 91, [.slice av2 ((insL ltF L (toF px py ((⟨hi, hg⟩ : H2), (⟨x0, y0, x1, y1⟩ : B4)))).length) cv2]⟩] w7 := hM.sub (.cons_cons _ (.cons _ (.cons _ (.cons _ (.cons _ .slnil)))))
   have el : (insL ltF L (toF px py ((⟨hi, hg⟩ : H2), (⟨x0, y0, x1, y1⟩ : B4)))).take k.toNat = (insL ltF L (toF px py ((⟨hi, hg⟩ : H2), (⟨x0, y0, x1, y1⟩ : B4)))) := List.take_of_length_le (by omega)
   rw [el]
   exact ⟨rfl, _, _, hM, hO, hk0, hB2⟩
end Go.Proofs.YthofalkkdpjdlaaDoor
