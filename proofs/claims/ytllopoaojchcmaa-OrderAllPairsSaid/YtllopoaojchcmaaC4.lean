/- laws of layer 2: OrderAllPairs -/
import Derived.Test.YtllopoaojchcmaaB2
import Derived.Test.YtllopoaojchcmaaXp2g
namespace Go.Proofs.Ytllopoaojchcmaa
open Go.Px
set_option linter.unusedVariables false
set_option linter.unusedSimpArgs false

set_option maxRecDepth 10000 in
set_option maxHeartbeats 1600000 in
theorem orderAllPairs_any (av : Option Addr) (l : List H2) (c : Nat) (w : World) (hav : Arr w 2 av l.length c (flat fH l)) :
    Calls Try.prog 11 #[.slice av l.length c] w (Ret fun v w' => v = .bool true ∧ Keep Nn w w') := by
 refine sxenter (n := 65) (args := [.slice av l.length c]) Try.func11 rfl rfl rfl fun a hf => ?_
 replace hf : Fr 65 [(0, eS av l.length c)] a := hf
 have hM : MemOk [] w := MemOk.nil w
 have hk0 : Keep Nn w w := Keep.refl _ _
 have hol := ordS_len (lt := ltH) l
 refine wp_seq_k (fun K1 hK1 => ?_)
 refine wp_region_lit ?_
 refine q0 hf hM [0] [{}] (nw := []) An ?_
 clear hf; intro a hf
 refine wpList_nil ?_
 refine hK1 _ _ ?_
 refine wp_seq_k (fun K2 hK2 => ?_)
 refine wp_seq_k (fun K3 hK3 => ?_)
 refine wp_region_lit ?_
 refine sxcall hf rfl rfl rfl rfl (g := 12) (vs := []) (ob := []) (by as_aux_lemma => kernel_rfl) An enters12 (alive2  w  ) ?_
 clear hf; rintro _ w1 a ⟨rfl, hk⟩ hf
 have hM := hM.keepNn hk
 have hk0 := hk0.trans hk.nn
 clear hk
 refine q0 hf hM [0] [{}] (nw := [(13, eB false)]) An ?_
 clear hf; intro a hf
 refine wpList_nil ?_
 refine hK3 _ _ ?_
 refine sxcond hf (b := false) (by kernel_rfl) (fun h => by cases h) (fun _ => ?_)
 refine wp_skip ?_
 refine hK2 _ _ ?_
 refine wp_seq_k (fun K4 hK4 => ?_)
 refine wp_seq_k (fun K5 hK5 => ?_)
 refine wp_region_lit ?_
 refine q0 hf hM [0] [{}, {}, {}] (nw := [(16, eB (decide (((l.length : Int) : Int) > 30)))]) An ?_
 clear hf; intro a hf
 refine wpList_nil ?_
 refine hK5 _ _ ?_
 refine qc hf (b := (decide (((l.length : Int) : Int) > 30))) (fun hc2r => ?_) (fun hc2r => ?_)
 · have hc2 := (nT hc2r)
   refine wp_seq_k (fun K6 hK6 => ?_)
   refine wp_region_lit ?_
   refine q0 hf hM [] [{}] (nw := [(2, eB true)]) An ?_
   clear hf; intro a hf
   refine wpList_nil ?_
   refine hK6 _ _ ?_
   refine wp_ret ?_
   refine qr (fn := Try.f11) hf hM [] (l := [bV true]) (ob := []) An ?_
   show (bV true : Value) = .bool true ∧ Keep Nn w w1
   exact ⟨rfl, hk0⟩
 · have hc2 := (nU hc2r)
   refine wp_skip ?_
   refine hK4 _ _ ?_
   refine wp_seq_k (fun K7 hK7 => ?_)
   refine wp_region_lit ?_
   refine q0 hf hM [0] [{}] (nw := [(17, eS av l.length c)]) An ?_
   clear hf; intro a hf
   refine sxcall hf rfl rfl rfl rfl (g := 13) (vs := [.slice av l.length c]) (ob := []) (by as_aux_lemma => kernel_rfl) An enters13 (oHandles av l c w1  (hav.keepNn hk0) (by first | omega | (simp; omega) | (simp; done) | exact Nat.le_trans (byKinds_len _ _) (by omega) | decide)) ?_
   clear hf; rintro _ w2 a ⟨a'1, c'1, rfl, hk, hx1⟩ hf
   have hO : OwnOk w.heap.size [] [] w1 := OwnOk.nil hM
   have hO := hO.more hM hk (by have := hk0.size; omega) hx1
   replace hO : OwnOk w.heap.size [] [⟨28, 2, .slice a'1 (ordS ltH l).length c'1, (ordS ltH l).length, flat fH (ordS ltH l)⟩] _ := hO
   have hM := hM.keepNn hk
   have hk0 := hk0.trans hk.nn
   clear hk
   refine q0 hf hM [0] [{}] (nw := [(3, eS a'1 (ordS ltH l).length c'1)]) An ?_
   clear hf; intro a hf
   refine wpList_nil ?_
   refine hK7 _ _ ?_
   refine wp_seq_k (fun K8 hK8 => ?_)
   refine wp_region_lit ?_
   refine sxbslice hf hM (t := 35) (e := 31) (len := 0) (cs := []) (ob := []) rfl rfl rfl rfl (by as_aux_lemma => kernel_rfl) An (by as_aux_lemma => kernel_rfl) ?_
   clear hf hM; intro a w3 B7 hf hM hB hk
   replace hM : MemOk [⟨B7, 31, []⟩] w3 := hM
   have hbB7 : w.heap.size ≤ B7 := by have := hk0.size; omega
   have hk0 := hk0.trans hk.nn
   have hO := hO.step hM hk.nn (by intro i h; simp only [Mem.names, List.map_cons, List.map_nil, List.mem_cons, List.not_mem_nil, or_false, List.map_append, List.cons_append, List.nil_append] at h ⊢; omega)
   clear hk hB
   refine q0 hf hM [3, 0] [{}] (nw := [(4, eS (some ⟨B7, 0, none⟩) 0 0)]) An ?_
   clear hf; intro a hf
   refine wpList_nil ?_
   refine hK8 _ _ ?_
   refine wp_seq_k (fun K9 hK9 => ?_)
   refine wp_seq_k (fun K10 hK10 => ?_)
   refine wp_region_lit ?_
   refine q0 hf hM [4, 3, 0] [{}, {}, {}] (nw := [(22, eI 0), (21, eI (l.length : Int)), (20, eS av l.length c)]) An ?_
   clear hf; intro a hf
   refine wpList_nil ?_
   refine hK10 _ _ ?_
   refine wp_block ?_
   replace hO := OwnOk.took (M1 := []) (M2 := []) (sz := 4) hO hM (n := 0) (c := 0) (by have := hk0.size; omega) (by decide) (by decide) rfl
   replace hM : MemOk [] w3 := hM.sub (.cons _ .slnil)
   replace hO : OwnOk w.heap.size [] [⟨31, 4, .slice (some ⟨B7, 0, none⟩) 0 0, 0, flat fP ([] : List P4)⟩, ⟨28, 2, .slice a'1 (ordS ltH l).length c'1, (ordS ltH l).length, flat fH (ordS ltH l)⟩] w3 := hO
   have hf := (hf.prune [0, 3, 4, 20, 21, 22]).to (env' := [(0, eS av l.length c), (3, eS a'1 (ordS ltH l).length c'1), (4, eS (some ⟨B7, 0, none⟩) 0 0), (20, eS av l.length c), (21, eI (l.length : Int)), (22, eI 0)]) (by kernel_rfl)
   replace hO : OwnOk w.heap.size [] [⟨31, 4, .slice (some ⟨B7, 0, none⟩) ((allP (l.take (0 : Int).toNat) l).length) 0, (allP (l.take (0 : Int).toNat) l).length, flat fP (allP (l.take (0 : Int).toNat) l)⟩, ⟨28, 2, .slice a'1 (ordS ltH l).length c'1, (ordS ltH l).length, flat fH (ordS ltH l)⟩] w3 := by
    first | exact hO | (have e : ([⟨31, 4, .slice (some ⟨B7, 0, none⟩) 0 0, 0, flat fP ([] : List P4)⟩, ⟨28, 2, .slice a'1 (ordS ltH l).length c'1, (ordS ltH l).length, flat fH (ordS ltH l)⟩] : List Own) = [⟨31, 4, .slice (some ⟨B7, 0, none⟩) ((allP (l.take (0 : Int).toNat) l).length) 0, (allP (l.take (0 : Int).toNat) l).length, flat fP (allP (l.take (0 : Int).toNat) l)⟩, ⟨28, 2, .slice a'1 (ordS ltH l).length c'1, (ordS ltH l).length, flat fH (ordS ltH l)⟩] := by rfl) <;> (rw [← e]; exact hO)
   refine sxloop (fun zm a w1 => ∃ (i : Int) (a4 : Option Addr) (c4 : Nat), zm = ((l.length : Int) - i).toNat ∧ Fr 65 [(0, eS av l.length c), (3, eS a'1 (ordS ltH l).length c'1), (4, eS a4 ((allP (l.take i.toNat) l).length) c4), (20, eS av l.length c), (21, eI (l.length : Int)), (22, eI i)] a ∧ MemOk [] w1 ∧ Keep Nn w w1 ∧ OwnOk w.heap.size [] [⟨31, 4, .slice a4 ((allP (l.take i.toNat) l).length) c4, (allP (l.take i.toNat) l).length, flat fP (allP (l.take i.toNat) l)⟩, ⟨28, 2, .slice a'1 (ordS ltH l).length c'1, (ordS ltH l).length, flat fH (ordS ltH l)⟩] w1 ∧ (0 ≤ i ∧ i ≤ (l.length : Int))) _ ⟨0, some ⟨B7, 0, none⟩, 0, rfl, hf.conv (Ac rfl (Ac rfl (Ac rfl (Ac rfl (Ac rfl (Ao rfl)))))), hM, hk0, hO, (by omega)⟩ ?_
   clear hf hM hk0 hO
   rintro _ a w4 ⟨i, a4, c4, rfl, hf, hM, hk0, hO, hi⟩ L1 hL1
   have hal : (allP (l.take i.toNat) l).length ≤ 930 := allP_le (by omega) (by omega)
   refine wp_seq_k (fun K11 hK11 => ?_)
   refine wp_region_lit ?_
   refine q0 hf hM [0, 3, 4, 20, 21, 22] [{}] (nw := [(23, eB (decide ((i : Int) < (l.length : Int))))]) An ?_
   clear hf; intro a hf
   refine wpList_nil ?_
   refine hK11 _ _ ?_
   refine wp_seq_k (fun K12 hK12 => ?_)
   refine qc hf (b := (decide ((i : Int) < (l.length : Int)))) (fun hc3r => ?_) (fun hc3r => ?_)
   · have hc3 := (nT hc3r)
     refine wp_skip ?_
     refine hK12 _ _ ?_
     refine wp_seq_k (fun K13 hK13 => ?_)
     refine wp_block ?_
     refine wp_seq_k (fun K14 hK14 => ?_)
     refine wp_region_lit ?_
     refine q1 hf hM [0, 3, 4, 20, 21, 22] [{ sp := true }, { os := [.ex (iV (l.getD i.toNat ⟨0, 0⟩).i), .ex (iV (l.getD i.toNat ⟨0, 0⟩).g)] }, { os := [.nw] }, { os := [.st 0 0, .st 0 1] }] (nw := fun B11 => [(6, eP B11 0)]) (M' := fun B11 => [⟨B11, 28, [iV (l.getD i.toNat ⟨0, 0⟩).i, iV (l.getD i.toNat ⟨0, 0⟩).g]⟩]) (ob := fun B11 => [(0 : Int) ≤ i ∧ i < (l.length : Int), (av : Option Addr).isSome = true, w4.cell? (((sa av : Addr).add (i.toNat * 2)).add 0) = some (iV (l.getD i.toNat ⟨0, 0⟩).i), w4.cell? (((sa av : Addr).add (i.toNat * 2)).add 1) = some (iV (l.getD i.toNat ⟨0, 0⟩).g), Ad B11 0, Ad B11 1]) (fun B11 => (Ac (by first | omega | (simp; done)) (Ac ((hav.keepNn hk0).some_ (by first | omega | (simp; done))) (Ac ((hav.keepNn hk0).get (fun _ => rfl) (by first | omega | (simp; done)) rfl) (Ac ((hav.keepNn hk0).get (fun _ => rfl) (by first | omega | (simp; done)) rfl) (Ac (ad _ _) (Ao (ad _ _)))))))) ?_
     clear hf hM; intro a w5 B11 hf hM hB hk
     have hbB11 : w.heap.size ≤ B11 := by have := hk0.size; omega
     have hk0 := hk0.then hk (by intro i _ h; cases h)
     have hO := hO.step hM (hk.mono (by intro _ _ h; cases h)) (by intro i h; simp only [Mem.names, List.map_cons, List.map_nil, List.mem_cons, List.not_mem_nil, or_false, List.map_append, List.cons_append, List.nil_append] at h ⊢; omega)
     clear hk hB
     refine wpList_nil ?_
     refine hK14 _ _ ?_
     refine wp_seq_k (fun K15 hK15 => ?_)
     refine wp_region_lit ?_
     refine q0 hf hM [6, 0, 3, 4, 20, 21, 22] [{}, {}, {}] (nw := [(28, eI 0), (27, eI (l.length : Int)), (26, eS av l.length c)]) An ?_
     clear hf; intro a hf
     refine wpList_nil ?_
     refine hK15 _ _ ?_
     refine wp_block ?_
     have hf := (hf.prune [0, 3, 4, 6, 20, 21, 22, 26, 27, 28]).to (env' := [(0, eS av l.length c), (3, eS a'1 (ordS ltH l).length c'1), (4, eS a4 ((allP (l.take i.toNat) l).length) c4), (6, eP B11 0), (20, eS av l.length c), (21, eI (l.length : Int)), (22, eI i), (26, eS av l.length c), (27, eI (l.length : Int)), (28, eI 0)]) (by kernel_rfl)
     replace hO : OwnOk w.heap.size [⟨B11, 28, [iV (l.getD i.toNat ⟨0, 0⟩).i, iV (l.getD i.toNat ⟨0, 0⟩).g]⟩] [⟨31, 4, .slice a4 (rowP l l i 0).length c4, (rowP l l i 0).length, flat fP (rowP l l i 0)⟩, ⟨28, 2, .slice a'1 (ordS ltH l).length c'1, (ordS ltH l).length, flat fH (ordS ltH l)⟩] w5 := by
      first | exact hO | (have e : ([⟨31, 4, .slice a4 ((allP (l.take i.toNat) l).length) c4, (allP (l.take i.toNat) l).length, flat fP (allP (l.take i.toNat) l)⟩, ⟨28, 2, .slice a'1 (ordS ltH l).length c'1, (ordS ltH l).length, flat fH (ordS ltH l)⟩] : List Own) = [⟨31, 4, .slice a4 (rowP l l i 0).length c4, (rowP l l i 0).length, flat fP (rowP l l i 0)⟩, ⟨28, 2, .slice a'1 (ordS ltH l).length c'1, (ordS ltH l).length, flat fH (ordS ltH l)⟩] := by (rw [rowP_zero]; try rfl)) <;> (rw [← e]; exact hO)
     refine sxloop (fun zm a w1 => ∃ (j : Int) (a5 : Option Addr) (c5 : Nat), zm = ((l.length : Int) - j).toNat ∧ Fr 65 [(0, eS av l.length c), (3, eS a'1 (ordS ltH l).length c'1), (4, eS a5 (rowP l l i j).length c5), (6, eP B11 0), (20, eS av l.length c), (21, eI (l.length : Int)), (22, eI i), (26, eS av l.length c), (27, eI (l.length : Int)), (28, eI j)] a ∧ MemOk [⟨B11, 28, [iV (l.getD i.toNat ⟨0, 0⟩).i, iV (l.getD i.toNat ⟨0, 0⟩).g]⟩] w1 ∧ Keep Nn w w1 ∧ OwnOk w.heap.size [⟨B11, 28, [iV (l.getD i.toNat ⟨0, 0⟩).i, iV (l.getD i.toNat ⟨0, 0⟩).g]⟩] [⟨31, 4, .slice a5 (rowP l l i j).length c5, (rowP l l i j).length, flat fP (rowP l l i j)⟩, ⟨28, 2, .slice a'1 (ordS ltH l).length c'1, (ordS ltH l).length, flat fH (ordS ltH l)⟩] w1 ∧ (0 ≤ j ∧ j ≤ (l.length : Int))) _ ⟨0, a4, c4, rfl, hf.conv (Ac rfl (Ac rfl (Ac (by rw [rowP_zero]; rfl) (Ac rfl (Ac rfl (Ac rfl (Ac rfl (Ac rfl (Ac rfl (Ao rfl)))))))))), hM, hk0, hO, (by omega)⟩ ?_
     clear hf hM hk0 hO
     rintro _ a w6 ⟨j, a5, c5, rfl, hf, hM, hk0, hO, hj⟩ L2 hL2
     have hrl : (rowP l l i j).length ≤ 930 := rowP_le (by omega) (by omega)
     refine wp_seq_k (fun K16 hK16 => ?_)
     refine wp_region_lit ?_
     refine q0 hf hM [0, 3, 4, 6, 20, 21, 22, 26, 27, 28] [{}] (nw := [(29, eB (decide ((j : Int) < (l.length : Int))))]) An ?_
     clear hf; intro a hf
     refine wpList_nil ?_
     refine hK16 _ _ ?_
     refine wp_seq_k (fun K17 hK17 => ?_)
     refine qc hf (b := (decide ((j : Int) < (l.length : Int)))) (fun hc4r => ?_) (fun hc4r => ?_)
     · have hc4 := (nT hc4r)
       refine wp_skip ?_
       refine hK17 _ _ ?_
       refine wp_seq_k (fun K18 hK18 => ?_)
       refine wp_block ?_
       refine wp_seq_k (fun K19 hK19 => ?_)
       refine wp_region_lit ?_
       refine q1 hf hM [0, 3, 4, 6, 20, 21, 22, 26, 27, 28] [{ sp := true }, { os := [.ex (iV (l.getD j.toNat ⟨0, 0⟩).i), .ex (iV (l.getD j.toNat ⟨0, 0⟩).g)] }, { os := [.nw] }, { os := [.st 1 0, .st 1 1] }] (nw := fun B14 => [(8, eP B14 0)]) (M' := fun B14 => [⟨B11, 28, [iV (l.getD i.toNat ⟨0, 0⟩).i, iV (l.getD i.toNat ⟨0, 0⟩).g]⟩, ⟨B14, 28, [iV (l.getD j.toNat ⟨0, 0⟩).i, iV (l.getD j.toNat ⟨0, 0⟩).g]⟩]) (ob := fun B14 => [(0 : Int) ≤ j ∧ j < (l.length : Int), (av : Option Addr).isSome = true, w6.cell? (((sa av : Addr).add (j.toNat * 2)).add 0) = some (iV (l.getD j.toNat ⟨0, 0⟩).i), w6.cell? (((sa av : Addr).add (j.toNat * 2)).add 1) = some (iV (l.getD j.toNat ⟨0, 0⟩).g), Ad B14 0, Ad B14 1]) (fun B14 => (Ac (by first | omega | (simp; done)) (Ac ((hav.keepNn hk0).some_ (by first | omega | (simp; done))) (Ac ((hav.keepNn hk0).get (fun _ => rfl) (by first | omega | (simp; done)) rfl) (Ac ((hav.keepNn hk0).get (fun _ => rfl) (by first | omega | (simp; done)) rfl) (Ac (ad _ _) (Ao (ad _ _)))))))) ?_
       clear hf hM; intro a w7 B14 hf hM hB hk
       have hbB14 : w.heap.size ≤ B14 := by have := hk0.size; omega
       have hk0 := hk0.thenNew hk (by simp [Mem.names] <;> omega)
       have hO := hO.step hM hk (by intro i h; simp only [Mem.names, List.map_cons, List.map_nil, List.mem_cons, List.not_mem_nil, or_false, List.map_append, List.cons_append, List.nil_append] at h ⊢; omega)
       clear hk hB
       refine wpList_nil ?_
       refine hK19 _ _ ?_
       refine wp_region_lit ?_
       refine q0 hf hM [0, 3, 4, 6, 20, 21, 22, 26, 27, 28] [{}, { os := [.ld 0 0, .ld 0 1] }, { os := [.ld 1 0, .ld 1 1] }, { sp := true }] (nw := [(35, .val (.agg #[iV (l.getD i.toNat ⟨0, 0⟩).i, iV (l.getD i.toNat ⟨0, 0⟩).g, iV (l.getD j.toNat ⟨0, 0⟩).i, iV (l.getD j.toNat ⟨0, 0⟩).g])), (32, eS a5 (rowP l l i j).length c5)]) (ob := [Ad B11 0, Ad B11 1, Ad B14 0, Ad B14 1]) (Ac (ad _ _) (Ac (ad _ _) (Ac (ad _ _) (Ao (ad _ _))))) ?_
       clear hf; intro a hf
       refine sxbslice hf hM (t := 35) (e := 31) (len := 1) (cs := [iV (l.getD i.toNat ⟨0, 0⟩).i, iV (l.getD i.toNat ⟨0, 0⟩).g, iV (l.getD j.toNat ⟨0, 0⟩).i, iV (l.getD j.toNat ⟨0, 0⟩).g]) (ob := []) rfl rfl rfl rfl (by as_aux_lemma => kernel_rfl) An (by as_aux_lemma => kernel_rfl) ?_
       clear hf hM; intro a w8 B16 hf hM hB hk
       replace hM : MemOk [⟨B11, 28, [iV (l.getD i.toNat ⟨0, 0⟩).i, iV (l.getD i.toNat ⟨0, 0⟩).g]⟩, ⟨B14, 28, [iV (l.getD j.toNat ⟨0, 0⟩).i, iV (l.getD j.toNat ⟨0, 0⟩).g]⟩, ⟨B16, 31, [iV (l.getD i.toNat ⟨0, 0⟩).i, iV (l.getD i.toNat ⟨0, 0⟩).g, iV (l.getD j.toNat ⟨0, 0⟩).i, iV (l.getD j.toNat ⟨0, 0⟩).g]⟩] w8 := hM
       have hbB16 : w.heap.size ≤ B16 := by have := hk0.size; omega
       have hk0 := hk0.trans hk.nn
       have hO := hO.step hM hk.nn (by intro i h; simp only [Mem.names, List.map_cons, List.map_nil, List.mem_cons, List.not_mem_nil, or_false, List.map_append, List.cons_append, List.nil_append] at h ⊢; omega)
       clear hk hB
       replace hO : OwnOk w.heap.size [⟨B11, 28, [iV (l.getD i.toNat ⟨0, 0⟩).i, iV (l.getD i.toNat ⟨0, 0⟩).g]⟩, ⟨B14, 28, [iV (l.getD j.toNat ⟨0, 0⟩).i, iV (l.getD j.toNat ⟨0, 0⟩).g]⟩, ⟨B16, 31, [iV (l.getD i.toNat ⟨0, 0⟩).i, iV (l.getD i.toNat ⟨0, 0⟩).g, iV (l.getD j.toNat ⟨0, 0⟩).i, iV (l.getD j.toNat ⟨0, 0⟩).g]⟩] [⟨31, 4, .slice a5 (rowP l l i j).length c5, (rowP l l i j).length, flat fP (rowP l l i j)⟩, ⟨28, 2, .slice a'1 (ordS ltH l).length c'1, (ordS ltH l).length, flat fH (ordS ltH l)⟩] w8 := OwnOk.front (l1 := []) (l2 := [⟨28, 2, .slice a'1 (ordS ltH l).length c'1, (ordS ltH l).length, flat fH (ordS ltH l)⟩]) hO
       refine sxappend hf hM (e := 31) (sz := 4) (by_ := 32) (k := (rowP l l i j).length) (v := .slice a5 (rowP l l i j).length c5) (xs := flat fP (rowP l l i j)) hO rfl rfl rfl rfl (av := some ⟨B16, 0, none⟩) (m := 1) (c := 1) rfl rfl Try.underlying35 (by kernel_rfl) rfl (news := flat fP ([⟨⟨(l.getD i.toNat ⟨0, 0⟩).i, (l.getD i.toNat ⟨0, 0⟩).g⟩, ⟨(l.getD j.toNat ⟨0, 0⟩).i, (l.getD j.toNat ⟨0, 0⟩).g⟩⟩] : List P4)) (Arr.of_memT (sz := 4) (f := fP) (L := ([⟨⟨(l.getD i.toNat ⟨0, 0⟩).i, (l.getD i.toNat ⟨0, 0⟩).g⟩, ⟨(l.getD j.toNat ⟨0, 0⟩).i, (l.getD j.toNat ⟨0, 0⟩).g⟩⟩] : List P4)) (l := ([⟨⟨(l.getD i.toNat ⟨0, 0⟩).i, (l.getD i.toNat ⟨0, 0⟩).g⟩, ⟨(l.getD j.toNat ⟨0, 0⟩).i, (l.getD j.toNat ⟨0, 0⟩).g⟩⟩] : List P4)) hM (List.Mem.tail _ (List.Mem.tail _ (List.Mem.head _))) (fun _ => rfl) rfl rfl) (flat_one1 fP_one) (by simp only [maxLen]; constructor <;> (first | omega | (simp; omega))) (by have := hk0.size; omega) ?_
       clear hf hM hO; intro a w9 av1 cv1 hf hM hO hk
       have en : ((rowP l l i j).length + 1 : Nat) = ((rowP l l i j) ++ ([⟨⟨(l.getD i.toNat ⟨0, 0⟩).i, (l.getD i.toNat ⟨0, 0⟩).g⟩, ⟨(l.getD j.toNat ⟨0, 0⟩).i, (l.getD j.toNat ⟨0, 0⟩).g⟩⟩] : List P4)).length := (by first | (simp; done) | (simp; omega))
       have ec : flat fP (rowP l l i j) ++ flat fP ([⟨⟨(l.getD i.toNat ⟨0, 0⟩).i, (l.getD i.toNat ⟨0, 0⟩).g⟩, ⟨(l.getD j.toNat ⟨0, 0⟩).i, (l.getD j.toNat ⟨0, 0⟩).g⟩⟩] : List P4) = flat fP ((rowP l l i j) ++ ([⟨⟨(l.getD i.toNat ⟨0, 0⟩).i, (l.getD i.toNat ⟨0, 0⟩).g⟩, ⟨(l.getD j.toNat ⟨0, 0⟩).i, (l.getD j.toNat ⟨0, 0⟩).g⟩⟩] : List P4)) := (by first | rfl | exact (flat_app _ _ _).symm | simp [flat_app, flat_nil])
       rw [en] at hf hO; rw [ec] at hO; clear en ec
       replace hO : OwnOk w.heap.size [⟨B11, 28, [iV (l.getD i.toNat ⟨0, 0⟩).i, iV (l.getD i.toNat ⟨0, 0⟩).g]⟩, ⟨B14, 28, [iV (l.getD j.toNat ⟨0, 0⟩).i, iV (l.getD j.toNat ⟨0, 0⟩).g]⟩, ⟨B16, 31, [iV (l.getD i.toNat ⟨0, 0⟩).i, iV (l.getD i.toNat ⟨0, 0⟩).g, iV (l.getD j.toNat ⟨0, 0⟩).i, iV (l.getD j.toNat ⟨0, 0⟩).g]⟩] [⟨31, 4, .slice av1 (((rowP l l i j) ++ ([⟨⟨(l.getD i.toNat ⟨0, 0⟩).i, (l.getD i.toNat ⟨0, 0⟩).g⟩, ⟨(l.getD j.toNat ⟨0, 0⟩).i, (l.getD j.toNat ⟨0, 0⟩).g⟩⟩] : List P4)).length) cv1, ((rowP l l i j) ++ ([⟨⟨(l.getD i.toNat ⟨0, 0⟩).i, (l.getD i.toNat ⟨0, 0⟩).g⟩, ⟨(l.getD j.toNat ⟨0, 0⟩).i, (l.getD j.toNat ⟨0, 0⟩).g⟩⟩] : List P4)).length, flat fP ((rowP l l i j) ++ ([⟨⟨(l.getD i.toNat ⟨0, 0⟩).i, (l.getD i.toNat ⟨0, 0⟩).g⟩, ⟨(l.getD j.toNat ⟨0, 0⟩).i, (l.getD j.toNat ⟨0, 0⟩).g⟩⟩] : List P4))⟩, ⟨28, 2, .slice a'1 (ordS ltH l).length c'1, (ordS ltH l).length, flat fH (ordS ltH l)⟩] w9 := hO
       have hk0 := hk0.then hk (by intro i hi h; have := h.1; omega)
       clear hk
       refine q0 hf hM [0, 3, 6, 20, 21, 22, 26, 27, 28] [{}] (nw := [(4, eS av1 (((rowP l l i j) ++ ([⟨⟨(l.getD i.toNat ⟨0, 0⟩).i, (l.getD i.toNat ⟨0, 0⟩).g⟩, ⟨(l.getD j.toNat ⟨0, 0⟩).i, (l.getD j.toNat ⟨0, 0⟩).g⟩⟩] : List P4)).length) cv1)]) An ?_
       clear hf; intro a hf
       refine wpList_nil ?_
       refine hK18 _ _ ?_
       refine wp_region_lit ?_
       refine q0 hf hM [4, 0, 3, 6, 20, 21, 22, 26, 27] [{ hint := some (iV (j + 1)) }, {}] (nw := [(28, eI (j + 1))]) (ob := [(iV (IntKind.i64.wrap (j + 1)) : Value) = (iV (j + 1) : Value)]) (Ao (wr (by omega))) ?_
       clear hf; intro a hf
       refine wpList_nil ?_
       have hf := (hf.prune [0, 3, 4, 6, 20, 21, 22, 26, 27, 28]).to (env' := [(0, eS av l.length c), (3, eS a'1 (ordS ltH l).length c'1), (4, eS av1 (((rowP l l i j) ++ ([⟨⟨(l.getD i.toNat ⟨0, 0⟩).i, (l.getD i.toNat ⟨0, 0⟩).g⟩, ⟨(l.getD j.toNat ⟨0, 0⟩).i, (l.getD j.toNat ⟨0, 0⟩).g⟩⟩] : List P4)).length) cv1), (6, eP B11 0), (20, eS av l.length c), (21, eI (l.length : Int)), (22, eI i), (26, eS av l.length c), (27, eI (l.length : Int)), (28, eI (j + 1))]) (by kernel_rfl)
       replace hO : OwnOk w.heap.size [⟨B11, 28, [iV (l.getD i.toNat ⟨0, 0⟩).i, iV (l.getD i.toNat ⟨0, 0⟩).g]⟩] [⟨31, 4, .slice av1 (((rowP l l i j) ++ ([⟨⟨(l.getD i.toNat ⟨0, 0⟩).i, (l.getD i.toNat ⟨0, 0⟩).g⟩, ⟨(l.getD j.toNat ⟨0, 0⟩).i, (l.getD j.toNat ⟨0, 0⟩).g⟩⟩] : List P4)).length) cv1, ((rowP l l i j) ++ ([⟨⟨(l.getD i.toNat ⟨0, 0⟩).i, (l.getD i.toNat ⟨0, 0⟩).g⟩, ⟨(l.getD j.toNat ⟨0, 0⟩).i, (l.getD j.toNat ⟨0, 0⟩).g⟩⟩] : List P4)).length, flat fP ((rowP l l i j) ++ ([⟨⟨(l.getD i.toNat ⟨0, 0⟩).i, (l.getD i.toNat ⟨0, 0⟩).g⟩, ⟨(l.getD j.toNat ⟨0, 0⟩).i, (l.getD j.toNat ⟨0, 0⟩).g⟩⟩] : List P4))⟩, ⟨28, 2, .slice a'1 (ordS ltH l).length c'1, (ordS ltH l).length, flat fH (ordS ltH l)⟩] w9 := hO.sub (.cons_cons _ (.cons _ (.cons _ .slnil))) (List.Sublist.refl _)
       replace hM : MemOk [⟨B11, 28, [iV (l.getD i.toNat ⟨0, 0⟩).i, iV (l.getD i.toNat ⟨0, 0⟩).g]⟩] w9 := hM.sub (.cons_cons _ (.cons _ (.cons _ .slnil)))
       replace hO : OwnOk w.heap.size [⟨B11, 28, [iV (l.getD i.toNat ⟨0, 0⟩).i, iV (l.getD i.toNat ⟨0, 0⟩).g]⟩] [⟨31, 4, .slice av1 ((rowP l l i (j + 1)).length) cv1, (rowP l l i (j + 1)).length, flat fP (rowP l l i (j + 1))⟩, ⟨28, 2, .slice a'1 (ordS ltH l).length c'1, (ordS ltH l).length, flat fH (ordS ltH l)⟩] w9 := by
        first | exact hO | (have e : ([⟨31, 4, .slice av1 (((rowP l l i j) ++ ([⟨⟨(l.getD i.toNat ⟨0, 0⟩).i, (l.getD i.toNat ⟨0, 0⟩).g⟩, ⟨(l.getD j.toNat ⟨0, 0⟩).i, (l.getD j.toNat ⟨0, 0⟩).g⟩⟩] : List P4)).length) cv1, ((rowP l l i j) ++ ([⟨⟨(l.getD i.toNat ⟨0, 0⟩).i, (l.getD i.toNat ⟨0, 0⟩).g⟩, ⟨(l.getD j.toNat ⟨0, 0⟩).i, (l.getD j.toNat ⟨0, 0⟩).g⟩⟩] : List P4)).length, flat fP ((rowP l l i j) ++ ([⟨⟨(l.getD i.toNat ⟨0, 0⟩).i, (l.getD i.toNat ⟨0, 0⟩).g⟩, ⟨(l.getD j.toNat ⟨0, 0⟩).i, (l.getD j.toNat ⟨0, 0⟩).g⟩⟩] : List P4))⟩, ⟨28, 2, .slice a'1 (ordS ltH l).length c'1, (ordS ltH l).length, flat fH (ordS ltH l)⟩] : List Own) = [⟨31, 4, .slice av1 ((rowP l l i (j + 1)).length) cv1, (rowP l l i (j + 1)).length, flat fP (rowP l l i (j + 1))⟩, ⟨28, 2, .slice a'1 (ordS ltH l).length c'1, (ordS ltH l).length, flat fH (ordS ltH l)⟩] := by (rw [rowP_next (by omega)]; try rfl)) <;> (rw [← e]; exact hO)
       refine hL2 _ _ _ (by omega) ⟨j + 1, av1, cv1, rfl, hf.conv (Ac rfl (Ac rfl (Ac (by rw [rowP_next (by omega)]; rfl) (Ac rfl (Ac rfl (Ac rfl (Ac rfl (Ac rfl (Ac rfl (Ao rfl)))))))))), hM, hk0, hO, (by omega)⟩
     · have hc4 := (nU hc4r)
       refine wp_exit ?_
       refine hK13 _ _ ?_
       refine wp_region_lit ?_
       refine q0 hf hM [0, 3, 4, 20, 21] [{ hint := some (iV (i + 1)) }, {}] (nw := [(22, eI (i + 1))]) (ob := [(iV (IntKind.i64.wrap (i + 1)) : Value) = (iV (i + 1) : Value)]) (Ao (wr (by omega))) ?_
       clear hf; intro a hf
       refine wpList_nil ?_
       have hf := (hf.prune [0, 3, 4, 20, 21, 22]).to (env' := [(0, eS av l.length c), (3, eS a'1 (ordS ltH l).length c'1), (4, eS a5 (rowP l l i j).length c5), (20, eS av l.length c), (21, eI (l.length : Int)), (22, eI (i + 1))]) (by kernel_rfl)
       replace hO : OwnOk w.heap.size [] [⟨31, 4, .slice a5 (rowP l l i j).length c5, (rowP l l i j).length, flat fP (rowP l l i j)⟩, ⟨28, 2, .slice a'1 (ordS ltH l).length c'1, (ordS ltH l).length, flat fH (ordS ltH l)⟩] w6 := hO.sub (.cons _ .slnil) (List.Sublist.refl _)
       replace hM : MemOk [] w6 := hM.sub (.cons _ .slnil)
       replace hO : OwnOk w.heap.size [] [⟨31, 4, .slice a5 ((allP (l.take (i + 1).toNat) l).length) c5, (allP (l.take (i + 1).toNat) l).length, flat fP (allP (l.take (i + 1).toNat) l)⟩, ⟨28, 2, .slice a'1 (ordS ltH l).length c'1, (ordS ltH l).length, flat fH (ordS ltH l)⟩] w6 := by
        first | exact hO | (have e : ([⟨31, 4, .slice a5 (rowP l l i j).length c5, (rowP l l i j).length, flat fP (rowP l l i j)⟩, ⟨28, 2, .slice a'1 (ordS ltH l).length c'1, (ordS ltH l).length, flat fH (ordS ltH l)⟩] : List Own) = [⟨31, 4, .slice a5 ((allP (l.take (i + 1).toNat) l).length) c5, (allP (l.take (i + 1).toNat) l).length, flat fP (allP (l.take (i + 1).toNat) l)⟩, ⟨28, 2, .slice a'1 (ordS ltH l).length c'1, (ordS ltH l).length, flat fH (ordS ltH l)⟩] := by (rw [rowP_end (j := j) (by omega) (by omega)]; try rfl)) <;> (rw [← e]; exact hO)
       refine hL1 _ _ _ (by omega) ⟨i + 1, a5, c5, rfl, hf.conv (Ac rfl (Ac rfl (Ac (by rw [rowP_end (j := j) (by omega) (by omega)]; rfl) (Ac rfl (Ac rfl (Ao rfl)))))), hM, hk0, hO, (by omega)⟩
   · have hc3 := (nU hc3r)
     refine wp_exit ?_
     refine hK9 _ _ ?_
     refine wp_seq_k (fun K20 hK20 => ?_)
     refine wp_region_lit ?_
     refine q0 hf hM [3] [{}] (nw := [(40, eS a4 ((allP (l.take i.toNat) l).length) c4)]) An ?_
     clear hf; intro a hf
     refine sxcall hf rfl rfl rfl rfl (g := 20) (vs := [.slice a4 ((allP (l.take i.toNat) l).length) c4]) (ob := []) (by as_aux_lemma => kernel_rfl) An enters20 (oPairs a4 (allP (l.take i.toNat) l) c4 w4  (own_arr (hO.own _ (List.Mem.head _))) (by first | omega | (simp; omega) | (simp; done) | exact Nat.le_trans (byKinds_len _ _) (by omega) | decide)) ?_
     clear hf; rintro _ w10 a ⟨a'2, c'2, rfl, hk, hx2⟩ hf
     have hO := hO.more hM hk (by have := hk0.size; omega) hx2
     replace hO : OwnOk w.heap.size [] [⟨31, 4, .slice a'2 ((ordS ltP (nrmL (allP (l.take i.toNat) l))).length) c'2, (ordS ltP (nrmL (allP (l.take i.toNat) l))).length, flat fP (ordS ltP (nrmL (allP (l.take i.toNat) l)))⟩, ⟨31, 4, .slice a4 ((allP (l.take i.toNat) l).length) c4, (allP (l.take i.toNat) l).length, flat fP (allP (l.take i.toNat) l)⟩, ⟨28, 2, .slice a'1 (ordS ltH l).length c'1, (ordS ltH l).length, flat fH (ordS ltH l)⟩] _ := hO
     have hM := hM.keepNn hk
     have hk0 := hk0.trans hk.nn
     clear hk
     refine q0 hf hM [3] [{}] (nw := [(9, eS a'2 ((ordS ltP (nrmL (allP (l.take i.toNat) l))).length) c'2)]) An ?_
     clear hf; intro a hf
     refine wpList_nil ?_
     refine hK20 _ _ ?_
     refine wp_seq_k (fun K21 hK21 => ?_)
     refine wp_seq_k (fun K22 hK22 => ?_)
     refine wp_region_lit ?_
     refine q0 hf hM [9, 3] [{}, {}, {}] (nw := [(44, eI 0), (43, eI ((ordS ltP (nrmL (allP (l.take i.toNat) l))).length : Int)), (42, eS a'2 ((ordS ltP (nrmL (allP (l.take i.toNat) l))).length) c'2)]) An ?_
     clear hf; intro a hf
     refine wpList_nil ?_
     refine hK22 _ _ ?_
     refine wp_block ?_
     have ea : l.take i.toNat = l := List.take_of_length_le (by omega)
     have hrl2 := Nat.le_trans (ordS_len (lt := ltP) (nrmL (allP (l.take i.toNat) l))) (nrmL_len (allP (l.take i.toNat) l))
     have hf := (hf.prune [3, 9, 42, 43, 44]).to (env' := [(3, eS a'1 (ordS ltH l).length c'1), (9, eS a'2 ((ordS ltP (nrmL (allP (l.take i.toNat) l))).length) c'2), (42, eS a'2 ((ordS ltP (nrmL (allP (l.take i.toNat) l))).length) c'2), (43, eI ((ordS ltP (nrmL (allP (l.take i.toNat) l))).length : Int)), (44, eI 0)]) (by kernel_rfl)
     refine sxloop (fun zm a w1 => ∃ (q : Int), zm = (((ordS ltP (nrmL (allP (l.take i.toNat) l))).length : Int) - q).toNat ∧ Fr 65 [(3, eS a'1 (ordS ltH l).length c'1), (9, eS a'2 ((ordS ltP (nrmL (allP (l.take i.toNat) l))).length) c'2), (42, eS a'2 ((ordS ltP (nrmL (allP (l.take i.toNat) l))).length) c'2), (43, eI ((ordS ltP (nrmL (allP (l.take i.toNat) l))).length : Int)), (44, eI q)] a ∧ MemOk [] w1 ∧ Keep Nn w w1 ∧ OwnOk w.heap.size [] [⟨31, 4, .slice a'2 ((ordS ltP (nrmL (allP (l.take i.toNat) l))).length) c'2, (ordS ltP (nrmL (allP (l.take i.toNat) l))).length, flat fP (ordS ltP (nrmL (allP (l.take i.toNat) l)))⟩, ⟨31, 4, .slice a4 ((allP (l.take i.toNat) l).length) c4, (allP (l.take i.toNat) l).length, flat fP (allP (l.take i.toNat) l)⟩, ⟨28, 2, .slice a'1 (ordS ltH l).length c'1, (ordS ltH l).length, flat fH (ordS ltH l)⟩] w1 ∧ (0 ≤ q ∧ q ≤ ((ordS ltP (nrmL (allP (l.take i.toNat) l))).length : Int))) _ ⟨0, rfl, hf.conv (Ac rfl (Ac rfl (Ac rfl (Ac rfl (Ao rfl))))), hM, hk0, hO, (by omega)⟩ ?_
     clear hf hM hk0 hO
     rintro _ a w11 ⟨q, rfl, hf, hM, hk0, hO, hq⟩ L3 hL3
     refine wp_seq_k (fun K23 hK23 => ?_)
     refine wp_region_lit ?_
     refine q0 hf hM [3, 9, 42, 43, 44] [{}] (nw := [(45, eB (decide ((q : Int) < ((ordS ltP (nrmL (allP (l.take i.toNat) l))).length : Int))))]) An ?_
     clear hf; intro a hf
     refine wpList_nil ?_
     refine hK23 _ _ ?_
     refine wp_seq_k (fun K24 hK24 => ?_)
     refine qc hf (b := (decide ((q : Int) < ((ordS ltP (nrmL (allP (l.take i.toNat) l))).length : Int)))) (fun hc5r => ?_) (fun hc5r => ?_)
     · have hc5 := (nT hc5r)
       refine wp_skip ?_
       refine hK24 _ _ ?_
       refine wp_seq_k (fun K25 hK25 => ?_)
       refine wp_block ?_
       refine wp_seq_k (fun K26 hK26 => ?_)
       refine wp_region_lit ?_
       refine q1 hf hM [3, 9, 42, 43, 44] [{ sp := true }, { os := [.ex (iV (((ordS ltP (nrmL (allP (l.take i.toNat) l))).getD q.toNat ⟨⟨0, 0⟩, ⟨0, 0⟩⟩).a.i)), .ex (iV (((ordS ltP (nrmL (allP (l.take i.toNat) l))).getD q.toNat ⟨⟨0, 0⟩, ⟨0, 0⟩⟩).a.g)), .ex (iV (((ordS ltP (nrmL (allP (l.take i.toNat) l))).getD q.toNat ⟨⟨0, 0⟩, ⟨0, 0⟩⟩).b.i)), .ex (iV (((ordS ltP (nrmL (allP (l.take i.toNat) l))).getD q.toNat ⟨⟨0, 0⟩, ⟨0, 0⟩⟩).b.g))] }, { os := [.nw] }, { os := [.st 0 0, .st 0 1, .st 0 2, .st 0 3] }] (nw := fun B24 => [(11, eP B24 0)]) (M' := fun B24 => [⟨B24, 31, [iV (((ordS ltP (nrmL (allP (l.take i.toNat) l))).getD q.toNat ⟨⟨0, 0⟩, ⟨0, 0⟩⟩).a.i), iV (((ordS ltP (nrmL (allP (l.take i.toNat) l))).getD q.toNat ⟨⟨0, 0⟩, ⟨0, 0⟩⟩).a.g), iV (((ordS ltP (nrmL (allP (l.take i.toNat) l))).getD q.toNat ⟨⟨0, 0⟩, ⟨0, 0⟩⟩).b.i), iV (((ordS ltP (nrmL (allP (l.take i.toNat) l))).getD q.toNat ⟨⟨0, 0⟩, ⟨0, 0⟩⟩).b.g)]⟩]) (ob := fun B24 => [(0 : Int) ≤ q ∧ q < ((ordS ltP (nrmL (allP (l.take i.toNat) l))).length : Int), (a'2 : Option Addr).isSome = true, w11.cell? (((sa a'2 : Addr).add (q.toNat * 4)).add 0) = some (iV (((ordS ltP (nrmL (allP (l.take i.toNat) l))).getD q.toNat ⟨⟨0, 0⟩, ⟨0, 0⟩⟩).a.i)), w11.cell? (((sa a'2 : Addr).add (q.toNat * 4)).add 1) = some (iV (((ordS ltP (nrmL (allP (l.take i.toNat) l))).getD q.toNat ⟨⟨0, 0⟩, ⟨0, 0⟩⟩).a.g)), w11.cell? (((sa a'2 : Addr).add (q.toNat * 4)).add 2) = some (iV (((ordS ltP (nrmL (allP (l.take i.toNat) l))).getD q.toNat ⟨⟨0, 0⟩, ⟨0, 0⟩⟩).b.i)), w11.cell? (((sa a'2 : Addr).add (q.toNat * 4)).add 3) = some (iV (((ordS ltP (nrmL (allP (l.take i.toNat) l))).getD q.toNat ⟨⟨0, 0⟩, ⟨0, 0⟩⟩).b.g)), Ad B24 0, Ad B24 1, Ad B24 2, Ad B24 3]) (fun B24 => (Ac (by first | omega | (simp; done)) (Ac ((own_arr (hO.own _ (List.Mem.head _))).some_ (by first | omega | (simp; done))) (Ac ((own_arr (hO.own _ (List.Mem.head _))).get (fun _ => rfl) (by first | omega | (simp; done)) rfl) (Ac ((own_arr (hO.own _ (List.Mem.head _))).get (fun _ => rfl) (by first | omega | (simp; done)) rfl) (Ac ((own_arr (hO.own _ (List.Mem.head _))).get (fun _ => rfl) (by first | omega | (simp; done)) rfl) (Ac ((own_arr (hO.own _ (List.Mem.head _))).get (fun _ => rfl) (by first | omega | (simp; done)) rfl) (Ac (ad _ _) (Ac (ad _ _) (Ac (ad _ _) (Ao (ad _ _)))))))))))) ?_
       clear hf hM; intro a w12 B24 hf hM hB hk
       have hbB24 : w.heap.size ≤ B24 := by have := hk0.size; omega
       have hk0 := hk0.then hk (by intro i _ h; cases h)
       have hO := hO.step hM (hk.mono (by intro _ _ h; cases h)) (by intro i h; simp only [Mem.names, List.map_cons, List.map_nil, List.mem_cons, List.not_mem_nil, or_false, List.map_append, List.cons_append, List.nil_append] at h ⊢; omega)
       clear hk hB
       refine wpList_nil ?_
       refine hK26 _ _ ?_
       refine wp_seq_k (fun K27 hK27 => ?_)
       refine wp_region_lit ?_
       refine q0 hf hM [3, 9, 42, 43, 44] [{}, { os := [.ld 0 0, .ld 0 1] }, {}, { os := [.ld 0 2, .ld 0 3] }] (nw := [(51, .val (.agg #[iV (((ordS ltP (nrmL (allP (l.take i.toNat) l))).getD q.toNat ⟨⟨0, 0⟩, ⟨0, 0⟩⟩).b.i), iV (((ordS ltP (nrmL (allP (l.take i.toNat) l))).getD q.toNat ⟨⟨0, 0⟩, ⟨0, 0⟩⟩).b.g)])), (49, .val (.agg #[iV (((ordS ltP (nrmL (allP (l.take i.toNat) l))).getD q.toNat ⟨⟨0, 0⟩, ⟨0, 0⟩⟩).a.i), iV (((ordS ltP (nrmL (allP (l.take i.toNat) l))).getD q.toNat ⟨⟨0, 0⟩, ⟨0, 0⟩⟩).a.g)]))]) (ob := [Ad B24 0, Ad B24 1, Ad B24 2, Ad B24 3]) (Ac (ad _ _) (Ac (ad _ _) (Ac (ad _ _) (Ao (ad _ _))))) ?_
       clear hf; intro a hf
       refine sxcall hf rfl rfl rfl rfl (g := 17) (vs := [.agg #[iV (((ordS ltP (nrmL (allP (l.take i.toNat) l))).getD q.toNat ⟨⟨0, 0⟩, ⟨0, 0⟩⟩).a.i), iV (((ordS ltP (nrmL (allP (l.take i.toNat) l))).getD q.toNat ⟨⟨0, 0⟩, ⟨0, 0⟩⟩).a.g)], .agg #[iV (((ordS ltP (nrmL (allP (l.take i.toNat) l))).getD q.toNat ⟨⟨0, 0⟩, ⟨0, 0⟩⟩).b.i), iV (((ordS ltP (nrmL (allP (l.take i.toNat) l))).getD q.toNat ⟨⟨0, 0⟩, ⟨0, 0⟩⟩).b.g)]]) (ob := []) (by as_aux_lemma => kernel_rfl) An enters17 (oless (((ordS ltP (nrmL (allP (l.take i.toNat) l))).getD q.toNat ⟨⟨0, 0⟩, ⟨0, 0⟩⟩).a.i) (((ordS ltP (nrmL (allP (l.take i.toNat) l))).getD q.toNat ⟨⟨0, 0⟩, ⟨0, 0⟩⟩).a.g) (((ordS ltP (nrmL (allP (l.take i.toNat) l))).getD q.toNat ⟨⟨0, 0⟩, ⟨0, 0⟩⟩).b.i) (((ordS ltP (nrmL (allP (l.take i.toNat) l))).getD q.toNat ⟨⟨0, 0⟩, ⟨0, 0⟩⟩).b.g) w12  ) ?_
       clear hf; rintro _ w13 a ⟨rfl, hk⟩ hf
       have hO := hO.keepNn hk
       have hM := hM.keepNn hk
       have hk0 := hk0.trans hk.nn
       clear hk
       refine q0 hf hM [3, 9, 42, 43, 44] [{}] (nw := [(53, eB (!(ltH ⟨(((ordS ltP (nrmL (allP (l.take i.toNat) l))).getD q.toNat ⟨⟨0, 0⟩, ⟨0, 0⟩⟩).a.i), (((ordS ltP (nrmL (allP (l.take i.toNat) l))).getD q.toNat ⟨⟨0, 0⟩, ⟨0, 0⟩⟩).a.g)⟩ ⟨(((ordS ltP (nrmL (allP (l.take i.toNat) l))).getD q.toNat ⟨⟨0, 0⟩, ⟨0, 0⟩⟩).b.i), (((ordS ltP (nrmL (allP (l.take i.toNat) l))).getD q.toNat ⟨⟨0, 0⟩, ⟨0, 0⟩⟩).b.g)⟩)))]) An ?_
       clear hf; intro a hf
       refine wpList_nil ?_
       refine hK27 _ _ ?_
       refine qc hf (b := !(ltH ⟨(((ordS ltP (nrmL (allP (l.take i.toNat) l))).getD q.toNat ⟨⟨0, 0⟩, ⟨0, 0⟩⟩).a.i), (((ordS ltP (nrmL (allP (l.take i.toNat) l))).getD q.toNat ⟨⟨0, 0⟩, ⟨0, 0⟩⟩).a.g)⟩ ⟨(((ordS ltP (nrmL (allP (l.take i.toNat) l))).getD q.toNat ⟨⟨0, 0⟩, ⟨0, 0⟩⟩).b.i), (((ordS ltP (nrmL (allP (l.take i.toNat) l))).getD q.toNat ⟨⟨0, 0⟩, ⟨0, 0⟩⟩).b.g)⟩)) (fun hc6r => ?_) (fun hc6r => ?_)
       · have hc6 := hc6r
         try simp only [Bool.or_eq_true, Bool.and_eq_true, Bool.not_eq_true', Bool.not_eq_false', Bool.or_eq_false_iff, Bool.and_eq_false_iff, decide_eq_true_eq, decide_eq_false_iff_not, beq_iff_eq, bne_iff_ne, beq_eq_false_iff_ne, bne_eq_false_iff_eq, Bool.and_true, Bool.true_and, ne_eq] at hc6
         exfalso; have h1 := allP_ltT ea (i := q.toNat) (d := ⟨⟨0, 0⟩, ⟨0, 0⟩⟩) (by omega); simp_all
       · have hc6 := hc6r
         try simp only [Bool.or_eq_true, Bool.and_eq_true, Bool.not_eq_true', Bool.not_eq_false', Bool.or_eq_false_iff, Bool.and_eq_false_iff, decide_eq_true_eq, decide_eq_false_iff_not, beq_iff_eq, bne_iff_ne, beq_eq_false_iff_ne, bne_eq_false_iff_eq, Bool.and_true, Bool.true_and, ne_eq] at hc6
         refine wp_skip ?_
         refine hK25 _ _ ?_
         refine wp_region_lit ?_
         refine q0 hf hM [3, 9, 42, 43] [{ hint := some (iV (q + 1)) }, {}] (nw := [(44, eI (q + 1))]) (ob := [(iV (IntKind.i64.wrap (q + 1)) : Value) = (iV (q + 1) : Value)]) (Ao (wr (by omega))) ?_
         clear hf; intro a hf
         refine wpList_nil ?_
         have hf := (hf.prune [3, 9, 42, 43, 44]).to (env' := [(3, eS a'1 (ordS ltH l).length c'1), (9, eS a'2 ((ordS ltP (nrmL (allP (l.take i.toNat) l))).length) c'2), (42, eS a'2 ((ordS ltP (nrmL (allP (l.take i.toNat) l))).length) c'2), (43, eI ((ordS ltP (nrmL (allP (l.take i.toNat) l))).length : Int)), (44, eI (q + 1))]) (by kernel_rfl)
         replace hO : OwnOk w.heap.size [] [⟨31, 4, .slice a'2 ((ordS ltP (nrmL (allP (l.take i.toNat) l))).length) c'2, (ordS ltP (nrmL (allP (l.take i.toNat) l))).length, flat fP (ordS ltP (nrmL (allP (l.take i.toNat) l)))⟩, ⟨31, 4, .slice a4 ((allP (l.take i.toNat) l).length) c4, (allP (l.take i.toNat) l).length, flat fP (allP (l.take i.toNat) l)⟩, ⟨28, 2, .slice a'1 (ordS ltH l).length c'1, (ordS ltH l).length, flat fH (ordS ltH l)⟩] w13 := hO.sub (.cons _ .slnil) (List.Sublist.refl _)
         replace hM : MemOk [] w13 := hM.sub (.cons _ .slnil)
         refine hL3 _ _ _ (by omega) ⟨q + 1, rfl, hf.conv (Ac rfl (Ac rfl (Ac rfl (Ac rfl (Ao rfl))))), hM, hk0, hO, (by omega)⟩
     · have hc5 := (nU hc5r)
       refine wp_exit ?_
       refine hK21 _ _ ?_
       refine wp_seq_k (fun K28 hK28 => ?_)
       refine wp_region_lit ?_
       refine q0 hf hM [] [{}, {}, {}, {}, {}, {}, { hint := some (iV (((ordS ltH l).length : Int) - 1)) }, { hint := some (iV (((ordS ltH l).length : Int) * (((ordS ltH l).length : Int) - 1))) }, { sp := true, hint := some (iV (Int.tdiv (((ordS ltH l).length : Int) * (((ordS ltH l).length : Int) - 1)) 2)) }, {}, {}] (nw := [(2, eB ((((ordS ltP (nrmL (allP (l.take i.toNat) l))).length : Int) : Int) == (Int.tdiv (((ordS ltH l).length : Int) * (((ordS ltH l).length : Int) - 1)) 2)))]) (ob := [(iV (IntKind.i64.wrap (((ordS ltH l).length : Int) - 1)) : Value) = (iV (((ordS ltH l).length : Int) - 1) : Value), (iV (IntKind.i64.wrap (((ordS ltH l).length : Int) * (((ordS ltH l).length : Int) - 1))) : Value) = (iV (((ordS ltH l).length : Int) * (((ordS ltH l).length : Int) - 1)) : Value), (2 : Int) ≠ 0, (iV (IntKind.i64.wrap (Int.tdiv (((ordS ltH l).length : Int) * (((ordS ltH l).length : Int) - 1)) 2)) : Value) = (iV (Int.tdiv (((ordS ltH l).length : Int) * (((ordS ltH l).length : Int) - 1)) 2) : Value)]) (Ac (wr (by omega)) (Ac (wr (mul30 (by omega))) (Ac (by omega) (Ao (wr (half30 (by omega))))))) ?_
       clear hf; intro a hf
       refine wpList_nil ?_
       refine hK28 _ _ ?_
       refine wp_ret ?_
       refine qr (fn := Try.f11) hf hM [] (l := [bV ((((ordS ltP (nrmL (allP (l.take i.toNat) l))).length : Int) : Int) == (Int.tdiv (((ordS ltH l).length : Int) * (((ordS ltH l).length : Int) - 1)) 2))]) (ob := []) An ?_
       show (bV ((((ordS ltP (nrmL (allP (l.take i.toNat) l))).length : Int) : Int) == (Int.tdiv (((ordS ltH l).length : Int) * (((ordS ltH l).length : Int) - 1)) 2)) : Value) = .bool true ∧ Keep Nn w w11
       refine ⟨congrArg Value.bool ?_, hk0⟩
       exact fin30 ea
end Go.Proofs.Ytllopoaojchcmaa
