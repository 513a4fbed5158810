/- layer 6: finds -/
import Derived.Test.YtifcgjnknikjkaaDoorBC3
import Derived.Test.YtifcgjnknikjkaaDoorXp6c
namespace Go.Proofs.YtifcgjnknikjkaaDoor
open Go.Px
set_option linter.unusedVariables false
set_option linter.unusedSimpArgs false

set_option maxRecDepth 10000 in
set_option maxHeartbeats 1600000 in
theorem sfind (av : Option Addr) (l : List V3) (c : Nat) (kk : Int) (w : World) (hav : Arr w 3 av l.length c (flat fV l)) (hbav : l.length ≤ 1000000) :
    Calls Tryd.prog 42 #[.slice av l.length c, iV kk] w (Ret fun v w' => v = .tuple #[.agg #[iV (findV l kk).k, iV (findV l kk).a, iV (findV l kk).b], bV (hasV l kk)] ∧ Keep Nn w w') := by
 refine sxenter (n := 21) (args := [.slice av l.length c, iV kk]) Tryd.func42 rfl rfl rfl fun a hf => ?_
 replace hf : Fr 21 [(0, eS av l.length c), (1, eI kk)] a := hf
 have hM : MemOk [] w := MemOk.nil w
 have hk0 : Keep Nn w w := Keep.refl _ _
 refine wp_seq_k (fun K1 hK1 => ?_)
 refine wp_region_lit ?_
 refine q1 hf hM [4, 0, 1] [{ os := [.nw] }, {}] (env' := fun B1 => [(4, eP B1 0), (0, eS av l.length c), (1, eI kk)]) (M' := fun B1 => [⟨B1, 62, [iV 0, iV 0, iV 0]⟩]) (ob := fun B1 => []) (fun B1 => An) ?_
 clear hf hM; intro a w1 B1 hf hM hB hk
 have hbB1 : w.heap.size ≤ B1 := by have := hk0.size; omega
 have hk0 := hk0.then hk (by intro i _ h; cases h)
 clear hk hB
 refine wpList_nil ?_
 refine hK1 _ _ ?_
 refine wp_seq_k (fun K2 hK2 => ?_)
 refine wp_seq_k (fun K3 hK3 => ?_)
 refine wp_region_lit ?_
 refine q0 hf hM [10, 9, 8, 4, 1] [{}, {}, {}] (env' := [(10, eI 0), (9, eI (l.length : Int)), (8, eS av l.length c), (4, eP B1 0), (1, eI kk)]) (ob := []) An ?_
 clear hf; intro a hf
 refine wpList_nil ?_
 refine hK3 _ _ ?_
 refine wp_block ?_
 have hf := hf.prune [1, 4, 8, 9, 10]
 replace hf : Fr 21 [(1, eI kk), (4, eP B1 0), (8, eS av l.length c), (9, eI (l.length : Int)), (10, eI 0)] a := hf
 refine sxloop (fun zm a w1 => ∃ (i : Int), zm = ((l.length : Int) - i).toNat ∧ Fr 21 [(1, eI kk), (4, eP B1 0), (8, eS av l.length c), (9, eI (l.length : Int)), (10, eI i)] a ∧ MemOk [⟨B1, 62, [iV 0, iV 0, iV 0]⟩] w1 ∧ Keep Nn w w1 ∧ (0 ≤ i ∧ i ≤ (l.length : Int)) ∧ ((l.drop i.toNat).find? (fun v => v.k == kk) = l.find? fun v => v.k == kk)) _ ⟨0, rfl, hf.conv (Ac rfl (Ac rfl (Ac rfl (Ac rfl (Ao rfl))))), hM, hk0, (by omega), rfl⟩ ?_
 clear hf hM hk0
 rintro _ a w2 ⟨i, rfl, hf, hM, hk0, hi, hfd⟩ L1 hL1
 refine wp_seq_k (fun K4 hK4 => ?_)
 refine wp_region_lit ?_
 refine q0 hf hM [11, 1, 4, 8, 9, 10] [{}] (env' := [(11, eB (decide ((i : Int) < (l.length : Int)))), (1, eI kk), (4, eP B1 0), (8, eS av l.length c), (9, eI (l.length : Int)), (10, eI i)]) (ob := []) An ?_
 clear hf; intro a hf
 refine wpList_nil ?_
 refine hK4 _ _ ?_
 refine wp_seq_k (fun K5 hK5 => ?_)
 refine qc hf (b := (decide ((i : Int) < (l.length : Int)))) (fun hc1r => ?_) (fun hc1r => ?_)
 · have hc1 := (nT hc1r)
   refine wp_skip ?_
   refine hK5 _ _ ?_
   refine wp_seq_k (fun K6 hK6 => ?_)
   refine wp_block ?_
   refine wp_seq_k (fun K7 hK7 => ?_)
   refine wp_region_lit ?_
   refine q1 hf hM [7, 1, 4, 8, 9, 10] [{ sp := true }, { os := [.ex (iV (l.getD i.toNat ⟨0, 0, 0⟩).k), .ex (iV (l.getD i.toNat ⟨0, 0, 0⟩).a), .ex (iV (l.getD i.toNat ⟨0, 0, 0⟩).b)] }, { os := [.nw] }, { os := [.st 1 0, .st 1 1, .st 1 2] }] (env' := fun B4 => [(7, eP B4 0), (1, eI kk), (4, eP B1 0), (8, eS av l.length c), (9, eI (l.length : Int)), (10, eI i)]) (M' := fun B4 => [⟨B1, 62, [iV 0, iV 0, iV 0]⟩, ⟨B4, 62, [iV (l.getD i.toNat ⟨0, 0, 0⟩).k, iV (l.getD i.toNat ⟨0, 0, 0⟩).a, iV (l.getD i.toNat ⟨0, 0, 0⟩).b]⟩]) (ob := fun B4 => [(0 : Int) ≤ i ∧ i < (l.length : Int), (av : Option Addr).isSome = true, w2.cell? (((sa av : Addr).add (i.toNat * 3)).add 0) = some (iV (l.getD i.toNat ⟨0, 0, 0⟩).k), w2.cell? (((sa av : Addr).add (i.toNat * 3)).add 1) = some (iV (l.getD i.toNat ⟨0, 0, 0⟩).a), w2.cell? (((sa av : Addr).add (i.toNat * 3)).add 2) = some (iV (l.getD i.toNat ⟨0, 0, 0⟩).b), Ad B4 0, Ad B4 1, Ad B4 2]) (fun B4 => (Ac (by first | omega | (simp; done)) (Ac ((hav.keepNn hk0).some_ (by first | omega | (simp; done))) (Ac ((hav.keepNn hk0).get (fun _ => rfl) (by first | omega | (simp; done)) rfl) (Ac ((hav.keepNn hk0).get (fun _ => rfl) (by first | omega | (simp; done)) rfl) (Ac ((hav.keepNn hk0).get (fun _ => rfl) (by first | omega | (simp; done)) rfl) (Ac (ad _ _) (Ac (ad _ _) (Ao (ad _ _)))))))))) ?_
   clear hf hM; intro a w3 B4 hf hM hB hk
   have hbB4 : w.heap.size ≤ B4 := by have := hk0.size; omega
   have hk0 := hk0.then hk (by intro i hi h; simp only [Is, Mem.names, List.map_cons, List.map_nil, List.mem_cons, List.not_mem_nil, or_false] at h; omega)
   clear hk hB
   refine wpList_nil ?_
   refine hK7 _ _ ?_
   refine wp_seq_k (fun K8 hK8 => ?_)
   refine wp_region_lit ?_
   refine q0 hf hM [17, 7, 1, 4, 8, 9, 10] [{}, { os := [.ld 1 0] }, {}, {}] (env' := [(17, eB (((l.getD i.toNat ⟨0, 0, 0⟩).k : Int) == kk)), (7, eP B4 0), (1, eI kk), (4, eP B1 0), (8, eS av l.length c), (9, eI (l.length : Int)), (10, eI i)]) (ob := [Ad B4 0]) (Ao (ad _ _)) ?_
   clear hf; intro a hf
   refine wpList_nil ?_
   refine hK8 _ _ ?_
   refine qc hf (b := (((l.getD i.toNat ⟨0, 0, 0⟩).k : Int) == kk)) (fun hc2r => ?_) (fun hc2r => ?_)
   · have hc2 := (nE hc2r)
     refine wp_seq_k (fun K9 hK9 => ?_)
     refine wp_region_lit ?_
     refine q1 hf hM [5, 4] [{ os := [.ld 1 0, .ld 1 1, .ld 1 2] }, { os := [.st 0 0, .st 0 1, .st 0 2] }, {}] (env' := fun B6 => [(5, eB true), (4, eP B1 0)]) (M' := fun B6 => [⟨B1, 62, [iV (l.getD i.toNat ⟨0, 0, 0⟩).k, iV (l.getD i.toNat ⟨0, 0, 0⟩).a, iV (l.getD i.toNat ⟨0, 0, 0⟩).b]⟩, ⟨B4, 62, [iV (l.getD i.toNat ⟨0, 0, 0⟩).k, iV (l.getD i.toNat ⟨0, 0, 0⟩).a, iV (l.getD i.toNat ⟨0, 0, 0⟩).b]⟩]) (ob := fun B6 => [Ad B4 0, Ad B4 1, Ad B4 2, Ad B1 0, Ad B1 1, Ad B1 2]) (fun B6 => (Ac (ad _ _) (Ac (ad _ _) (Ac (ad _ _) (Ac (ad _ _) (Ac (ad _ _) (Ao (ad _ _)))))))) ?_
     clear hf hM; intro a w4 B6 hf hM hB hk
     have hbB6 : w.heap.size ≤ B6 := by have := hk0.size; omega
     have hk0 := hk0.then hk (by intro i hi h; simp only [Is, Mem.names, List.map_cons, List.map_nil, List.mem_cons, List.not_mem_nil, or_false] at h; omega)
     clear hk hB
     refine wpList_nil ?_
     refine hK9 _ _ ?_
     refine wp_ret ?_
     refine qr (fn := Tryd.f42) hf hM [.ld 0 0, .ld 0 1, .ld 0 2] (l := [.agg #[iV (l.getD i.toNat ⟨0, 0, 0⟩).k, iV (l.getD i.toNat ⟨0, 0, 0⟩).a, iV (l.getD i.toNat ⟨0, 0, 0⟩).b], bV true]) (ob := [Ad B1 0, Ad B1 1, Ad B1 2]) (Ac (ad _ _) (Ac (ad _ _) (Ao (ad _ _)))) ?_
     show (.tuple #[.agg #[iV (l.getD i.toNat ⟨0, 0, 0⟩).k, iV (l.getD i.toNat ⟨0, 0, 0⟩).a, iV (l.getD i.toNat ⟨0, 0, 0⟩).b], bV true] : Value) = .tuple #[.agg #[iV (findV l kk).k, iV (findV l kk).a, iV (findV l kk).b], bV (hasV l kk)] ∧ Keep Nn w w4
     obtain ⟨h1, h2⟩ := find_here (d := ⟨0, 0, 0⟩) hfd (by omega) (by assumption)
     rw [h1, h2]
     exact ⟨rfl, hk0⟩
   · have hc2 := (nF hc2r)
     refine wp_skip ?_
     refine hK6 _ _ ?_
     refine wp_region_lit ?_
     refine q0 hf hM [10, 1, 4, 8, 9] [{ hint := some (iV (i + 1)) }, {}] (env' := [(10, eI (i + 1)), (1, eI kk), (4, eP B1 0), (8, eS av l.length c), (9, eI (l.length : Int))]) (ob := [(iV (IntKind.i64.wrap (i + 1)) : Value) = (iV (i + 1) : Value)]) (Ao (wr (by omega))) ?_
     clear hf; intro a hf
     refine wpList_nil ?_
     have hfd2 : (l.drop (i + 1).toNat).find? (fun v => v.k == kk) = l.find? fun v => v.k == kk := by
       rw [show (i + 1).toNat = i.toNat + 1 by omega]
       exact find_next (d := ⟨0, 0, 0⟩) hfd (by omega) (by assumption)
     have hf := hf.prune [1, 4, 8, 9, 10]
     replace hf : Fr 21 [(1, eI kk), (4, eP B1 0), (8, eS av l.length c), (9, eI (l.length : Int)), (10, eI (i + 1))] a := hf
     replace hM : MemOk [⟨B1, 62, [iV 0, iV 0, iV 0]⟩] w3 := hM.sub (.cons_cons _ (.cons _ .slnil))
     refine hL1 _ _ _ (by omega) ⟨i + 1, rfl, hf.conv (Ac rfl (Ac rfl (Ac rfl (Ac rfl (Ao rfl))))), hM, hk0, (by omega), hfd2⟩
 · have hc1 := (nU hc1r)
   refine wp_exit ?_
   refine hK2 _ _ ?_
   refine wp_seq_k (fun K10 hK10 => ?_)
   refine wp_region_lit ?_
   refine q1 hf hM [5, 4] [{ sp := true }, { os := [.st 0 0, .st 0 1, .st 0 2] }, {}] (env' := fun B8 => [(5, eB false), (4, eP B1 0)]) (M' := fun B8 => [⟨B1, 62, [iV 0, iV 0, iV 0]⟩]) (ob := fun B8 => [Ad B1 0, Ad B1 1, Ad B1 2]) (fun B8 => (Ac (ad _ _) (Ac (ad _ _) (Ao (ad _ _))))) ?_
   clear hf hM; intro a w5 B8 hf hM hB hk
   have hbB8 : w.heap.size ≤ B8 := by have := hk0.size; omega
   have hk0 := hk0.then hk (by intro i hi h; simp only [Is, Mem.names, List.map_cons, List.map_nil, List.mem_cons, List.not_mem_nil, or_false] at h; omega)
   clear hk hB
   refine wpList_nil ?_
   refine hK10 _ _ ?_
   refine wp_ret ?_
   refine qr (fn := Tryd.f42) hf hM [.ld 0 0, .ld 0 1, .ld 0 2] (l := [.agg #[iV 0, iV 0, iV 0], bV false]) (ob := [Ad B1 0, Ad B1 1, Ad B1 2]) (Ac (ad _ _) (Ac (ad _ _) (Ao (ad _ _)))) ?_
   show (.tuple #[.agg #[iV 0, iV 0, iV 0], bV false] : Value) = .tuple #[.agg #[iV (findV l kk).k, iV (findV l kk).a, iV (findV l kk).b], bV (hasV l kk)] ∧ Keep Nn w w5
   obtain ⟨h1, h2⟩ := find_none hfd (by omega)
   rw [h1, h2]
   exact ⟨rfl, hk0⟩

set_option maxRecDepth 10000 in
set_option maxHeartbeats 1600000 in
theorem rfind (av : Option Addr) (l : List V3) (c : Nat) (kk : Int) (w : World) (hav : Arr w 3 av l.length c (flat fV l)) (hbav : l.length ≤ 1000000) :
    Calls Tryd.prog 43 #[.slice av l.length c, iV kk] w (Ret fun v w' => v = .tuple #[.agg #[iV (findV l kk).k, iV (findV l kk).a, iV (findV l kk).b], bV (hasV l kk)] ∧ Keep Nn w w') := by
 refine sxenter (n := 21) (args := [.slice av l.length c, iV kk]) Tryd.func43 rfl rfl rfl fun a hf => ?_
 replace hf : Fr 21 [(0, eS av l.length c), (1, eI kk)] a := hf
 have hM : MemOk [] w := MemOk.nil w
 have hk0 : Keep Nn w w := Keep.refl _ _
 refine wp_seq_k (fun K1 hK1 => ?_)
 refine wp_region_lit ?_
 refine q1 hf hM [4, 0, 1] [{ os := [.nw] }, {}] (env' := fun B1 => [(4, eP B1 0), (0, eS av l.length c), (1, eI kk)]) (M' := fun B1 => [⟨B1, 62, [iV 0, iV 0, iV 0]⟩]) (ob := fun B1 => []) (fun B1 => An) ?_
 clear hf hM; intro a w1 B1 hf hM hB hk
 have hbB1 : w.heap.size ≤ B1 := by have := hk0.size; omega
 have hk0 := hk0.then hk (by intro i _ h; cases h)
 clear hk hB
 refine wpList_nil ?_
 refine hK1 _ _ ?_
 refine wp_seq_k (fun K2 hK2 => ?_)
 refine wp_seq_k (fun K3 hK3 => ?_)
 refine wp_region_lit ?_
 refine q0 hf hM [10, 9, 8, 4, 1] [{}, {}, {}] (env' := [(10, eI 0), (9, eI (l.length : Int)), (8, eS av l.length c), (4, eP B1 0), (1, eI kk)]) (ob := []) An ?_
 clear hf; intro a hf
 refine wpList_nil ?_
 refine hK3 _ _ ?_
 refine wp_block ?_
 have hf := hf.prune [1, 4, 8, 9, 10]
 replace hf : Fr 21 [(1, eI kk), (4, eP B1 0), (8, eS av l.length c), (9, eI (l.length : Int)), (10, eI 0)] a := hf
 refine sxloop (fun zm a w1 => ∃ (i : Int), zm = ((l.length : Int) - i).toNat ∧ Fr 21 [(1, eI kk), (4, eP B1 0), (8, eS av l.length c), (9, eI (l.length : Int)), (10, eI i)] a ∧ MemOk [⟨B1, 62, [iV 0, iV 0, iV 0]⟩] w1 ∧ Keep Nn w w1 ∧ (0 ≤ i ∧ i ≤ (l.length : Int)) ∧ ((l.drop i.toNat).find? (fun v => v.k == kk) = l.find? fun v => v.k == kk)) _ ⟨0, rfl, hf.conv (Ac rfl (Ac rfl (Ac rfl (Ac rfl (Ao rfl))))), hM, hk0, (by omega), rfl⟩ ?_
 clear hf hM hk0
 rintro _ a w2 ⟨i, rfl, hf, hM, hk0, hi, hfd⟩ L1 hL1
 refine wp_seq_k (fun K4 hK4 => ?_)
 refine wp_region_lit ?_
 refine q0 hf hM [11, 1, 4, 8, 9, 10] [{}] (env' := [(11, eB (decide ((i : Int) < (l.length : Int)))), (1, eI kk), (4, eP B1 0), (8, eS av l.length c), (9, eI (l.length : Int)), (10, eI i)]) (ob := []) An ?_
 clear hf; intro a hf
 refine wpList_nil ?_
 refine hK4 _ _ ?_
 refine wp_seq_k (fun K5 hK5 => ?_)
 refine qc hf (b := (decide ((i : Int) < (l.length : Int)))) (fun hc1r => ?_) (fun hc1r => ?_)
 · have hc1 := (nT hc1r)
   refine wp_skip ?_
   refine hK5 _ _ ?_
   refine wp_seq_k (fun K6 hK6 => ?_)
   refine wp_block ?_
   refine wp_seq_k (fun K7 hK7 => ?_)
   refine wp_region_lit ?_
   refine q1 hf hM [7, 1, 4, 8, 9, 10] [{ sp := true }, { os := [.ex (iV (l.getD i.toNat ⟨0, 0, 0⟩).k), .ex (iV (l.getD i.toNat ⟨0, 0, 0⟩).a), .ex (iV (l.getD i.toNat ⟨0, 0, 0⟩).b)] }, { os := [.nw] }, { os := [.st 1 0, .st 1 1, .st 1 2] }] (env' := fun B4 => [(7, eP B4 0), (1, eI kk), (4, eP B1 0), (8, eS av l.length c), (9, eI (l.length : Int)), (10, eI i)]) (M' := fun B4 => [⟨B1, 62, [iV 0, iV 0, iV 0]⟩, ⟨B4, 62, [iV (l.getD i.toNat ⟨0, 0, 0⟩).k, iV (l.getD i.toNat ⟨0, 0, 0⟩).a, iV (l.getD i.toNat ⟨0, 0, 0⟩).b]⟩]) (ob := fun B4 => [(0 : Int) ≤ i ∧ i < (l.length : Int), (av : Option Addr).isSome = true, w2.cell? (((sa av : Addr).add (i.toNat * 3)).add 0) = some (iV (l.getD i.toNat ⟨0, 0, 0⟩).k), w2.cell? (((sa av : Addr).add (i.toNat * 3)).add 1) = some (iV (l.getD i.toNat ⟨0, 0, 0⟩).a), w2.cell? (((sa av : Addr).add (i.toNat * 3)).add 2) = some (iV (l.getD i.toNat ⟨0, 0, 0⟩).b), Ad B4 0, Ad B4 1, Ad B4 2]) (fun B4 => (Ac (by first | omega | (simp; done)) (Ac ((hav.keepNn hk0).some_ (by first | omega | (simp; done))) (Ac ((hav.keepNn hk0).get (fun _ => rfl) (by first | omega | (simp; done)) rfl) (Ac ((hav.keepNn hk0).get (fun _ => rfl) (by first | omega | (simp; done)) rfl) (Ac ((hav.keepNn hk0).get (fun _ => rfl) (by first | omega | (simp; done)) rfl) (Ac (ad _ _) (Ac (ad _ _) (Ao (ad _ _)))))))))) ?_
   clear hf hM; intro a w3 B4 hf hM hB hk
   have hbB4 : w.heap.size ≤ B4 := by have := hk0.size; omega
   have hk0 := hk0.then hk (by intro i hi h; simp only [Is, Mem.names, List.map_cons, List.map_nil, List.mem_cons, List.not_mem_nil, or_false] at h; omega)
   clear hk hB
   refine wpList_nil ?_
   refine hK7 _ _ ?_
   refine wp_seq_k (fun K8 hK8 => ?_)
   refine wp_region_lit ?_
   refine q0 hf hM [17, 7, 1, 4, 8, 9, 10] [{}, { os := [.ld 1 0] }, {}, {}] (env' := [(17, eB (((l.getD i.toNat ⟨0, 0, 0⟩).k : Int) == kk)), (7, eP B4 0), (1, eI kk), (4, eP B1 0), (8, eS av l.length c), (9, eI (l.length : Int)), (10, eI i)]) (ob := [Ad B4 0]) (Ao (ad _ _)) ?_
   clear hf; intro a hf
   refine wpList_nil ?_
   refine hK8 _ _ ?_
   refine qc hf (b := (((l.getD i.toNat ⟨0, 0, 0⟩).k : Int) == kk)) (fun hc2r => ?_) (fun hc2r => ?_)
   · have hc2 := (nE hc2r)
     refine wp_seq_k (fun K9 hK9 => ?_)
     refine wp_region_lit ?_
     refine q1 hf hM [5, 4] [{ os := [.ld 1 0, .ld 1 1, .ld 1 2] }, { os := [.st 0 0, .st 0 1, .st 0 2] }, {}] (env' := fun B6 => [(5, eB true), (4, eP B1 0)]) (M' := fun B6 => [⟨B1, 62, [iV (l.getD i.toNat ⟨0, 0, 0⟩).k, iV (l.getD i.toNat ⟨0, 0, 0⟩).a, iV (l.getD i.toNat ⟨0, 0, 0⟩).b]⟩, ⟨B4, 62, [iV (l.getD i.toNat ⟨0, 0, 0⟩).k, iV (l.getD i.toNat ⟨0, 0, 0⟩).a, iV (l.getD i.toNat ⟨0, 0, 0⟩).b]⟩]) (ob := fun B6 => [Ad B4 0, Ad B4 1, Ad B4 2, Ad B1 0, Ad B1 1, Ad B1 2]) (fun B6 => (Ac (ad _ _) (Ac (ad _ _) (Ac (ad _ _) (Ac (ad _ _) (Ac (ad _ _) (Ao (ad _ _)))))))) ?_
     clear hf hM; intro a w4 B6 hf hM hB hk
     have hbB6 : w.heap.size ≤ B6 := by have := hk0.size; omega
     have hk0 := hk0.then hk (by intro i hi h; simp only [Is, Mem.names, List.map_cons, List.map_nil, List.mem_cons, List.not_mem_nil, or_false] at h; omega)
     clear hk hB
     refine wpList_nil ?_
     refine hK9 _ _ ?_
     refine wp_ret ?_
     refine qr (fn := Tryd.f43) hf hM [.ld 0 0, .ld 0 1, .ld 0 2] (l := [.agg #[iV (l.getD i.toNat ⟨0, 0, 0⟩).k, iV (l.getD i.toNat ⟨0, 0, 0⟩).a, iV (l.getD i.toNat ⟨0, 0, 0⟩).b], bV true]) (ob := [Ad B1 0, Ad B1 1, Ad B1 2]) (Ac (ad _ _) (Ac (ad _ _) (Ao (ad _ _)))) ?_
     show (.tuple #[.agg #[iV (l.getD i.toNat ⟨0, 0, 0⟩).k, iV (l.getD i.toNat ⟨0, 0, 0⟩).a, iV (l.getD i.toNat ⟨0, 0, 0⟩).b], bV true] : Value) = .tuple #[.agg #[iV (findV l kk).k, iV (findV l kk).a, iV (findV l kk).b], bV (hasV l kk)] ∧ Keep Nn w w4
     obtain ⟨h1, h2⟩ := find_here (d := ⟨0, 0, 0⟩) hfd (by omega) (by assumption)
     rw [h1, h2]
     exact ⟨rfl, hk0⟩
   · have hc2 := (nF hc2r)
     refine wp_skip ?_
     refine hK6 _ _ ?_
     refine wp_region_lit ?_
     refine q0 hf hM [10, 1, 4, 8, 9] [{ hint := some (iV (i + 1)) }, {}] (env' := [(10, eI (i + 1)), (1, eI kk), (4, eP B1 0), (8, eS av l.length c), (9, eI (l.length : Int))]) (ob := [(iV (IntKind.i64.wrap (i + 1)) : Value) = (iV (i + 1) : Value)]) (Ao (wr (by omega))) ?_
     clear hf; intro a hf
     refine wpList_nil ?_
     have hfd2 : (l.drop (i + 1).toNat).find? (fun v => v.k == kk) = l.find? fun v => v.k == kk := by
       rw [show (i + 1).toNat = i.toNat + 1 by omega]
       exact find_next (d := ⟨0, 0, 0⟩) hfd (by omega) (by assumption)
     have hf := hf.prune [1, 4, 8, 9, 10]
     replace hf : Fr 21 [(1, eI kk), (4, eP B1 0), (8, eS av l.length c), (9, eI (l.length : Int)), (10, eI (i + 1))] a := hf
     replace hM : MemOk [⟨B1, 62, [iV 0, iV 0, iV 0]⟩] w3 := hM.sub (.cons_cons _ (.cons _ .slnil))
     refine hL1 _ _ _ (by omega) ⟨i + 1, rfl, hf.conv (Ac rfl (Ac rfl (Ac rfl (Ac rfl (Ao rfl))))), hM, hk0, (by omega), hfd2⟩
 · have hc1 := (nU hc1r)
   refine wp_exit ?_
   refine hK2 _ _ ?_
   refine wp_seq_k (fun K10 hK10 => ?_)
   refine wp_region_lit ?_
   refine q1 hf hM [5, 4] [{ sp := true }, { os := [.st 0 0, .st 0 1, .st 0 2] }, {}] (env' := fun B8 => [(5, eB false), (4, eP B1 0)]) (M' := fun B8 => [⟨B1, 62, [iV 0, iV 0, iV 0]⟩]) (ob := fun B8 => [Ad B1 0, Ad B1 1, Ad B1 2]) (fun B8 => (Ac (ad _ _) (Ac (ad _ _) (Ao (ad _ _))))) ?_
   clear hf hM; intro a w5 B8 hf hM hB hk
   have hbB8 : w.heap.size ≤ B8 := by have := hk0.size; omega
   have hk0 := hk0.then hk (by intro i hi h; simp only [Is, Mem.names, List.map_cons, List.map_nil, List.mem_cons, List.not_mem_nil, or_false] at h; omega)
   clear hk hB
   refine wpList_nil ?_
   refine hK10 _ _ ?_
   refine wp_ret ?_
   refine qr (fn := Tryd.f43) hf hM [.ld 0 0, .ld 0 1, .ld 0 2] (l := [.agg #[iV 0, iV 0, iV 0], bV false]) (ob := [Ad B1 0, Ad B1 1, Ad B1 2]) (Ac (ad _ _) (Ac (ad _ _) (Ao (ad _ _)))) ?_
   show (.tuple #[.agg #[iV 0, iV 0, iV 0], bV false] : Value) = .tuple #[.agg #[iV (findV l kk).k, iV (findV l kk).a, iV (findV l kk).b], bV (hasV l kk)] ∧ Keep Nn w w5
   obtain ⟨h1, h2⟩ := find_none hfd (by omega)
   rw [h1, h2]
   exact ⟨rfl, hk0⟩
end Go.Proofs.YtifcgjnknikjkaaDoor
