/- layer 12: a tree -/
import Derived.Test.YthofalkkdpjdlaaDoorR4
namespace Go.Proofs.YthofalkkdpjdlaaDoor
open Go.Px
set_option linter.unusedVariables false
set_option linter.unusedSimpArgs false

set_option maxRecDepth 10000 in
set_option maxHeartbeats 1600000 in
theorem tnew (w : World) :
    Calls Tryd.prog 11 #[] w (Ret fun v w' => ∃ T Bl, v = .pointer (some ⟨T, 0, none⟩) ∧ Keep Nn w w' ∧ (oTree 72 68 T Bl []).φ w.heap.size w' ∧ Bl.Nodup) := by
 refine sxenter (n := 10) (args := []) Tryd.func11 rfl rfl rfl fun a hf => ?_
 replace hf : Fr 10 [] a := hf
 have hM : MemOk [] w := MemOk.nil w
 have hk0 : Keep Nn w w := Keep.refl _ _
 refine wp_seq_k (fun K1 hK1 => ?_)
 refine wp_region_lit ?_
 refine q0 hf hM [] [{}] (nw := []) An ?_
 clear hf; intro a hf
 refine wpList_nil ?_
 refine hK1 _ _ ?_
 refine wp_seq_k (fun K2 hK2 => ?_)
 refine wp_region_lit ?_
 have hO : OwnOk w.heap.size [] [] w := OwnOk.nil hM
 refine sxmakemap vC vP hf hM hO rfl rfl rfl rfl (by have := hk0.size; omega) ?_
 clear hf hM hO; intro a w1 Bm1 hf hM hO hB hk
 have hbBm1 : w.heap.size ≤ Bm1 := by have := hk0.size; omega
 replace hO : OwnOk w.heap.size [] [oM Bm1 vC vP ([] : List (C3 × Option Nat))] w1 := hO
 have hk0 := hk0.trans hk.nn
 clear hk hB
 refine q0 hf hM [1] [{ sp := true }] (nw := [(2, .val (.agg #[iV 0, iV 0, iV 0]))]) An ?_
 clear hf; intro a hf
 refine sxmakemap vH vB hf hM hO rfl rfl rfl rfl (by have := hk0.size; omega) ?_
 clear hf hM hO; intro a w2 Bm2 hf hM hO hB hk
 have hbBm2 : w.heap.size ≤ Bm2 := by have := hk0.size; omega
 replace hO : OwnOk w.heap.size [] [oM Bm2 vH vB ([] : List (H2 × B4)), oM Bm1 vC vP ([] : List (C3 × Option Nat))] w2 := hO
 have hk0 := hk0.trans hk.nn
 clear hk hB
 refine q1 hf hM [2, 1] [{ sp := true }, { os := [.nw] }] (nw := fun B3 => [(5, eP B3 0)]) (M' := fun B3 => [⟨B3, 68, [.map (some Bm2), iV 0]⟩]) (ob := fun B3 => []) (fun B3 => An) ?_
 clear hf hM; intro a w3 B3 hf hM hB hk
 have hbB3 : w.heap.size ≤ B3 := by have := hk0.size; omega
 have hk0 := hk0.then hk (by intro i _ h; cases h)
 have hO := hO.step hM (hk.mono (by intro _ _ h; cases h)) (by intro i h; simp only [Mem.names, List.map_cons, List.map_nil, List.mem_cons, List.not_mem_nil, or_false, List.map_append, List.cons_append, List.nil_append] at h ⊢; omega)
 clear hk hB
 replace hO : OwnOk w.heap.size [⟨B3, 68, [.map (some Bm2), iV 0]⟩] [oM Bm1 vC vP ([] : List (C3 × Option Nat)), oM Bm2 vH vB ([] : List (H2 × B4))] w3 := OwnOk.front (l1 := [oM Bm2 vH vB ([] : List (H2 × B4))]) (l2 := []) hO
 refine sxmapins hf hM hO keyC rfl rfl rfl rfl (⟨0, 0, 0⟩ : C3) rfl (some B3 : Option Nat) rfl Tryd.underlying69 ?_; clear hf hM; intro a w4 hf hM hO2 hk
 have hk0 := hk0.then hk (by intro i hi h; subst h; have := (hO.ltB (List.Mem.head _) (List.mem_singleton.2 rfl)).1; omega)
 clear hO; have hO := hO2; clear hO2
 clear hk
 replace hO : OwnOk w.heap.size [⟨B3, 68, [.map (some Bm2), iV 0]⟩] [oM Bm1 vC vP (putK ([] : List (C3 × Option Nat)) (⟨0, 0, 0⟩ : C3) (some B3 : Option Nat)), oM Bm2 vH vB ([] : List (H2 × B4))] w4 := hO
 refine q0 hf hM [] [{}] (nw := [(6, .val (.map (some Bm1)))]) An ?_
 clear hf; intro a hf
 refine sxmakemap vH vC hf hM hO rfl rfl rfl rfl (by have := hk0.size; omega) ?_
 clear hf hM hO; intro a w5 Bm3 hf hM hO hB hk
 have hbBm3 : w.heap.size ≤ Bm3 := by have := hk0.size; omega
 replace hO : OwnOk w.heap.size [⟨B3, 68, [.map (some Bm2), iV 0]⟩] [oM Bm3 vH vC ([] : List (H2 × C3)), oM Bm1 vC vP (putK ([] : List (C3 × Option Nat)) (⟨0, 0, 0⟩ : C3) (some B3 : Option Nat)), oM Bm2 vH vB ([] : List (H2 × B4))] w5 := hO
 have hk0 := hk0.trans hk.nn
 clear hk hB
 refine q1 hf hM [] [{ sp := true }, { os := [.nw] }, {}] (nw := fun B5 => [(0, eP B5 0)]) (M' := fun B5 => [⟨B3, 68, [.map (some Bm2), iV 0]⟩, ⟨B5, 72, [.map (some Bm1), .map (some Bm3)]⟩]) (ob := fun B5 => []) (fun B5 => An) ?_
 clear hf hM; intro a w6 B5 hf hM hB hk
 have hbB5 : w.heap.size ≤ B5 := by have := hk0.size; omega
 have hk0 := hk0.thenNew hk (by simp [Mem.names] <;> omega)
 have hO := hO.step hM hk (by intro i h; simp only [Mem.names, List.map_cons, List.map_nil, List.mem_cons, List.not_mem_nil, or_false, List.map_append, List.cons_append, List.nil_append] at h ⊢; omega)
 clear hk hB
 refine wpList_nil ?_
 refine hK2 _ _ ?_
 refine wp_ret ?_
 refine qr (fn := Tryd.f11) hf hM [] (l := [pV B5 0]) (ob := []) An ?_
 show ∃ T Bl, (pV B5 0 : Value) = .pointer (some ⟨T, 0, none⟩) ∧ Keep Nn w w6 ∧ (oTree 72 68 T Bl []).φ w.heap.size w6 ∧ Bl.Nodup
 refine ⟨B5, _, rfl, hk0, ⟨Bm1, Bm3, [⟨rootC, B3, Bm2, 0, []⟩], [], rfl, TreeI.new _ _, by omega, hM.at_ _ (List.Mem.tail _ (List.Mem.head _)), ⟨hO.own _ (List.Mem.tail _ (List.Mem.head _)), fun n hn => ?_⟩, hO.own _ (List.Mem.head _)⟩, ?_⟩
 · obtain rfl := List.mem_singleton.1 hn
   exact ⟨by omega, (hO.own _ (List.Mem.tail _ (List.Mem.tail _ (List.Mem.head _)))).1, hM.at_ _ (List.Mem.head _), (hO.own _ (List.Mem.tail _ (List.Mem.tail _ (List.Mem.head _)))).2⟩
 · have h1 := hO.nd
   simp [Mem.names, oM] at h1
   simp [ndB]
   omega

set_option maxRecDepth 10000 in
set_option maxHeartbeats 1600000 in
theorem tdrop_no (E : Nat → Addr) (T cB : Nat) (Lc : List (H2 × C3)) (hi hg : Int) (w : World) (hT : w.cell? ⟨T, 1, none⟩ = some (.map (some cB))) (hm : MapAt w cB vH vC Lc) (hno : hasK Lc (⟨hi, hg⟩ : H2) = false) (hG : Errs [1, 3, 0] w 161 E) :
    Calls Tryd.prog 34 #[pV T 0, .agg #[iV hi, iV hg]] w (Ret fun v w' => v = .iface 161 (.pointer (some (E 3))) ∧ Keep Nn w w') := by
 refine sxenter (n := 37) (args := [pV T 0, .agg #[iV hi, iV hg]]) Tryd.func34 rfl rfl rfl fun a hf => ?_
 replace hf : Fr 37 [(0, eP T 0), (1, .val (.agg #[iV hi, iV hg]))] a := hf
 have hM : MemOk [] w := MemOk.nil w
 have hk0 : Keep Nn w w := Keep.refl _ _
 refine wp_seq_k (fun K1 hK1 => ?_)
 refine wp_region_lit ?_
 refine q1 hf hM [0] [{ os := [.nw] }, {}] (nw := fun B1 => [(3, eP B1 0)]) (M' := fun B1 => [⟨B1, 39, [iV hi, iV hg]⟩]) (ob := fun B1 => []) (fun B1 => An) ?_
 clear hf hM; intro a w1 B1 hf hM hB hk
 have hbB1 : w.heap.size ≤ B1 := by have := hk0.size; omega
 have hk0 := hk0.then hk (by intro i _ h; cases h)
 clear hk hB
 refine wpList_nil ?_
 refine hK1 _ _ ?_
 obtain ⟨K2, hK2, oK2⟩ := kcls (fun a w1 => ∃ (q5 : Nat), Fr 37 [(0, eP T 0), (3, eP B1 0), (5, eP q5 0), (6, eB (hasK Lc (⟨hi, hg⟩ : H2)))] a ∧ MemOk [⟨B1, 39, [iV hi, iV hg]⟩, ⟨q5, 29, [iV (((getK Lc (⟨hi, hg⟩ : H2)).getD (⟨0, 0, 0⟩ : C3)).d), iV (((getK Lc (⟨hi, hg⟩ : H2)).getD (⟨0, 0, 0⟩ : C3)).x), iV (((getK Lc (⟨hi, hg⟩ : H2)).getD (⟨0, 0, 0⟩ : C3)).y)]⟩] w1 ∧ Keep Nn w w1 ∧ w.heap.size ≤ q5)
 refine sxjoin K2 ?_ ?_
 ·
   replace hM := hM.drew; replace hk0 := hk0.drew
   obtain ⟨Cq1, hCq1i, hCq1e⟩ := qcls fun w' => MemOk [⟨B1, 39, [iV hi, iV hg]⟩] w' ∧ Keep Nn w w' ∧ True
   refine sxdraw (C := Cq1) (.alt [(0, true), (1, true), (2, true), (3, true), (4, true)] (.leaf [(5, false), (6, true), (7, true), (8, true), (9, false), (10, false), (11, true)]) (.leaf [(9, false), (5, false), (6, true), (7, true), (8, true), (10, false), (11, true)])) (by kernel_rfl) (by kernel_rfl) (by as_aux_lemma => kernel_rfl) rfl (by as_aux_lemma => kernel_rfl) (by kernel_rfl) (hCq1i _ ⟨hM.sub (.cons_cons _ .slnil), hk0, trivial⟩) ?_
   refine sxalts ?_
   have hC := (hCq1i _ ⟨hM.sub (.cons_cons _ .slnil), hk0, trivial⟩)
   refine qd hf hC (fun w' h => (hCq1e w' h).1) [3, 0] [{}, {}, {}, { os := [.ex (.map (some cB))] }, { os := [.ld 0 0, .ld 0 1] }] (nw := [(12, .val (.agg #[iV hi, iV hg])), (11, .val (.map (some cB)))]) (ob := [(∀ w', Cq1 w' → w'.cell? ⟨T, 1, none⟩ = some (.map (some cB))), Ad B1 0, Ad B1 1]) (Ac (fun w' hc => by obtain ⟨hM, hk0, hO⟩ := hCq1e w' hc; exact (hk0.cell hT (fun h => h))) (Ac (ad _ _) (Ao (ad _ _)))) ?_
   clear hf; intro a hf
   refine sxboth ?_ ?_
   ·
    refine sxleaf ?_
    have hC := (hCq1i _ ⟨hM.sub (.cons_cons _ .slnil), hk0, trivial⟩)
    refine scstep rfl ?_
    refine sxlookup hf (hm.keep hk0 (fun h => h)) keyH rfl rfl rfl rfl rfl (⟨hi, hg⟩ : H2) rfl Tryd.underlying70 (⟨0, 0, 0⟩ : C3) (by kernel_rfl) (V := .tuple #[.agg #[iV (((getK Lc (⟨hi, hg⟩ : H2)).getD (⟨0, 0, 0⟩ : C3)).d), iV (((getK Lc (⟨hi, hg⟩ : H2)).getD (⟨0, 0, 0⟩ : C3)).x), iV (((getK Lc (⟨hi, hg⟩ : H2)).getD (⟨0, 0, 0⟩ : C3)).y)], bV (hasK Lc (⟨hi, hg⟩ : H2))]) rfl ?_; clear hf; intro a hf
    have hC := (hCq1i _ ⟨hM.sub (.cons_cons _ .slnil), hk0, trivial⟩)
    refine scdone hC ?_
    refine qd hf hC (fun w' h => (hCq1e w' h).1) [3, 0] [{}, {}, {}] (nw := [(15, eB (hasK Lc (⟨hi, hg⟩ : H2))), (14, .val (.agg #[iV (((getK Lc (⟨hi, hg⟩ : H2)).getD (⟨0, 0, 0⟩ : C3)).d), iV (((getK Lc (⟨hi, hg⟩ : H2)).getD (⟨0, 0, 0⟩ : C3)).x), iV (((getK Lc (⟨hi, hg⟩ : H2)).getD (⟨0, 0, 0⟩ : C3)).y)]))]) An ?_
    clear hf; intro a hf
    refine scstep rfl ?_
    refine q1 hf (MemOk.nil _) [15, 14, 3, 0] [{ os := [.nw] }] (nw := fun B2 => [(5, eP B2 0)]) (M' := fun B2 => [⟨B2, 29, [iV 0, iV 0, iV 0]⟩]) (ob := fun B2 => []) (fun B2 => An) ?_
    clear hf; intro a w2 B2 hf hMs hB hk; have hk : Keep Nn w1.drew w2 := hk.mono (by intro _ _ h; cases h)
    have hbB2 : w.heap.size ≤ B2 := by have := hk0.size; omega
    have hMo := hM; have hM : MemOk [⟨B1, 39, [iV hi, iV hg]⟩, ⟨B2, 29, [iV 0, iV 0, iV 0]⟩] w2 := MemOk.more hM hk (by omega) (hMs.at_ _ (List.Mem.head _))
    have hk0 := hk0.trans hk.nn
    clear hk hMs hMo hB
    have hC := (hCq1i _ ⟨hM.sub (.cons_cons _ (.cons _ .slnil)), hk0, trivial⟩)
    refine scdone hC ?_
    refine scstep rfl ?_
    have hMs : MemOk [⟨B2, 29, [iV 0, iV 0, iV 0]⟩] w2 := hM.sub (.cons _ (.cons_cons _ .slnil))
    refine q1 hf hMs [5, 15, 3, 0] [{ os := [.st 0 0, .st 0 1, .st 0 2] }] (nw := fun B3 => []) (M' := fun B3 => [⟨B2, 29, [iV (((getK Lc (⟨hi, hg⟩ : H2)).getD (⟨0, 0, 0⟩ : C3)).d), iV (((getK Lc (⟨hi, hg⟩ : H2)).getD (⟨0, 0, 0⟩ : C3)).x), iV (((getK Lc (⟨hi, hg⟩ : H2)).getD (⟨0, 0, 0⟩ : C3)).y)]⟩]) (ob := fun B3 => [Ad B2 0, Ad B2 1, Ad B2 2]) (fun B3 => (Ac (ad _ _) (Ac (ad _ _) (Ao (ad _ _))))) ?_
    clear hf hMs; intro a w3 B3 hf hMs hB hk; clear hB
    have hM : MemOk [⟨B1, 39, [iV hi, iV hg]⟩, ⟨B2, 29, [iV (((getK Lc (⟨hi, hg⟩ : H2)).getD (⟨0, 0, 0⟩ : C3)).d), iV (((getK Lc (⟨hi, hg⟩ : H2)).getD (⟨0, 0, 0⟩ : C3)).x), iV (((getK Lc (⟨hi, hg⟩ : H2)).getD (⟨0, 0, 0⟩ : C3)).y)]⟩] w3 := MemOk.upd (M1 := [⟨B1, 39, [iV hi, iV hg]⟩]) (M2 := []) hM hk hMs rfl
    have hk0 := hk0.thenNew hk (by simp [Mem.names] <;> omega)
    clear hk hMs
    have hC := (hCq1i _ ⟨hM.sub (.cons_cons _ (.cons _ .slnil)), hk0, trivial⟩)
    refine scdone hC ?_
    refine qd hf hC (fun w' h => (hCq1e w' h).1) [5, 3, 0] [{}] (nw := [(6, eB (hasK Lc (⟨hi, hg⟩ : H2)))]) An ?_
    clear hf; intro a hf
    clear hC
    show K2 _ _
    have hf := (hf.prune [0, 3, 5, 6]).to (env' := [(0, eP T 0), (3, eP B1 0), (5, eP B2 0), (6, eB (hasK Lc (⟨hi, hg⟩ : H2)))]) (by kernel_rfl)
    replace hM : MemOk [⟨B2, 29, [iV (((getK Lc (⟨hi, hg⟩ : H2)).getD (⟨0, 0, 0⟩ : C3)).d), iV (((getK Lc (⟨hi, hg⟩ : H2)).getD (⟨0, 0, 0⟩ : C3)).x), iV (((getK Lc (⟨hi, hg⟩ : H2)).getD (⟨0, 0, 0⟩ : C3)).y)]⟩, ⟨B1, 39, [iV hi, iV hg]⟩] w3 := MemOk.front (M1 := [⟨B1, 39, [iV hi, iV hg]⟩]) (M2 := []) hM
    replace hM : MemOk [⟨B1, 39, [iV hi, iV hg]⟩, ⟨B2, 29, [iV (((getK Lc (⟨hi, hg⟩ : H2)).getD (⟨0, 0, 0⟩ : C3)).d), iV (((getK Lc (⟨hi, hg⟩ : H2)).getD (⟨0, 0, 0⟩ : C3)).x), iV (((getK Lc (⟨hi, hg⟩ : H2)).getD (⟨0, 0, 0⟩ : C3)).y)]⟩] w3 := MemOk.front (M1 := [⟨B2, 29, [iV (((getK Lc (⟨hi, hg⟩ : H2)).getD (⟨0, 0, 0⟩ : C3)).d), iV (((getK Lc (⟨hi, hg⟩ : H2)).getD (⟨0, 0, 0⟩ : C3)).x), iV (((getK Lc (⟨hi, hg⟩ : H2)).getD (⟨0, 0, 0⟩ : C3)).y)]⟩]) (M2 := []) hM
    exact hK2 _ _ ⟨B2, hf.conv (Ac rfl (Ac rfl (Ac rfl (Ao rfl)))), hM, hk0, hbB2⟩
   ·
    refine sxleaf ?_
    have hC := (hCq1i _ ⟨hM.sub (.cons_cons _ .slnil), hk0, trivial⟩)
    refine scstep rfl ?_
    refine q1 hf (MemOk.nil _) [12, 11, 3, 0] [{ os := [.nw] }] (nw := fun B4 => [(5, eP B4 0)]) (M' := fun B4 => [⟨B4, 29, [iV 0, iV 0, iV 0]⟩]) (ob := fun B4 => []) (fun B4 => An) ?_
    clear hf; intro a w4 B4 hf hMs hB hk; have hk : Keep Nn w1.drew w4 := hk.mono (by intro _ _ h; cases h)
    have hbB4 : w.heap.size ≤ B4 := by have := hk0.size; omega
    have hMo := hM; have hM : MemOk [⟨B1, 39, [iV hi, iV hg]⟩, ⟨B4, 29, [iV 0, iV 0, iV 0]⟩] w4 := MemOk.more hM hk (by omega) (hMs.at_ _ (List.Mem.head _))
    have hk0 := hk0.trans hk.nn
    clear hk hMs hMo hB
    have hC := (hCq1i _ ⟨hM.sub (.cons_cons _ (.cons _ .slnil)), hk0, trivial⟩)
    refine scdone hC ?_
    refine scstep rfl ?_
    refine sxlookup hf (hm.keep hk0 (fun h => h)) keyH rfl rfl rfl rfl rfl (⟨hi, hg⟩ : H2) rfl Tryd.underlying70 (⟨0, 0, 0⟩ : C3) (by kernel_rfl) (V := .tuple #[.agg #[iV (((getK Lc (⟨hi, hg⟩ : H2)).getD (⟨0, 0, 0⟩ : C3)).d), iV (((getK Lc (⟨hi, hg⟩ : H2)).getD (⟨0, 0, 0⟩ : C3)).x), iV (((getK Lc (⟨hi, hg⟩ : H2)).getD (⟨0, 0, 0⟩ : C3)).y)], bV (hasK Lc (⟨hi, hg⟩ : H2))]) rfl ?_; clear hf; intro a hf
    have hC := (hCq1i _ ⟨hM.sub (.cons_cons _ (.cons _ .slnil)), hk0, trivial⟩)
    refine scdone hC ?_
    refine qd hf hC (fun w' h => (hCq1e w' h).1) [5, 3, 0] [{}, {}, {}] (nw := [(15, eB (hasK Lc (⟨hi, hg⟩ : H2))), (14, .val (.agg #[iV (((getK Lc (⟨hi, hg⟩ : H2)).getD (⟨0, 0, 0⟩ : C3)).d), iV (((getK Lc (⟨hi, hg⟩ : H2)).getD (⟨0, 0, 0⟩ : C3)).x), iV (((getK Lc (⟨hi, hg⟩ : H2)).getD (⟨0, 0, 0⟩ : C3)).y)]))]) An ?_
    clear hf; intro a hf
    refine scstep rfl ?_
    have hMs : MemOk [⟨B4, 29, [iV 0, iV 0, iV 0]⟩] w4 := hM.sub (.cons _ (.cons_cons _ .slnil))
    refine q1 hf hMs [15, 5, 3, 0] [{ os := [.st 0 0, .st 0 1, .st 0 2] }] (nw := fun B5 => []) (M' := fun B5 => [⟨B4, 29, [iV (((getK Lc (⟨hi, hg⟩ : H2)).getD (⟨0, 0, 0⟩ : C3)).d), iV (((getK Lc (⟨hi, hg⟩ : H2)).getD (⟨0, 0, 0⟩ : C3)).x), iV (((getK Lc (⟨hi, hg⟩ : H2)).getD (⟨0, 0, 0⟩ : C3)).y)]⟩]) (ob := fun B5 => [Ad B4 0, Ad B4 1, Ad B4 2]) (fun B5 => (Ac (ad _ _) (Ac (ad _ _) (Ao (ad _ _))))) ?_
    clear hf hMs; intro a w5 B5 hf hMs hB hk; clear hB
    have hM : MemOk [⟨B1, 39, [iV hi, iV hg]⟩, ⟨B4, 29, [iV (((getK Lc (⟨hi, hg⟩ : H2)).getD (⟨0, 0, 0⟩ : C3)).d), iV (((getK Lc (⟨hi, hg⟩ : H2)).getD (⟨0, 0, 0⟩ : C3)).x), iV (((getK Lc (⟨hi, hg⟩ : H2)).getD (⟨0, 0, 0⟩ : C3)).y)]⟩] w5 := MemOk.upd (M1 := [⟨B1, 39, [iV hi, iV hg]⟩]) (M2 := []) hM hk hMs rfl
    have hk0 := hk0.thenNew hk (by simp [Mem.names] <;> omega)
    clear hk hMs
    have hC := (hCq1i _ ⟨hM.sub (.cons_cons _ (.cons _ .slnil)), hk0, trivial⟩)
    refine scdone hC ?_
    refine qd hf hC (fun w' h => (hCq1e w' h).1) [5, 3, 0] [{}] (nw := [(6, eB (hasK Lc (⟨hi, hg⟩ : H2)))]) An ?_
    clear hf; intro a hf
    clear hC
    show K2 _ _
    have hf := (hf.prune [0, 3, 5, 6]).to (env' := [(0, eP T 0), (3, eP B1 0), (5, eP B4 0), (6, eB (hasK Lc (⟨hi, hg⟩ : H2)))]) (by kernel_rfl)
    replace hM : MemOk [⟨B4, 29, [iV (((getK Lc (⟨hi, hg⟩ : H2)).getD (⟨0, 0, 0⟩ : C3)).d), iV (((getK Lc (⟨hi, hg⟩ : H2)).getD (⟨0, 0, 0⟩ : C3)).x), iV (((getK Lc (⟨hi, hg⟩ : H2)).getD (⟨0, 0, 0⟩ : C3)).y)]⟩, ⟨B1, 39, [iV hi, iV hg]⟩] w5 := MemOk.front (M1 := [⟨B1, 39, [iV hi, iV hg]⟩]) (M2 := []) hM
    replace hM : MemOk [⟨B1, 39, [iV hi, iV hg]⟩, ⟨B4, 29, [iV (((getK Lc (⟨hi, hg⟩ : H2)).getD (⟨0, 0, 0⟩ : C3)).d), iV (((getK Lc (⟨hi, hg⟩ : H2)).getD (⟨0, 0, 0⟩ : C3)).x), iV (((getK Lc (⟨hi, hg⟩ : H2)).getD (⟨0, 0, 0⟩ : C3)).y)]⟩] w5 := MemOk.front (M1 := [⟨B4, 29, [iV (((getK Lc (⟨hi, hg⟩ : H2)).getD (⟨0, 0, 0⟩ : C3)).d), iV (((getK Lc (⟨hi, hg⟩ : H2)).getD (⟨0, 0, 0⟩ : C3)).x), iV (((getK Lc (⟨hi, hg⟩ : H2)).getD (⟨0, 0, 0⟩ : C3)).y)]⟩]) (M2 := []) hM
    exact hK2 _ _ ⟨B4, hf.conv (Ac rfl (Ac rfl (Ac rfl (Ao rfl)))), hM, hk0, hbB4⟩
 clear hf hM hk0
 intro a w6 hK2j; obtain ⟨q5_1, hf, hM, hk0, hbq5_1⟩ := oK2 _ _ hK2j; clear hK2j oK2
 refine wp_seq_k (fun K3 hK3 => ?_)
 refine wp_seq_k (fun K4 hK4 => ?_)
 refine wp_region_lit ?_
 refine q0 hf hM [0, 3, 5] [{}, {}] (nw := [(17, eB (!(hasK Lc (⟨hi, hg⟩ : H2))))]) An ?_
 clear hf; intro a hf
 refine wpList_nil ?_
 refine hK4 _ _ ?_
 refine sxcond hf (b := !(hasK Lc (⟨hi, hg⟩ : H2))) (by kernel_rfl) (fun _ => ?_) (fun h => absurd (h.symm.trans ((congrArg Bool.not hno).trans rfl : (!(hasK Lc (⟨hi, hg⟩ : H2)) : Bool) = true)) (by simp))
 refine wp_seq_k (fun K5 hK5 => ?_)
 refine wp_region_lit ?_
 refine q0 hf hM [] [{ os := [.ex (.iface 161 (.pointer (some (E 3))))] }, {}] (nw := [(4, .val (.iface 161 (.pointer (some (E 3)))))]) (ob := [w6.cell? ⟨3, 0, none⟩ = some (.iface 161 (.pointer (some (E 3))))]) (Ao (hk0.cell (hG.cell 3 (by decide)) (fun h => h))) ?_
 clear hf; intro a hf
 refine wpList_nil ?_
 refine hK5 _ _ ?_
 refine wp_ret ?_
 refine qr (fn := Tryd.f34) hf hM [] (l := [.iface 161 (.pointer (some (E 3)))]) (ob := []) An ?_
 show (.iface 161 (.pointer (some (E 3))) : Value) = .iface 161 (.pointer (some (E 3))) ∧ Keep Nn w w6
 exact ⟨rfl, hk0⟩

set_option maxRecDepth 10000 in
set_option maxHeartbeats 1600000 in
theorem tput_form (E : Nat → Addr) (T : Nat) (hi hg : Int) (x0 y0 x1 y1 : Int) (w : World) (hn0 : (boxRight x0 y0 x1 y1) = false) (hG : Errs [1, 3, 0] w 161 E) :
    Calls Tryd.prog 14 #[pV T 0, .agg #[iV hi, iV hg], .agg #[iV x0, iV y0, iV x1, iV y1]] w (Ret fun v w' => v = .iface 161 (.pointer (some (E 0))) ∧ Keep Nn w w') := by
 refine sxenter (n := 58) (args := [pV T 0, .agg #[iV hi, iV hg], .agg #[iV x0, iV y0, iV x1, iV y1]]) Tryd.func14 rfl rfl rfl fun a hf => ?_
 replace hf : Fr 58 [(0, eP T 0), (1, .val (.agg #[iV hi, iV hg])), (2, .val (.agg #[iV x0, iV y0, iV x1, iV y1]))] a := hf
 have hM : MemOk [] w := MemOk.nil w
 have hk0 : Keep Nn w w := Keep.refl _ _
 refine wp_seq_k (fun K1 hK1 => ?_)
 refine wp_region_lit ?_
 refine q1 hf hM [0] [{ os := [.nw] }, { os := [.nw] }, {}] (nw := fun B1 => [(5, eP (B1 + 1) 0), (4, eP B1 0)]) (M' := fun B1 => [⟨B1, 39, [iV hi, iV hg]⟩, ⟨B1 + 1, 32, [iV x0, iV y0, iV x1, iV y1]⟩]) (ob := fun B1 => []) (fun B1 => An) ?_
 clear hf hM; intro a w1 B1 hf hM hB hk
 have hbB1 : w.heap.size ≤ B1 := by have := hk0.size; omega
 have hk0 := hk0.then hk (by intro i _ h; cases h)
 clear hk hB
 refine wpList_nil ?_
 refine hK1 _ _ ?_
 refine wp_seq_k (fun K2 hK2 => ?_)
 refine wp_region_lit ?_
 refine q0 hf hM [5, 4, 0] [{ os := [.ld 1 0, .ld 1 1, .ld 1 2, .ld 1 3] }] (nw := [(12, .val (.agg #[iV x0, iV y0, iV x1, iV y1]))]) (ob := [Ad (B1 + 1) 0, Ad (B1 + 1) 1, Ad (B1 + 1) 2, Ad (B1 + 1) 3]) (Ac (ad _ _) (Ac (ad _ _) (Ac (ad _ _) (Ao (ad _ _))))) ?_
 clear hf; intro a hf
 refine sxcall hf rfl rfl rfl rfl (g := 13) (vs := [.agg #[iV x0, iV y0, iV x1, iV y1]]) (ob := []) (by as_aux_lemma => kernel_rfl) An enters13 (of_form E x0 y0 x1 y1 w1 hn0 (hG.keep hk0 (fun _ h => h))) ?_
 clear hf; rintro _ w2 a ⟨rfl, hk⟩ hf
 have hM := hM.keepNn hk
 have hk0 := hk0.trans hk.nn
 clear hk
 refine q1 hf hM [5, 4, 0] [{}, {}, {}, { os := [.nw] }, { os := [.st 2 0, .st 2 1, .st 2 2] }, {}] (nw := fun B3 => [(8, .val (.iface 161 (.pointer (some (E 0))))), (7, eP B3 0)]) (M' := fun B3 => [⟨B1, 39, [iV hi, iV hg]⟩, ⟨B1 + 1, 32, [iV x0, iV y0, iV x1, iV y1]⟩, ⟨B3, 29, [iV 0, iV 0, iV 0]⟩]) (ob := fun B3 => [Ad B3 0, Ad B3 1, Ad B3 2]) (fun B3 => (Ac (ad _ _) (Ac (ad _ _) (Ao (ad _ _))))) ?_
 clear hf hM; intro a w3 B3 hf hM hB hk
 have hbB3 : w.heap.size ≤ B3 := by have := hk0.size; omega
 have hk0 := hk0.thenNew hk (by simp [Mem.names] <;> omega)
 clear hk hB
 refine wpList_nil ?_
 refine hK2 _ _ ?_
 refine wp_seq_k (fun K3 hK3 => ?_)
 refine wp_seq_k (fun K4 hK4 => ?_)
 refine wp_region_lit ?_
 refine q0 hf hM [8, 7, 5, 4, 0] [{}, {}] (nw := [(17, eB true)]) An ?_
 clear hf; intro a hf
 refine wpList_nil ?_
 refine hK4 _ _ ?_
 refine sxcond hf (b := true) (by kernel_rfl) (fun _ => ?_) (fun h => by cases h)
 refine wp_seq_k (fun K5 hK5 => ?_)
 refine wp_region_lit ?_
 refine q0 hf hM [] [{}, {}] (nw := [(6, .val (.iface 161 (.pointer (some (E 0)))))]) An ?_
 clear hf; intro a hf
 refine wpList_nil ?_
 refine hK5 _ _ ?_
 refine wp_ret ?_
 refine qr (fn := Tryd.f14) hf hM [] (l := [.iface 161 (.pointer (some (E 0)))]) (ob := []) An ?_
 show (.iface 161 (.pointer (some (E 0))) : Value) = .iface 161 (.pointer (some (E 0))) ∧ Keep Nn w w3
 exact ⟨rfl, hk0⟩

set_option maxRecDepth 10000 in
set_option maxHeartbeats 1600000 in
theorem tput_range (E : Nat → Addr) (T : Nat) (hi hg : Int) (x0 y0 x1 y1 : Int) (w : World) (hn0 : (boxRight x0 y0 x1 y1) = true) (hn1 : (inWorld x0 y0 x1 y1) = false) (hG : Errs [1, 3, 0] w 161 E) :
    Calls Tryd.prog 14 #[pV T 0, .agg #[iV hi, iV hg], .agg #[iV x0, iV y0, iV x1, iV y1]] w (Ret fun v w' => v = .iface 161 (.pointer (some (E 1))) ∧ Keep Nn w w') := by
 refine sxenter (n := 58) (args := [pV T 0, .agg #[iV hi, iV hg], .agg #[iV x0, iV y0, iV x1, iV y1]]) Tryd.func14 rfl rfl rfl fun a hf => ?_
 replace hf : Fr 58 [(0, eP T 0), (1, .val (.agg #[iV hi, iV hg])), (2, .val (.agg #[iV x0, iV y0, iV x1, iV y1]))] a := hf
 have hM : MemOk [] w := MemOk.nil w
 have hk0 : Keep Nn w w := Keep.refl _ _
 refine wp_seq_k (fun K1 hK1 => ?_)
 refine wp_region_lit ?_
 refine q1 hf hM [0] [{ os := [.nw] }, { os := [.nw] }, {}] (nw := fun B1 => [(5, eP (B1 + 1) 0), (4, eP B1 0)]) (M' := fun B1 => [⟨B1, 39, [iV hi, iV hg]⟩, ⟨B1 + 1, 32, [iV x0, iV y0, iV x1, iV y1]⟩]) (ob := fun B1 => []) (fun B1 => An) ?_
 clear hf hM; intro a w1 B1 hf hM hB hk
 have hbB1 : w.heap.size ≤ B1 := by have := hk0.size; omega
 have hk0 := hk0.then hk (by intro i _ h; cases h)
 clear hk hB
 refine wpList_nil ?_
 refine hK1 _ _ ?_
 refine wp_seq_k (fun K2 hK2 => ?_)
 refine wp_region_lit ?_
 refine q0 hf hM [5, 4, 0] [{ os := [.ld 1 0, .ld 1 1, .ld 1 2, .ld 1 3] }] (nw := [(12, .val (.agg #[iV x0, iV y0, iV x1, iV y1]))]) (ob := [Ad (B1 + 1) 0, Ad (B1 + 1) 1, Ad (B1 + 1) 2, Ad (B1 + 1) 3]) (Ac (ad _ _) (Ac (ad _ _) (Ac (ad _ _) (Ao (ad _ _))))) ?_
 clear hf; intro a hf
 refine sxcall hf rfl rfl rfl rfl (g := 13) (vs := [.agg #[iV x0, iV y0, iV x1, iV y1]]) (ob := []) (by as_aux_lemma => kernel_rfl) An enters13 (of_range E x0 y0 x1 y1 w1 hn0 hn1 (hG.keep hk0 (fun _ h => h))) ?_
 clear hf; rintro _ w2 a ⟨rfl, hk⟩ hf
 have hM := hM.keepNn hk
 have hk0 := hk0.trans hk.nn
 clear hk
 refine q1 hf hM [5, 4, 0] [{}, {}, {}, { os := [.nw] }, { os := [.st 2 0, .st 2 1, .st 2 2] }, {}] (nw := fun B3 => [(8, .val (.iface 161 (.pointer (some (E 1))))), (7, eP B3 0)]) (M' := fun B3 => [⟨B1, 39, [iV hi, iV hg]⟩, ⟨B1 + 1, 32, [iV x0, iV y0, iV x1, iV y1]⟩, ⟨B3, 29, [iV 0, iV 0, iV 0]⟩]) (ob := fun B3 => [Ad B3 0, Ad B3 1, Ad B3 2]) (fun B3 => (Ac (ad _ _) (Ac (ad _ _) (Ao (ad _ _))))) ?_
 clear hf hM; intro a w3 B3 hf hM hB hk
 have hbB3 : w.heap.size ≤ B3 := by have := hk0.size; omega
 have hk0 := hk0.thenNew hk (by simp [Mem.names] <;> omega)
 clear hk hB
 refine wpList_nil ?_
 refine hK2 _ _ ?_
 refine wp_seq_k (fun K3 hK3 => ?_)
 refine wp_seq_k (fun K4 hK4 => ?_)
 refine wp_region_lit ?_
 refine q0 hf hM [8, 7, 5, 4, 0] [{}, {}] (nw := [(17, eB true)]) An ?_
 clear hf; intro a hf
 refine wpList_nil ?_
 refine hK4 _ _ ?_
 refine sxcond hf (b := true) (by kernel_rfl) (fun _ => ?_) (fun h => by cases h)
 refine wp_seq_k (fun K5 hK5 => ?_)
 refine wp_region_lit ?_
 refine q0 hf hM [] [{}, {}] (nw := [(6, .val (.iface 161 (.pointer (some (E 1)))))]) An ?_
 clear hf; intro a hf
 refine wpList_nil ?_
 refine hK5 _ _ ?_
 refine wp_ret ?_
 refine qr (fn := Tryd.f14) hf hM [] (l := [.iface 161 (.pointer (some (E 1)))]) (ob := []) An ?_
 show (.iface 161 (.pointer (some (E 1))) : Value) = .iface 161 (.pointer (some (E 1))) ∧ Keep Nn w w3
 exact ⟨rfl, hk0⟩

set_option maxRecDepth 10000 in
set_option maxHeartbeats 1600000 in
theorem tput_ok (E : Nat → Addr) (base T : Nat) (Bl : List Nat) (bs : List (H2 × B4)) (hi hg : Int) (x0 y0 x1 y1 : Int) (w : World) (hn0 : (boxRight x0 y0 x1 y1) = true) (hn1 : (inWorld x0 y0 x1 y1) = true) (hown : (oTree 72 68 T Bl bs).φ base w) (hdist : Bl.Nodup) (hbw : base ≤ w.heap.size) (hfr : ¬ (⟨hi, hg⟩ : H2) ∈ bs.map (·.1)) (hbn : bs.length ≤ 1000) (hGF : ∀ W, Keep (fun i => i ∈ Bl) w W → Errs [1, 3, 0] W 161 E) :
    Calls Tryd.prog 14 #[pV T 0, .agg #[iV hi, iV hg], .agg #[iV x0, iV y0, iV x1, iV y1]] w (Ret fun v w' => ∃ Bl', v = .nilIface ∧ (oTree 72 68 T Bl' (bs ++ [((⟨hi, hg⟩ : H2), (⟨x0, y0, x1, y1⟩ : B4))])).φ base w' ∧ (∀ i ∈ Bl', i ∈ Bl ∨ w.heap.size ≤ i) ∧ Bl'.Nodup ∧ Keep (fun i => i ∈ Bl) w w') := by
 refine sxenter (n := 58) (args := [pV T 0, .agg #[iV hi, iV hg], .agg #[iV x0, iV y0, iV x1, iV y1]]) Tryd.func14 rfl rfl rfl fun a hf => ?_
 replace hf : Fr 58 [(0, eP T 0), (1, .val (.agg #[iV hi, iV hg])), (2, .val (.agg #[iV x0, iV y0, iV x1, iV y1]))] a := hf
 have hM : MemOk [] w := MemOk.nil w
 have hk0 : Keep (fun i => i ∈ Bl) w w := Keep.refl _ _
 have hO : OwnOk base [] [oTree 72 68 T Bl bs] w := OwnOk.oneB hown hdist
 obtain ⟨nB, cB, N, Lc, hBl, hti, hbT, hM, hO⟩ := hO.openT hM
 replace hM : MemOk [⟨T, 72, [.map (some nB), .map (some cB)]⟩] w := hM
 replace hO : OwnOk base [⟨T, 72, [.map (some nB), .map (some cB)]⟩] [oNM 68 nB N, oM cB vH vC Lc] w := hO
 have hno := hti.fresh hfr
 have hob : okB (⟨x0, y0, x1, y1⟩ : B4) = true := by unfold okB; rw [hn0, hn1]; rfl
 have hoc := okC_cell hob
 have hTB : T ∈ Bl := by rw [hBl]; exact List.mem_cons_self ..
 have hcB : cB ∈ Bl := by rw [hBl]; simp
 refine wp_seq_k (fun K1 hK1 => ?_)
 refine wp_region_lit ?_
 refine q1 hf hM [0] [{ os := [.nw] }, { os := [.nw] }, {}] (nw := fun B1 => [(5, eP (B1 + 1) 0), (4, eP B1 0)]) (M' := fun B1 => [⟨T, 72, [.map (some nB), .map (some cB)]⟩, ⟨B1, 39, [iV hi, iV hg]⟩, ⟨B1 + 1, 32, [iV x0, iV y0, iV x1, iV y1]⟩]) (ob := fun B1 => []) (fun B1 => An) ?_
 clear hf hM; intro a w1 B1 hf hM hB hk
 have hbB1 : w.heap.size ≤ B1 := by have := hk0.size; omega
 have hk0 := hk0.then hk (by intro i hi h; simp only [Is, Mem.names, List.map_cons, List.map_nil, List.mem_cons, List.not_mem_nil, or_false] at h; (first | omega | (subst h; first | exact hTB | exact (hpF.imp (fun h => by rw [hBl]; rcases List.mem_cons.1 h with h | h <;> simp [h]) id).resolve_right (by omega)) | (rcases h with h | h <;> (first | omega | (subst h; first | exact hTB | exact (hpF.imp (fun h => by rw [hBl]; rcases List.mem_cons.1 h with h | h <;> simp [h]) id).resolve_right (by omega)) | (rcases h with h | h <;> (first | omega | (subst h; first | exact hTB | exact (hpF.imp (fun h => by rw [hBl]; rcases List.mem_cons.1 h with h | h <;> simp [h]) id).resolve_right (by omega)) | (rcases h with h | h <;> (first | omega | (subst h; first | exact hTB | exact (hpF.imp (fun h => by rw [hBl]; rcases List.mem_cons.1 h with h | h <;> simp [h]) id).resolve_right (by omega)) | (rcases h with h | h <;> (first | omega | (subst h; first | exact hTB | exact (hpF.imp (fun h => by rw [hBl]; rcases List.mem_cons.1 h with h | h <;> simp [h]) id).resolve_right (by omega)) | (rcases h with h | h <;> (first | omega | (subst h; first | exact hTB | exact (hpF.imp (fun h => by rw [hBl]; rcases List.mem_cons.1 h with h | h <;> simp [h]) id).resolve_right (by omega)) | (rcases h with h | h <;> (omega))))))))))))))
 have hO := hO.step hM hk (by intro i h; simp only [Mem.names, List.map_cons, List.map_nil, List.mem_cons, List.not_mem_nil, or_false, List.map_append, List.cons_append, List.nil_append] at h ⊢; omega)
 clear hk hB
 refine wpList_nil ?_
 refine hK1 _ _ ?_
 refine wp_seq_k (fun K2 hK2 => ?_)
 refine wp_region_lit ?_
 refine q0 hf hM [5, 4, 0] [{ os := [.ld 2 0, .ld 2 1, .ld 2 2, .ld 2 3] }] (nw := [(12, .val (.agg #[iV x0, iV y0, iV x1, iV y1]))]) (ob := [Ad (B1 + 1) 0, Ad (B1 + 1) 1, Ad (B1 + 1) 2, Ad (B1 + 1) 3]) (Ac (ad _ _) (Ac (ad _ _) (Ac (ad _ _) (Ao (ad _ _))))) ?_
 clear hf; intro a hf
 refine sxcall hf rfl rfl rfl rfl (g := 13) (vs := [.agg #[iV x0, iV y0, iV x1, iV y1]]) (ob := []) (by as_aux_lemma => kernel_rfl) An enters13 (of_ok E x0 y0 x1 y1 w1 hn0 hn1 (hGF _ hk0)) ?_
 clear hf; rintro _ w2 a ⟨rfl, hk⟩ hf
 have hO := hO.keepNn hk
 have hM := hM.keepNn hk
 have hk0 := hk0.trans hk.nn
 clear hk
 refine q1 hf hM [5, 4, 0] [{}, {}, {}, { os := [.nw] }, { os := [.st 3 0, .st 3 1, .st 3 2] }, {}] (nw := fun B3 => [(8, .val (.nilIface)), (7, eP B3 0)]) (M' := fun B3 => [⟨T, 72, [.map (some nB), .map (some cB)]⟩, ⟨B1, 39, [iV hi, iV hg]⟩, ⟨B1 + 1, 32, [iV x0, iV y0, iV x1, iV y1]⟩, ⟨B3, 29, [iV (depthOf (bsize x0 y0 x1 y1)), iV (colOf ((x0 + x1) / 2) (depthOf (bsize x0 y0 x1 y1))), iV (colOf ((y0 + y1) / 2) (depthOf (bsize x0 y0 x1 y1)))]⟩]) (ob := fun B3 => [Ad B3 0, Ad B3 1, Ad B3 2]) (fun B3 => (Ac (ad _ _) (Ac (ad _ _) (Ao (ad _ _))))) ?_
 clear hf hM; intro a w3 B3 hf hM hB hk
 have hbB3 : w.heap.size ≤ B3 := by have := hk0.size; omega
 have hk0 := hk0.then hk (by intro i hi h; simp only [Is, Mem.names, List.map_cons, List.map_nil, List.mem_cons, List.not_mem_nil, or_false] at h; (first | omega | (subst h; first | exact hTB | exact (hpF.imp (fun h => by rw [hBl]; rcases List.mem_cons.1 h with h | h <;> simp [h]) id).resolve_right (by omega)) | (rcases h with h | h <;> (first | omega | (subst h; first | exact hTB | exact (hpF.imp (fun h => by rw [hBl]; rcases List.mem_cons.1 h with h | h <;> simp [h]) id).resolve_right (by omega)) | (rcases h with h | h <;> (first | omega | (subst h; first | exact hTB | exact (hpF.imp (fun h => by rw [hBl]; rcases List.mem_cons.1 h with h | h <;> simp [h]) id).resolve_right (by omega)) | (rcases h with h | h <;> (first | omega | (subst h; first | exact hTB | exact (hpF.imp (fun h => by rw [hBl]; rcases List.mem_cons.1 h with h | h <;> simp [h]) id).resolve_right (by omega)) | (rcases h with h | h <;> (first | omega | (subst h; first | exact hTB | exact (hpF.imp (fun h => by rw [hBl]; rcases List.mem_cons.1 h with h | h <;> simp [h]) id).resolve_right (by omega)) | (rcases h with h | h <;> (first | omega | (subst h; first | exact hTB | exact (hpF.imp (fun h => by rw [hBl]; rcases List.mem_cons.1 h with h | h <;> simp [h]) id).resolve_right (by omega)) | (rcases h with h | h <;> (omega))))))))))))))
 have hO := hO.step hM hk (by intro i h; simp only [Mem.names, List.map_cons, List.map_nil, List.mem_cons, List.not_mem_nil, or_false, List.map_append, List.cons_append, List.nil_append] at h ⊢; omega)
 clear hk hB
 refine wpList_nil ?_
 refine hK2 _ _ ?_
 refine wp_seq_k (fun K3 hK3 => ?_)
 refine wp_seq_k (fun K4 hK4 => ?_)
 refine wp_region_lit ?_
 refine q0 hf hM [8, 7, 5, 4, 0] [{}, {}] (nw := [(17, eB false)]) An ?_
 clear hf; intro a hf
 refine wpList_nil ?_
 refine hK4 _ _ ?_
 refine sxcond hf (b := false) (by kernel_rfl) (fun h => by cases h) (fun _ => ?_)
 refine wp_skip ?_
 refine hK3 _ _ ?_
 refine wp_seq_k (fun K5 hK5 => ?_)
 obtain ⟨K6, hK6, oK6⟩ := kcls (fun a w1 => ∃ (q9 : Nat), Fr 58 [(0, eP T 0), (4, eP B1 0), (5, eP (B1 + 1) 0), (7, eP B3 0), (9, eP q9 0), (10, eB (hasK Lc (⟨hi, hg⟩ : H2)))] a ∧ MemOk [⟨T, 72, [.map (some nB), .map (some cB)]⟩, ⟨B1, 39, [iV hi, iV hg]⟩, ⟨B1 + 1, 32, [iV x0, iV y0, iV x1, iV y1]⟩, ⟨B3, 29, [iV (depthOf (bsize x0 y0 x1 y1)), iV (colOf ((x0 + x1) / 2) (depthOf (bsize x0 y0 x1 y1))), iV (colOf ((y0 + y1) / 2) (depthOf (bsize x0 y0 x1 y1)))]⟩, ⟨q9, 29, [iV (((getK Lc (⟨hi, hg⟩ : H2)).getD (⟨0, 0, 0⟩ : C3)).d), iV (((getK Lc (⟨hi, hg⟩ : H2)).getD (⟨0, 0, 0⟩ : C3)).x), iV (((getK Lc (⟨hi, hg⟩ : H2)).getD (⟨0, 0, 0⟩ : C3)).y)]⟩] w1 ∧ Keep (fun i => i ∈ Bl) w w1 ∧ OwnOk base [⟨T, 72, [.map (some nB), .map (some cB)]⟩, ⟨B1, 39, [iV hi, iV hg]⟩, ⟨B1 + 1, 32, [iV x0, iV y0, iV x1, iV y1]⟩, ⟨B3, 29, [iV (depthOf (bsize x0 y0 x1 y1)), iV (colOf ((x0 + x1) / 2) (depthOf (bsize x0 y0 x1 y1))), iV (colOf ((y0 + y1) / 2) (depthOf (bsize x0 y0 x1 y1)))]⟩, ⟨q9, 29, [iV (((getK Lc (⟨hi, hg⟩ : H2)).getD (⟨0, 0, 0⟩ : C3)).d), iV (((getK Lc (⟨hi, hg⟩ : H2)).getD (⟨0, 0, 0⟩ : C3)).x), iV (((getK Lc (⟨hi, hg⟩ : H2)).getD (⟨0, 0, 0⟩ : C3)).y)]⟩] [oM cB vH vC Lc, oNM 68 nB N] w1 ∧ w.heap.size ≤ q9)
 refine sxjoin K6 ?_ ?_
 ·
   replace hM := hM.drew; replace hk0 := hk0.drew; replace hO := hO.drew
   obtain ⟨Cq1, hCq1i, hCq1e⟩ := qcls fun w' => MemOk [⟨T, 72, [.map (some nB), .map (some cB)]⟩, ⟨B1, 39, [iV hi, iV hg]⟩, ⟨B1 + 1, 32, [iV x0, iV y0, iV x1, iV y1]⟩, ⟨B3, 29, [iV (depthOf (bsize x0 y0 x1 y1)), iV (colOf ((x0 + x1) / 2) (depthOf (bsize x0 y0 x1 y1))), iV (colOf ((y0 + y1) / 2) (depthOf (bsize x0 y0 x1 y1)))]⟩] w' ∧ Keep (fun i => i ∈ Bl) w w' ∧ OwnOk base [⟨T, 72, [.map (some nB), .map (some cB)]⟩, ⟨B1, 39, [iV hi, iV hg]⟩, ⟨B1 + 1, 32, [iV x0, iV y0, iV x1, iV y1]⟩, ⟨B3, 29, [iV (depthOf (bsize x0 y0 x1 y1)), iV (colOf ((x0 + x1) / 2) (depthOf (bsize x0 y0 x1 y1))), iV (colOf ((y0 + y1) / 2) (depthOf (bsize x0 y0 x1 y1)))]⟩] [oNM 68 nB N, oM cB vH vC Lc] w'
   refine sxdraw (C := Cq1) (.alt [(0, true), (1, true), (2, true), (3, true), (4, true)] (.leaf [(5, false), (6, true), (7, true), (8, true), (9, false), (10, false), (11, true)]) (.leaf [(9, false), (5, false), (6, true), (7, true), (8, true), (10, false), (11, true)])) (by kernel_rfl) (by kernel_rfl) (by as_aux_lemma => kernel_rfl) rfl (by as_aux_lemma => kernel_rfl) (by kernel_rfl) (hCq1i _ ⟨hM.sub (.cons_cons _ (.cons_cons _ (.cons_cons _ (.cons_cons _ .slnil)))), hk0, hO.sub (.cons_cons _ (.cons_cons _ (.cons_cons _ (.cons_cons _ .slnil)))) (.cons_cons _ (.cons_cons _ .slnil))⟩) ?_
   refine sxalts ?_
   have hC := (hCq1i _ ⟨hM.sub (.cons_cons _ (.cons_cons _ (.cons_cons _ (.cons_cons _ .slnil)))), hk0, hO.sub (.cons_cons _ (.cons_cons _ (.cons_cons _ (.cons_cons _ .slnil)))) (.cons_cons _ (.cons_cons _ .slnil))⟩)
   refine qd hf hC (fun w' h => (hCq1e w' h).1) [7, 5, 4, 0] [{}, {}, {}, { os := [.ld 0 1] }, { os := [.ld 1 0, .ld 1 1] }] (nw := [(24, .val (.agg #[iV hi, iV hg])), (23, .val (.map (some cB)))]) (ob := [Ad T 1, Ad B1 0, Ad B1 1]) (Ac (ad _ _) (Ac (ad _ _) (Ao (ad _ _)))) ?_
   clear hf; intro a hf
   refine sxboth ?_ ?_
   ·
    refine sxleaf ?_
    have hC := (hCq1i _ ⟨hM.sub (.cons_cons _ (.cons_cons _ (.cons_cons _ (.cons_cons _ .slnil)))), hk0, hO.sub (.cons_cons _ (.cons_cons _ (.cons_cons _ (.cons_cons _ .slnil)))) (.cons_cons _ (.cons_cons _ .slnil))⟩)
    refine scstep rfl ?_
    refine sxlookup hf (hO.own _ (List.Mem.tail _ (List.Mem.head _))).2 keyH rfl rfl rfl rfl rfl (⟨hi, hg⟩ : H2) rfl Tryd.underlying70 (⟨0, 0, 0⟩ : C3) (by kernel_rfl) (V := .tuple #[.agg #[iV (((getK Lc (⟨hi, hg⟩ : H2)).getD (⟨0, 0, 0⟩ : C3)).d), iV (((getK Lc (⟨hi, hg⟩ : H2)).getD (⟨0, 0, 0⟩ : C3)).x), iV (((getK Lc (⟨hi, hg⟩ : H2)).getD (⟨0, 0, 0⟩ : C3)).y)], bV (hasK Lc (⟨hi, hg⟩ : H2))]) rfl ?_; clear hf; intro a hf
    have hC := (hCq1i _ ⟨hM.sub (.cons_cons _ (.cons_cons _ (.cons_cons _ (.cons_cons _ .slnil)))), hk0, hO.sub (.cons_cons _ (.cons_cons _ (.cons_cons _ (.cons_cons _ .slnil)))) (.cons_cons _ (.cons_cons _ .slnil))⟩)
    refine scdone hC ?_
    refine qd hf hC (fun w' h => (hCq1e w' h).1) [7, 5, 4, 0] [{}, {}, {}] (nw := [(27, eB (hasK Lc (⟨hi, hg⟩ : H2))), (26, .val (.agg #[iV (((getK Lc (⟨hi, hg⟩ : H2)).getD (⟨0, 0, 0⟩ : C3)).d), iV (((getK Lc (⟨hi, hg⟩ : H2)).getD (⟨0, 0, 0⟩ : C3)).x), iV (((getK Lc (⟨hi, hg⟩ : H2)).getD (⟨0, 0, 0⟩ : C3)).y)]))]) An ?_
    clear hf; intro a hf
    refine scstep rfl ?_
    refine q1 hf (MemOk.nil _) [27, 26, 7, 5, 4, 0] [{ os := [.nw] }] (nw := fun B5 => [(9, eP B5 0)]) (M' := fun B5 => [⟨B5, 29, [iV 0, iV 0, iV 0]⟩]) (ob := fun B5 => []) (fun B5 => An) ?_
    clear hf; intro a w4 B5 hf hMs hB hk; have hk : Keep Nn w3.drew w4 := hk.mono (by intro _ _ h; cases h)
    have hbB5 : w.heap.size ≤ B5 := by have := hk0.size; omega
    have hMo := hM; have hM : MemOk [⟨T, 72, [.map (some nB), .map (some cB)]⟩, ⟨B1, 39, [iV hi, iV hg]⟩, ⟨B1 + 1, 32, [iV x0, iV y0, iV x1, iV y1]⟩, ⟨B3, 29, [iV (depthOf (bsize x0 y0 x1 y1)), iV (colOf ((x0 + x1) / 2) (depthOf (bsize x0 y0 x1 y1))), iV (colOf ((y0 + y1) / 2) (depthOf (bsize x0 y0 x1 y1)))]⟩, ⟨B5, 29, [iV 0, iV 0, iV 0]⟩] w4 := MemOk.more hM hk (by omega) (hMs.at_ _ (List.Mem.head _))
    have hO := hO.step hM hk.nn (by intro i h; simp only [Mem.names, List.map_cons, List.map_nil, List.mem_cons, List.not_mem_nil, or_false, List.map_append, List.cons_append, List.nil_append] at h ⊢; omega)
    have hk0 := hk0.trans hk.nn
    clear hk hMs hMo hB
    have hC := (hCq1i _ ⟨hM.sub (.cons_cons _ (.cons_cons _ (.cons_cons _ (.cons_cons _ (.cons _ .slnil))))), hk0, hO.sub (.cons_cons _ (.cons_cons _ (.cons_cons _ (.cons_cons _ (.cons _ .slnil))))) (.cons_cons _ (.cons_cons _ .slnil))⟩)
    refine scdone hC ?_
    refine scstep rfl ?_
    have hMs : MemOk [⟨B5, 29, [iV 0, iV 0, iV 0]⟩] w4 := hM.sub (.cons _ (.cons _ (.cons _ (.cons _ (.cons_cons _ .slnil)))))
    refine q1 hf hMs [9, 27, 7, 5, 4, 0] [{ os := [.st 0 0, .st 0 1, .st 0 2] }] (nw := fun B6 => []) (M' := fun B6 => [⟨B5, 29, [iV (((getK Lc (⟨hi, hg⟩ : H2)).getD (⟨0, 0, 0⟩ : C3)).d), iV (((getK Lc (⟨hi, hg⟩ : H2)).getD (⟨0, 0, 0⟩ : C3)).x), iV (((getK Lc (⟨hi, hg⟩ : H2)).getD (⟨0, 0, 0⟩ : C3)).y)]⟩]) (ob := fun B6 => [Ad B5 0, Ad B5 1, Ad B5 2]) (fun B6 => (Ac (ad _ _) (Ac (ad _ _) (Ao (ad _ _))))) ?_
    clear hf hMs; intro a w5 B6 hf hMs hB hk; clear hB
    have hMo := hM
    have hM : MemOk [⟨T, 72, [.map (some nB), .map (some cB)]⟩, ⟨B1, 39, [iV hi, iV hg]⟩, ⟨B1 + 1, 32, [iV x0, iV y0, iV x1, iV y1]⟩, ⟨B3, 29, [iV (depthOf (bsize x0 y0 x1 y1)), iV (colOf ((x0 + x1) / 2) (depthOf (bsize x0 y0 x1 y1))), iV (colOf ((y0 + y1) / 2) (depthOf (bsize x0 y0 x1 y1)))]⟩, ⟨B5, 29, [iV (((getK Lc (⟨hi, hg⟩ : H2)).getD (⟨0, 0, 0⟩ : C3)).d), iV (((getK Lc (⟨hi, hg⟩ : H2)).getD (⟨0, 0, 0⟩ : C3)).x), iV (((getK Lc (⟨hi, hg⟩ : H2)).getD (⟨0, 0, 0⟩ : C3)).y)]⟩] w5 := MemOk.upd (M1 := [⟨T, 72, [.map (some nB), .map (some cB)]⟩, ⟨B1, 39, [iV hi, iV hg]⟩, ⟨B1 + 1, 32, [iV x0, iV y0, iV x1, iV y1]⟩, ⟨B3, 29, [iV (depthOf (bsize x0 y0 x1 y1)), iV (colOf ((x0 + x1) / 2) (depthOf (bsize x0 y0 x1 y1))), iV (colOf ((y0 + y1) / 2) (depthOf (bsize x0 y0 x1 y1)))]⟩]) (M2 := []) hM hk hMs rfl
    have hO := hO.step hM (hk.mono (by intro i _ h; simp only [Is, Mem.names, List.map_cons, List.map_nil, List.mem_cons, List.not_mem_nil, or_false] at h ⊢; omega)) (by intro i h; simp only [Mem.names, List.map_cons, List.map_nil, List.mem_cons, List.not_mem_nil, or_false, List.map_append, List.cons_append, List.nil_append] at h ⊢; omega); clear hMo
    have hk0 := hk0.then hk (by intro i hi h; simp only [Is, Mem.names, List.map_cons, List.map_nil, List.mem_cons, List.not_mem_nil, or_false] at h; (first | omega | (subst h; first | exact hTB | exact (hpF.imp (fun h => by rw [hBl]; rcases List.mem_cons.1 h with h | h <;> simp [h]) id).resolve_right (by omega)) | (rcases h with h | h <;> (first | omega | (subst h; first | exact hTB | exact (hpF.imp (fun h => by rw [hBl]; rcases List.mem_cons.1 h with h | h <;> simp [h]) id).resolve_right (by omega)) | (rcases h with h | h <;> (first | omega | (subst h; first | exact hTB | exact (hpF.imp (fun h => by rw [hBl]; rcases List.mem_cons.1 h with h | h <;> simp [h]) id).resolve_right (by omega)) | (rcases h with h | h <;> (first | omega | (subst h; first | exact hTB | exact (hpF.imp (fun h => by rw [hBl]; rcases List.mem_cons.1 h with h | h <;> simp [h]) id).resolve_right (by omega)) | (rcases h with h | h <;> (first | omega | (subst h; first | exact hTB | exact (hpF.imp (fun h => by rw [hBl]; rcases List.mem_cons.1 h with h | h <;> simp [h]) id).resolve_right (by omega)) | (rcases h with h | h <;> (first | omega | (subst h; first | exact hTB | exact (hpF.imp (fun h => by rw [hBl]; rcases List.mem_cons.1 h with h | h <;> simp [h]) id).resolve_right (by omega)) | (rcases h with h | h <;> (omega))))))))))))))
    clear hk hMs
    have hC := (hCq1i _ ⟨hM.sub (.cons_cons _ (.cons_cons _ (.cons_cons _ (.cons_cons _ (.cons _ .slnil))))), hk0, hO.sub (.cons_cons _ (.cons_cons _ (.cons_cons _ (.cons_cons _ (.cons _ .slnil))))) (.cons_cons _ (.cons_cons _ .slnil))⟩)
    refine scdone hC ?_
    refine qd hf hC (fun w' h => (hCq1e w' h).1) [9, 7, 5, 4, 0] [{}] (nw := [(10, eB (hasK Lc (⟨hi, hg⟩ : H2)))]) An ?_
    clear hf; intro a hf
    clear hC
    show K6 _ _
    have hf := (hf.prune [0, 4, 5, 7, 9, 10]).to (env' := [(0, eP T 0), (4, eP B1 0), (5, eP (B1 + 1) 0), (7, eP B3 0), (9, eP B5 0), (10, eB (hasK Lc (⟨hi, hg⟩ : H2)))]) (by kernel_rfl)
    replace hO : OwnOk base [⟨B5, 29, [iV (((getK Lc (⟨hi, hg⟩ : H2)).getD (⟨0, 0, 0⟩ : C3)).d), iV (((getK Lc (⟨hi, hg⟩ : H2)).getD (⟨0, 0, 0⟩ : C3)).x), iV (((getK Lc (⟨hi, hg⟩ : H2)).getD (⟨0, 0, 0⟩ : C3)).y)]⟩, ⟨T, 72, [.map (some nB), .map (some cB)]⟩, ⟨B1, 39, [iV hi, iV hg]⟩, ⟨B1 + 1, 32, [iV x0, iV y0, iV x1, iV y1]⟩, ⟨B3, 29, [iV (depthOf (bsize x0 y0 x1 y1)), iV (colOf ((x0 + x1) / 2) (depthOf (bsize x0 y0 x1 y1))), iV (colOf ((y0 + y1) / 2) (depthOf (bsize x0 y0 x1 y1)))]⟩] [oNM 68 nB N, oM cB vH vC Lc] w5 := OwnOk.frontM (M1 := [⟨T, 72, [.map (some nB), .map (some cB)]⟩, ⟨B1, 39, [iV hi, iV hg]⟩, ⟨B1 + 1, 32, [iV x0, iV y0, iV x1, iV y1]⟩, ⟨B3, 29, [iV (depthOf (bsize x0 y0 x1 y1)), iV (colOf ((x0 + x1) / 2) (depthOf (bsize x0 y0 x1 y1))), iV (colOf ((y0 + y1) / 2) (depthOf (bsize x0 y0 x1 y1)))]⟩]) (M2 := []) hO
    replace hM : MemOk [⟨B5, 29, [iV (((getK Lc (⟨hi, hg⟩ : H2)).getD (⟨0, 0, 0⟩ : C3)).d), iV (((getK Lc (⟨hi, hg⟩ : H2)).getD (⟨0, 0, 0⟩ : C3)).x), iV (((getK Lc (⟨hi, hg⟩ : H2)).getD (⟨0, 0, 0⟩ : C3)).y)]⟩, ⟨T, 72, [.map (some nB), .map (some cB)]⟩, ⟨B1, 39, [iV hi, iV hg]⟩, ⟨B1 + 1, 32, [iV x0, iV y0, iV x1, iV y1]⟩, ⟨B3, 29, [iV (depthOf (bsize x0 y0 x1 y1)), iV (colOf ((x0 + x1) / 2) (depthOf (bsize x0 y0 x1 y1))), iV (colOf ((y0 + y1) / 2) (depthOf (bsize x0 y0 x1 y1)))]⟩] w5 := MemOk.front (M1 := [⟨T, 72, [.map (some nB), .map (some cB)]⟩, ⟨B1, 39, [iV hi, iV hg]⟩, ⟨B1 + 1, 32, [iV x0, iV y0, iV x1, iV y1]⟩, ⟨B3, 29, [iV (depthOf (bsize x0 y0 x1 y1)), iV (colOf ((x0 + x1) / 2) (depthOf (bsize x0 y0 x1 y1))), iV (colOf ((y0 + y1) / 2) (depthOf (bsize x0 y0 x1 y1)))]⟩]) (M2 := []) hM
    replace hO : OwnOk base [⟨B3, 29, [iV (depthOf (bsize x0 y0 x1 y1)), iV (colOf ((x0 + x1) / 2) (depthOf (bsize x0 y0 x1 y1))), iV (colOf ((y0 + y1) / 2) (depthOf (bsize x0 y0 x1 y1)))]⟩, ⟨B5, 29, [iV (((getK Lc (⟨hi, hg⟩ : H2)).getD (⟨0, 0, 0⟩ : C3)).d), iV (((getK Lc (⟨hi, hg⟩ : H2)).getD (⟨0, 0, 0⟩ : C3)).x), iV (((getK Lc (⟨hi, hg⟩ : H2)).getD (⟨0, 0, 0⟩ : C3)).y)]⟩, ⟨T, 72, [.map (some nB), .map (some cB)]⟩, ⟨B1, 39, [iV hi, iV hg]⟩, ⟨B1 + 1, 32, [iV x0, iV y0, iV x1, iV y1]⟩] [oNM 68 nB N, oM cB vH vC Lc] w5 := OwnOk.frontM (M1 := [⟨B5, 29, [iV (((getK Lc (⟨hi, hg⟩ : H2)).getD (⟨0, 0, 0⟩ : C3)).d), iV (((getK Lc (⟨hi, hg⟩ : H2)).getD (⟨0, 0, 0⟩ : C3)).x), iV (((getK Lc (⟨hi, hg⟩ : H2)).getD (⟨0, 0, 0⟩ : C3)).y)]⟩, ⟨T, 72, [.map (some nB), .map (some cB)]⟩, ⟨B1, 39, [iV hi, iV hg]⟩, ⟨B1 + 1, 32, [iV x0, iV y0, iV x1, iV y1]⟩]) (M2 := []) hO
    replace hM : MemOk [⟨B3, 29, [iV (depthOf (bsize x0 y0 x1 y1)), iV (colOf ((x0 + x1) / 2) (depthOf (bsize x0 y0 x1 y1))), iV (colOf ((y0 + y1) / 2) (depthOf (bsize x0 y0 x1 y1)))]⟩, ⟨B5, 29, [iV (((getK Lc (⟨hi, hg⟩ : H2)).getD (⟨0, 0, 0⟩ : C3)).d), iV (((getK Lc (⟨hi, hg⟩ : H2)).getD (⟨0, 0, 0⟩ : C3)).x), iV (((getK Lc (⟨hi, hg⟩ : H2)).getD (⟨0, 0, 0⟩ : C3)).y)]⟩, ⟨T, 72, [.map (some nB), .map (some cB)]⟩, ⟨B1, 39, [iV hi, iV hg]⟩, ⟨B1 + 1, 32, [iV x0, iV y0, iV x1, iV y1]⟩] w5 := MemOk.front (M1 := [⟨B5, 29, [iV (((getK Lc (⟨hi, hg⟩ : H2)).getD (⟨0, 0, 0⟩ : C3)).d), iV (((getK Lc (⟨hi, hg⟩ : H2)).getD (⟨0, 0, 0⟩ : C3)).x), iV (((getK Lc (⟨hi, hg⟩ : H2)).getD (⟨0, 0, 0⟩ : C3)).y)]⟩, ⟨T, 72, [.map (some nB), .map (some cB)]⟩, ⟨B1, 39, [iV hi, iV hg]⟩, ⟨B1 + 1, 32, [iV x0, iV y0, iV x1, iV y1]⟩]) (M2 := []) hM
    replace hO : OwnOk base [⟨B1 + 1, 32, [iV x0, iV y0, iV x1, iV y1]⟩, ⟨B3, 29, [iV (depthOf (bsize x0 y0 x1 y1)), iV (colOf ((x0 + x1) / 2) (depthOf (bsize x0 y0 x1 y1))), iV (colOf ((y0 + y1) / 2) (depthOf (bsize x0 y0 x1 y1)))]⟩, ⟨B5, 29, [iV (((getK Lc (⟨hi, hg⟩ : H2)).getD (⟨0, 0, 0⟩ : C3)).d), iV (((getK Lc (⟨hi, hg⟩ : H2)).getD (⟨0, 0, 0⟩ : C3)).x), iV (((getK Lc (⟨hi, hg⟩ : H2)).getD (⟨0, 0, 0⟩ : C3)).y)]⟩, ⟨T, 72, [.map (some nB), .map (some cB)]⟩, ⟨B1, 39, [iV hi, iV hg]⟩] [oNM 68 nB N, oM cB vH vC Lc] w5 := OwnOk.frontM (M1 := [⟨B3, 29, [iV (depthOf (bsize x0 y0 x1 y1)), iV (colOf ((x0 + x1) / 2) (depthOf (bsize x0 y0 x1 y1))), iV (colOf ((y0 + y1) / 2) (depthOf (bsize x0 y0 x1 y1)))]⟩, ⟨B5, 29, [iV (((getK Lc (⟨hi, hg⟩ : H2)).getD (⟨0, 0, 0⟩ : C3)).d), iV (((getK Lc (⟨hi, hg⟩ : H2)).getD (⟨0, 0, 0⟩ : C3)).x), iV (((getK Lc (⟨hi, hg⟩ : H2)).getD (⟨0, 0, 0⟩ : C3)).y)]⟩, ⟨T, 72, [.map (some nB), .map (some cB)]⟩, ⟨B1, 39, [iV hi, iV hg]⟩]) (M2 := []) hO
    replace hM : MemOk [⟨B1 + 1, 32, [iV x0, iV y0, iV x1, iV y1]⟩, ⟨B3, 29, [iV (depthOf (bsize x0 y0 x1 y1)), iV (colOf ((x0 + x1) / 2) (depthOf (bsize x0 y0 x1 y1))), iV (colOf ((y0 + y1) / 2) (depthOf (bsize x0 y0 x1 y1)))]⟩, ⟨B5, 29, [iV (((getK Lc (⟨hi, hg⟩ : H2)).getD (⟨0, 0, 0⟩ : C3)).d), iV (((getK Lc (⟨hi, hg⟩ : H2)).getD (⟨0, 0, 0⟩ : C3)).x), iV (((getK Lc (⟨hi, hg⟩ : H2)).getD (⟨0, 0, 0⟩ : C3)).y)]⟩, ⟨T, 72, [.map (some nB), .map (some cB)]⟩, ⟨B1, 39, [iV hi, iV hg]⟩] w5 := MemOk.front (M1 := [⟨B3, 29, [iV (depthOf (bsize x0 y0 x1 y1)), iV (colOf ((x0 + x1) / 2) (depthOf (bsize x0 y0 x1 y1))), iV (colOf ((y0 + y1) / 2) (depthOf (bsize x0 y0 x1 y1)))]⟩, ⟨B5, 29, [iV (((getK Lc (⟨hi, hg⟩ : H2)).getD (⟨0, 0, 0⟩ : C3)).d), iV (((getK Lc (⟨hi, hg⟩ : H2)).getD (⟨0, 0, 0⟩ : C3)).x), iV (((getK Lc (⟨hi, hg⟩ : H2)).getD (⟨0, 0, 0⟩ : C3)).y)]⟩, ⟨T, 72, [.map (some nB), .map (some cB)]⟩, ⟨B1, 39, [iV hi, iV hg]⟩]) (M2 := []) hM
    replace hO : OwnOk base [⟨B1, 39, [iV hi, iV hg]⟩, ⟨B1 + 1, 32, [iV x0, iV y0, iV x1, iV y1]⟩, ⟨B3, 29, [iV (depthOf (bsize x0 y0 x1 y1)), iV (colOf ((x0 + x1) / 2) (depthOf (bsize x0 y0 x1 y1))), iV (colOf ((y0 + y1) / 2) (depthOf (bsize x0 y0 x1 y1)))]⟩, ⟨B5, 29, [iV (((getK Lc (⟨hi, hg⟩ : H2)).getD (⟨0, 0, 0⟩ : C3)).d), iV (((getK Lc (⟨hi, hg⟩ : H2)).getD (⟨0, 0, 0⟩ : C3)).x), iV (((getK Lc (⟨hi, hg⟩ : H2)).getD (⟨0, 0, 0⟩ : C3)).y)]⟩, ⟨T, 72, [.map (some nB), .map (some cB)]⟩] [oNM 68 nB N, oM cB vH vC Lc] w5 := OwnOk.frontM (M1 := [⟨B1 + 1, 32, [iV x0, iV y0, iV x1, iV y1]⟩, ⟨B3, 29, [iV (depthOf (bsize x0 y0 x1 y1)), iV (colOf ((x0 + x1) / 2) (depthOf (bsize x0 y0 x1 y1))), iV (colOf ((y0 + y1) / 2) (depthOf (bsize x0 y0 x1 y1)))]⟩, ⟨B5, 29, [iV (((getK Lc (⟨hi, hg⟩ : H2)).getD (⟨0, 0, 0⟩ : C3)).d), iV (((getK Lc (⟨hi, hg⟩ : H2)).getD (⟨0, 0, 0⟩ : C3)).x), iV (((getK Lc (⟨hi, hg⟩ : H2)).getD (⟨0, 0, 0⟩ : C3)).y)]⟩, ⟨T, 72, [.map (some nB), .map (some cB)]⟩]) (M2 := []) hO
    replace hM : MemOk [⟨B1, 39, [iV hi, iV hg]⟩, ⟨B1 + 1, 32, [iV x0, iV y0, iV x1, iV y1]⟩, ⟨B3, 29, [iV (depthOf (bsize x0 y0 x1 y1)), iV (colOf ((x0 + x1) / 2) (depthOf (bsize x0 y0 x1 y1))), iV (colOf ((y0 + y1) / 2) (depthOf (bsize x0 y0 x1 y1)))]⟩, ⟨B5, 29, [iV (((getK Lc (⟨hi, hg⟩ : H2)).getD (⟨0, 0, 0⟩ : C3)).d), iV (((getK Lc (⟨hi, hg⟩ : H2)).getD (⟨0, 0, 0⟩ : C3)).x), iV (((getK Lc (⟨hi, hg⟩ : H2)).getD (⟨0, 0, 0⟩ : C3)).y)]⟩, ⟨T, 72, [.map (some nB), .map (some cB)]⟩] w5 := MemOk.front (M1 := [⟨B1 + 1, 32, [iV x0, iV y0, iV x1, iV y1]⟩, ⟨B3, 29, [iV (depthOf (bsize x0 y0 x1 y1)), iV (colOf ((x0 + x1) / 2) (depthOf (bsize x0 y0 x1 y1))), iV (colOf ((y0 + y1) / 2) (depthOf (bsize x0 y0 x1 y1)))]⟩, ⟨B5, 29, [iV (((getK Lc (⟨hi, hg⟩ : H2)).getD (⟨0, 0, 0⟩ : C3)).d), iV (((getK Lc (⟨hi, hg⟩ : H2)).getD (⟨0, 0, 0⟩ : C3)).x), iV (((getK Lc (⟨hi, hg⟩ : H2)).getD (⟨0, 0, 0⟩ : C3)).y)]⟩, ⟨T, 72, [.map (some nB), .map (some cB)]⟩]) (M2 := []) hM
    replace hO : OwnOk base [⟨T, 72, [.map (some nB), .map (some cB)]⟩, ⟨B1, 39, [iV hi, iV hg]⟩, ⟨B1 + 1, 32, [iV x0, iV y0, iV x1, iV y1]⟩, ⟨B3, 29, [iV (depthOf (bsize x0 y0 x1 y1)), iV (colOf ((x0 + x1) / 2) (depthOf (bsize x0 y0 x1 y1))), iV (colOf ((y0 + y1) / 2) (depthOf (bsize x0 y0 x1 y1)))]⟩, ⟨B5, 29, [iV (((getK Lc (⟨hi, hg⟩ : H2)).getD (⟨0, 0, 0⟩ : C3)).d), iV (((getK Lc (⟨hi, hg⟩ : H2)).getD (⟨0, 0, 0⟩ : C3)).x), iV (((getK Lc (⟨hi, hg⟩ : H2)).getD (⟨0, 0, 0⟩ : C3)).y)]⟩] [oNM 68 nB N, oM cB vH vC Lc] w5 := OwnOk.frontM (M1 := [⟨B1, 39, [iV hi, iV hg]⟩, ⟨B1 + 1, 32, [iV x0, iV y0, iV x1, iV y1]⟩, ⟨B3, 29, [iV (depthOf (bsize x0 y0 x1 y1)), iV (colOf ((x0 + x1) / 2) (depthOf (bsize x0 y0 x1 y1))), iV (colOf ((y0 + y1) / 2) (depthOf (bsize x0 y0 x1 y1)))]⟩, ⟨B5, 29, [iV (((getK Lc (⟨hi, hg⟩ : H2)).getD (⟨0, 0, 0⟩ : C3)).d), iV (((getK Lc (⟨hi, hg⟩ : H2)).getD (⟨0, 0, 0⟩ : C3)).x), iV (((getK Lc (⟨hi, hg⟩ : H2)).getD (⟨0, 0, 0⟩ : C3)).y)]⟩]) (M2 := []) hO
    replace hM : MemOk [⟨T, 72, [.map (some nB), .map (some cB)]⟩, ⟨B1, 39, [iV hi, iV hg]⟩, ⟨B1 + 1, 32, [iV x0, iV y0, iV x1, iV y1]⟩, ⟨B3, 29, [iV (depthOf (bsize x0 y0 x1 y1)), iV (colOf ((x0 + x1) / 2) (depthOf (bsize x0 y0 x1 y1))), iV (colOf ((y0 + y1) / 2) (depthOf (bsize x0 y0 x1 y1)))]⟩, ⟨B5, 29, [iV (((getK Lc (⟨hi, hg⟩ : H2)).getD (⟨0, 0, 0⟩ : C3)).d), iV (((getK Lc (⟨hi, hg⟩ : H2)).getD (⟨0, 0, 0⟩ : C3)).x), iV (((getK Lc (⟨hi, hg⟩ : H2)).getD (⟨0, 0, 0⟩ : C3)).y)]⟩] w5 := MemOk.front (M1 := [⟨B1, 39, [iV hi, iV hg]⟩, ⟨B1 + 1, 32, [iV x0, iV y0, iV x1, iV y1]⟩, ⟨B3, 29, [iV (depthOf (bsize x0 y0 x1 y1)), iV (colOf ((x0 + x1) / 2) (depthOf (bsize x0 y0 x1 y1))), iV (colOf ((y0 + y1) / 2) (depthOf (bsize x0 y0 x1 y1)))]⟩, ⟨B5, 29, [iV (((getK Lc (⟨hi, hg⟩ : H2)).getD (⟨0, 0, 0⟩ : C3)).d), iV (((getK Lc (⟨hi, hg⟩ : H2)).getD (⟨0, 0, 0⟩ : C3)).x), iV (((getK Lc (⟨hi, hg⟩ : H2)).getD (⟨0, 0, 0⟩ : C3)).y)]⟩]) (M2 := []) hM
    replace hO : OwnOk base [⟨T, 72, [.map (some nB), .map (some cB)]⟩, ⟨B1, 39, [iV hi, iV hg]⟩, ⟨B1 + 1, 32, [iV x0, iV y0, iV x1, iV y1]⟩, ⟨B3, 29, [iV (depthOf (bsize x0 y0 x1 y1)), iV (colOf ((x0 + x1) / 2) (depthOf (bsize x0 y0 x1 y1))), iV (colOf ((y0 + y1) / 2) (depthOf (bsize x0 y0 x1 y1)))]⟩, ⟨B5, 29, [iV (((getK Lc (⟨hi, hg⟩ : H2)).getD (⟨0, 0, 0⟩ : C3)).d), iV (((getK Lc (⟨hi, hg⟩ : H2)).getD (⟨0, 0, 0⟩ : C3)).x), iV (((getK Lc (⟨hi, hg⟩ : H2)).getD (⟨0, 0, 0⟩ : C3)).y)]⟩] [oM cB vH vC Lc, oNM 68 nB N] w5 := OwnOk.front (l1 := [oNM 68 nB N]) (l2 := []) hO
    exact hK6 _ _ ⟨B5, hf.conv (Ac rfl (Ac rfl (Ac rfl (Ac rfl (Ac rfl (Ao rfl)))))), hM, hk0, hO, hbB5⟩
   ·
    refine sxleaf ?_
    have hC := (hCq1i _ ⟨hM.sub (.cons_cons _ (.cons_cons _ (.cons_cons _ (.cons_cons _ .slnil)))), hk0, hO.sub (.cons_cons _ (.cons_cons _ (.cons_cons _ (.cons_cons _ .slnil)))) (.cons_cons _ (.cons_cons _ .slnil))⟩)
    refine scstep rfl ?_
    refine q1 hf (MemOk.nil _) [24, 23, 7, 5, 4, 0] [{ os := [.nw] }] (nw := fun B7 => [(9, eP B7 0)]) (M' := fun B7 => [⟨B7, 29, [iV 0, iV 0, iV 0]⟩]) (ob := fun B7 => []) (fun B7 => An) ?_
    clear hf; intro a w6 B7 hf hMs hB hk; have hk : Keep Nn w3.drew w6 := hk.mono (by intro _ _ h; cases h)
    have hbB7 : w.heap.size ≤ B7 := by have := hk0.size; omega
    have hMo := hM; have hM : MemOk [⟨T, 72, [.map (some nB), .map (some cB)]⟩, ⟨B1, 39, [iV hi, iV hg]⟩, ⟨B1 + 1, 32, [iV x0, iV y0, iV x1, iV y1]⟩, ⟨B3, 29, [iV (depthOf (bsize x0 y0 x1 y1)), iV (colOf ((x0 + x1) / 2) (depthOf (bsize x0 y0 x1 y1))), iV (colOf ((y0 + y1) / 2) (depthOf (bsize x0 y0 x1 y1)))]⟩, ⟨B7, 29, [iV 0, iV 0, iV 0]⟩] w6 := MemOk.more hM hk (by omega) (hMs.at_ _ (List.Mem.head _))
    have hO := hO.step hM hk.nn (by intro i h; simp only [Mem.names, List.map_cons, List.map_nil, List.mem_cons, List.not_mem_nil, or_false, List.map_append, List.cons_append, List.nil_append] at h ⊢; omega)
    have hk0 := hk0.trans hk.nn
    clear hk hMs hMo hB
    have hC := (hCq1i _ ⟨hM.sub (.cons_cons _ (.cons_cons _ (.cons_cons _ (.cons_cons _ (.cons _ .slnil))))), hk0, hO.sub (.cons_cons _ (.cons_cons _ (.cons_cons _ (.cons_cons _ (.cons _ .slnil))))) (.cons_cons _ (.cons_cons _ .slnil))⟩)
    refine scdone hC ?_
    refine scstep rfl ?_
    refine sxlookup hf (hO.own _ (List.Mem.tail _ (List.Mem.head _))).2 keyH rfl rfl rfl rfl rfl (⟨hi, hg⟩ : H2) rfl Tryd.underlying70 (⟨0, 0, 0⟩ : C3) (by kernel_rfl) (V := .tuple #[.agg #[iV (((getK Lc (⟨hi, hg⟩ : H2)).getD (⟨0, 0, 0⟩ : C3)).d), iV (((getK Lc (⟨hi, hg⟩ : H2)).getD (⟨0, 0, 0⟩ : C3)).x), iV (((getK Lc (⟨hi, hg⟩ : H2)).getD (⟨0, 0, 0⟩ : C3)).y)], bV (hasK Lc (⟨hi, hg⟩ : H2))]) rfl ?_; clear hf; intro a hf
    have hC := (hCq1i _ ⟨hM.sub (.cons_cons _ (.cons_cons _ (.cons_cons _ (.cons_cons _ (.cons _ .slnil))))), hk0, hO.sub (.cons_cons _ (.cons_cons _ (.cons_cons _ (.cons_cons _ (.cons _ .slnil))))) (.cons_cons _ (.cons_cons _ .slnil))⟩)
    refine scdone hC ?_
    refine qd hf hC (fun w' h => (hCq1e w' h).1) [9, 7, 5, 4, 0] [{}, {}, {}] (nw := [(27, eB (hasK Lc (⟨hi, hg⟩ : H2))), (26, .val (.agg #[iV (((getK Lc (⟨hi, hg⟩ : H2)).getD (⟨0, 0, 0⟩ : C3)).d), iV (((getK Lc (⟨hi, hg⟩ : H2)).getD (⟨0, 0, 0⟩ : C3)).x), iV (((getK Lc (⟨hi, hg⟩ : H2)).getD (⟨0, 0, 0⟩ : C3)).y)]))]) An ?_
    clear hf; intro a hf
    refine scstep rfl ?_
    have hMs : MemOk [⟨B7, 29, [iV 0, iV 0, iV 0]⟩] w6 := hM.sub (.cons _ (.cons _ (.cons _ (.cons _ (.cons_cons _ .slnil)))))
    refine q1 hf hMs [27, 9, 7, 5, 4, 0] [{ os := [.st 0 0, .st 0 1, .st 0 2] }] (nw := fun B8 => []) (M' := fun B8 => [⟨B7, 29, [iV (((getK Lc (⟨hi, hg⟩ : H2)).getD (⟨0, 0, 0⟩ : C3)).d), iV (((getK Lc (⟨hi, hg⟩ : H2)).getD (⟨0, 0, 0⟩ : C3)).x), iV (((getK Lc (⟨hi, hg⟩ : H2)).getD (⟨0, 0, 0⟩ : C3)).y)]⟩]) (ob := fun B8 => [Ad B7 0, Ad B7 1, Ad B7 2]) (fun B8 => (Ac (ad _ _) (Ac (ad _ _) (Ao (ad _ _))))) ?_
    clear hf hMs; intro a w7 B8 hf hMs hB hk; clear hB
    have hMo := hM
    have hM : MemOk [⟨T, 72, [.map (some nB), .map (some cB)]⟩, ⟨B1, 39, [iV hi, iV hg]⟩, ⟨B1 + 1, 32, [iV x0, iV y0, iV x1, iV y1]⟩, ⟨B3, 29, [iV (depthOf (bsize x0 y0 x1 y1)), iV (colOf ((x0 + x1) / 2) (depthOf (bsize x0 y0 x1 y1))), iV (colOf ((y0 + y1) / 2) (depthOf (bsize x0 y0 x1 y1)))]⟩, ⟨B7, 29, [iV (((getK Lc (⟨hi, hg⟩ : H2)).getD (⟨0, 0, 0⟩ : C3)).d), iV (((getK Lc (⟨hi, hg⟩ : H2)).getD (⟨0, 0, 0⟩ : C3)).x), iV (((getK Lc (⟨hi, hg⟩ : H2)).getD (⟨0, 0, 0⟩ : C3)).y)]⟩] w7 := MemOk.upd (M1 := [⟨T, 72, [.map (some nB), .map (some cB)]⟩, ⟨B1, 39, [iV hi, iV hg]⟩, ⟨B1 + 1, 32, [iV x0, iV y0, iV x1, iV y1]⟩, ⟨B3, 29, [iV (depthOf (bsize x0 y0 x1 y1)), iV (colOf ((x0 + x1) / 2) (depthOf (bsize x0 y0 x1 y1))), iV (colOf ((y0 + y1) / 2) (depthOf (bsize x0 y0 x1 y1)))]⟩]) (M2 := []) hM hk hMs rfl
    have hO := hO.step hM (hk.mono (by intro i _ h; simp only [Is, Mem.names, List.map_cons, List.map_nil, List.mem_cons, List.not_mem_nil, or_false] at h ⊢; omega)) (by intro i h; simp only [Mem.names, List.map_cons, List.map_nil, List.mem_cons, List.not_mem_nil, or_false, List.map_append, List.cons_append, List.nil_append] at h ⊢; omega); clear hMo
    have hk0 := hk0.then hk (by intro i hi h; simp only [Is, Mem.names, List.map_cons, List.map_nil, List.mem_cons, List.not_mem_nil, or_false] at h; (first | omega | (subst h; first | exact hTB | exact (hpF.imp (fun h => by rw [hBl]; rcases List.mem_cons.1 h with h | h <;> simp [h]) id).resolve_right (by omega)) | (rcases h with h | h <;> (first | omega | (subst h; first | exact hTB | exact (hpF.imp (fun h => by rw [hBl]; rcases List.mem_cons.1 h with h | h <;> simp [h]) id).resolve_right (by omega)) | (rcases h with h | h <;> (first | omega | (subst h; first | exact hTB | exact (hpF.imp (fun h => by rw [hBl]; rcases List.mem_cons.1 h with h | h <;> simp [h]) id).resolve_right (by omega)) | (rcases h with h | h <;> (first | omega | (subst h; first | exact hTB | exact (hpF.imp (fun h => by rw [hBl]; rcases List.mem_cons.1 h with h | h <;> simp [h]) id).resolve_right (by omega)) | (rcases h with h | h <;> (first | omega | (subst h; first | exact hTB | exact (hpF.imp (fun h => by rw [hBl]; rcases List.mem_cons.1 h with h | h <;> simp [h]) id).resolve_right (by omega)) | (rcases h with h | h <;> (first | omega | (subst h; first | exact hTB | exact (hpF.imp (fun h => by rw [hBl]; rcases List.mem_cons.1 h with h | h <;> simp [h]) id).resolve_right (by omega)) | (rcases h with h | h <;> (omega))))))))))))))
    clear hk hMs
    have hC := (hCq1i _ ⟨hM.sub (.cons_cons _ (.cons_cons _ (.cons_cons _ (.cons_cons _ (.cons _ .slnil))))), hk0, hO.sub (.cons_cons _ (.cons_cons _ (.cons_cons _ (.cons_cons _ (.cons _ .slnil))))) (.cons_cons _ (.cons_cons _ .slnil))⟩)
    refine scdone hC ?_
    refine qd hf hC (fun w' h => (hCq1e w' h).1) [9, 7, 5, 4, 0] [{}] (nw := [(10, eB (hasK Lc (⟨hi, hg⟩ : H2)))]) An ?_
    clear hf; intro a hf
    clear hC
    show K6 _ _
    have hf := (hf.prune [0, 4, 5, 7, 9, 10]).to (env' := [(0, eP T 0), (4, eP B1 0), (5, eP (B1 + 1) 0), (7, eP B3 0), (9, eP B7 0), (10, eB (hasK Lc (⟨hi, hg⟩ : H2)))]) (by kernel_rfl)
    replace hO : OwnOk base [⟨B7, 29, [iV (((getK Lc (⟨hi, hg⟩ : H2)).getD (⟨0, 0, 0⟩ : C3)).d), iV (((getK Lc (⟨hi, hg⟩ : H2)).getD (⟨0, 0, 0⟩ : C3)).x), iV (((getK Lc (⟨hi, hg⟩ : H2)).getD (⟨0, 0, 0⟩ : C3)).y)]⟩, ⟨T, 72, [.map (some nB), .map (some cB)]⟩, ⟨B1, 39, [iV hi, iV hg]⟩, ⟨B1 + 1, 32, [iV x0, iV y0, iV x1, iV y1]⟩, ⟨B3, 29, [iV (depthOf (bsize x0 y0 x1 y1)), iV (colOf ((x0 + x1) / 2) (depthOf (bsize x0 y0 x1 y1))), iV (colOf ((y0 + y1) / 2) (depthOf (bsize x0 y0 x1 y1)))]⟩] [oNM 68 nB N, oM cB vH vC Lc] w7 := OwnOk.frontM (M1 := [⟨T, 72, [.map (some nB), .map (some cB)]⟩, ⟨B1, 39, [iV hi, iV hg]⟩, ⟨B1 + 1, 32, [iV x0, iV y0, iV x1, iV y1]⟩, ⟨B3, 29, [iV (depthOf (bsize x0 y0 x1 y1)), iV (colOf ((x0 + x1) / 2) (depthOf (bsize x0 y0 x1 y1))), iV (colOf ((y0 + y1) / 2) (depthOf (bsize x0 y0 x1 y1)))]⟩]) (M2 := []) hO
    replace hM : MemOk [⟨B7, 29, [iV (((getK Lc (⟨hi, hg⟩ : H2)).getD (⟨0, 0, 0⟩ : C3)).d), iV (((getK Lc (⟨hi, hg⟩ : H2)).getD (⟨0, 0, 0⟩ : C3)).x), iV (((getK Lc (⟨hi, hg⟩ : H2)).getD (⟨0, 0, 0⟩ : C3)).y)]⟩, ⟨T, 72, [.map (some nB), .map (some cB)]⟩, ⟨B1, 39, [iV hi, iV hg]⟩, ⟨B1 + 1, 32, [iV x0, iV y0, iV x1, iV y1]⟩, ⟨B3, 29, [iV (depthOf (bsize x0 y0 x1 y1)), iV (colOf ((x0 + x1) / 2) (depthOf (bsize x0 y0 x1 y1))), iV (colOf ((y0 + y1) / 2) (depthOf (bsize x0 y0 x1 y1)))]⟩] w7 := MemOk.front (M1 := [⟨T, 72, [.map (some nB), .map (some cB)]⟩, ⟨B1, 39, [iV hi, iV hg]⟩, ⟨B1 + 1, 32, [iV x0, iV y0, iV x1, iV y1]⟩, ⟨B3, 29, [iV (depthOf (bsize x0 y0 x1 y1)), iV (colOf ((x0 + x1) / 2) (depthOf (bsize x0 y0 x1 y1))), iV (colOf ((y0 + y1) / 2) (depthOf (bsize x0 y0 x1 y1)))]⟩]) (M2 := []) hM
    replace hO : OwnOk base [⟨B3, 29, [iV (depthOf (bsize x0 y0 x1 y1)), iV (colOf ((x0 + x1) / 2) (depthOf (bsize x0 y0 x1 y1))), iV (colOf ((y0 + y1) / 2) (depthOf (bsize x0 y0 x1 y1)))]⟩, ⟨B7, 29, [iV (((getK Lc (⟨hi, hg⟩ : H2)).getD (⟨0, 0, 0⟩ : C3)).d), iV (((getK Lc (⟨hi, hg⟩ : H2)).getD (⟨0, 0, 0⟩ : C3)).x), iV (((getK Lc (⟨hi, hg⟩ : H2)).getD (⟨0, 0, 0⟩ : C3)).y)]⟩, ⟨T, 72, [.map (some nB), .map (some cB)]⟩, ⟨B1, 39, [iV hi, iV hg]⟩, ⟨B1 + 1, 32, [iV x0, iV y0, iV x1, iV y1]⟩] [oNM 68 nB N, oM cB vH vC Lc] w7 := OwnOk.frontM (M1 := [⟨B7, 29, [iV (((getK Lc (⟨hi, hg⟩ : H2)).getD (⟨0, 0, 0⟩ : C3)).d), iV (((getK Lc (⟨hi, hg⟩ : H2)).getD (⟨0, 0, 0⟩ : C3)).x), iV (((getK Lc (⟨hi, hg⟩ : H2)).getD (⟨0, 0, 0⟩ : C3)).y)]⟩, ⟨T, 72, [.map (some nB), .map (some cB)]⟩, ⟨B1, 39, [iV hi, iV hg]⟩, ⟨B1 + 1, 32, [iV x0, iV y0, iV x1, iV y1]⟩]) (M2 := []) hO
    replace hM : MemOk [⟨B3, 29, [iV (depthOf (bsize x0 y0 x1 y1)), iV (colOf ((x0 + x1) / 2) (depthOf (bsize x0 y0 x1 y1))), iV (colOf ((y0 + y1) / 2) (depthOf (bsize x0 y0 x1 y1)))]⟩, ⟨B7, 29, [iV (((getK Lc (⟨hi, hg⟩ : H2)).getD (⟨0, 0, 0⟩ : C3)).d), iV (((getK Lc (⟨hi, hg⟩ : H2)).getD (⟨0, 0, 0⟩ : C3)).x), iV (((getK Lc (⟨hi, hg⟩ : H2)).getD (⟨0, 0, 0⟩ : C3)).y)]⟩, ⟨T, 72, [.map (some nB), .map (some cB)]⟩, ⟨B1, 39, [iV hi, iV hg]⟩, ⟨B1 + 1, 32, [iV x0, iV y0, iV x1, iV y1]⟩] w7 := MemOk.front (M1 := [⟨B7, 29, [iV (((getK Lc (⟨hi, hg⟩ : H2)).getD (⟨0, 0, 0⟩ : C3)).d), iV (((getK Lc (⟨hi, hg⟩ : H2)).getD (⟨0, 0, 0⟩ : C3)).x), iV (((getK Lc (⟨hi, hg⟩ : H2)).getD (⟨0, 0, 0⟩ : C3)).y)]⟩, ⟨T, 72, [.map (some nB), .map (some cB)]⟩, ⟨B1, 39, [iV hi, iV hg]⟩, ⟨B1 + 1, 32, [iV x0, iV y0, iV x1, iV y1]⟩]) (M2 := []) hM
    replace hO : OwnOk base [⟨B1 + 1, 32, [iV x0, iV y0, iV x1, iV y1]⟩, ⟨B3, 29, [iV (depthOf (bsize x0 y0 x1 y1)), iV (colOf ((x0 + x1) / 2) (depthOf (bsize x0 y0 x1 y1))), iV (colOf ((y0 + y1) / 2) (depthOf (bsize x0 y0 x1 y1)))]⟩, ⟨B7, 29, [iV (((getK Lc (⟨hi, hg⟩ : H2)).getD (⟨0, 0, 0⟩ : C3)).d), iV (((getK Lc (⟨hi, hg⟩ : H2)).getD (⟨0, 0, 0⟩ : C3)).x), iV (((getK Lc (⟨hi, hg⟩ : H2)).getD (⟨0, 0, 0⟩ : C3)).y)]⟩, ⟨T, 72, [.map (some nB), .map (some cB)]⟩, ⟨B1, 39, [iV hi, iV hg]⟩] [oNM 68 nB N, oM cB vH vC Lc] w7 := OwnOk.frontM (M1 := [⟨B3, 29, [iV (depthOf (bsize x0 y0 x1 y1)), iV (colOf ((x0 + x1) / 2) (depthOf (bsize x0 y0 x1 y1))), iV (colOf ((y0 + y1) / 2) (depthOf (bsize x0 y0 x1 y1)))]⟩, ⟨B7, 29, [iV (((getK Lc (⟨hi, hg⟩ : H2)).getD (⟨0, 0, 0⟩ : C3)).d), iV (((getK Lc (⟨hi, hg⟩ : H2)).getD (⟨0, 0, 0⟩ : C3)).x), iV (((getK Lc (⟨hi, hg⟩ : H2)).getD (⟨0, 0, 0⟩ : C3)).y)]⟩, ⟨T, 72, [.map (some nB), .map (some cB)]⟩, ⟨B1, 39, [iV hi, iV hg]⟩]) (M2 := []) hO
    replace hM : MemOk [⟨B1 + 1, 32, [iV x0, iV y0, iV x1, iV y1]⟩, ⟨B3, 29, [iV (depthOf (bsize x0 y0 x1 y1)), iV (colOf ((x0 + x1) / 2) (depthOf (bsize x0 y0 x1 y1))), iV (colOf ((y0 + y1) / 2) (depthOf (bsize x0 y0 x1 y1)))]⟩, ⟨B7, 29, [iV (((getK Lc (⟨hi, hg⟩ : H2)).getD (⟨0, 0, 0⟩ : C3)).d), iV (((getK Lc (⟨hi, hg⟩ : H2)).getD (⟨0, 0, 0⟩ : C3)).x), iV (((getK Lc (⟨hi, hg⟩ : H2)).getD (⟨0, 0, 0⟩ : C3)).y)]⟩, ⟨T, 72, [.map (some nB), .map (some cB)]⟩, ⟨B1, 39, [iV hi, iV hg]⟩] w7 := MemOk.front (M1 := [⟨B3, 29, [iV (depthOf (bsize x0 y0 x1 y1)), iV (colOf ((x0 + x1) / 2) (depthOf (bsize x0 y0 x1 y1))), iV (colOf ((y0 + y1) / 2) (depthOf (bsize x0 y0 x1 y1)))]⟩, ⟨B7, 29, [iV (((getK Lc (⟨hi, hg⟩ : H2)).getD (⟨0, 0, 0⟩ : C3)).d), iV (((getK Lc (⟨hi, hg⟩ : H2)).getD (⟨0, 0, 0⟩ : C3)).x), iV (((getK Lc (⟨hi, hg⟩ : H2)).getD (⟨0, 0, 0⟩ : C3)).y)]⟩, ⟨T, 72, [.map (some nB), .map (some cB)]⟩, ⟨B1, 39, [iV hi, iV hg]⟩]) (M2 := []) hM
    replace hO : OwnOk base [⟨B1, 39, [iV hi, iV hg]⟩, ⟨B1 + 1, 32, [iV x0, iV y0, iV x1, iV y1]⟩, ⟨B3, 29, [iV (depthOf (bsize x0 y0 x1 y1)), iV (colOf ((x0 + x1) / 2) (depthOf (bsize x0 y0 x1 y1))), iV (colOf ((y0 + y1) / 2) (depthOf (bsize x0 y0 x1 y1)))]⟩, ⟨B7, 29, [iV (((getK Lc (⟨hi, hg⟩ : H2)).getD (⟨0, 0, 0⟩ : C3)).d), iV (((getK Lc (⟨hi, hg⟩ : H2)).getD (⟨0, 0, 0⟩ : C3)).x), iV (((getK Lc (⟨hi, hg⟩ : H2)).getD (⟨0, 0, 0⟩ : C3)).y)]⟩, ⟨T, 72, [.map (some nB), .map (some cB)]⟩] [oNM 68 nB N, oM cB vH vC Lc] w7 := OwnOk.frontM (M1 := [⟨B1 + 1, 32, [iV x0, iV y0, iV x1, iV y1]⟩, ⟨B3, 29, [iV (depthOf (bsize x0 y0 x1 y1)), iV (colOf ((x0 + x1) / 2) (depthOf (bsize x0 y0 x1 y1))), iV (colOf ((y0 + y1) / 2) (depthOf (bsize x0 y0 x1 y1)))]⟩, ⟨B7, 29, [iV (((getK Lc (⟨hi, hg⟩ : H2)).getD (⟨0, 0, 0⟩ : C3)).d), iV (((getK Lc (⟨hi, hg⟩ : H2)).getD (⟨0, 0, 0⟩ : C3)).x), iV (((getK Lc (⟨hi, hg⟩ : H2)).getD (⟨0, 0, 0⟩ : C3)).y)]⟩, ⟨T, 72, [.map (some nB), .map (some cB)]⟩]) (M2 := []) hO
    replace hM : MemOk [⟨B1, 39, [iV hi, iV hg]⟩, ⟨B1 + 1, 32, [iV x0, iV y0, iV x1, iV y1]⟩, ⟨B3, 29, [iV (depthOf (bsize x0 y0 x1 y1)), iV (colOf ((x0 + x1) / 2) (depthOf (bsize x0 y0 x1 y1))), iV (colOf ((y0 + y1) / 2) (depthOf (bsize x0 y0 x1 y1)))]⟩, ⟨B7, 29, [iV (((getK Lc (⟨hi, hg⟩ : H2)).getD (⟨0, 0, 0⟩ : C3)).d), iV (((getK Lc (⟨hi, hg⟩ : H2)).getD (⟨0, 0, 0⟩ : C3)).x), iV (((getK Lc (⟨hi, hg⟩ : H2)).getD (⟨0, 0, 0⟩ : C3)).y)]⟩, ⟨T, 72, [.map (some nB), .map (some cB)]⟩] w7 := MemOk.front (M1 := [⟨B1 + 1, 32, [iV x0, iV y0, iV x1, iV y1]⟩, ⟨B3, 29, [iV (depthOf (bsize x0 y0 x1 y1)), iV (colOf ((x0 + x1) / 2) (depthOf (bsize x0 y0 x1 y1))), iV (colOf ((y0 + y1) / 2) (depthOf (bsize x0 y0 x1 y1)))]⟩, ⟨B7, 29, [iV (((getK Lc (⟨hi, hg⟩ : H2)).getD (⟨0, 0, 0⟩ : C3)).d), iV (((getK Lc (⟨hi, hg⟩ : H2)).getD (⟨0, 0, 0⟩ : C3)).x), iV (((getK Lc (⟨hi, hg⟩ : H2)).getD (⟨0, 0, 0⟩ : C3)).y)]⟩, ⟨T, 72, [.map (some nB), .map (some cB)]⟩]) (M2 := []) hM
    replace hO : OwnOk base [⟨T, 72, [.map (some nB), .map (some cB)]⟩, ⟨B1, 39, [iV hi, iV hg]⟩, ⟨B1 + 1, 32, [iV x0, iV y0, iV x1, iV y1]⟩, ⟨B3, 29, [iV (depthOf (bsize x0 y0 x1 y1)), iV (colOf ((x0 + x1) / 2) (depthOf (bsize x0 y0 x1 y1))), iV (colOf ((y0 + y1) / 2) (depthOf (bsize x0 y0 x1 y1)))]⟩, ⟨B7, 29, [iV (((getK Lc (⟨hi, hg⟩ : H2)).getD (⟨0, 0, 0⟩ : C3)).d), iV (((getK Lc (⟨hi, hg⟩ : H2)).getD (⟨0, 0, 0⟩ : C3)).x), iV (((getK Lc (⟨hi, hg⟩ : H2)).getD (⟨0, 0, 0⟩ : C3)).y)]⟩] [oNM 68 nB N, oM cB vH vC Lc] w7 := OwnOk.frontM (M1 := [⟨B1, 39, [iV hi, iV hg]⟩, ⟨B1 + 1, 32, [iV x0, iV y0, iV x1, iV y1]⟩, ⟨B3, 29, [iV (depthOf (bsize x0 y0 x1 y1)), iV (colOf ((x0 + x1) / 2) (depthOf (bsize x0 y0 x1 y1))), iV (colOf ((y0 + y1) / 2) (depthOf (bsize x0 y0 x1 y1)))]⟩, ⟨B7, 29, [iV (((getK Lc (⟨hi, hg⟩ : H2)).getD (⟨0, 0, 0⟩ : C3)).d), iV (((getK Lc (⟨hi, hg⟩ : H2)).getD (⟨0, 0, 0⟩ : C3)).x), iV (((getK Lc (⟨hi, hg⟩ : H2)).getD (⟨0, 0, 0⟩ : C3)).y)]⟩]) (M2 := []) hO
    replace hM : MemOk [⟨T, 72, [.map (some nB), .map (some cB)]⟩, ⟨B1, 39, [iV hi, iV hg]⟩, ⟨B1 + 1, 32, [iV x0, iV y0, iV x1, iV y1]⟩, ⟨B3, 29, [iV (depthOf (bsize x0 y0 x1 y1)), iV (colOf ((x0 + x1) / 2) (depthOf (bsize x0 y0 x1 y1))), iV (colOf ((y0 + y1) / 2) (depthOf (bsize x0 y0 x1 y1)))]⟩, ⟨B7, 29, [iV (((getK Lc (⟨hi, hg⟩ : H2)).getD (⟨0, 0, 0⟩ : C3)).d), iV (((getK Lc (⟨hi, hg⟩ : H2)).getD (⟨0, 0, 0⟩ : C3)).x), iV (((getK Lc (⟨hi, hg⟩ : H2)).getD (⟨0, 0, 0⟩ : C3)).y)]⟩] w7 := MemOk.front (M1 := [⟨B1, 39, [iV hi, iV hg]⟩, ⟨B1 + 1, 32, [iV x0, iV y0, iV x1, iV y1]⟩, ⟨B3, 29, [iV (depthOf (bsize x0 y0 x1 y1)), iV (colOf ((x0 + x1) / 2) (depthOf (bsize x0 y0 x1 y1))), iV (colOf ((y0 + y1) / 2) (depthOf (bsize x0 y0 x1 y1)))]⟩, ⟨B7, 29, [iV (((getK Lc (⟨hi, hg⟩ : H2)).getD (⟨0, 0, 0⟩ : C3)).d), iV (((getK Lc (⟨hi, hg⟩ : H2)).getD (⟨0, 0, 0⟩ : C3)).x), iV (((getK Lc (⟨hi, hg⟩ : H2)).getD (⟨0, 0, 0⟩ : C3)).y)]⟩]) (M2 := []) hM
    replace hO : OwnOk base [⟨T, 72, [.map (some nB), .map (some cB)]⟩, ⟨B1, 39, [iV hi, iV hg]⟩, ⟨B1 + 1, 32, [iV x0, iV y0, iV x1, iV y1]⟩, ⟨B3, 29, [iV (depthOf (bsize x0 y0 x1 y1)), iV (colOf ((x0 + x1) / 2) (depthOf (bsize x0 y0 x1 y1))), iV (colOf ((y0 + y1) / 2) (depthOf (bsize x0 y0 x1 y1)))]⟩, ⟨B7, 29, [iV (((getK Lc (⟨hi, hg⟩ : H2)).getD (⟨0, 0, 0⟩ : C3)).d), iV (((getK Lc (⟨hi, hg⟩ : H2)).getD (⟨0, 0, 0⟩ : C3)).x), iV (((getK Lc (⟨hi, hg⟩ : H2)).getD (⟨0, 0, 0⟩ : C3)).y)]⟩] [oM cB vH vC Lc, oNM 68 nB N] w7 := OwnOk.front (l1 := [oNM 68 nB N]) (l2 := []) hO
    exact hK6 _ _ ⟨B7, hf.conv (Ac rfl (Ac rfl (Ac rfl (Ac rfl (Ac rfl (Ao rfl)))))), hM, hk0, hO, hbB7⟩
 clear hf hM hk0 hO
 intro a w8 hK6j; obtain ⟨q9_1, hf, hM, hk0, hO, hbq9_1⟩ := oK6 _ _ hK6j; clear hK6j oK6
 refine wp_seq_k (fun K7 hK7 => ?_)
 refine wp_region_lit ?_
 refine q0 hf hM [0, 4, 5, 7, 9] [{}, {}, {}] (nw := [(30, eB (!(hasK Lc (⟨hi, hg⟩ : H2))))]) An ?_
 clear hf; intro a hf
 have hf := hf.setb 30 ((congrArg Bool.not hno).trans rfl : (!(hasK Lc (⟨hi, hg⟩ : H2)) : Bool) = true)
 refine q0 hf hM [0, 4, 5, 7] [{ g := .off }, { g := .off }, { g := .off }, {}] (nw := [(34, eB true)]) (ob := [true = !false, true = !false, true = !false]) (Ac rfl (Ac rfl (Ao rfl))) ?_
 clear hf; intro a hf
 refine wpList_nil ?_
 refine hK7 _ _ ?_
 refine sxcond hf (b := true) (by kernel_rfl) (fun _ => ?_) (fun h => by cases h)
 refine wp_seq_k (fun K8 hK8 => ?_)
 refine wp_region_lit ?_
 refine q0 hf hM [0, 4, 5, 7] [{}, { os := [.ld 1 0, .ld 1 1] }] (nw := [(36, .val (.agg #[iV hi, iV hg])), (35, eP T 0)]) (ob := [Ad B1 0, Ad B1 1]) (Ac (ad _ _) (Ao (ad _ _))) ?_
 clear hf; intro a hf
 refine sxcall hf rfl rfl rfl rfl (g := 34) (vs := [pV T 0, .agg #[iV hi, iV hg]]) (ob := []) (by as_aux_lemma => kernel_rfl) An enters34 (tdrop_no E T cB Lc hi hg w8 ((cell?_blk (hM.at_ _ (List.Mem.head _)) 1).trans rfl) (hO.own _ (List.Mem.head _)).2 hno (hGF _ hk0)) ?_
 clear hf; rintro _ w9 a ⟨rfl, hk⟩ hf
 have hO := hO.keepNn hk; have hM := hM.keepNn hk; have hk0 := hk0.trans hk.nn
 clear hk
 refine wpList_nil ?_
 refine hK8 _ _ ?_
 refine wp_region_lit ?_
 refine q0 hf hM [0, 4, 5, 7] [{}, { os := [.ld 3 0, .ld 3 1, .ld 3 2] }] (nw := [(39, .val (.agg #[iV (depthOf (bsize x0 y0 x1 y1)), iV (colOf ((x0 + x1) / 2) (depthOf (bsize x0 y0 x1 y1))), iV (colOf ((y0 + y1) / 2) (depthOf (bsize x0 y0 x1 y1)))])), (38, eP T 0)]) (ob := [Ad B3 0, Ad B3 1, Ad B3 2]) (Ac (ad _ _) (Ac (ad _ _) (Ao (ad _ _)))) ?_
 clear hf; intro a hf
 replace hO : OwnOk base [⟨T, 72, [.map (some nB), .map (some cB)]⟩, ⟨B1, 39, [iV hi, iV hg]⟩, ⟨B1 + 1, 32, [iV x0, iV y0, iV x1, iV y1]⟩, ⟨B3, 29, [iV (depthOf (bsize x0 y0 x1 y1)), iV (colOf ((x0 + x1) / 2) (depthOf (bsize x0 y0 x1 y1))), iV (colOf ((y0 + y1) / 2) (depthOf (bsize x0 y0 x1 y1)))]⟩, ⟨q9_1, 29, [iV (((getK Lc (⟨hi, hg⟩ : H2)).getD (⟨0, 0, 0⟩ : C3)).d), iV (((getK Lc (⟨hi, hg⟩ : H2)).getD (⟨0, 0, 0⟩ : C3)).x), iV (((getK Lc (⟨hi, hg⟩ : H2)).getD (⟨0, 0, 0⟩ : C3)).y)]⟩] [oNM 68 nB N, oM cB vH vC Lc] w9 := OwnOk.front (l1 := [oM cB vH vC Lc]) (l2 := []) hO
 refine sxcall hf rfl rfl rfl rfl (g := 35) (vs := [pV T 0, .agg #[iV (depthOf (bsize x0 y0 x1 y1)), iV (colOf ((x0 + x1) / 2) (depthOf (bsize x0 y0 x1 y1))), iV (colOf ((y0 + y1) / 2) (depthOf (bsize x0 y0 x1 y1)))], iV 1]) (ob := []) (by as_aux_lemma => kernel_rfl) An enters35 (tcount base T nB N (bs.map fun x => cellB x.2) _ _ _ w9 (hO.own _ (List.Mem.head _)) hO.ndH (by have := hk0.size; omega) ((cell?_blk (hM.at_ _ (List.Mem.head _)) 0).trans rfl) (fun h => hO.apartB (List.Mem.head _) h (by simp [Mem.names])) hoc hti.nf (by simpa using hbn)) ?_
 clear hf; rintro _ w10 a ⟨rfl, N1, hx, hnf1, hbs1, hB1, hd1, hk⟩ hf
 have hO2 := hO.turnB hM hk hx (fun i hi => hB1 i hi) hd1; have hM := hO.memTurnB hM hk; clear hO; have hO := hO2; clear hO2
 have hB1 : ∀ i ∈ (oNM 68 nB N1).B, i ∈ (oNM 68 nB N).B ∨ w.heap.size ≤ i := fun i hi => (hB1 i hi).imp id (fun h => by have := hk0.size; omega)
 have hk0 := hk0.then hk (by intro i hi h; rw [hBl]; rcases List.mem_cons.1 h with h | h <;> simp [h])
 clear hk hx
 replace hO : OwnOk base [⟨T, 72, [.map (some nB), .map (some cB)]⟩, ⟨B1, 39, [iV hi, iV hg]⟩, ⟨B1 + 1, 32, [iV x0, iV y0, iV x1, iV y1]⟩, ⟨B3, 29, [iV (depthOf (bsize x0 y0 x1 y1)), iV (colOf ((x0 + x1) / 2) (depthOf (bsize x0 y0 x1 y1))), iV (colOf ((y0 + y1) / 2) (depthOf (bsize x0 y0 x1 y1)))]⟩, ⟨q9_1, 29, [iV (((getK Lc (⟨hi, hg⟩ : H2)).getD (⟨0, 0, 0⟩ : C3)).d), iV (((getK Lc (⟨hi, hg⟩ : H2)).getD (⟨0, 0, 0⟩ : C3)).x), iV (((getK Lc (⟨hi, hg⟩ : H2)).getD (⟨0, 0, 0⟩ : C3)).y)]⟩] [oNM 68 nB N1, oM cB vH vC Lc] w10 := hO
 obtain ⟨Na, nd, Nb, rfl, hnc, hgp⟩ := node_at hnf1
 have hO := hO.openNM
 replace hO : OwnOk base [⟨T, 72, [.map (some nB), .map (some cB)]⟩, ⟨B1, 39, [iV hi, iV hg]⟩, ⟨B1 + 1, 32, [iV x0, iV y0, iV x1, iV y1]⟩, ⟨B3, 29, [iV (depthOf (bsize x0 y0 x1 y1)), iV (colOf ((x0 + x1) / 2) (depthOf (bsize x0 y0 x1 y1))), iV (colOf ((y0 + y1) / 2) (depthOf (bsize x0 y0 x1 y1)))]⟩, ⟨q9_1, 29, [iV (((getK Lc (⟨hi, hg⟩ : H2)).getD (⟨0, 0, 0⟩ : C3)).d), iV (((getK Lc (⟨hi, hg⟩ : H2)).getD (⟨0, 0, 0⟩ : C3)).x), iV (((getK Lc (⟨hi, hg⟩ : H2)).getD (⟨0, 0, 0⟩ : C3)).y)]⟩] [oM nB vC vP (ndL (Na ++ nd :: Nb)), oN 68 (Na ++ nd :: Nb), oM cB vH vC Lc] w10 := hO
 replace hO : OwnOk base [⟨T, 72, [.map (some nB), .map (some cB)]⟩, ⟨B1, 39, [iV hi, iV hg]⟩, ⟨B1 + 1, 32, [iV x0, iV y0, iV x1, iV y1]⟩, ⟨B3, 29, [iV (depthOf (bsize x0 y0 x1 y1)), iV (colOf ((x0 + x1) / 2) (depthOf (bsize x0 y0 x1 y1))), iV (colOf ((y0 + y1) / 2) (depthOf (bsize x0 y0 x1 y1)))]⟩, ⟨q9_1, 29, [iV (((getK Lc (⟨hi, hg⟩ : H2)).getD (⟨0, 0, 0⟩ : C3)).d), iV (((getK Lc (⟨hi, hg⟩ : H2)).getD (⟨0, 0, 0⟩ : C3)).x), iV (((getK Lc (⟨hi, hg⟩ : H2)).getD (⟨0, 0, 0⟩ : C3)).y)]⟩] [oN 68 (Na ++ nd :: Nb), oM nB vC vP (ndL (Na ++ nd :: Nb)), oM cB vH vC Lc] w10 := OwnOk.front (l1 := [oM nB vC vP (ndL (Na ++ nd :: Nb))]) (l2 := [oM cB vH vC Lc]) hO
 have hbp := ((hO.own _ (List.Mem.head _)) nd (by simp)).1
 have hpF := hB1 nd.p (by simp [oNM, ndB])
 have hmF := hB1 nd.m (by simp [oNM, ndB])
 obtain ⟨hM, hO⟩ := OwnOk.openN hO hM
 replace hM : MemOk [⟨T, 72, [.map (some nB), .map (some cB)]⟩, ⟨B1, 39, [iV hi, iV hg]⟩, ⟨B1 + 1, 32, [iV x0, iV y0, iV x1, iV y1]⟩, ⟨B3, 29, [iV (depthOf (bsize x0 y0 x1 y1)), iV (colOf ((x0 + x1) / 2) (depthOf (bsize x0 y0 x1 y1))), iV (colOf ((y0 + y1) / 2) (depthOf (bsize x0 y0 x1 y1)))]⟩, ⟨q9_1, 29, [iV (((getK Lc (⟨hi, hg⟩ : H2)).getD (⟨0, 0, 0⟩ : C3)).d), iV (((getK Lc (⟨hi, hg⟩ : H2)).getD (⟨0, 0, 0⟩ : C3)).x), iV (((getK Lc (⟨hi, hg⟩ : H2)).getD (⟨0, 0, 0⟩ : C3)).y)]⟩, ⟨nd.p, 68, [.map (some nd.m), iV nd.n]⟩] w10 := hM
 replace hO : OwnOk base [⟨T, 72, [.map (some nB), .map (some cB)]⟩, ⟨B1, 39, [iV hi, iV hg]⟩, ⟨B1 + 1, 32, [iV x0, iV y0, iV x1, iV y1]⟩, ⟨B3, 29, [iV (depthOf (bsize x0 y0 x1 y1)), iV (colOf ((x0 + x1) / 2) (depthOf (bsize x0 y0 x1 y1))), iV (colOf ((y0 + y1) / 2) (depthOf (bsize x0 y0 x1 y1)))]⟩, ⟨q9_1, 29, [iV (((getK Lc (⟨hi, hg⟩ : H2)).getD (⟨0, 0, 0⟩ : C3)).d), iV (((getK Lc (⟨hi, hg⟩ : H2)).getD (⟨0, 0, 0⟩ : C3)).x), iV (((getK Lc (⟨hi, hg⟩ : H2)).getD (⟨0, 0, 0⟩ : C3)).y)]⟩, ⟨nd.p, 68, [.map (some nd.m), iV nd.n]⟩] [oM nd.m vH vB nd.bs, oN 68 (Na ++ Nb), oM nB vC vP (ndL (Na ++ nd :: Nb)), oM cB vH vC Lc] w10 := hO
 refine wpList_nil ?_
 refine hK5 _ _ ?_
 refine wp_seq_k (fun K9 hK9 => ?_)
 replace hM := hM.drew; replace hk0 := hk0.drew; replace hO := hO.drew
 obtain ⟨Cq2, hCq2i, hCq2e⟩ := qcls fun w' => MemOk [⟨T, 72, [.map (some nB), .map (some cB)]⟩, ⟨B1, 39, [iV hi, iV hg]⟩, ⟨B1 + 1, 32, [iV x0, iV y0, iV x1, iV y1]⟩, ⟨B3, 29, [iV (depthOf (bsize x0 y0 x1 y1)), iV (colOf ((x0 + x1) / 2) (depthOf (bsize x0 y0 x1 y1))), iV (colOf ((y0 + y1) / 2) (depthOf (bsize x0 y0 x1 y1)))]⟩, ⟨q9_1, 29, [iV (((getK Lc (⟨hi, hg⟩ : H2)).getD (⟨0, 0, 0⟩ : C3)).d), iV (((getK Lc (⟨hi, hg⟩ : H2)).getD (⟨0, 0, 0⟩ : C3)).x), iV (((getK Lc (⟨hi, hg⟩ : H2)).getD (⟨0, 0, 0⟩ : C3)).y)]⟩, ⟨nd.p, 68, [.map (some nd.m), iV nd.n]⟩] w' ∧ Keep (fun i => i ∈ Bl) w w' ∧ OwnOk base [⟨T, 72, [.map (some nB), .map (some cB)]⟩, ⟨B1, 39, [iV hi, iV hg]⟩, ⟨B1 + 1, 32, [iV x0, iV y0, iV x1, iV y1]⟩, ⟨B3, 29, [iV (depthOf (bsize x0 y0 x1 y1)), iV (colOf ((x0 + x1) / 2) (depthOf (bsize x0 y0 x1 y1))), iV (colOf ((y0 + y1) / 2) (depthOf (bsize x0 y0 x1 y1)))]⟩, ⟨q9_1, 29, [iV (((getK Lc (⟨hi, hg⟩ : H2)).getD (⟨0, 0, 0⟩ : C3)).d), iV (((getK Lc (⟨hi, hg⟩ : H2)).getD (⟨0, 0, 0⟩ : C3)).x), iV (((getK Lc (⟨hi, hg⟩ : H2)).getD (⟨0, 0, 0⟩ : C3)).y)]⟩, ⟨nd.p, 68, [.map (some nd.m), iV nd.n]⟩] [oN 68 (Na ++ Nb)] w'
 refine sxdraw (C := Cq2) (.leaf [(0, true), (1, true), (2, true), (3, true), (4, true), (5, true), (6, false)]) (by kernel_rfl) (by kernel_rfl) (by as_aux_lemma => kernel_rfl) rfl (by as_aux_lemma => kernel_rfl) (by kernel_rfl) (hCq2i _ ⟨hM.sub (.cons_cons _ (.cons_cons _ (.cons_cons _ (.cons_cons _ (.cons_cons _ (.cons_cons _ .slnil)))))), hk0, hO.sub (.cons_cons _ (.cons_cons _ (.cons_cons _ (.cons_cons _ (.cons_cons _ (.cons_cons _ .slnil)))))) (.cons _ (.cons_cons _ (.cons _ (.cons _ .slnil))))⟩) ?_
 refine sxleaf ?_
 have hC := (hCq2i _ ⟨hM.sub (.cons_cons _ (.cons_cons _ (.cons_cons _ (.cons_cons _ (.cons_cons _ (.cons_cons _ .slnil)))))), hk0, hO.sub (.cons_cons _ (.cons_cons _ (.cons_cons _ (.cons_cons _ (.cons_cons _ (.cons_cons _ .slnil)))))) (.cons _ (.cons_cons _ (.cons _ (.cons _ .slnil))))⟩)
 refine qd hf hC (fun w' h => (hCq2e w' h).1) [0, 4, 5, 7] [{}, {}, {}, { os := [.ld 0 1] }, { os := [.ld 1 0, .ld 1 1] }, { os := [.ld 3 0, .ld 3 1, .ld 3 2] }] (nw := [(46, .val (.agg #[iV (depthOf (bsize x0 y0 x1 y1)), iV (colOf ((x0 + x1) / 2) (depthOf (bsize x0 y0 x1 y1))), iV (colOf ((y0 + y1) / 2) (depthOf (bsize x0 y0 x1 y1)))])), (45, .val (.agg #[iV hi, iV hg])), (44, .val (.map (some cB)))]) (ob := [Ad T 1, Ad B1 0, Ad B1 1, Ad B3 0, Ad B3 1, Ad B3 2]) (Ac (ad _ _) (Ac (ad _ _) (Ac (ad _ _) (Ac (ad _ _) (Ac (ad _ _) (Ao (ad _ _))))))) ?_
 clear hf; intro a hf
 refine scstep rfl ?_
 replace hO : OwnOk base [⟨T, 72, [.map (some nB), .map (some cB)]⟩, ⟨B1, 39, [iV hi, iV hg]⟩, ⟨B1 + 1, 32, [iV x0, iV y0, iV x1, iV y1]⟩, ⟨B3, 29, [iV (depthOf (bsize x0 y0 x1 y1)), iV (colOf ((x0 + x1) / 2) (depthOf (bsize x0 y0 x1 y1))), iV (colOf ((y0 + y1) / 2) (depthOf (bsize x0 y0 x1 y1)))]⟩, ⟨q9_1, 29, [iV (((getK Lc (⟨hi, hg⟩ : H2)).getD (⟨0, 0, 0⟩ : C3)).d), iV (((getK Lc (⟨hi, hg⟩ : H2)).getD (⟨0, 0, 0⟩ : C3)).x), iV (((getK Lc (⟨hi, hg⟩ : H2)).getD (⟨0, 0, 0⟩ : C3)).y)]⟩, ⟨nd.p, 68, [.map (some nd.m), iV nd.n]⟩] [oM cB vH vC Lc, oM nd.m vH vB nd.bs, oN 68 (Na ++ Nb), oM nB vC vP (ndL (Na ++ nd :: Nb))] w10.drew := OwnOk.front (l1 := [oM nd.m vH vB nd.bs, oN 68 (Na ++ Nb), oM nB vC vP (ndL (Na ++ nd :: Nb))]) (l2 := []) hO
 refine sxmapset hf hM hO keyH rfl rfl rfl rfl (⟨hi, hg⟩ : H2) rfl (⟨depthOf (bsize x0 y0 x1 y1), colOf ((x0 + x1) / 2) (depthOf (bsize x0 y0 x1 y1)), colOf ((y0 + y1) / 2) (depthOf (bsize x0 y0 x1 y1))⟩ : C3) rfl Tryd.underlying70 ?_; clear hf hM; intro a w11 hf hM hO2 hk
 have hk0 := hk0.then hk (by intro i hi h; first | (subst h; first | exact hcB | exact (hmF.imp (fun h => by rw [hBl]; rcases List.mem_cons.1 h with h | h <;> simp [h]) id).resolve_right (by omega)))
 clear hO; have hO := hO2; clear hO2
 clear hk
 replace hO : OwnOk base [⟨T, 72, [.map (some nB), .map (some cB)]⟩, ⟨B1, 39, [iV hi, iV hg]⟩, ⟨B1 + 1, 32, [iV x0, iV y0, iV x1, iV y1]⟩, ⟨B3, 29, [iV (depthOf (bsize x0 y0 x1 y1)), iV (colOf ((x0 + x1) / 2) (depthOf (bsize x0 y0 x1 y1))), iV (colOf ((y0 + y1) / 2) (depthOf (bsize x0 y0 x1 y1)))]⟩, ⟨q9_1, 29, [iV (((getK Lc (⟨hi, hg⟩ : H2)).getD (⟨0, 0, 0⟩ : C3)).d), iV (((getK Lc (⟨hi, hg⟩ : H2)).getD (⟨0, 0, 0⟩ : C3)).x), iV (((getK Lc (⟨hi, hg⟩ : H2)).getD (⟨0, 0, 0⟩ : C3)).y)]⟩, ⟨nd.p, 68, [.map (some nd.m), iV nd.n]⟩] [oM cB vH vC (putK Lc (⟨hi, hg⟩ : H2) (⟨depthOf (bsize x0 y0 x1 y1), colOf ((x0 + x1) / 2) (depthOf (bsize x0 y0 x1 y1)), colOf ((y0 + y1) / 2) (depthOf (bsize x0 y0 x1 y1))⟩ : C3)), oM nd.m vH vB nd.bs, oN 68 (Na ++ Nb), oM nB vC vP (ndL (Na ++ nd :: Nb))] w11 := hO
 have hC := (hCq2i _ ⟨hM.sub (.cons_cons _ (.cons_cons _ (.cons_cons _ (.cons_cons _ (.cons_cons _ (.cons_cons _ .slnil)))))), hk0, hO.sub (.cons_cons _ (.cons_cons _ (.cons_cons _ (.cons_cons _ (.cons_cons _ (.cons_cons _ .slnil)))))) (.cons _ (.cons _ (.cons_cons _ (.cons _ .slnil))))⟩)
 refine scdone hC ?_
 clear hC
 show K9 _ _
 refine hK9 _ _ ?_
 refine wp_seq_k (fun K10 hK10 => ?_)
 replace hM := hM.drew; replace hk0 := hk0.drew; replace hO := hO.drew
 obtain ⟨Cq3, hCq3i, hCq3e⟩ := qcls fun w' => MemOk [⟨T, 72, [.map (some nB), .map (some cB)]⟩, ⟨B1, 39, [iV hi, iV hg]⟩, ⟨B1 + 1, 32, [iV x0, iV y0, iV x1, iV y1]⟩, ⟨B3, 29, [iV (depthOf (bsize x0 y0 x1 y1)), iV (colOf ((x0 + x1) / 2) (depthOf (bsize x0 y0 x1 y1))), iV (colOf ((y0 + y1) / 2) (depthOf (bsize x0 y0 x1 y1)))]⟩, ⟨q9_1, 29, [iV (((getK Lc (⟨hi, hg⟩ : H2)).getD (⟨0, 0, 0⟩ : C3)).d), iV (((getK Lc (⟨hi, hg⟩ : H2)).getD (⟨0, 0, 0⟩ : C3)).x), iV (((getK Lc (⟨hi, hg⟩ : H2)).getD (⟨0, 0, 0⟩ : C3)).y)]⟩, ⟨nd.p, 68, [.map (some nd.m), iV nd.n]⟩] w' ∧ Keep (fun i => i ∈ Bl) w w' ∧ OwnOk base [⟨T, 72, [.map (some nB), .map (some cB)]⟩, ⟨B1, 39, [iV hi, iV hg]⟩, ⟨B1 + 1, 32, [iV x0, iV y0, iV x1, iV y1]⟩, ⟨B3, 29, [iV (depthOf (bsize x0 y0 x1 y1)), iV (colOf ((x0 + x1) / 2) (depthOf (bsize x0 y0 x1 y1))), iV (colOf ((y0 + y1) / 2) (depthOf (bsize x0 y0 x1 y1)))]⟩, ⟨q9_1, 29, [iV (((getK Lc (⟨hi, hg⟩ : H2)).getD (⟨0, 0, 0⟩ : C3)).d), iV (((getK Lc (⟨hi, hg⟩ : H2)).getD (⟨0, 0, 0⟩ : C3)).x), iV (((getK Lc (⟨hi, hg⟩ : H2)).getD (⟨0, 0, 0⟩ : C3)).y)]⟩, ⟨nd.p, 68, [.map (some nd.m), iV nd.n]⟩] [oN 68 (Na ++ Nb)] w'
 refine sxdraw (C := Cq3) (.leaf [(0, true), (1, true), (2, true), (3, true), (4, true), (9, true), (10, true), (5, false), (6, true), (7, true), (8, false), (11, false)]) (by kernel_rfl) (by kernel_rfl) (by as_aux_lemma => kernel_rfl) rfl (by as_aux_lemma => kernel_rfl) (by kernel_rfl) (hCq3i _ ⟨hM.sub (.cons_cons _ (.cons_cons _ (.cons_cons _ (.cons_cons _ (.cons_cons _ (.cons_cons _ .slnil)))))), hk0, hO.sub (.cons_cons _ (.cons_cons _ (.cons_cons _ (.cons_cons _ (.cons_cons _ (.cons_cons _ .slnil)))))) (.cons _ (.cons _ (.cons_cons _ (.cons _ .slnil))))⟩) ?_
 refine sxleaf ?_
 have hC := (hCq3i _ ⟨hM.sub (.cons_cons _ (.cons_cons _ (.cons_cons _ (.cons_cons _ (.cons_cons _ (.cons_cons _ .slnil)))))), hk0, hO.sub (.cons_cons _ (.cons_cons _ (.cons_cons _ (.cons_cons _ (.cons_cons _ (.cons_cons _ .slnil)))))) (.cons _ (.cons _ (.cons_cons _ (.cons _ .slnil))))⟩)
 refine qd hf hC (fun w' h => (hCq3e w' h).1) [] [{}, {}, {}, { os := [.ld 0 0] }, { os := [.ld 3 0, .ld 3 1, .ld 3 2] }, { os := [.ld 1 0, .ld 1 1] }, { os := [.ld 2 0, .ld 2 1, .ld 2 2, .ld 2 3] }] (nw := [(57, .val (.agg #[iV x0, iV y0, iV x1, iV y1])), (56, .val (.agg #[iV hi, iV hg])), (51, .val (.agg #[iV (depthOf (bsize x0 y0 x1 y1)), iV (colOf ((x0 + x1) / 2) (depthOf (bsize x0 y0 x1 y1))), iV (colOf ((y0 + y1) / 2) (depthOf (bsize x0 y0 x1 y1)))])), (50, .val (.map (some nB)))]) (ob := [Ad T 0, Ad B3 0, Ad B3 1, Ad B3 2, Ad B1 0, Ad B1 1, Ad (B1 + 1) 0, Ad (B1 + 1) 1, Ad (B1 + 1) 2, Ad (B1 + 1) 3]) (Ac (ad _ _) (Ac (ad _ _) (Ac (ad _ _) (Ac (ad _ _) (Ac (ad _ _) (Ac (ad _ _) (Ac (ad _ _) (Ac (ad _ _) (Ac (ad _ _) (Ao (ad _ _))))))))))) ?_
 clear hf; intro a hf
 refine scstep rfl ?_
 refine sxlookup hf (hO.own _ (List.Mem.tail _ (List.Mem.tail _ (List.Mem.tail _ (List.Mem.head _))))).2 keyC rfl rfl rfl rfl rfl (⟨depthOf (bsize x0 y0 x1 y1), colOf ((x0 + x1) / 2) (depthOf (bsize x0 y0 x1 y1)), colOf ((y0 + y1) / 2) (depthOf (bsize x0 y0 x1 y1))⟩ : C3) rfl Tryd.underlying69 (none : Option Nat) (by kernel_rfl) (V := pV nd.p 0) (congrArg vP hgp) ?_; clear hf; intro a hf
 have hC := (hCq3i _ ⟨hM.sub (.cons_cons _ (.cons_cons _ (.cons_cons _ (.cons_cons _ (.cons_cons _ (.cons_cons _ .slnil)))))), hk0, hO.sub (.cons_cons _ (.cons_cons _ (.cons_cons _ (.cons_cons _ (.cons_cons _ (.cons_cons _ .slnil)))))) (.cons _ (.cons _ (.cons_cons _ (.cons _ .slnil))))⟩)
 refine scdone hC ?_
 refine qd hf hC (fun w' h => (hCq3e w' h).1) [57, 56] [{}, {}] (nw := [(54, eP nd.p 0)]) An ?_
 clear hf; intro a hf
 refine scstep rfl ?_
 refine q0 hf hM [57, 56] [{ os := [.ld 5 0] }] (nw := [(55, .val (.map (some nd.m)))]) (ob := [Ad nd.p 0]) (Ao (ad _ _)) ?_
 clear hf; intro a hf
 have hC := (hCq3i _ ⟨hM.sub (.cons_cons _ (.cons_cons _ (.cons_cons _ (.cons_cons _ (.cons_cons _ (.cons_cons _ .slnil)))))), hk0, hO.sub (.cons_cons _ (.cons_cons _ (.cons_cons _ (.cons_cons _ (.cons_cons _ (.cons_cons _ .slnil)))))) (.cons _ (.cons _ (.cons_cons _ (.cons _ .slnil))))⟩)
 refine scdone hC ?_
 refine scstep rfl ?_
 replace hO : OwnOk base [⟨T, 72, [.map (some nB), .map (some cB)]⟩, ⟨B1, 39, [iV hi, iV hg]⟩, ⟨B1 + 1, 32, [iV x0, iV y0, iV x1, iV y1]⟩, ⟨B3, 29, [iV (depthOf (bsize x0 y0 x1 y1)), iV (colOf ((x0 + x1) / 2) (depthOf (bsize x0 y0 x1 y1))), iV (colOf ((y0 + y1) / 2) (depthOf (bsize x0 y0 x1 y1)))]⟩, ⟨q9_1, 29, [iV (((getK Lc (⟨hi, hg⟩ : H2)).getD (⟨0, 0, 0⟩ : C3)).d), iV (((getK Lc (⟨hi, hg⟩ : H2)).getD (⟨0, 0, 0⟩ : C3)).x), iV (((getK Lc (⟨hi, hg⟩ : H2)).getD (⟨0, 0, 0⟩ : C3)).y)]⟩, ⟨nd.p, 68, [.map (some nd.m), iV nd.n]⟩] [oM nd.m vH vB nd.bs, oM cB vH vC (putK Lc (⟨hi, hg⟩ : H2) (⟨depthOf (bsize x0 y0 x1 y1), colOf ((x0 + x1) / 2) (depthOf (bsize x0 y0 x1 y1)), colOf ((y0 + y1) / 2) (depthOf (bsize x0 y0 x1 y1))⟩ : C3)), oN 68 (Na ++ Nb), oM nB vC vP (ndL (Na ++ nd :: Nb))] w11.drew := OwnOk.front (l1 := [oM cB vH vC (putK Lc (⟨hi, hg⟩ : H2) (⟨depthOf (bsize x0 y0 x1 y1), colOf ((x0 + x1) / 2) (depthOf (bsize x0 y0 x1 y1)), colOf ((y0 + y1) / 2) (depthOf (bsize x0 y0 x1 y1))⟩ : C3))]) (l2 := [oN 68 (Na ++ Nb), oM nB vC vP (ndL (Na ++ nd :: Nb))]) hO
 refine sxmapset hf hM hO keyH rfl rfl rfl rfl (⟨hi, hg⟩ : H2) rfl (⟨x0, y0, x1, y1⟩ : B4) rfl Tryd.underlying66 ?_; clear hf hM; intro a w12 hf hM hO2 hk
 have hk0 := hk0.then hk (by intro i hi h; first | (subst h; first | exact hcB | exact (hmF.imp (fun h => by rw [hBl]; rcases List.mem_cons.1 h with h | h <;> simp [h]) id).resolve_right (by omega)))
 clear hO; have hO := hO2; clear hO2
 clear hk
 replace hO : OwnOk base [⟨T, 72, [.map (some nB), .map (some cB)]⟩, ⟨B1, 39, [iV hi, iV hg]⟩, ⟨B1 + 1, 32, [iV x0, iV y0, iV x1, iV y1]⟩, ⟨B3, 29, [iV (depthOf (bsize x0 y0 x1 y1)), iV (colOf ((x0 + x1) / 2) (depthOf (bsize x0 y0 x1 y1))), iV (colOf ((y0 + y1) / 2) (depthOf (bsize x0 y0 x1 y1)))]⟩, ⟨q9_1, 29, [iV (((getK Lc (⟨hi, hg⟩ : H2)).getD (⟨0, 0, 0⟩ : C3)).d), iV (((getK Lc (⟨hi, hg⟩ : H2)).getD (⟨0, 0, 0⟩ : C3)).x), iV (((getK Lc (⟨hi, hg⟩ : H2)).getD (⟨0, 0, 0⟩ : C3)).y)]⟩, ⟨nd.p, 68, [.map (some nd.m), iV nd.n]⟩] [oM nd.m vH vB (putK nd.bs (⟨hi, hg⟩ : H2) (⟨x0, y0, x1, y1⟩ : B4)), oM cB vH vC (putK Lc (⟨hi, hg⟩ : H2) (⟨depthOf (bsize x0 y0 x1 y1), colOf ((x0 + x1) / 2) (depthOf (bsize x0 y0 x1 y1)), colOf ((y0 + y1) / 2) (depthOf (bsize x0 y0 x1 y1))⟩ : C3)), oN 68 (Na ++ Nb), oM nB vC vP (ndL (Na ++ nd :: Nb))] w12 := hO
 have hC := (hCq3i _ ⟨hM.sub (.cons_cons _ (.cons_cons _ (.cons_cons _ (.cons_cons _ (.cons_cons _ (.cons_cons _ .slnil)))))), hk0, hO.sub (.cons_cons _ (.cons_cons _ (.cons_cons _ (.cons_cons _ (.cons_cons _ (.cons_cons _ .slnil)))))) (.cons _ (.cons _ (.cons_cons _ (.cons _ .slnil))))⟩)
 refine scdone hC ?_
 clear hC
 show K10 _ _
 refine hK10 _ _ ?_
 refine wp_seq_k (fun K11 hK11 => ?_)
 refine wp_region_lit ?_
 refine q0 hf hM [] [{}] (nw := [(6, .val (.nilIface))]) An ?_
 clear hf; intro a hf
 refine wpList_nil ?_
 refine hK11 _ _ ?_
 refine wp_ret ?_
 refine qr (fn := Tryd.f14) hf hM [] (l := [.nilIface]) (ob := []) An ?_
 show ∃ Bl', (.nilIface : Value) = .nilIface ∧ (oTree 72 68 T Bl' (bs ++ [((⟨hi, hg⟩ : H2), (⟨x0, y0, x1, y1⟩ : B4))])).φ base w12 ∧ (∀ i ∈ Bl', i ∈ Bl ∨ w.heap.size ≤ i) ∧ Bl'.Nodup ∧ Keep (fun i => i ∈ Bl) w w12
 replace hO : OwnOk base [⟨T, 72, [.map (some nB), .map (some cB)]⟩, ⟨nd.p, 68, [.map (some nd.m), iV nd.n]⟩] [oM nd.m vH vB (putK nd.bs (⟨hi, hg⟩ : H2) (⟨x0, y0, x1, y1⟩ : B4)), oM cB vH vC (putK Lc (⟨hi, hg⟩ : H2) (⟨depthOf (bsize x0 y0 x1 y1), colOf ((x0 + x1) / 2) (depthOf (bsize x0 y0 x1 y1)), colOf ((y0 + y1) / 2) (depthOf (bsize x0 y0 x1 y1))⟩ : C3)), oN 68 (Na ++ Nb), oM nB vC vP (ndL (Na ++ nd :: Nb))] w12 := hO.sub (.cons_cons _ (.cons _ (.cons _ (.cons _ (.cons _ (.cons_cons _ .slnil)))))) (List.Sublist.refl _)
 replace hM : MemOk [⟨T, 72, [.map (some nB), .map (some cB)]⟩, ⟨nd.p, 68, [.map (some nd.m), iV nd.n]⟩] w12 := hM.sub (.cons_cons _ (.cons _ (.cons _ (.cons _ (.cons _ (.cons_cons _ .slnil))))))
 replace hO : OwnOk base [⟨T, 72, [.map (some nB), .map (some cB)]⟩, ⟨nd.p, 68, [.map (some nd.m), iV nd.n]⟩] [oN 68 (Na ++ Nb), oM nd.m vH vB (putK nd.bs (⟨hi, hg⟩ : H2) (⟨x0, y0, x1, y1⟩ : B4)), oM cB vH vC (putK Lc (⟨hi, hg⟩ : H2) (⟨depthOf (bsize x0 y0 x1 y1), colOf ((x0 + x1) / 2) (depthOf (bsize x0 y0 x1 y1)), colOf ((y0 + y1) / 2) (depthOf (bsize x0 y0 x1 y1))⟩ : C3)), oM nB vC vP (ndL (Na ++ nd :: Nb))] w12 := OwnOk.front (l1 := [oM nd.m vH vB (putK nd.bs (⟨hi, hg⟩ : H2) (⟨x0, y0, x1, y1⟩ : B4)), oM cB vH vC (putK Lc (⟨hi, hg⟩ : H2) (⟨depthOf (bsize x0 y0 x1 y1), colOf ((x0 + x1) / 2) (depthOf (bsize x0 y0 x1 y1)), colOf ((y0 + y1) / 2) (depthOf (bsize x0 y0 x1 y1))⟩ : C3))]) (l2 := [oM nB vC vP (ndL (Na ++ nd :: Nb))]) hO
 replace hO : OwnOk base [⟨T, 72, [.map (some nB), .map (some cB)]⟩, ⟨nd.p, 68, [.map (some nd.m), iV nd.n]⟩] [oM nd.m vH vB (putK nd.bs (⟨hi, hg⟩ : H2) (⟨x0, y0, x1, y1⟩ : B4)), oN 68 (Na ++ Nb), oM cB vH vC (putK Lc (⟨hi, hg⟩ : H2) (⟨depthOf (bsize x0 y0 x1 y1), colOf ((x0 + x1) / 2) (depthOf (bsize x0 y0 x1 y1)), colOf ((y0 + y1) / 2) (depthOf (bsize x0 y0 x1 y1))⟩ : C3)), oM nB vC vP (ndL (Na ++ nd :: Nb))] w12 := OwnOk.front (l1 := [oN 68 (Na ++ Nb)]) (l2 := [oM cB vH vC (putK Lc (⟨hi, hg⟩ : H2) (⟨depthOf (bsize x0 y0 x1 y1), colOf ((x0 + x1) / 2) (depthOf (bsize x0 y0 x1 y1)), colOf ((y0 + y1) / 2) (depthOf (bsize x0 y0 x1 y1))⟩ : C3)), oM nB vC vP (ndL (Na ++ nd :: Nb))]) hO
 obtain ⟨hM, hO⟩ := OwnOk.shutN (M := [⟨T, 72, [.map (some nB), .map (some cB)]⟩]) (n := ({ nd with bs := (putK nd.bs (⟨hi, hg⟩ : H2) (⟨x0, y0, x1, y1⟩ : B4)) } : ND)) (N1 := Na) (N2 := Nb) hO hM hbp
 replace hM : MemOk [⟨T, 72, [.map (some nB), .map (some cB)]⟩] w12 := hM
 replace hO : OwnOk base [⟨T, 72, [.map (some nB), .map (some cB)]⟩] [oN 68 (Na ++ ({ nd with bs := (putK nd.bs (⟨hi, hg⟩ : H2) (⟨x0, y0, x1, y1⟩ : B4)) } : ND) :: Nb), oM cB vH vC (putK Lc (⟨hi, hg⟩ : H2) (⟨depthOf (bsize x0 y0 x1 y1), colOf ((x0 + x1) / 2) (depthOf (bsize x0 y0 x1 y1)), colOf ((y0 + y1) / 2) (depthOf (bsize x0 y0 x1 y1))⟩ : C3)), oM nB vC vP (ndL (Na ++ nd :: Nb))] w12 := hO
 replace hO : OwnOk base [⟨T, 72, [.map (some nB), .map (some cB)]⟩] [oM nB vC vP (ndL (Na ++ nd :: Nb)), oN 68 (Na ++ ({ nd with bs := (putK nd.bs (⟨hi, hg⟩ : H2) (⟨x0, y0, x1, y1⟩ : B4)) } : ND) :: Nb), oM cB vH vC (putK Lc (⟨hi, hg⟩ : H2) (⟨depthOf (bsize x0 y0 x1 y1), colOf ((x0 + x1) / 2) (depthOf (bsize x0 y0 x1 y1)), colOf ((y0 + y1) / 2) (depthOf (bsize x0 y0 x1 y1))⟩ : C3))] w12 := OwnOk.front (l1 := [oN 68 (Na ++ ({ nd with bs := (putK nd.bs (⟨hi, hg⟩ : H2) (⟨x0, y0, x1, y1⟩ : B4)) } : ND) :: Nb), oM cB vH vC (putK Lc (⟨hi, hg⟩ : H2) (⟨depthOf (bsize x0 y0 x1 y1), colOf ((x0 + x1) / 2) (depthOf (bsize x0 y0 x1 y1)), colOf ((y0 + y1) / 2) (depthOf (bsize x0 y0 x1 y1))⟩ : C3))]) (l2 := []) hO
 rw [show ndL (Na ++ nd :: Nb) = ndL (Na ++ ({ nd with bs := (putK nd.bs (⟨hi, hg⟩ : H2) (⟨x0, y0, x1, y1⟩ : B4)) } : ND) :: Nb) from ndL_bs.symm] at hO
 have hO := hO.shutNM
 replace hO : OwnOk base [⟨T, 72, [.map (some nB), .map (some cB)]⟩] [oNM 68 nB (Na ++ ({ nd with bs := (putK nd.bs (⟨hi, hg⟩ : H2) (⟨x0, y0, x1, y1⟩ : B4)) } : ND) :: Nb), oM cB vH vC (putK Lc (⟨hi, hg⟩ : H2) (⟨depthOf (bsize x0 y0 x1 y1), colOf ((x0 + x1) / 2) (depthOf (bsize x0 y0 x1 y1)), colOf ((y0 + y1) / 2) (depthOf (bsize x0 y0 x1 y1))⟩ : C3))] w12 := hO
 replace hO : OwnOk base [⟨T, 72, [.map (some nB), .map (some cB)]⟩] [oM cB vH vC (putK Lc (⟨hi, hg⟩ : H2) (⟨depthOf (bsize x0 y0 x1 y1), colOf ((x0 + x1) / 2) (depthOf (bsize x0 y0 x1 y1)), colOf ((y0 + y1) / 2) (depthOf (bsize x0 y0 x1 y1))⟩ : C3)), oNM 68 nB (Na ++ ({ nd with bs := (putK nd.bs (⟨hi, hg⟩ : H2) (⟨x0, y0, x1, y1⟩ : B4)) } : ND) :: Nb)] w12 := OwnOk.front (l1 := [oNM 68 nB (Na ++ ({ nd with bs := (putK nd.bs (⟨hi, hg⟩ : H2) (⟨x0, y0, x1, y1⟩ : B4)) } : ND) :: Nb)]) (l2 := []) hO
 replace hO : OwnOk base [⟨T, 72, [.map (some nB), .map (some cB)]⟩] [oNM 68 nB (Na ++ ({ nd with bs := (putK nd.bs (⟨hi, hg⟩ : H2) (⟨x0, y0, x1, y1⟩ : B4)) } : ND) :: Nb), oM cB vH vC (putK Lc (⟨hi, hg⟩ : H2) (⟨depthOf (bsize x0 y0 x1 y1), colOf ((x0 + x1) / 2) (depthOf (bsize x0 y0 x1 y1)), colOf ((y0 + y1) / 2) (depthOf (bsize x0 y0 x1 y1))⟩ : C3))] w12 := OwnOk.front (l1 := [oM cB vH vC (putK Lc (⟨hi, hg⟩ : H2) (⟨depthOf (bsize x0 y0 x1 y1), colOf ((x0 + x1) / 2) (depthOf (bsize x0 y0 x1 y1)), colOf ((y0 + y1) / 2) (depthOf (bsize x0 y0 x1 y1))⟩ : C3))]) (l2 := []) hO
 have hti2 := hti.put hno hob hnf1 hbs1
 have hnc2 : nd.c = cellB (⟨x0, y0, x1, y1⟩ : B4) := hnc
 have hbx : boxN (Na ++ nd :: Nb) (cellB (⟨x0, y0, x1, y1⟩ : B4)) (⟨hi, hg⟩ : H2) (⟨x0, y0, x1, y1⟩ : B4) = (Na ++ ({ nd with bs := (putK nd.bs (⟨hi, hg⟩ : H2) (⟨x0, y0, x1, y1⟩ : B4)) } : ND) :: Nb) := by rw [← hnc2]; exact boxN_split hnf1.nd
 rw [hbx] at hti2
 obtain ⟨hM, hO⟩ := OwnOk.shutT (M := []) hO hM hbT hti2
 refine ⟨_, rfl, hO.own _ (List.Mem.head _), fun i hi => ?_, hO.ndH, hk0⟩
 rw [B_bs] at hi
 simp only [List.mem_cons] at hi
 rcases hi with hi | hi | hi | hi
 · exact .inl (hi ▸ hTB)
 · rw [hBl]; exact .inl (by simp [hi])
 · exact .inl (hi ▸ hcB)
 · exact (hB1 i (List.mem_cons_of_mem _ hi)).imp (fun h => by rw [hBl]; rcases List.mem_cons.1 h with h | h <;> simp [h]) id
end Go.Proofs.YthofalkkdpjdlaaDoor
