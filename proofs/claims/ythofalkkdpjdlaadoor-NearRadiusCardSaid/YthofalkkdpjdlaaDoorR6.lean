/- layer 12: kids -/
import Derived.Test.YthofalkkdpjdlaaDoorR5
import Derived.Test.YthofalkkdpjdlaaDoorXpC
namespace Go.Proofs.YthofalkkdpjdlaaDoor
open Go.Px
set_option linter.unusedVariables false
set_option linter.unusedSimpArgs false

set_option maxRecDepth 10000 in
set_option maxHeartbeats 1600000 in
theorem kids_any (d x y : Int) (w : World) (hn0 : (cellRight d x y) = true) :
    Calls Tryd.prog 37 #[.agg #[iV d, iV x, iV y]] w (Ret fun v w' => v = .agg #[iV (d + 1), iV (2 * x), iV (2 * y), iV (d + 1), iV (2 * x + 1), iV (2 * y), iV (d + 1), iV (2 * x), iV (2 * y + 1), iV (d + 1), iV (2 * x + 1), iV (2 * y + 1)] ∧ Keep Nn w w') := by
 refine sxenter (n := 36) (args := [.agg #[iV d, iV x, iV y]]) Tryd.func37 rfl rfl rfl fun a hf => ?_
 replace hf : Fr 36 [(0, .val (.agg #[iV d, iV x, iV y]))] a := hf
 have hM : MemOk [] w := MemOk.nil w
 have hk0 : Keep Nn w w := Keep.refl _ _
 have hc := cellRight_iff.1 hn0
 have hp := pow_bd (d := d) (by omega)
 refine wp_seq_k (fun K1 hK1 => ?_)
 refine wp_region_lit ?_
 refine q1 hf hM [] [{ os := [.nw] }, { os := [.nw] }] (nw := fun B1 => [(2, eP (B1 + 1) 0), (1, eP B1 0)]) (M' := fun B1 => [⟨B1, 29, [iV d, iV x, iV y]⟩, ⟨B1 + 1, 82, [iV 0, iV 0, iV 0, iV 0, iV 0, iV 0, iV 0, iV 0, iV 0, iV 0, iV 0, iV 0]⟩]) (ob := fun B1 => []) (fun B1 => An) ?_
 clear hf hM; intro a w1 B1 hf hM hB hk
 have hbB1 : w.heap.size ≤ B1 := by have := hk0.size; omega
 have hk0 := hk0.then hk (by intro i _ h; cases h)
 clear hk hB
 refine wpList_nil ?_
 refine hK1 _ _ ?_
 refine wp_seq_k (fun K2 hK2 => ?_)
 replace hM := hM.drew; replace hk0 := hk0.drew
 obtain ⟨Cq1, hCq1i, hCq1e⟩ := qcls fun w' => MemOk [⟨B1, 29, [iV d, iV x, iV y]⟩, ⟨B1 + 1, 82, [iV 0, iV 0, iV 0, iV 0, iV 0, iV 0, iV 0, iV 0, iV 0, iV 0, iV 0, iV 0]⟩] w' ∧ Keep Nn w w' ∧ True
 refine sxdraw (C := Cq1) (.leaf [(0, true), (1, true), (2, true), (3, true), (4, true), (5, true), (6, true), (7, true), (8, true), (9, true), (10, true), (11, true)]) (by kernel_rfl) (by kernel_rfl) (by as_aux_lemma => kernel_rfl) rfl (by as_aux_lemma => kernel_rfl) (by kernel_rfl) (hCq1i _ ⟨hM.sub (.cons_cons _ (.cons_cons _ .slnil)), hk0, trivial⟩) ?_
 refine sxleaf ?_
 have hC := (hCq1i _ ⟨hM.sub (.cons_cons _ (.cons_cons _ .slnil)), hk0, trivial⟩)
 refine qd hf hC (fun w' h => (hCq1e w' h).1) [2] [{}, { os := [.ld 0 0] }, { hint := some (iV (d + 1)) }, {}, { os := [.ld 0 1] }, { hint := some (iV (2 * x)) }, {}, { os := [.ld 0 2] }, { hint := some (iV (2 * y)) }, {}, {}, {}] (nw := [(5, eI (2 * y)), (4, eI (2 * x)), (3, eI (d + 1))]) (ob := [Ad B1 0, (iV (IntKind.i64.wrap (d + 1)) : Value) = (iV (d + 1) : Value), Ad B1 1, (iV (IntKind.i64.wrap (2 * x)) : Value) = (iV (2 * x) : Value), Ad B1 2, (iV (IntKind.i64.wrap (2 * y)) : Value) = (iV (2 * y) : Value)]) (Ac (ad _ _) (Ac (wr (by omega)) (Ac (ad _ _) (Ac (wr (by omega)) (Ac (ad _ _) (Ao (wr (by omega)))))))) ?_
 clear hf; intro a hf
 clear hC
 show K2 _ _
 refine hK2 _ _ ?_
 refine wp_seq_k (fun K3 hK3 => ?_)
 refine wp_region_lit ?_
 refine q1 hf hM [2] [{}, {}, {}, { sp := true }, {}, {}, { hint := some (iV ((2 * x) + 1)) }, {}, { sp := true }, {}, {}, {}, { hint := some (iV ((2 * y) + 1)) }, { sp := true }, {}, {}, { hint := some (iV ((2 * x) + 1)) }, {}, { hint := some (iV ((2 * y) + 1)) }, { sp := true }, { sp := true }, { os := [.st 1 0, .st 1 1, .st 1 2, .st 1 3, .st 1 4, .st 1 5, .st 1 6, .st 1 7, .st 1 8, .st 1 9, .st 1 10, .st 1 11] }] (nw := fun B2 => []) (M' := fun B2 => [⟨B1, 29, [iV d, iV x, iV y]⟩, ⟨B1 + 1, 82, [iV (d + 1), iV (2 * x), iV (2 * y), iV (d + 1), iV ((2 * x) + 1), iV (2 * y), iV (d + 1), iV (2 * x), iV ((2 * y) + 1), iV (d + 1), iV ((2 * x) + 1), iV ((2 * y) + 1)]⟩]) (ob := fun B2 => [(iV (IntKind.i64.wrap ((2 * x) + 1)) : Value) = (iV ((2 * x) + 1) : Value), (iV (IntKind.i64.wrap ((2 * y) + 1)) : Value) = (iV ((2 * y) + 1) : Value), (iV (IntKind.i64.wrap ((2 * x) + 1)) : Value) = (iV ((2 * x) + 1) : Value), (iV (IntKind.i64.wrap ((2 * y) + 1)) : Value) = (iV ((2 * y) + 1) : Value), Ad (B1 + 1) 0, Ad (B1 + 1) 1, Ad (B1 + 1) 2, Ad (B1 + 1) 3, Ad (B1 + 1) 4, Ad (B1 + 1) 5, Ad (B1 + 1) 6, Ad (B1 + 1) 7, Ad (B1 + 1) 8, Ad (B1 + 1) 9, Ad (B1 + 1) 10, Ad (B1 + 1) 11]) (fun B2 => (Ac (wr (by omega)) (Ac (wr (by omega)) (Ac (wr (by omega)) (Ac (wr (by omega)) (Ac (ad _ _) (Ac (ad _ _) (Ac (ad _ _) (Ac (ad _ _) (Ac (ad _ _) (Ac (ad _ _) (Ac (ad _ _) (Ac (ad _ _) (Ac (ad _ _) (Ac (ad _ _) (Ac (ad _ _) (Ao (ad _ _)))))))))))))))))) ?_
 clear hf hM; intro a w2 B2 hf hM hB hk
 have hbB2 : w.heap.size ≤ B2 := by have := hk0.size; omega
 have hk0 := hk0.thenNew hk (by simp [Mem.names] <;> omega)
 clear hk hB
 refine wpList_nil ?_
 refine hK3 _ _ ?_
 refine wp_ret ?_
 refine qr (fn := Tryd.f37) hf hM [.ld 1 0, .ld 1 1, .ld 1 2, .ld 1 3, .ld 1 4, .ld 1 5, .ld 1 6, .ld 1 7, .ld 1 8, .ld 1 9, .ld 1 10, .ld 1 11] (l := [.agg #[iV (d + 1), iV (2 * x), iV (2 * y), iV (d + 1), iV ((2 * x) + 1), iV (2 * y), iV (d + 1), iV (2 * x), iV ((2 * y) + 1), iV (d + 1), iV ((2 * x) + 1), iV ((2 * y) + 1)]]) (ob := [Ad (B1 + 1) 0, Ad (B1 + 1) 1, Ad (B1 + 1) 2, Ad (B1 + 1) 3, Ad (B1 + 1) 4, Ad (B1 + 1) 5, Ad (B1 + 1) 6, Ad (B1 + 1) 7, Ad (B1 + 1) 8, Ad (B1 + 1) 9, Ad (B1 + 1) 10, Ad (B1 + 1) 11]) (Ac (ad _ _) (Ac (ad _ _) (Ac (ad _ _) (Ac (ad _ _) (Ac (ad _ _) (Ac (ad _ _) (Ac (ad _ _) (Ac (ad _ _) (Ac (ad _ _) (Ac (ad _ _) (Ac (ad _ _) (Ao (ad _ _))))))))))))) ?_
 show (.agg #[iV (d + 1), iV (2 * x), iV (2 * y), iV (d + 1), iV ((2 * x) + 1), iV (2 * y), iV (d + 1), iV (2 * x), iV ((2 * y) + 1), iV (d + 1), iV ((2 * x) + 1), iV ((2 * y) + 1)] : Value) = .agg #[iV (d + 1), iV (2 * x), iV (2 * y), iV (d + 1), iV (2 * x + 1), iV (2 * y), iV (d + 1), iV (2 * x), iV (2 * y + 1), iV (d + 1), iV (2 * x + 1), iV (2 * y + 1)] ∧ Keep Nn w w2
 exact ⟨rfl, hk0⟩
end Go.Proofs.YthofalkkdpjdlaaDoor
