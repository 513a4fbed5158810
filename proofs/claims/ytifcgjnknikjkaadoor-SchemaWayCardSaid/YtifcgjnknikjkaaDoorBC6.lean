/- layer 6: moves -/
import Derived.Test.YtifcgjnknikjkaaDoorBC5
namespace Go.Proofs.YtifcgjnknikjkaaDoor
open Go.Px
set_option linter.unusedVariables false
set_option linter.unusedSimpArgs false

def negI (n : Int) : Int := if n = -9223372036854775808 then n else -n
theorem neg_int {n : Int} (h : -9223372036854775808 ≤ n ∧ n ≤ 9223372036854775807) : Value.int .i64 (IntKind.i64.wrap (0 - n)) = .int .i64 (negI n) := by
  unfold negI
  rw [IntKind.wrap_i64]
  congr 1
  split <;> omega
def mvIn (dx dy : Int) : Bool := decide (-2097152 ≤ dx ∧ dx ≤ 2097152 ∧ -2097152 ≤ dy ∧ dy ≤ 2097152)
def mvPos (k x y : Int) : Bool := decide (k = 0) && vkind ⟨k, x, y⟩ && vrange ⟨k, x, y⟩

set_option maxRecDepth 10000 in
set_option maxHeartbeats 1600000 in
theorem smv_kind (E : Nat → Addr) (k x y : Int) (dx dy : Int) (w : World) (hn0 : (mvPos k x y) = false) (hdx : -9223372036854775808 ≤ dx ∧ dx ≤ 9223372036854775807) (hdy : -9223372036854775808 ≤ dy ∧ dy ≤ 9223372036854775807) (hG : Errs [0, 3, 4] w 185 E) :
    Calls Tryd.prog 30 #[.agg #[iV k, iV x, iV y], iV dx, iV dy] w (Ret fun v w' => v = .tuple #[.agg #[iV 0, iV 0, iV 0], .iface 185 (.pointer (some (E 4)))] ∧ Keep Nn w w') := by
 refine sxenter (n := 50) (args := [.agg #[iV k, iV x, iV y], iV dx, iV dy]) Tryd.func30 rfl rfl rfl fun a hf => ?_
 replace hf : Fr 50 [(0, .val (.agg #[iV k, iV x, iV y])), (1, eI dx), (2, eI dy)] a := hf
 have hM : MemOk [] w := MemOk.nil w
 have hk0 : Keep Nn w w := Keep.refl _ _
 have hps := hn0
 simp only [mvPos] at hps
 refine wp_seq_k (fun K1 hK1 => ?_)
 refine wp_region_lit ?_
 refine q1 hf hM [7, 6, 3, 1, 2] [{ os := [.nw] }, { os := [.nw] }, {}] (env' := fun B1 => [(7, .val (.nilIface)), (6, eP (B1 + 1) 0), (3, eP B1 0), (1, eI dx), (2, eI dy)]) (M' := fun B1 => [⟨B1, 62, [iV k, iV x, iV y]⟩, ⟨B1 + 1, 62, [iV 0, iV 0, iV 0]⟩]) (ob := fun B1 => []) (fun B1 => An) ?_
 clear hf hM; intro a w1 B1 hf hM hB hk
 have hbB1 : w.heap.size ≤ B1 := by have := hk0.size; omega
 have hk0 := hk0.then hk (by intro i _ h; cases h)
 clear hk hB
 refine wpList_nil ?_
 refine hK1 _ _ ?_
 refine wp_seq_k (fun K2 hK2 => ?_)
 refine wp_seq_k (fun K3 hK3 => ?_)
 refine wp_region_lit ?_
 refine q0 hf hM [11, 7, 6, 3, 1, 2] [{}, { os := [.ld 0 0] }, {}, {}] (env' := [(11, eB ((k : Int) != 0)), (7, .val (.nilIface)), (6, eP (B1 + 1) 0), (3, eP B1 0), (1, eI dx), (2, eI dy)]) (ob := [Ad B1 0]) (Ao (ad _ _)) ?_
 clear hf; intro a hf
 rcases Bool.eq_false_or_eq_true ((k : Int) != 0) with hg1r | hg1r
 · have hg1 := (nN hg1r)
   have hf := hf.prune [11, 7, 6, 3, 1, 2]
   replace hf : Fr 50 [(11, eB ((k : Int) != 0)), (7, .val (.nilIface)), (6, eP (B1 + 1) 0), (3, eP B1 0), (1, eI dx), (2, eI dy)] a := hf
   replace hf := hf.conv (env' := [(11, eB true), (7, .val (.nilIface)), (6, eP (B1 + 1) 0), (3, eP B1 0), (1, eI dx), (2, eI dy)]) (Ac (congrArg Value.bool hg1r) (Ac rfl (Ac rfl (Ac rfl (Ac rfl (Ao rfl))))))
   refine q0 hf hM [12, 11, 7, 6, 3, 1, 2] [{ g := .off }] (env' := [(12, .val (undef)), (11, eB true), (7, .val (.nilIface)), (6, eP (B1 + 1) 0), (3, eP B1 0), (1, eI dx), (2, eI dy)]) (ob := [true = !false]) (Ao rfl) ?_
   clear hf; intro a hf
   refine q0 hf hM [15, 7, 6, 3, 1, 2] [{ g := .off }, { g := .off }, {}] (env' := [(15, eB true), (7, .val (.nilIface)), (6, eP (B1 + 1) 0), (3, eP B1 0), (1, eI dx), (2, eI dy)]) (ob := [true = !false, true = !false]) (Ac rfl (Ao rfl)) ?_
   clear hf; intro a hf
   refine wpList_nil ?_
   refine hK3 _ _ ?_
   refine sxcond hf (b := true) (by kernel_rfl) (fun _ => ?_) (fun h => by cases h)
   refine wp_seq_k (fun K4 hK4 => ?_)
   replace hM := hM.drew; replace hk0 := hk0.drew
   obtain ⟨C1, hC1d⟩ : ∃ C : World → Prop, C = fun w' => MemOk [⟨B1, 62, [iV k, iV x, iV y]⟩] w' ∧ Keep Nn w w' ∧ True := ⟨_, rfl⟩
   have hC1i : ∀ w', (MemOk [⟨B1, 62, [iV k, iV x, iV y]⟩] w' ∧ Keep Nn w w' ∧ True) → C1 w' := fun w' h => by rw [hC1d]; exact h
   have hC1e : ∀ w', C1 w' → (MemOk [⟨B1, 62, [iV k, iV x, iV y]⟩] w' ∧ Keep Nn w w' ∧ True) := fun w' h => by rw [hC1d] at h; exact h
   refine sxdraw (C := C1) (.leaf [(0, true), (1, true), (2, false), (3, true)]) (by kernel_rfl) (by kernel_rfl) (by as_aux_lemma => kernel_rfl) rfl (by as_aux_lemma => kernel_rfl) (by kernel_rfl) (hC1i _ ⟨hM.sub (.cons_cons _ (.cons _ .slnil)), hk0, trivial⟩) ?_
   refine sxleaf ?_
   have hC := (hC1i _ ⟨hM.sub (.cons_cons _ (.cons _ .slnil)), hk0, trivial⟩)
   refine qd hf hC (fun w' h => (hC1e w' h).1) [17, 16, 7, 6] [{ sp := true }, { os := [.ex (.iface 185 (.pointer (some (E 4))))] }] (env' := [(17, .val (.iface 185 (.pointer (some (E 4))))), (16, .val (.agg #[iV 0, iV 0, iV 0])), (7, .val (.nilIface)), (6, eP (B1 + 1) 0)]) (ob := [(∀ w', C1 w' → w'.cell? ⟨4, 0, none⟩ = some (.iface 185 (.pointer (some (E 4)))))]) (Ao (fun w' hc => by obtain ⟨hM, hk0, hO⟩ := hC1e w' hc; exact (hk0.cell (hG.cell 4 (by decide)) (fun h => h)))) ?_
   clear hf; intro a hf
   refine scstep rfl ?_
   have hMs : MemOk [⟨B1 + 1, 62, [iV 0, iV 0, iV 0]⟩] w1.drew := hM.sub (.cons _ (.cons_cons _ .slnil))
   refine q1 hf hMs [17, 7, 6] [{ os := [.st 0 0, .st 0 1, .st 0 2] }] (env' := fun B5 => [(17, .val (.iface 185 (.pointer (some (E 4))))), (7, .val (.nilIface)), (6, eP (B1 + 1) 0)]) (M' := fun B5 => [⟨B1 + 1, 62, [iV 0, iV 0, iV 0]⟩]) (ob := fun B5 => [Ad (B1 + 1) 0, Ad (B1 + 1) 1, Ad (B1 + 1) 2]) (fun B5 => (Ac (ad _ _) (Ac (ad _ _) (Ao (ad _ _))))) ?_
   clear hf hMs; intro a w2 B5 hf hMs hB hk; clear hB
   have hM : MemOk [⟨B1, 62, [iV k, iV x, iV y]⟩, ⟨B1 + 1, 62, [iV 0, iV 0, iV 0]⟩] w2 := MemOk.upd (M1 := [⟨B1, 62, [iV k, iV x, iV y]⟩]) (M2 := []) hM hk hMs rfl
   have hk0 := hk0.then hk (by intro i hi h; simp only [Is, Mem.names, List.map_cons, List.map_nil, List.mem_cons, List.not_mem_nil, or_false] at h; omega)
   clear hk hMs
   have hC := (hC1i _ ⟨hM.sub (.cons_cons _ (.cons _ .slnil)), hk0, trivial⟩)
   refine scdone hC ?_
   refine qd hf hC (fun w' h => (hC1e w' h).1) [7, 6] [{}] (env' := [(7, .val (.iface 185 (.pointer (some (E 4))))), (6, eP (B1 + 1) 0)]) (ob := []) An ?_
   clear hf; intro a hf
   clear hC
   show K4 _ _
   refine hK4 _ _ ?_
   refine wp_ret ?_
   refine qr (fn := Tryd.f30) hf hM [.ld 1 0, .ld 1 1, .ld 1 2] (l := [.agg #[iV 0, iV 0, iV 0], .iface 185 (.pointer (some (E 4)))]) (ob := [Ad (B1 + 1) 0, Ad (B1 + 1) 1, Ad (B1 + 1) 2]) (Ac (ad _ _) (Ac (ad _ _) (Ao (ad _ _)))) ?_
   show (.tuple #[.agg #[iV 0, iV 0, iV 0], .iface 185 (.pointer (some (E 4)))] : Value) = .tuple #[.agg #[iV 0, iV 0, iV 0], .iface 185 (.pointer (some (E 4)))] ∧ Keep Nn w w2
   first | exact ⟨rfl, hk0⟩ | (exfalso; simp_all [mvPos])
 · have hg1 := (nM hg1r)
   have hf := hf.prune [11, 7, 6, 3, 1, 2]
   replace hf : Fr 50 [(11, eB ((k : Int) != 0)), (7, .val (.nilIface)), (6, eP (B1 + 1) 0), (3, eP B1 0), (1, eI dx), (2, eI dy)] a := hf
   replace hf := hf.conv (env' := [(11, eB false), (7, .val (.nilIface)), (6, eP (B1 + 1) 0), (3, eP B1 0), (1, eI dx), (2, eI dy)]) (Ac (congrArg Value.bool hg1r) (Ac rfl (Ac rfl (Ac rfl (Ac rfl (Ao rfl))))))
   refine q0 hf hM [12, 11, 7, 6, 3, 1, 2] [{ os := [.ld 0 0, .ld 0 1, .ld 0 2] }] (env' := [(12, .val (.agg #[iV k, iV x, iV y])), (11, eB false), (7, .val (.nilIface)), (6, eP (B1 + 1) 0), (3, eP B1 0), (1, eI dx), (2, eI dy)]) (ob := [false = false, Ad B1 0, Ad B1 1, Ad B1 2]) (Ac rfl (Ac (ad _ _) (Ac (ad _ _) (Ao (ad _ _))))) ?_
   clear hf; intro a hf
   rcases Bool.eq_false_or_eq_true (vkind ⟨k, x, y⟩) with hs1r | hs1r
   · have hs1 := hs1r
     try simp only [Bool.or_eq_true, Bool.and_eq_true, Bool.not_eq_true', Bool.not_eq_false', Bool.or_eq_false_iff, Bool.and_eq_false_iff, decide_eq_true_eq, decide_eq_false_iff_not, beq_iff_eq, bne_iff_ne, beq_eq_false_iff_ne, bne_eq_false_iff_eq, Bool.and_true, Bool.true_and, ne_eq] at hs1
     rcases Bool.eq_false_or_eq_true (vrange ⟨k, x, y⟩) with hs2r | hs2r
     · have hs2 := hs2r
       try simp only [Bool.or_eq_true, Bool.and_eq_true, Bool.not_eq_true', Bool.not_eq_false', Bool.or_eq_false_iff, Bool.and_eq_false_iff, decide_eq_true_eq, decide_eq_false_iff_not, beq_iff_eq, bne_iff_ne, beq_eq_false_iff_ne, bne_eq_false_iff_eq, Bool.and_true, Bool.true_and, ne_eq] at hs2
       refine sxcallg hf rfl rfl rfl rfl rfl (g := 31) (vs := [.agg #[iV k, iV x, iV y]]) (ob := []) (by as_aux_lemma => kernel_rfl) An enters31 (scheck_ok E k x y w1 hs1r hs2r (hG.keep hk0 (fun _ h => h))) ?_
       clear hf; rintro _ w3 a ⟨rfl, hk⟩ hf
       have hM := hM.keepNn hk
       have hk0 := hk0.trans hk.nn
       clear hk
       refine q0 hf hM [15, 7, 6, 3, 1, 2] [{}, {}] (env' := [(15, eB false), (7, .val (.nilIface)), (6, eP (B1 + 1) 0), (3, eP B1 0), (1, eI dx), (2, eI dy)]) (ob := [false = false]) (Ao rfl) ?_
       clear hf; intro a hf
       refine wpList_nil ?_
       refine hK3 _ _ ?_
       refine sxcond hf (b := false) (by kernel_rfl) (fun h => by cases h) (fun _ => ?_)
       refine wp_skip ?_
       refine hK2 _ _ ?_
       refine wp_seq_k (fun K5 hK5 => ?_)
       refine wp_seq_k (fun K6 hK6 => ?_)
       refine wp_region_lit ?_
       refine q0 hf hM [31, 7, 6, 3, 1, 2] [{}, {}, {}, {}, {}, {}, {}, {}, {}, { g := .sym }, { g := .sym }, { g := .sym }, { g := .sym }, { hint := some (bV ((decide (((if (if (if dx < IntKind.i64.wrap (0 - dx) then IntKind.i64.wrap (0 - dx) else dx) < dy then dy else (if dx < IntKind.i64.wrap (0 - dx) then IntKind.i64.wrap (0 - dx) else dx)) < IntKind.i64.wrap (0 - dy) then IntKind.i64.wrap (0 - dy) else (if (if dx < IntKind.i64.wrap (0 - dx) then IntKind.i64.wrap (0 - dx) else dx) < dy then dy else (if dx < IntKind.i64.wrap (0 - dx) then IntKind.i64.wrap (0 - dx) else dx))) : Int) > 2097152)) || (decide (((if dy < dx then dy else dx) : Int) < (-2097152))))) }] (env' := [(31, eB ((decide (((if (if (if dx < IntKind.i64.wrap (0 - dx) then IntKind.i64.wrap (0 - dx) else dx) < dy then dy else (if dx < IntKind.i64.wrap (0 - dx) then IntKind.i64.wrap (0 - dx) else dx)) < IntKind.i64.wrap (0 - dy) then IntKind.i64.wrap (0 - dy) else (if (if dx < IntKind.i64.wrap (0 - dx) then IntKind.i64.wrap (0 - dx) else dx) < dy then dy else (if dx < IntKind.i64.wrap (0 - dx) then IntKind.i64.wrap (0 - dx) else dx))) : Int) > 2097152)) || (decide (((if dy < dx then dy else dx) : Int) < (-2097152))))), (7, .val (.nilIface)), (6, eP (B1 + 1) 0), (3, eP B1 0), (1, eI dx), (2, eI dy)]) (ob := [((decide (((if (if (if dx < IntKind.i64.wrap (0 - dx) then IntKind.i64.wrap (0 - dx) else dx) < dy then dy else (if dx < IntKind.i64.wrap (0 - dx) then IntKind.i64.wrap (0 - dx) else dx)) < IntKind.i64.wrap (0 - dy) then IntKind.i64.wrap (0 - dy) else (if (if dx < IntKind.i64.wrap (0 - dx) then IntKind.i64.wrap (0 - dx) else dx) < dy then dy else (if dx < IntKind.i64.wrap (0 - dx) then IntKind.i64.wrap (0 - dx) else dx))) : Int) > 2097152)) = false → (decide (((if (if (if dx < IntKind.i64.wrap (0 - dx) then IntKind.i64.wrap (0 - dx) else dx) < dy then dy else (if dx < IntKind.i64.wrap (0 - dx) then IntKind.i64.wrap (0 - dx) else dx)) < IntKind.i64.wrap (0 - dy) then IntKind.i64.wrap (0 - dy) else (if (if dx < IntKind.i64.wrap (0 - dx) then IntKind.i64.wrap (0 - dx) else dx) < dy then dy else (if dx < IntKind.i64.wrap (0 - dx) then IntKind.i64.wrap (0 - dx) else dx))) : Int) > 2097152)) = (decide (((if (if (if dx < IntKind.i64.wrap (0 - dx) then IntKind.i64.wrap (0 - dx) else dx) < dy then dy else (if dx < IntKind.i64.wrap (0 - dx) then IntKind.i64.wrap (0 - dx) else dx)) < IntKind.i64.wrap (0 - dy) then IntKind.i64.wrap (0 - dy) else (if (if dx < IntKind.i64.wrap (0 - dx) then IntKind.i64.wrap (0 - dx) else dx) < dy then dy else (if dx < IntKind.i64.wrap (0 - dx) then IntKind.i64.wrap (0 - dx) else dx))) : Int) > 2097152))), ((decide (((if (if (if dx < IntKind.i64.wrap (0 - dx) then IntKind.i64.wrap (0 - dx) else dx) < dy then dy else (if dx < IntKind.i64.wrap (0 - dx) then IntKind.i64.wrap (0 - dx) else dx)) < IntKind.i64.wrap (0 - dy) then IntKind.i64.wrap (0 - dy) else (if (if dx < IntKind.i64.wrap (0 - dx) then IntKind.i64.wrap (0 - dx) else dx) < dy then dy else (if dx < IntKind.i64.wrap (0 - dx) then IntKind.i64.wrap (0 - dx) else dx))) : Int) > 2097152)) = false → (decide (((if (if (if dx < IntKind.i64.wrap (0 - dx) then IntKind.i64.wrap (0 - dx) else dx) < dy then dy else (if dx < IntKind.i64.wrap (0 - dx) then IntKind.i64.wrap (0 - dx) else dx)) < IntKind.i64.wrap (0 - dy) then IntKind.i64.wrap (0 - dy) else (if (if dx < IntKind.i64.wrap (0 - dx) then IntKind.i64.wrap (0 - dx) else dx) < dy then dy else (if dx < IntKind.i64.wrap (0 - dx) then IntKind.i64.wrap (0 - dx) else dx))) : Int) > 2097152)) = (decide (((if (if (if dx < IntKind.i64.wrap (0 - dx) then IntKind.i64.wrap (0 - dx) else dx) < dy then dy else (if dx < IntKind.i64.wrap (0 - dx) then IntKind.i64.wrap (0 - dx) else dx)) < IntKind.i64.wrap (0 - dy) then IntKind.i64.wrap (0 - dy) else (if (if dx < IntKind.i64.wrap (0 - dx) then IntKind.i64.wrap (0 - dx) else dx) < dy then dy else (if dx < IntKind.i64.wrap (0 - dx) then IntKind.i64.wrap (0 - dx) else dx))) : Int) > 2097152))), ((decide (((if (if (if dx < IntKind.i64.wrap (0 - dx) then IntKind.i64.wrap (0 - dx) else dx) < dy then dy else (if dx < IntKind.i64.wrap (0 - dx) then IntKind.i64.wrap (0 - dx) else dx)) < IntKind.i64.wrap (0 - dy) then IntKind.i64.wrap (0 - dy) else (if (if dx < IntKind.i64.wrap (0 - dx) then IntKind.i64.wrap (0 - dx) else dx) < dy then dy else (if dx < IntKind.i64.wrap (0 - dx) then IntKind.i64.wrap (0 - dx) else dx))) : Int) > 2097152)) = false → (decide (((if (if (if dx < IntKind.i64.wrap (0 - dx) then IntKind.i64.wrap (0 - dx) else dx) < dy then dy else (if dx < IntKind.i64.wrap (0 - dx) then IntKind.i64.wrap (0 - dx) else dx)) < IntKind.i64.wrap (0 - dy) then IntKind.i64.wrap (0 - dy) else (if (if dx < IntKind.i64.wrap (0 - dx) then IntKind.i64.wrap (0 - dx) else dx) < dy then dy else (if dx < IntKind.i64.wrap (0 - dx) then IntKind.i64.wrap (0 - dx) else dx))) : Int) > 2097152)) = (decide (((if (if (if dx < IntKind.i64.wrap (0 - dx) then IntKind.i64.wrap (0 - dx) else dx) < dy then dy else (if dx < IntKind.i64.wrap (0 - dx) then IntKind.i64.wrap (0 - dx) else dx)) < IntKind.i64.wrap (0 - dy) then IntKind.i64.wrap (0 - dy) else (if (if dx < IntKind.i64.wrap (0 - dx) then IntKind.i64.wrap (0 - dx) else dx) < dy then dy else (if dx < IntKind.i64.wrap (0 - dx) then IntKind.i64.wrap (0 - dx) else dx))) : Int) > 2097152))), ((decide (((if (if (if dx < IntKind.i64.wrap (0 - dx) then IntKind.i64.wrap (0 - dx) else dx) < dy then dy else (if dx < IntKind.i64.wrap (0 - dx) then IntKind.i64.wrap (0 - dx) else dx)) < IntKind.i64.wrap (0 - dy) then IntKind.i64.wrap (0 - dy) else (if (if dx < IntKind.i64.wrap (0 - dx) then IntKind.i64.wrap (0 - dx) else dx) < dy then dy else (if dx < IntKind.i64.wrap (0 - dx) then IntKind.i64.wrap (0 - dx) else dx))) : Int) > 2097152)) = false → (decide (((if (if (if dx < IntKind.i64.wrap (0 - dx) then IntKind.i64.wrap (0 - dx) else dx) < dy then dy else (if dx < IntKind.i64.wrap (0 - dx) then IntKind.i64.wrap (0 - dx) else dx)) < IntKind.i64.wrap (0 - dy) then IntKind.i64.wrap (0 - dy) else (if (if dx < IntKind.i64.wrap (0 - dx) then IntKind.i64.wrap (0 - dx) else dx) < dy then dy else (if dx < IntKind.i64.wrap (0 - dx) then IntKind.i64.wrap (0 - dx) else dx))) : Int) > 2097152)) = (decide (((if (if (if dx < IntKind.i64.wrap (0 - dx) then IntKind.i64.wrap (0 - dx) else dx) < dy then dy else (if dx < IntKind.i64.wrap (0 - dx) then IntKind.i64.wrap (0 - dx) else dx)) < IntKind.i64.wrap (0 - dy) then IntKind.i64.wrap (0 - dy) else (if (if dx < IntKind.i64.wrap (0 - dx) then IntKind.i64.wrap (0 - dx) else dx) < dy then dy else (if dx < IntKind.i64.wrap (0 - dx) then IntKind.i64.wrap (0 - dx) else dx))) : Int) > 2097152))), (bif (decide (((if (if (if dx < IntKind.i64.wrap (0 - dx) then IntKind.i64.wrap (0 - dx) else dx) < dy then dy else (if dx < IntKind.i64.wrap (0 - dx) then IntKind.i64.wrap (0 - dx) else dx)) < IntKind.i64.wrap (0 - dy) then IntKind.i64.wrap (0 - dy) else (if (if dx < IntKind.i64.wrap (0 - dx) then IntKind.i64.wrap (0 - dx) else dx) < dy then dy else (if dx < IntKind.i64.wrap (0 - dx) then IntKind.i64.wrap (0 - dx) else dx))) : Int) > 2097152)) then (bV true : Value) else bV (decide (((if dy < dx then dy else dx) : Int) < (-2097152)))) = .bool ((decide (((if (if (if dx < IntKind.i64.wrap (0 - dx) then IntKind.i64.wrap (0 - dx) else dx) < dy then dy else (if dx < IntKind.i64.wrap (0 - dx) then IntKind.i64.wrap (0 - dx) else dx)) < IntKind.i64.wrap (0 - dy) then IntKind.i64.wrap (0 - dy) else (if (if dx < IntKind.i64.wrap (0 - dx) then IntKind.i64.wrap (0 - dx) else dx) < dy then dy else (if dx < IntKind.i64.wrap (0 - dx) then IntKind.i64.wrap (0 - dx) else dx))) : Int) > 2097152)) || (decide (((if dy < dx then dy else dx) : Int) < (-2097152))))]) (Ac (fun hgd => rfl) (Ac (fun hgd => rfl) (Ac (fun hgd => rfl) (Ac (fun _ => rfl) (Ao (pick_or _ _)))))) ?_
       clear hf; intro a hf
       refine wpList_nil ?_
       refine hK6 _ _ ?_
       refine qc hf (b := ((decide (((if (if (if dx < IntKind.i64.wrap (0 - dx) then IntKind.i64.wrap (0 - dx) else dx) < dy then dy else (if dx < IntKind.i64.wrap (0 - dx) then IntKind.i64.wrap (0 - dx) else dx)) < IntKind.i64.wrap (0 - dy) then IntKind.i64.wrap (0 - dy) else (if (if dx < IntKind.i64.wrap (0 - dx) then IntKind.i64.wrap (0 - dx) else dx) < dy then dy else (if dx < IntKind.i64.wrap (0 - dx) then IntKind.i64.wrap (0 - dx) else dx))) : Int) > 2097152)) || (decide (((if dy < dx then dy else dx) : Int) < (-2097152))))) (fun hc3r => ?_) (fun hc3r => ?_)
       · have hc3 := hc3r
         try simp only [Bool.or_eq_true, Bool.and_eq_true, Bool.not_eq_true', Bool.not_eq_false', Bool.or_eq_false_iff, Bool.and_eq_false_iff, decide_eq_true_eq, decide_eq_false_iff_not, beq_iff_eq, bne_iff_ne, beq_eq_false_iff_ne, bne_eq_false_iff_eq, Bool.and_true, Bool.true_and, ne_eq] at hc3
         refine wp_seq_k (fun K7 hK7 => ?_)
         replace hM := hM.drew; replace hk0 := hk0.drew
         obtain ⟨C2, hC2d⟩ : ∃ C : World → Prop, C = fun w' => MemOk [⟨B1, 62, [iV k, iV x, iV y]⟩] w' ∧ Keep Nn w w' ∧ True := ⟨_, rfl⟩
         have hC2i : ∀ w', (MemOk [⟨B1, 62, [iV k, iV x, iV y]⟩] w' ∧ Keep Nn w w' ∧ True) → C2 w' := fun w' h => by rw [hC2d]; exact h
         have hC2e : ∀ w', C2 w' → (MemOk [⟨B1, 62, [iV k, iV x, iV y]⟩] w' ∧ Keep Nn w w' ∧ True) := fun w' h => by rw [hC2d] at h; exact h
         refine sxdraw (C := C2) (.leaf [(0, true), (1, true), (2, false), (3, true)]) (by kernel_rfl) (by kernel_rfl) (by as_aux_lemma => kernel_rfl) rfl (by as_aux_lemma => kernel_rfl) (by kernel_rfl) (hC2i _ ⟨hM.sub (.cons_cons _ (.cons _ .slnil)), hk0, trivial⟩) ?_
         refine sxleaf ?_
         have hC := (hC2i _ ⟨hM.sub (.cons_cons _ (.cons _ .slnil)), hk0, trivial⟩)
         refine qd hf hC (fun w' h => (hC2e w' h).1) [33, 32, 7, 6] [{ sp := true }, { os := [.ex (.iface 185 (.pointer (some (E 0))))] }] (env' := [(33, .val (.iface 185 (.pointer (some (E 0))))), (32, .val (.agg #[iV 0, iV 0, iV 0])), (7, .val (.nilIface)), (6, eP (B1 + 1) 0)]) (ob := [(∀ w', C2 w' → w'.cell? ⟨0, 0, none⟩ = some (.iface 185 (.pointer (some (E 0)))))]) (Ao (fun w' hc => by obtain ⟨hM, hk0, hO⟩ := hC2e w' hc; exact (hk0.cell (hG.cell 0 (by decide)) (fun h => h)))) ?_
         clear hf; intro a hf
         refine scstep rfl ?_
         have hMs : MemOk [⟨B1 + 1, 62, [iV 0, iV 0, iV 0]⟩] w3.drew := hM.sub (.cons _ (.cons_cons _ .slnil))
         refine q1 hf hMs [33, 7, 6] [{ os := [.st 0 0, .st 0 1, .st 0 2] }] (env' := fun B9 => [(33, .val (.iface 185 (.pointer (some (E 0))))), (7, .val (.nilIface)), (6, eP (B1 + 1) 0)]) (M' := fun B9 => [⟨B1 + 1, 62, [iV 0, iV 0, iV 0]⟩]) (ob := fun B9 => [Ad (B1 + 1) 0, Ad (B1 + 1) 1, Ad (B1 + 1) 2]) (fun B9 => (Ac (ad _ _) (Ac (ad _ _) (Ao (ad _ _))))) ?_
         clear hf hMs; intro a w4 B9 hf hMs hB hk; clear hB
         have hM : MemOk [⟨B1, 62, [iV k, iV x, iV y]⟩, ⟨B1 + 1, 62, [iV 0, iV 0, iV 0]⟩] w4 := MemOk.upd (M1 := [⟨B1, 62, [iV k, iV x, iV y]⟩]) (M2 := []) hM hk hMs rfl
         have hk0 := hk0.then hk (by intro i hi h; simp only [Is, Mem.names, List.map_cons, List.map_nil, List.mem_cons, List.not_mem_nil, or_false] at h; omega)
         clear hk hMs
         have hC := (hC2i _ ⟨hM.sub (.cons_cons _ (.cons _ .slnil)), hk0, trivial⟩)
         refine scdone hC ?_
         refine qd hf hC (fun w' h => (hC2e w' h).1) [7, 6] [{}] (env' := [(7, .val (.iface 185 (.pointer (some (E 0))))), (6, eP (B1 + 1) 0)]) (ob := []) An ?_
         clear hf; intro a hf
         clear hC
         show K7 _ _
         refine hK7 _ _ ?_
         refine wp_ret ?_
         refine qr (fn := Tryd.f30) hf hM [.ld 1 0, .ld 1 1, .ld 1 2] (l := [.agg #[iV 0, iV 0, iV 0], .iface 185 (.pointer (some (E 0)))]) (ob := [Ad (B1 + 1) 0, Ad (B1 + 1) 1, Ad (B1 + 1) 2]) (Ac (ad _ _) (Ac (ad _ _) (Ao (ad _ _)))) ?_
         show (.tuple #[.agg #[iV 0, iV 0, iV 0], .iface 185 (.pointer (some (E 0)))] : Value) = .tuple #[.agg #[iV 0, iV 0, iV 0], .iface 185 (.pointer (some (E 4)))] ∧ Keep Nn w w4
         first | exact ⟨rfl, hk0⟩ | (exfalso; simp_all [mvPos])
       · have hc3 := hc3r
         try simp only [Bool.or_eq_true, Bool.and_eq_true, Bool.not_eq_true', Bool.not_eq_false', Bool.or_eq_false_iff, Bool.and_eq_false_iff, decide_eq_true_eq, decide_eq_false_iff_not, beq_iff_eq, bne_iff_ne, beq_eq_false_iff_ne, bne_eq_false_iff_eq, Bool.and_true, Bool.true_and, ne_eq] at hc3
         refine wp_skip ?_
         refine hK5 _ _ ?_
         refine wp_seq_k (fun K8 hK8 => ?_)
         refine wp_region_lit ?_
         refine q1 hf hM [7, 6, 3] [{}, { os := [.ld 0 1] }, {}, {}, {}, { os := [.ld 0 2] }, {}, {}, {}, { os := [.st 0 1] }, {}, { os := [.st 0 2] }] (env' := fun B10 => [(7, .val (.nilIface)), (6, eP (B1 + 1) 0), (3, eP B1 0)]) (M' := fun B10 => [⟨B1, 62, [iV k, iV (IntKind.i64.wrap (x + dx)), iV (IntKind.i64.wrap (y + dy))]⟩, ⟨B1 + 1, 62, [iV 0, iV 0, iV 0]⟩]) (ob := fun B10 => [Ad B1 1, Ad B1 2, Ad B1 1, Ad B1 2]) (fun B10 => (Ac (ad _ _) (Ac (ad _ _) (Ac (ad _ _) (Ao (ad _ _)))))) ?_
         clear hf hM; intro a w5 B10 hf hM hB hk
         have hbB10 : w.heap.size ≤ B10 := by have := hk0.size; omega
         have hk0 := hk0.then hk (by intro i hi h; simp only [Is, Mem.names, List.map_cons, List.map_nil, List.mem_cons, List.not_mem_nil, or_false] at h; omega)
         clear hk hB
         refine wpList_nil ?_
         refine hK8 _ _ ?_
         refine wp_seq_k (fun K9 hK9 => ?_)
         refine wp_seq_k (fun K10 hK10 => ?_)
         refine wp_region_lit ?_
         refine q0 hf hM [44, 7, 6, 3] [{ os := [.ld 0 0, .ld 0 1, .ld 0 2] }] (env' := [(44, .val (.agg #[iV k, iV (IntKind.i64.wrap (x + dx)), iV (IntKind.i64.wrap (y + dy))])), (7, .val (.nilIface)), (6, eP (B1 + 1) 0), (3, eP B1 0)]) (ob := [Ad B1 0, Ad B1 1, Ad B1 2]) (Ac (ad _ _) (Ac (ad _ _) (Ao (ad _ _)))) ?_
         clear hf; intro a hf
         rcases Bool.eq_false_or_eq_true (vkind ⟨k, (IntKind.i64.wrap (x + dx)), (IntKind.i64.wrap (y + dy))⟩) with hs3r | hs3r
         · have hs3 := hs3r
           try simp only [Bool.or_eq_true, Bool.and_eq_true, Bool.not_eq_true', Bool.not_eq_false', Bool.or_eq_false_iff, Bool.and_eq_false_iff, decide_eq_true_eq, decide_eq_false_iff_not, beq_iff_eq, bne_iff_ne, beq_eq_false_iff_ne, bne_eq_false_iff_eq, Bool.and_true, Bool.true_and, ne_eq] at hs3
           rcases Bool.eq_false_or_eq_true (vrange ⟨k, (IntKind.i64.wrap (x + dx)), (IntKind.i64.wrap (y + dy))⟩) with hs4r | hs4r
           · have hs4 := hs4r
             try simp only [Bool.or_eq_true, Bool.and_eq_true, Bool.not_eq_true', Bool.not_eq_false', Bool.or_eq_false_iff, Bool.and_eq_false_iff, decide_eq_true_eq, decide_eq_false_iff_not, beq_iff_eq, bne_iff_ne, beq_eq_false_iff_ne, bne_eq_false_iff_eq, Bool.and_true, Bool.true_and, ne_eq] at hs4
             refine sxcall hf rfl rfl rfl rfl (g := 31) (vs := [.agg #[iV k, iV (IntKind.i64.wrap (x + dx)), iV (IntKind.i64.wrap (y + dy))]]) (ob := []) (by as_aux_lemma => kernel_rfl) An enters31 (scheck_ok E k (IntKind.i64.wrap (x + dx)) (IntKind.i64.wrap (y + dy)) w5 hs3r hs4r (hG.keep hk0 (fun _ h => h))) ?_
             clear hf; rintro _ w6 a ⟨rfl, hk⟩ hf
             have hM := hM.keepNn hk
             have hk0 := hk0.trans hk.nn
             clear hk
             refine q0 hf hM [46, 7, 6, 3] [{}] (env' := [(46, eB false), (7, .val (.nilIface)), (6, eP (B1 + 1) 0), (3, eP B1 0)]) (ob := []) An ?_
             clear hf; intro a hf
             refine wpList_nil ?_
             refine hK10 _ _ ?_
             refine sxcond hf (b := false) (by kernel_rfl) (fun h => by cases h) (fun _ => ?_)
             refine wp_skip ?_
             refine hK9 _ _ ?_
             refine wp_seq_k (fun K11 hK11 => ?_)
             refine wp_region_lit ?_
             refine q1 hf hM [7, 6] [{ os := [.ld 0 0, .ld 0 1, .ld 0 2] }, { os := [.st 1 0, .st 1 1, .st 1 2] }, {}] (env' := fun B13 => [(7, .val (.nilIface)), (6, eP (B1 + 1) 0)]) (M' := fun B13 => [⟨B1, 62, [iV k, iV (IntKind.i64.wrap (x + dx)), iV (IntKind.i64.wrap (y + dy))]⟩, ⟨B1 + 1, 62, [iV k, iV (IntKind.i64.wrap (x + dx)), iV (IntKind.i64.wrap (y + dy))]⟩]) (ob := fun B13 => [Ad B1 0, Ad B1 1, Ad B1 2, Ad (B1 + 1) 0, Ad (B1 + 1) 1, Ad (B1 + 1) 2]) (fun B13 => (Ac (ad _ _) (Ac (ad _ _) (Ac (ad _ _) (Ac (ad _ _) (Ac (ad _ _) (Ao (ad _ _)))))))) ?_
             clear hf hM; intro a w7 B13 hf hM hB hk
             have hbB13 : w.heap.size ≤ B13 := by have := hk0.size; omega
             have hk0 := hk0.then hk (by intro i hi h; simp only [Is, Mem.names, List.map_cons, List.map_nil, List.mem_cons, List.not_mem_nil, or_false] at h; omega)
             clear hk hB
             refine wpList_nil ?_
             refine hK11 _ _ ?_
             refine wp_ret ?_
             refine qr (fn := Tryd.f30) hf hM [.ld 1 0, .ld 1 1, .ld 1 2] (l := [.agg #[iV k, iV (IntKind.i64.wrap (x + dx)), iV (IntKind.i64.wrap (y + dy))], .nilIface]) (ob := [Ad (B1 + 1) 0, Ad (B1 + 1) 1, Ad (B1 + 1) 2]) (Ac (ad _ _) (Ac (ad _ _) (Ao (ad _ _)))) ?_
             show (.tuple #[.agg #[iV k, iV (IntKind.i64.wrap (x + dx)), iV (IntKind.i64.wrap (y + dy))], .nilIface] : Value) = .tuple #[.agg #[iV 0, iV 0, iV 0], .iface 185 (.pointer (some (E 4)))] ∧ Keep Nn w w7
             first | exact ⟨rfl, hk0⟩ | (exfalso; simp_all [mvPos])
           · have hs4 := hs4r
             try simp only [Bool.or_eq_true, Bool.and_eq_true, Bool.not_eq_true', Bool.not_eq_false', Bool.or_eq_false_iff, Bool.and_eq_false_iff, decide_eq_true_eq, decide_eq_false_iff_not, beq_iff_eq, bne_iff_ne, beq_eq_false_iff_ne, bne_eq_false_iff_eq, Bool.and_true, Bool.true_and, ne_eq] at hs4
             refine sxcall hf rfl rfl rfl rfl (g := 31) (vs := [.agg #[iV k, iV (IntKind.i64.wrap (x + dx)), iV (IntKind.i64.wrap (y + dy))]]) (ob := []) (by as_aux_lemma => kernel_rfl) An enters31 (scheck_range E k (IntKind.i64.wrap (x + dx)) (IntKind.i64.wrap (y + dy)) w5 hs3r hs4r (hG.keep hk0 (fun _ h => h))) ?_
             clear hf; rintro _ w8 a ⟨rfl, hk⟩ hf
             have hM := hM.keepNn hk
             have hk0 := hk0.trans hk.nn
             clear hk
             refine q0 hf hM [46, 7, 6, 3] [{}] (env' := [(46, eB true), (7, .val (.nilIface)), (6, eP (B1 + 1) 0), (3, eP B1 0)]) (ob := []) An ?_
             clear hf; intro a hf
             refine wpList_nil ?_
             refine hK10 _ _ ?_
             refine sxcond hf (b := true) (by kernel_rfl) (fun _ => ?_) (fun h => by cases h)
             refine wp_seq_k (fun K12 hK12 => ?_)
             replace hM := hM.drew; replace hk0 := hk0.drew
             obtain ⟨C3, hC3d⟩ : ∃ C : World → Prop, C = fun w' => MemOk [⟨B1, 62, [iV k, iV (IntKind.i64.wrap (x + dx)), iV (IntKind.i64.wrap (y + dy))]⟩] w' ∧ Keep Nn w w' ∧ True := ⟨_, rfl⟩
             have hC3i : ∀ w', (MemOk [⟨B1, 62, [iV k, iV (IntKind.i64.wrap (x + dx)), iV (IntKind.i64.wrap (y + dy))]⟩] w' ∧ Keep Nn w w' ∧ True) → C3 w' := fun w' h => by rw [hC3d]; exact h
             have hC3e : ∀ w', C3 w' → (MemOk [⟨B1, 62, [iV k, iV (IntKind.i64.wrap (x + dx)), iV (IntKind.i64.wrap (y + dy))]⟩] w' ∧ Keep Nn w w' ∧ True) := fun w' h => by rw [hC3d] at h; exact h
             refine sxdraw (C := C3) (.leaf [(0, true), (1, true), (2, false), (3, true)]) (by kernel_rfl) (by kernel_rfl) (by as_aux_lemma => kernel_rfl) rfl (by as_aux_lemma => kernel_rfl) (by kernel_rfl) (hC3i _ ⟨hM.sub (.cons_cons _ (.cons _ .slnil)), hk0, trivial⟩) ?_
             refine sxleaf ?_
             have hC := (hC3i _ ⟨hM.sub (.cons_cons _ (.cons _ .slnil)), hk0, trivial⟩)
             refine qd hf hC (fun w' h => (hC3e w' h).1) [48, 47, 7, 6] [{ sp := true }, { os := [.ex (.iface 185 (.pointer (some (E 0))))] }] (env' := [(48, .val (.iface 185 (.pointer (some (E 0))))), (47, .val (.agg #[iV 0, iV 0, iV 0])), (7, .val (.nilIface)), (6, eP (B1 + 1) 0)]) (ob := [(∀ w', C3 w' → w'.cell? ⟨0, 0, none⟩ = some (.iface 185 (.pointer (some (E 0)))))]) (Ao (fun w' hc => by obtain ⟨hM, hk0, hO⟩ := hC3e w' hc; exact (hk0.cell (hG.cell 0 (by decide)) (fun h => h)))) ?_
             clear hf; intro a hf
             refine scstep rfl ?_
             have hMs : MemOk [⟨B1 + 1, 62, [iV 0, iV 0, iV 0]⟩] w8.drew := hM.sub (.cons _ (.cons_cons _ .slnil))
             refine q1 hf hMs [48, 7, 6] [{ os := [.st 0 0, .st 0 1, .st 0 2] }] (env' := fun B15 => [(48, .val (.iface 185 (.pointer (some (E 0))))), (7, .val (.nilIface)), (6, eP (B1 + 1) 0)]) (M' := fun B15 => [⟨B1 + 1, 62, [iV 0, iV 0, iV 0]⟩]) (ob := fun B15 => [Ad (B1 + 1) 0, Ad (B1 + 1) 1, Ad (B1 + 1) 2]) (fun B15 => (Ac (ad _ _) (Ac (ad _ _) (Ao (ad _ _))))) ?_
             clear hf hMs; intro a w9 B15 hf hMs hB hk; clear hB
             have hM : MemOk [⟨B1, 62, [iV k, iV (IntKind.i64.wrap (x + dx)), iV (IntKind.i64.wrap (y + dy))]⟩, ⟨B1 + 1, 62, [iV 0, iV 0, iV 0]⟩] w9 := MemOk.upd (M1 := [⟨B1, 62, [iV k, iV (IntKind.i64.wrap (x + dx)), iV (IntKind.i64.wrap (y + dy))]⟩]) (M2 := []) hM hk hMs rfl
             have hk0 := hk0.then hk (by intro i hi h; simp only [Is, Mem.names, List.map_cons, List.map_nil, List.mem_cons, List.not_mem_nil, or_false] at h; omega)
             clear hk hMs
             have hC := (hC3i _ ⟨hM.sub (.cons_cons _ (.cons _ .slnil)), hk0, trivial⟩)
             refine scdone hC ?_
             refine qd hf hC (fun w' h => (hC3e w' h).1) [7, 6] [{}] (env' := [(7, .val (.iface 185 (.pointer (some (E 0))))), (6, eP (B1 + 1) 0)]) (ob := []) An ?_
             clear hf; intro a hf
             clear hC
             show K12 _ _
             refine hK12 _ _ ?_
             refine wp_ret ?_
             refine qr (fn := Tryd.f30) hf hM [.ld 1 0, .ld 1 1, .ld 1 2] (l := [.agg #[iV 0, iV 0, iV 0], .iface 185 (.pointer (some (E 0)))]) (ob := [Ad (B1 + 1) 0, Ad (B1 + 1) 1, Ad (B1 + 1) 2]) (Ac (ad _ _) (Ac (ad _ _) (Ao (ad _ _)))) ?_
             show (.tuple #[.agg #[iV 0, iV 0, iV 0], .iface 185 (.pointer (some (E 0)))] : Value) = .tuple #[.agg #[iV 0, iV 0, iV 0], .iface 185 (.pointer (some (E 4)))] ∧ Keep Nn w w9
             first | exact ⟨rfl, hk0⟩ | (exfalso; simp_all [mvPos])
         · have hs3 := hs3r
           try simp only [Bool.or_eq_true, Bool.and_eq_true, Bool.not_eq_true', Bool.not_eq_false', Bool.or_eq_false_iff, Bool.and_eq_false_iff, decide_eq_true_eq, decide_eq_false_iff_not, beq_iff_eq, bne_iff_ne, beq_eq_false_iff_ne, bne_eq_false_iff_eq, Bool.and_true, Bool.true_and, ne_eq] at hs3
           refine sxcall hf rfl rfl rfl rfl (g := 31) (vs := [.agg #[iV k, iV (IntKind.i64.wrap (x + dx)), iV (IntKind.i64.wrap (y + dy))]]) (ob := []) (by as_aux_lemma => kernel_rfl) An enters31 (scheck_kind E k (IntKind.i64.wrap (x + dx)) (IntKind.i64.wrap (y + dy)) w5 hs3r (hG.keep hk0 (fun _ h => h))) ?_
           clear hf; rintro _ w10 a ⟨rfl, hk⟩ hf
           have hM := hM.keepNn hk
           have hk0 := hk0.trans hk.nn
           clear hk
           refine q0 hf hM [46, 7, 6, 3] [{}] (env' := [(46, eB true), (7, .val (.nilIface)), (6, eP (B1 + 1) 0), (3, eP B1 0)]) (ob := []) An ?_
           clear hf; intro a hf
           refine wpList_nil ?_
           refine hK10 _ _ ?_
           refine sxcond hf (b := true) (by kernel_rfl) (fun _ => ?_) (fun h => by cases h)
           refine wp_seq_k (fun K13 hK13 => ?_)
           replace hM := hM.drew; replace hk0 := hk0.drew
           obtain ⟨C4, hC4d⟩ : ∃ C : World → Prop, C = fun w' => MemOk [⟨B1, 62, [iV k, iV (IntKind.i64.wrap (x + dx)), iV (IntKind.i64.wrap (y + dy))]⟩] w' ∧ Keep Nn w w' ∧ True := ⟨_, rfl⟩
           have hC4i : ∀ w', (MemOk [⟨B1, 62, [iV k, iV (IntKind.i64.wrap (x + dx)), iV (IntKind.i64.wrap (y + dy))]⟩] w' ∧ Keep Nn w w' ∧ True) → C4 w' := fun w' h => by rw [hC4d]; exact h
           have hC4e : ∀ w', C4 w' → (MemOk [⟨B1, 62, [iV k, iV (IntKind.i64.wrap (x + dx)), iV (IntKind.i64.wrap (y + dy))]⟩] w' ∧ Keep Nn w w' ∧ True) := fun w' h => by rw [hC4d] at h; exact h
           refine sxdraw (C := C4) (.leaf [(0, true), (1, true), (2, false), (3, true)]) (by kernel_rfl) (by kernel_rfl) (by as_aux_lemma => kernel_rfl) rfl (by as_aux_lemma => kernel_rfl) (by kernel_rfl) (hC4i _ ⟨hM.sub (.cons_cons _ (.cons _ .slnil)), hk0, trivial⟩) ?_
           refine sxleaf ?_
           have hC := (hC4i _ ⟨hM.sub (.cons_cons _ (.cons _ .slnil)), hk0, trivial⟩)
           refine qd hf hC (fun w' h => (hC4e w' h).1) [48, 47, 7, 6] [{ sp := true }, { os := [.ex (.iface 185 (.pointer (some (E 0))))] }] (env' := [(48, .val (.iface 185 (.pointer (some (E 0))))), (47, .val (.agg #[iV 0, iV 0, iV 0])), (7, .val (.nilIface)), (6, eP (B1 + 1) 0)]) (ob := [(∀ w', C4 w' → w'.cell? ⟨0, 0, none⟩ = some (.iface 185 (.pointer (some (E 0)))))]) (Ao (fun w' hc => by obtain ⟨hM, hk0, hO⟩ := hC4e w' hc; exact (hk0.cell (hG.cell 0 (by decide)) (fun h => h)))) ?_
           clear hf; intro a hf
           refine scstep rfl ?_
           have hMs : MemOk [⟨B1 + 1, 62, [iV 0, iV 0, iV 0]⟩] w10.drew := hM.sub (.cons _ (.cons_cons _ .slnil))
           refine q1 hf hMs [48, 7, 6] [{ os := [.st 0 0, .st 0 1, .st 0 2] }] (env' := fun B17 => [(48, .val (.iface 185 (.pointer (some (E 0))))), (7, .val (.nilIface)), (6, eP (B1 + 1) 0)]) (M' := fun B17 => [⟨B1 + 1, 62, [iV 0, iV 0, iV 0]⟩]) (ob := fun B17 => [Ad (B1 + 1) 0, Ad (B1 + 1) 1, Ad (B1 + 1) 2]) (fun B17 => (Ac (ad _ _) (Ac (ad _ _) (Ao (ad _ _))))) ?_
           clear hf hMs; intro a w11 B17 hf hMs hB hk; clear hB
           have hM : MemOk [⟨B1, 62, [iV k, iV (IntKind.i64.wrap (x + dx)), iV (IntKind.i64.wrap (y + dy))]⟩, ⟨B1 + 1, 62, [iV 0, iV 0, iV 0]⟩] w11 := MemOk.upd (M1 := [⟨B1, 62, [iV k, iV (IntKind.i64.wrap (x + dx)), iV (IntKind.i64.wrap (y + dy))]⟩]) (M2 := []) hM hk hMs rfl
           have hk0 := hk0.then hk (by intro i hi h; simp only [Is, Mem.names, List.map_cons, List.map_nil, List.mem_cons, List.not_mem_nil, or_false] at h; omega)
           clear hk hMs
           have hC := (hC4i _ ⟨hM.sub (.cons_cons _ (.cons _ .slnil)), hk0, trivial⟩)
           refine scdone hC ?_
           refine qd hf hC (fun w' h => (hC4e w' h).1) [7, 6] [{}] (env' := [(7, .val (.iface 185 (.pointer (some (E 0))))), (6, eP (B1 + 1) 0)]) (ob := []) An ?_
           clear hf; intro a hf
           clear hC
           show K13 _ _
           refine hK13 _ _ ?_
           refine wp_ret ?_
           refine qr (fn := Tryd.f30) hf hM [.ld 1 0, .ld 1 1, .ld 1 2] (l := [.agg #[iV 0, iV 0, iV 0], .iface 185 (.pointer (some (E 0)))]) (ob := [Ad (B1 + 1) 0, Ad (B1 + 1) 1, Ad (B1 + 1) 2]) (Ac (ad _ _) (Ac (ad _ _) (Ao (ad _ _)))) ?_
           show (.tuple #[.agg #[iV 0, iV 0, iV 0], .iface 185 (.pointer (some (E 0)))] : Value) = .tuple #[.agg #[iV 0, iV 0, iV 0], .iface 185 (.pointer (some (E 4)))] ∧ Keep Nn w w11
           first | exact ⟨rfl, hk0⟩ | (exfalso; simp_all [mvPos])
     · have hs2 := hs2r
       try simp only [Bool.or_eq_true, Bool.and_eq_true, Bool.not_eq_true', Bool.not_eq_false', Bool.or_eq_false_iff, Bool.and_eq_false_iff, decide_eq_true_eq, decide_eq_false_iff_not, beq_iff_eq, bne_iff_ne, beq_eq_false_iff_ne, bne_eq_false_iff_eq, Bool.and_true, Bool.true_and, ne_eq] at hs2
       refine sxcallg hf rfl rfl rfl rfl rfl (g := 31) (vs := [.agg #[iV k, iV x, iV y]]) (ob := []) (by as_aux_lemma => kernel_rfl) An enters31 (scheck_range E k x y w1 hs1r hs2r (hG.keep hk0 (fun _ h => h))) ?_
       clear hf; rintro _ w12 a ⟨rfl, hk⟩ hf
       have hM := hM.keepNn hk
       have hk0 := hk0.trans hk.nn
       clear hk
       refine q0 hf hM [15, 7, 6, 3, 1, 2] [{}, {}] (env' := [(15, eB true), (7, .val (.nilIface)), (6, eP (B1 + 1) 0), (3, eP B1 0), (1, eI dx), (2, eI dy)]) (ob := [false = false]) (Ao rfl) ?_
       clear hf; intro a hf
       refine wpList_nil ?_
       refine hK3 _ _ ?_
       refine sxcond hf (b := true) (by kernel_rfl) (fun _ => ?_) (fun h => by cases h)
       refine wp_seq_k (fun K14 hK14 => ?_)
       replace hM := hM.drew; replace hk0 := hk0.drew
       obtain ⟨C5, hC5d⟩ : ∃ C : World → Prop, C = fun w' => MemOk [⟨B1, 62, [iV k, iV x, iV y]⟩] w' ∧ Keep Nn w w' ∧ True := ⟨_, rfl⟩
       have hC5i : ∀ w', (MemOk [⟨B1, 62, [iV k, iV x, iV y]⟩] w' ∧ Keep Nn w w' ∧ True) → C5 w' := fun w' h => by rw [hC5d]; exact h
       have hC5e : ∀ w', C5 w' → (MemOk [⟨B1, 62, [iV k, iV x, iV y]⟩] w' ∧ Keep Nn w w' ∧ True) := fun w' h => by rw [hC5d] at h; exact h
       refine sxdraw (C := C5) (.leaf [(0, true), (1, true), (2, false), (3, true)]) (by kernel_rfl) (by kernel_rfl) (by as_aux_lemma => kernel_rfl) rfl (by as_aux_lemma => kernel_rfl) (by kernel_rfl) (hC5i _ ⟨hM.sub (.cons_cons _ (.cons _ .slnil)), hk0, trivial⟩) ?_
       refine sxleaf ?_
       have hC := (hC5i _ ⟨hM.sub (.cons_cons _ (.cons _ .slnil)), hk0, trivial⟩)
       refine qd hf hC (fun w' h => (hC5e w' h).1) [17, 16, 7, 6] [{ sp := true }, { os := [.ex (.iface 185 (.pointer (some (E 4))))] }] (env' := [(17, .val (.iface 185 (.pointer (some (E 4))))), (16, .val (.agg #[iV 0, iV 0, iV 0])), (7, .val (.nilIface)), (6, eP (B1 + 1) 0)]) (ob := [(∀ w', C5 w' → w'.cell? ⟨4, 0, none⟩ = some (.iface 185 (.pointer (some (E 4)))))]) (Ao (fun w' hc => by obtain ⟨hM, hk0, hO⟩ := hC5e w' hc; exact (hk0.cell (hG.cell 4 (by decide)) (fun h => h)))) ?_
       clear hf; intro a hf
       refine scstep rfl ?_
       have hMs : MemOk [⟨B1 + 1, 62, [iV 0, iV 0, iV 0]⟩] w12.drew := hM.sub (.cons _ (.cons_cons _ .slnil))
       refine q1 hf hMs [17, 7, 6] [{ os := [.st 0 0, .st 0 1, .st 0 2] }] (env' := fun B19 => [(17, .val (.iface 185 (.pointer (some (E 4))))), (7, .val (.nilIface)), (6, eP (B1 + 1) 0)]) (M' := fun B19 => [⟨B1 + 1, 62, [iV 0, iV 0, iV 0]⟩]) (ob := fun B19 => [Ad (B1 + 1) 0, Ad (B1 + 1) 1, Ad (B1 + 1) 2]) (fun B19 => (Ac (ad _ _) (Ac (ad _ _) (Ao (ad _ _))))) ?_
       clear hf hMs; intro a w13 B19 hf hMs hB hk; clear hB
       have hM : MemOk [⟨B1, 62, [iV k, iV x, iV y]⟩, ⟨B1 + 1, 62, [iV 0, iV 0, iV 0]⟩] w13 := MemOk.upd (M1 := [⟨B1, 62, [iV k, iV x, iV y]⟩]) (M2 := []) hM hk hMs rfl
       have hk0 := hk0.then hk (by intro i hi h; simp only [Is, Mem.names, List.map_cons, List.map_nil, List.mem_cons, List.not_mem_nil, or_false] at h; omega)
       clear hk hMs
       have hC := (hC5i _ ⟨hM.sub (.cons_cons _ (.cons _ .slnil)), hk0, trivial⟩)
       refine scdone hC ?_
       refine qd hf hC (fun w' h => (hC5e w' h).1) [7, 6] [{}] (env' := [(7, .val (.iface 185 (.pointer (some (E 4))))), (6, eP (B1 + 1) 0)]) (ob := []) An ?_
       clear hf; intro a hf
       clear hC
       show K14 _ _
       refine hK14 _ _ ?_
       refine wp_ret ?_
       refine qr (fn := Tryd.f30) hf hM [.ld 1 0, .ld 1 1, .ld 1 2] (l := [.agg #[iV 0, iV 0, iV 0], .iface 185 (.pointer (some (E 4)))]) (ob := [Ad (B1 + 1) 0, Ad (B1 + 1) 1, Ad (B1 + 1) 2]) (Ac (ad _ _) (Ac (ad _ _) (Ao (ad _ _)))) ?_
       show (.tuple #[.agg #[iV 0, iV 0, iV 0], .iface 185 (.pointer (some (E 4)))] : Value) = .tuple #[.agg #[iV 0, iV 0, iV 0], .iface 185 (.pointer (some (E 4)))] ∧ Keep Nn w w13
       first | exact ⟨rfl, hk0⟩ | (exfalso; simp_all [mvPos])
   · have hs1 := hs1r
     try simp only [Bool.or_eq_true, Bool.and_eq_true, Bool.not_eq_true', Bool.not_eq_false', Bool.or_eq_false_iff, Bool.and_eq_false_iff, decide_eq_true_eq, decide_eq_false_iff_not, beq_iff_eq, bne_iff_ne, beq_eq_false_iff_ne, bne_eq_false_iff_eq, Bool.and_true, Bool.true_and, ne_eq] at hs1
     refine sxcallg hf rfl rfl rfl rfl rfl (g := 31) (vs := [.agg #[iV k, iV x, iV y]]) (ob := []) (by as_aux_lemma => kernel_rfl) An enters31 (scheck_kind E k x y w1 hs1r (hG.keep hk0 (fun _ h => h))) ?_
     clear hf; rintro _ w14 a ⟨rfl, hk⟩ hf
     have hM := hM.keepNn hk
     have hk0 := hk0.trans hk.nn
     clear hk
     refine q0 hf hM [15, 7, 6, 3, 1, 2] [{}, {}] (env' := [(15, eB true), (7, .val (.nilIface)), (6, eP (B1 + 1) 0), (3, eP B1 0), (1, eI dx), (2, eI dy)]) (ob := [false = false]) (Ao rfl) ?_
     clear hf; intro a hf
     refine wpList_nil ?_
     refine hK3 _ _ ?_
     refine sxcond hf (b := true) (by kernel_rfl) (fun _ => ?_) (fun h => by cases h)
     refine wp_seq_k (fun K15 hK15 => ?_)
     replace hM := hM.drew; replace hk0 := hk0.drew
     obtain ⟨C6, hC6d⟩ : ∃ C : World → Prop, C = fun w' => MemOk [⟨B1, 62, [iV k, iV x, iV y]⟩] w' ∧ Keep Nn w w' ∧ True := ⟨_, rfl⟩
     have hC6i : ∀ w', (MemOk [⟨B1, 62, [iV k, iV x, iV y]⟩] w' ∧ Keep Nn w w' ∧ True) → C6 w' := fun w' h => by rw [hC6d]; exact h
     have hC6e : ∀ w', C6 w' → (MemOk [⟨B1, 62, [iV k, iV x, iV y]⟩] w' ∧ Keep Nn w w' ∧ True) := fun w' h => by rw [hC6d] at h; exact h
     refine sxdraw (C := C6) (.leaf [(0, true), (1, true), (2, false), (3, true)]) (by kernel_rfl) (by kernel_rfl) (by as_aux_lemma => kernel_rfl) rfl (by as_aux_lemma => kernel_rfl) (by kernel_rfl) (hC6i _ ⟨hM.sub (.cons_cons _ (.cons _ .slnil)), hk0, trivial⟩) ?_
     refine sxleaf ?_
     have hC := (hC6i _ ⟨hM.sub (.cons_cons _ (.cons _ .slnil)), hk0, trivial⟩)
     refine qd hf hC (fun w' h => (hC6e w' h).1) [17, 16, 7, 6] [{ sp := true }, { os := [.ex (.iface 185 (.pointer (some (E 4))))] }] (env' := [(17, .val (.iface 185 (.pointer (some (E 4))))), (16, .val (.agg #[iV 0, iV 0, iV 0])), (7, .val (.nilIface)), (6, eP (B1 + 1) 0)]) (ob := [(∀ w', C6 w' → w'.cell? ⟨4, 0, none⟩ = some (.iface 185 (.pointer (some (E 4)))))]) (Ao (fun w' hc => by obtain ⟨hM, hk0, hO⟩ := hC6e w' hc; exact (hk0.cell (hG.cell 4 (by decide)) (fun h => h)))) ?_
     clear hf; intro a hf
     refine scstep rfl ?_
     have hMs : MemOk [⟨B1 + 1, 62, [iV 0, iV 0, iV 0]⟩] w14.drew := hM.sub (.cons _ (.cons_cons _ .slnil))
     refine q1 hf hMs [17, 7, 6] [{ os := [.st 0 0, .st 0 1, .st 0 2] }] (env' := fun B21 => [(17, .val (.iface 185 (.pointer (some (E 4))))), (7, .val (.nilIface)), (6, eP (B1 + 1) 0)]) (M' := fun B21 => [⟨B1 + 1, 62, [iV 0, iV 0, iV 0]⟩]) (ob := fun B21 => [Ad (B1 + 1) 0, Ad (B1 + 1) 1, Ad (B1 + 1) 2]) (fun B21 => (Ac (ad _ _) (Ac (ad _ _) (Ao (ad _ _))))) ?_
     clear hf hMs; intro a w15 B21 hf hMs hB hk; clear hB
     have hM : MemOk [⟨B1, 62, [iV k, iV x, iV y]⟩, ⟨B1 + 1, 62, [iV 0, iV 0, iV 0]⟩] w15 := MemOk.upd (M1 := [⟨B1, 62, [iV k, iV x, iV y]⟩]) (M2 := []) hM hk hMs rfl
     have hk0 := hk0.then hk (by intro i hi h; simp only [Is, Mem.names, List.map_cons, List.map_nil, List.mem_cons, List.not_mem_nil, or_false] at h; omega)
     clear hk hMs
     have hC := (hC6i _ ⟨hM.sub (.cons_cons _ (.cons _ .slnil)), hk0, trivial⟩)
     refine scdone hC ?_
     refine qd hf hC (fun w' h => (hC6e w' h).1) [7, 6] [{}] (env' := [(7, .val (.iface 185 (.pointer (some (E 4))))), (6, eP (B1 + 1) 0)]) (ob := []) An ?_
     clear hf; intro a hf
     clear hC
     show K15 _ _
     refine hK15 _ _ ?_
     refine wp_ret ?_
     refine qr (fn := Tryd.f30) hf hM [.ld 1 0, .ld 1 1, .ld 1 2] (l := [.agg #[iV 0, iV 0, iV 0], .iface 185 (.pointer (some (E 4)))]) (ob := [Ad (B1 + 1) 0, Ad (B1 + 1) 1, Ad (B1 + 1) 2]) (Ac (ad _ _) (Ac (ad _ _) (Ao (ad _ _)))) ?_
     show (.tuple #[.agg #[iV 0, iV 0, iV 0], .iface 185 (.pointer (some (E 4)))] : Value) = .tuple #[.agg #[iV 0, iV 0, iV 0], .iface 185 (.pointer (some (E 4)))] ∧ Keep Nn w w15
     first | exact ⟨rfl, hk0⟩ | (exfalso; simp_all [mvPos])

set_option maxRecDepth 10000 in
set_option maxHeartbeats 1600000 in
theorem rmv_kind (k x y : Int) (dx dy : Int) (w : World) (hn0 : (mvPos k x y) = false) (hdx : -9223372036854775808 ≤ dx ∧ dx ≤ 9223372036854775807) (hdy : -9223372036854775808 ≤ dy ∧ dy ≤ 9223372036854775807) :
    Calls Tryd.prog 49 #[.agg #[iV k, iV x, iV y], iV dx, iV dy] w (Ret fun v w' => v = .tuple #[.agg #[iV 0, iV 0, iV 0], iV 5] ∧ Keep Nn w w') := by
 refine sxenter (n := 41) (args := [.agg #[iV k, iV x, iV y], iV dx, iV dy]) Tryd.func49 rfl rfl rfl fun a hf => ?_
 replace hf : Fr 41 [(0, .val (.agg #[iV k, iV x, iV y])), (1, eI dx), (2, eI dy)] a := hf
 have hM : MemOk [] w := MemOk.nil w
 have hk0 : Keep Nn w w := Keep.refl _ _
 have hps := hn0
 have hpc : k = 0 → vcheck ⟨k, x, y⟩ ≠ 0 := by
   intro h0 h1
   simp only [mvPos, h0, decide_true, Bool.true_and] at hps
   rw [vcheck] at h1
   cases hk1 : vkind ⟨k, x, y⟩ <;> cases hk2 : vrange ⟨k, x, y⟩ <;> simp_all
 refine wp_seq_k (fun K1 hK1 => ?_)
 refine wp_region_lit ?_
 refine q1 hf hM [6, 3, 1, 2] [{ os := [.nw] }, { os := [.nw] }, {}] (env' := fun B1 => [(6, eP (B1 + 1) 0), (3, eP B1 0), (1, eI dx), (2, eI dy)]) (M' := fun B1 => [⟨B1, 62, [iV k, iV x, iV y]⟩, ⟨B1 + 1, 62, [iV 0, iV 0, iV 0]⟩]) (ob := fun B1 => []) (fun B1 => An) ?_
 clear hf hM; intro a w1 B1 hf hM hB hk
 have hbB1 : w.heap.size ≤ B1 := by have := hk0.size; omega
 have hk0 := hk0.then hk (by intro i _ h; cases h)
 clear hk hB
 refine wpList_nil ?_
 refine hK1 _ _ ?_
 refine wp_seq_k (fun K2 hK2 => ?_)
 refine wp_seq_k (fun K3 hK3 => ?_)
 refine wp_region_lit ?_
 refine q0 hf hM [12, 6, 3, 1, 2] [{}, { os := [.ld 0 0] }, {}, {}] (env' := [(12, eB ((k : Int) != 0)), (6, eP (B1 + 1) 0), (3, eP B1 0), (1, eI dx), (2, eI dy)]) (ob := [Ad B1 0]) (Ao (ad _ _)) ?_
 clear hf; intro a hf
 rcases Bool.eq_false_or_eq_true ((k : Int) != 0) with hg1r | hg1r
 · have hg1 := (nN hg1r)
   have hf := hf.prune [12, 6, 3, 1, 2]
   replace hf : Fr 41 [(12, eB ((k : Int) != 0)), (6, eP (B1 + 1) 0), (3, eP B1 0), (1, eI dx), (2, eI dy)] a := hf
   replace hf := hf.conv (env' := [(12, eB true), (6, eP (B1 + 1) 0), (3, eP B1 0), (1, eI dx), (2, eI dy)]) (Ac (congrArg Value.bool hg1r) (Ac rfl (Ac rfl (Ac rfl (Ao rfl)))))
   refine q0 hf hM [13, 12, 6, 3, 1, 2] [{ g := .off }] (env' := [(13, .val (undef)), (12, eB true), (6, eP (B1 + 1) 0), (3, eP B1 0), (1, eI dx), (2, eI dy)]) (ob := [true = !false]) (Ao rfl) ?_
   clear hf; intro a hf
   refine q0 hf hM [16, 6, 3, 1, 2] [{ g := .off }, { g := .off }, {}] (env' := [(16, eB true), (6, eP (B1 + 1) 0), (3, eP B1 0), (1, eI dx), (2, eI dy)]) (ob := [true = !false, true = !false]) (Ac rfl (Ao rfl)) ?_
   clear hf; intro a hf
   refine wpList_nil ?_
   refine hK3 _ _ ?_
   refine sxcond hf (b := true) (by kernel_rfl) (fun _ => ?_) (fun h => by cases h)
   refine wp_seq_k (fun K4 hK4 => ?_)
   refine wp_region_lit ?_
   refine q1 hf hM [7, 6] [{ sp := true }, { os := [.st 1 0, .st 1 1, .st 1 2] }, {}] (env' := fun B5 => [(7, eI 5), (6, eP (B1 + 1) 0)]) (M' := fun B5 => [⟨B1, 62, [iV k, iV x, iV y]⟩, ⟨B1 + 1, 62, [iV 0, iV 0, iV 0]⟩]) (ob := fun B5 => [Ad (B1 + 1) 0, Ad (B1 + 1) 1, Ad (B1 + 1) 2]) (fun B5 => (Ac (ad _ _) (Ac (ad _ _) (Ao (ad _ _))))) ?_
   clear hf hM; intro a w2 B5 hf hM hB hk
   have hbB5 : w.heap.size ≤ B5 := by have := hk0.size; omega
   have hk0 := hk0.then hk (by intro i hi h; simp only [Is, Mem.names, List.map_cons, List.map_nil, List.mem_cons, List.not_mem_nil, or_false] at h; omega)
   clear hk hB
   refine wpList_nil ?_
   refine hK4 _ _ ?_
   refine wp_ret ?_
   refine qr (fn := Tryd.f49) hf hM [.ld 1 0, .ld 1 1, .ld 1 2] (l := [.agg #[iV 0, iV 0, iV 0], iV 5]) (ob := [Ad (B1 + 1) 0, Ad (B1 + 1) 1, Ad (B1 + 1) 2]) (Ac (ad _ _) (Ac (ad _ _) (Ao (ad _ _)))) ?_
   show (.tuple #[.agg #[iV 0, iV 0, iV 0], iV 5] : Value) = .tuple #[.agg #[iV 0, iV 0, iV 0], iV 5] ∧ Keep Nn w w2
   first | exact ⟨rfl, hk0⟩ | (exfalso; exact hpc (by omega) (by omega)) | (exfalso; simp_all)
 · have hg1 := (nM hg1r)
   have hf := hf.prune [12, 6, 3, 1, 2]
   replace hf : Fr 41 [(12, eB ((k : Int) != 0)), (6, eP (B1 + 1) 0), (3, eP B1 0), (1, eI dx), (2, eI dy)] a := hf
   replace hf := hf.conv (env' := [(12, eB false), (6, eP (B1 + 1) 0), (3, eP B1 0), (1, eI dx), (2, eI dy)]) (Ac (congrArg Value.bool hg1r) (Ac rfl (Ac rfl (Ac rfl (Ao rfl)))))
   refine q0 hf hM [13, 12, 6, 3, 1, 2] [{ os := [.ld 0 0, .ld 0 1, .ld 0 2] }] (env' := [(13, .val (.agg #[iV k, iV x, iV y])), (12, eB false), (6, eP (B1 + 1) 0), (3, eP B1 0), (1, eI dx), (2, eI dy)]) (ob := [false = false, Ad B1 0, Ad B1 1, Ad B1 2]) (Ac rfl (Ac (ad _ _) (Ac (ad _ _) (Ao (ad _ _))))) ?_
   clear hf; intro a hf
   refine sxcallg hf rfl rfl rfl rfl rfl (g := 34) (vs := [.agg #[iV k, iV x, iV y]]) (ob := []) (by as_aux_lemma => kernel_rfl) An enters34 (rcheck k x y w1  ) ?_
   clear hf; rintro _ w3 a ⟨rfl, hk⟩ hf
   have hM := hM.keepNn hk
   have hk0 := hk0.trans hk.nn
   clear hk
   refine q0 hf hM [16, 6, 3, 1, 2] [{}, {}] (env' := [(16, eB (((vcheck ⟨k, x, y⟩) : Int) != 0)), (6, eP (B1 + 1) 0), (3, eP B1 0), (1, eI dx), (2, eI dy)]) (ob := [false = false]) (Ao rfl) ?_
   clear hf; intro a hf
   refine wpList_nil ?_
   refine hK3 _ _ ?_
   refine qc hf (b := (((vcheck ⟨k, x, y⟩) : Int) != 0)) (fun hc2r => ?_) (fun hc2r => ?_)
   · have hc2 := (nN hc2r)
     refine wp_seq_k (fun K5 hK5 => ?_)
     refine wp_region_lit ?_
     refine q1 hf hM [7, 6] [{ sp := true }, { os := [.st 1 0, .st 1 1, .st 1 2] }, {}] (env' := fun B8 => [(7, eI 5), (6, eP (B1 + 1) 0)]) (M' := fun B8 => [⟨B1, 62, [iV k, iV x, iV y]⟩, ⟨B1 + 1, 62, [iV 0, iV 0, iV 0]⟩]) (ob := fun B8 => [Ad (B1 + 1) 0, Ad (B1 + 1) 1, Ad (B1 + 1) 2]) (fun B8 => (Ac (ad _ _) (Ac (ad _ _) (Ao (ad _ _))))) ?_
     clear hf hM; intro a w4 B8 hf hM hB hk
     have hbB8 : w.heap.size ≤ B8 := by have := hk0.size; omega
     have hk0 := hk0.then hk (by intro i hi h; simp only [Is, Mem.names, List.map_cons, List.map_nil, List.mem_cons, List.not_mem_nil, or_false] at h; omega)
     clear hk hB
     refine wpList_nil ?_
     refine hK5 _ _ ?_
     refine wp_ret ?_
     refine qr (fn := Tryd.f49) hf hM [.ld 1 0, .ld 1 1, .ld 1 2] (l := [.agg #[iV 0, iV 0, iV 0], iV 5]) (ob := [Ad (B1 + 1) 0, Ad (B1 + 1) 1, Ad (B1 + 1) 2]) (Ac (ad _ _) (Ac (ad _ _) (Ao (ad _ _)))) ?_
     show (.tuple #[.agg #[iV 0, iV 0, iV 0], iV 5] : Value) = .tuple #[.agg #[iV 0, iV 0, iV 0], iV 5] ∧ Keep Nn w w4
     first | exact ⟨rfl, hk0⟩ | (exfalso; exact hpc (by omega) (by omega)) | (exfalso; simp_all)
   · have hc2 := (nM hc2r)
     exfalso; exact hpc (by omega) (by omega)

set_option maxRecDepth 10000 in
set_option maxHeartbeats 1600000 in
theorem smv_far (E : Nat → Addr) (k x y : Int) (dx dy : Int) (w : World) (hn0 : (mvPos k x y) = true) (hn1 : (mvIn dx dy) = false) (hdx : -9223372036854775808 ≤ dx ∧ dx ≤ 9223372036854775807) (hdy : -9223372036854775808 ≤ dy ∧ dy ≤ 9223372036854775807) (hG : Errs [0, 3, 4] w 185 E) :
    Calls Tryd.prog 30 #[.agg #[iV k, iV x, iV y], iV dx, iV dy] w (Ret fun v w' => v = .tuple #[.agg #[iV 0, iV 0, iV 0], .iface 185 (.pointer (some (E 0)))] ∧ Keep Nn w w') := by
 refine sxenter (n := 50) (args := [.agg #[iV k, iV x, iV y], iV dx, iV dy]) Tryd.func30 rfl rfl rfl fun a hf => ?_
 replace hf : Fr 50 [(0, .val (.agg #[iV k, iV x, iV y])), (1, eI dx), (2, eI dy)] a := hf
 have hM : MemOk [] w := MemOk.nil w
 have hk0 : Keep Nn w w := Keep.refl _ _
 have hps := hn0
 simp only [mvPos, Bool.and_eq_true, decide_eq_true_eq] at hps
 obtain ⟨⟨hk_, hkk⟩, hrr⟩ := hps
 have hr0 := vcheck_ok hkk hrr
 have hrx := hrr
 simp only [vrange, hk_, true_or, if_true, decide_eq_true_eq] at hrx
 have hin := of_decide_eq_false hn1
 refine wp_seq_k (fun K1 hK1 => ?_)
 refine wp_region_lit ?_
 refine q1 hf hM [7, 6, 3, 1, 2] [{ os := [.nw] }, { os := [.nw] }, {}] (env' := fun B1 => [(7, .val (.nilIface)), (6, eP (B1 + 1) 0), (3, eP B1 0), (1, eI dx), (2, eI dy)]) (M' := fun B1 => [⟨B1, 62, [iV k, iV x, iV y]⟩, ⟨B1 + 1, 62, [iV 0, iV 0, iV 0]⟩]) (ob := fun B1 => []) (fun B1 => An) ?_
 clear hf hM; intro a w1 B1 hf hM hB hk
 have hbB1 : w.heap.size ≤ B1 := by have := hk0.size; omega
 have hk0 := hk0.then hk (by intro i _ h; cases h)
 clear hk hB
 refine wpList_nil ?_
 refine hK1 _ _ ?_
 refine wp_seq_k (fun K2 hK2 => ?_)
 refine wp_seq_k (fun K3 hK3 => ?_)
 refine wp_region_lit ?_
 refine q0 hf hM [11, 7, 6, 3, 1, 2] [{}, { os := [.ld 0 0] }, {}, {}] (env' := [(11, eB ((k : Int) != 0)), (7, .val (.nilIface)), (6, eP (B1 + 1) 0), (3, eP B1 0), (1, eI dx), (2, eI dy)]) (ob := [Ad B1 0]) (Ao (ad _ _)) ?_
 clear hf; intro a hf
 rcases Bool.eq_false_or_eq_true ((k : Int) != 0) with hg1r | hg1r
 · have hg1 := (nN hg1r)
   have hf := hf.prune [11, 7, 6, 3, 1, 2]
   replace hf : Fr 50 [(11, eB ((k : Int) != 0)), (7, .val (.nilIface)), (6, eP (B1 + 1) 0), (3, eP B1 0), (1, eI dx), (2, eI dy)] a := hf
   replace hf := hf.conv (env' := [(11, eB true), (7, .val (.nilIface)), (6, eP (B1 + 1) 0), (3, eP B1 0), (1, eI dx), (2, eI dy)]) (Ac (congrArg Value.bool hg1r) (Ac rfl (Ac rfl (Ac rfl (Ac rfl (Ao rfl))))))
   refine q0 hf hM [12, 11, 7, 6, 3, 1, 2] [{ g := .off }] (env' := [(12, .val (undef)), (11, eB true), (7, .val (.nilIface)), (6, eP (B1 + 1) 0), (3, eP B1 0), (1, eI dx), (2, eI dy)]) (ob := [true = !false]) (Ao rfl) ?_
   clear hf; intro a hf
   refine q0 hf hM [15, 7, 6, 3, 1, 2] [{ g := .off }, { g := .off }, {}] (env' := [(15, eB true), (7, .val (.nilIface)), (6, eP (B1 + 1) 0), (3, eP B1 0), (1, eI dx), (2, eI dy)]) (ob := [true = !false, true = !false]) (Ac rfl (Ao rfl)) ?_
   clear hf; intro a hf
   refine wpList_nil ?_
   refine hK3 _ _ ?_
   refine sxcond hf (b := true) (by kernel_rfl) (fun _ => ?_) (fun h => by cases h)
   refine wp_seq_k (fun K4 hK4 => ?_)
   replace hM := hM.drew; replace hk0 := hk0.drew
   obtain ⟨C1, hC1d⟩ : ∃ C : World → Prop, C = fun w' => MemOk [⟨B1, 62, [iV k, iV x, iV y]⟩] w' ∧ Keep Nn w w' ∧ True := ⟨_, rfl⟩
   have hC1i : ∀ w', (MemOk [⟨B1, 62, [iV k, iV x, iV y]⟩] w' ∧ Keep Nn w w' ∧ True) → C1 w' := fun w' h => by rw [hC1d]; exact h
   have hC1e : ∀ w', C1 w' → (MemOk [⟨B1, 62, [iV k, iV x, iV y]⟩] w' ∧ Keep Nn w w' ∧ True) := fun w' h => by rw [hC1d] at h; exact h
   refine sxdraw (C := C1) (.leaf [(0, true), (1, true), (2, false), (3, true)]) (by kernel_rfl) (by kernel_rfl) (by as_aux_lemma => kernel_rfl) rfl (by as_aux_lemma => kernel_rfl) (by kernel_rfl) (hC1i _ ⟨hM.sub (.cons_cons _ (.cons _ .slnil)), hk0, trivial⟩) ?_
   refine sxleaf ?_
   have hC := (hC1i _ ⟨hM.sub (.cons_cons _ (.cons _ .slnil)), hk0, trivial⟩)
   refine qd hf hC (fun w' h => (hC1e w' h).1) [17, 16, 7, 6] [{ sp := true }, { os := [.ex (.iface 185 (.pointer (some (E 4))))] }] (env' := [(17, .val (.iface 185 (.pointer (some (E 4))))), (16, .val (.agg #[iV 0, iV 0, iV 0])), (7, .val (.nilIface)), (6, eP (B1 + 1) 0)]) (ob := [(∀ w', C1 w' → w'.cell? ⟨4, 0, none⟩ = some (.iface 185 (.pointer (some (E 4)))))]) (Ao (fun w' hc => by obtain ⟨hM, hk0, hO⟩ := hC1e w' hc; exact (hk0.cell (hG.cell 4 (by decide)) (fun h => h)))) ?_
   clear hf; intro a hf
   refine scstep rfl ?_
   have hMs : MemOk [⟨B1 + 1, 62, [iV 0, iV 0, iV 0]⟩] w1.drew := hM.sub (.cons _ (.cons_cons _ .slnil))
   refine q1 hf hMs [17, 7, 6] [{ os := [.st 0 0, .st 0 1, .st 0 2] }] (env' := fun B5 => [(17, .val (.iface 185 (.pointer (some (E 4))))), (7, .val (.nilIface)), (6, eP (B1 + 1) 0)]) (M' := fun B5 => [⟨B1 + 1, 62, [iV 0, iV 0, iV 0]⟩]) (ob := fun B5 => [Ad (B1 + 1) 0, Ad (B1 + 1) 1, Ad (B1 + 1) 2]) (fun B5 => (Ac (ad _ _) (Ac (ad _ _) (Ao (ad _ _))))) ?_
   clear hf hMs; intro a w2 B5 hf hMs hB hk; clear hB
   have hM : MemOk [⟨B1, 62, [iV k, iV x, iV y]⟩, ⟨B1 + 1, 62, [iV 0, iV 0, iV 0]⟩] w2 := MemOk.upd (M1 := [⟨B1, 62, [iV k, iV x, iV y]⟩]) (M2 := []) hM hk hMs rfl
   have hk0 := hk0.then hk (by intro i hi h; simp only [Is, Mem.names, List.map_cons, List.map_nil, List.mem_cons, List.not_mem_nil, or_false] at h; omega)
   clear hk hMs
   have hC := (hC1i _ ⟨hM.sub (.cons_cons _ (.cons _ .slnil)), hk0, trivial⟩)
   refine scdone hC ?_
   refine qd hf hC (fun w' h => (hC1e w' h).1) [7, 6] [{}] (env' := [(7, .val (.iface 185 (.pointer (some (E 4))))), (6, eP (B1 + 1) 0)]) (ob := []) An ?_
   clear hf; intro a hf
   clear hC
   show K4 _ _
   refine hK4 _ _ ?_
   refine wp_ret ?_
   refine qr (fn := Tryd.f30) hf hM [.ld 1 0, .ld 1 1, .ld 1 2] (l := [.agg #[iV 0, iV 0, iV 0], .iface 185 (.pointer (some (E 4)))]) (ob := [Ad (B1 + 1) 0, Ad (B1 + 1) 1, Ad (B1 + 1) 2]) (Ac (ad _ _) (Ac (ad _ _) (Ao (ad _ _)))) ?_
   show (.tuple #[.agg #[iV 0, iV 0, iV 0], .iface 185 (.pointer (some (E 4)))] : Value) = .tuple #[.agg #[iV 0, iV 0, iV 0], .iface 185 (.pointer (some (E 0)))] ∧ Keep Nn w w2
   first | exact ⟨rfl, hk0⟩ | (exfalso; omega)
 · have hg1 := (nM hg1r)
   have hf := hf.prune [11, 7, 6, 3, 1, 2]
   replace hf : Fr 50 [(11, eB ((k : Int) != 0)), (7, .val (.nilIface)), (6, eP (B1 + 1) 0), (3, eP B1 0), (1, eI dx), (2, eI dy)] a := hf
   replace hf := hf.conv (env' := [(11, eB false), (7, .val (.nilIface)), (6, eP (B1 + 1) 0), (3, eP B1 0), (1, eI dx), (2, eI dy)]) (Ac (congrArg Value.bool hg1r) (Ac rfl (Ac rfl (Ac rfl (Ac rfl (Ao rfl))))))
   refine q0 hf hM [12, 11, 7, 6, 3, 1, 2] [{ os := [.ld 0 0, .ld 0 1, .ld 0 2] }] (env' := [(12, .val (.agg #[iV k, iV x, iV y])), (11, eB false), (7, .val (.nilIface)), (6, eP (B1 + 1) 0), (3, eP B1 0), (1, eI dx), (2, eI dy)]) (ob := [false = false, Ad B1 0, Ad B1 1, Ad B1 2]) (Ac rfl (Ac (ad _ _) (Ac (ad _ _) (Ao (ad _ _))))) ?_
   clear hf; intro a hf
   refine sxcallg hf rfl rfl rfl rfl rfl (g := 31) (vs := [.agg #[iV k, iV x, iV y]]) (ob := []) (by as_aux_lemma => kernel_rfl) An enters31 (scheck_ok E k x y w1 hkk hrr (hG.keep hk0 (fun _ h => h))) ?_
   clear hf; rintro _ w3 a ⟨rfl, hk⟩ hf
   have hM := hM.keepNn hk
   have hk0 := hk0.trans hk.nn
   clear hk
   refine q0 hf hM [15, 7, 6, 3, 1, 2] [{}, {}] (env' := [(15, eB false), (7, .val (.nilIface)), (6, eP (B1 + 1) 0), (3, eP B1 0), (1, eI dx), (2, eI dy)]) (ob := [false = false]) (Ao rfl) ?_
   clear hf; intro a hf
   refine wpList_nil ?_
   refine hK3 _ _ ?_
   refine sxcond hf (b := false) (by kernel_rfl) (fun h => by cases h) (fun _ => ?_)
   refine wp_skip ?_
   refine hK2 _ _ ?_
   refine wp_seq_k (fun K5 hK5 => ?_)
   refine wp_seq_k (fun K6 hK6 => ?_)
   refine wp_region_lit ?_
   refine q0 hf hM [31, 7, 6, 3, 1, 2] [{}, {}, { hint := some (iV (negI dx)) }, {}, {}, { hint := some (iV (negI dy)) }, {}, {}, {}, { g := .sym }, { g := .sym }, { g := .sym }, { g := .sym }, { hint := some (bV ((decide (((if (if (if dx < negI dx then negI dx else dx) < dy then dy else (if dx < negI dx then negI dx else dx)) < negI dy then negI dy else (if (if dx < negI dx then negI dx else dx) < dy then dy else (if dx < negI dx then negI dx else dx))) : Int) > 2097152)) || (decide (((if dy < dx then dy else dx) : Int) < (-2097152))))) }] (env' := [(31, eB ((decide (((if (if (if dx < negI dx then negI dx else dx) < dy then dy else (if dx < negI dx then negI dx else dx)) < negI dy then negI dy else (if (if dx < negI dx then negI dx else dx) < dy then dy else (if dx < negI dx then negI dx else dx))) : Int) > 2097152)) || (decide (((if dy < dx then dy else dx) : Int) < (-2097152))))), (7, .val (.nilIface)), (6, eP (B1 + 1) 0), (3, eP B1 0), (1, eI dx), (2, eI dy)]) (ob := [(iV (IntKind.i64.wrap (0 - dx)) : Value) = (iV (negI dx) : Value), (iV (IntKind.i64.wrap (0 - dy)) : Value) = (iV (negI dy) : Value), ((decide (((if (if (if dx < negI dx then negI dx else dx) < dy then dy else (if dx < negI dx then negI dx else dx)) < negI dy then negI dy else (if (if dx < negI dx then negI dx else dx) < dy then dy else (if dx < negI dx then negI dx else dx))) : Int) > 2097152)) = false → (decide (((if (if (if dx < negI dx then negI dx else dx) < dy then dy else (if dx < negI dx then negI dx else dx)) < negI dy then negI dy else (if (if dx < negI dx then negI dx else dx) < dy then dy else (if dx < negI dx then negI dx else dx))) : Int) > 2097152)) = (decide (((if (if (if dx < negI dx then negI dx else dx) < dy then dy else (if dx < negI dx then negI dx else dx)) < negI dy then negI dy else (if (if dx < negI dx then negI dx else dx) < dy then dy else (if dx < negI dx then negI dx else dx))) : Int) > 2097152))), ((decide (((if (if (if dx < negI dx then negI dx else dx) < dy then dy else (if dx < negI dx then negI dx else dx)) < negI dy then negI dy else (if (if dx < negI dx then negI dx else dx) < dy then dy else (if dx < negI dx then negI dx else dx))) : Int) > 2097152)) = false → (decide (((if (if (if dx < negI dx then negI dx else dx) < dy then dy else (if dx < negI dx then negI dx else dx)) < negI dy then negI dy else (if (if dx < negI dx then negI dx else dx) < dy then dy else (if dx < negI dx then negI dx else dx))) : Int) > 2097152)) = (decide (((if (if (if dx < negI dx then negI dx else dx) < dy then dy else (if dx < negI dx then negI dx else dx)) < negI dy then negI dy else (if (if dx < negI dx then negI dx else dx) < dy then dy else (if dx < negI dx then negI dx else dx))) : Int) > 2097152))), ((decide (((if (if (if dx < negI dx then negI dx else dx) < dy then dy else (if dx < negI dx then negI dx else dx)) < negI dy then negI dy else (if (if dx < negI dx then negI dx else dx) < dy then dy else (if dx < negI dx then negI dx else dx))) : Int) > 2097152)) = false → (decide (((if (if (if dx < negI dx then negI dx else dx) < dy then dy else (if dx < negI dx then negI dx else dx)) < negI dy then negI dy else (if (if dx < negI dx then negI dx else dx) < dy then dy else (if dx < negI dx then negI dx else dx))) : Int) > 2097152)) = (decide (((if (if (if dx < negI dx then negI dx else dx) < dy then dy else (if dx < negI dx then negI dx else dx)) < negI dy then negI dy else (if (if dx < negI dx then negI dx else dx) < dy then dy else (if dx < negI dx then negI dx else dx))) : Int) > 2097152))), ((decide (((if (if (if dx < negI dx then negI dx else dx) < dy then dy else (if dx < negI dx then negI dx else dx)) < negI dy then negI dy else (if (if dx < negI dx then negI dx else dx) < dy then dy else (if dx < negI dx then negI dx else dx))) : Int) > 2097152)) = false → (decide (((if (if (if dx < negI dx then negI dx else dx) < dy then dy else (if dx < negI dx then negI dx else dx)) < negI dy then negI dy else (if (if dx < negI dx then negI dx else dx) < dy then dy else (if dx < negI dx then negI dx else dx))) : Int) > 2097152)) = (decide (((if (if (if dx < negI dx then negI dx else dx) < dy then dy else (if dx < negI dx then negI dx else dx)) < negI dy then negI dy else (if (if dx < negI dx then negI dx else dx) < dy then dy else (if dx < negI dx then negI dx else dx))) : Int) > 2097152))), (bif (decide (((if (if (if dx < negI dx then negI dx else dx) < dy then dy else (if dx < negI dx then negI dx else dx)) < negI dy then negI dy else (if (if dx < negI dx then negI dx else dx) < dy then dy else (if dx < negI dx then negI dx else dx))) : Int) > 2097152)) then (bV true : Value) else bV (decide (((if dy < dx then dy else dx) : Int) < (-2097152)))) = .bool ((decide (((if (if (if dx < negI dx then negI dx else dx) < dy then dy else (if dx < negI dx then negI dx else dx)) < negI dy then negI dy else (if (if dx < negI dx then negI dx else dx) < dy then dy else (if dx < negI dx then negI dx else dx))) : Int) > 2097152)) || (decide (((if dy < dx then dy else dx) : Int) < (-2097152))))]) (Ac (neg_int hdx) (Ac (neg_int hdy) (Ac (fun hgd => rfl) (Ac (fun hgd => rfl) (Ac (fun hgd => rfl) (Ac (fun _ => rfl) (Ao (pick_or _ _)))))))) ?_
   clear hf; intro a hf
   refine wpList_nil ?_
   refine hK6 _ _ ?_
   refine qc hf (b := ((decide (((if (if (if dx < negI dx then negI dx else dx) < dy then dy else (if dx < negI dx then negI dx else dx)) < negI dy then negI dy else (if (if dx < negI dx then negI dx else dx) < dy then dy else (if dx < negI dx then negI dx else dx))) : Int) > 2097152)) || (decide (((if dy < dx then dy else dx) : Int) < (-2097152))))) (fun hc3r => ?_) (fun hc3r => ?_)
   · have hc3 := hc3r
     try simp only [Bool.or_eq_true, Bool.and_eq_true, Bool.not_eq_true', Bool.not_eq_false', Bool.or_eq_false_iff, Bool.and_eq_false_iff, decide_eq_true_eq, decide_eq_false_iff_not, beq_iff_eq, bne_iff_ne, beq_eq_false_iff_ne, bne_eq_false_iff_eq, Bool.and_true, Bool.true_and, ne_eq] at hc3
     refine wp_seq_k (fun K7 hK7 => ?_)
     replace hM := hM.drew; replace hk0 := hk0.drew
     obtain ⟨C2, hC2d⟩ : ∃ C : World → Prop, C = fun w' => MemOk [⟨B1, 62, [iV k, iV x, iV y]⟩] w' ∧ Keep Nn w w' ∧ True := ⟨_, rfl⟩
     have hC2i : ∀ w', (MemOk [⟨B1, 62, [iV k, iV x, iV y]⟩] w' ∧ Keep Nn w w' ∧ True) → C2 w' := fun w' h => by rw [hC2d]; exact h
     have hC2e : ∀ w', C2 w' → (MemOk [⟨B1, 62, [iV k, iV x, iV y]⟩] w' ∧ Keep Nn w w' ∧ True) := fun w' h => by rw [hC2d] at h; exact h
     refine sxdraw (C := C2) (.leaf [(0, true), (1, true), (2, false), (3, true)]) (by kernel_rfl) (by kernel_rfl) (by as_aux_lemma => kernel_rfl) rfl (by as_aux_lemma => kernel_rfl) (by kernel_rfl) (hC2i _ ⟨hM.sub (.cons_cons _ (.cons _ .slnil)), hk0, trivial⟩) ?_
     refine sxleaf ?_
     have hC := (hC2i _ ⟨hM.sub (.cons_cons _ (.cons _ .slnil)), hk0, trivial⟩)
     refine qd hf hC (fun w' h => (hC2e w' h).1) [33, 32, 7, 6] [{ sp := true }, { os := [.ex (.iface 185 (.pointer (some (E 0))))] }] (env' := [(33, .val (.iface 185 (.pointer (some (E 0))))), (32, .val (.agg #[iV 0, iV 0, iV 0])), (7, .val (.nilIface)), (6, eP (B1 + 1) 0)]) (ob := [(∀ w', C2 w' → w'.cell? ⟨0, 0, none⟩ = some (.iface 185 (.pointer (some (E 0)))))]) (Ao (fun w' hc => by obtain ⟨hM, hk0, hO⟩ := hC2e w' hc; exact (hk0.cell (hG.cell 0 (by decide)) (fun h => h)))) ?_
     clear hf; intro a hf
     refine scstep rfl ?_
     have hMs : MemOk [⟨B1 + 1, 62, [iV 0, iV 0, iV 0]⟩] w3.drew := hM.sub (.cons _ (.cons_cons _ .slnil))
     refine q1 hf hMs [33, 7, 6] [{ os := [.st 0 0, .st 0 1, .st 0 2] }] (env' := fun B9 => [(33, .val (.iface 185 (.pointer (some (E 0))))), (7, .val (.nilIface)), (6, eP (B1 + 1) 0)]) (M' := fun B9 => [⟨B1 + 1, 62, [iV 0, iV 0, iV 0]⟩]) (ob := fun B9 => [Ad (B1 + 1) 0, Ad (B1 + 1) 1, Ad (B1 + 1) 2]) (fun B9 => (Ac (ad _ _) (Ac (ad _ _) (Ao (ad _ _))))) ?_
     clear hf hMs; intro a w4 B9 hf hMs hB hk; clear hB
     have hM : MemOk [⟨B1, 62, [iV k, iV x, iV y]⟩, ⟨B1 + 1, 62, [iV 0, iV 0, iV 0]⟩] w4 := MemOk.upd (M1 := [⟨B1, 62, [iV k, iV x, iV y]⟩]) (M2 := []) hM hk hMs rfl
     have hk0 := hk0.then hk (by intro i hi h; simp only [Is, Mem.names, List.map_cons, List.map_nil, List.mem_cons, List.not_mem_nil, or_false] at h; omega)
     clear hk hMs
     have hC := (hC2i _ ⟨hM.sub (.cons_cons _ (.cons _ .slnil)), hk0, trivial⟩)
     refine scdone hC ?_
     refine qd hf hC (fun w' h => (hC2e w' h).1) [7, 6] [{}] (env' := [(7, .val (.iface 185 (.pointer (some (E 0))))), (6, eP (B1 + 1) 0)]) (ob := []) An ?_
     clear hf; intro a hf
     clear hC
     show K7 _ _
     refine hK7 _ _ ?_
     refine wp_ret ?_
     refine qr (fn := Tryd.f30) hf hM [.ld 1 0, .ld 1 1, .ld 1 2] (l := [.agg #[iV 0, iV 0, iV 0], .iface 185 (.pointer (some (E 0)))]) (ob := [Ad (B1 + 1) 0, Ad (B1 + 1) 1, Ad (B1 + 1) 2]) (Ac (ad _ _) (Ac (ad _ _) (Ao (ad _ _)))) ?_
     show (.tuple #[.agg #[iV 0, iV 0, iV 0], .iface 185 (.pointer (some (E 0)))] : Value) = .tuple #[.agg #[iV 0, iV 0, iV 0], .iface 185 (.pointer (some (E 0)))] ∧ Keep Nn w w4
     first | exact ⟨rfl, hk0⟩ | (exfalso; omega)
   · have hc3 := hc3r
     try simp only [Bool.or_eq_true, Bool.and_eq_true, Bool.not_eq_true', Bool.not_eq_false', Bool.or_eq_false_iff, Bool.and_eq_false_iff, decide_eq_true_eq, decide_eq_false_iff_not, beq_iff_eq, bne_iff_ne, beq_eq_false_iff_ne, bne_eq_false_iff_eq, Bool.and_true, Bool.true_and, ne_eq] at hc3
     exfalso; simp only [negI] at hc3; (repeat' split at hc3) <;> omega

set_option maxRecDepth 10000 in
set_option maxHeartbeats 1600000 in
theorem smv_out (E : Nat → Addr) (k x y : Int) (dx dy : Int) (w : World) (hn0 : (mvPos k x y) = true) (hn1 : (mvIn dx dy) = true) (hn2 : (vrange ⟨k, (x + dx), (y + dy)⟩) = false) (hdx : -9223372036854775808 ≤ dx ∧ dx ≤ 9223372036854775807) (hdy : -9223372036854775808 ≤ dy ∧ dy ≤ 9223372036854775807) (hG : Errs [0, 3, 4] w 185 E) :
    Calls Tryd.prog 30 #[.agg #[iV k, iV x, iV y], iV dx, iV dy] w (Ret fun v w' => v = .tuple #[.agg #[iV 0, iV 0, iV 0], .iface 185 (.pointer (some (E 0)))] ∧ Keep Nn w w') := by
 refine sxenter (n := 50) (args := [.agg #[iV k, iV x, iV y], iV dx, iV dy]) Tryd.func30 rfl rfl rfl fun a hf => ?_
 replace hf : Fr 50 [(0, .val (.agg #[iV k, iV x, iV y])), (1, eI dx), (2, eI dy)] a := hf
 have hM : MemOk [] w := MemOk.nil w
 have hk0 : Keep Nn w w := Keep.refl _ _
 have hps := hn0
 simp only [mvPos, Bool.and_eq_true, decide_eq_true_eq] at hps
 obtain ⟨⟨hk_, hkk⟩, hrr⟩ := hps
 have hr0 := vcheck_ok hkk hrr
 have hrx := hrr
 simp only [vrange, hk_, true_or, if_true, decide_eq_true_eq] at hrx
 have hin := of_decide_eq_true hn1
 have hkn : vkind ⟨k, x + dx, y + dy⟩ = true := hkk
 refine wp_seq_k (fun K1 hK1 => ?_)
 refine wp_region_lit ?_
 refine q1 hf hM [7, 6, 3, 1, 2] [{ os := [.nw] }, { os := [.nw] }, {}] (env' := fun B1 => [(7, .val (.nilIface)), (6, eP (B1 + 1) 0), (3, eP B1 0), (1, eI dx), (2, eI dy)]) (M' := fun B1 => [⟨B1, 62, [iV k, iV x, iV y]⟩, ⟨B1 + 1, 62, [iV 0, iV 0, iV 0]⟩]) (ob := fun B1 => []) (fun B1 => An) ?_
 clear hf hM; intro a w1 B1 hf hM hB hk
 have hbB1 : w.heap.size ≤ B1 := by have := hk0.size; omega
 have hk0 := hk0.then hk (by intro i _ h; cases h)
 clear hk hB
 refine wpList_nil ?_
 refine hK1 _ _ ?_
 refine wp_seq_k (fun K2 hK2 => ?_)
 refine wp_seq_k (fun K3 hK3 => ?_)
 refine wp_region_lit ?_
 refine q0 hf hM [11, 7, 6, 3, 1, 2] [{}, { os := [.ld 0 0] }, {}, {}] (env' := [(11, eB ((k : Int) != 0)), (7, .val (.nilIface)), (6, eP (B1 + 1) 0), (3, eP B1 0), (1, eI dx), (2, eI dy)]) (ob := [Ad B1 0]) (Ao (ad _ _)) ?_
 clear hf; intro a hf
 rcases Bool.eq_false_or_eq_true ((k : Int) != 0) with hg1r | hg1r
 · have hg1 := (nN hg1r)
   have hf := hf.prune [11, 7, 6, 3, 1, 2]
   replace hf : Fr 50 [(11, eB ((k : Int) != 0)), (7, .val (.nilIface)), (6, eP (B1 + 1) 0), (3, eP B1 0), (1, eI dx), (2, eI dy)] a := hf
   replace hf := hf.conv (env' := [(11, eB true), (7, .val (.nilIface)), (6, eP (B1 + 1) 0), (3, eP B1 0), (1, eI dx), (2, eI dy)]) (Ac (congrArg Value.bool hg1r) (Ac rfl (Ac rfl (Ac rfl (Ac rfl (Ao rfl))))))
   refine q0 hf hM [12, 11, 7, 6, 3, 1, 2] [{ g := .off }] (env' := [(12, .val (undef)), (11, eB true), (7, .val (.nilIface)), (6, eP (B1 + 1) 0), (3, eP B1 0), (1, eI dx), (2, eI dy)]) (ob := [true = !false]) (Ao rfl) ?_
   clear hf; intro a hf
   refine q0 hf hM [15, 7, 6, 3, 1, 2] [{ g := .off }, { g := .off }, {}] (env' := [(15, eB true), (7, .val (.nilIface)), (6, eP (B1 + 1) 0), (3, eP B1 0), (1, eI dx), (2, eI dy)]) (ob := [true = !false, true = !false]) (Ac rfl (Ao rfl)) ?_
   clear hf; intro a hf
   refine wpList_nil ?_
   refine hK3 _ _ ?_
   refine sxcond hf (b := true) (by kernel_rfl) (fun _ => ?_) (fun h => by cases h)
   refine wp_seq_k (fun K4 hK4 => ?_)
   replace hM := hM.drew; replace hk0 := hk0.drew
   obtain ⟨C1, hC1d⟩ : ∃ C : World → Prop, C = fun w' => MemOk [⟨B1, 62, [iV k, iV x, iV y]⟩] w' ∧ Keep Nn w w' ∧ True := ⟨_, rfl⟩
   have hC1i : ∀ w', (MemOk [⟨B1, 62, [iV k, iV x, iV y]⟩] w' ∧ Keep Nn w w' ∧ True) → C1 w' := fun w' h => by rw [hC1d]; exact h
   have hC1e : ∀ w', C1 w' → (MemOk [⟨B1, 62, [iV k, iV x, iV y]⟩] w' ∧ Keep Nn w w' ∧ True) := fun w' h => by rw [hC1d] at h; exact h
   refine sxdraw (C := C1) (.leaf [(0, true), (1, true), (2, false), (3, true)]) (by kernel_rfl) (by kernel_rfl) (by as_aux_lemma => kernel_rfl) rfl (by as_aux_lemma => kernel_rfl) (by kernel_rfl) (hC1i _ ⟨hM.sub (.cons_cons _ (.cons _ .slnil)), hk0, trivial⟩) ?_
   refine sxleaf ?_
   have hC := (hC1i _ ⟨hM.sub (.cons_cons _ (.cons _ .slnil)), hk0, trivial⟩)
   refine qd hf hC (fun w' h => (hC1e w' h).1) [17, 16, 7, 6] [{ sp := true }, { os := [.ex (.iface 185 (.pointer (some (E 4))))] }] (env' := [(17, .val (.iface 185 (.pointer (some (E 4))))), (16, .val (.agg #[iV 0, iV 0, iV 0])), (7, .val (.nilIface)), (6, eP (B1 + 1) 0)]) (ob := [(∀ w', C1 w' → w'.cell? ⟨4, 0, none⟩ = some (.iface 185 (.pointer (some (E 4)))))]) (Ao (fun w' hc => by obtain ⟨hM, hk0, hO⟩ := hC1e w' hc; exact (hk0.cell (hG.cell 4 (by decide)) (fun h => h)))) ?_
   clear hf; intro a hf
   refine scstep rfl ?_
   have hMs : MemOk [⟨B1 + 1, 62, [iV 0, iV 0, iV 0]⟩] w1.drew := hM.sub (.cons _ (.cons_cons _ .slnil))
   refine q1 hf hMs [17, 7, 6] [{ os := [.st 0 0, .st 0 1, .st 0 2] }] (env' := fun B5 => [(17, .val (.iface 185 (.pointer (some (E 4))))), (7, .val (.nilIface)), (6, eP (B1 + 1) 0)]) (M' := fun B5 => [⟨B1 + 1, 62, [iV 0, iV 0, iV 0]⟩]) (ob := fun B5 => [Ad (B1 + 1) 0, Ad (B1 + 1) 1, Ad (B1 + 1) 2]) (fun B5 => (Ac (ad _ _) (Ac (ad _ _) (Ao (ad _ _))))) ?_
   clear hf hMs; intro a w2 B5 hf hMs hB hk; clear hB
   have hM : MemOk [⟨B1, 62, [iV k, iV x, iV y]⟩, ⟨B1 + 1, 62, [iV 0, iV 0, iV 0]⟩] w2 := MemOk.upd (M1 := [⟨B1, 62, [iV k, iV x, iV y]⟩]) (M2 := []) hM hk hMs rfl
   have hk0 := hk0.then hk (by intro i hi h; simp only [Is, Mem.names, List.map_cons, List.map_nil, List.mem_cons, List.not_mem_nil, or_false] at h; omega)
   clear hk hMs
   have hC := (hC1i _ ⟨hM.sub (.cons_cons _ (.cons _ .slnil)), hk0, trivial⟩)
   refine scdone hC ?_
   refine qd hf hC (fun w' h => (hC1e w' h).1) [7, 6] [{}] (env' := [(7, .val (.iface 185 (.pointer (some (E 4))))), (6, eP (B1 + 1) 0)]) (ob := []) An ?_
   clear hf; intro a hf
   clear hC
   show K4 _ _
   refine hK4 _ _ ?_
   refine wp_ret ?_
   refine qr (fn := Tryd.f30) hf hM [.ld 1 0, .ld 1 1, .ld 1 2] (l := [.agg #[iV 0, iV 0, iV 0], .iface 185 (.pointer (some (E 4)))]) (ob := [Ad (B1 + 1) 0, Ad (B1 + 1) 1, Ad (B1 + 1) 2]) (Ac (ad _ _) (Ac (ad _ _) (Ao (ad _ _)))) ?_
   show (.tuple #[.agg #[iV 0, iV 0, iV 0], .iface 185 (.pointer (some (E 4)))] : Value) = .tuple #[.agg #[iV 0, iV 0, iV 0], .iface 185 (.pointer (some (E 0)))] ∧ Keep Nn w w2
   first | exact ⟨rfl, hk0⟩ | (exfalso; omega)
 · have hg1 := (nM hg1r)
   have hf := hf.prune [11, 7, 6, 3, 1, 2]
   replace hf : Fr 50 [(11, eB ((k : Int) != 0)), (7, .val (.nilIface)), (6, eP (B1 + 1) 0), (3, eP B1 0), (1, eI dx), (2, eI dy)] a := hf
   replace hf := hf.conv (env' := [(11, eB false), (7, .val (.nilIface)), (6, eP (B1 + 1) 0), (3, eP B1 0), (1, eI dx), (2, eI dy)]) (Ac (congrArg Value.bool hg1r) (Ac rfl (Ac rfl (Ac rfl (Ac rfl (Ao rfl))))))
   refine q0 hf hM [12, 11, 7, 6, 3, 1, 2] [{ os := [.ld 0 0, .ld 0 1, .ld 0 2] }] (env' := [(12, .val (.agg #[iV k, iV x, iV y])), (11, eB false), (7, .val (.nilIface)), (6, eP (B1 + 1) 0), (3, eP B1 0), (1, eI dx), (2, eI dy)]) (ob := [false = false, Ad B1 0, Ad B1 1, Ad B1 2]) (Ac rfl (Ac (ad _ _) (Ac (ad _ _) (Ao (ad _ _))))) ?_
   clear hf; intro a hf
   refine sxcallg hf rfl rfl rfl rfl rfl (g := 31) (vs := [.agg #[iV k, iV x, iV y]]) (ob := []) (by as_aux_lemma => kernel_rfl) An enters31 (scheck_ok E k x y w1 hkk hrr (hG.keep hk0 (fun _ h => h))) ?_
   clear hf; rintro _ w3 a ⟨rfl, hk⟩ hf
   have hM := hM.keepNn hk
   have hk0 := hk0.trans hk.nn
   clear hk
   refine q0 hf hM [15, 7, 6, 3, 1, 2] [{}, {}] (env' := [(15, eB false), (7, .val (.nilIface)), (6, eP (B1 + 1) 0), (3, eP B1 0), (1, eI dx), (2, eI dy)]) (ob := [false = false]) (Ao rfl) ?_
   clear hf; intro a hf
   refine wpList_nil ?_
   refine hK3 _ _ ?_
   refine sxcond hf (b := false) (by kernel_rfl) (fun h => by cases h) (fun _ => ?_)
   refine wp_skip ?_
   refine hK2 _ _ ?_
   refine wp_seq_k (fun K5 hK5 => ?_)
   refine wp_seq_k (fun K6 hK6 => ?_)
   refine wp_region_lit ?_
   refine q0 hf hM [31, 7, 6, 3, 1, 2] [{}, {}, { hint := some (iV (negI dx)) }, {}, {}, { hint := some (iV (negI dy)) }, {}, {}, {}, { g := .sym }, { g := .sym }, { g := .sym }, { g := .sym }, { hint := some (bV ((decide (((if (if (if dx < negI dx then negI dx else dx) < dy then dy else (if dx < negI dx then negI dx else dx)) < negI dy then negI dy else (if (if dx < negI dx then negI dx else dx) < dy then dy else (if dx < negI dx then negI dx else dx))) : Int) > 2097152)) || (decide (((if dy < dx then dy else dx) : Int) < (-2097152))))) }] (env' := [(31, eB ((decide (((if (if (if dx < negI dx then negI dx else dx) < dy then dy else (if dx < negI dx then negI dx else dx)) < negI dy then negI dy else (if (if dx < negI dx then negI dx else dx) < dy then dy else (if dx < negI dx then negI dx else dx))) : Int) > 2097152)) || (decide (((if dy < dx then dy else dx) : Int) < (-2097152))))), (7, .val (.nilIface)), (6, eP (B1 + 1) 0), (3, eP B1 0), (1, eI dx), (2, eI dy)]) (ob := [(iV (IntKind.i64.wrap (0 - dx)) : Value) = (iV (negI dx) : Value), (iV (IntKind.i64.wrap (0 - dy)) : Value) = (iV (negI dy) : Value), ((decide (((if (if (if dx < negI dx then negI dx else dx) < dy then dy else (if dx < negI dx then negI dx else dx)) < negI dy then negI dy else (if (if dx < negI dx then negI dx else dx) < dy then dy else (if dx < negI dx then negI dx else dx))) : Int) > 2097152)) = false → (decide (((if (if (if dx < negI dx then negI dx else dx) < dy then dy else (if dx < negI dx then negI dx else dx)) < negI dy then negI dy else (if (if dx < negI dx then negI dx else dx) < dy then dy else (if dx < negI dx then negI dx else dx))) : Int) > 2097152)) = (decide (((if (if (if dx < negI dx then negI dx else dx) < dy then dy else (if dx < negI dx then negI dx else dx)) < negI dy then negI dy else (if (if dx < negI dx then negI dx else dx) < dy then dy else (if dx < negI dx then negI dx else dx))) : Int) > 2097152))), ((decide (((if (if (if dx < negI dx then negI dx else dx) < dy then dy else (if dx < negI dx then negI dx else dx)) < negI dy then negI dy else (if (if dx < negI dx then negI dx else dx) < dy then dy else (if dx < negI dx then negI dx else dx))) : Int) > 2097152)) = false → (decide (((if (if (if dx < negI dx then negI dx else dx) < dy then dy else (if dx < negI dx then negI dx else dx)) < negI dy then negI dy else (if (if dx < negI dx then negI dx else dx) < dy then dy else (if dx < negI dx then negI dx else dx))) : Int) > 2097152)) = (decide (((if (if (if dx < negI dx then negI dx else dx) < dy then dy else (if dx < negI dx then negI dx else dx)) < negI dy then negI dy else (if (if dx < negI dx then negI dx else dx) < dy then dy else (if dx < negI dx then negI dx else dx))) : Int) > 2097152))), ((decide (((if (if (if dx < negI dx then negI dx else dx) < dy then dy else (if dx < negI dx then negI dx else dx)) < negI dy then negI dy else (if (if dx < negI dx then negI dx else dx) < dy then dy else (if dx < negI dx then negI dx else dx))) : Int) > 2097152)) = false → (decide (((if (if (if dx < negI dx then negI dx else dx) < dy then dy else (if dx < negI dx then negI dx else dx)) < negI dy then negI dy else (if (if dx < negI dx then negI dx else dx) < dy then dy else (if dx < negI dx then negI dx else dx))) : Int) > 2097152)) = (decide (((if (if (if dx < negI dx then negI dx else dx) < dy then dy else (if dx < negI dx then negI dx else dx)) < negI dy then negI dy else (if (if dx < negI dx then negI dx else dx) < dy then dy else (if dx < negI dx then negI dx else dx))) : Int) > 2097152))), ((decide (((if (if (if dx < negI dx then negI dx else dx) < dy then dy else (if dx < negI dx then negI dx else dx)) < negI dy then negI dy else (if (if dx < negI dx then negI dx else dx) < dy then dy else (if dx < negI dx then negI dx else dx))) : Int) > 2097152)) = false → (decide (((if (if (if dx < negI dx then negI dx else dx) < dy then dy else (if dx < negI dx then negI dx else dx)) < negI dy then negI dy else (if (if dx < negI dx then negI dx else dx) < dy then dy else (if dx < negI dx then negI dx else dx))) : Int) > 2097152)) = (decide (((if (if (if dx < negI dx then negI dx else dx) < dy then dy else (if dx < negI dx then negI dx else dx)) < negI dy then negI dy else (if (if dx < negI dx then negI dx else dx) < dy then dy else (if dx < negI dx then negI dx else dx))) : Int) > 2097152))), (bif (decide (((if (if (if dx < negI dx then negI dx else dx) < dy then dy else (if dx < negI dx then negI dx else dx)) < negI dy then negI dy else (if (if dx < negI dx then negI dx else dx) < dy then dy else (if dx < negI dx then negI dx else dx))) : Int) > 2097152)) then (bV true : Value) else bV (decide (((if dy < dx then dy else dx) : Int) < (-2097152)))) = .bool ((decide (((if (if (if dx < negI dx then negI dx else dx) < dy then dy else (if dx < negI dx then negI dx else dx)) < negI dy then negI dy else (if (if dx < negI dx then negI dx else dx) < dy then dy else (if dx < negI dx then negI dx else dx))) : Int) > 2097152)) || (decide (((if dy < dx then dy else dx) : Int) < (-2097152))))]) (Ac (neg_int hdx) (Ac (neg_int hdy) (Ac (fun hgd => rfl) (Ac (fun hgd => rfl) (Ac (fun hgd => rfl) (Ac (fun _ => rfl) (Ao (pick_or _ _)))))))) ?_
   clear hf; intro a hf
   refine wpList_nil ?_
   refine hK6 _ _ ?_
   refine qc hf (b := ((decide (((if (if (if dx < negI dx then negI dx else dx) < dy then dy else (if dx < negI dx then negI dx else dx)) < negI dy then negI dy else (if (if dx < negI dx then negI dx else dx) < dy then dy else (if dx < negI dx then negI dx else dx))) : Int) > 2097152)) || (decide (((if dy < dx then dy else dx) : Int) < (-2097152))))) (fun hc3r => ?_) (fun hc3r => ?_)
   · have hc3 := hc3r
     try simp only [Bool.or_eq_true, Bool.and_eq_true, Bool.not_eq_true', Bool.not_eq_false', Bool.or_eq_false_iff, Bool.and_eq_false_iff, decide_eq_true_eq, decide_eq_false_iff_not, beq_iff_eq, bne_iff_ne, beq_eq_false_iff_ne, bne_eq_false_iff_eq, Bool.and_true, Bool.true_and, ne_eq] at hc3
     exfalso; simp only [negI] at hc3; (repeat' split at hc3) <;> omega
   · have hc3 := hc3r
     try simp only [Bool.or_eq_true, Bool.and_eq_true, Bool.not_eq_true', Bool.not_eq_false', Bool.or_eq_false_iff, Bool.and_eq_false_iff, decide_eq_true_eq, decide_eq_false_iff_not, beq_iff_eq, bne_iff_ne, beq_eq_false_iff_ne, bne_eq_false_iff_eq, Bool.and_true, Bool.true_and, ne_eq] at hc3
     refine wp_skip ?_
     refine hK5 _ _ ?_
     refine wp_seq_k (fun K7 hK7 => ?_)
     refine wp_region_lit ?_
     refine q1 hf hM [7, 6, 3] [{}, { os := [.ld 0 1] }, {}, { hint := some (iV (x + dx)) }, {}, { os := [.ld 0 2] }, {}, { hint := some (iV (y + dy)) }, {}, { os := [.st 0 1] }, {}, { os := [.st 0 2] }] (env' := fun B9 => [(7, .val (.nilIface)), (6, eP (B1 + 1) 0), (3, eP B1 0)]) (M' := fun B9 => [⟨B1, 62, [iV k, iV (x + dx), iV (y + dy)]⟩, ⟨B1 + 1, 62, [iV 0, iV 0, iV 0]⟩]) (ob := fun B9 => [Ad B1 1, (iV (IntKind.i64.wrap (x + dx)) : Value) = (iV (x + dx) : Value), Ad B1 2, (iV (IntKind.i64.wrap (y + dy)) : Value) = (iV (y + dy) : Value), Ad B1 1, Ad B1 2]) (fun B9 => (Ac (ad _ _) (Ac (wr (by omega)) (Ac (ad _ _) (Ac (wr (by omega)) (Ac (ad _ _) (Ao (ad _ _)))))))) ?_
     clear hf hM; intro a w4 B9 hf hM hB hk
     have hbB9 : w.heap.size ≤ B9 := by have := hk0.size; omega
     have hk0 := hk0.then hk (by intro i hi h; simp only [Is, Mem.names, List.map_cons, List.map_nil, List.mem_cons, List.not_mem_nil, or_false] at h; omega)
     clear hk hB
     refine wpList_nil ?_
     refine hK7 _ _ ?_
     refine wp_seq_k (fun K8 hK8 => ?_)
     refine wp_seq_k (fun K9 hK9 => ?_)
     refine wp_region_lit ?_
     refine q0 hf hM [44, 7, 6, 3] [{ os := [.ld 0 0, .ld 0 1, .ld 0 2] }] (env' := [(44, .val (.agg #[iV k, iV (x + dx), iV (y + dy)])), (7, .val (.nilIface)), (6, eP (B1 + 1) 0), (3, eP B1 0)]) (ob := [Ad B1 0, Ad B1 1, Ad B1 2]) (Ac (ad _ _) (Ac (ad _ _) (Ao (ad _ _)))) ?_
     clear hf; intro a hf
     refine sxcall hf rfl rfl rfl rfl (g := 31) (vs := [.agg #[iV k, iV (x + dx), iV (y + dy)]]) (ob := []) (by as_aux_lemma => kernel_rfl) An enters31 (scheck_range E k (x + dx) (y + dy) w4 hkn hn2 (hG.keep hk0 (fun _ h => h))) ?_
     clear hf; rintro _ w5 a ⟨rfl, hk⟩ hf
     have hM := hM.keepNn hk
     have hk0 := hk0.trans hk.nn
     clear hk
     refine q0 hf hM [46, 7, 6, 3] [{}] (env' := [(46, eB true), (7, .val (.nilIface)), (6, eP (B1 + 1) 0), (3, eP B1 0)]) (ob := []) An ?_
     clear hf; intro a hf
     refine wpList_nil ?_
     refine hK9 _ _ ?_
     refine sxcond hf (b := true) (by kernel_rfl) (fun _ => ?_) (fun h => by cases h)
     refine wp_seq_k (fun K10 hK10 => ?_)
     replace hM := hM.drew; replace hk0 := hk0.drew
     obtain ⟨C2, hC2d⟩ : ∃ C : World → Prop, C = fun w' => MemOk [⟨B1, 62, [iV k, iV (x + dx), iV (y + dy)]⟩] w' ∧ Keep Nn w w' ∧ True := ⟨_, rfl⟩
     have hC2i : ∀ w', (MemOk [⟨B1, 62, [iV k, iV (x + dx), iV (y + dy)]⟩] w' ∧ Keep Nn w w' ∧ True) → C2 w' := fun w' h => by rw [hC2d]; exact h
     have hC2e : ∀ w', C2 w' → (MemOk [⟨B1, 62, [iV k, iV (x + dx), iV (y + dy)]⟩] w' ∧ Keep Nn w w' ∧ True) := fun w' h => by rw [hC2d] at h; exact h
     refine sxdraw (C := C2) (.leaf [(0, true), (1, true), (2, false), (3, true)]) (by kernel_rfl) (by kernel_rfl) (by as_aux_lemma => kernel_rfl) rfl (by as_aux_lemma => kernel_rfl) (by kernel_rfl) (hC2i _ ⟨hM.sub (.cons_cons _ (.cons _ .slnil)), hk0, trivial⟩) ?_
     refine sxleaf ?_
     have hC := (hC2i _ ⟨hM.sub (.cons_cons _ (.cons _ .slnil)), hk0, trivial⟩)
     refine qd hf hC (fun w' h => (hC2e w' h).1) [48, 47, 7, 6] [{ sp := true }, { os := [.ex (.iface 185 (.pointer (some (E 0))))] }] (env' := [(48, .val (.iface 185 (.pointer (some (E 0))))), (47, .val (.agg #[iV 0, iV 0, iV 0])), (7, .val (.nilIface)), (6, eP (B1 + 1) 0)]) (ob := [(∀ w', C2 w' → w'.cell? ⟨0, 0, none⟩ = some (.iface 185 (.pointer (some (E 0)))))]) (Ao (fun w' hc => by obtain ⟨hM, hk0, hO⟩ := hC2e w' hc; exact (hk0.cell (hG.cell 0 (by decide)) (fun h => h)))) ?_
     clear hf; intro a hf
     refine scstep rfl ?_
     have hMs : MemOk [⟨B1 + 1, 62, [iV 0, iV 0, iV 0]⟩] w5.drew := hM.sub (.cons _ (.cons_cons _ .slnil))
     refine q1 hf hMs [48, 7, 6] [{ os := [.st 0 0, .st 0 1, .st 0 2] }] (env' := fun B12 => [(48, .val (.iface 185 (.pointer (some (E 0))))), (7, .val (.nilIface)), (6, eP (B1 + 1) 0)]) (M' := fun B12 => [⟨B1 + 1, 62, [iV 0, iV 0, iV 0]⟩]) (ob := fun B12 => [Ad (B1 + 1) 0, Ad (B1 + 1) 1, Ad (B1 + 1) 2]) (fun B12 => (Ac (ad _ _) (Ac (ad _ _) (Ao (ad _ _))))) ?_
     clear hf hMs; intro a w6 B12 hf hMs hB hk; clear hB
     have hM : MemOk [⟨B1, 62, [iV k, iV (x + dx), iV (y + dy)]⟩, ⟨B1 + 1, 62, [iV 0, iV 0, iV 0]⟩] w6 := MemOk.upd (M1 := [⟨B1, 62, [iV k, iV (x + dx), iV (y + dy)]⟩]) (M2 := []) hM hk hMs rfl
     have hk0 := hk0.then hk (by intro i hi h; simp only [Is, Mem.names, List.map_cons, List.map_nil, List.mem_cons, List.not_mem_nil, or_false] at h; omega)
     clear hk hMs
     have hC := (hC2i _ ⟨hM.sub (.cons_cons _ (.cons _ .slnil)), hk0, trivial⟩)
     refine scdone hC ?_
     refine qd hf hC (fun w' h => (hC2e w' h).1) [7, 6] [{}] (env' := [(7, .val (.iface 185 (.pointer (some (E 0))))), (6, eP (B1 + 1) 0)]) (ob := []) An ?_
     clear hf; intro a hf
     clear hC
     show K10 _ _
     refine hK10 _ _ ?_
     refine wp_ret ?_
     refine qr (fn := Tryd.f30) hf hM [.ld 1 0, .ld 1 1, .ld 1 2] (l := [.agg #[iV 0, iV 0, iV 0], .iface 185 (.pointer (some (E 0)))]) (ob := [Ad (B1 + 1) 0, Ad (B1 + 1) 1, Ad (B1 + 1) 2]) (Ac (ad _ _) (Ac (ad _ _) (Ao (ad _ _)))) ?_
     show (.tuple #[.agg #[iV 0, iV 0, iV 0], .iface 185 (.pointer (some (E 0)))] : Value) = .tuple #[.agg #[iV 0, iV 0, iV 0], .iface 185 (.pointer (some (E 0)))] ∧ Keep Nn w w6
     first | exact ⟨rfl, hk0⟩ | (exfalso; omega)

set_option maxRecDepth 10000 in
set_option maxHeartbeats 1600000 in
theorem smv_ok (E : Nat → Addr) (k x y : Int) (dx dy : Int) (w : World) (hn0 : (mvPos k x y) = true) (hn1 : (mvIn dx dy) = true) (hn2 : (vrange ⟨k, (x + dx), (y + dy)⟩) = true) (hdx : -9223372036854775808 ≤ dx ∧ dx ≤ 9223372036854775807) (hdy : -9223372036854775808 ≤ dy ∧ dy ≤ 9223372036854775807) (hG : Errs [0, 3, 4] w 185 E) :
    Calls Tryd.prog 30 #[.agg #[iV k, iV x, iV y], iV dx, iV dy] w (Ret fun v w' => v = .tuple #[.agg #[iV k, iV (x + dx), iV (y + dy)], .nilIface] ∧ Keep Nn w w') := by
 refine sxenter (n := 50) (args := [.agg #[iV k, iV x, iV y], iV dx, iV dy]) Tryd.func30 rfl rfl rfl fun a hf => ?_
 replace hf : Fr 50 [(0, .val (.agg #[iV k, iV x, iV y])), (1, eI dx), (2, eI dy)] a := hf
 have hM : MemOk [] w := MemOk.nil w
 have hk0 : Keep Nn w w := Keep.refl _ _
 have hps := hn0
 simp only [mvPos, Bool.and_eq_true, decide_eq_true_eq] at hps
 obtain ⟨⟨hk_, hkk⟩, hrr⟩ := hps
 have hr0 := vcheck_ok hkk hrr
 have hrx := hrr
 simp only [vrange, hk_, true_or, if_true, decide_eq_true_eq] at hrx
 have hin := of_decide_eq_true hn1
 have hkn : vkind ⟨k, x + dx, y + dy⟩ = true := hkk
 refine wp_seq_k (fun K1 hK1 => ?_)
 refine wp_region_lit ?_
 refine q1 hf hM [7, 6, 3, 1, 2] [{ os := [.nw] }, { os := [.nw] }, {}] (env' := fun B1 => [(7, .val (.nilIface)), (6, eP (B1 + 1) 0), (3, eP B1 0), (1, eI dx), (2, eI dy)]) (M' := fun B1 => [⟨B1, 62, [iV k, iV x, iV y]⟩, ⟨B1 + 1, 62, [iV 0, iV 0, iV 0]⟩]) (ob := fun B1 => []) (fun B1 => An) ?_
 clear hf hM; intro a w1 B1 hf hM hB hk
 have hbB1 : w.heap.size ≤ B1 := by have := hk0.size; omega
 have hk0 := hk0.then hk (by intro i _ h; cases h)
 clear hk hB
 refine wpList_nil ?_
 refine hK1 _ _ ?_
 refine wp_seq_k (fun K2 hK2 => ?_)
 refine wp_seq_k (fun K3 hK3 => ?_)
 refine wp_region_lit ?_
 refine q0 hf hM [11, 7, 6, 3, 1, 2] [{}, { os := [.ld 0 0] }, {}, {}] (env' := [(11, eB ((k : Int) != 0)), (7, .val (.nilIface)), (6, eP (B1 + 1) 0), (3, eP B1 0), (1, eI dx), (2, eI dy)]) (ob := [Ad B1 0]) (Ao (ad _ _)) ?_
 clear hf; intro a hf
 rcases Bool.eq_false_or_eq_true ((k : Int) != 0) with hg1r | hg1r
 · have hg1 := (nN hg1r)
   have hf := hf.prune [11, 7, 6, 3, 1, 2]
   replace hf : Fr 50 [(11, eB ((k : Int) != 0)), (7, .val (.nilIface)), (6, eP (B1 + 1) 0), (3, eP B1 0), (1, eI dx), (2, eI dy)] a := hf
   replace hf := hf.conv (env' := [(11, eB true), (7, .val (.nilIface)), (6, eP (B1 + 1) 0), (3, eP B1 0), (1, eI dx), (2, eI dy)]) (Ac (congrArg Value.bool hg1r) (Ac rfl (Ac rfl (Ac rfl (Ac rfl (Ao rfl))))))
   refine q0 hf hM [12, 11, 7, 6, 3, 1, 2] [{ g := .off }] (env' := [(12, .val (undef)), (11, eB true), (7, .val (.nilIface)), (6, eP (B1 + 1) 0), (3, eP B1 0), (1, eI dx), (2, eI dy)]) (ob := [true = !false]) (Ao rfl) ?_
   clear hf; intro a hf
   refine q0 hf hM [15, 7, 6, 3, 1, 2] [{ g := .off }, { g := .off }, {}] (env' := [(15, eB true), (7, .val (.nilIface)), (6, eP (B1 + 1) 0), (3, eP B1 0), (1, eI dx), (2, eI dy)]) (ob := [true = !false, true = !false]) (Ac rfl (Ao rfl)) ?_
   clear hf; intro a hf
   refine wpList_nil ?_
   refine hK3 _ _ ?_
   refine sxcond hf (b := true) (by kernel_rfl) (fun _ => ?_) (fun h => by cases h)
   refine wp_seq_k (fun K4 hK4 => ?_)
   replace hM := hM.drew; replace hk0 := hk0.drew
   obtain ⟨C1, hC1d⟩ : ∃ C : World → Prop, C = fun w' => MemOk [⟨B1, 62, [iV k, iV x, iV y]⟩] w' ∧ Keep Nn w w' ∧ True := ⟨_, rfl⟩
   have hC1i : ∀ w', (MemOk [⟨B1, 62, [iV k, iV x, iV y]⟩] w' ∧ Keep Nn w w' ∧ True) → C1 w' := fun w' h => by rw [hC1d]; exact h
   have hC1e : ∀ w', C1 w' → (MemOk [⟨B1, 62, [iV k, iV x, iV y]⟩] w' ∧ Keep Nn w w' ∧ True) := fun w' h => by rw [hC1d] at h; exact h
   refine sxdraw (C := C1) (.leaf [(0, true), (1, true), (2, false), (3, true)]) (by kernel_rfl) (by kernel_rfl) (by as_aux_lemma => kernel_rfl) rfl (by as_aux_lemma => kernel_rfl) (by kernel_rfl) (hC1i _ ⟨hM.sub (.cons_cons _ (.cons _ .slnil)), hk0, trivial⟩) ?_
   refine sxleaf ?_
   have hC := (hC1i _ ⟨hM.sub (.cons_cons _ (.cons _ .slnil)), hk0, trivial⟩)
   refine qd hf hC (fun w' h => (hC1e w' h).1) [17, 16, 7, 6] [{ sp := true }, { os := [.ex (.iface 185 (.pointer (some (E 4))))] }] (env' := [(17, .val (.iface 185 (.pointer (some (E 4))))), (16, .val (.agg #[iV 0, iV 0, iV 0])), (7, .val (.nilIface)), (6, eP (B1 + 1) 0)]) (ob := [(∀ w', C1 w' → w'.cell? ⟨4, 0, none⟩ = some (.iface 185 (.pointer (some (E 4)))))]) (Ao (fun w' hc => by obtain ⟨hM, hk0, hO⟩ := hC1e w' hc; exact (hk0.cell (hG.cell 4 (by decide)) (fun h => h)))) ?_
   clear hf; intro a hf
   refine scstep rfl ?_
   have hMs : MemOk [⟨B1 + 1, 62, [iV 0, iV 0, iV 0]⟩] w1.drew := hM.sub (.cons _ (.cons_cons _ .slnil))
   refine q1 hf hMs [17, 7, 6] [{ os := [.st 0 0, .st 0 1, .st 0 2] }] (env' := fun B5 => [(17, .val (.iface 185 (.pointer (some (E 4))))), (7, .val (.nilIface)), (6, eP (B1 + 1) 0)]) (M' := fun B5 => [⟨B1 + 1, 62, [iV 0, iV 0, iV 0]⟩]) (ob := fun B5 => [Ad (B1 + 1) 0, Ad (B1 + 1) 1, Ad (B1 + 1) 2]) (fun B5 => (Ac (ad _ _) (Ac (ad _ _) (Ao (ad _ _))))) ?_
   clear hf hMs; intro a w2 B5 hf hMs hB hk; clear hB
   have hM : MemOk [⟨B1, 62, [iV k, iV x, iV y]⟩, ⟨B1 + 1, 62, [iV 0, iV 0, iV 0]⟩] w2 := MemOk.upd (M1 := [⟨B1, 62, [iV k, iV x, iV y]⟩]) (M2 := []) hM hk hMs rfl
   have hk0 := hk0.then hk (by intro i hi h; simp only [Is, Mem.names, List.map_cons, List.map_nil, List.mem_cons, List.not_mem_nil, or_false] at h; omega)
   clear hk hMs
   have hC := (hC1i _ ⟨hM.sub (.cons_cons _ (.cons _ .slnil)), hk0, trivial⟩)
   refine scdone hC ?_
   refine qd hf hC (fun w' h => (hC1e w' h).1) [7, 6] [{}] (env' := [(7, .val (.iface 185 (.pointer (some (E 4))))), (6, eP (B1 + 1) 0)]) (ob := []) An ?_
   clear hf; intro a hf
   clear hC
   show K4 _ _
   refine hK4 _ _ ?_
   refine wp_ret ?_
   refine qr (fn := Tryd.f30) hf hM [.ld 1 0, .ld 1 1, .ld 1 2] (l := [.agg #[iV 0, iV 0, iV 0], .iface 185 (.pointer (some (E 4)))]) (ob := [Ad (B1 + 1) 0, Ad (B1 + 1) 1, Ad (B1 + 1) 2]) (Ac (ad _ _) (Ac (ad _ _) (Ao (ad _ _)))) ?_
   show (.tuple #[.agg #[iV 0, iV 0, iV 0], .iface 185 (.pointer (some (E 4)))] : Value) = .tuple #[.agg #[iV k, iV (x + dx), iV (y + dy)], .nilIface] ∧ Keep Nn w w2
   first | exact ⟨rfl, hk0⟩ | (exfalso; omega)
 · have hg1 := (nM hg1r)
   have hf := hf.prune [11, 7, 6, 3, 1, 2]
   replace hf : Fr 50 [(11, eB ((k : Int) != 0)), (7, .val (.nilIface)), (6, eP (B1 + 1) 0), (3, eP B1 0), (1, eI dx), (2, eI dy)] a := hf
   replace hf := hf.conv (env' := [(11, eB false), (7, .val (.nilIface)), (6, eP (B1 + 1) 0), (3, eP B1 0), (1, eI dx), (2, eI dy)]) (Ac (congrArg Value.bool hg1r) (Ac rfl (Ac rfl (Ac rfl (Ac rfl (Ao rfl))))))
   refine q0 hf hM [12, 11, 7, 6, 3, 1, 2] [{ os := [.ld 0 0, .ld 0 1, .ld 0 2] }] (env' := [(12, .val (.agg #[iV k, iV x, iV y])), (11, eB false), (7, .val (.nilIface)), (6, eP (B1 + 1) 0), (3, eP B1 0), (1, eI dx), (2, eI dy)]) (ob := [false = false, Ad B1 0, Ad B1 1, Ad B1 2]) (Ac rfl (Ac (ad _ _) (Ac (ad _ _) (Ao (ad _ _))))) ?_
   clear hf; intro a hf
   refine sxcallg hf rfl rfl rfl rfl rfl (g := 31) (vs := [.agg #[iV k, iV x, iV y]]) (ob := []) (by as_aux_lemma => kernel_rfl) An enters31 (scheck_ok E k x y w1 hkk hrr (hG.keep hk0 (fun _ h => h))) ?_
   clear hf; rintro _ w3 a ⟨rfl, hk⟩ hf
   have hM := hM.keepNn hk
   have hk0 := hk0.trans hk.nn
   clear hk
   refine q0 hf hM [15, 7, 6, 3, 1, 2] [{}, {}] (env' := [(15, eB false), (7, .val (.nilIface)), (6, eP (B1 + 1) 0), (3, eP B1 0), (1, eI dx), (2, eI dy)]) (ob := [false = false]) (Ao rfl) ?_
   clear hf; intro a hf
   refine wpList_nil ?_
   refine hK3 _ _ ?_
   refine sxcond hf (b := false) (by kernel_rfl) (fun h => by cases h) (fun _ => ?_)
   refine wp_skip ?_
   refine hK2 _ _ ?_
   refine wp_seq_k (fun K5 hK5 => ?_)
   refine wp_seq_k (fun K6 hK6 => ?_)
   refine wp_region_lit ?_
   refine q0 hf hM [31, 7, 6, 3, 1, 2] [{}, {}, { hint := some (iV (negI dx)) }, {}, {}, { hint := some (iV (negI dy)) }, {}, {}, {}, { g := .sym }, { g := .sym }, { g := .sym }, { g := .sym }, { hint := some (bV ((decide (((if (if (if dx < negI dx then negI dx else dx) < dy then dy else (if dx < negI dx then negI dx else dx)) < negI dy then negI dy else (if (if dx < negI dx then negI dx else dx) < dy then dy else (if dx < negI dx then negI dx else dx))) : Int) > 2097152)) || (decide (((if dy < dx then dy else dx) : Int) < (-2097152))))) }] (env' := [(31, eB ((decide (((if (if (if dx < negI dx then negI dx else dx) < dy then dy else (if dx < negI dx then negI dx else dx)) < negI dy then negI dy else (if (if dx < negI dx then negI dx else dx) < dy then dy else (if dx < negI dx then negI dx else dx))) : Int) > 2097152)) || (decide (((if dy < dx then dy else dx) : Int) < (-2097152))))), (7, .val (.nilIface)), (6, eP (B1 + 1) 0), (3, eP B1 0), (1, eI dx), (2, eI dy)]) (ob := [(iV (IntKind.i64.wrap (0 - dx)) : Value) = (iV (negI dx) : Value), (iV (IntKind.i64.wrap (0 - dy)) : Value) = (iV (negI dy) : Value), ((decide (((if (if (if dx < negI dx then negI dx else dx) < dy then dy else (if dx < negI dx then negI dx else dx)) < negI dy then negI dy else (if (if dx < negI dx then negI dx else dx) < dy then dy else (if dx < negI dx then negI dx else dx))) : Int) > 2097152)) = false → (decide (((if (if (if dx < negI dx then negI dx else dx) < dy then dy else (if dx < negI dx then negI dx else dx)) < negI dy then negI dy else (if (if dx < negI dx then negI dx else dx) < dy then dy else (if dx < negI dx then negI dx else dx))) : Int) > 2097152)) = (decide (((if (if (if dx < negI dx then negI dx else dx) < dy then dy else (if dx < negI dx then negI dx else dx)) < negI dy then negI dy else (if (if dx < negI dx then negI dx else dx) < dy then dy else (if dx < negI dx then negI dx else dx))) : Int) > 2097152))), ((decide (((if (if (if dx < negI dx then negI dx else dx) < dy then dy else (if dx < negI dx then negI dx else dx)) < negI dy then negI dy else (if (if dx < negI dx then negI dx else dx) < dy then dy else (if dx < negI dx then negI dx else dx))) : Int) > 2097152)) = false → (decide (((if (if (if dx < negI dx then negI dx else dx) < dy then dy else (if dx < negI dx then negI dx else dx)) < negI dy then negI dy else (if (if dx < negI dx then negI dx else dx) < dy then dy else (if dx < negI dx then negI dx else dx))) : Int) > 2097152)) = (decide (((if (if (if dx < negI dx then negI dx else dx) < dy then dy else (if dx < negI dx then negI dx else dx)) < negI dy then negI dy else (if (if dx < negI dx then negI dx else dx) < dy then dy else (if dx < negI dx then negI dx else dx))) : Int) > 2097152))), ((decide (((if (if (if dx < negI dx then negI dx else dx) < dy then dy else (if dx < negI dx then negI dx else dx)) < negI dy then negI dy else (if (if dx < negI dx then negI dx else dx) < dy then dy else (if dx < negI dx then negI dx else dx))) : Int) > 2097152)) = false → (decide (((if (if (if dx < negI dx then negI dx else dx) < dy then dy else (if dx < negI dx then negI dx else dx)) < negI dy then negI dy else (if (if dx < negI dx then negI dx else dx) < dy then dy else (if dx < negI dx then negI dx else dx))) : Int) > 2097152)) = (decide (((if (if (if dx < negI dx then negI dx else dx) < dy then dy else (if dx < negI dx then negI dx else dx)) < negI dy then negI dy else (if (if dx < negI dx then negI dx else dx) < dy then dy else (if dx < negI dx then negI dx else dx))) : Int) > 2097152))), ((decide (((if (if (if dx < negI dx then negI dx else dx) < dy then dy else (if dx < negI dx then negI dx else dx)) < negI dy then negI dy else (if (if dx < negI dx then negI dx else dx) < dy then dy else (if dx < negI dx then negI dx else dx))) : Int) > 2097152)) = false → (decide (((if (if (if dx < negI dx then negI dx else dx) < dy then dy else (if dx < negI dx then negI dx else dx)) < negI dy then negI dy else (if (if dx < negI dx then negI dx else dx) < dy then dy else (if dx < negI dx then negI dx else dx))) : Int) > 2097152)) = (decide (((if (if (if dx < negI dx then negI dx else dx) < dy then dy else (if dx < negI dx then negI dx else dx)) < negI dy then negI dy else (if (if dx < negI dx then negI dx else dx) < dy then dy else (if dx < negI dx then negI dx else dx))) : Int) > 2097152))), (bif (decide (((if (if (if dx < negI dx then negI dx else dx) < dy then dy else (if dx < negI dx then negI dx else dx)) < negI dy then negI dy else (if (if dx < negI dx then negI dx else dx) < dy then dy else (if dx < negI dx then negI dx else dx))) : Int) > 2097152)) then (bV true : Value) else bV (decide (((if dy < dx then dy else dx) : Int) < (-2097152)))) = .bool ((decide (((if (if (if dx < negI dx then negI dx else dx) < dy then dy else (if dx < negI dx then negI dx else dx)) < negI dy then negI dy else (if (if dx < negI dx then negI dx else dx) < dy then dy else (if dx < negI dx then negI dx else dx))) : Int) > 2097152)) || (decide (((if dy < dx then dy else dx) : Int) < (-2097152))))]) (Ac (neg_int hdx) (Ac (neg_int hdy) (Ac (fun hgd => rfl) (Ac (fun hgd => rfl) (Ac (fun hgd => rfl) (Ac (fun _ => rfl) (Ao (pick_or _ _)))))))) ?_
   clear hf; intro a hf
   refine wpList_nil ?_
   refine hK6 _ _ ?_
   refine qc hf (b := ((decide (((if (if (if dx < negI dx then negI dx else dx) < dy then dy else (if dx < negI dx then negI dx else dx)) < negI dy then negI dy else (if (if dx < negI dx then negI dx else dx) < dy then dy else (if dx < negI dx then negI dx else dx))) : Int) > 2097152)) || (decide (((if dy < dx then dy else dx) : Int) < (-2097152))))) (fun hc3r => ?_) (fun hc3r => ?_)
   · have hc3 := hc3r
     try simp only [Bool.or_eq_true, Bool.and_eq_true, Bool.not_eq_true', Bool.not_eq_false', Bool.or_eq_false_iff, Bool.and_eq_false_iff, decide_eq_true_eq, decide_eq_false_iff_not, beq_iff_eq, bne_iff_ne, beq_eq_false_iff_ne, bne_eq_false_iff_eq, Bool.and_true, Bool.true_and, ne_eq] at hc3
     exfalso; simp only [negI] at hc3; (repeat' split at hc3) <;> omega
   · have hc3 := hc3r
     try simp only [Bool.or_eq_true, Bool.and_eq_true, Bool.not_eq_true', Bool.not_eq_false', Bool.or_eq_false_iff, Bool.and_eq_false_iff, decide_eq_true_eq, decide_eq_false_iff_not, beq_iff_eq, bne_iff_ne, beq_eq_false_iff_ne, bne_eq_false_iff_eq, Bool.and_true, Bool.true_and, ne_eq] at hc3
     refine wp_skip ?_
     refine hK5 _ _ ?_
     refine wp_seq_k (fun K7 hK7 => ?_)
     refine wp_region_lit ?_
     refine q1 hf hM [7, 6, 3] [{}, { os := [.ld 0 1] }, {}, { hint := some (iV (x + dx)) }, {}, { os := [.ld 0 2] }, {}, { hint := some (iV (y + dy)) }, {}, { os := [.st 0 1] }, {}, { os := [.st 0 2] }] (env' := fun B9 => [(7, .val (.nilIface)), (6, eP (B1 + 1) 0), (3, eP B1 0)]) (M' := fun B9 => [⟨B1, 62, [iV k, iV (x + dx), iV (y + dy)]⟩, ⟨B1 + 1, 62, [iV 0, iV 0, iV 0]⟩]) (ob := fun B9 => [Ad B1 1, (iV (IntKind.i64.wrap (x + dx)) : Value) = (iV (x + dx) : Value), Ad B1 2, (iV (IntKind.i64.wrap (y + dy)) : Value) = (iV (y + dy) : Value), Ad B1 1, Ad B1 2]) (fun B9 => (Ac (ad _ _) (Ac (wr (by omega)) (Ac (ad _ _) (Ac (wr (by omega)) (Ac (ad _ _) (Ao (ad _ _)))))))) ?_
     clear hf hM; intro a w4 B9 hf hM hB hk
     have hbB9 : w.heap.size ≤ B9 := by have := hk0.size; omega
     have hk0 := hk0.then hk (by intro i hi h; simp only [Is, Mem.names, List.map_cons, List.map_nil, List.mem_cons, List.not_mem_nil, or_false] at h; omega)
     clear hk hB
     refine wpList_nil ?_
     refine hK7 _ _ ?_
     refine wp_seq_k (fun K8 hK8 => ?_)
     refine wp_seq_k (fun K9 hK9 => ?_)
     refine wp_region_lit ?_
     refine q0 hf hM [44, 7, 6, 3] [{ os := [.ld 0 0, .ld 0 1, .ld 0 2] }] (env' := [(44, .val (.agg #[iV k, iV (x + dx), iV (y + dy)])), (7, .val (.nilIface)), (6, eP (B1 + 1) 0), (3, eP B1 0)]) (ob := [Ad B1 0, Ad B1 1, Ad B1 2]) (Ac (ad _ _) (Ac (ad _ _) (Ao (ad _ _)))) ?_
     clear hf; intro a hf
     refine sxcall hf rfl rfl rfl rfl (g := 31) (vs := [.agg #[iV k, iV (x + dx), iV (y + dy)]]) (ob := []) (by as_aux_lemma => kernel_rfl) An enters31 (scheck_ok E k (x + dx) (y + dy) w4 hkn hn2 (hG.keep hk0 (fun _ h => h))) ?_
     clear hf; rintro _ w5 a ⟨rfl, hk⟩ hf
     have hM := hM.keepNn hk
     have hk0 := hk0.trans hk.nn
     clear hk
     refine q0 hf hM [46, 7, 6, 3] [{}] (env' := [(46, eB false), (7, .val (.nilIface)), (6, eP (B1 + 1) 0), (3, eP B1 0)]) (ob := []) An ?_
     clear hf; intro a hf
     refine wpList_nil ?_
     refine hK9 _ _ ?_
     refine sxcond hf (b := false) (by kernel_rfl) (fun h => by cases h) (fun _ => ?_)
     refine wp_skip ?_
     refine hK8 _ _ ?_
     refine wp_seq_k (fun K10 hK10 => ?_)
     refine wp_region_lit ?_
     refine q1 hf hM [7, 6] [{ os := [.ld 0 0, .ld 0 1, .ld 0 2] }, { os := [.st 1 0, .st 1 1, .st 1 2] }, {}] (env' := fun B12 => [(7, .val (.nilIface)), (6, eP (B1 + 1) 0)]) (M' := fun B12 => [⟨B1, 62, [iV k, iV (x + dx), iV (y + dy)]⟩, ⟨B1 + 1, 62, [iV k, iV (x + dx), iV (y + dy)]⟩]) (ob := fun B12 => [Ad B1 0, Ad B1 1, Ad B1 2, Ad (B1 + 1) 0, Ad (B1 + 1) 1, Ad (B1 + 1) 2]) (fun B12 => (Ac (ad _ _) (Ac (ad _ _) (Ac (ad _ _) (Ac (ad _ _) (Ac (ad _ _) (Ao (ad _ _)))))))) ?_
     clear hf hM; intro a w6 B12 hf hM hB hk
     have hbB12 : w.heap.size ≤ B12 := by have := hk0.size; omega
     have hk0 := hk0.then hk (by intro i hi h; simp only [Is, Mem.names, List.map_cons, List.map_nil, List.mem_cons, List.not_mem_nil, or_false] at h; omega)
     clear hk hB
     refine wpList_nil ?_
     refine hK10 _ _ ?_
     refine wp_ret ?_
     refine qr (fn := Tryd.f30) hf hM [.ld 1 0, .ld 1 1, .ld 1 2] (l := [.agg #[iV k, iV (x + dx), iV (y + dy)], .nilIface]) (ob := [Ad (B1 + 1) 0, Ad (B1 + 1) 1, Ad (B1 + 1) 2]) (Ac (ad _ _) (Ac (ad _ _) (Ao (ad _ _)))) ?_
     show (.tuple #[.agg #[iV k, iV (x + dx), iV (y + dy)], .nilIface] : Value) = .tuple #[.agg #[iV k, iV (x + dx), iV (y + dy)], .nilIface] ∧ Keep Nn w w6
     first | exact ⟨rfl, hk0⟩ | (exfalso; omega)

set_option maxRecDepth 10000 in
set_option maxHeartbeats 1600000 in
theorem rmv_far (k x y : Int) (dx dy : Int) (w : World) (hn0 : (mvPos k x y) = true) (hn1 : (mvIn dx dy) = false) (hdx : -9223372036854775808 ≤ dx ∧ dx ≤ 9223372036854775807) (hdy : -9223372036854775808 ≤ dy ∧ dy ≤ 9223372036854775807) :
    Calls Tryd.prog 49 #[.agg #[iV k, iV x, iV y], iV dx, iV dy] w (Ret fun v w' => v = .tuple #[.agg #[iV 0, iV 0, iV 0], iV 1] ∧ Keep Nn w w') := by
 refine sxenter (n := 41) (args := [.agg #[iV k, iV x, iV y], iV dx, iV dy]) Tryd.func49 rfl rfl rfl fun a hf => ?_
 replace hf : Fr 41 [(0, .val (.agg #[iV k, iV x, iV y])), (1, eI dx), (2, eI dy)] a := hf
 have hM : MemOk [] w := MemOk.nil w
 have hk0 : Keep Nn w w := Keep.refl _ _
 have hps := hn0
 simp only [mvPos, Bool.and_eq_true, decide_eq_true_eq] at hps
 obtain ⟨⟨hk_, hkk⟩, hrr⟩ := hps
 have hr0 := vcheck_ok hkk hrr
 have hrx := hrr
 simp only [vrange, hk_, true_or, if_true, decide_eq_true_eq] at hrx
 have hr1 : vcheck ⟨k, x, y⟩ = 0 := hr0
 have hin := of_decide_eq_false hn1
 refine wp_seq_k (fun K1 hK1 => ?_)
 refine wp_region_lit ?_
 refine q1 hf hM [6, 3, 1, 2] [{ os := [.nw] }, { os := [.nw] }, {}] (env' := fun B1 => [(6, eP (B1 + 1) 0), (3, eP B1 0), (1, eI dx), (2, eI dy)]) (M' := fun B1 => [⟨B1, 62, [iV k, iV x, iV y]⟩, ⟨B1 + 1, 62, [iV 0, iV 0, iV 0]⟩]) (ob := fun B1 => []) (fun B1 => An) ?_
 clear hf hM; intro a w1 B1 hf hM hB hk
 have hbB1 : w.heap.size ≤ B1 := by have := hk0.size; omega
 have hk0 := hk0.then hk (by intro i _ h; cases h)
 clear hk hB
 refine wpList_nil ?_
 refine hK1 _ _ ?_
 refine wp_seq_k (fun K2 hK2 => ?_)
 refine wp_seq_k (fun K3 hK3 => ?_)
 refine wp_region_lit ?_
 refine q0 hf hM [12, 6, 3, 1, 2] [{}, { os := [.ld 0 0] }, {}, {}] (env' := [(12, eB ((k : Int) != 0)), (6, eP (B1 + 1) 0), (3, eP B1 0), (1, eI dx), (2, eI dy)]) (ob := [Ad B1 0]) (Ao (ad _ _)) ?_
 clear hf; intro a hf
 rcases Bool.eq_false_or_eq_true ((k : Int) != 0) with hg1r | hg1r
 · have hg1 := (nN hg1r)
   have hf := hf.prune [12, 6, 3, 1, 2]
   replace hf : Fr 41 [(12, eB ((k : Int) != 0)), (6, eP (B1 + 1) 0), (3, eP B1 0), (1, eI dx), (2, eI dy)] a := hf
   replace hf := hf.conv (env' := [(12, eB true), (6, eP (B1 + 1) 0), (3, eP B1 0), (1, eI dx), (2, eI dy)]) (Ac (congrArg Value.bool hg1r) (Ac rfl (Ac rfl (Ac rfl (Ao rfl)))))
   refine q0 hf hM [13, 12, 6, 3, 1, 2] [{ g := .off }] (env' := [(13, .val (undef)), (12, eB true), (6, eP (B1 + 1) 0), (3, eP B1 0), (1, eI dx), (2, eI dy)]) (ob := [true = !false]) (Ao rfl) ?_
   clear hf; intro a hf
   refine q0 hf hM [16, 6, 3, 1, 2] [{ g := .off }, { g := .off }, {}] (env' := [(16, eB true), (6, eP (B1 + 1) 0), (3, eP B1 0), (1, eI dx), (2, eI dy)]) (ob := [true = !false, true = !false]) (Ac rfl (Ao rfl)) ?_
   clear hf; intro a hf
   refine wpList_nil ?_
   refine hK3 _ _ ?_
   refine sxcond hf (b := true) (by kernel_rfl) (fun _ => ?_) (fun h => by cases h)
   refine wp_seq_k (fun K4 hK4 => ?_)
   refine wp_region_lit ?_
   refine q1 hf hM [7, 6] [{ sp := true }, { os := [.st 1 0, .st 1 1, .st 1 2] }, {}] (env' := fun B5 => [(7, eI 5), (6, eP (B1 + 1) 0)]) (M' := fun B5 => [⟨B1, 62, [iV k, iV x, iV y]⟩, ⟨B1 + 1, 62, [iV 0, iV 0, iV 0]⟩]) (ob := fun B5 => [Ad (B1 + 1) 0, Ad (B1 + 1) 1, Ad (B1 + 1) 2]) (fun B5 => (Ac (ad _ _) (Ac (ad _ _) (Ao (ad _ _))))) ?_
   clear hf hM; intro a w2 B5 hf hM hB hk
   have hbB5 : w.heap.size ≤ B5 := by have := hk0.size; omega
   have hk0 := hk0.then hk (by intro i hi h; simp only [Is, Mem.names, List.map_cons, List.map_nil, List.mem_cons, List.not_mem_nil, or_false] at h; omega)
   clear hk hB
   refine wpList_nil ?_
   refine hK4 _ _ ?_
   refine wp_ret ?_
   refine qr (fn := Tryd.f49) hf hM [.ld 1 0, .ld 1 1, .ld 1 2] (l := [.agg #[iV 0, iV 0, iV 0], iV 5]) (ob := [Ad (B1 + 1) 0, Ad (B1 + 1) 1, Ad (B1 + 1) 2]) (Ac (ad _ _) (Ac (ad _ _) (Ao (ad _ _)))) ?_
   show (.tuple #[.agg #[iV 0, iV 0, iV 0], iV 5] : Value) = .tuple #[.agg #[iV 0, iV 0, iV 0], iV 1] ∧ Keep Nn w w2
   first | exact ⟨rfl, hk0⟩ | (exfalso; omega)
 · have hg1 := (nM hg1r)
   have hf := hf.prune [12, 6, 3, 1, 2]
   replace hf : Fr 41 [(12, eB ((k : Int) != 0)), (6, eP (B1 + 1) 0), (3, eP B1 0), (1, eI dx), (2, eI dy)] a := hf
   replace hf := hf.conv (env' := [(12, eB false), (6, eP (B1 + 1) 0), (3, eP B1 0), (1, eI dx), (2, eI dy)]) (Ac (congrArg Value.bool hg1r) (Ac rfl (Ac rfl (Ac rfl (Ao rfl)))))
   refine q0 hf hM [13, 12, 6, 3, 1, 2] [{ os := [.ld 0 0, .ld 0 1, .ld 0 2] }] (env' := [(13, .val (.agg #[iV k, iV x, iV y])), (12, eB false), (6, eP (B1 + 1) 0), (3, eP B1 0), (1, eI dx), (2, eI dy)]) (ob := [false = false, Ad B1 0, Ad B1 1, Ad B1 2]) (Ac rfl (Ac (ad _ _) (Ac (ad _ _) (Ao (ad _ _))))) ?_
   clear hf; intro a hf
   refine sxcallg hf rfl rfl rfl rfl rfl (g := 34) (vs := [.agg #[iV k, iV x, iV y]]) (ob := []) (by as_aux_lemma => kernel_rfl) An enters34 (rcheck k x y w1  ) ?_
   clear hf; rintro _ w3 a ⟨rfl, hk⟩ hf
   have hM := hM.keepNn hk
   have hk0 := hk0.trans hk.nn
   clear hk
   refine q0 hf hM [16, 6, 3, 1, 2] [{}, {}] (env' := [(16, eB (((vcheck ⟨k, x, y⟩) : Int) != 0)), (6, eP (B1 + 1) 0), (3, eP B1 0), (1, eI dx), (2, eI dy)]) (ob := [false = false]) (Ao rfl) ?_
   clear hf; intro a hf
   refine wpList_nil ?_
   refine hK3 _ _ ?_
   refine qc hf (b := (((vcheck ⟨k, x, y⟩) : Int) != 0)) (fun hc2r => ?_) (fun hc2r => ?_)
   · have hc2 := (nN hc2r)
     exfalso; omega
   · have hc2 := (nM hc2r)
     refine wp_skip ?_
     refine hK2 _ _ ?_
     refine wp_seq_k (fun K5 hK5 => ?_)
     refine wp_seq_k (fun K6 hK6 => ?_)
     refine wp_region_lit ?_
     refine q0 hf hM [18, 6, 3, 1, 2] [{}] (env' := [(18, eI dx), (6, eP (B1 + 1) 0), (3, eP B1 0), (1, eI dx), (2, eI dy)]) (ob := []) An ?_
     clear hf; intro a hf
     refine sxcall hf rfl rfl rfl rfl (g := 72) (vs := [iV dx, iV (-2097152), iV 2097152]) (ob := []) (by as_aux_lemma => kernel_rfl) An enters72 (rin6 dx (-2097152) 2097152 w3  ) ?_
     clear hf; rintro _ w4 a ⟨rfl, hk⟩ hf
     have hM := hM.keepNn hk
     have hk0 := hk0.trans hk.nn
     clear hk
     refine q0 hf hM [21, 6, 3, 1, 2] [{}, {}] (env' := [(21, eB (!(decide ((-2097152) ≤ dx) && decide (dx ≤ 2097152)))), (6, eP (B1 + 1) 0), (3, eP B1 0), (1, eI dx), (2, eI dy)]) (ob := []) An ?_
     clear hf; intro a hf
     rcases Bool.eq_false_or_eq_true (!(decide ((-2097152) ≤ dx) && decide (dx ≤ 2097152))) with hg2r | hg2r
     · have hg2 := hg2r
       try simp only [Bool.or_eq_true, Bool.and_eq_true, Bool.not_eq_true', Bool.not_eq_false', Bool.or_eq_false_iff, Bool.and_eq_false_iff, decide_eq_true_eq, decide_eq_false_iff_not, beq_iff_eq, bne_iff_ne, beq_eq_false_iff_ne, bne_eq_false_iff_eq, Bool.and_true, Bool.true_and, ne_eq] at hg2
       have hf := hf.prune [21, 6, 3, 1, 2]
       replace hf : Fr 41 [(21, eB (!(decide ((-2097152) ≤ dx) && decide (dx ≤ 2097152)))), (6, eP (B1 + 1) 0), (3, eP B1 0), (1, eI dx), (2, eI dy)] a := hf
       replace hf := hf.conv (env' := [(21, eB true), (6, eP (B1 + 1) 0), (3, eP B1 0), (1, eI dx), (2, eI dy)]) (Ac (congrArg Value.bool hg2r) (Ac rfl (Ac rfl (Ac rfl (Ao rfl)))))
       refine q0 hf hM [22, 21, 6, 3, 1, 2] [{ g := .off }] (env' := [(22, .val (undef)), (21, eB true), (6, eP (B1 + 1) 0), (3, eP B1 0), (1, eI dx), (2, eI dy)]) (ob := [true = !false]) (Ao rfl) ?_
       clear hf; intro a hf
       refine q0 hf hM [25, 6, 3, 1, 2] [{ g := .off }, { g := .off }, {}] (env' := [(25, eB true), (6, eP (B1 + 1) 0), (3, eP B1 0), (1, eI dx), (2, eI dy)]) (ob := [true = !false, true = !false]) (Ac rfl (Ao rfl)) ?_
       clear hf; intro a hf
       refine wpList_nil ?_
       refine hK6 _ _ ?_
       refine sxcond hf (b := true) (by kernel_rfl) (fun _ => ?_) (fun h => by cases h)
       refine wp_seq_k (fun K7 hK7 => ?_)
       refine wp_region_lit ?_
       refine q1 hf hM [7, 6] [{ sp := true }, { os := [.st 1 0, .st 1 1, .st 1 2] }, {}] (env' := fun B12 => [(7, eI 1), (6, eP (B1 + 1) 0)]) (M' := fun B12 => [⟨B1, 62, [iV k, iV x, iV y]⟩, ⟨B1 + 1, 62, [iV 0, iV 0, iV 0]⟩]) (ob := fun B12 => [Ad (B1 + 1) 0, Ad (B1 + 1) 1, Ad (B1 + 1) 2]) (fun B12 => (Ac (ad _ _) (Ac (ad _ _) (Ao (ad _ _))))) ?_
       clear hf hM; intro a w5 B12 hf hM hB hk
       have hbB12 : w.heap.size ≤ B12 := by have := hk0.size; omega
       have hk0 := hk0.then hk (by intro i hi h; simp only [Is, Mem.names, List.map_cons, List.map_nil, List.mem_cons, List.not_mem_nil, or_false] at h; omega)
       clear hk hB
       refine wpList_nil ?_
       refine hK7 _ _ ?_
       refine wp_ret ?_
       refine qr (fn := Tryd.f49) hf hM [.ld 1 0, .ld 1 1, .ld 1 2] (l := [.agg #[iV 0, iV 0, iV 0], iV 1]) (ob := [Ad (B1 + 1) 0, Ad (B1 + 1) 1, Ad (B1 + 1) 2]) (Ac (ad _ _) (Ac (ad _ _) (Ao (ad _ _)))) ?_
       show (.tuple #[.agg #[iV 0, iV 0, iV 0], iV 1] : Value) = .tuple #[.agg #[iV 0, iV 0, iV 0], iV 1] ∧ Keep Nn w w5
       first | exact ⟨rfl, hk0⟩ | (exfalso; omega)
     · have hg2 := hg2r
       try simp only [Bool.or_eq_true, Bool.and_eq_true, Bool.not_eq_true', Bool.not_eq_false', Bool.or_eq_false_iff, Bool.and_eq_false_iff, decide_eq_true_eq, decide_eq_false_iff_not, beq_iff_eq, bne_iff_ne, beq_eq_false_iff_ne, bne_eq_false_iff_eq, Bool.and_true, Bool.true_and, ne_eq] at hg2
       have hf := hf.prune [21, 6, 3, 1, 2]
       replace hf : Fr 41 [(21, eB (!(decide ((-2097152) ≤ dx) && decide (dx ≤ 2097152)))), (6, eP (B1 + 1) 0), (3, eP B1 0), (1, eI dx), (2, eI dy)] a := hf
       replace hf := hf.conv (env' := [(21, eB false), (6, eP (B1 + 1) 0), (3, eP B1 0), (1, eI dx), (2, eI dy)]) (Ac (congrArg Value.bool hg2r) (Ac rfl (Ac rfl (Ac rfl (Ao rfl)))))
       refine q0 hf hM [22, 21, 6, 3, 1, 2] [{}] (env' := [(22, eI dy), (21, eB false), (6, eP (B1 + 1) 0), (3, eP B1 0), (1, eI dx), (2, eI dy)]) (ob := [false = false]) (Ao rfl) ?_
       clear hf; intro a hf
       refine sxcallg hf rfl rfl rfl rfl rfl (g := 72) (vs := [iV dy, iV (-2097152), iV 2097152]) (ob := []) (by as_aux_lemma => kernel_rfl) An enters72 (rin6 dy (-2097152) 2097152 w4  ) ?_
       clear hf; rintro _ w6 a ⟨rfl, hk⟩ hf
       have hM := hM.keepNn hk
       have hk0 := hk0.trans hk.nn
       clear hk
       refine q0 hf hM [25, 6, 3, 1, 2] [{}, {}] (env' := [(25, eB (!(decide ((-2097152) ≤ dy) && decide (dy ≤ 2097152)))), (6, eP (B1 + 1) 0), (3, eP B1 0), (1, eI dx), (2, eI dy)]) (ob := [false = false]) (Ao rfl) ?_
       clear hf; intro a hf
       refine wpList_nil ?_
       refine hK6 _ _ ?_
       refine qc hf (b := !(decide ((-2097152) ≤ dy) && decide (dy ≤ 2097152))) (fun hc4r => ?_) (fun hc4r => ?_)
       · have hc4 := hc4r
         try simp only [Bool.or_eq_true, Bool.and_eq_true, Bool.not_eq_true', Bool.not_eq_false', Bool.or_eq_false_iff, Bool.and_eq_false_iff, decide_eq_true_eq, decide_eq_false_iff_not, beq_iff_eq, bne_iff_ne, beq_eq_false_iff_ne, bne_eq_false_iff_eq, Bool.and_true, Bool.true_and, ne_eq] at hc4
         refine wp_seq_k (fun K8 hK8 => ?_)
         refine wp_region_lit ?_
         refine q1 hf hM [7, 6] [{ sp := true }, { os := [.st 1 0, .st 1 1, .st 1 2] }, {}] (env' := fun B15 => [(7, eI 1), (6, eP (B1 + 1) 0)]) (M' := fun B15 => [⟨B1, 62, [iV k, iV x, iV y]⟩, ⟨B1 + 1, 62, [iV 0, iV 0, iV 0]⟩]) (ob := fun B15 => [Ad (B1 + 1) 0, Ad (B1 + 1) 1, Ad (B1 + 1) 2]) (fun B15 => (Ac (ad _ _) (Ac (ad _ _) (Ao (ad _ _))))) ?_
         clear hf hM; intro a w7 B15 hf hM hB hk
         have hbB15 : w.heap.size ≤ B15 := by have := hk0.size; omega
         have hk0 := hk0.then hk (by intro i hi h; simp only [Is, Mem.names, List.map_cons, List.map_nil, List.mem_cons, List.not_mem_nil, or_false] at h; omega)
         clear hk hB
         refine wpList_nil ?_
         refine hK8 _ _ ?_
         refine wp_ret ?_
         refine qr (fn := Tryd.f49) hf hM [.ld 1 0, .ld 1 1, .ld 1 2] (l := [.agg #[iV 0, iV 0, iV 0], iV 1]) (ob := [Ad (B1 + 1) 0, Ad (B1 + 1) 1, Ad (B1 + 1) 2]) (Ac (ad _ _) (Ac (ad _ _) (Ao (ad _ _)))) ?_
         show (.tuple #[.agg #[iV 0, iV 0, iV 0], iV 1] : Value) = .tuple #[.agg #[iV 0, iV 0, iV 0], iV 1] ∧ Keep Nn w w7
         first | exact ⟨rfl, hk0⟩ | (exfalso; omega)
       · have hc4 := hc4r
         try simp only [Bool.or_eq_true, Bool.and_eq_true, Bool.not_eq_true', Bool.not_eq_false', Bool.or_eq_false_iff, Bool.and_eq_false_iff, decide_eq_true_eq, decide_eq_false_iff_not, beq_iff_eq, bne_iff_ne, beq_eq_false_iff_ne, bne_eq_false_iff_eq, Bool.and_true, Bool.true_and, ne_eq] at hc4
         exfalso; omega

set_option maxRecDepth 10000 in
set_option maxHeartbeats 1600000 in
theorem rmv_out (k x y : Int) (dx dy : Int) (w : World) (hn0 : (mvPos k x y) = true) (hn1 : (mvIn dx dy) = true) (hn2 : (vrange ⟨k, (x + dx), (y + dy)⟩) = false) (hdx : -9223372036854775808 ≤ dx ∧ dx ≤ 9223372036854775807) (hdy : -9223372036854775808 ≤ dy ∧ dy ≤ 9223372036854775807) :
    Calls Tryd.prog 49 #[.agg #[iV k, iV x, iV y], iV dx, iV dy] w (Ret fun v w' => v = .tuple #[.agg #[iV 0, iV 0, iV 0], iV 1] ∧ Keep Nn w w') := by
 refine sxenter (n := 41) (args := [.agg #[iV k, iV x, iV y], iV dx, iV dy]) Tryd.func49 rfl rfl rfl fun a hf => ?_
 replace hf : Fr 41 [(0, .val (.agg #[iV k, iV x, iV y])), (1, eI dx), (2, eI dy)] a := hf
 have hM : MemOk [] w := MemOk.nil w
 have hk0 : Keep Nn w w := Keep.refl _ _
 have hps := hn0
 simp only [mvPos, Bool.and_eq_true, decide_eq_true_eq] at hps
 obtain ⟨⟨hk_, hkk⟩, hrr⟩ := hps
 have hr0 := vcheck_ok hkk hrr
 have hrx := hrr
 simp only [vrange, hk_, true_or, if_true, decide_eq_true_eq] at hrx
 have hr1 : vcheck ⟨k, x, y⟩ = 0 := hr0
 have hin := of_decide_eq_true hn1
 have hv0 : vcheck ⟨0, x + dx, y + dy⟩ = if vrange ⟨k, x + dx, y + dy⟩ = true then 0 else 1 := by
   rw [hk_]
   rfl
 rw [hn2, if_neg (by decide)] at hv0
 refine wp_seq_k (fun K1 hK1 => ?_)
 refine wp_region_lit ?_
 refine q1 hf hM [6, 3, 1, 2] [{ os := [.nw] }, { os := [.nw] }, {}] (env' := fun B1 => [(6, eP (B1 + 1) 0), (3, eP B1 0), (1, eI dx), (2, eI dy)]) (M' := fun B1 => [⟨B1, 62, [iV k, iV x, iV y]⟩, ⟨B1 + 1, 62, [iV 0, iV 0, iV 0]⟩]) (ob := fun B1 => []) (fun B1 => An) ?_
 clear hf hM; intro a w1 B1 hf hM hB hk
 have hbB1 : w.heap.size ≤ B1 := by have := hk0.size; omega
 have hk0 := hk0.then hk (by intro i _ h; cases h)
 clear hk hB
 refine wpList_nil ?_
 refine hK1 _ _ ?_
 refine wp_seq_k (fun K2 hK2 => ?_)
 refine wp_seq_k (fun K3 hK3 => ?_)
 refine wp_region_lit ?_
 refine q0 hf hM [12, 6, 3, 1, 2] [{}, { os := [.ld 0 0] }, {}, {}] (env' := [(12, eB ((k : Int) != 0)), (6, eP (B1 + 1) 0), (3, eP B1 0), (1, eI dx), (2, eI dy)]) (ob := [Ad B1 0]) (Ao (ad _ _)) ?_
 clear hf; intro a hf
 rcases Bool.eq_false_or_eq_true ((k : Int) != 0) with hg1r | hg1r
 · have hg1 := (nN hg1r)
   have hf := hf.prune [12, 6, 3, 1, 2]
   replace hf : Fr 41 [(12, eB ((k : Int) != 0)), (6, eP (B1 + 1) 0), (3, eP B1 0), (1, eI dx), (2, eI dy)] a := hf
   replace hf := hf.conv (env' := [(12, eB true), (6, eP (B1 + 1) 0), (3, eP B1 0), (1, eI dx), (2, eI dy)]) (Ac (congrArg Value.bool hg1r) (Ac rfl (Ac rfl (Ac rfl (Ao rfl)))))
   refine q0 hf hM [13, 12, 6, 3, 1, 2] [{ g := .off }] (env' := [(13, .val (undef)), (12, eB true), (6, eP (B1 + 1) 0), (3, eP B1 0), (1, eI dx), (2, eI dy)]) (ob := [true = !false]) (Ao rfl) ?_
   clear hf; intro a hf
   refine q0 hf hM [16, 6, 3, 1, 2] [{ g := .off }, { g := .off }, {}] (env' := [(16, eB true), (6, eP (B1 + 1) 0), (3, eP B1 0), (1, eI dx), (2, eI dy)]) (ob := [true = !false, true = !false]) (Ac rfl (Ao rfl)) ?_
   clear hf; intro a hf
   refine wpList_nil ?_
   refine hK3 _ _ ?_
   refine sxcond hf (b := true) (by kernel_rfl) (fun _ => ?_) (fun h => by cases h)
   refine wp_seq_k (fun K4 hK4 => ?_)
   refine wp_region_lit ?_
   refine q1 hf hM [7, 6] [{ sp := true }, { os := [.st 1 0, .st 1 1, .st 1 2] }, {}] (env' := fun B5 => [(7, eI 5), (6, eP (B1 + 1) 0)]) (M' := fun B5 => [⟨B1, 62, [iV k, iV x, iV y]⟩, ⟨B1 + 1, 62, [iV 0, iV 0, iV 0]⟩]) (ob := fun B5 => [Ad (B1 + 1) 0, Ad (B1 + 1) 1, Ad (B1 + 1) 2]) (fun B5 => (Ac (ad _ _) (Ac (ad _ _) (Ao (ad _ _))))) ?_
   clear hf hM; intro a w2 B5 hf hM hB hk
   have hbB5 : w.heap.size ≤ B5 := by have := hk0.size; omega
   have hk0 := hk0.then hk (by intro i hi h; simp only [Is, Mem.names, List.map_cons, List.map_nil, List.mem_cons, List.not_mem_nil, or_false] at h; omega)
   clear hk hB
   refine wpList_nil ?_
   refine hK4 _ _ ?_
   refine wp_ret ?_
   refine qr (fn := Tryd.f49) hf hM [.ld 1 0, .ld 1 1, .ld 1 2] (l := [.agg #[iV 0, iV 0, iV 0], iV 5]) (ob := [Ad (B1 + 1) 0, Ad (B1 + 1) 1, Ad (B1 + 1) 2]) (Ac (ad _ _) (Ac (ad _ _) (Ao (ad _ _)))) ?_
   show (.tuple #[.agg #[iV 0, iV 0, iV 0], iV 5] : Value) = .tuple #[.agg #[iV 0, iV 0, iV 0], iV 1] ∧ Keep Nn w w2
   first | exact ⟨rfl, hk0⟩ | (exfalso; omega)
 · have hg1 := (nM hg1r)
   have hf := hf.prune [12, 6, 3, 1, 2]
   replace hf : Fr 41 [(12, eB ((k : Int) != 0)), (6, eP (B1 + 1) 0), (3, eP B1 0), (1, eI dx), (2, eI dy)] a := hf
   replace hf := hf.conv (env' := [(12, eB false), (6, eP (B1 + 1) 0), (3, eP B1 0), (1, eI dx), (2, eI dy)]) (Ac (congrArg Value.bool hg1r) (Ac rfl (Ac rfl (Ac rfl (Ao rfl)))))
   refine q0 hf hM [13, 12, 6, 3, 1, 2] [{ os := [.ld 0 0, .ld 0 1, .ld 0 2] }] (env' := [(13, .val (.agg #[iV k, iV x, iV y])), (12, eB false), (6, eP (B1 + 1) 0), (3, eP B1 0), (1, eI dx), (2, eI dy)]) (ob := [false = false, Ad B1 0, Ad B1 1, Ad B1 2]) (Ac rfl (Ac (ad _ _) (Ac (ad _ _) (Ao (ad _ _))))) ?_
   clear hf; intro a hf
   refine sxcallg hf rfl rfl rfl rfl rfl (g := 34) (vs := [.agg #[iV k, iV x, iV y]]) (ob := []) (by as_aux_lemma => kernel_rfl) An enters34 (rcheck k x y w1  ) ?_
   clear hf; rintro _ w3 a ⟨rfl, hk⟩ hf
   have hM := hM.keepNn hk
   have hk0 := hk0.trans hk.nn
   clear hk
   refine q0 hf hM [16, 6, 3, 1, 2] [{}, {}] (env' := [(16, eB (((vcheck ⟨k, x, y⟩) : Int) != 0)), (6, eP (B1 + 1) 0), (3, eP B1 0), (1, eI dx), (2, eI dy)]) (ob := [false = false]) (Ao rfl) ?_
   clear hf; intro a hf
   refine wpList_nil ?_
   refine hK3 _ _ ?_
   refine qc hf (b := (((vcheck ⟨k, x, y⟩) : Int) != 0)) (fun hc2r => ?_) (fun hc2r => ?_)
   · have hc2 := (nN hc2r)
     exfalso; omega
   · have hc2 := (nM hc2r)
     refine wp_skip ?_
     refine hK2 _ _ ?_
     refine wp_seq_k (fun K5 hK5 => ?_)
     refine wp_seq_k (fun K6 hK6 => ?_)
     refine wp_region_lit ?_
     refine q0 hf hM [18, 6, 3, 1, 2] [{}] (env' := [(18, eI dx), (6, eP (B1 + 1) 0), (3, eP B1 0), (1, eI dx), (2, eI dy)]) (ob := []) An ?_
     clear hf; intro a hf
     refine sxcall hf rfl rfl rfl rfl (g := 72) (vs := [iV dx, iV (-2097152), iV 2097152]) (ob := []) (by as_aux_lemma => kernel_rfl) An enters72 (rin6 dx (-2097152) 2097152 w3  ) ?_
     clear hf; rintro _ w4 a ⟨rfl, hk⟩ hf
     have hM := hM.keepNn hk
     have hk0 := hk0.trans hk.nn
     clear hk
     refine q0 hf hM [21, 6, 3, 1, 2] [{}, {}] (env' := [(21, eB (!(decide ((-2097152) ≤ dx) && decide (dx ≤ 2097152)))), (6, eP (B1 + 1) 0), (3, eP B1 0), (1, eI dx), (2, eI dy)]) (ob := []) An ?_
     clear hf; intro a hf
     rcases Bool.eq_false_or_eq_true (!(decide ((-2097152) ≤ dx) && decide (dx ≤ 2097152))) with hg2r | hg2r
     · have hg2 := hg2r
       try simp only [Bool.or_eq_true, Bool.and_eq_true, Bool.not_eq_true', Bool.not_eq_false', Bool.or_eq_false_iff, Bool.and_eq_false_iff, decide_eq_true_eq, decide_eq_false_iff_not, beq_iff_eq, bne_iff_ne, beq_eq_false_iff_ne, bne_eq_false_iff_eq, Bool.and_true, Bool.true_and, ne_eq] at hg2
       have hf := hf.prune [21, 6, 3, 1, 2]
       replace hf : Fr 41 [(21, eB (!(decide ((-2097152) ≤ dx) && decide (dx ≤ 2097152)))), (6, eP (B1 + 1) 0), (3, eP B1 0), (1, eI dx), (2, eI dy)] a := hf
       replace hf := hf.conv (env' := [(21, eB true), (6, eP (B1 + 1) 0), (3, eP B1 0), (1, eI dx), (2, eI dy)]) (Ac (congrArg Value.bool hg2r) (Ac rfl (Ac rfl (Ac rfl (Ao rfl)))))
       refine q0 hf hM [22, 21, 6, 3, 1, 2] [{ g := .off }] (env' := [(22, .val (undef)), (21, eB true), (6, eP (B1 + 1) 0), (3, eP B1 0), (1, eI dx), (2, eI dy)]) (ob := [true = !false]) (Ao rfl) ?_
       clear hf; intro a hf
       refine q0 hf hM [25, 6, 3, 1, 2] [{ g := .off }, { g := .off }, {}] (env' := [(25, eB true), (6, eP (B1 + 1) 0), (3, eP B1 0), (1, eI dx), (2, eI dy)]) (ob := [true = !false, true = !false]) (Ac rfl (Ao rfl)) ?_
       clear hf; intro a hf
       refine wpList_nil ?_
       refine hK6 _ _ ?_
       refine sxcond hf (b := true) (by kernel_rfl) (fun _ => ?_) (fun h => by cases h)
       refine wp_seq_k (fun K7 hK7 => ?_)
       refine wp_region_lit ?_
       refine q1 hf hM [7, 6] [{ sp := true }, { os := [.st 1 0, .st 1 1, .st 1 2] }, {}] (env' := fun B12 => [(7, eI 1), (6, eP (B1 + 1) 0)]) (M' := fun B12 => [⟨B1, 62, [iV k, iV x, iV y]⟩, ⟨B1 + 1, 62, [iV 0, iV 0, iV 0]⟩]) (ob := fun B12 => [Ad (B1 + 1) 0, Ad (B1 + 1) 1, Ad (B1 + 1) 2]) (fun B12 => (Ac (ad _ _) (Ac (ad _ _) (Ao (ad _ _))))) ?_
       clear hf hM; intro a w5 B12 hf hM hB hk
       have hbB12 : w.heap.size ≤ B12 := by have := hk0.size; omega
       have hk0 := hk0.then hk (by intro i hi h; simp only [Is, Mem.names, List.map_cons, List.map_nil, List.mem_cons, List.not_mem_nil, or_false] at h; omega)
       clear hk hB
       refine wpList_nil ?_
       refine hK7 _ _ ?_
       refine wp_ret ?_
       refine qr (fn := Tryd.f49) hf hM [.ld 1 0, .ld 1 1, .ld 1 2] (l := [.agg #[iV 0, iV 0, iV 0], iV 1]) (ob := [Ad (B1 + 1) 0, Ad (B1 + 1) 1, Ad (B1 + 1) 2]) (Ac (ad _ _) (Ac (ad _ _) (Ao (ad _ _)))) ?_
       show (.tuple #[.agg #[iV 0, iV 0, iV 0], iV 1] : Value) = .tuple #[.agg #[iV 0, iV 0, iV 0], iV 1] ∧ Keep Nn w w5
       first | exact ⟨rfl, hk0⟩ | (exfalso; omega)
     · have hg2 := hg2r
       try simp only [Bool.or_eq_true, Bool.and_eq_true, Bool.not_eq_true', Bool.not_eq_false', Bool.or_eq_false_iff, Bool.and_eq_false_iff, decide_eq_true_eq, decide_eq_false_iff_not, beq_iff_eq, bne_iff_ne, beq_eq_false_iff_ne, bne_eq_false_iff_eq, Bool.and_true, Bool.true_and, ne_eq] at hg2
       have hf := hf.prune [21, 6, 3, 1, 2]
       replace hf : Fr 41 [(21, eB (!(decide ((-2097152) ≤ dx) && decide (dx ≤ 2097152)))), (6, eP (B1 + 1) 0), (3, eP B1 0), (1, eI dx), (2, eI dy)] a := hf
       replace hf := hf.conv (env' := [(21, eB false), (6, eP (B1 + 1) 0), (3, eP B1 0), (1, eI dx), (2, eI dy)]) (Ac (congrArg Value.bool hg2r) (Ac rfl (Ac rfl (Ac rfl (Ao rfl)))))
       refine q0 hf hM [22, 21, 6, 3, 1, 2] [{}] (env' := [(22, eI dy), (21, eB false), (6, eP (B1 + 1) 0), (3, eP B1 0), (1, eI dx), (2, eI dy)]) (ob := [false = false]) (Ao rfl) ?_
       clear hf; intro a hf
       refine sxcallg hf rfl rfl rfl rfl rfl (g := 72) (vs := [iV dy, iV (-2097152), iV 2097152]) (ob := []) (by as_aux_lemma => kernel_rfl) An enters72 (rin6 dy (-2097152) 2097152 w4  ) ?_
       clear hf; rintro _ w6 a ⟨rfl, hk⟩ hf
       have hM := hM.keepNn hk
       have hk0 := hk0.trans hk.nn
       clear hk
       refine q0 hf hM [25, 6, 3, 1, 2] [{}, {}] (env' := [(25, eB (!(decide ((-2097152) ≤ dy) && decide (dy ≤ 2097152)))), (6, eP (B1 + 1) 0), (3, eP B1 0), (1, eI dx), (2, eI dy)]) (ob := [false = false]) (Ao rfl) ?_
       clear hf; intro a hf
       refine wpList_nil ?_
       refine hK6 _ _ ?_
       refine qc hf (b := !(decide ((-2097152) ≤ dy) && decide (dy ≤ 2097152))) (fun hc4r => ?_) (fun hc4r => ?_)
       · have hc4 := hc4r
         try simp only [Bool.or_eq_true, Bool.and_eq_true, Bool.not_eq_true', Bool.not_eq_false', Bool.or_eq_false_iff, Bool.and_eq_false_iff, decide_eq_true_eq, decide_eq_false_iff_not, beq_iff_eq, bne_iff_ne, beq_eq_false_iff_ne, bne_eq_false_iff_eq, Bool.and_true, Bool.true_and, ne_eq] at hc4
         exfalso; omega
       · have hc4 := hc4r
         try simp only [Bool.or_eq_true, Bool.and_eq_true, Bool.not_eq_true', Bool.not_eq_false', Bool.or_eq_false_iff, Bool.and_eq_false_iff, decide_eq_true_eq, decide_eq_false_iff_not, beq_iff_eq, bne_iff_ne, beq_eq_false_iff_ne, bne_eq_false_iff_eq, Bool.and_true, Bool.true_and, ne_eq] at hc4
         refine wp_skip ?_
         refine hK5 _ _ ?_
         refine wp_seq_k (fun K8 hK8 => ?_)
         refine wp_region_lit ?_
         refine q1 hf hM [8, 6] [{}, { os := [.ld 0 1] }, {}, { hint := some (iV (x + dx)) }, {}, { os := [.ld 0 2] }, {}, { hint := some (iV (y + dy)) }, { sp := true }, { os := [.nw] }, { os := [.st 2 0, .st 2 1, .st 2 2] }] (env' := fun B15 => [(8, eP B15 0), (6, eP (B1 + 1) 0)]) (M' := fun B15 => [⟨B1, 62, [iV k, iV x, iV y]⟩, ⟨B1 + 1, 62, [iV 0, iV 0, iV 0]⟩, ⟨B15, 62, [iV 0, iV (x + dx), iV (y + dy)]⟩]) (ob := fun B15 => [Ad B1 1, (iV (IntKind.i64.wrap (x + dx)) : Value) = (iV (x + dx) : Value), Ad B1 2, (iV (IntKind.i64.wrap (y + dy)) : Value) = (iV (y + dy) : Value), Ad B15 0, Ad B15 1, Ad B15 2]) (fun B15 => (Ac (ad _ _) (Ac (wr (by omega)) (Ac (ad _ _) (Ac (wr (by omega)) (Ac (ad _ _) (Ac (ad _ _) (Ao (ad _ _))))))))) ?_
         clear hf hM; intro a w7 B15 hf hM hB hk
         have hbB15 : w.heap.size ≤ B15 := by have := hk0.size; omega
         have hk0 := hk0.then hk (by intro i hi h; simp only [Is, Mem.names, List.map_cons, List.map_nil, List.mem_cons, List.not_mem_nil, or_false] at h; omega)
         clear hk hB
         refine wpList_nil ?_
         refine hK8 _ _ ?_
         refine wp_seq_k (fun K9 hK9 => ?_)
         refine wp_seq_k (fun K10 hK10 => ?_)
         refine wp_region_lit ?_
         refine q0 hf hM [36, 8, 6] [{ os := [.ld 2 0, .ld 2 1, .ld 2 2] }] (env' := [(36, .val (.agg #[iV 0, iV (x + dx), iV (y + dy)])), (8, eP B15 0), (6, eP (B1 + 1) 0)]) (ob := [Ad B15 0, Ad B15 1, Ad B15 2]) (Ac (ad _ _) (Ac (ad _ _) (Ao (ad _ _)))) ?_
         clear hf; intro a hf
         refine sxcall hf rfl rfl rfl rfl (g := 34) (vs := [.agg #[iV 0, iV (x + dx), iV (y + dy)]]) (ob := []) (by as_aux_lemma => kernel_rfl) An enters34 (rcheck 0 (x + dx) (y + dy) w7  ) ?_
         clear hf; rintro _ w8 a ⟨rfl, hk⟩ hf
         have hM := hM.keepNn hk
         have hk0 := hk0.trans hk.nn
         clear hk
         refine q0 hf hM [38, 8, 6] [{}] (env' := [(38, eB (((vcheck ⟨0, (x + dx), (y + dy)⟩) : Int) != 0)), (8, eP B15 0), (6, eP (B1 + 1) 0)]) (ob := []) An ?_
         clear hf; intro a hf
         refine wpList_nil ?_
         refine hK10 _ _ ?_
         refine qc hf (b := (((vcheck ⟨0, (x + dx), (y + dy)⟩) : Int) != 0)) (fun hc5r => ?_) (fun hc5r => ?_)
         · have hc5 := (nN hc5r)
           refine wp_seq_k (fun K11 hK11 => ?_)
           refine wp_region_lit ?_
           refine q1 hf hM [7, 6] [{ sp := true }, { os := [.st 1 0, .st 1 1, .st 1 2] }, {}] (env' := fun B18 => [(7, eI 1), (6, eP (B1 + 1) 0)]) (M' := fun B18 => [⟨B1, 62, [iV k, iV x, iV y]⟩, ⟨B1 + 1, 62, [iV 0, iV 0, iV 0]⟩, ⟨B15, 62, [iV 0, iV (x + dx), iV (y + dy)]⟩]) (ob := fun B18 => [Ad (B1 + 1) 0, Ad (B1 + 1) 1, Ad (B1 + 1) 2]) (fun B18 => (Ac (ad _ _) (Ac (ad _ _) (Ao (ad _ _))))) ?_
           clear hf hM; intro a w9 B18 hf hM hB hk
           have hbB18 : w.heap.size ≤ B18 := by have := hk0.size; omega
           have hk0 := hk0.then hk (by intro i hi h; simp only [Is, Mem.names, List.map_cons, List.map_nil, List.mem_cons, List.not_mem_nil, or_false] at h; omega)
           clear hk hB
           refine wpList_nil ?_
           refine hK11 _ _ ?_
           refine wp_ret ?_
           refine qr (fn := Tryd.f49) hf hM [.ld 1 0, .ld 1 1, .ld 1 2] (l := [.agg #[iV 0, iV 0, iV 0], iV 1]) (ob := [Ad (B1 + 1) 0, Ad (B1 + 1) 1, Ad (B1 + 1) 2]) (Ac (ad _ _) (Ac (ad _ _) (Ao (ad _ _)))) ?_
           show (.tuple #[.agg #[iV 0, iV 0, iV 0], iV 1] : Value) = .tuple #[.agg #[iV 0, iV 0, iV 0], iV 1] ∧ Keep Nn w w9
           first | exact ⟨rfl, hk0⟩ | (exfalso; omega)
         · have hc5 := (nM hc5r)
           refine wp_skip ?_
           refine hK9 _ _ ?_
           refine wp_seq_k (fun K12 hK12 => ?_)
           refine wp_region_lit ?_
           refine q1 hf hM [7, 6] [{ os := [.ld 2 0, .ld 2 1, .ld 2 2] }, { os := [.st 1 0, .st 1 1, .st 1 2] }, {}] (env' := fun B19 => [(7, eI 0), (6, eP (B1 + 1) 0)]) (M' := fun B19 => [⟨B1, 62, [iV k, iV x, iV y]⟩, ⟨B1 + 1, 62, [iV 0, iV (x + dx), iV (y + dy)]⟩, ⟨B15, 62, [iV 0, iV (x + dx), iV (y + dy)]⟩]) (ob := fun B19 => [Ad B15 0, Ad B15 1, Ad B15 2, Ad (B1 + 1) 0, Ad (B1 + 1) 1, Ad (B1 + 1) 2]) (fun B19 => (Ac (ad _ _) (Ac (ad _ _) (Ac (ad _ _) (Ac (ad _ _) (Ac (ad _ _) (Ao (ad _ _)))))))) ?_
           clear hf hM; intro a w10 B19 hf hM hB hk
           have hbB19 : w.heap.size ≤ B19 := by have := hk0.size; omega
           have hk0 := hk0.then hk (by intro i hi h; simp only [Is, Mem.names, List.map_cons, List.map_nil, List.mem_cons, List.not_mem_nil, or_false] at h; omega)
           clear hk hB
           refine wpList_nil ?_
           refine hK12 _ _ ?_
           refine wp_ret ?_
           refine qr (fn := Tryd.f49) hf hM [.ld 1 0, .ld 1 1, .ld 1 2] (l := [.agg #[iV 0, iV (x + dx), iV (y + dy)], iV 0]) (ob := [Ad (B1 + 1) 0, Ad (B1 + 1) 1, Ad (B1 + 1) 2]) (Ac (ad _ _) (Ac (ad _ _) (Ao (ad _ _)))) ?_
           show (.tuple #[.agg #[iV 0, iV (x + dx), iV (y + dy)], iV 0] : Value) = .tuple #[.agg #[iV 0, iV 0, iV 0], iV 1] ∧ Keep Nn w w10
           first | exact ⟨rfl, hk0⟩ | (exfalso; omega)

set_option maxRecDepth 10000 in
set_option maxHeartbeats 1600000 in
theorem rmv_ok (k x y : Int) (dx dy : Int) (w : World) (hn0 : (mvPos k x y) = true) (hn1 : (mvIn dx dy) = true) (hn2 : (vrange ⟨k, (x + dx), (y + dy)⟩) = true) (hdx : -9223372036854775808 ≤ dx ∧ dx ≤ 9223372036854775807) (hdy : -9223372036854775808 ≤ dy ∧ dy ≤ 9223372036854775807) :
    Calls Tryd.prog 49 #[.agg #[iV k, iV x, iV y], iV dx, iV dy] w (Ret fun v w' => v = .tuple #[.agg #[iV 0, iV (x + dx), iV (y + dy)], iV 0] ∧ Keep Nn w w') := by
 refine sxenter (n := 41) (args := [.agg #[iV k, iV x, iV y], iV dx, iV dy]) Tryd.func49 rfl rfl rfl fun a hf => ?_
 replace hf : Fr 41 [(0, .val (.agg #[iV k, iV x, iV y])), (1, eI dx), (2, eI dy)] a := hf
 have hM : MemOk [] w := MemOk.nil w
 have hk0 : Keep Nn w w := Keep.refl _ _
 have hps := hn0
 simp only [mvPos, Bool.and_eq_true, decide_eq_true_eq] at hps
 obtain ⟨⟨hk_, hkk⟩, hrr⟩ := hps
 have hr0 := vcheck_ok hkk hrr
 have hrx := hrr
 simp only [vrange, hk_, true_or, if_true, decide_eq_true_eq] at hrx
 have hr1 : vcheck ⟨k, x, y⟩ = 0 := hr0
 have hin := of_decide_eq_true hn1
 have hv0 : vcheck ⟨0, x + dx, y + dy⟩ = if vrange ⟨k, x + dx, y + dy⟩ = true then 0 else 1 := by
   rw [hk_]
   rfl
 rw [hn2, if_pos rfl] at hv0
 refine wp_seq_k (fun K1 hK1 => ?_)
 refine wp_region_lit ?_
 refine q1 hf hM [6, 3, 1, 2] [{ os := [.nw] }, { os := [.nw] }, {}] (env' := fun B1 => [(6, eP (B1 + 1) 0), (3, eP B1 0), (1, eI dx), (2, eI dy)]) (M' := fun B1 => [⟨B1, 62, [iV k, iV x, iV y]⟩, ⟨B1 + 1, 62, [iV 0, iV 0, iV 0]⟩]) (ob := fun B1 => []) (fun B1 => An) ?_
 clear hf hM; intro a w1 B1 hf hM hB hk
 have hbB1 : w.heap.size ≤ B1 := by have := hk0.size; omega
 have hk0 := hk0.then hk (by intro i _ h; cases h)
 clear hk hB
 refine wpList_nil ?_
 refine hK1 _ _ ?_
 refine wp_seq_k (fun K2 hK2 => ?_)
 refine wp_seq_k (fun K3 hK3 => ?_)
 refine wp_region_lit ?_
 refine q0 hf hM [12, 6, 3, 1, 2] [{}, { os := [.ld 0 0] }, {}, {}] (env' := [(12, eB ((k : Int) != 0)), (6, eP (B1 + 1) 0), (3, eP B1 0), (1, eI dx), (2, eI dy)]) (ob := [Ad B1 0]) (Ao (ad _ _)) ?_
 clear hf; intro a hf
 rcases Bool.eq_false_or_eq_true ((k : Int) != 0) with hg1r | hg1r
 · have hg1 := (nN hg1r)
   have hf := hf.prune [12, 6, 3, 1, 2]
   replace hf : Fr 41 [(12, eB ((k : Int) != 0)), (6, eP (B1 + 1) 0), (3, eP B1 0), (1, eI dx), (2, eI dy)] a := hf
   replace hf := hf.conv (env' := [(12, eB true), (6, eP (B1 + 1) 0), (3, eP B1 0), (1, eI dx), (2, eI dy)]) (Ac (congrArg Value.bool hg1r) (Ac rfl (Ac rfl (Ac rfl (Ao rfl)))))
   refine q0 hf hM [13, 12, 6, 3, 1, 2] [{ g := .off }] (env' := [(13, .val (undef)), (12, eB true), (6, eP (B1 + 1) 0), (3, eP B1 0), (1, eI dx), (2, eI dy)]) (ob := [true = !false]) (Ao rfl) ?_
   clear hf; intro a hf
   refine q0 hf hM [16, 6, 3, 1, 2] [{ g := .off }, { g := .off }, {}] (env' := [(16, eB true), (6, eP (B1 + 1) 0), (3, eP B1 0), (1, eI dx), (2, eI dy)]) (ob := [true = !false, true = !false]) (Ac rfl (Ao rfl)) ?_
   clear hf; intro a hf
   refine wpList_nil ?_
   refine hK3 _ _ ?_
   refine sxcond hf (b := true) (by kernel_rfl) (fun _ => ?_) (fun h => by cases h)
   refine wp_seq_k (fun K4 hK4 => ?_)
   refine wp_region_lit ?_
   refine q1 hf hM [7, 6] [{ sp := true }, { os := [.st 1 0, .st 1 1, .st 1 2] }, {}] (env' := fun B5 => [(7, eI 5), (6, eP (B1 + 1) 0)]) (M' := fun B5 => [⟨B1, 62, [iV k, iV x, iV y]⟩, ⟨B1 + 1, 62, [iV 0, iV 0, iV 0]⟩]) (ob := fun B5 => [Ad (B1 + 1) 0, Ad (B1 + 1) 1, Ad (B1 + 1) 2]) (fun B5 => (Ac (ad _ _) (Ac (ad _ _) (Ao (ad _ _))))) ?_
   clear hf hM; intro a w2 B5 hf hM hB hk
   have hbB5 : w.heap.size ≤ B5 := by have := hk0.size; omega
   have hk0 := hk0.then hk (by intro i hi h; simp only [Is, Mem.names, List.map_cons, List.map_nil, List.mem_cons, List.not_mem_nil, or_false] at h; omega)
   clear hk hB
   refine wpList_nil ?_
   refine hK4 _ _ ?_
   refine wp_ret ?_
   refine qr (fn := Tryd.f49) hf hM [.ld 1 0, .ld 1 1, .ld 1 2] (l := [.agg #[iV 0, iV 0, iV 0], iV 5]) (ob := [Ad (B1 + 1) 0, Ad (B1 + 1) 1, Ad (B1 + 1) 2]) (Ac (ad _ _) (Ac (ad _ _) (Ao (ad _ _)))) ?_
   show (.tuple #[.agg #[iV 0, iV 0, iV 0], iV 5] : Value) = .tuple #[.agg #[iV 0, iV (x + dx), iV (y + dy)], iV 0] ∧ Keep Nn w w2
   first | exact ⟨rfl, hk0⟩ | (exfalso; omega)
 · have hg1 := (nM hg1r)
   have hf := hf.prune [12, 6, 3, 1, 2]
   replace hf : Fr 41 [(12, eB ((k : Int) != 0)), (6, eP (B1 + 1) 0), (3, eP B1 0), (1, eI dx), (2, eI dy)] a := hf
   replace hf := hf.conv (env' := [(12, eB false), (6, eP (B1 + 1) 0), (3, eP B1 0), (1, eI dx), (2, eI dy)]) (Ac (congrArg Value.bool hg1r) (Ac rfl (Ac rfl (Ac rfl (Ao rfl)))))
   refine q0 hf hM [13, 12, 6, 3, 1, 2] [{ os := [.ld 0 0, .ld 0 1, .ld 0 2] }] (env' := [(13, .val (.agg #[iV k, iV x, iV y])), (12, eB false), (6, eP (B1 + 1) 0), (3, eP B1 0), (1, eI dx), (2, eI dy)]) (ob := [false = false, Ad B1 0, Ad B1 1, Ad B1 2]) (Ac rfl (Ac (ad _ _) (Ac (ad _ _) (Ao (ad _ _))))) ?_
   clear hf; intro a hf
   refine sxcallg hf rfl rfl rfl rfl rfl (g := 34) (vs := [.agg #[iV k, iV x, iV y]]) (ob := []) (by as_aux_lemma => kernel_rfl) An enters34 (rcheck k x y w1  ) ?_
   clear hf; rintro _ w3 a ⟨rfl, hk⟩ hf
   have hM := hM.keepNn hk
   have hk0 := hk0.trans hk.nn
   clear hk
   refine q0 hf hM [16, 6, 3, 1, 2] [{}, {}] (env' := [(16, eB (((vcheck ⟨k, x, y⟩) : Int) != 0)), (6, eP (B1 + 1) 0), (3, eP B1 0), (1, eI dx), (2, eI dy)]) (ob := [false = false]) (Ao rfl) ?_
   clear hf; intro a hf
   refine wpList_nil ?_
   refine hK3 _ _ ?_
   refine qc hf (b := (((vcheck ⟨k, x, y⟩) : Int) != 0)) (fun hc2r => ?_) (fun hc2r => ?_)
   · have hc2 := (nN hc2r)
     exfalso; omega
   · have hc2 := (nM hc2r)
     refine wp_skip ?_
     refine hK2 _ _ ?_
     refine wp_seq_k (fun K5 hK5 => ?_)
     refine wp_seq_k (fun K6 hK6 => ?_)
     refine wp_region_lit ?_
     refine q0 hf hM [18, 6, 3, 1, 2] [{}] (env' := [(18, eI dx), (6, eP (B1 + 1) 0), (3, eP B1 0), (1, eI dx), (2, eI dy)]) (ob := []) An ?_
     clear hf; intro a hf
     refine sxcall hf rfl rfl rfl rfl (g := 72) (vs := [iV dx, iV (-2097152), iV 2097152]) (ob := []) (by as_aux_lemma => kernel_rfl) An enters72 (rin6 dx (-2097152) 2097152 w3  ) ?_
     clear hf; rintro _ w4 a ⟨rfl, hk⟩ hf
     have hM := hM.keepNn hk
     have hk0 := hk0.trans hk.nn
     clear hk
     refine q0 hf hM [21, 6, 3, 1, 2] [{}, {}] (env' := [(21, eB (!(decide ((-2097152) ≤ dx) && decide (dx ≤ 2097152)))), (6, eP (B1 + 1) 0), (3, eP B1 0), (1, eI dx), (2, eI dy)]) (ob := []) An ?_
     clear hf; intro a hf
     rcases Bool.eq_false_or_eq_true (!(decide ((-2097152) ≤ dx) && decide (dx ≤ 2097152))) with hg2r | hg2r
     · have hg2 := hg2r
       try simp only [Bool.or_eq_true, Bool.and_eq_true, Bool.not_eq_true', Bool.not_eq_false', Bool.or_eq_false_iff, Bool.and_eq_false_iff, decide_eq_true_eq, decide_eq_false_iff_not, beq_iff_eq, bne_iff_ne, beq_eq_false_iff_ne, bne_eq_false_iff_eq, Bool.and_true, Bool.true_and, ne_eq] at hg2
       have hf := hf.prune [21, 6, 3, 1, 2]
       replace hf : Fr 41 [(21, eB (!(decide ((-2097152) ≤ dx) && decide (dx ≤ 2097152)))), (6, eP (B1 + 1) 0), (3, eP B1 0), (1, eI dx), (2, eI dy)] a := hf
       replace hf := hf.conv (env' := [(21, eB true), (6, eP (B1 + 1) 0), (3, eP B1 0), (1, eI dx), (2, eI dy)]) (Ac (congrArg Value.bool hg2r) (Ac rfl (Ac rfl (Ac rfl (Ao rfl)))))
       refine q0 hf hM [22, 21, 6, 3, 1, 2] [{ g := .off }] (env' := [(22, .val (undef)), (21, eB true), (6, eP (B1 + 1) 0), (3, eP B1 0), (1, eI dx), (2, eI dy)]) (ob := [true = !false]) (Ao rfl) ?_
       clear hf; intro a hf
       refine q0 hf hM [25, 6, 3, 1, 2] [{ g := .off }, { g := .off }, {}] (env' := [(25, eB true), (6, eP (B1 + 1) 0), (3, eP B1 0), (1, eI dx), (2, eI dy)]) (ob := [true = !false, true = !false]) (Ac rfl (Ao rfl)) ?_
       clear hf; intro a hf
       refine wpList_nil ?_
       refine hK6 _ _ ?_
       refine sxcond hf (b := true) (by kernel_rfl) (fun _ => ?_) (fun h => by cases h)
       refine wp_seq_k (fun K7 hK7 => ?_)
       refine wp_region_lit ?_
       refine q1 hf hM [7, 6] [{ sp := true }, { os := [.st 1 0, .st 1 1, .st 1 2] }, {}] (env' := fun B12 => [(7, eI 1), (6, eP (B1 + 1) 0)]) (M' := fun B12 => [⟨B1, 62, [iV k, iV x, iV y]⟩, ⟨B1 + 1, 62, [iV 0, iV 0, iV 0]⟩]) (ob := fun B12 => [Ad (B1 + 1) 0, Ad (B1 + 1) 1, Ad (B1 + 1) 2]) (fun B12 => (Ac (ad _ _) (Ac (ad _ _) (Ao (ad _ _))))) ?_
       clear hf hM; intro a w5 B12 hf hM hB hk
       have hbB12 : w.heap.size ≤ B12 := by have := hk0.size; omega
       have hk0 := hk0.then hk (by intro i hi h; simp only [Is, Mem.names, List.map_cons, List.map_nil, List.mem_cons, List.not_mem_nil, or_false] at h; omega)
       clear hk hB
       refine wpList_nil ?_
       refine hK7 _ _ ?_
       refine wp_ret ?_
       refine qr (fn := Tryd.f49) hf hM [.ld 1 0, .ld 1 1, .ld 1 2] (l := [.agg #[iV 0, iV 0, iV 0], iV 1]) (ob := [Ad (B1 + 1) 0, Ad (B1 + 1) 1, Ad (B1 + 1) 2]) (Ac (ad _ _) (Ac (ad _ _) (Ao (ad _ _)))) ?_
       show (.tuple #[.agg #[iV 0, iV 0, iV 0], iV 1] : Value) = .tuple #[.agg #[iV 0, iV (x + dx), iV (y + dy)], iV 0] ∧ Keep Nn w w5
       first | exact ⟨rfl, hk0⟩ | (exfalso; omega)
     · have hg2 := hg2r
       try simp only [Bool.or_eq_true, Bool.and_eq_true, Bool.not_eq_true', Bool.not_eq_false', Bool.or_eq_false_iff, Bool.and_eq_false_iff, decide_eq_true_eq, decide_eq_false_iff_not, beq_iff_eq, bne_iff_ne, beq_eq_false_iff_ne, bne_eq_false_iff_eq, Bool.and_true, Bool.true_and, ne_eq] at hg2
       have hf := hf.prune [21, 6, 3, 1, 2]
       replace hf : Fr 41 [(21, eB (!(decide ((-2097152) ≤ dx) && decide (dx ≤ 2097152)))), (6, eP (B1 + 1) 0), (3, eP B1 0), (1, eI dx), (2, eI dy)] a := hf
       replace hf := hf.conv (env' := [(21, eB false), (6, eP (B1 + 1) 0), (3, eP B1 0), (1, eI dx), (2, eI dy)]) (Ac (congrArg Value.bool hg2r) (Ac rfl (Ac rfl (Ac rfl (Ao rfl)))))
       refine q0 hf hM [22, 21, 6, 3, 1, 2] [{}] (env' := [(22, eI dy), (21, eB false), (6, eP (B1 + 1) 0), (3, eP B1 0), (1, eI dx), (2, eI dy)]) (ob := [false = false]) (Ao rfl) ?_
       clear hf; intro a hf
       refine sxcallg hf rfl rfl rfl rfl rfl (g := 72) (vs := [iV dy, iV (-2097152), iV 2097152]) (ob := []) (by as_aux_lemma => kernel_rfl) An enters72 (rin6 dy (-2097152) 2097152 w4  ) ?_
       clear hf; rintro _ w6 a ⟨rfl, hk⟩ hf
       have hM := hM.keepNn hk
       have hk0 := hk0.trans hk.nn
       clear hk
       refine q0 hf hM [25, 6, 3, 1, 2] [{}, {}] (env' := [(25, eB (!(decide ((-2097152) ≤ dy) && decide (dy ≤ 2097152)))), (6, eP (B1 + 1) 0), (3, eP B1 0), (1, eI dx), (2, eI dy)]) (ob := [false = false]) (Ao rfl) ?_
       clear hf; intro a hf
       refine wpList_nil ?_
       refine hK6 _ _ ?_
       refine qc hf (b := !(decide ((-2097152) ≤ dy) && decide (dy ≤ 2097152))) (fun hc4r => ?_) (fun hc4r => ?_)
       · have hc4 := hc4r
         try simp only [Bool.or_eq_true, Bool.and_eq_true, Bool.not_eq_true', Bool.not_eq_false', Bool.or_eq_false_iff, Bool.and_eq_false_iff, decide_eq_true_eq, decide_eq_false_iff_not, beq_iff_eq, bne_iff_ne, beq_eq_false_iff_ne, bne_eq_false_iff_eq, Bool.and_true, Bool.true_and, ne_eq] at hc4
         exfalso; omega
       · have hc4 := hc4r
         try simp only [Bool.or_eq_true, Bool.and_eq_true, Bool.not_eq_true', Bool.not_eq_false', Bool.or_eq_false_iff, Bool.and_eq_false_iff, decide_eq_true_eq, decide_eq_false_iff_not, beq_iff_eq, bne_iff_ne, beq_eq_false_iff_ne, bne_eq_false_iff_eq, Bool.and_true, Bool.true_and, ne_eq] at hc4
         refine wp_skip ?_
         refine hK5 _ _ ?_
         refine wp_seq_k (fun K8 hK8 => ?_)
         refine wp_region_lit ?_
         refine q1 hf hM [8, 6] [{}, { os := [.ld 0 1] }, {}, { hint := some (iV (x + dx)) }, {}, { os := [.ld 0 2] }, {}, { hint := some (iV (y + dy)) }, { sp := true }, { os := [.nw] }, { os := [.st 2 0, .st 2 1, .st 2 2] }] (env' := fun B15 => [(8, eP B15 0), (6, eP (B1 + 1) 0)]) (M' := fun B15 => [⟨B1, 62, [iV k, iV x, iV y]⟩, ⟨B1 + 1, 62, [iV 0, iV 0, iV 0]⟩, ⟨B15, 62, [iV 0, iV (x + dx), iV (y + dy)]⟩]) (ob := fun B15 => [Ad B1 1, (iV (IntKind.i64.wrap (x + dx)) : Value) = (iV (x + dx) : Value), Ad B1 2, (iV (IntKind.i64.wrap (y + dy)) : Value) = (iV (y + dy) : Value), Ad B15 0, Ad B15 1, Ad B15 2]) (fun B15 => (Ac (ad _ _) (Ac (wr (by omega)) (Ac (ad _ _) (Ac (wr (by omega)) (Ac (ad _ _) (Ac (ad _ _) (Ao (ad _ _))))))))) ?_
         clear hf hM; intro a w7 B15 hf hM hB hk
         have hbB15 : w.heap.size ≤ B15 := by have := hk0.size; omega
         have hk0 := hk0.then hk (by intro i hi h; simp only [Is, Mem.names, List.map_cons, List.map_nil, List.mem_cons, List.not_mem_nil, or_false] at h; omega)
         clear hk hB
         refine wpList_nil ?_
         refine hK8 _ _ ?_
         refine wp_seq_k (fun K9 hK9 => ?_)
         refine wp_seq_k (fun K10 hK10 => ?_)
         refine wp_region_lit ?_
         refine q0 hf hM [36, 8, 6] [{ os := [.ld 2 0, .ld 2 1, .ld 2 2] }] (env' := [(36, .val (.agg #[iV 0, iV (x + dx), iV (y + dy)])), (8, eP B15 0), (6, eP (B1 + 1) 0)]) (ob := [Ad B15 0, Ad B15 1, Ad B15 2]) (Ac (ad _ _) (Ac (ad _ _) (Ao (ad _ _)))) ?_
         clear hf; intro a hf
         refine sxcall hf rfl rfl rfl rfl (g := 34) (vs := [.agg #[iV 0, iV (x + dx), iV (y + dy)]]) (ob := []) (by as_aux_lemma => kernel_rfl) An enters34 (rcheck 0 (x + dx) (y + dy) w7  ) ?_
         clear hf; rintro _ w8 a ⟨rfl, hk⟩ hf
         have hM := hM.keepNn hk
         have hk0 := hk0.trans hk.nn
         clear hk
         refine q0 hf hM [38, 8, 6] [{}] (env' := [(38, eB (((vcheck ⟨0, (x + dx), (y + dy)⟩) : Int) != 0)), (8, eP B15 0), (6, eP (B1 + 1) 0)]) (ob := []) An ?_
         clear hf; intro a hf
         refine wpList_nil ?_
         refine hK10 _ _ ?_
         refine qc hf (b := (((vcheck ⟨0, (x + dx), (y + dy)⟩) : Int) != 0)) (fun hc5r => ?_) (fun hc5r => ?_)
         · have hc5 := (nN hc5r)
           refine wp_seq_k (fun K11 hK11 => ?_)
           refine wp_region_lit ?_
           refine q1 hf hM [7, 6] [{ sp := true }, { os := [.st 1 0, .st 1 1, .st 1 2] }, {}] (env' := fun B18 => [(7, eI 1), (6, eP (B1 + 1) 0)]) (M' := fun B18 => [⟨B1, 62, [iV k, iV x, iV y]⟩, ⟨B1 + 1, 62, [iV 0, iV 0, iV 0]⟩, ⟨B15, 62, [iV 0, iV (x + dx), iV (y + dy)]⟩]) (ob := fun B18 => [Ad (B1 + 1) 0, Ad (B1 + 1) 1, Ad (B1 + 1) 2]) (fun B18 => (Ac (ad _ _) (Ac (ad _ _) (Ao (ad _ _))))) ?_
           clear hf hM; intro a w9 B18 hf hM hB hk
           have hbB18 : w.heap.size ≤ B18 := by have := hk0.size; omega
           have hk0 := hk0.then hk (by intro i hi h; simp only [Is, Mem.names, List.map_cons, List.map_nil, List.mem_cons, List.not_mem_nil, or_false] at h; omega)
           clear hk hB
           refine wpList_nil ?_
           refine hK11 _ _ ?_
           refine wp_ret ?_
           refine qr (fn := Tryd.f49) hf hM [.ld 1 0, .ld 1 1, .ld 1 2] (l := [.agg #[iV 0, iV 0, iV 0], iV 1]) (ob := [Ad (B1 + 1) 0, Ad (B1 + 1) 1, Ad (B1 + 1) 2]) (Ac (ad _ _) (Ac (ad _ _) (Ao (ad _ _)))) ?_
           show (.tuple #[.agg #[iV 0, iV 0, iV 0], iV 1] : Value) = .tuple #[.agg #[iV 0, iV (x + dx), iV (y + dy)], iV 0] ∧ Keep Nn w w9
           first | exact ⟨rfl, hk0⟩ | (exfalso; omega)
         · have hc5 := (nM hc5r)
           refine wp_skip ?_
           refine hK9 _ _ ?_
           refine wp_seq_k (fun K12 hK12 => ?_)
           refine wp_region_lit ?_
           refine q1 hf hM [7, 6] [{ os := [.ld 2 0, .ld 2 1, .ld 2 2] }, { os := [.st 1 0, .st 1 1, .st 1 2] }, {}] (env' := fun B19 => [(7, eI 0), (6, eP (B1 + 1) 0)]) (M' := fun B19 => [⟨B1, 62, [iV k, iV x, iV y]⟩, ⟨B1 + 1, 62, [iV 0, iV (x + dx), iV (y + dy)]⟩, ⟨B15, 62, [iV 0, iV (x + dx), iV (y + dy)]⟩]) (ob := fun B19 => [Ad B15 0, Ad B15 1, Ad B15 2, Ad (B1 + 1) 0, Ad (B1 + 1) 1, Ad (B1 + 1) 2]) (fun B19 => (Ac (ad _ _) (Ac (ad _ _) (Ac (ad _ _) (Ac (ad _ _) (Ac (ad _ _) (Ao (ad _ _)))))))) ?_
           clear hf hM; intro a w10 B19 hf hM hB hk
           have hbB19 : w.heap.size ≤ B19 := by have := hk0.size; omega
           have hk0 := hk0.then hk (by intro i hi h; simp only [Is, Mem.names, List.map_cons, List.map_nil, List.mem_cons, List.not_mem_nil, or_false] at h; omega)
           clear hk hB
           refine wpList_nil ?_
           refine hK12 _ _ ?_
           refine wp_ret ?_
           refine qr (fn := Tryd.f49) hf hM [.ld 1 0, .ld 1 1, .ld 1 2] (l := [.agg #[iV 0, iV (x + dx), iV (y + dy)], iV 0]) (ob := [Ad (B1 + 1) 0, Ad (B1 + 1) 1, Ad (B1 + 1) 2]) (Ac (ad _ _) (Ac (ad _ _) (Ao (ad _ _)))) ?_
           show (.tuple #[.agg #[iV 0, iV (x + dx), iV (y + dy)], iV 0] : Value) = .tuple #[.agg #[iV 0, iV (x + dx), iV (y + dy)], iV 0] ∧ Keep Nn w w10
           first | exact ⟨rfl, hk0⟩ | (exfalso; omega)
end Go.Proofs.YtifcgjnknikjkaaDoor
