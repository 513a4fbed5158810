/- errors' numbers -/
import Derived.Test.YthofalkkdpjdlaaDoorR1
import Derived.Test.YthofalkkdpjdlaaDoorXp13f
namespace Go.Proofs.YthofalkkdpjdlaaDoor
open Go.Px
set_option linter.unusedVariables false
set_option linter.unusedSimpArgs false

theorem esComp : (Tryd.prog.info? 161).map (·.comparable) = some true := by kernel_rfl
theorem esSize : (Tryd.prog.info? 185).map (·.size) = some 1 := by kernel_rfl
theorem isTypeOf (v : Value) (w : World) : (Extern.ReflectliteType.typeOf #[.iface 161 v]).run Tryd.prog w = .ok (.iface 129 (.agg #[.pointer (some ⟨10, 161, none⟩)])) w := by kernel_rfl
theorem isComparable (w : World) : ((Extern.ReflectliteType.method fun t => do Extern.Rtype.noPackHeld "Comparable" t; pure (.bool (← typeInfo t).comparable)) #[.agg #[.pointer (some ⟨10, 161, none⟩)]]).run Tryd.prog w = .ok (.bool true) w := by kernel_rfl
theorem isMethod (v : Value) (w : World) : (Go.method (Tryd.prog.types.size + Made.depth) 129 v "Comparable").run Tryd.prog w = .ok (118, v) w := by kernel_rfl
theorem callTypeOf (v : Value) (w : World) : (callFunc 70 #[.iface 161 v]).run Tryd.prog w = .ok (.value (.iface 129 (.agg #[.pointer (some ⟨10, 161, none⟩)]))) w := by
  rw [@run_callFunc_extern Tryd.prog 70 _ Extern.ReflectliteType.typeOf Tryd.func70 (by kernel_rfl) (by kernel_rfl) (by kernel_rfl) (by kernel_rfl), isTypeOf]
  rfl
theorem callComparable (w : World) : (callFunc 118 #[.agg #[.pointer (some ⟨10, 161, none⟩)]]).run Tryd.prog w = .ok (.value (.bool true)) w := by
  rw [@run_callFunc_extern Tryd.prog 118 _ (Extern.ReflectliteType.method fun t => do Extern.Rtype.noPackHeld "Comparable" t; pure (.bool (← typeInfo t).comparable)) Tryd.func118 (by kernel_rfl) (by kernel_rfl) (by kernel_rfl) (by kernel_rfl)]
  rw [isComparable]
  rfl
theorem esLacks131 (v : Value) (w : World) : (Instr.typeAssert (.iface 161 v) 34 131 true).run Tryd.prog w = .ok (.tuple #[.nilIface, .bool false]) w := run_assert_lacks Tryd.underlying131 (by kernel_rfl) (by kernel_rfl) v w
theorem esLacks134 (v : Value) (w : World) : (Instr.typeAssert (.iface 161 v) 34 134 true).run Tryd.prog w = .ok (.tuple #[.nilIface, .bool false]) w := run_assert_lacks Tryd.underlying134 (by kernel_rfl) (by kernel_rfl) v w
theorem esLacks136 (v : Value) (w : World) : (Instr.typeAssert (.iface 161 v) 34 136 true).run Tryd.prog w = .ok (.tuple #[.nilIface, .bool false]) w := run_assert_lacks Tryd.underlying136 (by kernel_rfl) (by kernel_rfl) v w
theorem eqlErrs {L : List Nat} {w : World} {E : Nat → Addr} (hG : Errs L w 161 E) {g h : Nat} (hg : L.contains g = true) (hh : L.contains h = true) : (Go.binOp .eql 34 (.iface 161 (.pointer (some (E g)))) (.iface 161 (.pointer (some (E h))))).run Tryd.prog w = .ok (.bool (g == h)) w := by
  obtain ⟨i, hi, hcmp⟩ := Option.map_eq_some_iff.1 esComp
  obtain ⟨j, hj, hjs⟩ := Option.map_eq_some_iff.1 esSize
  by_cases e : g = h
  · subst e
    rw [run_eql_iface_ptr_same (P := Tryd.prog) w (E g) Tryd.underlying34 Tryd.underlying161 hi hcmp hj]
    simp
  · obtain ⟨ca, ta, ha⟩ := hG.blk g hg
    obtain ⟨cb, tb, hb⟩ := hG.blk h hh
    rw [run_eql_iface_ptr_other (P := Tryd.prog) w Tryd.underlying34 Tryd.underlying161 hi hcmp hj (by rw [hjs]; decide) (fun h1 => e (hG.inj _ _ hg hh h1)) ha hb]
    simp [e]

set_option maxRecDepth 10000 in
set_option maxHeartbeats 1600000 in
theorem is_any (E : Nat → Addr) (g h : Nat) (w : World) (hg : ([1, 2, 3, 4, 5, 6, 0, 7, 8, 9] : List Nat).contains g = true) (hh : ([1, 2, 3, 4, 5, 6, 0, 7, 8, 9] : List Nat).contains h = true) (hG : Errs [1, 2, 3, 4, 5, 6, 0, 7, 8, 9] w 161 E) :
    Calls Tryd.prog 71 #[.iface 161 (.pointer (some (E g))), .iface 161 (.pointer (some (E h))), bV true] w (Ret fun v w' => v = .bool (g == h) ∧ Keep Nn w w') := by
 refine sxenter (n := 54) (args := [.iface 161 (.pointer (some (E g))), .iface 161 (.pointer (some (E h))), bV true]) Tryd.func71 rfl rfl rfl fun a hf => ?_
 replace hf : Fr 54 [(0, .val (.iface 161 (.pointer (some (E g))))), (1, .val (.iface 161 (.pointer (some (E h))))), (2, eB true)] a := hf
 have hM : MemOk [] w := MemOk.nil w
 have hk0 : Keep Nn w w := Keep.refl _ _
 refine wp_seq_k (fun K1 hK1 => ?_)
 refine wp_region_lit ?_
 refine q0 hf hM [0, 1, 2] [{}] (nw := []) An ?_
 clear hf; intro a hf
 refine wpList_nil ?_
 refine hK1 _ _ ?_
 refine wp_block ?_
 have hf := (hf.prune [0, 1, 2]).to (env' := [(0, .val (.iface 161 (.pointer (some (E g))))), (1, .val (.iface 161 (.pointer (some (E h))))), (2, eB true)]) (by kernel_rfl)
 refine sxloop (fun zm a w1 => zm = 0 ∧ Fr 54 [(0, .val (.iface 161 (.pointer (some (E g))))), (1, .val (.iface 161 (.pointer (some (E h))))), (2, eB true)] a ∧ MemOk [] w1 ∧ Keep Nn w w1) _ ⟨rfl, hf.conv (Ac rfl (Ac rfl (Ao rfl))), hM, hk0⟩ ?_
 clear hf hM hk0
 rintro _ a w1 ⟨rfl, hf, hM, hk0⟩ L1 hL1
 refine wp_block ?_
 refine wp_seq_k (fun K2 hK2 => ?_)
 refine wp_seq_k (fun K3 hK3 => ?_)
 refine wp_region_lit ?_
 refine q0 hf hM [0, 1, 2] [{}, {}, {}, {}] (nw := [(17, .val (.iface 161 (.pointer (some (E h))))), (16, .val (.iface 161 (.pointer (some (E g))))), (15, eB true)]) (ob := [true = true, true = true]) (Ac rfl (Ao rfl)) ?_
 clear hf; intro a hf
 refine sxvalg hf rfl rfl rfl rfl rfl (v := bV (g == h)) (ob := []) (by kernel_rfl) An (ox_eql rfl rfl rfl (eqlErrs (hG.keep hk0 (fun _ h => h)) hg hh)) ?_
 clear hf; intro a hf
 refine q0 hf hM [18, 17, 16, 0, 1, 2] [{}] (nw := [(19, eB (g == h))]) An ?_
 clear hf; intro a hf
 refine wpList_nil ?_
 refine hK3 _ _ ?_
 refine qc hf (b := (g == h)) (fun hc1r => ?_) (fun hc1r => ?_)
 · have hc1 := hc1r
   try simp only [Bool.or_eq_true, Bool.and_eq_true, Bool.not_eq_true', Bool.not_eq_false', Bool.or_eq_false_iff, Bool.and_eq_false_iff, decide_eq_true_eq, decide_eq_false_iff_not, beq_iff_eq, bne_iff_ne, beq_eq_false_iff_ne, bne_eq_false_iff_eq, Bool.and_true, Bool.true_and, ne_eq] at hc1
   refine wp_seq_k (fun K4 hK4 => ?_)
   refine wp_region_lit ?_
   refine q0 hf hM [] [{}] (nw := [(6, eB true)]) An ?_
   clear hf; intro a hf
   refine wpList_nil ?_
   refine hK4 _ _ ?_
   refine wp_ret ?_
   refine qr (fn := Tryd.f71) hf hM [] (l := [bV true]) (ob := []) An ?_
   show (bV true : Value) = .bool (g == h) ∧ Keep Nn w w1
   refine ⟨?_, hk0⟩
   simp_all
 · have hc1 := hc1r
   try simp only [Bool.or_eq_true, Bool.and_eq_true, Bool.not_eq_true', Bool.not_eq_false', Bool.or_eq_false_iff, Bool.and_eq_false_iff, decide_eq_true_eq, decide_eq_false_iff_not, beq_iff_eq, bne_iff_ne, beq_eq_false_iff_ne, bne_eq_false_iff_eq, Bool.and_true, Bool.true_and, ne_eq] at hc1
   refine wp_skip ?_
   refine hK2 _ _ ?_
   refine wp_seq_k (fun K5 hK5 => ?_)
   refine wp_seq_k (fun K6 hK6 => ?_)
   refine wp_region_lit ?_
   refine q0 hf hM [18, 17, 16, 0, 1, 2] [{}] (nw := [(21, .val (.iface 161 (.pointer (some (E g)))))]) An ?_
   clear hf; intro a hf
   refine sxval hf rfl rfl rfl rfl (v := .tuple #[.nilIface, bV false]) (ob := []) (by kernel_rfl) An (ox_assert rfl rfl (esLacks131 _ _)) ?_
   clear hf; intro a hf
   refine q0 hf hM [18, 17, 16, 0, 1, 2] [{}, {}, {}, {}, {}] (nw := [(8, eB false), (7, .val (.nilIface))]) An ?_
   clear hf; intro a hf
   refine wpList_nil ?_
   refine hK6 _ _ ?_
   refine wp_seq_k (fun K7 hK7 => ?_)
   refine wp_region_lit ?_
   refine q0 hf hM [18, 17, 16, 0, 1, 2] [{}, {}, { g := .off }, { g := .off }] (nw := [(28, .val (undef)), (27, .val (undef)), (26, eB false)]) (ob := [false = !true, false = !true]) (Ac rfl (Ao rfl)) ?_
   clear hf; intro a hf
   refine q0 hf hM [28, 27, 18, 17, 16, 0, 1, 2] [{ g := .off }, {}] (nw := [(30, eB false), (29, .val (undef))]) (ob := [false = !true]) (Ao rfl) ?_
   clear hf; intro a hf
   refine wpList_nil ?_
   refine hK7 _ _ ?_
   refine sxcond hf (b := false) (by kernel_rfl) (fun h => by cases h) (fun _ => ?_)
   refine wp_skip ?_
   refine hK5 _ _ ?_
   refine wp_seq_k (fun K8 hK8 => ?_)
   refine wp_region_lit ?_
   refine q0 hf hM [29, 28, 27, 18, 17, 16, 1, 2] [{}] (nw := [(31, .val (.iface 161 (.pointer (some (E g)))))]) An ?_
   clear hf; intro a hf
   refine wpList_nil ?_
   refine hK8 _ _ ?_
   refine wp_block ?_
   refine wp_seq_k (fun K9 hK9 => ?_)
   refine wp_region_lit ?_
   refine sxval hf rfl rfl rfl rfl (v := .tuple #[.nilIface, bV false]) (ob := []) (by kernel_rfl) An (ox_assert rfl rfl (esLacks134 _ _)) ?_
   clear hf; intro a hf
   refine q0 hf hM [31, 29, 28, 27, 18, 17, 16, 1, 2] [{}, {}] (nw := [(34, .val (.nilIface)), (33, eB false)]) An ?_
   clear hf; intro a hf
   refine wpList_nil ?_
   refine hK9 _ _ ?_
   refine sxcond hf (b := false) (by kernel_rfl) (fun h => by cases h) (fun _ => ?_)
   refine wp_seq_k (fun K10 hK10 => ?_)
   refine wp_region_lit ?_
   refine sxval hf rfl rfl rfl rfl (v := .tuple #[.nilIface, bV false]) (ob := []) (by kernel_rfl) An (ox_assert rfl rfl (esLacks136 _ _)) ?_
   clear hf; intro a hf
   refine q0 hf hM [31, 1, 2] [{}, {}] (nw := [(41, .val (.nilIface)), (40, eB false)]) An ?_
   clear hf; intro a hf
   refine wpList_nil ?_
   refine hK10 _ _ ?_
   refine sxcond hf (b := false) (by kernel_rfl) (fun h => by cases h) (fun _ => ?_)
   refine wp_seq_k (fun K11 hK11 => ?_)
   refine wp_region_lit ?_
   refine q0 hf hM [] [{}] (nw := []) An ?_
   clear hf; intro a hf
   refine wpList_nil ?_
   refine hK11 _ _ ?_
   refine wp_seq_k (fun K12 hK12 => ?_)
   refine wp_region_lit ?_
   refine q0 hf hM [] [{}] (nw := [(6, eB false)]) An ?_
   clear hf; intro a hf
   refine wpList_nil ?_
   refine hK12 _ _ ?_
   refine wp_ret ?_
   refine qr (fn := Tryd.f71) hf hM [] (l := [bV false]) (ob := []) An ?_
   show (bV false : Value) = .bool (g == h) ∧ Keep Nn w w1
   refine ⟨?_, hk0⟩
   simp_all

set_option maxRecDepth 10000 in
set_option maxHeartbeats 1600000 in
theorem Is_any (E : Nat → Addr) (g h : Nat) (w : World) (hg : ([1, 2, 3, 4, 5, 6, 0, 7, 8, 9] : List Nat).contains g = true) (hh : ([1, 2, 3, 4, 5, 6, 0, 7, 8, 9] : List Nat).contains h = true) (hG : Errs [1, 2, 3, 4, 5, 6, 0, 7, 8, 9] w 161 E) :
    Calls Tryd.prog 51 #[.iface 161 (.pointer (some (E g))), .iface 161 (.pointer (some (E h)))] w (Ret fun v w' => v = .bool (g == h) ∧ Keep Nn w w') := by
 refine sxenter (n := 22) (args := [.iface 161 (.pointer (some (E g))), .iface 161 (.pointer (some (E h)))]) Tryd.func51 rfl rfl rfl fun a hf => ?_
 replace hf : Fr 22 [(0, .val (.iface 161 (.pointer (some (E g))))), (1, .val (.iface 161 (.pointer (some (E h)))))] a := hf
 have hM : MemOk [] w := MemOk.nil w
 have hk0 : Keep Nn w w := Keep.refl _ _
 refine wp_seq_k (fun K1 hK1 => ?_)
 refine wp_region_lit ?_
 refine q0 hf hM [0, 1] [{}] (nw := []) An ?_
 clear hf; intro a hf
 refine wpList_nil ?_
 refine hK1 _ _ ?_
 refine wp_seq_k (fun K2 hK2 => ?_)
 refine wp_seq_k (fun K3 hK3 => ?_)
 refine wp_region_lit ?_
 refine q0 hf hM [0, 1] [{}, {}, {}, {}, {}, {}] (nw := [(11, eB false)]) (ob := [false = false, false = false]) (Ac rfl (Ao rfl)) ?_
 clear hf; intro a hf
 refine wpList_nil ?_
 refine hK3 _ _ ?_
 refine sxcond hf (b := false) (by kernel_rfl) (fun h => by cases h) (fun _ => ?_)
 refine wp_skip ?_
 refine hK2 _ _ ?_
 refine wp_seq_k (fun K4 hK4 => ?_)
 refine wp_region_lit ?_
 refine q0 hf hM [0, 1] [{}] (nw := [(15, .val (.iface 161 (.pointer (some (E h)))))]) An ?_
 clear hf; intro a hf
 refine sxval hf rfl rfl rfl rfl (v := .iface 129 (.agg #[pV 10 161])) (ob := []) (by kernel_rfl) An (ox_callx rfl rfl rfl rfl (callTypeOf _ _)) ?_
 clear hf; intro a hf
 refine sxval hf rfl rfl rfl rfl (v := bV true) (ob := []) (by kernel_rfl) An (ox_invoke rfl rfl rfl rfl (isMethod _ _) (callComparable _)) ?_
 clear hf; intro a hf
 refine q0 hf hM [0, 1] [{}] (nw := [(5, eB true)]) An ?_
 clear hf; intro a hf
 refine wpList_nil ?_
 refine hK4 _ _ ?_
 refine wp_seq_k (fun K5 hK5 => ?_)
 refine wp_region_lit ?_
 refine q0 hf hM [] [{}, {}, {}] (nw := [(20, eB true), (19, .val (.iface 161 (.pointer (some (E h))))), (18, .val (.iface 161 (.pointer (some (E g)))))]) An ?_
 clear hf; intro a hf
 refine sxcall hf rfl rfl rfl rfl (g := 71) (vs := [.iface 161 (.pointer (some (E g))), .iface 161 (.pointer (some (E h))), bV true]) (ob := []) (by as_aux_lemma => kernel_rfl) An enters71 (is_any E g h w  hg hh (hG.keep hk0 (fun _ h => h))) ?_
 clear hf; rintro _ w1 a ⟨rfl, hk⟩ hf
 have hM := hM.keepNn hk
 have hk0 := hk0.trans hk.nn
 clear hk
 refine q0 hf hM [] [{}] (nw := [(4, eB (g == h))]) An ?_
 clear hf; intro a hf
 refine wpList_nil ?_
 refine hK5 _ _ ?_
 refine wp_ret ?_
 refine qr (fn := Tryd.f51) hf hM [] (l := [bV (g == h)]) (ob := []) An ?_
 show (bV (g == h) : Value) = .bool (g == h) ∧ Keep Nn w w1
 exact ⟨rfl, hk0⟩

set_option maxRecDepth 10000 in
set_option maxHeartbeats 1600000 in
theorem Is_nil (v : Value) (w : World) :
    Calls Tryd.prog 51 #[.nilIface, .iface 161 v] w (Ret fun v w' => v = .bool false ∧ Keep Nn w w') := by
 refine sxenter (n := 22) (args := [.nilIface, .iface 161 v]) Tryd.func51 rfl rfl rfl fun a hf => ?_
 replace hf : Fr 22 [(0, .val (.nilIface)), (1, .val (.iface 161 v))] a := hf
 have hM : MemOk [] w := MemOk.nil w
 have hk0 : Keep Nn w w := Keep.refl _ _
 refine wp_seq_k (fun K1 hK1 => ?_)
 refine wp_region_lit ?_
 refine q0 hf hM [0, 1] [{}] (nw := []) An ?_
 clear hf; intro a hf
 refine wpList_nil ?_
 refine hK1 _ _ ?_
 refine wp_seq_k (fun K2 hK2 => ?_)
 refine wp_seq_k (fun K3 hK3 => ?_)
 refine wp_region_lit ?_
 refine q0 hf hM [0, 1] [{}, {}, {}, { g := .off }, { g := .off }, {}] (nw := [(11, eB true)]) (ob := [true = !false, true = !false]) (Ac rfl (Ao rfl)) ?_
 clear hf; intro a hf
 refine wpList_nil ?_
 refine hK3 _ _ ?_
 refine sxcond hf (b := true) (by kernel_rfl) (fun _ => ?_) (fun h => by cases h)
 refine wp_seq_k (fun K4 hK4 => ?_)
 refine wp_region_lit ?_
 refine q0 hf hM [] [{}, {}, {}, {}] (nw := [(4, eB false)]) An ?_
 clear hf; intro a hf
 refine wpList_nil ?_
 refine hK4 _ _ ?_
 refine wp_ret ?_
 refine qr (fn := Tryd.f51) hf hM [] (l := [bV false]) (ob := []) An ?_
 show (bV false : Value) = .bool false ∧ Keep Nn w w
 exact ⟨rfl, hk0⟩

set_option maxRecDepth 10000 in
set_option maxHeartbeats 1600000 in
theorem num_nil (w : World) :
    Calls Tryd.prog 27 #[.nilIface] w (Ret fun v w' => v = .int .i64 0 ∧ Keep Nn w w') := by
 refine sxenter (n := 32) (args := [.nilIface]) Tryd.func27 rfl rfl rfl fun a hf => ?_
 replace hf : Fr 32 [(0, .val (.nilIface))] a := hf
 have hM : MemOk [] w := MemOk.nil w
 have hk0 : Keep Nn w w := Keep.refl _ _
 refine wp_seq_k (fun K1 hK1 => ?_)
 refine wp_region_lit ?_
 refine q0 hf hM [0] [{}] (nw := []) An ?_
 clear hf; intro a hf
 refine wpList_nil ?_
 refine hK1 _ _ ?_
 refine wp_seq_k (fun K2 hK2 => ?_)
 refine wp_seq_k (fun K3 hK3 => ?_)
 refine wp_region_lit ?_
 refine q0 hf hM [0] [{}, {}] (nw := [(7, eB true)]) An ?_
 clear hf; intro a hf
 refine wpList_nil ?_
 refine hK3 _ _ ?_
 refine sxcond hf (b := true) (by kernel_rfl) (fun _ => ?_) (fun h => by cases h)
 refine wp_seq_k (fun K4 hK4 => ?_)
 refine wp_region_lit ?_
 refine q0 hf hM [] [{}] (nw := [(2, eI 0)]) An ?_
 clear hf; intro a hf
 refine wpList_nil ?_
 refine hK4 _ _ ?_
 refine wp_ret ?_
 refine qr (fn := Tryd.f27) hf hM [] (l := [iV 0]) (ob := []) An ?_
 show (iV 0 : Value) = .int .i64 0 ∧ Keep Nn w w
 exact ⟨rfl, hk0⟩

set_option maxRecDepth 10000 in
set_option maxHeartbeats 1600000 in
theorem num_range (E : Nat → Addr) (w : World) (hG : Errs [1, 2, 3, 4, 5, 6, 0, 7, 8, 9] w 161 E) :
    Calls Tryd.prog 27 #[.iface 161 (.pointer (some (E 1)))] w (Ret fun v w' => v = .int .i64 1 ∧ Keep Nn w w') := by
 refine sxenter (n := 32) (args := [.iface 161 (.pointer (some (E 1)))]) Tryd.func27 rfl rfl rfl fun a hf => ?_
 replace hf : Fr 32 [(0, .val (.iface 161 (.pointer (some (E 1)))))] a := hf
 have hM : MemOk [] w := MemOk.nil w
 have hk0 : Keep Nn w w := Keep.refl _ _
 refine wp_seq_k (fun K1 hK1 => ?_)
 refine wp_region_lit ?_
 refine q0 hf hM [0] [{}] (nw := []) An ?_
 clear hf; intro a hf
 refine wpList_nil ?_
 refine hK1 _ _ ?_
 refine wp_seq_k (fun K2 hK2 => ?_)
 refine wp_seq_k (fun K3 hK3 => ?_)
 refine wp_region_lit ?_
 refine q0 hf hM [0] [{}, {}] (nw := [(7, eB false)]) An ?_
 clear hf; intro a hf
 refine wpList_nil ?_
 refine hK3 _ _ ?_
 refine sxcond hf (b := false) (by kernel_rfl) (fun h => by cases h) (fun _ => ?_)
 refine wp_skip ?_
 refine hK2 _ _ ?_
 refine wp_seq_k (fun K4 hK4 => ?_)
 refine wp_region_lit ?_
 refine q0 hf hM [0] [{ os := [.ex (.iface 161 (.pointer (some (E 1))))] }, { os := [.ex (.iface 161 (.pointer (some (E 2))))] }, { os := [.ex (.iface 161 (.pointer (some (E 3))))] }, { os := [.ex (.iface 161 (.pointer (some (E 4))))] }, { os := [.ex (.iface 161 (.pointer (some (E 5))))] }, { os := [.ex (.iface 161 (.pointer (some (E 6))))] }, { os := [.ex (.iface 161 (.pointer (some (E 0))))] }, { os := [.ex (.iface 161 (.pointer (some (E 7))))] }, { os := [.ex (.iface 161 (.pointer (some (E 8))))] }, { os := [.ex (.iface 161 (.pointer (some (E 9))))] }] (nw := [(17, .val (.iface 161 (.pointer (some (E 9))))), (16, .val (.iface 161 (.pointer (some (E 8))))), (15, .val (.iface 161 (.pointer (some (E 7))))), (14, .val (.iface 161 (.pointer (some (E 0))))), (13, .val (.iface 161 (.pointer (some (E 6))))), (12, .val (.iface 161 (.pointer (some (E 5))))), (11, .val (.iface 161 (.pointer (some (E 4))))), (10, .val (.iface 161 (.pointer (some (E 3))))), (9, .val (.iface 161 (.pointer (some (E 2))))), (8, .val (.iface 161 (.pointer (some (E 1)))))]) (ob := [w.cell? ⟨1, 0, none⟩ = some (.iface 161 (.pointer (some (E 1)))), w.cell? ⟨2, 0, none⟩ = some (.iface 161 (.pointer (some (E 2)))), w.cell? ⟨3, 0, none⟩ = some (.iface 161 (.pointer (some (E 3)))), w.cell? ⟨4, 0, none⟩ = some (.iface 161 (.pointer (some (E 4)))), w.cell? ⟨5, 0, none⟩ = some (.iface 161 (.pointer (some (E 5)))), w.cell? ⟨6, 0, none⟩ = some (.iface 161 (.pointer (some (E 6)))), w.cell? ⟨0, 0, none⟩ = some (.iface 161 (.pointer (some (E 0)))), w.cell? ⟨7, 0, none⟩ = some (.iface 161 (.pointer (some (E 7)))), w.cell? ⟨8, 0, none⟩ = some (.iface 161 (.pointer (some (E 8)))), w.cell? ⟨9, 0, none⟩ = some (.iface 161 (.pointer (some (E 9))))]) (Ac (hk0.cell (hG.cell 1 (by decide)) (fun h => h)) (Ac (hk0.cell (hG.cell 2 (by decide)) (fun h => h)) (Ac (hk0.cell (hG.cell 3 (by decide)) (fun h => h)) (Ac (hk0.cell (hG.cell 4 (by decide)) (fun h => h)) (Ac (hk0.cell (hG.cell 5 (by decide)) (fun h => h)) (Ac (hk0.cell (hG.cell 6 (by decide)) (fun h => h)) (Ac (hk0.cell (hG.cell 0 (by decide)) (fun h => h)) (Ac (hk0.cell (hG.cell 7 (by decide)) (fun h => h)) (Ac (hk0.cell (hG.cell 8 (by decide)) (fun h => h)) (Ao (hk0.cell (hG.cell 9 (by decide)) (fun h => h)))))))))))) ?_
 clear hf; intro a hf
 refine sxbslice hf hM (t := 97) (e := 34) (len := 10) (cs := [.iface 161 (.pointer (some (E 1))), .iface 161 (.pointer (some (E 2))), .iface 161 (.pointer (some (E 3))), .iface 161 (.pointer (some (E 4))), .iface 161 (.pointer (some (E 5))), .iface 161 (.pointer (some (E 6))), .iface 161 (.pointer (some (E 0))), .iface 161 (.pointer (some (E 7))), .iface 161 (.pointer (some (E 8))), .iface 161 (.pointer (some (E 9)))]) (ob := []) rfl rfl rfl rfl (by as_aux_lemma => kernel_rfl) An (by as_aux_lemma => kernel_rfl) ?_
 clear hf hM; intro a w1 B4 hf hM hB hk
 replace hM : MemOk [⟨B4, 34, [.iface 161 (.pointer (some (E 1))), .iface 161 (.pointer (some (E 2))), .iface 161 (.pointer (some (E 3))), .iface 161 (.pointer (some (E 4))), .iface 161 (.pointer (some (E 5))), .iface 161 (.pointer (some (E 6))), .iface 161 (.pointer (some (E 0))), .iface 161 (.pointer (some (E 7))), .iface 161 (.pointer (some (E 8))), .iface 161 (.pointer (some (E 9)))]⟩] w1 := hM
 have hbB4 : w.heap.size ≤ B4 := by have := hk0.size; omega
 have hk0 := hk0.trans hk.nn
 clear hk hB
 refine q0 hf hM [0] [{}] (nw := [(3, eS (some ⟨B4, 0, none⟩) 10 10)]) An ?_
 clear hf; intro a hf
 refine wpList_nil ?_
 refine hK4 _ _ ?_
 refine wp_seq_k (fun K5 hK5 => ?_)
 refine wp_seq_k (fun K6 hK6 => ?_)
 refine wp_region_lit ?_
 refine q0 hf hM [0] [{}, {}, {}] (nw := [(21, eI 0), (20, eI 10), (19, eS (some ⟨B4, 0, none⟩) 10 10)]) An ?_
 clear hf; intro a hf
 refine wpList_nil ?_
 refine hK6 _ _ ?_
 refine wp_block ?_
 refine wp_loop_rounds 2 ?_
 refine sxround (m := 1) fun L1 hL1 => ?_
 refine wp_seq_k (fun K7 hK7 => ?_)
 refine wp_region_lit ?_
 refine q0 hf hM [21, 20, 19, 0] [{}] (nw := [(22, eB true)]) An ?_
 clear hf; intro a hf
 refine wpList_nil ?_
 refine hK7 _ _ ?_
 refine wp_seq_k (fun K8 hK8 => ?_)
 refine sxcond hf (b := true) (by kernel_rfl) (fun _ => ?_) (fun h => by cases h)
 refine wp_skip ?_
 refine hK8 _ _ ?_
 refine wp_seq_k (fun K9 hK9 => ?_)
 refine wp_block ?_
 refine wp_seq_k (fun K10 hK10 => ?_)
 refine wp_region_lit ?_
 refine q0 hf hM [21, 20, 19, 0] [{}, { sp := true }, { os := [.ld 0 0] }, {}, {}] (nw := [(5, .val (.iface 161 (.pointer (some (E 1))))), (4, eI 0)]) (ob := [(0 : Int) ≤ 0 ∧ (0 : Int) < (10 : Int), (some ⟨B4, 0, none⟩ : Option Addr).isSome = true, Ad B4 0]) (Ac (by omega) (Ac rfl (Ao (ad _ _)))) ?_
 clear hf; intro a hf
 refine wpList_nil ?_
 refine hK10 _ _ ?_
 refine wp_seq_k (fun K11 hK11 => ?_)
 refine wp_region_lit ?_
 refine q0 hf hM [4, 21, 20, 19, 0] [{}, {}] (nw := [(27, .val (.iface 161 (.pointer (some (E 1))))), (26, .val (.iface 161 (.pointer (some (E 1)))))]) An ?_
 clear hf; intro a hf
 refine sxcall hf rfl rfl rfl rfl (g := 51) (vs := [.iface 161 (.pointer (some (E 1))), .iface 161 (.pointer (some (E 1)))]) (ob := []) (by as_aux_lemma => kernel_rfl) An enters51 (Is_any E 1 1 w1  (by decide) (by decide) (hG.keep hk0 (fun _ h => h))) ?_
 clear hf; rintro _ w2 a ⟨rfl, hk⟩ hf
 have hM := hM.keepNn hk
 have hk0 := hk0.trans hk.nn
 clear hk
 refine wpList_nil ?_
 refine hK11 _ _ ?_
 refine qc hf (b := (1 == 1)) (fun hc3r => ?_) (fun hc3r => ?_)
 · have hc3 := hc3r
   refine wp_seq_k (fun K12 hK12 => ?_)
   refine wp_region_lit ?_
   refine q0 hf hM [] [{}, {}, {}] (nw := [(2, eI 1)]) An ?_
   clear hf; intro a hf
   refine wpList_nil ?_
   refine hK12 _ _ ?_
   refine wp_ret ?_
   refine qr (fn := Tryd.f27) hf hM [] (l := [iV 1]) (ob := []) An ?_
   show (iV 1 : Value) = .int .i64 1 ∧ Keep Nn w w2
   exact ⟨rfl, hk0⟩
 · have hc3 := hc3r
   exfalso; revert hc3r; decide
end Go.Proofs.YthofalkkdpjdlaaDoor
