/- errors.Is -/
import Derived.Test.YtifcgjnknikjkaaDoorRows
import Derived.Test.YtifcgjnknikjkaaDoorXp12
import Derived.Test.YtifcgjnknikjkaaDoorXp6
namespace Go.Proofs.YtifcgjnknikjkaaDoor
open Go.Px
set_option linter.unusedVariables false
set_option linter.unusedSimpArgs false
theorem enters57 : enters Tryd.prog 57 := ⟨_, Tryd.func57, by kernel_rfl, rfl⟩
theorem enters85 : enters Tryd.prog 85 := ⟨_, Tryd.func85, by kernel_rfl, rfl⟩

theorem esComp : (Tryd.prog.info? 185).map (·.comparable) = some true := by kernel_rfl
theorem esSize : (Tryd.prog.info? 211).map (·.size) = some 1 := by kernel_rfl
theorem isTypeOf (v : Value) (w : World) : (Extern.ReflectliteType.typeOf #[.iface 185 v]).run Tryd.prog w = .ok (.iface 156 (.agg #[.pointer (some ⟨10, 185, none⟩)])) w := by kernel_rfl
theorem isComparable (w : World) : ((Extern.ReflectliteType.method fun t => do Extern.Rtype.noPackHeld "Comparable" t; pure (.bool (← typeInfo t).comparable)) #[.agg #[.pointer (some ⟨10, 185, none⟩)]]).run Tryd.prog w = .ok (.bool true) w := by kernel_rfl
theorem isMethod (v : Value) (w : World) : (Go.method (Tryd.prog.types.size + Made.depth) 156 v "Comparable").run Tryd.prog w = .ok (135, v) w := by kernel_rfl
theorem callTypeOf (v : Value) (w : World) : (callFunc 84 #[.iface 185 v]).run Tryd.prog w = .ok (.value (.iface 156 (.agg #[.pointer (some ⟨10, 185, none⟩)]))) w := by
  rw [@run_callFunc_extern Tryd.prog 84 _ Extern.ReflectliteType.typeOf Tryd.func84 (by kernel_rfl) (by kernel_rfl) (by kernel_rfl) (by kernel_rfl), isTypeOf]
  rfl
theorem callComparable (w : World) : (callFunc 135 #[.agg #[.pointer (some ⟨10, 185, none⟩)]]).run Tryd.prog w = .ok (.value (.bool true)) w := by
  rw [@run_callFunc_extern Tryd.prog 135 _ (Extern.ReflectliteType.method fun t => do Extern.Rtype.noPackHeld "Comparable" t; pure (.bool (← typeInfo t).comparable)) Tryd.func135 (by kernel_rfl) (by kernel_rfl) (by kernel_rfl) (by kernel_rfl)]
  rw [isComparable]
  rfl
theorem esLacks158 (v : Value) (w : World) : (Instr.typeAssert (.iface 185 v) 31 158 true).run Tryd.prog w = .ok (.tuple #[.nilIface, .bool false]) w := run_assert_lacks Tryd.underlying158 (by kernel_rfl) (by kernel_rfl) v w
theorem esLacks161 (v : Value) (w : World) : (Instr.typeAssert (.iface 185 v) 31 161 true).run Tryd.prog w = .ok (.tuple #[.nilIface, .bool false]) w := run_assert_lacks Tryd.underlying161 (by kernel_rfl) (by kernel_rfl) v w
theorem esLacks163 (v : Value) (w : World) : (Instr.typeAssert (.iface 185 v) 31 163 true).run Tryd.prog w = .ok (.tuple #[.nilIface, .bool false]) w := run_assert_lacks Tryd.underlying163 (by kernel_rfl) (by kernel_rfl) v w
theorem eqlErrs {L : List Nat} {w : World} {E : Nat → Addr} (hG : Errs L w 185 E) {g h : Nat} (hg : L.contains g = true) (hh : L.contains h = true) : (Go.binOp .eql 31 (.iface 185 (.pointer (some (E g)))) (.iface 185 (.pointer (some (E h))))).run Tryd.prog w = .ok (.bool (g == h)) w := by
  obtain ⟨i, hi, hcmp⟩ := Option.map_eq_some_iff.1 esComp
  obtain ⟨j, hj, hjs⟩ := Option.map_eq_some_iff.1 esSize
  by_cases e : g = h
  · subst e
    rw [run_eql_iface_ptr_same (P := Tryd.prog) w (E g) Tryd.underlying31 Tryd.underlying185 hi hcmp hj]
    simp
  · obtain ⟨ca, ta, ha⟩ := hG.blk g hg
    obtain ⟨cb, tb, hb⟩ := hG.blk h hh
    rw [run_eql_iface_ptr_other (P := Tryd.prog) w Tryd.underlying31 Tryd.underlying185 hi hcmp hj (by rw [hjs]; decide) (fun h1 => e (hG.inj _ _ hg hh h1)) ha hb]
    simp [e]

set_option maxRecDepth 10000 in
set_option maxHeartbeats 4000000 in
theorem is_any (E : Nat → Addr) (g h : Nat) (w : World) (hg : ([0, 1, 2, 3, 4, 5, 6, 7, 8, 9] : List Nat).contains g = true) (hh : ([0, 1, 2, 3, 4, 5, 6, 7, 8, 9] : List Nat).contains h = true) (hG : Errs [0, 1, 2, 3, 4, 5, 6, 7, 8, 9] w 185 E) :
    Calls Tryd.prog 85 #[.iface 185 (.pointer (some (E g))), .iface 185 (.pointer (some (E h))), .bool true] w (Ret fun v w' => v = .bool (g == h) ∧ Keep Nn w w') := by
  refine sxenter (n := 54) (args := [.iface 185 (.pointer (some (E g))), .iface 185 (.pointer (some (E h))), .bool true]) Tryd.func85 rfl rfl rfl fun a hf => ?_
  replace hf : Fr 54 [(0, .val (.iface 185 (.pointer (some (E g))))), (1, .val (.iface 185 (.pointer (some (E h))))), (2, .val (.bool true))] a := hf
  have hM : MemOk [] w := MemOk.nil w
  have hk0 : Keep Nn w w := Keep.refl _ _
  refine wp_seq_k (fun K1 hK1 => ?_)
  refine wp_region_lit ?_
  refine sr0 hf hM [0, 1, 2] [{}] (env' := [(0, .val (.iface 185 (.pointer (some (E g))))), (1, .val (.iface 185 (.pointer (some (E h))))), (2, .val (.bool true))]) (ob := []) (fun B => by as_aux_lemma => kernel_rfl) rfl An ?_
  clear hf; intro a hf
  refine wpList_nil ?_
  refine hK1 _ _ ?_
  refine wp_block ?_
  have hf := hf.prune [0, 1, 2]
  replace hf : Fr 54 [(0, .val (.iface 185 (.pointer (some (E g))))), (1, .val (.iface 185 (.pointer (some (E h))))), (2, .val (.bool true))] a := hf
  refine sxloop (fun zm a w1 => zm = 0 ∧ Fr 54 [(0, .val (.iface 185 (.pointer (some (E g))))), (1, .val (.iface 185 (.pointer (some (E h))))), (2, .val (.bool true))] a ∧ MemOk [] w1 ∧ Keep Nn w w1) _ ⟨rfl, hf.conv (Ac rfl (Ac rfl (Ao rfl))), hM, hk0⟩ ?_
  clear hf hM hk0
  rintro _ a w1 ⟨rfl, hf, hM, hk0⟩ L1 hL1
  refine wp_block ?_
  refine wp_seq_k (fun K2 hK2 => ?_)
  refine wp_seq_k (fun K3 hK3 => ?_)
  refine wp_region_lit ?_
  refine sr0 hf hM [17, 16, 15, 0, 1, 2] [{}, {}, {}, {}] (env' := [(17, .val (.iface 185 (.pointer (some (E h))))), (16, .val (.iface 185 (.pointer (some (E g))))), (15, .val (.bool true)), (0, .val (.iface 185 (.pointer (some (E g))))), (1, .val (.iface 185 (.pointer (some (E h))))), (2, .val (.bool true))]) (ob := [true = true, true = true]) (fun B => by as_aux_lemma => kernel_rfl) rfl (Ac rfl (Ao rfl)) ?_
  clear hf; intro a hf
  refine sxvalg hf rfl rfl rfl rfl rfl (v := .bool (g == h)) (ob := []) (by kernel_rfl) An (ox_eql rfl rfl rfl (eqlErrs (hG.keep hk0 (fun _ h => h)) hg hh)) ?_
  clear hf; intro a hf
  refine sr0 hf hM [19, 18, 17, 16, 0, 1, 2] [{}] (env' := [(19, .val (.bool (g == h))), (18, .val (.bool (g == h))), (17, .val (.iface 185 (.pointer (some (E h))))), (16, .val (.iface 185 (.pointer (some (E g))))), (0, .val (.iface 185 (.pointer (some (E g))))), (1, .val (.iface 185 (.pointer (some (E h))))), (2, .val (.bool true))]) (ob := []) (fun B => by as_aux_lemma => kernel_rfl) rfl An ?_
  clear hf; intro a hf
  refine wpList_nil ?_
  refine hK3 _ _ ?_
  refine sxcond hf (b := (g == h)) (by kernel_rfl) (fun hc1 => ?_) (fun hc1 => ?_)
  · have hc1r := hc1
    try simp only [Bool.or_eq_true, Bool.and_eq_true, Bool.not_eq_true', Bool.not_eq_false', Bool.or_eq_false_iff, Bool.and_eq_false_iff, decide_eq_true_eq, decide_eq_false_iff_not, beq_iff_eq, bne_iff_ne, beq_eq_false_iff_ne, bne_eq_false_iff_eq, Bool.and_true, Bool.true_and, ne_eq] at hc1
    refine wp_seq_k (fun K4 hK4 => ?_)
    refine wp_region_lit ?_
    refine sr0 hf hM [6] [{}] (env' := [(6, .val (.bool true))]) (ob := []) (fun B => by as_aux_lemma => kernel_rfl) rfl An ?_
    clear hf; intro a hf
    refine wpList_nil ?_
    refine hK4 _ _ ?_
    refine wp_ret ?_
    refine sxret (fn := Tryd.f85) hf hM [] (l := [.bool true]) (M' := []) (d' := false) (ob := []) (by kernel_rfl) (fun B => ⟨B, by as_aux_lemma => kernel_rfl⟩) rfl An ?_
    show (.bool true : Value) = .bool (g == h) ∧ Keep Nn w w1
    refine ⟨?_, hk0⟩
    simp_all
  · have hc1r := hc1
    try simp only [Bool.or_eq_true, Bool.and_eq_true, Bool.not_eq_true', Bool.not_eq_false', Bool.or_eq_false_iff, Bool.and_eq_false_iff, decide_eq_true_eq, decide_eq_false_iff_not, beq_iff_eq, bne_iff_ne, beq_eq_false_iff_ne, bne_eq_false_iff_eq, Bool.and_true, Bool.true_and, ne_eq] at hc1
    refine wp_skip ?_
    refine hK2 _ _ ?_
    refine wp_seq_k (fun K5 hK5 => ?_)
    refine wp_seq_k (fun K6 hK6 => ?_)
    refine wp_region_lit ?_
    refine sr0 hf hM [21, 18, 17, 16, 0, 1, 2] [{}] (env' := [(21, .val (.iface 185 (.pointer (some (E g))))), (18, .val (.bool (g == h))), (17, .val (.iface 185 (.pointer (some (E h))))), (16, .val (.iface 185 (.pointer (some (E g))))), (0, .val (.iface 185 (.pointer (some (E g))))), (1, .val (.iface 185 (.pointer (some (E h))))), (2, .val (.bool true))]) (ob := []) (fun B => by as_aux_lemma => kernel_rfl) rfl An ?_
    clear hf; intro a hf
    refine sxval hf rfl rfl rfl rfl (v := .tuple #[.nilIface, .bool false]) (ob := []) (by kernel_rfl) An (ox_assert rfl rfl (esLacks158 _ _)) ?_
    clear hf; intro a hf
    refine sr0 hf hM [8, 7, 18, 17, 16, 0, 1, 2] [{}, {}, {}, {}, {}] (env' := [(8, .val (.bool false)), (7, .val (.nilIface)), (18, .val (.bool (g == h))), (17, .val (.iface 185 (.pointer (some (E h))))), (16, .val (.iface 185 (.pointer (some (E g))))), (0, .val (.iface 185 (.pointer (some (E g))))), (1, .val (.iface 185 (.pointer (some (E h))))), (2, .val (.bool true))]) (ob := []) (fun B => by as_aux_lemma => kernel_rfl) rfl An ?_
    clear hf; intro a hf
    refine wpList_nil ?_
    refine hK6 _ _ ?_
    refine wp_seq_k (fun K7 hK7 => ?_)
    refine wp_region_lit ?_
    refine sr0 hf hM [28, 27, 26, 18, 17, 16, 0, 1, 2] [{}, {}, { g := .off }, { g := .off }] (env' := [(28, .val (undef)), (27, .val (undef)), (26, .val (.bool false)), (18, .val (.bool (g == h))), (17, .val (.iface 185 (.pointer (some (E h))))), (16, .val (.iface 185 (.pointer (some (E g))))), (0, .val (.iface 185 (.pointer (some (E g))))), (1, .val (.iface 185 (.pointer (some (E h))))), (2, .val (.bool true))]) (ob := [false = !true, false = !true]) (fun B => by as_aux_lemma => kernel_rfl) rfl (Ac rfl (Ao rfl)) ?_
    clear hf; intro a hf
    refine sr0 hf hM [30, 29, 28, 27, 18, 17, 16, 0, 1, 2] [{ g := .off }, {}] (env' := [(30, .val (.bool false)), (29, .val (undef)), (28, .val (undef)), (27, .val (undef)), (18, .val (.bool (g == h))), (17, .val (.iface 185 (.pointer (some (E h))))), (16, .val (.iface 185 (.pointer (some (E g))))), (0, .val (.iface 185 (.pointer (some (E g))))), (1, .val (.iface 185 (.pointer (some (E h))))), (2, .val (.bool true))]) (ob := [false = !true]) (fun B => by as_aux_lemma => kernel_rfl) rfl (Ao rfl) ?_
    clear hf; intro a hf
    refine wpList_nil ?_
    refine hK7 _ _ ?_
    refine sxcond hf (b := false) (by kernel_rfl) (fun h => by cases h) (fun _ => ?_)
    refine wp_skip ?_
    refine hK5 _ _ ?_
    refine wp_seq_k (fun K8 hK8 => ?_)
    refine wp_region_lit ?_
    refine sr0 hf hM [31, 29, 28, 27, 18, 17, 16, 1, 2] [{}] (env' := [(31, .val (.iface 185 (.pointer (some (E g))))), (29, .val (undef)), (28, .val (undef)), (27, .val (undef)), (18, .val (.bool (g == h))), (17, .val (.iface 185 (.pointer (some (E h))))), (16, .val (.iface 185 (.pointer (some (E g))))), (1, .val (.iface 185 (.pointer (some (E h))))), (2, .val (.bool true))]) (ob := []) (fun B => by as_aux_lemma => kernel_rfl) rfl An ?_
    clear hf; intro a hf
    refine wpList_nil ?_
    refine hK8 _ _ ?_
    refine wp_block ?_
    refine wp_seq_k (fun K9 hK9 => ?_)
    refine wp_region_lit ?_
    refine sxval hf rfl rfl rfl rfl (v := .tuple #[.nilIface, .bool false]) (ob := []) (by kernel_rfl) An (ox_assert rfl rfl (esLacks161 _ _)) ?_
    clear hf; intro a hf
    refine sr0 hf hM [34, 33, 31, 29, 28, 27, 18, 17, 16, 1, 2] [{}, {}] (env' := [(34, .val (.nilIface)), (33, .val (.bool false)), (31, .val (.iface 185 (.pointer (some (E g))))), (29, .val (undef)), (28, .val (undef)), (27, .val (undef)), (18, .val (.bool (g == h))), (17, .val (.iface 185 (.pointer (some (E h))))), (16, .val (.iface 185 (.pointer (some (E g))))), (1, .val (.iface 185 (.pointer (some (E h))))), (2, .val (.bool true))]) (ob := []) (fun B => by as_aux_lemma => kernel_rfl) rfl An ?_
    clear hf; intro a hf
    refine wpList_nil ?_
    refine hK9 _ _ ?_
    refine sxcond hf (b := false) (by kernel_rfl) (fun h => by cases h) (fun _ => ?_)
    refine wp_seq_k (fun K10 hK10 => ?_)
    refine wp_region_lit ?_
    refine sxval hf rfl rfl rfl rfl (v := .tuple #[.nilIface, .bool false]) (ob := []) (by kernel_rfl) An (ox_assert rfl rfl (esLacks163 _ _)) ?_
    clear hf; intro a hf
    refine sr0 hf hM [41, 40, 31, 1, 2] [{}, {}] (env' := [(41, .val (.nilIface)), (40, .val (.bool false)), (31, .val (.iface 185 (.pointer (some (E g))))), (1, .val (.iface 185 (.pointer (some (E h))))), (2, .val (.bool true))]) (ob := []) (fun B => by as_aux_lemma => kernel_rfl) rfl An ?_
    clear hf; intro a hf
    refine wpList_nil ?_
    refine hK10 _ _ ?_
    refine sxcond hf (b := false) (by kernel_rfl) (fun h => by cases h) (fun _ => ?_)
    refine wp_seq_k (fun K11 hK11 => ?_)
    refine wp_region_lit ?_
    refine sr0 hf hM [] [{}] (env' := []) (ob := []) (fun B => by as_aux_lemma => kernel_rfl) rfl An ?_
    clear hf; intro a hf
    refine wpList_nil ?_
    refine hK11 _ _ ?_
    refine wp_seq_k (fun K12 hK12 => ?_)
    refine wp_region_lit ?_
    refine sr0 hf hM [6] [{}] (env' := [(6, .val (.bool false))]) (ob := []) (fun B => by as_aux_lemma => kernel_rfl) rfl An ?_
    clear hf; intro a hf
    refine wpList_nil ?_
    refine hK12 _ _ ?_
    refine wp_ret ?_
    refine sxret (fn := Tryd.f85) hf hM [] (l := [.bool false]) (M' := []) (d' := false) (ob := []) (by kernel_rfl) (fun B => ⟨B, by as_aux_lemma => kernel_rfl⟩) rfl An ?_
    show (.bool false : Value) = .bool (g == h) ∧ Keep Nn w w1
    refine ⟨?_, hk0⟩
    simp_all

set_option maxRecDepth 10000 in
set_option maxHeartbeats 4000000 in
theorem Is_any (E : Nat → Addr) (g h : Nat) (w : World) (hg : ([0, 1, 2, 3, 4, 5, 6, 7, 8, 9] : List Nat).contains g = true) (hh : ([0, 1, 2, 3, 4, 5, 6, 7, 8, 9] : List Nat).contains h = true) (hG : Errs [0, 1, 2, 3, 4, 5, 6, 7, 8, 9] w 185 E) :
    Calls Tryd.prog 57 #[.iface 185 (.pointer (some (E g))), .iface 185 (.pointer (some (E h)))] w (Ret fun v w' => v = .bool (g == h) ∧ Keep Nn w w') := by
  refine sxenter (n := 22) (args := [.iface 185 (.pointer (some (E g))), .iface 185 (.pointer (some (E h)))]) Tryd.func57 rfl rfl rfl fun a hf => ?_
  replace hf : Fr 22 [(0, .val (.iface 185 (.pointer (some (E g))))), (1, .val (.iface 185 (.pointer (some (E h)))))] a := hf
  have hM : MemOk [] w := MemOk.nil w
  have hk0 : Keep Nn w w := Keep.refl _ _
  refine wp_seq_k (fun K1 hK1 => ?_)
  refine wp_region_lit ?_
  refine sr0 hf hM [0, 1] [{}] (env' := [(0, .val (.iface 185 (.pointer (some (E g))))), (1, .val (.iface 185 (.pointer (some (E h)))))]) (ob := []) (fun B => by as_aux_lemma => kernel_rfl) rfl An ?_
  clear hf; intro a hf
  refine wpList_nil ?_
  refine hK1 _ _ ?_
  refine wp_seq_k (fun K2 hK2 => ?_)
  refine wp_seq_k (fun K3 hK3 => ?_)
  refine wp_region_lit ?_
  refine sr0 hf hM [11, 0, 1] [{}, {}, {}, {}, {}, {}] (env' := [(11, .val (.bool false)), (0, .val (.iface 185 (.pointer (some (E g))))), (1, .val (.iface 185 (.pointer (some (E h)))))]) (ob := [false = false, false = false]) (fun B => by as_aux_lemma => kernel_rfl) rfl (Ac rfl (Ao rfl)) ?_
  clear hf; intro a hf
  refine wpList_nil ?_
  refine hK3 _ _ ?_
  refine sxcond hf (b := false) (by kernel_rfl) (fun h => by cases h) (fun _ => ?_)
  refine wp_skip ?_
  refine hK2 _ _ ?_
  refine wp_seq_k (fun K4 hK4 => ?_)
  refine wp_region_lit ?_
  refine sr0 hf hM [15, 0, 1] [{}] (env' := [(15, .val (.iface 185 (.pointer (some (E h))))), (0, .val (.iface 185 (.pointer (some (E g))))), (1, .val (.iface 185 (.pointer (some (E h)))))]) (ob := []) (fun B => by as_aux_lemma => kernel_rfl) rfl An ?_
  clear hf; intro a hf
  refine sxval hf rfl rfl rfl rfl (v := .iface 156 (.agg #[.pointer (some ⟨10, 185, none⟩)])) (ob := []) (by kernel_rfl) An (ox_callx rfl rfl rfl rfl (callTypeOf _ _)) ?_
  clear hf; intro a hf
  refine sxval hf rfl rfl rfl rfl (v := .bool true) (ob := []) (by kernel_rfl) An (ox_invoke rfl rfl rfl rfl (isMethod _ _) (callComparable _)) ?_
  clear hf; intro a hf
  refine sr0 hf hM [5, 0, 1] [{}] (env' := [(5, .val (.bool true)), (0, .val (.iface 185 (.pointer (some (E g))))), (1, .val (.iface 185 (.pointer (some (E h)))))]) (ob := []) (fun B => by as_aux_lemma => kernel_rfl) rfl An ?_
  clear hf; intro a hf
  refine wpList_nil ?_
  refine hK4 _ _ ?_
  refine wp_seq_k (fun K5 hK5 => ?_)
  refine wp_region_lit ?_
  refine sr0 hf hM [20, 19, 18] [{}, {}, {}] (env' := [(20, .val (.bool true)), (19, .val (.iface 185 (.pointer (some (E h))))), (18, .val (.iface 185 (.pointer (some (E g)))))]) (ob := []) (fun B => by as_aux_lemma => kernel_rfl) rfl An ?_
  clear hf; intro a hf
  refine sxcall hf rfl rfl rfl rfl (g := 85) (vs := [.iface 185 (.pointer (some (E g))), .iface 185 (.pointer (some (E h))), .bool true]) (ob := []) (by as_aux_lemma => kernel_rfl) An enters85 (is_any E g h w  hg hh (hG.keep hk0 (fun _ h => h))) ?_
  clear hf; rintro _ w1 a ⟨rfl, hk⟩ hf
  have hM := hM.keepNn hk
  have hk0 := hk0.trans hk.nn
  clear hk
  refine sr0 hf hM [4] [{}] (env' := [(4, .val (.bool (g == h)))]) (ob := []) (fun B => by as_aux_lemma => kernel_rfl) rfl An ?_
  clear hf; intro a hf
  refine wpList_nil ?_
  refine hK5 _ _ ?_
  refine wp_ret ?_
  refine sxret (fn := Tryd.f57) hf hM [] (l := [.bool (g == h)]) (M' := []) (d' := false) (ob := []) (by kernel_rfl) (fun B => ⟨B, by as_aux_lemma => kernel_rfl⟩) rfl An ?_
  show (.bool (g == h) : Value) = .bool (g == h) ∧ Keep Nn w w1
  exact ⟨rfl, hk0⟩

set_option maxRecDepth 10000 in
set_option maxHeartbeats 4000000 in
theorem Is_nil (v : Value) (w : World) :
    Calls Tryd.prog 57 #[.nilIface, .iface 185 v] w (Ret fun v w' => v = .bool false ∧ Keep Nn w w') := by
  refine sxenter (n := 22) (args := [.nilIface, .iface 185 v]) Tryd.func57 rfl rfl rfl fun a hf => ?_
  replace hf : Fr 22 [(0, .val (.nilIface)), (1, .val (.iface 185 v))] a := hf
  have hM : MemOk [] w := MemOk.nil w
  have hk0 : Keep Nn w w := Keep.refl _ _
  refine wp_seq_k (fun K1 hK1 => ?_)
  refine wp_region_lit ?_
  refine sr0 hf hM [0, 1] [{}] (env' := [(0, .val (.nilIface)), (1, .val (.iface 185 v))]) (ob := []) (fun B => by as_aux_lemma => kernel_rfl) rfl An ?_
  clear hf; intro a hf
  refine wpList_nil ?_
  refine hK1 _ _ ?_
  refine wp_seq_k (fun K2 hK2 => ?_)
  refine wp_seq_k (fun K3 hK3 => ?_)
  refine wp_region_lit ?_
  refine sr0 hf hM [11, 0, 1] [{}, {}, {}, { g := .off }, { g := .off }, {}] (env' := [(11, .val (.bool true)), (0, .val (.nilIface)), (1, .val (.iface 185 v))]) (ob := [true = !false, true = !false]) (fun B => by as_aux_lemma => kernel_rfl) rfl (Ac rfl (Ao rfl)) ?_
  clear hf; intro a hf
  refine wpList_nil ?_
  refine hK3 _ _ ?_
  refine sxcond hf (b := true) (by kernel_rfl) (fun _ => ?_) (fun h => by cases h)
  refine wp_seq_k (fun K4 hK4 => ?_)
  refine wp_region_lit ?_
  refine sr0 hf hM [4] [{}, {}, {}, {}] (env' := [(4, .val (.bool false))]) (ob := []) (fun B => by as_aux_lemma => kernel_rfl) rfl An ?_
  clear hf; intro a hf
  refine wpList_nil ?_
  refine hK4 _ _ ?_
  refine wp_ret ?_
  refine sxret (fn := Tryd.f57) hf hM [] (l := [.bool false]) (M' := []) (d' := false) (ob := []) (by kernel_rfl) (fun B => ⟨B, by as_aux_lemma => kernel_rfl⟩) rfl An ?_
  show (.bool false : Value) = .bool false ∧ Keep Nn w w
  exact ⟨rfl, hk0⟩

theorem errs_at {E : Nat → Addr} {M : Mem} {w : World} {B t : Nat} (h : MemOk M w) (hb : ⟨B, t, [.iface 185 (.pointer (some (E 0))), .iface 185 (.pointer (some (E 1))), .iface 185 (.pointer (some (E 2))), .iface 185 (.pointer (some (E 3))), .iface 185 (.pointer (some (E 4))), .iface 185 (.pointer (some (E 5))), .iface 185 (.pointer (some (E 6))), .iface 185 (.pointer (some (E 7))), .iface 185 (.pointer (some (E 8))), .iface 185 (.pointer (some (E 9)))]⟩ ∈ M) {i : Nat} (hi : i < 10) : w.cell? ⟨B, i, none⟩ = some (.iface 185 (.pointer (some (E i)))) := by
  have := h.at_ _ hb
  simp only [World.cell?, this]
  rcases (by omega : i = 0 ∨ i = 1 ∨ i = 2 ∨ i = 3 ∨ i = 4 ∨ i = 5 ∨ i = 6 ∨ i = 7 ∨ i = 8 ∨ i = 9) with rfl | rfl | rfl | rfl | rfl | rfl | rfl | rfl | rfl | rfl <;> rfl

set_option maxRecDepth 10000 in
set_option maxHeartbeats 4000000 in
theorem num_nil (w : World) :
    Calls Tryd.prog 17 #[.nilIface] w (Ret fun v w' => v = .int .i64 0 ∧ Keep Nn w w') := by
  refine sxenter (n := 32) (args := [.nilIface]) Tryd.func17 rfl rfl rfl fun a hf => ?_
  replace hf : Fr 32 [(0, .val (.nilIface))] a := hf
  have hM : MemOk [] w := MemOk.nil w
  have hk0 : Keep Nn w w := Keep.refl _ _
  refine wp_seq_k (fun K1 hK1 => ?_)
  refine wp_region_lit ?_
  refine sr0 hf hM [0] [{}] (env' := [(0, .val (.nilIface))]) (ob := []) (fun B => by as_aux_lemma => kernel_rfl) rfl An ?_
  clear hf; intro a hf
  refine wpList_nil ?_
  refine hK1 _ _ ?_
  refine wp_seq_k (fun K2 hK2 => ?_)
  refine wp_seq_k (fun K3 hK3 => ?_)
  refine wp_region_lit ?_
  refine sr0 hf hM [7, 0] [{}, {}] (env' := [(7, .val (.bool true)), (0, .val (.nilIface))]) (ob := []) (fun B => by as_aux_lemma => kernel_rfl) rfl An ?_
  clear hf; intro a hf
  refine wpList_nil ?_
  refine hK3 _ _ ?_
  refine sxcond hf (b := true) (by kernel_rfl) (fun _ => ?_) (fun h => by cases h)
  refine wp_seq_k (fun K4 hK4 => ?_)
  refine wp_region_lit ?_
  refine sr0 hf hM [2] [{}] (env' := [(2, .val (.int .i64 0))]) (ob := []) (fun B => by as_aux_lemma => kernel_rfl) rfl An ?_
  clear hf; intro a hf
  refine wpList_nil ?_
  refine hK4 _ _ ?_
  refine wp_ret ?_
  refine sxret (fn := Tryd.f17) hf hM [] (l := [.int .i64 0]) (M' := []) (d' := false) (ob := []) (by kernel_rfl) (fun B => ⟨B, by as_aux_lemma => kernel_rfl⟩) rfl An ?_
  show (.int .i64 0 : Value) = .int .i64 0 ∧ Keep Nn w w
  exact ⟨rfl, hk0⟩

set_option maxRecDepth 10000 in
set_option maxHeartbeats 4000000 in
theorem num_err (E : Nat → Addr) (g : Nat) (w : World) (hg : g < 10) (hG : Errs [0, 1, 2, 3, 4, 5, 6, 7, 8, 9] w 185 E) :
    Calls Tryd.prog 17 #[.iface 185 (.pointer (some (E g)))] w (Ret fun v w' => v = .int .i64 ((g : Int) + 1) ∧ Keep Nn w w') := by
  refine sxenter (n := 32) (args := [.iface 185 (.pointer (some (E g)))]) Tryd.func17 rfl rfl rfl fun a hf => ?_
  replace hf : Fr 32 [(0, .val (.iface 185 (.pointer (some (E g)))))] a := hf
  have hM : MemOk [] w := MemOk.nil w
  have hk0 : Keep Nn w w := Keep.refl _ _
  refine wp_seq_k (fun K1 hK1 => ?_)
  refine wp_region_lit ?_
  refine sr0 hf hM [0] [{}] (env' := [(0, .val (.iface 185 (.pointer (some (E g)))))]) (ob := []) (fun B => by as_aux_lemma => kernel_rfl) rfl An ?_
  clear hf; intro a hf
  refine wpList_nil ?_
  refine hK1 _ _ ?_
  refine wp_seq_k (fun K2 hK2 => ?_)
  refine wp_seq_k (fun K3 hK3 => ?_)
  refine wp_region_lit ?_
  refine sr0 hf hM [7, 0] [{}, {}] (env' := [(7, .val (.bool false)), (0, .val (.iface 185 (.pointer (some (E g)))))]) (ob := []) (fun B => by as_aux_lemma => kernel_rfl) rfl An ?_
  clear hf; intro a hf
  refine wpList_nil ?_
  refine hK3 _ _ ?_
  refine sxcond hf (b := false) (by kernel_rfl) (fun h => by cases h) (fun _ => ?_)
  refine wp_skip ?_
  refine hK2 _ _ ?_
  refine wp_seq_k (fun K4 hK4 => ?_)
  refine wp_region_lit ?_
  refine sr0 hf hM [17, 16, 15, 14, 13, 12, 11, 10, 9, 8, 0] [{ os := [.ex (.iface 185 (.pointer (some (E 0))))] }, { os := [.ex (.iface 185 (.pointer (some (E 1))))] }, { os := [.ex (.iface 185 (.pointer (some (E 2))))] }, { os := [.ex (.iface 185 (.pointer (some (E 3))))] }, { os := [.ex (.iface 185 (.pointer (some (E 4))))] }, { os := [.ex (.iface 185 (.pointer (some (E 5))))] }, { os := [.ex (.iface 185 (.pointer (some (E 6))))] }, { os := [.ex (.iface 185 (.pointer (some (E 7))))] }, { os := [.ex (.iface 185 (.pointer (some (E 8))))] }, { os := [.ex (.iface 185 (.pointer (some (E 9))))] }] (env' := [(17, .val (.iface 185 (.pointer (some (E 9))))), (16, .val (.iface 185 (.pointer (some (E 8))))), (15, .val (.iface 185 (.pointer (some (E 7))))), (14, .val (.iface 185 (.pointer (some (E 6))))), (13, .val (.iface 185 (.pointer (some (E 5))))), (12, .val (.iface 185 (.pointer (some (E 4))))), (11, .val (.iface 185 (.pointer (some (E 3))))), (10, .val (.iface 185 (.pointer (some (E 2))))), (9, .val (.iface 185 (.pointer (some (E 1))))), (8, .val (.iface 185 (.pointer (some (E 0))))), (0, .val (.iface 185 (.pointer (some (E g)))))]) (ob := [w.cell? ⟨0, 0, none⟩ = some (.iface 185 (.pointer (some (E 0)))), w.cell? ⟨1, 0, none⟩ = some (.iface 185 (.pointer (some (E 1)))), w.cell? ⟨2, 0, none⟩ = some (.iface 185 (.pointer (some (E 2)))), w.cell? ⟨3, 0, none⟩ = some (.iface 185 (.pointer (some (E 3)))), w.cell? ⟨4, 0, none⟩ = some (.iface 185 (.pointer (some (E 4)))), w.cell? ⟨5, 0, none⟩ = some (.iface 185 (.pointer (some (E 5)))), w.cell? ⟨6, 0, none⟩ = some (.iface 185 (.pointer (some (E 6)))), w.cell? ⟨7, 0, none⟩ = some (.iface 185 (.pointer (some (E 7)))), w.cell? ⟨8, 0, none⟩ = some (.iface 185 (.pointer (some (E 8)))), w.cell? ⟨9, 0, none⟩ = some (.iface 185 (.pointer (some (E 9))))]) (fun B => by as_aux_lemma => kernel_rfl) rfl (Ac (hk0.cell (hG.cell 0 (by decide)) (fun h => h)) (Ac (hk0.cell (hG.cell 1 (by decide)) (fun h => h)) (Ac (hk0.cell (hG.cell 2 (by decide)) (fun h => h)) (Ac (hk0.cell (hG.cell 3 (by decide)) (fun h => h)) (Ac (hk0.cell (hG.cell 4 (by decide)) (fun h => h)) (Ac (hk0.cell (hG.cell 5 (by decide)) (fun h => h)) (Ac (hk0.cell (hG.cell 6 (by decide)) (fun h => h)) (Ac (hk0.cell (hG.cell 7 (by decide)) (fun h => h)) (Ac (hk0.cell (hG.cell 8 (by decide)) (fun h => h)) (Ao (hk0.cell (hG.cell 9 (by decide)) (fun h => h)))))))))))) ?_
  clear hf; intro a hf
  refine sxbslice hf hM (t := 100) (e := 31) (len := 10) (cs := [.iface 185 (.pointer (some (E 0))), .iface 185 (.pointer (some (E 1))), .iface 185 (.pointer (some (E 2))), .iface 185 (.pointer (some (E 3))), .iface 185 (.pointer (some (E 4))), .iface 185 (.pointer (some (E 5))), .iface 185 (.pointer (some (E 6))), .iface 185 (.pointer (some (E 7))), .iface 185 (.pointer (some (E 8))), .iface 185 (.pointer (some (E 9)))]) (ob := []) rfl rfl rfl rfl (by as_aux_lemma => kernel_rfl) An (by as_aux_lemma => kernel_rfl) ?_
  clear hf hM; intro a w1 B4 hf hM hB hk
  replace hM : MemOk [⟨B4, 31, [.iface 185 (.pointer (some (E 0))), .iface 185 (.pointer (some (E 1))), .iface 185 (.pointer (some (E 2))), .iface 185 (.pointer (some (E 3))), .iface 185 (.pointer (some (E 4))), .iface 185 (.pointer (some (E 5))), .iface 185 (.pointer (some (E 6))), .iface 185 (.pointer (some (E 7))), .iface 185 (.pointer (some (E 8))), .iface 185 (.pointer (some (E 9)))]⟩] w1 := hM
  have hbB4 : w.heap.size ≤ B4 := by have := hk0.size; omega
  have hk0 := hk0.trans hk.nn
  clear hk hB
  refine sr0 hf hM [3, 0] [{}] (env' := [(3, .val (.slice (some ⟨B4, 0, none⟩) 10 10)), (0, .val (.iface 185 (.pointer (some (E g)))))]) (ob := []) (fun B => by as_aux_lemma => kernel_rfl) rfl An ?_
  clear hf; intro a hf
  refine wpList_nil ?_
  refine hK4 _ _ ?_
  refine wp_seq_k (fun K5 hK5 => ?_)
  refine wp_seq_k (fun K6 hK6 => ?_)
  refine wp_region_lit ?_
  refine sr0 hf hM [21, 20, 19, 0] [{}, {}, {}] (env' := [(21, .val (.int .i64 0)), (20, .val (.int .i64 10)), (19, .val (.slice (some ⟨B4, 0, none⟩) 10 10)), (0, .val (.iface 185 (.pointer (some (E g)))))]) (ob := []) (fun B => by as_aux_lemma => kernel_rfl) rfl An ?_
  clear hf; intro a hf
  refine wpList_nil ?_
  refine hK6 _ _ ?_
  refine wp_block ?_
  have hf := hf.prune [0, 19, 20, 21]
  replace hf : Fr 32 [(0, .val (.iface 185 (.pointer (some (E g))))), (19, .val (.slice (some ⟨B4, 0, none⟩) 10 10)), (20, .val (.int .i64 10)), (21, .val (.int .i64 0))] a := hf
  refine sxloop (fun zm a w1 => ∃ (i : Int), zm = ((g : Int) - i).toNat ∧ Fr 32 [(0, .val (.iface 185 (.pointer (some (E g))))), (19, .val (.slice (some ⟨B4, 0, none⟩) 10 10)), (20, .val (.int .i64 10)), (21, .val (.int .i64 i))] a ∧ MemOk [⟨B4, 31, [.iface 185 (.pointer (some (E 0))), .iface 185 (.pointer (some (E 1))), .iface 185 (.pointer (some (E 2))), .iface 185 (.pointer (some (E 3))), .iface 185 (.pointer (some (E 4))), .iface 185 (.pointer (some (E 5))), .iface 185 (.pointer (some (E 6))), .iface 185 (.pointer (some (E 7))), .iface 185 (.pointer (some (E 8))), .iface 185 (.pointer (some (E 9)))]⟩] w1 ∧ Keep Nn w w1 ∧ (0 ≤ i ∧ i ≤ (g : Int))) _ ⟨0, rfl, hf.conv (Ac rfl (Ac rfl (Ac rfl (Ao rfl)))), hM, hk0, (by omega)⟩ ?_
  clear hf hM hk0
  rintro _ a w2 ⟨i, rfl, hf, hM, hk0, hi⟩ L1 hL1
  refine wp_seq_k (fun K7 hK7 => ?_)
  refine wp_region_lit ?_
  refine sr0 hf hM [22, 0, 19, 20, 21] [{}] (env' := [(22, .val (.bool (decide ((i : Int) < 10)))), (0, .val (.iface 185 (.pointer (some (E g))))), (19, .val (.slice (some ⟨B4, 0, none⟩) 10 10)), (20, .val (.int .i64 10)), (21, .val (.int .i64 i))]) (ob := []) (fun B => by as_aux_lemma => kernel_rfl) rfl An ?_
  clear hf; intro a hf
  refine wpList_nil ?_
  refine hK7 _ _ ?_
  refine wp_seq_k (fun K8 hK8 => ?_)
  refine sxcond hf (b := (decide ((i : Int) < 10))) (by kernel_rfl) (fun hc2 => ?_) (fun hc2 => ?_)
  · have hc2r := hc2
    try simp only [Bool.or_eq_true, Bool.and_eq_true, Bool.not_eq_true', Bool.not_eq_false', Bool.or_eq_false_iff, Bool.and_eq_false_iff, decide_eq_true_eq, decide_eq_false_iff_not, beq_iff_eq, bne_iff_ne, beq_eq_false_iff_ne, bne_eq_false_iff_eq, Bool.and_true, Bool.true_and, ne_eq] at hc2
    refine wp_skip ?_
    refine hK8 _ _ ?_
    refine wp_seq_k (fun K9 hK9 => ?_)
    refine wp_block ?_
    refine wp_seq_k (fun K10 hK10 => ?_)
    refine wp_region_lit ?_
    refine sr0 hf hM [5, 4, 0, 19, 20, 21] [{}, { sp := true, hint := some (.pointer (some ⟨B4, i.toNat, none⟩)) }, { os := [.ex (.iface 185 (.pointer (some (E i.toNat))))] }, {}, {}] (env' := [(5, .val (.iface 185 (.pointer (some (E i.toNat))))), (4, .val (.int .i64 i)), (0, .val (.iface 185 (.pointer (some (E g))))), (19, .val (.slice (some ⟨B4, 0, none⟩) 10 10)), (20, .val (.int .i64 10)), (21, .val (.int .i64 i))]) (ob := [(0 : Int) ≤ i ∧ i < (10 : Int), (some ⟨B4, 0, none⟩ : Option Addr).isSome = true, (.pointer (some ((sa (some ⟨B4, 0, none⟩) : Addr).add (i.toNat * 1))) : Value) = (.pointer (some ⟨B4, i.toNat, none⟩) : Value), w2.cell? ⟨B4, i.toNat, none⟩ = some (.iface 185 (.pointer (some (E i.toNat))))]) (fun B => by as_aux_lemma => kernel_rfl) rfl (Ac (by first | omega | (simp; done)) (Ac rfl (Ac (ixa (by omega)) (Ao (errs_at (B := B4) (t := 31) hM (by simp) (by omega)))))) ?_
    clear hf; intro a hf
    refine wpList_nil ?_
    refine hK10 _ _ ?_
    refine wp_seq_k (fun K11 hK11 => ?_)
    refine wp_region_lit ?_
    refine sr0 hf hM [27, 26, 4, 0, 19, 20, 21] [{}, {}] (env' := [(27, .val (.iface 185 (.pointer (some (E i.toNat))))), (26, .val (.iface 185 (.pointer (some (E g))))), (4, .val (.int .i64 i)), (0, .val (.iface 185 (.pointer (some (E g))))), (19, .val (.slice (some ⟨B4, 0, none⟩) 10 10)), (20, .val (.int .i64 10)), (21, .val (.int .i64 i))]) (ob := []) (fun B => by as_aux_lemma => kernel_rfl) rfl An ?_
    clear hf; intro a hf
    refine sxcall hf rfl rfl rfl rfl (g := 57) (vs := [.iface 185 (.pointer (some (E g))), .iface 185 (.pointer (some (E i.toNat)))]) (ob := []) (by as_aux_lemma => kernel_rfl) An enters57 (Is_any E g i.toNat w2  (in10 (by omega)) (in10 (by omega)) (hG.keep hk0 (fun _ h => h))) ?_
    clear hf; rintro _ w3 a ⟨rfl, hk⟩ hf
    have hM := hM.keepNn hk
    have hk0 := hk0.trans hk.nn
    clear hk
    refine wpList_nil ?_
    refine hK11 _ _ ?_
    refine sxcond hf (b := (g == i.toNat)) (by kernel_rfl) (fun hc3 => ?_) (fun hc3 => ?_)
    · have hc3r := hc3
      try simp only [Bool.or_eq_true, Bool.and_eq_true, Bool.not_eq_true', Bool.not_eq_false', Bool.or_eq_false_iff, Bool.and_eq_false_iff, decide_eq_true_eq, decide_eq_false_iff_not, beq_iff_eq, bne_iff_ne, beq_eq_false_iff_ne, bne_eq_false_iff_eq, Bool.and_true, Bool.true_and, ne_eq] at hc3
      refine wp_seq_k (fun K12 hK12 => ?_)
      refine wp_region_lit ?_
      refine sr0 hf hM [2] [{}, { hint := some (.int .i64 (i + 1)) }, {}] (env' := [(2, .val (.int .i64 (i + 1)))]) (ob := [(.int .i64 (IntKind.i64.wrap (i + 1)) : Value) = (.int .i64 (i + 1) : Value)]) (fun B => by as_aux_lemma => kernel_rfl) rfl (Ao (wr (by omega))) ?_
      clear hf; intro a hf
      refine wpList_nil ?_
      refine hK12 _ _ ?_
      refine wp_ret ?_
      refine sxret (fn := Tryd.f17) hf hM [] (l := [.int .i64 (i + 1)]) (M' := [⟨B4, 31, [.iface 185 (.pointer (some (E 0))), .iface 185 (.pointer (some (E 1))), .iface 185 (.pointer (some (E 2))), .iface 185 (.pointer (some (E 3))), .iface 185 (.pointer (some (E 4))), .iface 185 (.pointer (some (E 5))), .iface 185 (.pointer (some (E 6))), .iface 185 (.pointer (some (E 7))), .iface 185 (.pointer (some (E 8))), .iface 185 (.pointer (some (E 9)))]⟩]) (d' := false) (ob := []) (by kernel_rfl) (fun B => ⟨B, by as_aux_lemma => kernel_rfl⟩) rfl An ?_
      show (.int .i64 (i + 1) : Value) = .int .i64 ((g : Int) + 1) ∧ Keep Nn w w3
      refine ⟨?_, hk0⟩
      congr 1
      omega
    · have hc3r := hc3
      try simp only [Bool.or_eq_true, Bool.and_eq_true, Bool.not_eq_true', Bool.not_eq_false', Bool.or_eq_false_iff, Bool.and_eq_false_iff, decide_eq_true_eq, decide_eq_false_iff_not, beq_iff_eq, bne_iff_ne, beq_eq_false_iff_ne, bne_eq_false_iff_eq, Bool.and_true, Bool.true_and, ne_eq] at hc3
      refine wp_skip ?_
      refine hK9 _ _ ?_
      refine wp_region_lit ?_
      refine sr0 hf hM [21, 0, 19, 20] [{ hint := some (.int .i64 (i + 1)) }, {}] (env' := [(21, .val (.int .i64 (i + 1))), (0, .val (.iface 185 (.pointer (some (E g))))), (19, .val (.slice (some ⟨B4, 0, none⟩) 10 10)), (20, .val (.int .i64 10))]) (ob := [(.int .i64 (IntKind.i64.wrap (i + 1)) : Value) = (.int .i64 (i + 1) : Value)]) (fun B => by as_aux_lemma => kernel_rfl) rfl (Ao (wr (by omega))) ?_
      clear hf; intro a hf
      refine wpList_nil ?_
      have hf := hf.prune [0, 19, 20, 21]
      replace hf : Fr 32 [(0, .val (.iface 185 (.pointer (some (E g))))), (19, .val (.slice (some ⟨B4, 0, none⟩) 10 10)), (20, .val (.int .i64 10)), (21, .val (.int .i64 (i + 1)))] a := hf
      refine hL1 _ _ _ (by omega) ⟨i + 1, rfl, hf.conv (Ac rfl (Ac rfl (Ac rfl (Ao rfl)))), hM, hk0, (by omega)⟩
  · have hc2r := hc2
    try simp only [Bool.or_eq_true, Bool.and_eq_true, Bool.not_eq_true', Bool.not_eq_false', Bool.or_eq_false_iff, Bool.and_eq_false_iff, decide_eq_true_eq, decide_eq_false_iff_not, beq_iff_eq, bne_iff_ne, beq_eq_false_iff_ne, bne_eq_false_iff_eq, Bool.and_true, Bool.true_and, ne_eq] at hc2
    exfalso; omega
end Go.Proofs.YtifcgjnknikjkaaDoor
