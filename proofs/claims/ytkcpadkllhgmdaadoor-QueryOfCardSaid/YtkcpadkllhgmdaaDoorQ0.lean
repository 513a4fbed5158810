/- errors.Is -/
import Derived.Test.YtkcpadkllhgmdaaDoorRows
import Derived.Test.YtkcpadkllhgmdaaDoorXQ
import Derived.Test.YtkcpadkllhgmdaaDoorXp12
import Derived.Test.YtkcpadkllhgmdaaDoorXp6
namespace Go.Proofs.YtkcpadkllhgmdaaDoor
open Go.Px
set_option linter.unusedVariables false
set_option linter.unusedSimpArgs false
theorem enters2 : enters Tryd.prog 2 := ⟨_, Tryd.func2, by kernel_rfl, rfl⟩
theorem enters3 : enters Tryd.prog 3 := ⟨_, Tryd.func3, by kernel_rfl, rfl⟩
theorem enters4 : enters Tryd.prog 4 := ⟨_, Tryd.func4, by kernel_rfl, rfl⟩
theorem enters5 : enters Tryd.prog 5 := ⟨_, Tryd.func5, by kernel_rfl, rfl⟩
theorem enters6 : enters Tryd.prog 6 := ⟨_, Tryd.func6, by kernel_rfl, rfl⟩
theorem enters7 : enters Tryd.prog 7 := ⟨_, Tryd.func7, by kernel_rfl, rfl⟩
theorem enters8 : enters Tryd.prog 8 := ⟨_, Tryd.func8, by kernel_rfl, rfl⟩
theorem enters9 : enters Tryd.prog 9 := ⟨_, Tryd.func9, by kernel_rfl, rfl⟩
theorem enters10 : enters Tryd.prog 10 := ⟨_, Tryd.func10, by kernel_rfl, rfl⟩
theorem enters11 : enters Tryd.prog 11 := ⟨_, Tryd.func11, by kernel_rfl, rfl⟩
theorem enters12 : enters Tryd.prog 12 := ⟨_, Tryd.func12, by kernel_rfl, rfl⟩
theorem enters13 : enters Tryd.prog 13 := ⟨_, Tryd.func13, by kernel_rfl, rfl⟩
theorem enters14 : enters Tryd.prog 14 := ⟨_, Tryd.func14, by kernel_rfl, rfl⟩
theorem enters15 : enters Tryd.prog 15 := ⟨_, Tryd.func15, by kernel_rfl, rfl⟩
theorem enters16 : enters Tryd.prog 16 := ⟨_, Tryd.func16, by kernel_rfl, rfl⟩
theorem enters17 : enters Tryd.prog 17 := ⟨_, Tryd.func17, by kernel_rfl, rfl⟩
theorem enters18 : enters Tryd.prog 18 := ⟨_, Tryd.func18, by kernel_rfl, rfl⟩
theorem enters19 : enters Tryd.prog 19 := ⟨_, Tryd.func19, by kernel_rfl, rfl⟩
theorem enters20 : enters Tryd.prog 20 := ⟨_, Tryd.func20, by kernel_rfl, rfl⟩
theorem enters21 : enters Tryd.prog 21 := ⟨_, Tryd.func21, by kernel_rfl, rfl⟩
theorem enters22 : enters Tryd.prog 22 := ⟨_, Tryd.func22, by kernel_rfl, rfl⟩
theorem enters23 : enters Tryd.prog 23 := ⟨_, Tryd.func23, by kernel_rfl, rfl⟩
theorem enters24 : enters Tryd.prog 24 := ⟨_, Tryd.func24, by kernel_rfl, rfl⟩
theorem enters25 : enters Tryd.prog 25 := ⟨_, Tryd.func25, by kernel_rfl, rfl⟩
theorem enters26 : enters Tryd.prog 26 := ⟨_, Tryd.func26, by kernel_rfl, rfl⟩
theorem enters27 : enters Tryd.prog 27 := ⟨_, Tryd.func27, by kernel_rfl, rfl⟩
theorem enters28 : enters Tryd.prog 28 := ⟨_, Tryd.func28, by kernel_rfl, rfl⟩
theorem enters29 : enters Tryd.prog 29 := ⟨_, Tryd.func29, by kernel_rfl, rfl⟩
theorem enters30 : enters Tryd.prog 30 := ⟨_, Tryd.func30, by kernel_rfl, rfl⟩
theorem enters31 : enters Tryd.prog 31 := ⟨_, Tryd.func31, by kernel_rfl, rfl⟩
theorem enters32 : enters Tryd.prog 32 := ⟨_, Tryd.func32, by kernel_rfl, rfl⟩
theorem enters33 : enters Tryd.prog 33 := ⟨_, Tryd.func33, by kernel_rfl, rfl⟩
theorem enters34 : enters Tryd.prog 34 := ⟨_, Tryd.func34, by kernel_rfl, rfl⟩
theorem enters35 : enters Tryd.prog 35 := ⟨_, Tryd.func35, by kernel_rfl, rfl⟩
theorem enters36 : enters Tryd.prog 36 := ⟨_, Tryd.func36, by kernel_rfl, rfl⟩
theorem enters37 : enters Tryd.prog 37 := ⟨_, Tryd.func37, by kernel_rfl, rfl⟩
theorem enters38 : enters Tryd.prog 38 := ⟨_, Tryd.func38, by kernel_rfl, rfl⟩
theorem enters39 : enters Tryd.prog 39 := ⟨_, Tryd.func39, by kernel_rfl, rfl⟩
theorem enters40 : enters Tryd.prog 40 := ⟨_, Tryd.func40, by kernel_rfl, rfl⟩
theorem enters41 : enters Tryd.prog 41 := ⟨_, Tryd.func41, by kernel_rfl, rfl⟩
theorem enters42 : enters Tryd.prog 42 := ⟨_, Tryd.func42, by kernel_rfl, rfl⟩
theorem enters43 : enters Tryd.prog 43 := ⟨_, Tryd.func43, by kernel_rfl, rfl⟩
theorem enters44 : enters Tryd.prog 44 := ⟨_, Tryd.func44, by kernel_rfl, rfl⟩
theorem enters45 : enters Tryd.prog 45 := ⟨_, Tryd.func45, by kernel_rfl, rfl⟩
theorem enters47 : enters Tryd.prog 47 := ⟨_, Tryd.func47, by kernel_rfl, rfl⟩
theorem enters48 : enters Tryd.prog 48 := ⟨_, Tryd.func48, by kernel_rfl, rfl⟩
theorem enters49 : enters Tryd.prog 49 := ⟨_, Tryd.func49, by kernel_rfl, rfl⟩
theorem enters50 : enters Tryd.prog 50 := ⟨_, Tryd.func50, by kernel_rfl, rfl⟩
theorem enters51 : enters Tryd.prog 51 := ⟨_, Tryd.func51, by kernel_rfl, rfl⟩
theorem enters52 : enters Tryd.prog 52 := ⟨_, Tryd.func52, by kernel_rfl, rfl⟩
theorem enters53 : enters Tryd.prog 53 := ⟨_, Tryd.func53, by kernel_rfl, rfl⟩
theorem enters54 : enters Tryd.prog 54 := ⟨_, Tryd.func54, by kernel_rfl, rfl⟩
theorem enters55 : enters Tryd.prog 55 := ⟨_, Tryd.func55, by kernel_rfl, rfl⟩
theorem enters56 : enters Tryd.prog 56 := ⟨_, Tryd.func56, by kernel_rfl, rfl⟩
theorem enters57 : enters Tryd.prog 57 := ⟨_, Tryd.func57, by kernel_rfl, rfl⟩
theorem enters58 : enters Tryd.prog 58 := ⟨_, Tryd.func58, by kernel_rfl, rfl⟩
theorem enters59 : enters Tryd.prog 59 := ⟨_, Tryd.func59, by kernel_rfl, rfl⟩
theorem enters95 : enters Tryd.prog 95 := ⟨_, Tryd.func95, by kernel_rfl, rfl⟩
theorem enters108 : enters Tryd.prog 108 := ⟨_, Tryd.func108, by kernel_rfl, rfl⟩

theorem esComp : (Tryd.prog.info? 115).map (·.comparable) = some true := by kernel_rfl
theorem esSize : (Tryd.prog.info? 142).map (·.size) = some 1 := by kernel_rfl
theorem isTypeOf (v : Value) (w : World) : (Extern.ReflectliteType.typeOf #[.iface 115 v]).run Tryd.prog w = .ok (.iface 102 (.agg #[.pointer (some ⟨10, 115, none⟩)])) w := by kernel_rfl
theorem isComparable (w : World) : ((Extern.ReflectliteType.method fun t => do Extern.Rtype.noPackHeld "Comparable" t; pure (.bool (← typeInfo t).comparable)) #[.agg #[.pointer (some ⟨10, 115, none⟩)]]).run Tryd.prog w = .ok (.bool true) w := by kernel_rfl
theorem isMethod (v : Value) (w : World) : (Go.method (Tryd.prog.types.size + Made.depth) 102 v "Comparable").run Tryd.prog w = .ok (80, v) w := by kernel_rfl
theorem callTypeOf (v : Value) (w : World) : (callFunc 46 #[.iface 115 v]).run Tryd.prog w = .ok (.value (.iface 102 (.agg #[.pointer (some ⟨10, 115, none⟩)]))) w := by
  rw [@run_callFunc_extern Tryd.prog 46 _ Extern.ReflectliteType.typeOf Tryd.func46 (by kernel_rfl) (by kernel_rfl) (by kernel_rfl) (by kernel_rfl), isTypeOf]
  rfl
theorem callComparable (w : World) : (callFunc 80 #[.agg #[.pointer (some ⟨10, 115, none⟩)]]).run Tryd.prog w = .ok (.value (.bool true)) w := by
  rw [@run_callFunc_extern Tryd.prog 80 _ (Extern.ReflectliteType.method fun t => do Extern.Rtype.noPackHeld "Comparable" t; pure (.bool (← typeInfo t).comparable)) Tryd.func80 (by kernel_rfl) (by kernel_rfl) (by kernel_rfl) (by kernel_rfl)]
  rw [isComparable]
  rfl
theorem esLacks104 (v : Value) (w : World) : (Instr.typeAssert (.iface 115 v) 31 104 true).run Tryd.prog w = .ok (.tuple #[.nilIface, .bool false]) w := run_assert_lacks Tryd.underlying104 (by kernel_rfl) (by kernel_rfl) v w
theorem esLacks107 (v : Value) (w : World) : (Instr.typeAssert (.iface 115 v) 31 107 true).run Tryd.prog w = .ok (.tuple #[.nilIface, .bool false]) w := run_assert_lacks Tryd.underlying107 (by kernel_rfl) (by kernel_rfl) v w
theorem esLacks109 (v : Value) (w : World) : (Instr.typeAssert (.iface 115 v) 31 109 true).run Tryd.prog w = .ok (.tuple #[.nilIface, .bool false]) w := run_assert_lacks Tryd.underlying109 (by kernel_rfl) (by kernel_rfl) v w
theorem eqlErrs {L : List Nat} {w : World} {E : Nat → Addr} (hG : Errs L w 115 E) {g h : Nat} (hg : L.contains g = true) (hh : L.contains h = true) : (Go.binOp .eql 31 (.iface 115 (.pointer (some (E g)))) (.iface 115 (.pointer (some (E h))))).run Tryd.prog w = .ok (.bool (g == h)) w := by
  obtain ⟨i, hi, hcmp⟩ := Option.map_eq_some_iff.1 esComp
  obtain ⟨j, hj, hjs⟩ := Option.map_eq_some_iff.1 esSize
  by_cases e : g = h
  · subst e
    rw [run_eql_iface_ptr_same (P := Tryd.prog) w (E g) Tryd.underlying31 Tryd.underlying115 hi hcmp hj]
    simp
  · obtain ⟨ca, ta, ha⟩ := hG.blk g hg
    obtain ⟨cb, tb, hb⟩ := hG.blk h hh
    rw [run_eql_iface_ptr_other (P := Tryd.prog) w Tryd.underlying31 Tryd.underlying115 hi hcmp hj (by rw [hjs]; decide) (fun h1 => e (hG.inj _ _ hg hh h1)) ha hb]
    simp [e]

set_option maxRecDepth 10000 in
set_option maxHeartbeats 1600000 in
theorem is_any (E : Nat → Addr) (g h : Nat) (w : World) (hg : ([0, 1, 2, 3, 4, 5, 6, 7, 8, 9] : List Nat).contains g = true) (hh : ([0, 1, 2, 3, 4, 5, 6, 7, 8, 9] : List Nat).contains h = true) (hG : Errs [0, 1, 2, 3, 4, 5, 6, 7, 8, 9] w 115 E) :
    Calls Tryd.prog 47 #[.iface 115 (.pointer (some (E g))), .iface 115 (.pointer (some (E h))), bV true] w (Ret fun v w' => v = .bool (g == h) ∧ Keep Nn w w') := by
 refine sxenter (n := 54) (args := [.iface 115 (.pointer (some (E g))), .iface 115 (.pointer (some (E h))), bV true]) Tryd.func47 rfl rfl rfl fun a hf => ?_
 replace hf : Fr 54 [(0, .val (.iface 115 (.pointer (some (E g))))), (1, .val (.iface 115 (.pointer (some (E h))))), (2, eB true)] a := hf
 have hM : MemOk [] w := MemOk.nil w
 have hk0 : Keep Nn w w := Keep.refl _ _
 refine wp_seq_k (fun K1 hK1 => ?_)
 refine wp_region_lit ?_
 refine q0 hf hM [0, 1, 2] [{}] (nw := []) An ?_
 clear hf; intro a hf
 refine wpList_nil ?_
 refine hK1 _ _ ?_
 refine wp_block ?_
 have hf := (hf.prune [0, 1, 2]).to (env' := [(0, .val (.iface 115 (.pointer (some (E g))))), (1, .val (.iface 115 (.pointer (some (E h))))), (2, eB true)]) (by kernel_rfl)
 refine sxloop (fun zm a w1 => zm = 0 ∧ Fr 54 [(0, .val (.iface 115 (.pointer (some (E g))))), (1, .val (.iface 115 (.pointer (some (E h))))), (2, eB true)] a ∧ MemOk [] w1 ∧ Keep Nn w w1) _ ⟨rfl, hf.conv (Ac rfl (Ac rfl (Ao rfl))), hM, hk0⟩ ?_
 clear hf hM hk0
 rintro _ a w1 ⟨rfl, hf, hM, hk0⟩ L1 hL1
 refine wp_block ?_
 refine wp_seq_k (fun K2 hK2 => ?_)
 refine wp_seq_k (fun K3 hK3 => ?_)
 refine wp_region_lit ?_
 refine q0 hf hM [0, 1, 2] [{}, {}, {}, {}] (nw := [(17, .val (.iface 115 (.pointer (some (E h))))), (16, .val (.iface 115 (.pointer (some (E g))))), (15, eB true)]) (ob := [true = true, true = true]) (Ac rfl (Ao rfl)) ?_
 clear hf; intro a hf
 refine sxvalg hf rfl rfl rfl rfl rfl (v := bV (g == h)) (ob := []) (by kernel_rfl) An (ox_eql rfl rfl rfl (eqlErrs (hG.keep hk0 (fun _ h => h)) hg hh)) ?_
 clear hf; intro a hf
 refine q0 hf hM [18, 17, 16, 0, 1, 2] [{}] (nw := [(19, eB (g == h))]) An ?_
 clear hf; intro a hf
 refine wpList_nil ?_
 refine hK3 _ _ ?_
 refine qc hf (b := (g == h)) (fun hc1r => ?_) (fun hc1r => ?_)
 · have hc1 := hc1r
   try simp only [Bool.or_eq_true, Bool.and_eq_true, Bool.not_eq_true', Bool.not_eq_false', Bool.or_eq_false_iff, Bool.and_eq_false_iff, decide_eq_true_eq, decide_eq_false_iff_not, beq_iff_eq, bne_iff_ne, beq_eq_false_iff_ne, bne_eq_false_iff_eq, Bool.and_true, Bool.true_and, ne_eq] at hc1
   refine wp_seq_k (fun K4 hK4 => ?_)
   refine wp_region_lit ?_
   refine q0 hf hM [] [{}] (nw := [(6, eB true)]) An ?_
   clear hf; intro a hf
   refine wpList_nil ?_
   refine hK4 _ _ ?_
   refine wp_ret ?_
   refine qr (fn := Tryd.f47) hf hM [] (l := [bV true]) (ob := []) An ?_
   show (bV true : Value) = .bool (g == h) ∧ Keep Nn w w1
   refine ⟨?_, hk0⟩
   simp_all
 · have hc1 := hc1r
   try simp only [Bool.or_eq_true, Bool.and_eq_true, Bool.not_eq_true', Bool.not_eq_false', Bool.or_eq_false_iff, Bool.and_eq_false_iff, decide_eq_true_eq, decide_eq_false_iff_not, beq_iff_eq, bne_iff_ne, beq_eq_false_iff_ne, bne_eq_false_iff_eq, Bool.and_true, Bool.true_and, ne_eq] at hc1
   refine wp_skip ?_
   refine hK2 _ _ ?_
   refine wp_seq_k (fun K5 hK5 => ?_)
   refine wp_seq_k (fun K6 hK6 => ?_)
   refine wp_region_lit ?_
   refine q0 hf hM [18, 17, 16, 0, 1, 2] [{}] (nw := [(21, .val (.iface 115 (.pointer (some (E g)))))]) An ?_
   clear hf; intro a hf
   refine sxval hf rfl rfl rfl rfl (v := .tuple #[.nilIface, bV false]) (ob := []) (by kernel_rfl) An (ox_assert rfl rfl (esLacks104 _ _)) ?_
   clear hf; intro a hf
   refine q0 hf hM [18, 17, 16, 0, 1, 2] [{}, {}, {}, {}, {}] (nw := [(8, eB false), (7, .val (.nilIface))]) An ?_
   clear hf; intro a hf
   refine wpList_nil ?_
   refine hK6 _ _ ?_
   refine wp_seq_k (fun K7 hK7 => ?_)
   refine wp_region_lit ?_
   refine q0 hf hM [18, 17, 16, 0, 1, 2] [{}, {}, { g := .off }, { g := .off }] (nw := [(28, .val (undef)), (27, .val (undef)), (26, eB false)]) (ob := [false = !true, false = !true]) (Ac rfl (Ao rfl)) ?_
   clear hf; intro a hf
   refine q0 hf hM [28, 27, 18, 17, 16, 0, 1, 2] [{ g := .off }, {}] (nw := [(30, eB false), (29, .val (undef))]) (ob := [false = !true]) (Ao rfl) ?_
   clear hf; intro a hf
   refine wpList_nil ?_
   refine hK7 _ _ ?_
   refine sxcond hf (b := false) (by kernel_rfl) (fun h => by cases h) (fun _ => ?_)
   refine wp_skip ?_
   refine hK5 _ _ ?_
   refine wp_seq_k (fun K8 hK8 => ?_)
   refine wp_region_lit ?_
   refine q0 hf hM [29, 28, 27, 18, 17, 16, 1, 2] [{}] (nw := [(31, .val (.iface 115 (.pointer (some (E g)))))]) An ?_
   clear hf; intro a hf
   refine wpList_nil ?_
   refine hK8 _ _ ?_
   refine wp_block ?_
   refine wp_seq_k (fun K9 hK9 => ?_)
   refine wp_region_lit ?_
   refine sxval hf rfl rfl rfl rfl (v := .tuple #[.nilIface, bV false]) (ob := []) (by kernel_rfl) An (ox_assert rfl rfl (esLacks107 _ _)) ?_
   clear hf; intro a hf
   refine q0 hf hM [31, 29, 28, 27, 18, 17, 16, 1, 2] [{}, {}] (nw := [(34, .val (.nilIface)), (33, eB false)]) An ?_
   clear hf; intro a hf
   refine wpList_nil ?_
   refine hK9 _ _ ?_
   refine sxcond hf (b := false) (by kernel_rfl) (fun h => by cases h) (fun _ => ?_)
   refine wp_seq_k (fun K10 hK10 => ?_)
   refine wp_region_lit ?_
   refine sxval hf rfl rfl rfl rfl (v := .tuple #[.nilIface, bV false]) (ob := []) (by kernel_rfl) An (ox_assert rfl rfl (esLacks109 _ _)) ?_
   clear hf; intro a hf
   refine q0 hf hM [31, 1, 2] [{}, {}] (nw := [(41, .val (.nilIface)), (40, eB false)]) An ?_
   clear hf; intro a hf
   refine wpList_nil ?_
   refine hK10 _ _ ?_
   refine sxcond hf (b := false) (by kernel_rfl) (fun h => by cases h) (fun _ => ?_)
   refine wp_seq_k (fun K11 hK11 => ?_)
   refine wp_region_lit ?_
   refine q0 hf hM [] [{}] (nw := []) An ?_
   clear hf; intro a hf
   refine wpList_nil ?_
   refine hK11 _ _ ?_
   refine wp_seq_k (fun K12 hK12 => ?_)
   refine wp_region_lit ?_
   refine q0 hf hM [] [{}] (nw := [(6, eB false)]) An ?_
   clear hf; intro a hf
   refine wpList_nil ?_
   refine hK12 _ _ ?_
   refine wp_ret ?_
   refine qr (fn := Tryd.f47) hf hM [] (l := [bV false]) (ob := []) An ?_
   show (bV false : Value) = .bool (g == h) ∧ Keep Nn w w1
   refine ⟨?_, hk0⟩
   simp_all

set_option maxRecDepth 10000 in
set_option maxHeartbeats 1600000 in
theorem Is_any (E : Nat → Addr) (g h : Nat) (w : World) (hg : ([0, 1, 2, 3, 4, 5, 6, 7, 8, 9] : List Nat).contains g = true) (hh : ([0, 1, 2, 3, 4, 5, 6, 7, 8, 9] : List Nat).contains h = true) (hG : Errs [0, 1, 2, 3, 4, 5, 6, 7, 8, 9] w 115 E) :
    Calls Tryd.prog 26 #[.iface 115 (.pointer (some (E g))), .iface 115 (.pointer (some (E h)))] w (Ret fun v w' => v = .bool (g == h) ∧ Keep Nn w w') := by
 refine sxenter (n := 22) (args := [.iface 115 (.pointer (some (E g))), .iface 115 (.pointer (some (E h)))]) Tryd.func26 rfl rfl rfl fun a hf => ?_
 replace hf : Fr 22 [(0, .val (.iface 115 (.pointer (some (E g))))), (1, .val (.iface 115 (.pointer (some (E h)))))] a := hf
 have hM : MemOk [] w := MemOk.nil w
 have hk0 : Keep Nn w w := Keep.refl _ _
 refine wp_seq_k (fun K1 hK1 => ?_)
 refine wp_region_lit ?_
 refine q0 hf hM [0, 1] [{}] (nw := []) An ?_
 clear hf; intro a hf
 refine wpList_nil ?_
 refine hK1 _ _ ?_
 refine wp_seq_k (fun K2 hK2 => ?_)
 refine wp_seq_k (fun K3 hK3 => ?_)
 refine wp_region_lit ?_
 refine q0 hf hM [0, 1] [{}, {}, {}, {}, {}, {}] (nw := [(11, eB false)]) (ob := [false = false, false = false]) (Ac rfl (Ao rfl)) ?_
 clear hf; intro a hf
 refine wpList_nil ?_
 refine hK3 _ _ ?_
 refine sxcond hf (b := false) (by kernel_rfl) (fun h => by cases h) (fun _ => ?_)
 refine wp_skip ?_
 refine hK2 _ _ ?_
 refine wp_seq_k (fun K4 hK4 => ?_)
 refine wp_region_lit ?_
 refine q0 hf hM [0, 1] [{}] (nw := [(15, .val (.iface 115 (.pointer (some (E h)))))]) An ?_
 clear hf; intro a hf
 refine sxval hf rfl rfl rfl rfl (v := .iface 102 (.agg #[pV 10 115])) (ob := []) (by kernel_rfl) An (ox_callx rfl rfl rfl rfl (callTypeOf _ _)) ?_
 clear hf; intro a hf
 refine sxval hf rfl rfl rfl rfl (v := bV true) (ob := []) (by kernel_rfl) An (ox_invoke rfl rfl rfl rfl (isMethod _ _) (callComparable _)) ?_
 clear hf; intro a hf
 refine q0 hf hM [0, 1] [{}] (nw := [(5, eB true)]) An ?_
 clear hf; intro a hf
 refine wpList_nil ?_
 refine hK4 _ _ ?_
 refine wp_seq_k (fun K5 hK5 => ?_)
 refine wp_region_lit ?_
 refine q0 hf hM [] [{}, {}, {}] (nw := [(20, eB true), (19, .val (.iface 115 (.pointer (some (E h))))), (18, .val (.iface 115 (.pointer (some (E g)))))]) An ?_
 clear hf; intro a hf
 refine sxcall hf rfl rfl rfl rfl (g := 47) (vs := [.iface 115 (.pointer (some (E g))), .iface 115 (.pointer (some (E h))), bV true]) (ob := []) (by as_aux_lemma => kernel_rfl) An enters47 (is_any E g h w  hg hh (hG.keep hk0 (fun _ h => h))) ?_
 clear hf; rintro _ w1 a ⟨rfl, hk⟩ hf
 have hM := hM.keepNn hk
 have hk0 := hk0.trans hk.nn
 clear hk
 refine q0 hf hM [] [{}] (nw := [(4, eB (g == h))]) An ?_
 clear hf; intro a hf
 refine wpList_nil ?_
 refine hK5 _ _ ?_
 refine wp_ret ?_
 refine qr (fn := Tryd.f26) hf hM [] (l := [bV (g == h)]) (ob := []) An ?_
 show (bV (g == h) : Value) = .bool (g == h) ∧ Keep Nn w w1
 exact ⟨rfl, hk0⟩

set_option maxRecDepth 10000 in
set_option maxHeartbeats 1600000 in
theorem Is_nil (v : Value) (w : World) :
    Calls Tryd.prog 26 #[.nilIface, .iface 115 v] w (Ret fun v w' => v = .bool false ∧ Keep Nn w w') := by
 refine sxenter (n := 22) (args := [.nilIface, .iface 115 v]) Tryd.func26 rfl rfl rfl fun a hf => ?_
 replace hf : Fr 22 [(0, .val (.nilIface)), (1, .val (.iface 115 v))] a := hf
 have hM : MemOk [] w := MemOk.nil w
 have hk0 : Keep Nn w w := Keep.refl _ _
 refine wp_seq_k (fun K1 hK1 => ?_)
 refine wp_region_lit ?_
 refine q0 hf hM [0, 1] [{}] (nw := []) An ?_
 clear hf; intro a hf
 refine wpList_nil ?_
 refine hK1 _ _ ?_
 refine wp_seq_k (fun K2 hK2 => ?_)
 refine wp_seq_k (fun K3 hK3 => ?_)
 refine wp_region_lit ?_
 refine q0 hf hM [0, 1] [{}, {}, {}, { g := .off }, { g := .off }, {}] (nw := [(11, eB true)]) (ob := [true = !false, true = !false]) (Ac rfl (Ao rfl)) ?_
 clear hf; intro a hf
 refine wpList_nil ?_
 refine hK3 _ _ ?_
 refine sxcond hf (b := true) (by kernel_rfl) (fun _ => ?_) (fun h => by cases h)
 refine wp_seq_k (fun K4 hK4 => ?_)
 refine wp_region_lit ?_
 refine q0 hf hM [] [{}, {}, {}, {}] (nw := [(4, eB false)]) An ?_
 clear hf; intro a hf
 refine wpList_nil ?_
 refine hK4 _ _ ?_
 refine wp_ret ?_
 refine qr (fn := Tryd.f26) hf hM [] (l := [bV false]) (ob := []) An ?_
 show (bV false : Value) = .bool false ∧ Keep Nn w w
 exact ⟨rfl, hk0⟩

theorem errs_at {E : Nat → Addr} {M : Mem} {w : World} {B t : Nat} (h : MemOk M w) (hb : ⟨B, t, [.iface 115 (.pointer (some (E 0))), .iface 115 (.pointer (some (E 1))), .iface 115 (.pointer (some (E 2))), .iface 115 (.pointer (some (E 3))), .iface 115 (.pointer (some (E 4))), .iface 115 (.pointer (some (E 5))), .iface 115 (.pointer (some (E 6))), .iface 115 (.pointer (some (E 7))), .iface 115 (.pointer (some (E 8))), .iface 115 (.pointer (some (E 9)))]⟩ ∈ M) {i : Nat} (hi : i < 10) : w.cell? ⟨B, i, none⟩ = some (.iface 115 (.pointer (some (E i)))) := by
  have := h.at_ _ hb
  simp only [World.cell?, this]
  rcases (by omega : i = 0 ∨ i = 1 ∨ i = 2 ∨ i = 3 ∨ i = 4 ∨ i = 5 ∨ i = 6 ∨ i = 7 ∨ i = 8 ∨ i = 9) with rfl | rfl | rfl | rfl | rfl | rfl | rfl | rfl | rfl | rfl <;> rfl

set_option maxRecDepth 10000 in
set_option maxHeartbeats 1600000 in
theorem num_nil (w : World) :
    Calls Tryd.prog 11 #[.nilIface] w (Ret fun v w' => v = .int .i64 0 ∧ Keep Nn w w') := by
 refine sxenter (n := 32) (args := [.nilIface]) Tryd.func11 rfl rfl rfl fun a hf => ?_
 replace hf : Fr 32 [(0, .val (.nilIface))] a := hf
 have hM : MemOk [] w := MemOk.nil w
 have hk0 : Keep Nn w w := Keep.refl _ _
 refine wp_seq_k (fun K1 hK1 => ?_)
 refine wp_region_lit ?_
 refine q0 hf hM [0] [{}] (nw := []) An ?_
 clear hf; intro a hf
 refine wpList_nil ?_
 refine hK1 _ _ ?_
 refine wp_seq_k (fun K2 hK2 => ?_)
 refine wp_seq_k (fun K3 hK3 => ?_)
 refine wp_region_lit ?_
 refine q0 hf hM [0] [{}, {}] (nw := [(7, eB true)]) An ?_
 clear hf; intro a hf
 refine wpList_nil ?_
 refine hK3 _ _ ?_
 refine sxcond hf (b := true) (by kernel_rfl) (fun _ => ?_) (fun h => by cases h)
 refine wp_seq_k (fun K4 hK4 => ?_)
 refine wp_region_lit ?_
 refine q0 hf hM [] [{}] (nw := [(2, eI 0)]) An ?_
 clear hf; intro a hf
 refine wpList_nil ?_
 refine hK4 _ _ ?_
 refine wp_ret ?_
 refine qr (fn := Tryd.f11) hf hM [] (l := [iV 0]) (ob := []) An ?_
 show (iV 0 : Value) = .int .i64 0 ∧ Keep Nn w w
 exact ⟨rfl, hk0⟩

set_option maxRecDepth 10000 in
set_option maxHeartbeats 1600000 in
theorem num_err (E : Nat → Addr) (g : Nat) (w : World) (hg : g < 10) (hG : Errs [0, 1, 2, 3, 4, 5, 6, 7, 8, 9] w 115 E) :
    Calls Tryd.prog 11 #[.iface 115 (.pointer (some (E g)))] w (Ret fun v w' => v = .int .i64 ((g : Int) + 1) ∧ Keep Nn w w') := by
 refine sxenter (n := 32) (args := [.iface 115 (.pointer (some (E g)))]) Tryd.func11 rfl rfl rfl fun a hf => ?_
 replace hf : Fr 32 [(0, .val (.iface 115 (.pointer (some (E g)))))] a := hf
 have hM : MemOk [] w := MemOk.nil w
 have hk0 : Keep Nn w w := Keep.refl _ _
 refine wp_seq_k (fun K1 hK1 => ?_)
 refine wp_region_lit ?_
 refine q0 hf hM [0] [{}] (nw := []) An ?_
 clear hf; intro a hf
 refine wpList_nil ?_
 refine hK1 _ _ ?_
 refine wp_seq_k (fun K2 hK2 => ?_)
 refine wp_seq_k (fun K3 hK3 => ?_)
 refine wp_region_lit ?_
 refine q0 hf hM [0] [{}, {}] (nw := [(7, eB false)]) An ?_
 clear hf; intro a hf
 refine wpList_nil ?_
 refine hK3 _ _ ?_
 refine sxcond hf (b := false) (by kernel_rfl) (fun h => by cases h) (fun _ => ?_)
 refine wp_skip ?_
 refine hK2 _ _ ?_
 refine wp_seq_k (fun K4 hK4 => ?_)
 refine wp_region_lit ?_
 refine q0 hf hM [0] [{ os := [.ex (.iface 115 (.pointer (some (E 0))))] }, { os := [.ex (.iface 115 (.pointer (some (E 1))))] }, { os := [.ex (.iface 115 (.pointer (some (E 2))))] }, { os := [.ex (.iface 115 (.pointer (some (E 3))))] }, { os := [.ex (.iface 115 (.pointer (some (E 4))))] }, { os := [.ex (.iface 115 (.pointer (some (E 5))))] }, { os := [.ex (.iface 115 (.pointer (some (E 6))))] }, { os := [.ex (.iface 115 (.pointer (some (E 7))))] }, { os := [.ex (.iface 115 (.pointer (some (E 8))))] }, { os := [.ex (.iface 115 (.pointer (some (E 9))))] }] (nw := [(17, .val (.iface 115 (.pointer (some (E 9))))), (16, .val (.iface 115 (.pointer (some (E 8))))), (15, .val (.iface 115 (.pointer (some (E 7))))), (14, .val (.iface 115 (.pointer (some (E 6))))), (13, .val (.iface 115 (.pointer (some (E 5))))), (12, .val (.iface 115 (.pointer (some (E 4))))), (11, .val (.iface 115 (.pointer (some (E 3))))), (10, .val (.iface 115 (.pointer (some (E 2))))), (9, .val (.iface 115 (.pointer (some (E 1))))), (8, .val (.iface 115 (.pointer (some (E 0)))))]) (ob := [w.cell? ⟨0, 0, none⟩ = some (.iface 115 (.pointer (some (E 0)))), w.cell? ⟨1, 0, none⟩ = some (.iface 115 (.pointer (some (E 1)))), w.cell? ⟨2, 0, none⟩ = some (.iface 115 (.pointer (some (E 2)))), w.cell? ⟨3, 0, none⟩ = some (.iface 115 (.pointer (some (E 3)))), w.cell? ⟨4, 0, none⟩ = some (.iface 115 (.pointer (some (E 4)))), w.cell? ⟨5, 0, none⟩ = some (.iface 115 (.pointer (some (E 5)))), w.cell? ⟨6, 0, none⟩ = some (.iface 115 (.pointer (some (E 6)))), w.cell? ⟨7, 0, none⟩ = some (.iface 115 (.pointer (some (E 7)))), w.cell? ⟨8, 0, none⟩ = some (.iface 115 (.pointer (some (E 8)))), w.cell? ⟨9, 0, none⟩ = some (.iface 115 (.pointer (some (E 9))))]) (Ac (hk0.cell (hG.cell 0 (by decide)) (fun h => h)) (Ac (hk0.cell (hG.cell 1 (by decide)) (fun h => h)) (Ac (hk0.cell (hG.cell 2 (by decide)) (fun h => h)) (Ac (hk0.cell (hG.cell 3 (by decide)) (fun h => h)) (Ac (hk0.cell (hG.cell 4 (by decide)) (fun h => h)) (Ac (hk0.cell (hG.cell 5 (by decide)) (fun h => h)) (Ac (hk0.cell (hG.cell 6 (by decide)) (fun h => h)) (Ac (hk0.cell (hG.cell 7 (by decide)) (fun h => h)) (Ac (hk0.cell (hG.cell 8 (by decide)) (fun h => h)) (Ao (hk0.cell (hG.cell 9 (by decide)) (fun h => h)))))))))))) ?_
 clear hf; intro a hf
 refine sxbslice hf hM (t := 70) (e := 31) (len := 10) (cs := [.iface 115 (.pointer (some (E 0))), .iface 115 (.pointer (some (E 1))), .iface 115 (.pointer (some (E 2))), .iface 115 (.pointer (some (E 3))), .iface 115 (.pointer (some (E 4))), .iface 115 (.pointer (some (E 5))), .iface 115 (.pointer (some (E 6))), .iface 115 (.pointer (some (E 7))), .iface 115 (.pointer (some (E 8))), .iface 115 (.pointer (some (E 9)))]) (ob := []) rfl rfl rfl rfl (by as_aux_lemma => kernel_rfl) An (by as_aux_lemma => kernel_rfl) ?_
 clear hf hM; intro a w1 B4 hf hM hB hk
 replace hM : MemOk [⟨B4, 31, [.iface 115 (.pointer (some (E 0))), .iface 115 (.pointer (some (E 1))), .iface 115 (.pointer (some (E 2))), .iface 115 (.pointer (some (E 3))), .iface 115 (.pointer (some (E 4))), .iface 115 (.pointer (some (E 5))), .iface 115 (.pointer (some (E 6))), .iface 115 (.pointer (some (E 7))), .iface 115 (.pointer (some (E 8))), .iface 115 (.pointer (some (E 9)))]⟩] w1 := hM
 have hbB4 : w.heap.size ≤ B4 := by have := hk0.size; omega
 have hk0 := hk0.trans hk.nn
 clear hk hB
 refine q0 hf hM [0] [{}] (nw := [(3, eS (some ⟨B4, 0, none⟩) 10 10)]) An ?_
 clear hf; intro a hf
 refine wpList_nil ?_
 refine hK4 _ _ ?_
 refine wp_seq_k (fun K5 hK5 => ?_)
 refine wp_seq_k (fun K6 hK6 => ?_)
 refine wp_region_lit ?_
 refine q0 hf hM [0] [{}, {}, {}] (nw := [(21, eI 0), (20, eI 10), (19, eS (some ⟨B4, 0, none⟩) 10 10)]) An ?_
 clear hf; intro a hf
 refine wpList_nil ?_
 refine hK6 _ _ ?_
 refine wp_block ?_
 have hf := (hf.prune [0, 19, 20, 21]).to (env' := [(0, .val (.iface 115 (.pointer (some (E g))))), (19, eS (some ⟨B4, 0, none⟩) 10 10), (20, eI 10), (21, eI 0)]) (by kernel_rfl)
 refine sxloop (fun zm a w1 => ∃ (i : Int), zm = ((g : Int) - i).toNat ∧ Fr 32 [(0, .val (.iface 115 (.pointer (some (E g))))), (19, eS (some ⟨B4, 0, none⟩) 10 10), (20, eI 10), (21, eI i)] a ∧ MemOk [⟨B4, 31, [.iface 115 (.pointer (some (E 0))), .iface 115 (.pointer (some (E 1))), .iface 115 (.pointer (some (E 2))), .iface 115 (.pointer (some (E 3))), .iface 115 (.pointer (some (E 4))), .iface 115 (.pointer (some (E 5))), .iface 115 (.pointer (some (E 6))), .iface 115 (.pointer (some (E 7))), .iface 115 (.pointer (some (E 8))), .iface 115 (.pointer (some (E 9)))]⟩] w1 ∧ Keep Nn w w1 ∧ (0 ≤ i ∧ i ≤ (g : Int))) _ ⟨0, rfl, hf.conv (Ac rfl (Ac rfl (Ac rfl (Ao rfl)))), hM, hk0, (by omega)⟩ ?_
 clear hf hM hk0
 rintro _ a w2 ⟨i, rfl, hf, hM, hk0, hi⟩ L1 hL1
 refine wp_seq_k (fun K7 hK7 => ?_)
 refine wp_region_lit ?_
 refine q0 hf hM [0, 19, 20, 21] [{}] (nw := [(22, eB (decide ((i : Int) < 10)))]) An ?_
 clear hf; intro a hf
 refine wpList_nil ?_
 refine hK7 _ _ ?_
 refine wp_seq_k (fun K8 hK8 => ?_)
 refine qc hf (b := (decide ((i : Int) < 10))) (fun hc2r => ?_) (fun hc2r => ?_)
 · have hc2 := (nT hc2r)
   refine wp_skip ?_
   refine hK8 _ _ ?_
   refine wp_seq_k (fun K9 hK9 => ?_)
   refine wp_block ?_
   refine wp_seq_k (fun K10 hK10 => ?_)
   refine wp_region_lit ?_
   refine q0 hf hM [0, 19, 20, 21] [{}, { sp := true, hint := some (pV B4 i.toNat) }, { os := [.ex (.iface 115 (.pointer (some (E i.toNat))))] }, {}, {}] (nw := [(5, .val (.iface 115 (.pointer (some (E i.toNat))))), (4, eI i)]) (ob := [(0 : Int) ≤ i ∧ i < (10 : Int), (some ⟨B4, 0, none⟩ : Option Addr).isSome = true, (.pointer (some ((sa (some ⟨B4, 0, none⟩) : Addr).add (i.toNat * 1))) : Value) = (pV B4 i.toNat : Value), w2.cell? ⟨B4, i.toNat, none⟩ = some (.iface 115 (.pointer (some (E i.toNat))))]) (Ac (by first | omega | (simp; done)) (Ac rfl (Ac (ixa (by omega)) (Ao (errs_at (B := B4) (t := 31) hM (by simp) (by omega)))))) ?_
   clear hf; intro a hf
   refine wpList_nil ?_
   refine hK10 _ _ ?_
   refine wp_seq_k (fun K11 hK11 => ?_)
   refine wp_region_lit ?_
   refine q0 hf hM [4, 0, 19, 20, 21] [{}, {}] (nw := [(27, .val (.iface 115 (.pointer (some (E i.toNat))))), (26, .val (.iface 115 (.pointer (some (E g)))))]) An ?_
   clear hf; intro a hf
   refine sxcall hf rfl rfl rfl rfl (g := 26) (vs := [.iface 115 (.pointer (some (E g))), .iface 115 (.pointer (some (E i.toNat)))]) (ob := []) (by as_aux_lemma => kernel_rfl) An enters26 (Is_any E g i.toNat w2  (in10 (by omega)) (in10 (by omega)) (hG.keep hk0 (fun _ h => h))) ?_
   clear hf; rintro _ w3 a ⟨rfl, hk⟩ hf
   have hM := hM.keepNn hk
   have hk0 := hk0.trans hk.nn
   clear hk
   refine wpList_nil ?_
   refine hK11 _ _ ?_
   refine qc hf (b := (g == i.toNat)) (fun hc3r => ?_) (fun hc3r => ?_)
   · have hc3 := hc3r
     try simp only [Bool.or_eq_true, Bool.and_eq_true, Bool.not_eq_true', Bool.not_eq_false', Bool.or_eq_false_iff, Bool.and_eq_false_iff, decide_eq_true_eq, decide_eq_false_iff_not, beq_iff_eq, bne_iff_ne, beq_eq_false_iff_ne, bne_eq_false_iff_eq, Bool.and_true, Bool.true_and, ne_eq] at hc3
     refine wp_seq_k (fun K12 hK12 => ?_)
     refine wp_region_lit ?_
     refine q0 hf hM [] [{}, { hint := some (iV (i + 1)) }, {}] (nw := [(2, eI (i + 1))]) (ob := [(iV (IntKind.i64.wrap (i + 1)) : Value) = (iV (i + 1) : Value)]) (Ao (wr (by omega))) ?_
     clear hf; intro a hf
     refine wpList_nil ?_
     refine hK12 _ _ ?_
     refine wp_ret ?_
     refine qr (fn := Tryd.f11) hf hM [] (l := [iV (i + 1)]) (ob := []) An ?_
     show (iV (i + 1) : Value) = .int .i64 ((g : Int) + 1) ∧ Keep Nn w w3
     refine ⟨?_, hk0⟩
     congr 1
     omega
   · have hc3 := hc3r
     try simp only [Bool.or_eq_true, Bool.and_eq_true, Bool.not_eq_true', Bool.not_eq_false', Bool.or_eq_false_iff, Bool.and_eq_false_iff, decide_eq_true_eq, decide_eq_false_iff_not, beq_iff_eq, bne_iff_ne, beq_eq_false_iff_ne, bne_eq_false_iff_eq, Bool.and_true, Bool.true_and, ne_eq] at hc3
     refine wp_skip ?_
     refine hK9 _ _ ?_
     refine wp_region_lit ?_
     refine q0 hf hM [0, 19, 20] [{ hint := some (iV (i + 1)) }, {}] (nw := [(21, eI (i + 1))]) (ob := [(iV (IntKind.i64.wrap (i + 1)) : Value) = (iV (i + 1) : Value)]) (Ao (wr (by omega))) ?_
     clear hf; intro a hf
     refine wpList_nil ?_
     have hf := (hf.prune [0, 19, 20, 21]).to (env' := [(0, .val (.iface 115 (.pointer (some (E g))))), (19, eS (some ⟨B4, 0, none⟩) 10 10), (20, eI 10), (21, eI (i + 1))]) (by kernel_rfl)
     refine hL1 _ _ _ (by omega) ⟨i + 1, rfl, hf.conv (Ac rfl (Ac rfl (Ac rfl (Ao rfl)))), hM, hk0, (by omega)⟩
 · have hc2 := (nU hc2r)
   exfalso; omega
end Go.Proofs.YtkcpadkllhgmdaaDoor
