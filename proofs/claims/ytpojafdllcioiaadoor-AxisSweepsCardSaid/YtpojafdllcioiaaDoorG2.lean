/- A part of the proof: texts put together. -/
import Derived.Test.YtpojafdllcioiaaDoorG1
import Derived.Lib.AppendZerosOnto
import Derived.Lib.Overlaps
import Derived.Maps.RangeRun
import Derived.WalkKit
import Derived.ProofKit
import Derived.OpenShut
import Derived.Carry
import Derived.Stop.LaidErr
import Derived.Deep.DeepHandedRow
import Derived.Deep.DeepWitnessRowRef
import Derived.Deep.Slices
/- The walker: 'copy' into a slice of one's own, 'append' of so many zeros to a first part where there is no room, a slice drawn longer within its room, slices.overlaps. Nothing of any one program stands here. -/
namespace Go.Px
set_option linter.unusedVariables false
set_option linter.unusedSimpArgs false
set_option linter.unusedSectionVars false
open Go.RowKit
section
variable {P : Program} {w : World} {base : Nat} {e : TypeId} {sz k c : Nat} {av : Option Addr} {xs : List Value}
theorem putAt_nil0 (A : List Value) (o : Nat) : putAt A o [] = A := by simp [putAt]
theorem min_def' (a b : Nat) : Nat.min a b = if a ≤ b then a else b := Nat.min_def
theorem own_copy (hown : w.ownsRow base e sz (.slice av k c) k xs) {dT sT ty : TypeId} (ht : P.underlying dT = some (.slice e)) (hi : (P.info? e).map (·.size) = some sz) (hsz : 0 < sz) {i : Nat} (hik : i ≤ k) {sv : Option Addr} {m mc : Nat} {news : List Value}
    (hsrc : Arr w sz sv m mc news) (h1 : ∀ u ∈ news.take (Nat.min m (k - i) * sz), u.oneCell' = true) :
    ∃ w', (Builtin.copy_ #[dT, sT] ty #[.slice (cutA av i c sz) (k - i) (c - i), .slice sv m mc]).run P w = .ok (goInt (Nat.min m (k - i) : Nat)) w' ∧ w'.ownsRow base e sz (.slice av k c) k (putAt xs (i * sz) (news.take (Nat.min m (k - i) * sz))) ∧ Keep (fun j => Value.ownBlock (.slice av k c) = some j) w w' := by
  obtain ⟨inf, hi1, hi2⟩ := Option.map_eq_some_iff.1 hi
  have hmm : Nat.min m (k - i) ≤ m := Nat.min_le_left _ _
  have hmk : Nat.min m (k - i) ≤ k - i := Nat.min_le_right _ _
  have hlen : (news.take (Nat.min m (k - i) * sz)).length = Nat.min m (k - i) * sz := by
    rw [List.length_take, hsrc.len]
    exact Nat.min_eq_left (Nat.mul_le_mul_right _ hmm)
  obtain ⟨N, hN⟩ : ∃ N, N = Nat.min m (k - i) := ⟨_, rfl⟩
  rw [← hN] at hmm hmk hlen h1 ⊢
  have hfirst : (Builtin.firstCells inf.size N (.slice sv m mc)).run P w = .ok (news.take (N * sz)).toArray w := by
    cases sv with
    | none =>
      have hm0 : m = 0 := by have := hsrc.le; have := hsrc.none_ rfl; omega
      have hN0 : N = 0 := by omega
      rw [run_firstCells_none, hN0]
      simp
    | some A => exact run_firstCells_some w inf.size N A m mc _ (by rw [hlen, hi2]) (fun j v hj => by
        have hj' : news[j]? = some v := by
          rw [List.getElem?_take] at hj
          split at hj
          · exact hj
          · cases hj
        exact hsrc.cell j v hj')
  rcases Nat.eq_zero_or_pos N with h0 | h0
  · have e0 : news.take (N * sz) = [] := by rw [h0]; simp
    rw [e0] at hfirst ⊢
    refine ⟨w, ?_, by rw [putAt_nil0]; exact hown, Keep.refl _ _⟩
    cases hc : cutA av i c sz <;> simp [Builtin.copy_, run_underlying ht, Builtin.lenOf, sizeOf, typeInfo, hi1, ← hN, hfirst, storeCells]
  · have hsome : ∃ g, av = some ⟨g, 0, none⟩ := by
      rcases hown.2 with ⟨h, hk0⟩ | ⟨g, cap, cur, h, _⟩
      · omega
      · simp only [Value.slice.injEq] at h
        exact ⟨g, h.1⟩
    obtain ⟨g, rfl⟩ := hsome
    have hc : k ≤ c := (own_arr hown).le
    have e1 : cutA (some ⟨g, 0, none⟩) i c sz = some ((sa (some ⟨g, 0, none⟩)).add (i * sz)) := by
      unfold cutA
      rw [if_neg (by omega)]
      rfl
    obtain ⟨w', hr, hx, hk⟩ := own_cells (P := P) hown (o := i * sz) (vs := news.take (N * sz)) (by rw [hlen, ← Nat.add_mul]; exact Nat.mul_le_mul_right _ (by omega)) (by rw [hlen]; exact Nat.mul_pos h0 hsz) h1
    refine ⟨w', ?_, hx, hk⟩
    rw [e1]
    simp [Builtin.copy_, run_underlying ht, Builtin.lenOf, sizeOf, typeInfo, hi1, ← hN, hfirst, hr]
/-- A slice of one's own, drawn longer within its room: what stands there is not known. -/
theorem own_longer (hown : w.ownsRow base e sz (.slice av k c) k xs) {j : Nat} (hk : 0 < k) (hj : k + j ≤ c) : ∃ ys, ys.length = j * sz ∧ w.ownsRow base e sz (.slice av (k + j) c) (k + j) (xs ++ ys) := by
  rcases hown.2 with ⟨h, hk0⟩ | ⟨g, cap, cur, h, hbg, hg, hnc, hcm, hcs, htake⟩
  · omega
  · simp only [Value.slice.injEq] at h
    obtain ⟨rfl, _, rfl⟩ := h
    have hle : (k + j) * sz ≤ cur.toList.length := by rw [Array.length_toList, hcs]; exact Nat.mul_le_mul_right _ hj
    have hsp : cur.toList.take ((k + j) * sz) = xs ++ (cur.toList.drop (k * sz)).take (j * sz) := by
      rw [Nat.add_mul, List.take_add, htake]
    refine ⟨(cur.toList.drop (k * sz)).take (j * sz), ?_, ?_, .inr ⟨g, c, cur, rfl, hbg, hg, hj, hcm, hcs, hsp⟩⟩
    · rw [List.length_take, List.length_drop]
      rw [Nat.add_mul] at hle
      exact Nat.min_eq_left (by omega)
    · rw [← hsp, List.length_take]
      exact Nat.min_eq_left hle
theorem reps_one {n : Nat} {zs : List Value} (h : ∀ u ∈ zs, u.oneCell' = true) : ∀ u ∈ reps n zs, u.oneCell' = true := fun u hu => by
  simp only [reps, List.mem_flatten, List.mem_replicate] at hu
  obtain ⟨l, ⟨_, rfl⟩, hu⟩ := hu
  exact h u hu
/-- So many zeros behind a first part, where there is no room. -/
theorem own_growz (hown : w.ownsRow base e sz (.slice av k c) k xs) {t tn ty : TypeId} {kn kq : IntKind} {by_ i q : Nat} {zs : List Value} (ht : P.underlying t = some (.slice e)) (htn : P.underlying tn = some (.int kn)) (hi : (P.info? e).map (fun i => (i.size, i.bytes, i.zero.map (·.cells.toList))) = some (sz, by_, some zs)) (hz : zs.length = sz) (hsz : 0 < sz)
    (hik : i ≤ k) (hq : 0 < q) (hg : c < i + q) (h63 : i + q ≤ maxLen ∧ (i + q) * by_ ≤ 140737488355328) :
    ∃ w' c', (Builtin.append_ #[t, tn] ty #[.slice av i c, .int kq q]).run P w = .ok (.slice (some ⟨w.heap.size, 0, none⟩) (i + q) c') w' ∧ w'.ownsRow w.heap.size e sz (.slice (some ⟨w.heap.size, 0, none⟩) (i + q) c') (i + q) (xs.take (i * sz) ++ reps q zs) ∧ Keep Nn w w' := by
  obtain ⟨inf, hi1, hi2⟩ := Option.map_eq_some_iff.1 hi
  simp only [Prod.mk.injEq] at hi2
  obtain ⟨h2, h3, h4⟩ := hi2
  obtain ⟨z, hz1, hz2⟩ := Option.map_eq_some_iff.1 h4
  have hcut := own_arr (own_cut hown hik)
  have hold : (Builtin.firstCells inf.size i (.slice av i c)).run P w.drew = .ok (xs.take (i * sz)).toArray w.drew := by
    cases av with
    | none =>
      have h0 : i = 0 := by have := hcut.le; have := hcut.none_ rfl; omega
      rw [run_firstCells_none, h0]
      simp
    | some A => exact run_firstCells_some w.drew inf.size i A i c _ (by rw [hcut.len, h2]) (fun j v hj => hcut.cell j v hj)
  have hmx : i + q ≤ 9223372036854775807 := by have := h63.1; simp only [maxLen] at this; omega
  have hmul : q * inf.bytes ≤ (i + q) * inf.bytes := Nat.mul_le_mul_right _ (by omega)
  have hr := Lib.run_append_grow_zeros (P := P) w t tn ty e inf z kq kn ht htn hi1 hz1 av i c (xs.take (i * sz)) hold q hq (by omega) hg (by omega) (by rw [h3] at hmul ⊢; omega) (by rw [h3]; exact growslice_fits hg h63.2)
  have hge := grownCap_ge w (i + q) c e
  have hcm : grownCap w (i + q) c e ≤ maxLen := grownCap_le_maxLen w (i + q) c e h63.1
  have hzq : (Builtin.zeroCells z.cells q).toList = reps q zs := by rw [zero_reps, hz2]
  have hzc : z.cells.size = sz := by rw [← hz, ← hz2]; simp
  refine ⟨_, _, hr, ⟨?_, .inr ⟨w.heap.size, _, _, rfl, Nat.le_refl _, heap_alloc_new w.drew _, hge, hcm, ?_, ?_⟩⟩, ?_⟩
  · rw [List.length_append, hcut.len, reps_len, hz, Nat.add_mul]
  · simp only [Array.size_append, size_zeroCells, hzc, List.size_toArray, hcut.len, ← Nat.add_mul]
    congr 1
    omega
  · have e1 : ((xs.take (i * sz)).toArray ++ Builtin.zeroCells z.cells q ++ Builtin.zeroCells z.cells (grownCap w (i + q) c e - (i + q))).toList = (xs.take (i * sz) ++ reps q zs) ++ (Builtin.zeroCells z.cells (grownCap w (i + q) c e - (i + q))).toList := by
      simp [hzq]
    rw [e1]
    have e2 : (xs.take (i * sz) ++ reps q zs).length = (i + q) * sz := by rw [List.length_append, hcut.len, reps_len, hz, Nat.add_mul]
    rw [← e2, List.take_left]
  · have hg' : w.grownBy (w.drew.alloc (.cells ((xs.take (i * sz)).toArray ++ Builtin.zeroCells z.cells q ++ Builtin.zeroCells z.cells (grownCap w (i + q) c e - (i + q))) e)) none := ⟨rfl, rfl, rfl, by simp, fun k hk _ => heap_alloc_old w.drew _ hk⟩
    exact (Keep.of_grownBy hg' (Nat.le_succ _)).mono fun _ _ h => by cases h
/-- slices.overlaps, of a known block and a slice of one's own. -/
theorem run_overlaps_own {tS tR : TypeId} (ht : P.underlying tS = some (.slice e)) (hi : (P.info? e).map (·.size) = some sz) (hown : w.ownsRow base e sz (.slice av k c) k xs) (hk : 0 < k) (hsz : 0 < sz) {vb tV : Nat} {cs : List Value} (hv : w.heap[vb]? = some (.cells cs.toArray tV (0, 0))) (hne : Value.ownBlock (.slice av k c) ≠ some vb) (vl vc i n2 c2 : Nat) :
    (Extern.SlicesOverlaps.overlaps #[tS, tS] #[tR] #[.slice (some ⟨vb, 0, none⟩) vl vc, .slice (cutA av i c sz) n2 c2]).run P w = .ok (.bool false) w := by
  obtain ⟨inf, hi1, hi2⟩ := Option.map_eq_some_iff.1 hi
  rcases hown.2 with ⟨h, hk0⟩ | ⟨g, cap, cur, h, hbg, hg, hnc, hcm, hcs, htake⟩
  · omega
  · simp only [Value.slice.injEq] at h
    obtain ⟨rfl, _, rfl⟩ := h
    have hgv : g ≠ vb := fun e => hne (by simp [Value.ownBlock, e])
    obtain ⟨B2, hB2, hB2g⟩ : ∃ B2 : Addr, cutA (some ⟨g, 0, none⟩) i c sz = some B2 ∧ B2.block = g := by
      unfold cutA
      split
      · exact ⟨_, rfl, rfl⟩
      · exact ⟨_, rfl, add_block _ _⟩
    rw [hB2]
    have hcz : cur.size ≠ 0 := by
      rw [hcs]
      exact Nat.mul_ne_zero (by omega) (by omega)
    refine Lib.run_overlaps_apart w tS tR e ht sz (fun w => by simp [sizeOf, typeInfo, hi1, hi2]) ⟨vb, 0, none⟩ B2 vl vc n2 c2 (by rw [hB2g]; exact fun e => hgv e.symm) tV e cs.length cur.size ?_ ?_ hcz ?_ ?_
    · simp [World.shape?, hv]
    · simp [World.shape?, hB2g, hg]
    · simp [World.frozen?, hv]
    · simp [World.frozen?, hv]
end
section
variable {P : Program} {ops : Array Oper} {n : Nat} {Q : Exit → Act → World → Prop} {rest : List Oper} {env : Env} {M : Mem} {a : Act} {w : World} {base : Nat} {O : List Own}
theorem sxcopy (hf : Fr n env a) (hM : MemOk M w) {e : TypeId} {sz k c : Nat} {av : Option Addr} {xs : List Value} (hO : OwnOk base M (oS e sz (.slice av k c) k xs :: O) w) {o : Oper} {d : Tmp} {X Y : Operand} {dT sT : TypeId}
    (hgd : o.guard = none) (hd : o.dst = some d) (hdn : Nat.blt d n = true) (hop : o.op = .call { callee := .builtin .copy, args := #[X, Y], argTypes := #[dT, sT] }) {i : Nat} {sv : Option Addr} {m mc n2 c2 : Nat} {dv : Option Addr}
    (hX : look env none X = some (.slice dv n2 c2, [])) (hdv : dv = cutA av i c sz) (hn2 : n2 = k - i) (hc2 : c2 = c - i) (hY : look env none Y = some (.slice sv m mc, [])) (ht : P.underlying dT = some (.slice e)) (hi : (P.info? e).map (·.size) = some sz) (hsz : Nat.blt 0 sz = true) (hik : i ≤ k)
    {news : List Value} (hsrc : Arr w sz sv m mc news) (h1 : ∀ u ∈ news.take (Nat.min m (k - i) * sz), u.oneCell' = true)
    (kont : ∀ act w', Fr n ((d, .val (.int .i64 (Nat.min m (k - i) : Nat))) :: env) act → MemOk M w' → OwnOk base M (oS e sz (.slice av k c) k (putAt xs (i * sz) (news.take (Nat.min m (k - i) * sz))) :: O) w' → Keep (fun j => Value.ownBlock (.slice av k c) = some j) w w' → wpList P ops Q rest act w') :
    wpList P ops Q (o :: rest) a w := by
  subst hdv hn2 hc2
  have hown : w.ownsRow base e sz (.slice av k c) k xs := hO.own _ (List.mem_cons_self ..)
  obtain ⟨w', hr, hx, hk⟩ := own_copy (ty := o.type) (sT := sT) hown ht hi (by simpa [Nat.blt_eq] using hsz) hik hsrc h1
  refine wpList_plain hgd fun K hK => ?_
  refine wp_of_run (w2 := w') (v := goInt (Nat.min m (k - i) : Nat)) (nx := .value (goInt (Nat.min m (k - i) : Nat))) ?_ (.inl rfl) K Q ?_
  · have e1 : a.eval X = .slice (cutA av i c sz) (k - i) (c - i) := look_sound hf (c := none) trivial hX trivial
    have e2 : a.eval Y = .slice sv m mc := look_sound hf (c := none) trivial hY trivial
    rw [← e1, ← e2] at hr
    simp [execOp, hop, resolve, invoke, builtin, hr]
  · rw [hd]
    exact hK _ _ (kont _ _ (hf.putv (by simpa [Nat.blt_eq] using hdn) _) (hO.memTurn hM hk) (hO.turn hk hx) hk)
theorem sxgrowz (hf : Fr n env a) (hM : MemOk M w) {e : TypeId} {sz k c : Nat} {av : Option Addr} {xs : List Value} (hO : OwnOk base M (oS e sz (.slice av k c) k xs :: O) w) {o : Oper} {d : Tmp} {s x : Operand} {t tn : TypeId} {kn kq : IntKind} {by_ i q : Nat} {kk : Int} {zs : List Value}
    (hgd : o.guard = none) (hd : o.dst = some d) (hdn : Nat.blt d n = true) (hop : o.op = .call { callee := .builtin .append, args := #[s, x], argTypes := #[t, tn] })
    (hs : look env none s = some (.slice av i c, [])) (hx : look env none x = some (.int kq kk, [])) (hkk : kk = q) (ht : P.underlying t = some (.slice e)) (htn : P.underlying tn = some (.int kn)) (hi : (P.info? e).map (fun i => (i.size, i.bytes, i.zero.map (·.cells.toList))) = some (sz, by_, some zs)) (hz : zs.length = sz) (hsz : Nat.blt 0 sz = true)
    (hik : i ≤ k) (hq : 0 < q) (hg : c < i + q) (h63 : i + q ≤ maxLen ∧ (i + q) * by_ ≤ 140737488355328) (hb : base ≤ w.heap.size)
    (kont : ∀ act w' B c', Fr n ((d, .val (.slice (some ⟨B, 0, none⟩) (i + q) c')) :: env) act → MemOk M w' → OwnOk base M (oS e sz (.slice (some ⟨B, 0, none⟩) (i + q) c') (i + q) (xs.take (i * sz) ++ reps q zs) :: oS e sz (.slice av k c) k xs :: O) w' → w.heap.size = B → Keep Nn w w' → wpList P ops Q rest act w') :
    wpList P ops Q (o :: rest) a w := by
  subst hkk
  have hown : w.ownsRow base e sz (.slice av k c) k xs := hO.own _ (List.mem_cons_self ..)
  obtain ⟨w', c', hr, hx2, hk⟩ := own_growz (ty := o.type) (kq := kq) hown ht htn hi hz (by simpa [Nat.blt_eq] using hsz) hik hq hg h63
  refine wpList_plain hgd fun K hK => ?_
  refine wp_of_run (w2 := w') (v := .slice (some ⟨w.heap.size, 0, none⟩) (i + q) c') (nx := .value (.slice (some ⟨w.heap.size, 0, none⟩) (i + q) c')) ?_ (.inl rfl) K Q ?_
  · have e1 : a.eval s = .slice av i c := look_sound hf (c := none) trivial hs trivial
    have e2 : a.eval x = .int kq q := look_sound hf (c := none) trivial hx trivial
    rw [← e1, ← e2] at hr
    simp [execOp, hop, resolve, invoke, builtin, hr]
  · rw [hd]
    exact hK _ _ (kont _ _ w.heap.size _ (hf.putv (by simpa [Nat.blt_eq] using hdn) _) (hM.keepNn hk) (hO.more hM hk hb hx2) rfl hk)
/-- 'append', with all that is known of what has turned. -/
theorem sxappendk (hf : Fr n env a) (hM : MemOk M w) {e : TypeId} {sz by_ k : Nat} {v : Value} {xs : List Value} (hO : OwnOk base M (oS e sz v k xs :: O) w) {o : Oper} {d : Tmp} {s x : Operand} {t : TypeId}
    (hgd : o.guard = none) (hd : o.dst = some d) (hdn : Nat.blt d n = true) (hop : o.op = .call { callee := .builtin .append, args := #[s, x], argTypes := #[t, t] })
    {av : Option Addr} {m c : Nat} (hs : look env none s = some (v, [])) (hx : look env none x = some (.slice av m c, []))
    (ht : P.underlying t = some (.slice e)) (hi : (P.info? e).map (fun i => (i.size, i.bytes, i.zero.map (·.cells.size))) = some (sz, by_, some sz)) (hsz : Nat.blt 0 sz = true)
    {news : List Value} (hsrc : Arr w sz av m c news) (h1 : ∀ u ∈ news, u.oneCell' = true) (h63 : k + m ≤ maxLen ∧ (k + m) * by_ ≤ 140737488355328) (hb : base ≤ w.heap.size)
    (kont : ∀ act w' av' c', Fr n ((d, .val (.slice av' (k + m) c')) :: env) act → MemOk M w' → OwnOk base M (oS e sz (.slice av' (k + m) c') (k + m) (xs ++ news) :: O) w' → Keep (fun i => v.ownBlock = some i) w w' → (∀ j, Value.ownBlock (.slice av' (k + m) c') = some j → v.ownBlock = some j ∨ w.heap.size ≤ j) → wpList P ops Q rest act w') :
    wpList P ops Q (o :: rest) a w := by
  have hown : w.ownsRow base e sz v k xs := hO.own _ (List.mem_cons_self ..)
  obtain ⟨av', c', w', hr, ho, hg, hdr, hfr⟩ := append_own (ty := o.type) ht hi (by simpa [Nat.blt_eq] using hsz) hown hsrc h1 h63.1 h63.2 hb
  have hk : Keep (fun i => v.ownBlock = some i) w w' := Keep.of_grownBy hg hdr
  have hap : ∀ i, v.ownBlock = some i → ¬ i ∈ M.names := fun i hi => hO.apart (List.mem_cons_self ..) hi
  have hM' : MemOk M w' := hM.keep hk fun i hi hv => hap i hv hi
  have hfr' : ∀ j, Value.ownBlock (.slice av' (k + m) c') = some j → v.ownBlock = some j ∨ w.heap.size ≤ j := fun j hj => by
    rcases hfr with hs' | hs'
    · exact .inl (hs' ▸ hj)
    · exact .inr (hs' j hj)
  refine wpList_plain hgd fun K hK => ?_
  refine wp_of_run (w2 := w') (v := .slice av' (k + m) c') (nx := .value (.slice av' (k + m) c')) ?_ (.inl rfl) K Q ?_
  · refine ox_append hop ?_
    have e1 : a.eval s = v := look_sound hf (c := none) trivial hs trivial
    have e2 : a.eval x = .slice av m c := look_sound hf (c := none) trivial hx trivial
    rw [e1, e2]
    exact hr
  rw [hd]
  exact hK _ _ (kont _ w' av' c' (hf.putv (by simpa [Nat.blt_eq] using hdn) _) hM' (hO.turnB hM (hk.mono fun i _ hi => mem_ob.2 hi) (o' := oS e sz (.slice av' (k + m) c') (k + m) (xs ++ news)) ho (fun i hi => (hfr' i (mem_ob.1 hi)).imp (fun h => mem_ob.2 h) id) (ob_nd _)) hk hfr')
/-- A slice of one's own, drawn longer within its room. -/
theorem OwnOk.longer {e : TypeId} {sz k c j : Nat} {av : Option Addr} {xs : List Value} (hO : OwnOk base M (oS e sz (.slice av k c) k xs :: O) w) (hk : 0 < k) (hj : k + j ≤ c) : ∃ ys, ys.length = j * sz ∧ OwnOk base M (oS e sz (.slice av (k + j) c) (k + j) (xs ++ ys) :: O) w := by
  have hown : w.ownsRow base e sz (.slice av k c) k xs := hO.own _ (List.mem_cons_self ..)
  obtain ⟨ys, hy, hx⟩ := own_longer hown hk hj
  exact ⟨ys, hy, hO.turnS (Keep.refl _ _) (o' := oS e sz (.slice av (k + j) c) (k + j) (xs ++ ys)) hx (by cases av <;> exact List.Sublist.refl _)⟩
end
end Go.Px

/- The walker's rules for maps: made, looked at, written, struck, counted, gone over. Nothing of any one program stands here. -/
namespace Go.Px
set_option linter.unusedVariables false
set_option linter.unusedSimpArgs false
set_option linter.unusedSectionVars false
open Go.RowKit
open Go.ChangeMaps (setBlock)
section
variable {κ ν : Type} [DecidableEq κ] {fk : κ → Value} {fv : ν → Value} {L : List (κ × ν)}
variable {P : Program} {ops : Array Oper} {n : Nat} {Q : Exit → Act → World → Prop} {rest : List Oper} {env : Env} {M : Mem} {a : Act} {w : World} {base B : Nat} {O : List Own}

/-- What is looked up. -/
def lookV (fv : ν → Value) (L : List (κ × ν)) (z : ν) (x : κ) (c : Bool) : Value := if c then .tuple #[fv ((getK L x).getD z), .bool (hasK L x)] else fv ((getK L x).getD z)
theorem sxlookup (hf : Fr n env a) (hm : MapAt w B fk fv L) {k : TypeId} (K : KeyT P k fk) {o : Oper} {d : Tmp} {t e : TypeId} {X Y : Operand} {c : Bool} (hgd : o.guard = none) (hd : o.dst = some d) (hdn : Nat.blt d n = true) (hop : o.op = .lookup t X Y c)
    (hX : look env none X = some (.map (some B), [])) (x : κ) (hY : look env none Y = some (fk x, [])) (ht : P.underlying t = some (.map k e)) (z : ν) (hz : (P.info? e).bind (·.zero) = some (fv z)) {V : Value} (hV : lookV fv L z x c = V)
    (kont : ∀ act, Fr n ((d, .val V) :: env) act → wpList P ops Q rest act w) : wpList P ops Q (o :: rest) a w := by
  refine wpList_plain hgd fun K' hK' => ?_
  have hz' : (zeroValue e).run P w = .ok (fv z) w := by
    obtain ⟨i, hi, hz⟩ := Option.bind_eq_some_iff.1 hz
    simp [zeroValue, typeInfo, hi, hz]
  have hr := hm.lookup K ht hz' x c
  have e1 : a.eval X = .map (some B) := look_sound hf (c := none) trivial hX trivial
  have e2 : a.eval Y = fk x := look_sound hf (c := none) trivial hY trivial
  refine wp_of_run (w2 := w) (v := V) (nx := .value V) ?_ (.inl rfl) K' _ ?_
  · rw [← hV]
    simp [execOp, hop, e1, e2, hr, lookV]
  · rw [hd]
    exact hK' _ _ (kont _ (hf.putv (by simpa [Nat.blt_eq] using hdn) _))
theorem sxmapset (hf : Fr n env a) (hM : MemOk M w) (hO : OwnOk base M (oM B fk fv L :: O) w) {k : TypeId} (K : KeyT P k fk) {o : Oper} {t e : TypeId} {X Y Z : Operand} (hgd : o.guard = none) (hd : o.dst = none) (hop : o.op = .mapUpdate t X Y Z)
    (hX : look env none X = some (.map (some B), [])) (x : κ) (hY : look env none Y = some (fk x, [])) (v : ν) (hZ : look env none Z = some (fv v, [])) (ht : P.underlying t = some (.map k e))
    (kont : ∀ act w', Fr n env act → MemOk M w' → OwnOk base M (oM B fk fv (putK L x v) :: O) w' → Keep (fun i => i = B) w w' → wpList P ops Q rest act w') : wpList P ops Q (o :: rest) a w := by
  have hown := hO.own _ (List.mem_cons_self ..)
  obtain ⟨w', hr, hm, hk⟩ := hown.2.update K ht x v
  have hk' : Keep (fun i => i ∈ (oM B fk fv L).B) w w' := hk.mono fun i _ hi => List.mem_singleton.2 hi
  have e1 : a.eval X = .map (some B) := look_sound hf (c := none) trivial hX trivial
  have e2 : a.eval Y = fk x := look_sound hf (c := none) trivial hY trivial
  have e3 : a.eval Z = fv v := look_sound hf (c := none) trivial hZ trivial
  refine wpList_plain hgd fun K' hK' => ?_
  refine wp_of_run (w2 := w') (v := undef) (nx := .skip) ?_ (.inr ⟨rfl, rfl⟩) K' _ ?_
  · simp [execOp, hop, e1, e2, e3, hr]
  · rw [hd]
    exact hK' _ _ (kont _ w' hf (hO.memTurnB hM hk') (hO.turnS hk' (o' := oM B fk fv (putK L x v)) ⟨hown.1, hm⟩ (List.Sublist.refl _)) hk)
theorem sxmapins (hf : Fr n env a) (hM : MemOk M w) (hO : OwnOk base M (oM B fk fv L :: O) w) {k : TypeId} (K : KeyT P k fk) {o : Oper} {t e : TypeId} {X Y Z : Operand} (hgd : o.guard = none) (hd : o.dst = none) (hop : o.op = .insert t X Y Z)
    (hX : look env none X = some (.map (some B), [])) (x : κ) (hY : look env none Y = some (fk x, [])) (v : ν) (hZ : look env none Z = some (fv v, [])) (ht : P.underlying t = some (.map k e))
    (kont : ∀ act w', Fr n env act → MemOk M w' → OwnOk base M (oM B fk fv (putK L x v) :: O) w' → Keep (fun i => i = B) w w' → wpList P ops Q rest act w') : wpList P ops Q (o :: rest) a w := by
  have hown := hO.own _ (List.mem_cons_self ..)
  obtain ⟨w', hr, hm, hk⟩ := hown.2.update K ht x v
  have hk' : Keep (fun i => i ∈ (oM B fk fv L).B) w w' := hk.mono fun i _ hi => List.mem_singleton.2 hi
  have e1 : a.eval X = .map (some B) := look_sound hf (c := none) trivial hX trivial
  have e2 : a.eval Y = fk x := look_sound hf (c := none) trivial hY trivial
  have e3 : a.eval Z = fv v := look_sound hf (c := none) trivial hZ trivial
  refine wpList_plain hgd fun K' hK' => ?_
  refine wp_of_run (w2 := w') (v := undef) (nx := .skip) ?_ (.inr ⟨rfl, rfl⟩) K' _ ?_
  · simp [execOp, hop, e1, e2, e3, hr]
  · rw [hd]
    exact hK' _ _ (kont _ w' hf (hO.memTurnB hM hk') (hO.turnS hk' (o' := oM B fk fv (putK L x v)) ⟨hown.1, hm⟩ (List.Sublist.refl _)) hk)
theorem sxmapdel (hf : Fr n env a) (hM : MemOk M w) (hO : OwnOk base M (oM B fk fv L :: O) w) {k : TypeId} (K : KeyT P k fk) {o : Oper} {t e : TypeId} {X Y : Operand} (hgd : o.guard = none) (hop : o.op = .call { callee := .builtin .delete, args := #[X, Y], argTypes := #[t, k] }) (hd : o.dst = none)
    (hX : look env none X = some (.map (some B), [])) (x : κ) (hY : look env none Y = some (fk x, [])) (ht : P.underlying t = some (.map k e))
    (kont : ∀ act w', Fr n env act → MemOk M w' → OwnOk base M (oM B fk fv (delK L x) :: O) w' → Keep (fun i => i = B) w w' → wpList P ops Q rest act w') : wpList P ops Q (o :: rest) a w := by
  have hown := hO.own _ (List.mem_cons_self ..)
  obtain ⟨w', hr, hm, hk⟩ := hown.2.delete (ty := o.type) K ht x
  have hk' : Keep (fun i => i ∈ (oM B fk fv L).B) w w' := hk.mono fun i _ hi => List.mem_singleton.2 hi
  have e1 : a.eval X = .map (some B) := look_sound hf (c := none) trivial hX trivial
  have e2 : a.eval Y = fk x := look_sound hf (c := none) trivial hY trivial
  refine wpList_plain hgd fun K' hK' => ?_
  refine wp_of_run (w2 := w') (v := .tuple #[]) (nx := .value (.tuple #[])) ?_ (.inl rfl) K' _ ?_
  · simp [execOp, hop, resolve, invoke, builtin, e1, e2, hr]
  · rw [hd]
    exact hK' _ _ (kont _ w' hf (hO.memTurnB hM hk') (hO.turnS hk' (o' := oM B fk fv (delK L x)) ⟨hown.1, hm⟩ (List.Sublist.refl _)) hk)
theorem sxmaplen (hf : Fr n env a) (hm : MapAt w B fk fv L) {o : Oper} {d : Tmp} {t k e : TypeId} {X : Operand} (hgd : o.guard = none) (hd : o.dst = some d) (hdn : Nat.blt d n = true) (hop : o.op = .call { callee := .builtin .len, args := #[X], argTypes := #[t] })
    (hX : look env none X = some (.map (some B), [])) (ht : P.underlying t = some (.map k e)) (kont : ∀ act, Fr n ((d, .val (.int .i64 (L.length : Nat))) :: env) act → wpList P ops Q rest act w) : wpList P ops Q (o :: rest) a w := by
  have e1 : a.eval X = .map (some B) := look_sound hf (c := none) trivial hX trivial
  have hr := hm.len (ty := o.type) ht
  refine wpList_plain hgd fun K' hK' => ?_
  refine wp_of_run (w2 := w) (v := goInt (L.length : Nat)) (nx := .value (goInt (L.length : Nat))) ?_ (.inl rfl) K' _ ?_
  · simp [execOp, hop, resolve, invoke, builtin, e1, hr]
  · rw [hd]
    exact hK' _ _ (kont _ (hf.putv (by simpa [Nat.blt_eq] using hdn) _))
theorem sxmakemap (fk : κ → Value) (fv : ν → Value) (hf : Fr n env a) (hM : MemOk M w) (hO : OwnOk base M O w) {o : Oper} {d : Tmp} {t : TypeId} (hgd : o.guard = none) (hd : o.dst = some d) (hdn : Nat.blt d n = true) (hop : o.op = .makeMap t none) (hb : base ≤ w.heap.size)
    (kont : ∀ act w' B, Fr n ((d, .val (.map (some B))) :: env) act → MemOk M w' → OwnOk base M (oM B fk fv [] :: O) w' → w.heap.size = B → Keep Nn w w' → wpList P ops Q rest act w') : wpList P ops Q (o :: rest) a w := by
  have hk : Keep Nn w (w.alloc (.map #[] 0)) := keep_push w _
  refine wpList_plain hgd fun K' hK' => ?_
  refine wp_of_run (w2 := w.alloc (.map #[] 0)) (v := .map (some w.heap.size)) (nx := .value (.map (some w.heap.size))) ?_ (.inl rfl) K' _ ?_
  · simp [execOp, hop, Instr.makeMap, newObj]
    rfl
  · rw [hd]
    exact hK' _ _ (kont _ _ w.heap.size (hf.putv (by simpa [Nat.blt_eq] using hdn) _) (hM.keepNn hk) (hO.moreB hM hk hb (o := oM w.heap.size fk fv []) ⟨Nat.le_refl _, mapAt_new w fk fv⟩ (by simp [oM])) rfl hk)

theorem ox_entry {ρ : Operand → Value} {o : Oper} {x : Operand} {u v : Value} (hop : o.op = .entry x) (hx : ρ x = u) (h : (Instr.entry u).run P w = .ok v w) : (execOp ρ o).run P w = .ok (.value v) w := by
  simp [execOp, hop, hx, h]
/-! ### A map that is gone over -/
structure IterAt (w : World) (B r : Nat) (fk : κ → Value) (fv : ν → Value) (L left : List (κ × ν)) : Prop where
  map : MapAt w B fk fv L
  ne : r ≠ B
  it : ∃ (es : Array MapEntry) (clock since c0 : Nat) (seen : Array Nat), w.heap[B]? = some (.map es clock) ∧ w.heap[r]? = some (.mapIter (some B) since seen c0) ∧ (∀ x ∈ es.toList, x.born < since) ∧ since ≤ c0 ∧ since ≤ clock ∧ (es.toList.map (·.born)).Pairwise (· < ·) ∧
    (es.toList.filter fun e => !seen.contains e.born).map (fun e => (e.key, e.val)) = left.map (fun p => (fk p.1, fv p.2)) ∧ es.toList.map (fun e => (e.key, e.val)) = L.map (fun p => (fk p.1, fv p.2))
  sub : left.Sublist L
theorem IterAt.lt {w : World} {B r : Nat} {L left : List (κ × ν)} (h : IterAt w B r fk fv L left) : r < w.heap.size := by
  obtain ⟨_, _, _, _, _, _, hr, _⟩ := h.it
  exact (Array.getElem?_eq_some_iff.1 hr).1
theorem IterAt.keep {w w' : World} {B r : Nat} {L left : List (κ × ν)} {F : Nat → Prop} (h : IterAt w B r fk fv L left) (hk : Keep F w w') (h1 : ¬ F B) (h2 : ¬ F r) : IterAt w' B r fk fv L left := by
  have hB := h.map.lt
  have hr' := h.lt
  obtain ⟨es, clock, since, c0, seen, hb, hr, rest⟩ := h.it
  exact ⟨h.map.keep hk h1, h.ne, ⟨es, clock, since, c0, seen, (hk.block B hB h1).trans hb, (hk.block r hr' h2).trans hr, rest⟩, h.sub⟩
/-- A map and who goes over it. -/
def oI (B r : Nat) (fk : κ → Value) (fv : ν → Value) (L left : List (κ × ν)) : Own where
  B := [B, r]
  φ := fun b w => b ≤ B ∧ b ≤ r ∧ IterAt w B r fk fv L left
  lt' := fun h i hi => by
    simp only [List.mem_cons, List.not_mem_nil, or_false] at hi
    rcases hi with rfl | rfl
    · exact ⟨h.1, h.2.2.map.lt⟩
    · exact ⟨h.2.1, h.2.2.lt⟩
  stab := fun h hk hn => ⟨h.1, h.2.1, h.2.2.keep hk (hn B (by simp)) (hn r (by simp))⟩
  low := fun h hb => ⟨Nat.le_trans hb h.1, Nat.le_trans hb h.2.1, h.2.2⟩
theorem sxrange (hf : Fr n env a) (hM : MemOk M w) (hO : OwnOk base M (oM B fk fv L :: O) w) {o : Oper} {d : Tmp} {t k e : TypeId} {X : Operand} (hgd : o.guard = none) (hd : o.dst = some d) (hdn : Nat.blt d n = true) (hop : o.op = .range t X)
    (hX : look env none X = some (.map (some B), [])) (ht : P.underlying t = some (.map k e)) (hb : base ≤ w.heap.size)
    (kont : ∀ act w' r, Fr n ((d, .val (.pointer (some ⟨r, 0, none⟩))) :: env) act → MemOk M w' → OwnOk base M (oI B r fk fv L L :: O) w' → Keep Nn w w' → wpList P ops Q rest act w') : wpList P ops Q (o :: rest) a w := by
  have hown := hO.own _ (List.mem_cons_self ..)
  have hlt := hown.2.lt
  obtain ⟨es, clock, hbk, he, hp, hc⟩ := hown.2.ex
  have hr := run_range_map (P := P) w t k e B es clock ht hbk
  have hk : Keep Nn w (w.alloc (.mapIter (some B) clock #[] clock)) := keep_push w _
  have e1 : a.eval X = .map (some B) := look_sound hf (c := none) trivial hX trivial
  refine wpList_plain hgd fun K' hK' => ?_
  refine wp_of_run (w2 := w.alloc (.mapIter (some B) clock #[] clock)) (v := .pointer (some ⟨w.heap.size, 0, none⟩)) (nx := .value (.pointer (some ⟨w.heap.size, 0, none⟩))) ?_ (.inl rfl) K' _ ?_
  · simp [execOp, hop, e1, hr]
  · rw [hd]
    have hne : w.heap.size ≠ B := by omega
    refine hK' _ _ (kont _ _ w.heap.size (hf.putv (by simpa [Nat.blt_eq] using hdn) _) (hM.keepNn hk) (hO.turnB hM (hk.mono fun _ _ h => by cases h) (o' := oI B w.heap.size fk fv L L) ⟨hown.1, hb, ⟨hown.2.keep hk (fun h => h), hne, ?_, List.Sublist.refl _⟩⟩ (fun i hi => ?_) (by simp [oI]; omega)) hk)
    · exact ⟨es, clock, clock, clock, #[], ((MapKept.heap_alloc w _).2 B hlt).trans hbk, (MapKept.heap_alloc w _).1, hc, Nat.le_refl _, Nat.le_refl _, hp, by rw [List.filter_eq_self.2 (fun x _ => by simp)]; exact he, he⟩
    · simp only [oI, oM, List.mem_cons, List.not_mem_nil, or_false] at hi ⊢
      rcases hi with rfl | rfl
      · exact .inl rfl
      · exact .inr (Nat.le_refl _)
theorem erase_perm {α : Type} : ∀ {l : List α} {i : Nat} {x : α}, l[i]? = some x → l.Perm (x :: l.eraseIdx i)
  | [], _, _, h => by simp at h
  | y :: r, 0, x, h => by
    simp only [List.getElem?_cons_zero, Option.some.injEq] at h
    subst h
    exact List.Perm.refl _
  | y :: r, i + 1, x, h => by
    simp only [List.getElem?_cons_succ] at h
    exact ((erase_perm h).cons y).trans (List.Perm.swap _ _ _)
theorem map_split {α β γ : Type} {f : α → γ} {g : β → γ} : ∀ {l : List α} {m : List β} {i : Nat} {x : α}, l.map f = m.map g → l[i]? = some x → ∃ y, m[i]? = some y ∧ f x = g y := by
  intro l m i x h hx
  have h1 := congrArg (fun l => l[i]?) h
  simp only [List.getElem?_map, hx, Option.map_some] at h1
  cases hm : m[i]? with
  | none => rw [hm] at h1; cases h1
  | some y => rw [hm] at h1; exact ⟨y, rfl, Option.some.inj h1⟩
theorem filter_seen {es : List MapEntry} {seen : Array Nat} {e : MapEntry} (hp : (es.map (·.born)).Pairwise (· < ·)) {i : Nat} (hi : (es.filter fun x => !seen.contains x.born)[i]? = some e) :
    (es.filter fun x => !(seen.push e.born).contains x.born) = (es.filter fun x => !seen.contains x.born).eraseIdx i := by
  have h1 : (es.filter fun x => !(seen.push e.born).contains x.born) = (es.filter fun x => !seen.contains x.born).filter fun x => !(x.born == e.born) := by
    rw [List.filter_filter]
    refine List.filter_congr fun x _ => ?_
    rw [Array.contains_push, Bool.not_or, Bool.and_comm]
  rw [h1]
  refine ChangeMaps.filter_eq_eraseIdx (fun x : MapEntry => x.born == e.born) _ i e hi (by simp) ?_
  have h2 : ((es.filter fun x => !seen.contains x.born).map (·.born)).Pairwise (· < ·) := hp.sublist (List.filter_sublist.map _)
  refine (List.pairwise_map.1 h2).imp fun {x y} hxy hh => ?_
  simp only [beq_iff_eq] at hh
  omega
theorem sxmapnext (hf : Fr n env a) (hM : MemOk M w) {r : Nat} {left : List (κ × ν)} (hO : OwnOk base M (oI B r fk fv L left :: O) w) {o : Oper} {d : Tmp} {X : Operand} (hgd : o.guard = none) (hd : o.dst = some d) (hdn : Nat.blt d n = true) (hop : o.op = .next X false)
    (hX : look env none X = some (.pointer (some ⟨r, 0, none⟩), []))
    (done : left = [] → ∀ act, Fr n ((d, .val (.tuple #[.bool false])) :: env) act → wpList P ops Q rest act w)
    (more : ∀ (x : κ) (v : ν) (left' : List (κ × ν)), left.Perm ((x, v) :: left') → (x, v) ∈ L → ∀ act w', Fr n ((d, .val (.tuple #[.bool true, fk x, fv v])) :: env) act → MemOk M w' → OwnOk base M (oI B r fk fv L left' :: O) w' → Keep (fun i => i = r) w w' →
      (Instr.entry (.pointer (some ⟨r, 0, none⟩))).run P w' = .ok (.tuple #[fk x, fv v]) w' → wpList P ops Q rest act w') : wpList P ops Q (o :: rest) a w := by
  have hown := hO.own _ (List.mem_cons_self ..)
  have hI := hown.2.2
  obtain ⟨es, clock, since, c0, seen, hb, hr, hold, hsc, hcl, hp, hl, he⟩ := hI.it
  have e1 : a.eval X = .pointer (some ⟨r, 0, none⟩) := look_sound hf (c := none) trivial hX trivial
  have hlt := hI.lt
  have hleft : (leftOf es seen).toList = es.toList.filter fun e => !seen.contains e.born := by
    unfold leftOf
    rw [Array.toList_filter]
  rcases run_next_at (P := P) w o.type r B since c0 seen es clock hr hb hold hsc with ⟨h0, hrun⟩ | ⟨e, hem, w1, hw1, hrun⟩
  · have hz : left = [] := by
      have h1 : (leftOf es seen).toList = [] := List.eq_nil_of_length_eq_zero (by simpa using h0)
      rw [hleft] at h1
      rw [h1] at hl
      exact List.map_eq_nil_iff.1 hl.symm
    refine wpList_plain hgd fun K' hK' => ?_
    refine wp_of_run (w2 := w) (v := .tuple #[.bool false]) (nx := .value (.tuple #[.bool false])) ?_ (.inl rfl) K' _ ?_
    · simp [execOp, hop, e1, hrun]
    · rw [hd]
      exact hK' _ _ (done hz _ (hf.putv (by simpa [Nat.blt_eq] using hdn) _))
  · rw [hleft] at hem
    obtain ⟨i, hi⟩ := List.getElem?_of_mem hem
    obtain ⟨q, hq, hqe⟩ := map_split hl hi
    obtain ⟨x, v⟩ := q
    simp only [Prod.mk.injEq] at hqe
    have hw1h : w1.heap = w.heap := by rcases hw1 with rfl | rfl <;> rfl
    have hk : Keep (fun j => j = r) w (setBlock w1 r (.mapIter (some B) since (seen.push e.born) clock)) := by
      have : Keep (fun j => j = r) w w1 := by
        rcases hw1 with rfl | rfl
        · exact Keep.refl _ _
        · exact (Keep.refl _ _).drew
      refine this.trans ⟨rfl, rfl, rfl, by simp [setBlock], Nat.le_refl _, fun j hj hn => ?_⟩
      have : ¬ r = j := fun e => hn e.symm
      simp [setBlock, Array.getElem?_setIfInBounds, this]
    have hk' : Keep (fun j => j ∈ (oI B r fk fv L left).B) w (setBlock w1 r (.mapIter (some B) since (seen.push e.born) clock)) := hk.mono fun j _ hj => by subst hj; simp [oI]
    have hB2 : (setBlock w1 r (.mapIter (some B) since (seen.push e.born) clock)).heap[B]? = some (.map es clock) := (hk.block B hI.map.lt (fun e => hI.ne e.symm)).trans hb
    have hr2 : (setBlock w1 r (.mapIter (some B) since (seen.push e.born) clock)).heap[r]? = some (.mapIter (some B) since (seen.push e.born) clock) := by
      simp [setBlock, hw1h, hlt]
    have hit : IterAt (setBlock w1 r (.mapIter (some B) since (seen.push e.born) clock)) B r fk fv L (left.eraseIdx i) :=
      ⟨hI.map.keep hk (fun e => hI.ne e.symm), hI.ne, ⟨es, clock, since, clock, seen.push e.born, hB2, hr2, hold, hcl, hcl, hp, by rw [filter_seen hp hi, ChangeMaps.map_eraseIdx, hl, ← ChangeMaps.map_eraseIdx], he⟩, (List.eraseIdx_sublist _ _).trans hI.sub⟩
    refine wpList_plain hgd fun K' hK' => ?_
    refine wp_of_run (v := .tuple #[.bool true, e.key, e.val]) (nx := .value (.tuple #[.bool true, e.key, e.val])) (w2 := setBlock w1 r (.mapIter (some B) since (seen.push e.born) clock)) ?_ (.inl rfl) K' _ ?_
    · simp [execOp, hop, e1, hrun]
    · rw [hd, hqe.1, hqe.2]
      refine hK' _ _ (more x v (left.eraseIdx i) ?_ (hI.sub.subset (List.mem_of_getElem? hq)) _ _ (hf.putv (by simpa [Nat.blt_eq] using hdn) _) (hO.memTurnB hM hk') (hO.turnS hk' (o' := oI B r fk fv L (left.eraseIdx i)) ⟨hown.1, hown.2.1, hit⟩ (List.Sublist.refl _)) hk ?_)
      · exact erase_perm hq
      · have := run_entry_at (P := P) (setBlock w1 r (.mapIter (some B) since (seen.push e.born) clock)) r B since seen es clock e hr2 hB2 (List.mem_filter.1 hem).1 (List.Pairwise.imp (fun h => Nat.ne_of_lt h) hp)
        rw [hqe.1, hqe.2] at this
        exact this
end
end Go.Px

/- Layer 11, plainly: ends along a line that change places; who meets whom by the order of the ends. No program in sight. -/
namespace Go.P11
set_option linter.unusedVariables false

/-- An end's name: is it a high one, and whose. -/
abbrev Ky := Bool × Int × Int
section
variable {α : Type}
theorem sub_mem {x y : α} {l : List α} (h : List.Sublist [x, y] l) : x ∈ l ∧ y ∈ l := ⟨h.subset (by simp), h.subset (by simp)⟩
theorem sub_swap {A B : List α} {f s x y : α} (h : List.Sublist [x, y] (A ++ f :: s :: B)) (hne : ¬ (x = f ∧ y = s)) : List.Sublist [x, y] (A ++ s :: f :: B) := by
  induction A with
  | nil =>
    simp only [List.nil_append] at h ⊢
    cases h with
    | cons _ h =>
      cases h with
      | cons _ h => exact (h.cons _).cons _
      | cons_cons _ h => exact (h.cons _).cons_cons _
    | cons_cons _ h =>
      cases h with
      | cons _ h => exact (h.cons_cons _).cons _
      | cons_cons _ h => exact absurd ⟨rfl, rfl⟩ hne
  | cons a A ih =>
    simp only [List.cons_append] at h ⊢
    cases h with
    | cons _ h => exact (ih h).cons _
    | cons_cons _ h =>
      have hy : y ∈ A ++ f :: s :: B := h.subset (by simp)
      have hy : y ∈ A ++ s :: f :: B := by simp only [List.mem_append, List.mem_cons] at hy ⊢; rcases hy with h | h | h | h <;> simp [h]
      exact (List.singleton_sublist.2 hy).cons_cons _
/-- Of two things in a list one comes ahead. -/
theorem sub_tot [DecidableEq α] {x y : α} {l : List α} (hx : x ∈ l) (hy : y ∈ l) (hne : x ≠ y) : List.Sublist [x, y] l ∨ List.Sublist [y, x] l := by
  induction l with
  | nil => simp at hx
  | cons a l ih =>
    by_cases h1 : x = a
    · subst h1
      have : y ∈ l := by rcases List.mem_cons.1 hy with h | h; exact absurd h.symm hne; exact h
      exact .inl ((List.singleton_sublist.2 this).cons_cons _)
    · by_cases h2 : y = a
      · subst h2
        have : x ∈ l := by rcases List.mem_cons.1 hx with h | h; exact absurd h h1; exact h
        exact .inr ((List.singleton_sublist.2 this).cons_cons _)
      · have hx : x ∈ l := by rcases List.mem_cons.1 hx with h | h; exact absurd h h1; exact h
        have hy : y ∈ l := by rcases List.mem_cons.1 hy with h | h; exact absurd h h2; exact h
        rcases ih hx hy with h | h
        · exact .inl (h.cons _)
        · exact .inr (h.cons _)
theorem sub_anti {x y : α} {l : List α} (hn : l.Nodup) (h1 : List.Sublist [x, y] l) (h2 : List.Sublist [y, x] l) : False := by
  induction l with
  | nil => cases h1
  | cons a l ih =>
    rw [List.nodup_cons] at hn
    cases h1 with
    | cons _ h1 =>
      cases h2 with
      | cons _ h2 => exact ih hn.2 h1 h2
      | cons_cons _ h2 => exact hn.1 (sub_mem h1).2
    | cons_cons _ h1 =>
      cases h2 with
      | cons _ h2 => exact hn.1 (sub_mem h2).2
      | cons_cons _ h2 => exact hn.1 (h1.subset (by simp))
end

/-- Two handles meet by the order of the ends. -/
def Meet (ks : List Ky) (a b : Int × Int) : Prop := List.Sublist [(false, a), (true, b)] ks ∧ List.Sublist [(false, b), (true, a)] ks
theorem Meet.symm {ks : List Ky} {a b : Int × Int} (h : Meet ks a b) : Meet ks b a := ⟨h.2, h.1⟩
theorem nodup_swap {α : Type} {A B : List α} {f s : α} (h : (A ++ f :: s :: B).Nodup) : (A ++ s :: f :: B).Nodup :=
  ((List.Perm.swap s f B).append_left A).nodup_iff.1 h |> fun h => h
/-- Two neighbours that are both low, or both high, or of one handle: nothing turns. -/
theorem meet_same {A B : List Ky} {f s : Ky} {a b : Int × Int} (hs : f.1 = s.1 ∨ f.2 = s.2) (hab : a ≠ b) : Meet (A ++ f :: s :: B) a b ↔ Meet (A ++ s :: f :: B) a b := by
  have key : ∀ (f s : Ky), (f.1 = s.1 ∨ f.2 = s.2) → ∀ {a b : Int × Int}, a ≠ b → List.Sublist [(false, a), (true, b)] (A ++ f :: s :: B) → List.Sublist [(false, a), (true, b)] (A ++ s :: f :: B) := fun f s hs a b hab h => by
    refine sub_swap h fun ⟨h1, h2⟩ => ?_
    subst h1 h2
    rcases hs with h | h
    · cases h
    · exact hab h
  have hs' : s.1 = f.1 ∨ s.2 = f.2 := hs.imp Eq.symm Eq.symm
  exact ⟨fun h => ⟨key _ _ hs hab h.1, key _ _ hs hab.symm h.2⟩, fun h => ⟨key _ _ hs' hab h.1, key _ _ hs' hab.symm h.2⟩⟩
/-- Other pairs than the neighbours': nothing turns. -/
theorem meet_other {A B : List Ky} {f s : Ky} {a b : Int × Int} (h1 : ¬ (a = f.2 ∧ b = s.2)) (h2 : ¬ (a = s.2 ∧ b = f.2)) : Meet (A ++ f :: s :: B) a b ↔ Meet (A ++ s :: f :: B) a b := by
  have key : ∀ (f s : Ky) {a b : Int × Int}, ¬ (a = f.2 ∧ b = s.2) → List.Sublist [(false, a), (true, b)] (A ++ f :: s :: B) → List.Sublist [(false, a), (true, b)] (A ++ s :: f :: B) := fun f s a b hn h => by
    refine sub_swap h fun ⟨h1, h2⟩ => hn ⟨by rw [← h1], by rw [← h2]⟩
  have n1 : ¬ (b = f.2 ∧ a = s.2) := fun h => h2 ⟨h.2, h.1⟩
  have n2 : ¬ (b = s.2 ∧ a = f.2) := fun h => h1 ⟨h.2, h.1⟩
  exact ⟨fun h => ⟨key _ _ h1 h.1, key _ _ n1 h.2⟩, fun h => ⟨key _ _ h2 h.1, key _ _ n2 h.2⟩⟩
section
variable {α : Type}
theorem ahead_of {A R : List α} {x m : α} (hn : (A ++ m :: R).Nodup) (h : List.Sublist [x, m] (A ++ m :: R)) : x ∈ A := by
  induction A with
  | nil =>
    simp only [List.nil_append, List.nodup_cons] at h hn
    cases h with
    | cons _ h => exact absurd (sub_mem h).2 hn.1
    | cons_cons _ h => exact absurd (h.subset (by simp)) hn.1
  | cons a A ih =>
    simp only [List.cons_append, List.nodup_cons] at h hn
    cases h with
    | cons _ h => exact List.mem_cons_of_mem _ (ih hn.2 h)
    | cons_cons _ h => exact List.mem_cons_self
theorem behind_of {A R : List α} {y m : α} (hn : (A ++ m :: R).Nodup) (h : List.Sublist [m, y] (A ++ m :: R)) : y ∈ R := by
  induction A with
  | nil =>
    simp only [List.nil_append, List.nodup_cons] at h hn
    cases h with
    | cons _ h => exact absurd (sub_mem h).1 hn.1
    | cons_cons _ h => exact List.singleton_sublist.1 h
  | cons a A ih =>
    simp only [List.cons_append, List.nodup_cons] at h hn
    cases h with
    | cons _ h => exact ih hn.2 h
    | cons_cons _ h => exact absurd (by simp) hn.1
end
theorem two_of {α : Type} {A B : List α} {x y : α} (hx : x ∈ A) (hy : y ∈ B) : List.Sublist [x, y] (A ++ B) := (List.singleton_sublist.2 hx).append (List.singleton_sublist.2 hy)
/-- A low end that goes ahead of a high one: they begin to meet. -/
theorem meet_begins {A B : List Ky} {X Y : Int × Int} (hn : (A ++ (true, X) :: (false, Y) :: B).Nodup) (hX : List.Sublist [(false, X), (true, X)] (A ++ (true, X) :: (false, Y) :: B)) (hY : List.Sublist [(false, Y), (true, Y)] (A ++ (true, X) :: (false, Y) :: B)) :
    Meet (A ++ (false, Y) :: (true, X) :: B) X Y := by
  have h1 := ahead_of hn hX
  have hn2 : ((A ++ [(true, X)]) ++ (false, Y) :: B).Nodup := by simpa using hn
  have h2 := behind_of hn2 (by simpa using hY)
  refine ⟨?_, ?_⟩
  · have := two_of h1 (show (true, Y) ∈ (false, Y) :: (true, X) :: B by simp [h2])
    exact this
  · have h3 : List.Sublist [((false, Y) : Ky), (true, X)] ((false, Y) :: (true, X) :: B) := ((List.nil_sublist B).cons_cons _).cons_cons _
    exact h3.trans (List.sublist_append_right _ _)
/-- A high end that goes ahead of a low one: they end to meet. -/
theorem meet_ends {A B : List Ky} {X Y : Int × Int} (hn : (A ++ (false, X) :: (true, Y) :: B).Nodup) : ¬ Meet (A ++ (true, Y) :: (false, X) :: B) X Y := fun h => by
  have h3 : List.Sublist [((true, Y) : Ky), (false, X)] ((true, Y) :: (false, X) :: B) := ((List.nil_sublist B).cons_cons _).cons_cons _
  exact sub_anti (nodup_swap hn) h.1 (h3.trans (List.sublist_append_right _ _))
/-- An end: where, is it a high one, whose. -/
abbrev En := Int × Bool × Int × Int
def ltE (e f : En) : Prop := e.1 < f.1 ∨ (e.1 = f.1 ∧ ((e.2.1 = false ∧ f.2.1 = true) ∨ (e.2.1 = f.2.1 ∧ (e.2.2.1 < f.2.2.1 ∨ (e.2.2.1 = f.2.2.1 ∧ e.2.2.2 < f.2.2.2)))))
instance (e f : En) : Decidable (ltE e f) := by unfold ltE; infer_instance
theorem key_inj {es : List En} (hn : (es.map (·.2)).Nodup) {x y : En} (hx : x ∈ es) (hy : y ∈ es) (h : x.2 = y.2) : x = y := by
  induction es with
  | nil => simp at hx
  | cons a r ih =>
    simp only [List.map_cons, List.nodup_cons, List.mem_map, not_exists, not_and] at hn
    rcases List.mem_cons.1 hx with q | q <;> rcases List.mem_cons.1 hy with q' | q'
    · rw [q, q']
    · exact absurd (by rw [← h, q]) (hn.1 y q')
    · exact absurd (by rw [h, q']) (hn.1 x q)
    · exact ih hn.2 q q'
theorem low_high {es : List En} (hs : es.Pairwise ltE) (hn : (es.map (·.2)).Nodup) {l h : Int} {a b : Int × Int} (hx : (l, false, a) ∈ es) (hy : (h, true, b) ∈ es) : List.Sublist [((false, a) : Ky), (true, b)] (es.map (·.2)) ↔ l ≤ h := by
  constructor
  · intro hsub
    obtain ⟨l', h1, h2⟩ := List.sublist_map_iff.1 hsub
    obtain ⟨x, y, rfl⟩ : ∃ x y, l' = [x, y] := by
      have := congrArg List.length h2
      match l', this with
      | [x, y], _ => exact ⟨x, y, rfl⟩
    · simp only [List.map_cons, List.map_nil, List.cons.injEq, and_true] at h2
      obtain ⟨e1, e2⟩ := h2
      have m := sub_mem h1
      obtain rfl := key_inj hn m.1 hx e1.symm
      obtain rfl := key_inj hn m.2 hy e2.symm
      have := List.pairwise_pair.1 (hs.sublist h1)
      rcases this with h | h
      · exact Int.le_of_lt h
      · exact Int.le_of_eq h.1
  · intro hle
    have hlt : ltE (l, false, a) (h, true, b) := by
      rcases Int.lt_or_eq_of_le hle with h1 | h1
      · exact .inl h1
      · exact .inr ⟨h1, .inl ⟨rfl, rfl⟩⟩
    have hne : ((l, false, a) : En) ≠ (h, true, b) := fun e => by simp at e
    rcases sub_tot hx hy hne with q | q
    · exact q.map (·.2)
    · exfalso
      have := List.pairwise_pair.1 (hs.sublist q)
      rcases this with h1 | ⟨h1, h2 | h2⟩
      · exact absurd hle (Int.not_le.2 h1)
      · cases h2.1
      · cases h2.1
/-- In order, two meet just if their spans do. -/
theorem meet_spans {es : List En} (hs : es.Pairwise ltE) (hn : (es.map (·.2)).Nodup) {la ha lb hb : Int} {a b : Int × Int} (h1 : (la, false, a) ∈ es) (h2 : (ha, true, a) ∈ es) (h3 : (lb, false, b) ∈ es) (h4 : (hb, true, b) ∈ es) : Meet (es.map (·.2)) a b ↔ la ≤ hb ∧ lb ≤ ha :=
  ⟨fun h => ⟨(low_high hs hn h1 h4).1 h.1, (low_high hs hn h3 h2).1 h.2⟩, fun h => ⟨(low_high hs hn h1 h4).2 h.1, (low_high hs hn h3 h2).2 h.2⟩⟩
theorem ltE_asymm {e f : En} (h : ltE e f) (h2 : ltE f e) : False := by
  obtain ⟨a, b, c, d⟩ := e
  obtain ⟨a', b', c', d'⟩ := f
  cases b <;> cases b' <;> simp [ltE] at h h2 <;> omega
theorem ltE_trans {e f g : En} (h : ltE e f) (h2 : ltE f g) : ltE e g := by
  obtain ⟨a, b, c, d⟩ := e
  obtain ⟨a', b', c', d'⟩ := f
  obtain ⟨a2, b2, c2, d2⟩ := g
  cases b <;> cases b' <;> cases b2 <;> simp [ltE] at h h2 ⊢ <;> omega
theorem ltE_tot {e f : En} (h : e ≠ f) : ltE e f ∨ ltE f e := by
  obtain ⟨a, b, c, d⟩ := e
  obtain ⟨a', b', c', d'⟩ := f
  cases b <;> cases b' <;> simp [ltE] at h ⊢ <;> omega
/-- Two lists in order of the same things are one. -/
theorem order_one {l m : List En} (hl : l.Pairwise ltE) (hm : m.Pairwise ltE) (h : ∀ x, x ∈ l ↔ x ∈ m) : l = m := by
  induction l generalizing m with
  | nil =>
    cases m with
    | nil => rfl
    | cons y s => exact absurd ((h y).2 (by simp)) (by simp)
  | cons x r ih =>
    cases m with
    | nil => exact absurd ((h x).1 (by simp)) (by simp)
    | cons y s =>
      rw [List.pairwise_cons] at hl hm
      have hxy : x = y := by
        rcases List.mem_cons.1 ((h x).1 (by simp)) with q | q
        · exact q
        · rcases List.mem_cons.1 ((h y).2 (by simp)) with q' | q'
          · exact q'.symm
          · exact (ltE_asymm (hl.1 y q') (hm.1 x q)).elim
      subst hxy
      rw [ih hl.2 hm.2 fun z => ?_]
      constructor
      · intro hz
        rcases List.mem_cons.1 ((h z).1 (List.mem_cons_of_mem _ hz)) with q | q
        · subst q; exact (ltE_asymm (hl.1 _ hz) (hl.1 _ hz)).elim
        · exact q
      · intro hz
        rcases List.mem_cons.1 ((h z).2 (List.mem_cons_of_mem _ hz)) with q | q
        · subst q; exact (ltE_asymm (hm.1 _ hz) (hm.1 _ hz)).elim
        · exact q
/-- What comes behind the last of those ahead comes behind all of them. -/
theorem ahead_all {A : List En} {x y : En} (hA : (A ++ [y]).Pairwise ltE) (h : ltE y x) : ∀ z ∈ A ++ [y], ltE z x := fun z hz => by
  rcases List.mem_append.1 hz with q | q
  · exact ltE_trans ((List.pairwise_append.1 hA).2.2 z q y (by simp)) h
  · rw [List.mem_singleton.1 q]; exact h
/-- One more, where it belongs. -/
theorem ins_sorted {A B : List En} {x : En} (hR : (A ++ B).Pairwise ltE) (h1 : ∀ y ∈ B, ltE x y) (h2 : ∀ y ∈ A, ltE y x) : (A ++ x :: B).Pairwise ltE := by
  obtain ⟨hA, hB, hAB⟩ := List.pairwise_append.1 hR
  refine List.pairwise_append.2 ⟨hA, List.pairwise_cons.2 ⟨h1, hB⟩, fun a ha b hb => ?_⟩
  rcases List.mem_cons.1 hb with q | q
  · rw [q]; exact h2 a ha
  · exact hAB a ha b q
/-- A handle's ends are gone: the others meet as before. -/
theorem sub_filter {α : Type} {p : α → Bool} {l : List α} {x y : α} (hx : p x = true) (hy : p y = true) : List.Sublist [x, y] (l.filter p) ↔ List.Sublist [x, y] l := by
  constructor
  · exact fun h => h.trans List.filter_sublist
  · intro h
    have := h.filter p
    simpa [hx, hy] using this
theorem meet_drop {ks : List Ky} {h a b : Int × Int} (ha : a ≠ h) (hb : b ≠ h) : Meet (ks.filter fun k => !decide (k.2 = h)) a b ↔ Meet ks a b := by
  unfold Meet
  rw [sub_filter (by simp [ha]) (by simp [hb]), sub_filter (by simp [hb]) (by simp [ha])]
theorem meet_gone {ks : List Ky} {h b : Int × Int} : ¬ Meet (ks.filter fun k => !decide (k.2 = h)) h b := fun q => by
  have := (sub_mem q.1).1
  simp at this
theorem sub_left {α : Type} {l m : List α} {x y : α} (hy : y ∉ m) (h : List.Sublist [x, y] (l ++ m)) : List.Sublist [x, y] l := by
  obtain ⟨a, b, hab, h1, h2⟩ := List.sublist_append_iff.1 h
  cases b with
  | nil => rw [List.append_nil] at hab; rw [hab]; exact h1
  | cons z r =>
    exfalso
    have : y ∈ z :: r := by
      cases a with
      | nil => rw [List.nil_append] at hab; rw [← hab]; simp
      | cons a0 a1 =>
        simp only [List.cons_append, List.cons.injEq] at hab
        cases a1 with
        | nil => simp only [List.nil_append] at hab; rw [← hab.2]; simp
        | cons a2 a3 => simp only [List.cons_append, List.cons.injEq] at hab; have := hab.2.2; simp at this
    exact hy (h2.subset this)
/-- Two new ends beyond all others meet nothing, and turn nothing. -/
theorem meet_more {ks : List Ky} {h a b : Int × Int} (ha : a ≠ h) (hb : b ≠ h) : Meet (ks ++ [(false, h), (true, h)]) a b ↔ Meet ks a b := by
  have key : ∀ {a b : Int × Int}, b ≠ h → (List.Sublist [((false, a) : Ky), (true, b)] (ks ++ [(false, h), (true, h)]) ↔ List.Sublist [((false, a) : Ky), (true, b)] ks) := fun {a b} hb =>
    ⟨fun q => sub_left (by simp [hb]) q, fun q => q.trans (List.sublist_append_left _ _)⟩
  unfold Meet
  rw [key hb, key ha]
theorem meet_new {ks : List Ky} {h b : Int × Int} (hk : ((false, h) : Ky) ∉ ks) (hb : b ≠ h) : ¬ Meet (ks ++ [(false, h), (true, h)]) h b := fun q =>
  hk (sub_mem (sub_left (by simp [hb]) q.1)).1
end Go.P11

/- The join of a law's walk with its row: arguments that read as they did; the answer; the package's errors out of the row's list. Nothing of any one program stands here. -/
namespace Go.Px
set_option linter.unusedVariables false
set_option linter.unusedSimpArgs false
set_option linter.unusedSectionVars false
open Go.RowKit Go.ChangeShapes Go.WideShapes

theorem trodAll_stays {H : Type} {enc : TypeId × Value → H} {P : Program} (hl : laidOutB P = true) {W W' : World} {sp' : Nat → Bool} : ∀ {ts : List TypeId} {vs : List Value} {ds : List (DataW H)} {ps : List MemPlace},
    DataW.TrodAll enc P W 0 (fun _ => true) true ts vs ds ps → (ts.all fun t => P.readableRec t && decide (t < P.types.size)) = true → (∀ p ∈ ps, W.sameAt W' p) → (∀ p ∈ ps, sp' p.block = true) → DataW.TrodAll enc P W' 0 sp' true ts vs ds ps
  | [], vs, ds, ps, h, _, _, _ => by
    obtain ⟨rfl, rfl, rfl⟩ := trodAll_nil h
    exact trodAll_mk0
  | t :: ts, vs, ds, ps, h, ht, hs, hsp => by
    obtain ⟨v, vs', d, ds', p, q, rfl, rfl, rfl, h1, h2⟩ := trodAll_cons h
    simp only [List.all_cons, Bool.and_eq_true, decide_eq_true_eq] at ht
    exact trodAll_cons_mk (WideElems.Trod_stays hl ht.1.1 ht.1.2 h1 (fun x hx => hs x (by simp [hx])) (fun x hx => hsp x (by simp [hx])))
      (trodAll_stays hl h2 ht.2 (fun x hx => hs x (by simp [hx])) (fun x hx => hsp x (by simp [hx])))

theorem bd_i64 {n : Int} (h : (Lit.int .i64 n).wf = true) : -9223372036854775808 ≤ n ∧ n ≤ 9223372036854775807 := by
  simp only [Lit.wf, Bool.and_eq_true, decide_eq_true_eq] at h
  exact h
/-- A law that returns true, and turns nothing old. -/
theorem law_post {H : Type} {enc : TypeId × Value → H} {P : Program} {f : Func} {s : ChangeSpec} {tb : TypeId} {W W' : World} {args : Array Value} {ds gs : List (DataW H)} {before : List MemPlace}
    (hl : laidOutB P = true) (hr : f.resultTypes = #[tb]) (hb : P.underlying tb = some .bool) (hts : (f.params.toList.all fun t => P.readableRec t && decide (t < P.types.size)) = true) (hv : s.vars = [])
    (hfn : (s.fn H ds).results = [.lit (.bool true)] ∧ (s.fn H ds).args = ds ∧ (s.fn H ds).vars = []) (hW : DataW.Whole enc P f.params.toList s.vars false W args.toList ds gs before) (hk : Keep Nn W W') :
    s.post enc P f false true false false W args (.bool true) W' := by
  have hW' := hW
  obtain ⟨p, q, hA, hV, he, hfz, hnd⟩ := hW'
  rw [hv] at hV
  obtain ⟨rfl, rfl⟩ := trodVars_none hV
  have hlt : ∀ x ∈ p, x.block < W.heap.size := fun x hx => by
    have := hW.lt x (by rw [he]; simp [hx])
    exact this
  have e1 : ds ++ ([] : List (DataW H)) = ds := by simp
  refine ⟨ds, [], before, [], p, [], hW, ?_, ?_, ?_, hk.below.frame _, fun h => by cases h⟩
  · rw [e1, hfn.1, hr]
    exact trodAll_mk1 (shut_bool hb true)
  · rw [e1, hfn.2.1]
    exact trodAll_stays hl hA hts (fun x hx => hk.below.same (hlt x hx)) (fun x hx => by simpa using hlt x hx)
  · rw [e1, hfn.2.2, hv]
    rfl

theorem sents {P : Program} {W : World} {nm : String} {ti tp te ts : TypeId} {ms : Array (String × TypeId)} {f : Field} (hi : P.underlying ti = some (.interface ms)) (hrow : ∀ u, P.typeName? 3 u = some nm → u = tp)
    (hp : P.underlying tp = some (.pointer te)) (he : P.underlying te = some (.struct #[f])) (hft : f.type = ts) (hfo : f.offset = 0) (hs : P.underlying ts = some .string) (hc : P.cellsOf te = 1) (hcs : P.cellsOf ts = 1) :
    ∀ {l : List (String × DataW Unit)} {ps : List MemPlace}, DataW.LaidVars P W l ps → (∀ x ∈ l, ∃ text, x.2 = .iface nm (.ptr (.agg [.lit (.string text)]))) →
    (∀ x ∈ l, ∀ g, P.globalNamed x.1 = some g → (P.globals[g]?).map (·.type) = some ti) →
    (∀ b off, MemPlace.cell b off ∈ ps → (∃ c t, W.heap[b]? = some (.cells c t (0, 0))) ∧ ∀ u v, W.cell? ⟨b, off, none⟩ = some (.iface u v) → Value.okWide P W .any 0 u v) →
    ∃ as : List Addr, as.length = l.length ∧ (as.map fun a => MemPlace.cell a.block a.off).Sublist ps ∧
      ∀ (i : Nat) x a, l[i]? = some x → as[i]? = some a → ∃ g, P.globalNamed x.1 = some g ∧ W.cell? ⟨g, 0, none⟩ = some (.iface tp (.pointer (some a))) ∧ ∃ c u, W.heap[a.block]? = some (.cells c u (0, 0))
  | [], ps, _, _, _, _ => ⟨[], rfl, by simp, fun i x a h => by simp at h⟩
  | (n, d) :: r, ps, h, hd, hg, hrows => by
    obtain ⟨g, t, cs, fuel, p, q, hg0, ht0, hv0, hd0, hr0, rfl⟩ := h
    obtain ⟨text, htext⟩ := hd (n, d) (by simp)
    simp only at htext
    subst htext
    have ht1 := hg _ (List.mem_cons_self ..) g hg0
    obtain rfl := Option.some.inj (ht1.symm.trans ht0)
    obtain ⟨l0⟩ := cs
    have ok0 : ∀ u v, l0 = [.iface u v] → Value.okWide P W .any 0 u v := fun u v e => by
      subst e
      exact (hrows g 0 (by simp [MemPlace.row])).2 u v (by simpa using World.var?_cell hg0 hv0 0)
    obtain ⟨a, s, rfl, hca, _, _, rfl⟩ := errorString_of_trod hi hrow hp he hft hfo hs hc hcs hd0 ok0
    obtain ⟨as, h1, h2, h3⟩ := sents hi hrow hp he hft hfo hs hc hcs hr0 (fun x hx => hd x (List.mem_cons_of_mem _ hx)) (fun x hx => hg x (List.mem_cons_of_mem _ hx)) (fun b off hm => hrows b off (by simp [hm]))
    refine ⟨a :: as, by simp [h1], ?_, ?_⟩
    · have e : MemPlace.row a 1 = [MemPlace.cell a.block a.off] := by simp [MemPlace.row]
      rw [List.map_cons, e, List.append_assoc]
      exact (List.Sublist.append (List.nil_sublist _) (List.Sublist.append (List.Sublist.refl [MemPlace.cell a.block a.off]) h2))
    · intro i x a' hx ha
      rcases i with _ | i
      · simp only [List.getElem?_cons_zero, Option.some.injEq] at hx ha
        subst hx ha
        refine ⟨g, hg0, ?_, ?_⟩
        · have := World.var?_cell hg0 hv0 0
          simpa using this
        · exact (hrows a.block a.off (by simp [MemPlace.row])).1
      · simp only [List.getElem?_cons_succ] at hx ha
        exact h3 i x a' hx ha

/-- The package's errors, as the row's list lays them: the variables 0 .. in their order. -/
theorem errs_of_laid {P : Program} {W : World} {gs : List Nat} {l : List (String × DataW Unit)} {nm : String} {ti tp te ts : TypeId} {ms : Array (String × TypeId)} {f : Field} (hi : P.underlying ti = some (.interface ms)) (hrow : ∀ u, P.typeName? 3 u = some nm → u = tp)
    (hp : P.underlying tp = some (.pointer te)) (he : P.underlying te = some (.struct #[f])) (hft : f.type = ts) (hfo : f.offset = 0) (hs : P.underlying ts = some .string) (hc : P.cellsOf te = 1) (hcs : P.cellsOf ts = 1)
    (hgnd : gs.Nodup) (hd : ∀ x ∈ l, ∃ text, x.2 = .iface nm (.ptr (.agg [.lit (.string text)]))) (hnames : l.map (fun x => P.globalNamed x.1) = gs.map some) (htypes : gs.all (fun g => ((P.globals[g]?).map (·.type)) == some ti) = true)
    (hh : l.filter (fun x => x.2.handleName?.isSome) = []) (h : laidMetH P l W) : ∃ E, Errs gs W tp E := by
  unfold laidMetH at h
  rw [hh] at h
  obtain ⟨ps, hv, hnd, hrows⟩ := h
  have hlen : l.length = gs.length := by
    have := congrArg List.length hnames
    simpa using this
  have hidx : ∀ (i : Nat) (x : String × DataW Unit), l[i]? = some x → ∃ g, gs[i]? = some g ∧ P.globalNamed x.1 = some g := fun i x hx => by
    have h1 : (l.map (fun x => P.globalNamed x.1))[i]? = some (P.globalNamed x.1) := by simp [hx]
    rw [hnames] at h1
    have hlt : i < gs.length := by
      have := (List.getElem?_eq_some_iff.1 hx).1
      omega
    simp [hlt] at h1
    exact ⟨gs[i], by simp [hlt], h1.symm⟩
  obtain ⟨as, h1, h2, h3⟩ := sents hi hrow hp he hft hfo hs hc hcs hv hd (fun x hx g hg => by
    obtain ⟨i, hlt, rfl⟩ := List.getElem_of_mem hx
    obtain ⟨g', h5, h6⟩ := hidx i _ (List.getElem?_eq_getElem hlt)
    obtain rfl := Option.some.inj (h6.symm.trans hg)
    simp only [List.all_eq_true, beq_iff_eq] at htypes
    exact htypes g' (List.mem_of_getElem? h5)) hrows
  have key : ∀ (i g : Nat), gs[i]? = some g → ∃ a, as[i]? = some a ∧ W.cell? ⟨g, 0, none⟩ = some (.iface tp (.pointer (some a))) ∧ ∃ c u, W.heap[a.block]? = some (.cells c u (0, 0)) := fun i g hg => by
    have hlt : i < gs.length := (List.getElem?_eq_some_iff.1 hg).1
    have hx : l[i]? = some (l[i]'(by omega)) := List.getElem?_eq_getElem (by omega)
    have ha : as[i]? = some (as[i]'(by omega)) := List.getElem?_eq_getElem (by omega)
    obtain ⟨g', h4, h5, h6⟩ := h3 i _ _ hx ha
    obtain ⟨g2, h7, h8⟩ := hidx i _ hx
    obtain rfl := Option.some.inj (h7.symm.trans hg)
    obtain rfl := Option.some.inj (h8.symm.trans h4)
    exact ⟨_, ha, h5, h6⟩
  have at_ : ∀ g, gs.contains g = true → gs[gs.idxOf g]? = some g := fun g hg => by
    have hm : g ∈ gs := by simpa using hg
    rw [List.getElem?_eq_getElem (List.idxOf_lt_length_of_mem hm)]
    simp
  have hnd2 := hnd.sublist h2
  refine ⟨fun g => as.getD (gs.idxOf g) ⟨0, 0, none⟩, fun g hg => ?_, fun g hg => ?_, fun g h hg hh2 e => ?_⟩
  · obtain ⟨a, ha, hb, _⟩ := key _ g (at_ g hg)
    simpa [List.getD_eq_getElem?_getD, ha] using hb
  · obtain ⟨a, ha, _, hb⟩ := key _ g (at_ g hg)
    simpa [List.getD_eq_getElem?_getD, ha] using hb
  · obtain ⟨a, ha, _, _⟩ := key _ g (at_ g hg)
    obtain ⟨b, hb, _, _⟩ := key _ h (at_ h hh2)
    simp only [List.getD_eq_getElem?_getD, ha, hb, Option.getD_some] at e
    subst e
    have q1 : (as.map fun a => MemPlace.cell a.block a.off)[gs.idxOf g]? = some (.cell a.block a.off) := by simp [ha]
    have q2 : (as.map fun a => MemPlace.cell a.block a.off)[gs.idxOf h]? = some (.cell a.block a.off) := by simp [hb]
    have hg' : gs.idxOf g < (as.map fun a => MemPlace.cell a.block a.off).length := (List.getElem?_eq_some_iff.1 q1).1
    have hij := (List.getElem?_inj hg' hnd2).1 (q1.trans q2.symm)
    have e1 := at_ g hg
    rw [hij, at_ h hh2] at e1
    exact (Option.some.inj e1).symm
end Go.Px

/- Arguments that are slices, and structs of numbers: what they are. Nothing of any one program stands here. -/
namespace Go.Px
set_option linter.unusedVariables false
set_option linter.unusedSimpArgs false
set_option linter.unusedSectionVars false
open Go.RowKit Go.ChangeShapes Go.WideShapes Go.Deep

/-- Of what kind a cell is: a number's, or yes and no. -/
def OkC : Option IntKind → Value → Prop
  | some k, v => ∃ n, v = .int k n ∧ (Lit.int k n).wf = true
  | none, v => ∃ b, v = .bool b
def OkCs : List (Option IntKind) → List Value → Prop
  | [], [] => True
  | k :: ks, v :: vs => OkC k v ∧ OkCs ks vs
  | _, _ => False
theorem OkCs.cons {k : Option IntKind} {ks : List (Option IntKind)} {cs : List Value} (h : OkCs (k :: ks) cs) : ∃ v vs, cs = v :: vs ∧ OkC k v ∧ OkCs ks vs := by
  cases cs with
  | nil => exact h.elim
  | cons v vs => exact ⟨v, vs, rfl, h.1, h.2⟩
theorem OkCs.nil {cs : List Value} (h : OkCs [] cs) : cs = [] := by
  cases cs with
  | nil => rfl
  | cons v vs => exact h.elim
theorem OkCs.app {ks ls : List (Option IntKind)} : ∀ {cs ds : List Value}, OkCs ks cs → OkCs ls ds → OkCs (ks ++ ls) (cs ++ ds) := by
  induction ks with
  | nil =>
    intro cs ds h h2
    cases cs with
    | nil => exact h2
    | cons _ _ => exact h.elim
  | cons k ks ih =>
    intro cs ds h h2
    cases cs with
    | nil => exact h.elim
    | cons c cs => exact ⟨h.1, ih h.2 h2⟩

def shapeF (P : Program) (g : TypeId → List (Option IntKind) → Bool) : List Field → Nat → List (Option IntKind) → Bool
  | [], _, ks => ks.isEmpty
  | f :: r, off, ks => Nat.beq f.offset off && Nat.ble (P.cellsOf f.type) ks.length && g f.type (ks.take (P.cellsOf f.type)) && shapeF P g r (off + P.cellsOf f.type) (ks.drop (P.cellsOf f.type))
/-- The cells of a type. -/
def shapeB (P : Program) : Nat → TypeId → List (Option IntKind) → Bool
  | 0, _, _ => false
  | n + 1, t, ks => match P.underlying t with
    | some (.int k) => match ks with
      | [some k'] => decide (k = k')
      | _ => false
    | some .bool => match ks with
      | [none] => true
      | _ => false
    | some (.struct fs) => shapeF P (shapeB P n) fs.toList 0 ks
    | _ => false

section
variable {H : Type} {enc : TypeId × Value → H} {P : Program} {W : World} {base : Nat} {spare : Nat → Bool} {held : Bool}

theorem shapeF_ok {n : Nat} (ih : ∀ t ks, shapeB P n t ks = true → ∀ fuel cs y, cs.length = ks.length → DataW.trod enc P W base spare held fuel t cs = some y → OkCs ks cs) {cs : List Value} {fuel : Nat} :
    ∀ (fl : List Field) (off : Nat) (ks : List (Option IntKind)), shapeF P (shapeB P n) fl off ks = true → (∀ f ∈ fl, ∃ y, DataW.trod enc P W base spare held fuel f.type ((cs.drop f.offset).take (P.cellsOf f.type)) = some y) → (cs.drop off).length = ks.length → OkCs ks (cs.drop off)
  | [], off, ks, h, _, hl => by
    simp only [shapeF, List.isEmpty_iff] at h
    subst h
    have : cs.drop off = [] := List.eq_nil_of_length_eq_zero (by simpa using hl)
    rw [this]
    trivial
  | f :: r, off, ks, h, hf, hl => by
    simp only [shapeF, Bool.and_eq_true] at h
    obtain ⟨⟨⟨h1, h2⟩, h3⟩, h4⟩ := h
    have h1 : f.offset = off := Nat.eq_of_beq_eq_true h1
    have h2 : P.cellsOf f.type ≤ ks.length := by simpa [Nat.ble_eq] using h2
    obtain ⟨y, hy⟩ := hf f (by simp)
    rw [h1] at hy
    have a1 := ih _ _ h3 _ _ _ (by rw [List.length_take, List.length_take, hl]) hy
    have a2 := shapeF_ok ih (cs := cs) (fuel := fuel) r _ _ h4 (fun g hg => hf g (by simp [hg])) (by simp only [List.length_drop] at hl ⊢; omega)
    have a3 := a1.app a2
    rw [List.take_append_drop, ← List.drop_drop, List.take_append_drop] at a3
    exact a3
theorem shape_ok : ∀ (n : Nat) (t : TypeId) (ks : List (Option IntKind)), shapeB P n t ks = true → ∀ (fuel : Nat) (cs : List Value) (y : DataW H × List MemPlace), cs.length = ks.length → DataW.trod enc P W base spare held fuel t cs = some y → OkCs ks cs
  | 0, _, _, h, _, _, _, _, _ => by simp [shapeB] at h
  | n + 1, t, ks, h, fuel, cs, y, hl, hy => by
    simp only [shapeB] at h
    split at h
    · rename_i k hu
      split at h
      · rename_i k'
        obtain ⟨m, rfl, _, hw⟩ := DataW.trod_int hu hy
        have : k = k' := by simpa using h
        subst this
        exact ⟨⟨m, rfl, hw⟩, trivial⟩
      · cases h
    · rename_i hu
      split at h
      · obtain ⟨b, rfl, _⟩ := DataW.trod_bool hu hy
        exact ⟨⟨b, rfl⟩, trivial⟩
      · cases h
    · rename_i fs hu
      obtain ⟨xs, m, _, _, _, hxl, hf⟩ := DataW.trod_struct hu hy
      have := shapeF_ok (shape_ok n) (cs := cs) (fuel := m) fs.toList 0 ks h (fun f hf' => by
        obtain ⟨i, hi, rfl⟩ := List.getElem_of_mem hf'
        have h5 := hf i fs[i] (by simp)
        have hix : i < xs.length := by rw [hxl]; simpa using hi
        rw [List.getElem?_eq_getElem hix] at h5
        exact ⟨_, h5⟩) (by simpa using hl)
      simpa using this
    · cases h

/-- An argument that is a struct of numbers. -/
theorem open_cells {r : Reach} {b0 : Nat} {t : TypeId} {fs : Array Field} {v : Value} {d : DataW H} {p : List MemPlace} (ht : P.underlying t = some (.struct fs)) (ks : List (Option IntKind)) (hc : P.cellsOf t = ks.length) (hs : shapeB P 8 t ks = true)
    (hval : Value.okWide P W r b0 t v) (h : DataW.Trod enc P W base spare held t v d p) : ∃ cs : List Value, v = .agg cs.toArray ∧ OkCs ks cs := by
  obtain ⟨cs, rfl, hsz⟩ := okWide_struct ht hval
  obtain ⟨fuel, hf⟩ := h
  have h1 := shape_ok 8 t ks hs fuel cs.toList _ (by rw [← hc, ← hsz]; simp) (by simpa [Value.cells] using hf)
  exact ⟨cs.toList, by simp, h1⟩

/-- An argument that is a slice. -/
theorem open_list {α : Type} [Inhabited α] {f : α → List Value} {sz : Nat} {r : Reach} {b0 : Nat} {t e : TypeId} {v : Value} {d : DataW H} {p : List MemPlace} (hf : ∀ x, (f x).length = sz) (hsz : Nat.blt 0 sz = true) (ht : P.underlying t = some (.slice e))
    (ks : List (Option IntKind)) (hc : P.cellsOf e = sz) (hk : ks.length = sz) (hs : shapeB P 8 e ks = true) {R : α → Prop} (hdec : ∀ cs, OkCs ks cs → ∃ x, cs = f x ∧ R x) (hval : Value.okWide P W r b0 t v) (h : DataW.Trod enc P W base spare held t v d p) :
    ∃ (av : Option Addr) (l : List α) (c : Nat), v = .slice av l.length c ∧ Arr W sz av l.length c (flat f l) ∧ ∀ x ∈ l, R x := by
  have hsz : 0 < sz := by simpa [Nat.blt_eq] using hsz
  obtain ⟨a, len, cap, rfl⟩ := okWide_slice ht hval
  obtain ⟨fuel, hfu⟩ := h
  rcases open_slice ht hfu with ⟨hcs, _⟩ | ⟨A, len', cap', m, n, D, Pl, hcs, _, hl, _, hm, _, hx⟩
  · simp only [Value.cells, List.cons.injEq, and_true, Value.slice.injEq] at hcs
    obtain ⟨rfl, rfl, rfl⟩ := hcs
    exact ⟨none, [], 0, rfl, Arr.none_nil _ _, fun x hx => by simp at hx⟩
  · simp only [Value.cells, List.cons.injEq, and_true, Value.slice.injEq] at hcs
    obtain ⟨rfl, rfl, rfl⟩ := hcs
    have hle : len ≤ m := by rw [hm]; split <;> omega
    obtain ⟨g, hg⟩ := choose_lt (α := α) (n := len) (p := fun i x => W.cells? base (A.add (i * P.cellsOf e)) (P.cellsOf e) = some (f x) ∧ R x) (fun i hi => by
      obtain ⟨cs, h1, h2⟩ := hx i (by omega)
      have hl2 := (World.cells?_some h1).2.1
      obtain ⟨x, rfl, hr⟩ := hdec cs (shape_ok 8 e ks hs n cs _ (by rw [hl2, hc, hk]) h2)
      exact ⟨x, h1, hr⟩)
    refine ⟨some A, (List.range len).map g, cap, by simp, ⟨?_, fun _ => rfl, (fun h => by cases h), by simpa using hl, fun j u hu => ?_⟩, fun x hx => ?_⟩
    · rw [flat_len hf]
    · have hj : j < len * sz := by
        have := (List.getElem?_eq_some_iff.1 hu).1
        rw [flat_len hf] at this
        simpa using this
      have hi : j / sz < len := (Nat.div_lt_iff_lt_mul hsz).2 hj
      have hq : j % sz < sz := Nat.mod_lt _ hsz
      have ej : j = j / sz * sz + j % sz := by have := Nat.div_add_mod j sz; rw [Nat.mul_comm] at this; omega
      have h1 := (hg _ hi).1
      rw [hc] at h1
      have h2 := (World.cells?_some h1).2.2 (j % sz) hq
      rw [add_add, ← ej] at h2
      have h3 : (flat f ((List.range len).map g))[j / sz * sz + j % sz]? = (f (g (j / sz)))[j % sz]? := flat_get hf (by simp [hi]) hq
      rw [← ej, hu] at h3
      show W.cell? (A.add j) = some u
      rw [h2, ← h3]
    · obtain ⟨i, hi, rfl⟩ := List.mem_map.1 hx
      exact (hg i (by simpa using hi)).2
end
end Go.Px
