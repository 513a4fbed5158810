/- A part of the proof: texts put together. -/
import Derived.Test.YtpojafdllcioiaaGreatDoorG1
import Derived.Lib.AppendZerosOnto
import Derived.Lib.Overlaps
import Derived.Maps.RangeRun
import Derived.WalkKit
import Derived.ProofKit
import Derived.OpenShut
import Derived.Carry
import Derived.Stop.LaidErr
import Derived.Deep.DeepHandedRow
import Derived.Deep.DeepWitnessRowRef
import Derived.Deep.Slices
/- The walker: 'copy' into a slice of one's own, 'append' of so many zeros to a first part where there is no room, a slice drawn longer within its room, slices.overlaps. Nothing of any one program stands here. -/
namespace Go.Px
set_option linter.unusedVariables false
set_option linter.unusedSimpArgs false
set_option linter.unusedSectionVars false
open Go.RowKit
section
variable {P : Program} {w : World} {base : Nat} {e : TypeId} {sz k c : Nat} {av : Option Addr} {xs : List Value}
theorem putAt_nil0 (A : List Value) (o : Nat) : putAt A o [] = A := by simp [putAt]
theorem min_def' (a b : Nat) : Nat.min a b = if a ≤ b then a else b := Nat.min_def
theorem own_copy (hown : w.ownsRow base e sz (.slice av k c) k xs) {dT sT ty : TypeId} (ht : P.underlying dT = some (.slice e)) (hi : (P.info? e).map (·.size) = some sz) (hsz : 0 < sz) {i : Nat} (hik : i ≤ k) {sv : Option Addr} {m mc : Nat} {news : List Value}
    (hsrc : Arr w sz sv m mc news) (h1 : ∀ u ∈ news.take (Nat.min m (k - i) * sz), u.oneCell' = true) :
    ∃ w', (Builtin.copy_ #[dT, sT] ty #[.slice (cutA av i c sz) (k - i) (c - i), .slice sv m mc]).run P w = .ok (goInt (Nat.min m (k - i) : Nat)) w' ∧ w'.ownsRow base e sz (.slice av k c) k (putAt xs (i * sz) (news.take (Nat.min m (k - i) * sz))) ∧ Keep (fun j => Value.ownBlock (.slice av k c) = some j) w w' := by
  obtain ⟨inf, hi1, hi2⟩ := Option.map_eq_some_iff.1 hi
  have hmm : Nat.min m (k - i) ≤ m := Nat.min_le_left _ _
  have hmk : Nat.min m (k - i) ≤ k - i := Nat.min_le_right _ _
  have hlen : (news.take (Nat.min m (k - i) * sz)).length = Nat.min m (k - i) * sz := by
    rw [List.length_take, hsrc.len]
    exact Nat.min_eq_left (Nat.mul_le_mul_right _ hmm)
  obtain ⟨N, hN⟩ : ∃ N, N = Nat.min m (k - i) := ⟨_, rfl⟩
  rw [← hN] at hmm hmk hlen h1 ⊢
  have hfirst : (Builtin.firstCells inf.size N (.slice sv m mc)).run P w = .ok (news.take (N * sz)).toArray w := by
    cases sv with
    | none =>
      have hm0 : m = 0 := by have := hsrc.le; have := hsrc.none_ rfl; omega
      have hN0 : N = 0 := by omega
      rw [run_firstCells_none, hN0]
      simp
    | some A => exact run_firstCells_some w inf.size N A m mc _ (by rw [hlen, hi2]) (fun j v hj => by
        have hj' : news[j]? = some v := by
          rw [List.getElem?_take] at hj
          split at hj
          · exact hj
          · cases hj
        exact hsrc.cell j v hj')
  rcases Nat.eq_zero_or_pos N with h0 | h0
  · have e0 : news.take (N * sz) = [] := by rw [h0]; simp
    rw [e0] at hfirst ⊢
    refine ⟨w, ?_, by rw [putAt_nil0]; exact hown, Keep.refl _ _⟩
    cases hc : cutA av i c sz <;> simp [Builtin.copy_, run_underlying ht, Builtin.lenOf, sizeOf, typeInfo, hi1, ← hN, hfirst, storeCells]
  · have hsome : ∃ g, av = some ⟨g, 0, none⟩ := by
      rcases hown.2 with ⟨h, hk0⟩ | ⟨g, cap, cur, h, _⟩
      · omega
      · simp only [Value.slice.injEq] at h
        exact ⟨g, h.1⟩
    obtain ⟨g, rfl⟩ := hsome
    have hc : k ≤ c := (own_arr hown).le
    have e1 : cutA (some ⟨g, 0, none⟩) i c sz = some ((sa (some ⟨g, 0, none⟩)).add (i * sz)) := by
      unfold cutA
      rw [if_neg (by omega)]
      rfl
    obtain ⟨w', hr, hx, hk⟩ := own_cells (P := P) hown (o := i * sz) (vs := news.take (N * sz)) (by rw [hlen, ← Nat.add_mul]; exact Nat.mul_le_mul_right _ (by omega)) (by rw [hlen]; exact Nat.mul_pos h0 hsz) h1
    refine ⟨w', ?_, hx, hk⟩
    rw [e1]
    simp [Builtin.copy_, run_underlying ht, Builtin.lenOf, sizeOf, typeInfo, hi1, ← hN, hfirst, hr]
/-- A slice of one's own, drawn longer within its room: what stands there is not known. -/
theorem own_longer (hown : w.ownsRow base e sz (.slice av k c) k xs) {j : Nat} (hk : 0 < k) (hj : k + j ≤ c) : ∃ ys, ys.length = j * sz ∧ w.ownsRow base e sz (.slice av (k + j) c) (k + j) (xs ++ ys) := by
  rcases hown.2 with ⟨h, hk0⟩ | ⟨g, cap, cur, h, hbg, hg, hnc, hcm, hcs, htake⟩
  · omega
  · simp only [Value.slice.injEq] at h
    obtain ⟨rfl, _, rfl⟩ := h
    have hle : (k + j) * sz ≤ cur.toList.length := by rw [Array.length_toList, hcs]; exact Nat.mul_le_mul_right _ hj
    have hsp : cur.toList.take ((k + j) * sz) = xs ++ (cur.toList.drop (k * sz)).take (j * sz) := by
      rw [Nat.add_mul, List.take_add, htake]
    refine ⟨(cur.toList.drop (k * sz)).take (j * sz), ?_, ?_, .inr ⟨g, c, cur, rfl, hbg, hg, hj, hcm, hcs, hsp⟩⟩
    · rw [List.length_take, List.length_drop]
      rw [Nat.add_mul] at hle
      exact Nat.min_eq_left (by omega)
    · rw [← hsp, List.length_take]
      exact Nat.min_eq_left hle
theorem reps_one {n : Nat} {zs : List Value} (h : ∀ u ∈ zs, u.oneCell' = true) : ∀ u ∈ reps n zs, u.oneCell' = true := fun u hu => by
  simp only [reps, List.mem_flatten, List.mem_replicate] at hu
  obtain ⟨l, ⟨_, rfl⟩, hu⟩ := hu
  exact h u hu
/-- So many zeros behind a first part, where there is no room. -/
theorem own_growz (hown : w.ownsRow base e sz (.slice av k c) k xs) {t tn ty : TypeId} {kn kq : IntKind} {by_ i q : Nat} {zs : List Value} (ht : P.underlying t = some (.slice e)) (htn : P.underlying tn = some (.int kn)) (hi : (P.info? e).map (fun i => (i.size, i.bytes, i.zero.map (·.cells.toList))) = some (sz, by_, some zs)) (hz : zs.length = sz) (hsz : 0 < sz)
    (hik : i ≤ k) (hq : 0 < q) (hg : c < i + q) (h63 : i + q ≤ maxLen ∧ (i + q) * by_ ≤ 140737488355328) :
    ∃ w' c', (Builtin.append_ #[t, tn] ty #[.slice av i c, .int kq q]).run P w = .ok (.slice (some ⟨w.heap.size, 0, none⟩) (i + q) c') w' ∧ w'.ownsRow w.heap.size e sz (.slice (some ⟨w.heap.size, 0, none⟩) (i + q) c') (i + q) (xs.take (i * sz) ++ reps q zs) ∧ Keep Nn w w' := by
  obtain ⟨inf, hi1, hi2⟩ := Option.map_eq_some_iff.1 hi
  simp only [Prod.mk.injEq] at hi2
  obtain ⟨h2, h3, h4⟩ := hi2
  obtain ⟨z, hz1, hz2⟩ := Option.map_eq_some_iff.1 h4
  have hcut := own_arr (own_cut hown hik)
  have hold : (Builtin.firstCells inf.size i (.slice av i c)).run P w.drew = .ok (xs.take (i * sz)).toArray w.drew := by
    cases av with
    | none =>
      have h0 : i = 0 := by have := hcut.le; have := hcut.none_ rfl; omega
      rw [run_firstCells_none, h0]
      simp
    | some A => exact run_firstCells_some w.drew inf.size i A i c _ (by rw [hcut.len, h2]) (fun j v hj => hcut.cell j v hj)
  have hmx : i + q ≤ 9223372036854775807 := by have := h63.1; simp only [maxLen] at this; omega
  have hmul : q * inf.bytes ≤ (i + q) * inf.bytes := Nat.mul_le_mul_right _ (by omega)
  have hr := Lib.run_append_grow_zeros (P := P) w t tn ty e inf z kq kn ht htn hi1 hz1 av i c (xs.take (i * sz)) hold q hq (by omega) hg (by omega) (by rw [h3] at hmul ⊢; omega) (by rw [h3]; exact growslice_fits hg h63.2)
  have hge := grownCap_ge w (i + q) c e
  have hcm : grownCap w (i + q) c e ≤ maxLen := grownCap_le_maxLen w (i + q) c e h63.1
  have hzq : (Builtin.zeroCells z.cells q).toList = reps q zs := by rw [zero_reps, hz2]
  have hzc : z.cells.size = sz := by rw [← hz, ← hz2]; simp
  refine ⟨_, _, hr, ⟨?_, .inr ⟨w.heap.size, _, _, rfl, Nat.le_refl _, heap_alloc_new w.drew _, hge, hcm, ?_, ?_⟩⟩, ?_⟩
  · rw [List.length_append, hcut.len, reps_len, hz, Nat.add_mul]
  · simp only [Array.size_append, size_zeroCells, hzc, List.size_toArray, hcut.len, ← Nat.add_mul]
    congr 1
    omega
  · have e1 : ((xs.take (i * sz)).toArray ++ Builtin.zeroCells z.cells q ++ Builtin.zeroCells z.cells (grownCap w (i + q) c e - (i + q))).toList = (xs.take (i * sz) ++ reps q zs) ++ (Builtin.zeroCells z.cells (grownCap w (i + q) c e - (i + q))).toList := by
      simp [hzq]
    rw [e1]
    have e2 : (xs.take (i * sz) ++ reps q zs).length = (i + q) * sz := by rw [List.length_append, hcut.len, reps_len, hz, Nat.add_mul]
    rw [← e2, List.take_left]
  · have hg' : w.grownBy (w.drew.alloc (.cells ((xs.take (i * sz)).toArray ++ Builtin.zeroCells z.cells q ++ Builtin.zeroCells z.cells (grownCap w (i + q) c e - (i + q))) e)) none := ⟨rfl, rfl, rfl, by simp, fun k hk _ => heap_alloc_old w.drew _ hk⟩
    exact (Keep.of_grownBy hg' (Nat.le_succ _)).mono fun _ _ h => by cases h
/-- slices.overlaps, of a known block and a slice of one's own. -/
theorem run_overlaps_own {tS tR : TypeId} (ht : P.underlying tS = some (.slice e)) (hi : (P.info? e).map (·.size) = some sz) (hown : w.ownsRow base e sz (.slice av k c) k xs) (hk : 0 < k) (hsz : 0 < sz) {vb tV : Nat} {cs : List Value} (hv : w.heap[vb]? = some (.cells cs.toArray tV (0, 0))) (hne : Value.ownBlock (.slice av k c) ≠ some vb) (vl vc i n2 c2 : Nat) :
    (Extern.SlicesOverlaps.overlaps #[tS, tS] #[tR] #[.slice (some ⟨vb, 0, none⟩) vl vc, .slice (cutA av i c sz) n2 c2]).run P w = .ok (.bool false) w := by
  obtain ⟨inf, hi1, hi2⟩ := Option.map_eq_some_iff.1 hi
  rcases hown.2 with ⟨h, hk0⟩ | ⟨g, cap, cur, h, hbg, hg, hnc, hcm, hcs, htake⟩
  · omega
  · simp only [Value.slice.injEq] at h
    obtain ⟨rfl, _, rfl⟩ := h
    have hgv : g ≠ vb := fun e => hne (by simp [Value.ownBlock, e])
    obtain ⟨B2, hB2, hB2g⟩ : ∃ B2 : Addr, cutA (some ⟨g, 0, none⟩) i c sz = some B2 ∧ B2.block = g := by
      unfold cutA
      split
      · exact ⟨_, rfl, rfl⟩
      · exact ⟨_, rfl, add_block _ _⟩
    rw [hB2]
    have hcz : cur.size ≠ 0 := by
      rw [hcs]
      exact Nat.mul_ne_zero (by omega) (by omega)
    refine Lib.run_overlaps_apart w tS tR e ht sz (fun w => by simp [sizeOf, typeInfo, hi1, hi2]) ⟨vb, 0, none⟩ B2 vl vc n2 c2 (by rw [hB2g]; exact fun e => hgv e.symm) tV e cs.length cur.size ?_ ?_ hcz ?_ ?_
    · simp [World.shape?, hv]
    · simp [World.shape?, hB2g, hg]
    · simp [World.frozen?, hv]
    · simp [World.frozen?, hv]
end
section
variable {P : Program} {ops : Array Oper} {n : Nat} {Q : Exit → Act → World → Prop} {rest : List Oper} {env : Env} {M : Mem} {a : Act} {w : World} {base : Nat} {O : List Own}
theorem sxcopy (hf : Fr n env a) (hM : MemOk M w) {e : TypeId} {sz k c : Nat} {av : Option Addr} {xs : List Value} (hO : OwnOk base M (oS e sz (.slice av k c) k xs :: O) w) {o : Oper} {d : Tmp} {X Y : Operand} {dT sT : TypeId}
    (hgd : o.guard = none) (hd : o.dst = some d) (hdn : Nat.blt d n = true) (hop : o.op = .call { callee := .builtin .copy, args := #[X, Y], argTypes := #[dT, sT] }) {i : Nat} {sv : Option Addr} {m mc n2 c2 : Nat} {dv : Option Addr}
    (hX : look env none X = some (.slice dv n2 c2, [])) (hdv : dv = cutA av i c sz) (hn2 : n2 = k - i) (hc2 : c2 = c - i) (hY : look env none Y = some (.slice sv m mc, [])) (ht : P.underlying dT = some (.slice e)) (hi : (P.info? e).map (·.size) = some sz) (hsz : Nat.blt 0 sz = true) (hik : i ≤ k)
    {news : List Value} (hsrc : Arr w sz sv m mc news) (h1 : ∀ u ∈ news.take (Nat.min m (k - i) * sz), u.oneCell' = true)
    (kont : ∀ act w', Fr n ((d, .val (.int .i64 (Nat.min m (k - i) : Nat))) :: env) act → MemOk M w' → OwnOk base M (oS e sz (.slice av k c) k (putAt xs (i * sz) (news.take (Nat.min m (k - i) * sz))) :: O) w' → Keep (fun j => Value.ownBlock (.slice av k c) = some j) w w' → wpList P ops Q rest act w') :
    wpList P ops Q (o :: rest) a w := by
  subst hdv hn2 hc2
  have hown : w.ownsRow base e sz (.slice av k c) k xs := hO.own _ (List.mem_cons_self ..)
  obtain ⟨w', hr, hx, hk⟩ := own_copy (ty := o.type) (sT := sT) hown ht hi (by simpa [Nat.blt_eq] using hsz) hik hsrc h1
  refine wpList_plain hgd fun K hK => ?_
  refine wp_of_run (w2 := w') (v := goInt (Nat.min m (k - i) : Nat)) (nx := .value (goInt (Nat.min m (k - i) : Nat))) ?_ (.inl rfl) K Q ?_
  · have e1 : a.eval X = .slice (cutA av i c sz) (k - i) (c - i) := look_sound hf (c := none) trivial hX trivial
    have e2 : a.eval Y = .slice sv m mc := look_sound hf (c := none) trivial hY trivial
    rw [← e1, ← e2] at hr
    simp [execOp, hop, resolve, invoke, builtin, hr]
  · rw [hd]
    exact hK _ _ (kont _ _ (hf.putv (by simpa [Nat.blt_eq] using hdn) _) (hO.memTurn hM hk) (hO.turn hk hx) hk)
theorem sxgrowz (hf : Fr n env a) (hM : MemOk M w) {e : TypeId} {sz k c : Nat} {av : Option Addr} {xs : List Value} (hO : OwnOk base M (oS e sz (.slice av k c) k xs :: O) w) {o : Oper} {d : Tmp} {s x : Operand} {t tn : TypeId} {kn kq : IntKind} {by_ i q : Nat} {kk : Int} {zs : List Value}
    (hgd : o.guard = none) (hd : o.dst = some d) (hdn : Nat.blt d n = true) (hop : o.op = .call { callee := .builtin .append, args := #[s, x], argTypes := #[t, tn] })
    (hs : look env none s = some (.slice av i c, [])) (hx : look env none x = some (.int kq kk, [])) (hkk : kk = q) (ht : P.underlying t = some (.slice e)) (htn : P.underlying tn = some (.int kn)) (hi : (P.info? e).map (fun i => (i.size, i.bytes, i.zero.map (·.cells.toList))) = some (sz, by_, some zs)) (hz : zs.length = sz) (hsz : Nat.blt 0 sz = true)
    (hik : i ≤ k) (hq : 0 < q) (hg : c < i + q) (h63 : i + q ≤ maxLen ∧ (i + q) * by_ ≤ 140737488355328) (hb : base ≤ w.heap.size)
    (kont : ∀ act w' B c', Fr n ((d, .val (.slice (some ⟨B, 0, none⟩) (i + q) c')) :: env) act → MemOk M w' → OwnOk base M (oS e sz (.slice (some ⟨B, 0, none⟩) (i + q) c') (i + q) (xs.take (i * sz) ++ reps q zs) :: oS e sz (.slice av k c) k xs :: O) w' → w.heap.size = B → Keep Nn w w' → wpList P ops Q rest act w') :
    wpList P ops Q (o :: rest) a w := by
  subst hkk
  have hown : w.ownsRow base e sz (.slice av k c) k xs := hO.own _ (List.mem_cons_self ..)
  obtain ⟨w', c', hr, hx2, hk⟩ := own_growz (ty := o.type) (kq := kq) hown ht htn hi hz (by simpa [Nat.blt_eq] using hsz) hik hq hg h63
  refine wpList_plain hgd fun K hK => ?_
  refine wp_of_run (w2 := w') (v := .slice (some ⟨w.heap.size, 0, none⟩) (i + q) c') (nx := .value (.slice (some ⟨w.heap.size, 0, none⟩) (i + q) c')) ?_ (.inl rfl) K Q ?_
  · have e1 : a.eval s = .slice av i c := look_sound hf (c := none) trivial hs trivial
    have e2 : a.eval x = .int kq q := look_sound hf (c := none) trivial hx trivial
    rw [← e1, ← e2] at hr
    simp [execOp, hop, resolve, invoke, builtin, hr]
  · rw [hd]
    exact hK _ _ (kont _ _ w.heap.size _ (hf.putv (by simpa [Nat.blt_eq] using hdn) _) (hM.keepNn hk) (hO.more hM hk hb hx2) rfl hk)
/-- 'append', with all that is known of what has turned. -/
theorem sxappendk (hf : Fr n env a) (hM : MemOk M w) {e : TypeId} {sz by_ k : Nat} {v : Value} {xs : List Value} (hO : OwnOk base M (oS e sz v k xs :: O) w) {o : Oper} {d : Tmp} {s x : Operand} {t : TypeId}
    (hgd : o.guard = none) (hd : o.dst = some d) (hdn : Nat.blt d n = true) (hop : o.op = .call { callee := .builtin .append, args := #[s, x], argTypes := #[t, t] })
    {av : Option Addr} {m c : Nat} (hs : look env none s = some (v, [])) (hx : look env none x = some (.slice av m c, []))
    (ht : P.underlying t = some (.slice e)) (hi : (P.info? e).map (fun i => (i.size, i.bytes, i.zero.map (·.cells.size))) = some (sz, by_, some sz)) (hsz : Nat.blt 0 sz = true)
    {news : List Value} (hsrc : Arr w sz av m c news) (h1 : ∀ u ∈ news, u.oneCell' = true) (h63 : k + m ≤ maxLen ∧ (k + m) * by_ ≤ 140737488355328) (hb : base ≤ w.heap.size)
    (kont : ∀ act w' av' c', Fr n ((d, .val (.slice av' (k + m) c')) :: env) act → MemOk M w' → OwnOk base M (oS e sz (.slice av' (k + m) c') (k + m) (xs ++ news) :: O) w' → Keep (fun i => v.ownBlock = some i) w w' → (∀ j, Value.ownBlock (.slice av' (k + m) c') = some j → v.ownBlock = some j ∨ w.heap.size ≤ j) → wpList P ops Q rest act w') :
    wpList P ops Q (o :: rest) a w := by
  have hown : w.ownsRow base e sz v k xs := hO.own _ (List.mem_cons_self ..)
  obtain ⟨av', c', w', hr, ho, hg, hdr, hfr⟩ := append_own (ty := o.type) ht hi (by simpa [Nat.blt_eq] using hsz) hown hsrc h1 h63.1 h63.2 hb
  have hk : Keep (fun i => v.ownBlock = some i) w w' := Keep.of_grownBy hg hdr
  have hap : ∀ i, v.ownBlock = some i → ¬ i ∈ M.names := fun i hi => hO.apart (List.mem_cons_self ..) hi
  have hM' : MemOk M w' := hM.keep hk fun i hi hv => hap i hv hi
  have hfr' : ∀ j, Value.ownBlock (.slice av' (k + m) c') = some j → v.ownBlock = some j ∨ w.heap.size ≤ j := fun j hj => by
    rcases hfr with hs' | hs'
    · exact .inl (hs' ▸ hj)
    · exact .inr (hs' j hj)
  refine wpList_plain hgd fun K hK => ?_
  refine wp_of_run (w2 := w') (v := .slice av' (k + m) c') (nx := .value (.slice av' (k + m) c')) ?_ (.inl rfl) K Q ?_
  · refine ox_append hop ?_
    have e1 : a.eval s = v := look_sound hf (c := none) trivial hs trivial
    have e2 : a.eval x = .slice av m c := look_sound hf (c := none) trivial hx trivial
    rw [e1, e2]
    exact hr
  rw [hd]
  exact hK _ _ (kont _ w' av' c' (hf.putv (by simpa [Nat.blt_eq] using hdn) _) hM' (hO.turnB hM (hk.mono fun i _ hi => mem_ob.2 hi) (o' := oS e sz (.slice av' (k + m) c') (k + m) (xs ++ news)) ho (fun i hi => (hfr' i (mem_ob.1 hi)).imp (fun h => mem_ob.2 h) id) (ob_nd _)) hk hfr')
/-- A slice of one's own, drawn longer within its room. -/
theorem OwnOk.longer {e : TypeId} {sz k c j : Nat} {av : Option Addr} {xs : List Value} (hO : OwnOk base M (oS e sz (.slice av k c) k xs :: O) w) (hk : 0 < k) (hj : k + j ≤ c) : ∃ ys, ys.length = j * sz ∧ OwnOk base M (oS e sz (.slice av (k + j) c) (k + j) (xs ++ ys) :: O) w := by
  have hown : w.ownsRow base e sz (.slice av k c) k xs := hO.own _ (List.mem_cons_self ..)
  obtain ⟨ys, hy, hx⟩ := own_longer hown hk hj
  exact ⟨ys, hy, hO.turnS (Keep.refl _ _) (o' := oS e sz (.slice av (k + j) c) (k + j) (xs ++ ys)) hx (by cases av <;> exact List.Sublist.refl _)⟩
end
end Go.Px

/- The walker's rules for maps: made, looked at, written, struck, counted, gone over. Nothing of any one program stands here. -/
namespace Go.Px
set_option linter.unusedVariables false
set_option linter.unusedSimpArgs false
set_option linter.unusedSectionVars false
open Go.RowKit
open Go.ChangeMaps (setBlock)
section
variable {κ ν : Type} [DecidableEq κ] {fk : κ → Value} {fv : ν → Value} {L : List (κ × ν)}
variable {P : Program} {ops : Array Oper} {n : Nat} {Q : Exit → Act → World → Prop} {rest : List Oper} {env : Env} {M : Mem} {a : Act} {w : World} {base B : Nat} {O : List Own}

/-- What is looked up. -/
def lookV (fv : ν → Value) (L : List (κ × ν)) (z : ν) (x : κ) (c : Bool) : Value := if c then .tuple #[fv ((getK L x).getD z), .bool (hasK L x)] else fv ((getK L x).getD z)
theorem sxlookup (hf : Fr n env a) (hm : MapAt w B fk fv L) {k : TypeId} (K : KeyT P k fk) {o : Oper} {d : Tmp} {t e : TypeId} {X Y : Operand} {c : Bool} (hgd : o.guard = none) (hd : o.dst = some d) (hdn : Nat.blt d n = true) (hop : o.op = .lookup t X Y c)
    (hX : look env none X = some (.map (some B), [])) (x : κ) (hY : look env none Y = some (fk x, [])) (ht : P.underlying t = some (.map k e)) (z : ν) (hz : (P.info? e).bind (·.zero) = some (fv z)) {V : Value} (hV : lookV fv L z x c = V)
    (kont : ∀ act, Fr n ((d, .val V) :: env) act → wpList P ops Q rest act w) : wpList P ops Q (o :: rest) a w := by
  refine wpList_plain hgd fun K' hK' => ?_
  have hz' : (zeroValue e).run P w = .ok (fv z) w := by
    obtain ⟨i, hi, hz⟩ := Option.bind_eq_some_iff.1 hz
    simp [zeroValue, typeInfo, hi, hz]
  have hr := hm.lookup K ht hz' x c
  have e1 : a.eval X = .map (some B) := look_sound hf (c := none) trivial hX trivial
  have e2 : a.eval Y = fk x := look_sound hf (c := none) trivial hY trivial
  refine wp_of_run (w2 := w) (v := V) (nx := .value V) ?_ (.inl rfl) K' _ ?_
  · rw [← hV]
    simp [execOp, hop, e1, e2, hr, lookV]
  · rw [hd]
    exact hK' _ _ (kont _ (hf.putv (by simpa [Nat.blt_eq] using hdn) _))
theorem sxmapset (hf : Fr n env a) (hM : MemOk M w) (hO : OwnOk base M (oM B fk fv L :: O) w) {k : TypeId} (K : KeyT P k fk) {o : Oper} {t e : TypeId} {X Y Z : Operand} (hgd : o.guard = none) (hd : o.dst = none) (hop : o.op = .mapUpdate t X Y Z)
    (hX : look env none X = some (.map (some B), [])) (x : κ) (hY : look env none Y = some (fk x, [])) (v : ν) (hZ : look env none Z = some (fv v, [])) (ht : P.underlying t = some (.map k e))
    (kont : ∀ act w', Fr n env act → MemOk M w' → OwnOk base M (oM B fk fv (putK L x v) :: O) w' → Keep (fun i => i = B) w w' → wpList P ops Q rest act w') : wpList P ops Q (o :: rest) a w := by
  have hown := hO.own _ (List.mem_cons_self ..)
  obtain ⟨w', hr, hm, hk⟩ := hown.2.update K ht x v
  have hk' : Keep (fun i => i ∈ (oM B fk fv L).B) w w' := hk.mono fun i _ hi => List.mem_singleton.2 hi
  have e1 : a.eval X = .map (some B) := look_sound hf (c := none) trivial hX trivial
  have e2 : a.eval Y = fk x := look_sound hf (c := none) trivial hY trivial
  have e3 : a.eval Z = fv v := look_sound hf (c := none) trivial hZ trivial
  refine wpList_plain hgd fun K' hK' => ?_
  refine wp_of_run (w2 := w') (v := undef) (nx := .skip) ?_ (.inr ⟨rfl, rfl⟩) K' _ ?_
  · simp [execOp, hop, e1, e2, e3, hr]
  · rw [hd]
    exact hK' _ _ (kont _ w' hf (hO.memTurnB hM hk') (hO.turnS hk' (o' := oM B fk fv (putK L x v)) ⟨hown.1, hm⟩ (List.Sublist.refl _)) hk)
theorem sxmapins (hf : Fr n env a) (hM : MemOk M w) (hO : OwnOk base M (oM B fk fv L :: O) w) {k : TypeId} (K : KeyT P k fk) {o : Oper} {t e : TypeId} {X Y Z : Operand} (hgd : o.guard = none) (hd : o.dst = none) (hop : o.op = .insert t X Y Z)
    (hX : look env none X = some (.map (some B), [])) (x : κ) (hY : look env none Y = some (fk x, [])) (v : ν) (hZ : look env none Z = some (fv v, [])) (ht : P.underlying t = some (.map k e))
    (kont : ∀ act w', Fr n env act → MemOk M w' → OwnOk base M (oM B fk fv (putK L x v) :: O) w' → Keep (fun i => i = B) w w' → wpList P ops Q rest act w') : wpList P ops Q (o :: rest) a w := by
  have hown := hO.own _ (List.mem_cons_self ..)
  obtain ⟨w', hr, hm, hk⟩ := hown.2.update K ht x v
  have hk' : Keep (fun i => i ∈ (oM B fk fv L).B) w w' := hk.mono fun i _ hi => List.mem_singleton.2 hi
  have e1 : a.eval X = .map (some B) := look_sound hf (c := none) trivial hX trivial
  have e2 : a.eval Y = fk x := look_sound hf (c := none) trivial hY trivial
  have e3 : a.eval Z = fv v := look_sound hf (c := none) trivial hZ trivial
  refine wpList_plain hgd fun K' hK' => ?_
  refine wp_of_run (w2 := w') (v := undef) (nx := .skip) ?_ (.inr ⟨rfl, rfl⟩) K' _ ?_
  · simp [execOp, hop, e1, e2, e3, hr]
  · rw [hd]
    exact hK' _ _ (kont _ w' hf (hO.memTurnB hM hk') (hO.turnS hk' (o' := oM B fk fv (putK L x v)) ⟨hown.1, hm⟩ (List.Sublist.refl _)) hk)
theorem sxmapdel (hf : Fr n env a) (hM : MemOk M w) (hO : OwnOk base M (oM B fk fv L :: O) w) {k : TypeId} (K : KeyT P k fk) {o : Oper} {t e : TypeId} {X Y : Operand} (hgd : o.guard = none) (hop : o.op = .call { callee := .builtin .delete, args := #[X, Y], argTypes := #[t, k] }) (hd : o.dst = none)
    (hX : look env none X = some (.map (some B), [])) (x : κ) (hY : look env none Y = some (fk x, [])) (ht : P.underlying t = some (.map k e))
    (kont : ∀ act w', Fr n env act → MemOk M w' → OwnOk base M (oM B fk fv (delK L x) :: O) w' → Keep (fun i => i = B) w w' → wpList P ops Q rest act w') : wpList P ops Q (o :: rest) a w := by
  have hown := hO.own _ (List.mem_cons_self ..)
  obtain ⟨w', hr, hm, hk⟩ := hown.2.delete (ty := o.type) K ht x
  have hk' : Keep (fun i => i ∈ (oM B fk fv L).B) w w' := hk.mono fun i _ hi => List.mem_singleton.2 hi
  have e1 : a.eval X = .map (some B) := look_sound hf (c := none) trivial hX trivial
  have e2 : a.eval Y = fk x := look_sound hf (c := none) trivial hY trivial
  refine wpList_plain hgd fun K' hK' => ?_
  refine wp_of_run (w2 := w') (v := .tuple #[]) (nx := .value (.tuple #[])) ?_ (.inl rfl) K' _ ?_
  · simp [execOp, hop, resolve, invoke, builtin, e1, e2, hr]
  · rw [hd]
    exact hK' _ _ (kont _ w' hf (hO.memTurnB hM hk') (hO.turnS hk' (o' := oM B fk fv (delK L x)) ⟨hown.1, hm⟩ (List.Sublist.refl _)) hk)
theorem sxmaplen (hf : Fr n env a) (hm : MapAt w B fk fv L) {o : Oper} {d : Tmp} {t k e : TypeId} {X : Operand} (hgd : o.guard = none) (hd : o.dst = some d) (hdn : Nat.blt d n = true) (hop : o.op = .call { callee := .builtin .len, args := #[X], argTypes := #[t] })
    (hX : look env none X = some (.map (some B), [])) (ht : P.underlying t = some (.map k e)) (kont : ∀ act, Fr n ((d, .val (.int .i64 (L.length : Nat))) :: env) act → wpList P ops Q rest act w) : wpList P ops Q (o :: rest) a w := by
  have e1 : a.eval X = .map (some B) := look_sound hf (c := none) trivial hX trivial
  have hr := hm.len (ty := o.type) ht
  refine wpList_plain hgd fun K' hK' => ?_
  refine wp_of_run (w2 := w) (v := goInt (L.length : Nat)) (nx := .value (goInt (L.length : Nat))) ?_ (.inl rfl) K' _ ?_
  · simp [execOp, hop, resolve, invoke, builtin, e1, hr]
  · rw [hd]
    exact hK' _ _ (kont _ (hf.putv (by simpa [Nat.blt_eq] using hdn) _))
theorem sxmakemap (fk : κ → Value) (fv : ν → Value) (hf : Fr n env a) (hM : MemOk M w) (hO : OwnOk base M O w) {o : Oper} {d : Tmp} {t : TypeId} (hgd : o.guard = none) (hd : o.dst = some d) (hdn : Nat.blt d n = true) (hop : o.op = .makeMap t none) (hb : base ≤ w.heap.size)
    (kont : ∀ act w' B, Fr n ((d, .val (.map (some B))) :: env) act → MemOk M w' → OwnOk base M (oM B fk fv [] :: O) w' → w.heap.size = B → Keep Nn w w' → wpList P ops Q rest act w') : wpList P ops Q (o :: rest) a w := by
  have hk : Keep Nn w (w.alloc (.map #[] 0)) := keep_push w _
  refine wpList_plain hgd fun K' hK' => ?_
  refine wp_of_run (w2 := w.alloc (.map #[] 0)) (v := .map (some w.heap.size)) (nx := .value (.map (some w.heap.size))) ?_ (.inl rfl) K' _ ?_
  · simp [execOp, hop, Instr.makeMap, newObj]
    rfl
  · rw [hd]
    exact hK' _ _ (kont _ _ w.heap.size (hf.putv (by simpa [Nat.blt_eq] using hdn) _) (hM.keepNn hk) (hO.moreB hM hk hb (o := oM w.heap.size fk fv []) ⟨Nat.le_refl _, mapAt_new w fk fv⟩ (by simp [oM])) rfl hk)

theorem ox_entry {ρ : Operand → Value} {o : Oper} {x : Operand} {u v : Value} (hop : o.op = .entry x) (hx : ρ x = u) (h : (Instr.entry u).run P w = .ok v w) : (execOp ρ o).run P w = .ok (.value v) w := by
  simp [execOp, hop, hx, h]
/-! ### A map that is gone over -/
structure IterAt (w : World) (B r : Nat) (fk : κ → Value) (fv : ν → Value) (L left : List (κ × ν)) : Prop where
  map : MapAt w B fk fv L
  ne : r ≠ B
  it : ∃ (es : Array MapEntry) (clock since c0 : Nat) (seen : Array Nat), w.heap[B]? = some (.map es clock) ∧ w.heap[r]? = some (.mapIter (some B) since seen c0) ∧ (∀ x ∈ es.toList, x.born < since) ∧ since ≤ c0 ∧ since ≤ clock ∧ (es.toList.map (·.born)).Pairwise (· < ·) ∧
    (es.toList.filter fun e => !seen.contains e.born).map (fun e => (e.key, e.val)) = left.map (fun p => (fk p.1, fv p.2)) ∧ es.toList.map (fun e => (e.key, e.val)) = L.map (fun p => (fk p.1, fv p.2))
  sub : left.Sublist L
theorem IterAt.lt {w : World} {B r : Nat} {L left : List (κ × ν)} (h : IterAt w B r fk fv L left) : r < w.heap.size := by
  obtain ⟨_, _, _, _, _, _, hr, _⟩ := h.it
  exact (Array.getElem?_eq_some_iff.1 hr).1
theorem IterAt.keep {w w' : World} {B r : Nat} {L left : List (κ × ν)} {F : Nat → Prop} (h : IterAt w B r fk fv L left) (hk : Keep F w w') (h1 : ¬ F B) (h2 : ¬ F r) : IterAt w' B r fk fv L left := by
  have hB := h.map.lt
  have hr' := h.lt
  obtain ⟨es, clock, since, c0, seen, hb, hr, rest⟩ := h.it
  exact ⟨h.map.keep hk h1, h.ne, ⟨es, clock, since, c0, seen, (hk.block B hB h1).trans hb, (hk.block r hr' h2).trans hr, rest⟩, h.sub⟩
/-- A map and who goes over it. -/
def oI (B r : Nat) (fk : κ → Value) (fv : ν → Value) (L left : List (κ × ν)) : Own where
  B := [B, r]
  φ := fun b w => b ≤ B ∧ b ≤ r ∧ IterAt w B r fk fv L left
  lt' := fun h i hi => by
    simp only [List.mem_cons, List.not_mem_nil, or_false] at hi
    rcases hi with rfl | rfl
    · exact ⟨h.1, h.2.2.map.lt⟩
    · exact ⟨h.2.1, h.2.2.lt⟩
  stab := fun h hk hn => ⟨h.1, h.2.1, h.2.2.keep hk (hn B (by simp)) (hn r (by simp))⟩
  low := fun h hb => ⟨Nat.le_trans hb h.1, Nat.le_trans hb h.2.1, h.2.2⟩
theorem sxrange (hf : Fr n env a) (hM : MemOk M w) (hO : OwnOk base M (oM B fk fv L :: O) w) {o : Oper} {d : Tmp} {t k e : TypeId} {X : Operand} (hgd : o.guard = none) (hd : o.dst = some d) (hdn : Nat.blt d n = true) (hop : o.op = .range t X)
    (hX : look env none X = some (.map (some B), [])) (ht : P.underlying t = some (.map k e)) (hb : base ≤ w.heap.size)
    (kont : ∀ act w' r, Fr n ((d, .val (.pointer (some ⟨r, 0, none⟩))) :: env) act → MemOk M w' → OwnOk base M (oI B r fk fv L L :: O) w' → Keep Nn w w' → wpList P ops Q rest act w') : wpList P ops Q (o :: rest) a w := by
  have hown := hO.own _ (List.mem_cons_self ..)
  have hlt := hown.2.lt
  obtain ⟨es, clock, hbk, he, hp, hc⟩ := hown.2.ex
  have hr := run_range_map (P := P) w t k e B es clock ht hbk
  have hk : Keep Nn w (w.alloc (.mapIter (some B) clock #[] clock)) := keep_push w _
  have e1 : a.eval X = .map (some B) := look_sound hf (c := none) trivial hX trivial
  refine wpList_plain hgd fun K' hK' => ?_
  refine wp_of_run (w2 := w.alloc (.mapIter (some B) clock #[] clock)) (v := .pointer (some ⟨w.heap.size, 0, none⟩)) (nx := .value (.pointer (some ⟨w.heap.size, 0, none⟩))) ?_ (.inl rfl) K' _ ?_
  · simp [execOp, hop, e1, hr]
  · rw [hd]
    have hne : w.heap.size ≠ B := by omega
    refine hK' _ _ (kont _ _ w.heap.size (hf.putv (by simpa [Nat.blt_eq] using hdn) _) (hM.keepNn hk) (hO.turnB hM (hk.mono fun _ _ h => by cases h) (o' := oI B w.heap.size fk fv L L) ⟨hown.1, hb, ⟨hown.2.keep hk (fun h => h), hne, ?_, List.Sublist.refl _⟩⟩ (fun i hi => ?_) (by simp [oI]; omega)) hk)
    · exact ⟨es, clock, clock, clock, #[], ((MapKept.heap_alloc w _).2 B hlt).trans hbk, (MapKept.heap_alloc w _).1, hc, Nat.le_refl _, Nat.le_refl _, hp, by rw [List.filter_eq_self.2 (fun x _ => by simp)]; exact he, he⟩
    · simp only [oI, oM, List.mem_cons, List.not_mem_nil, or_false] at hi ⊢
      rcases hi with rfl | rfl
      · exact .inl rfl
      · exact .inr (Nat.le_refl _)
theorem erase_perm {α : Type} : ∀ {l : List α} {i : Nat} {x : α}, l[i]? = some x → l.Perm (x :: l.eraseIdx i)
  | [], _, _, h => by simp at h
  | y :: r, 0, x, h => by
    simp only [List.getElem?_cons_zero, Option.some.injEq] at h
    subst h
    exact List.Perm.refl _
  | y :: r, i + 1, x, h => by
    simp only [List.getElem?_cons_succ] at h
    exact ((erase_perm h).cons y).trans (List.Perm.swap _ _ _)
theorem map_split {α β γ : Type} {f : α → γ} {g : β → γ} : ∀ {l : List α} {m : List β} {i : Nat} {x : α}, l.map f = m.map g → l[i]? = some x → ∃ y, m[i]? = some y ∧ f x = g y := by
  intro l m i x h hx
  have h1 := congrArg (fun l => l[i]?) h
  simp only [List.getElem?_map, hx, Option.map_some] at h1
  cases hm : m[i]? with
  | none => rw [hm] at h1; cases h1
  | some y => rw [hm] at h1; exact ⟨y, rfl, Option.some.inj h1⟩
theorem filter_seen {es : List MapEntry} {seen : Array Nat} {e : MapEntry} (hp : (es.map (·.born)).Pairwise (· < ·)) {i : Nat} (hi : (es.filter fun x => !seen.contains x.born)[i]? = some e) :
    (es.filter fun x => !(seen.push e.born).contains x.born) = (es.filter fun x => !seen.contains x.born).eraseIdx i := by
  have h1 : (es.filter fun x => !(seen.push e.born).contains x.born) = (es.filter fun x => !seen.contains x.born).filter fun x => !(x.born == e.born) := by
    rw [List.filter_filter]
    refine List.filter_congr fun x _ => ?_
    rw [Array.contains_push, Bool.not_or, Bool.and_comm]
  rw [h1]
  refine ChangeMaps.filter_eq_eraseIdx (fun x : MapEntry => x.born == e.born) _ i e hi (by simp) ?_
  have h2 : ((es.filter fun x => !seen.contains x.born).map (·.born)).Pairwise (· < ·) := hp.sublist (List.filter_sublist.map _)
  refine (List.pairwise_map.1 h2).imp fun {x y} hxy hh => ?_
  simp only [beq_iff_eq] at hh
  omega
theorem sxmapnext (hf : Fr n env a) (hM : MemOk M w) {r : Nat} {left : List (κ × ν)} (hO : OwnOk base M (oI B r fk fv L left :: O) w) {o : Oper} {d : Tmp} {X : Operand} (hgd : o.guard = none) (hd : o.dst = some d) (hdn : Nat.blt d n = true) (hop : o.op = .next X false)
    (hX : look env none X = some (.pointer (some ⟨r, 0, none⟩), []))
    (done : left = [] → ∀ act, Fr n ((d, .val (.tuple #[.bool false])) :: env) act → wpList P ops Q rest act w)
    (more : ∀ (x : κ) (v : ν) (left' : List (κ × ν)), left.Perm ((x, v) :: left') → (x, v) ∈ L → ∀ act w', Fr n ((d, .val (.tuple #[.bool true, fk x, fv v])) :: env) act → MemOk M w' → OwnOk base M (oI B r fk fv L left' :: O) w' → Keep (fun i => i = r) w w' →
      (Instr.entry (.pointer (some ⟨r, 0, none⟩))).run P w' = .ok (.tuple #[fk x, fv v]) w' → wpList P ops Q rest act w') : wpList P ops Q (o :: rest) a w := by
  have hown := hO.own _ (List.mem_cons_self ..)
  have hI := hown.2.2
  obtain ⟨es, clock, since, c0, seen, hb, hr, hold, hsc, hcl, hp, hl, he⟩ := hI.it
  have e1 : a.eval X = .pointer (some ⟨r, 0, none⟩) := look_sound hf (c := none) trivial hX trivial
  have hlt := hI.lt
  have hleft : (leftOf es seen).toList = es.toList.filter fun e => !seen.contains e.born := by
    unfold leftOf
    rw [Array.toList_filter]
  rcases run_next_at (P := P) w o.type r B since c0 seen es clock hr hb hold hsc with ⟨h0, hrun⟩ | ⟨e, hem, w1, hw1, hrun⟩
  · have hz : left = [] := by
      have h1 : (leftOf es seen).toList = [] := List.eq_nil_of_length_eq_zero (by simpa using h0)
      rw [hleft] at h1
      rw [h1] at hl
      exact List.map_eq_nil_iff.1 hl.symm
    refine wpList_plain hgd fun K' hK' => ?_
    refine wp_of_run (w2 := w) (v := .tuple #[.bool false]) (nx := .value (.tuple #[.bool false])) ?_ (.inl rfl) K' _ ?_
    · simp [execOp, hop, e1, hrun]
    · rw [hd]
      exact hK' _ _ (done hz _ (hf.putv (by simpa [Nat.blt_eq] using hdn) _))
  · rw [hleft] at hem
    obtain ⟨i, hi⟩ := List.getElem?_of_mem hem
    obtain ⟨q, hq, hqe⟩ := map_split hl hi
    obtain ⟨x, v⟩ := q
    simp only [Prod.mk.injEq] at hqe
    have hw1h : w1.heap = w.heap := by rcases hw1 with rfl | rfl <;> rfl
    have hk : Keep (fun j => j = r) w (setBlock w1 r (.mapIter (some B) since (seen.push e.born) clock)) := by
      have : Keep (fun j => j = r) w w1 := by
        rcases hw1 with rfl | rfl
        · exact Keep.refl _ _
        · exact (Keep.refl _ _).drew
      refine this.trans ⟨rfl, rfl, rfl, by simp [setBlock], Nat.le_refl _, fun j hj hn => ?_⟩
      have : ¬ r = j := fun e => hn e.symm
      simp [setBlock, Array.getElem?_setIfInBounds, this]
    have hk' : Keep (fun j => j ∈ (oI B r fk fv L left).B) w (setBlock w1 r (.mapIter (some B) since (seen.push e.born) clock)) := hk.mono fun j _ hj => by subst hj; simp [oI]
    have hB2 : (setBlock w1 r (.mapIter (some B) since (seen.push e.born) clock)).heap[B]? = some (.map es clock) := (hk.block B hI.map.lt (fun e => hI.ne e.symm)).trans hb
    have hr2 : (setBlock w1 r (.mapIter (some B) since (seen.push e.born) clock)).heap[r]? = some (.mapIter (some B) since (seen.push e.born) clock) := by
      simp [setBlock, hw1h, hlt]
    have hit : IterAt (setBlock w1 r (.mapIter (some B) since (seen.push e.born) clock)) B r fk fv L (left.eraseIdx i) :=
      ⟨hI.map.keep hk (fun e => hI.ne e.symm), hI.ne, ⟨es, clock, since, clock, seen.push e.born, hB2, hr2, hold, hcl, hcl, hp, by rw [filter_seen hp hi, ChangeMaps.map_eraseIdx, hl, ← ChangeMaps.map_eraseIdx], he⟩, (List.eraseIdx_sublist _ _).trans hI.sub⟩
    refine wpList_plain hgd fun K' hK' => ?_
    refine wp_of_run (v := .tuple #[.bool true, e.key, e.val]) (nx := .value (.tuple #[.bool true, e.key, e.val])) (w2 := setBlock w1 r (.mapIter (some B) since (seen.push e.born) clock)) ?_ (.inl rfl) K' _ ?_
    · simp [execOp, hop, e1, hrun]
    · rw [hd, hqe.1, hqe.2]
      refine hK' _ _ (more x v (left.eraseIdx i) ?_ (hI.sub.subset (List.mem_of_getElem? hq)) _ _ (hf.putv (by simpa [Nat.blt_eq] using hdn) _) (hO.memTurnB hM hk') (hO.turnS hk' (o' := oI B r fk fv L (left.eraseIdx i)) ⟨hown.1, hown.2.1, hit⟩ (List.Sublist.refl _)) hk ?_)
      · exact erase_perm hq
      · have := run_entry_at (P := P) (setBlock w1 r (.mapIter (some B) since (seen.push e.born) clock)) r B since seen es clock e hr2 hB2 (List.mem_filter.1 hem).1 (List.Pairwise.imp (fun h => Nat.ne_of_lt h) hp)
        rw [hqe.1, hqe.2] at this
        exact this
end
end Go.Px

/- Plain words for layer 12: which cell a box has. -/
namespace Go.Px
set_option linter.unusedVariables false
set_option linter.unusedSimpArgs false
set_option linter.unusedSectionVars false

theorem side_quo {d : Int} (h : 0 ≤ d ∧ d ≤ 7) : Value.int .i64 (IntKind.i64.wrap (Int.tdiv (side d) 2)) = .int .i64 (side (d + 1)) := by
  refine depth_int (p := fun d => d ≤ 7 → Value.int .i64 (IntKind.i64.wrap (Int.tdiv (side d) 2)) = .int .i64 (side (d + 1))) ?_ ?_ ?_ ?_ ?_ ?_ ?_ ?_ ?_ (d := d) (by omega) h.2 <;> (intro h; first | rfl | omega)
/-- The greater side. -/
def bsize (x0 y0 x1 y1 : Int) : Int := if (x1 - x0) < (y1 - y0) then (y1 - y0) else (x1 - x0)
theorem bsize_spec (x0 y0 x1 y1 : Int) : x1 - x0 ≤ bsize x0 y0 x1 y1 ∧ y1 - y0 ≤ bsize x0 y0 x1 y1 ∧ (bsize x0 y0 x1 y1 = x1 - x0 ∨ bsize x0 y0 x1 y1 = y1 - y0) := by unfold bsize; split <;> omega
/-- The depth of a box of so great a side. -/
def depthOf (m : Int) : Int :=
  if m ≤ 16384 then 8 else if m ≤ 32768 then 7 else if m ≤ 65536 then 6 else if m ≤ 131072 then 5 else if m ≤ 262144 then 4 else if m ≤ 524288 then 3 else if m ≤ 1048576 then 2 else if m ≤ 2097152 then 1 else 0
/-- Which column (or row) a number lies in. -/
def colOf (n d : Int) : Int := if 2 ^ d.toNat - 1 < (n + 2097152) / side d then 2 ^ d.toNat - 1 else (n + 2097152) / side d

theorem depthOf_bd (m : Int) : 0 ≤ depthOf m ∧ depthOf m ≤ 8 := by unfold depthOf; repeat' split <;> omega
theorem depthOf_iff {m k : Int} (hm : m ≤ 4194304) (hk : 0 ≤ k ∧ k ≤ 8) : m ≤ side k ↔ k ≤ depthOf m := by
  have key : ∀ k, (0 ≤ k ∧ k ≤ 8) → (m ≤ side k ↔ k ≤ depthOf m) := by
    intro k hk
    refine depth_int (p := fun k => m ≤ side k ↔ k ≤ depthOf m) ?_ ?_ ?_ ?_ ?_ ?_ ?_ ?_ ?_ hk <;>
      (unfold depthOf
       simp only [side, show (0 : Int).toNat = 0 from rfl, show (1 : Int).toNat = 1 from rfl, show (2 : Int).toNat = 2 from rfl, show (3 : Int).toNat = 3 from rfl, show (4 : Int).toNat = 4 from rfl,
         show (5 : Int).toNat = 5 from rfl, show (6 : Int).toNat = 6 from rfl, show (7 : Int).toNat = 7 from rfl, show (8 : Int).toNat = 8 from rfl, show (4194304 : Int) / 2 ^ 0 = 4194304 from rfl, show (4194304 : Int) / 2 ^ 1 = 2097152 from rfl,
         show (4194304 : Int) / 2 ^ 2 = 1048576 from rfl, show (4194304 : Int) / 2 ^ 3 = 524288 from rfl, show (4194304 : Int) / 2 ^ 4 = 262144 from rfl, show (4194304 : Int) / 2 ^ 5 = 131072 from rfl,
         show (4194304 : Int) / 2 ^ 6 = 65536 from rfl, show (4194304 : Int) / 2 ^ 7 = 32768 from rfl, show (4194304 : Int) / 2 ^ 8 = 16384 from rfl]
       repeat' split
       all_goals omega)
  exact key k hk
theorem depthOf_done {m k : Int} (hm : m ≤ 4194304) (hk : 0 ≤ k ∧ k ≤ 8) (h1 : k ≤ depthOf m) (h2 : ¬ (k < 8 ∧ m ≤ side (k + 1))) : depthOf m = k := by
  have hb := depthOf_bd m
  by_cases h8 : k < 8
  · have h3 : ¬ k + 1 ≤ depthOf m := fun h => h2 ⟨h8, (depthOf_iff hm ⟨by omega, by omega⟩).2 h⟩
    omega
  · omega
theorem mulk_bd {d k : Int} (hd : 0 ≤ d ∧ d ≤ 8) (h0 : 0 ≤ k) (h : k + 1 < 2 ^ d.toNat) : 0 ≤ (k + 1) * side d ∧ (k + 1) * side d ≤ 4194304 := by
  have := mul_side (d := d) (x := k + 1) hd ⟨by omega, by omega⟩
  have := side_bd hd
  omega
theorem col_done {n d k : Int} (hd : 0 ≤ d ∧ d ≤ 8) (h0 : 0 ≤ k) (hk : k ≤ 2 ^ d.toNat - 1) (h1 : k * side d ≤ n + 2097152) (h2 : ¬ (k + 1 < 2 ^ d.toNat ∧ -2097152 + (k + 1) * side d ≤ n)) : colOf n d = k := by
  have hs := side_bd hd
  have hp : 0 < side d := by omega
  have h3 : k ≤ (n + 2097152) / side d := (Int.le_ediv_iff_mul_le hp).2 h1
  unfold colOf
  by_cases h4 : k + 1 < 2 ^ d.toNat
  · have h5 : n + 2097152 < (k + 1) * side d := by
      have := fun h => h2 ⟨h4, h⟩
      omega
    have h6 : (n + 2097152) / side d < k + 1 := (Int.ediv_lt_iff_lt_mul hp).2 h5
    rw [if_neg (by omega)]
    omega
  · split <;> omega
theorem col_bd {n d : Int} (hd : 0 ≤ d ∧ d ≤ 8) (h : -2097152 ≤ n) : 0 ≤ colOf n d ∧ colOf n d ≤ 2 ^ d.toNat - 1 := by
  have hs := side_bd hd
  have hp := pow_bd hd
  have h2 : 0 ≤ (n + 2097152) / side d := Int.ediv_nonneg (by omega) (by omega)
  unfold colOf
  split <;> omega
theorem half_bd {a b m : Int} (h : -m ≤ a ∧ a ≤ m ∧ -m ≤ b ∧ b ≤ m) : -m ≤ (a + b) / 2 ∧ (a + b) / 2 ≤ m := by omega
theorem inside_world {x0 y0 x1 y1 : Int} (h : boxRight x0 y0 x1 y1 = true) : boxInside x0 y0 x1 y1 (-2097152) (-2097152) 2097152 2097152 = inWorld x0 y0 x1 y1 := by
  rw [Bool.eq_iff_iff]
  rw [boxRight_iff] at h
  simp only [boxInside, boxRight, inWorld, Bool.and_eq_true, decide_eq_true_eq]
  omega
theorem inWorld_iff {x0 y0 x1 y1 : Int} : inWorld x0 y0 x1 y1 = true ↔ (-2097152 ≤ x0 ∧ x0 ≤ 2097152 ∧ -2097152 ≤ y0 ∧ y0 ≤ 2097152 ∧ -2097152 ≤ x1 ∧ x1 ≤ 2097152 ∧ -2097152 ≤ y1 ∧ y1 ≤ 2097152) := by simp [inWorld]
/-- A box lies in its cell's loose box: along one side. -/
theorem in_loose {a b m : Int} (hb : -2097152 ≤ a ∧ a ≤ b ∧ b ≤ 2097152) (hm : b - a ≤ m ∧ m ≤ 4194304) :
    colOf ((a + b) / 2) (depthOf m) * side (depthOf m) - 2097152 - side (depthOf m) / 2 ≤ a ∧ b ≤ colOf ((a + b) / 2) (depthOf m) * side (depthOf m) - 2097152 + side (depthOf m) + side (depthOf m) / 2 := by
  have hd := depthOf_bd m
  have hs := side_bd hd
  have h1 : m ≤ side (depthOf m) := (depthOf_iff hm.2 hd).2 (Int.le_refl _)
  generalize hc : (a + b) / 2 = c
  have hp : 0 < side (depthOf m) := by omega
  have hm2 := Int.mul_ediv_add_emod (c + 2097152) (side (depthOf m))
  have hm3 := Int.emod_nonneg (c + 2097152) (show side (depthOf m) ≠ 0 by omega)
  have hm4 := Int.emod_lt_of_pos (c + 2097152) hp
  rw [Int.mul_comm] at hm2
  have heven : side (depthOf m) / 2 * 2 = side (depthOf m) := by
    refine depth_int (p := fun d => side d / 2 * 2 = side d) ?_ ?_ ?_ ?_ ?_ ?_ ?_ ?_ ?_ hd <;> decide
  have htop : (2 ^ (depthOf m).toNat - 1) * side (depthOf m) = 4194304 - side (depthOf m) := by
    refine depth_int (p := fun d => (2 ^ d.toNat - 1) * side d = 4194304 - side d) ?_ ?_ ?_ ?_ ?_ ?_ ?_ ?_ ?_ hd <;> decide
  unfold colOf
  split
  · rename_i hlt
    have h5 : 2 ^ (depthOf m).toNat ≤ (c + 2097152) / side (depthOf m) := by omega
    have h6 : 2 ^ (depthOf m).toNat * side (depthOf m) ≤ (c + 2097152) / side (depthOf m) * side (depthOf m) := Int.mul_le_mul_of_nonneg_right h5 (by omega)
    have h7 : (2 ^ (depthOf m).toNat - 1) * side (depthOf m) = 2 ^ (depthOf m).toNat * side (depthOf m) - side (depthOf m) := by rw [Int.sub_mul, Int.one_mul]
    omega
  · omega
def upOk (d x y : Int) : Bool := cellRight d x y && !(d == 0)
theorem side_up {d : Int} (h : 1 ≤ d ∧ d ≤ 8) : side (d - 1) = 2 * side d ∧ side d / 2 * 2 = side d ∧ 0 < side d := by
  have key : ∀ k : Int, (0 ≤ k ∧ k ≤ 8) → (1 ≤ k → side (k - 1) = 2 * side k ∧ side k / 2 * 2 = side k ∧ 0 < side k) := by
    intro k hk
    refine depth_int (p := fun k => 1 ≤ k → side (k - 1) = 2 * side k ∧ side k / 2 * 2 = side k ∧ 0 < side k) ?_ ?_ ?_ ?_ ?_ ?_ ?_ ?_ ?_ hk <;> first | (intro _; exact ⟨by decide, by decide, by decide⟩) | (intro h; omega)
  exact key d (by omega) h.1
theorem cellRight_up {d x y : Int} (h : cellRight d x y = true) (h0 : d ≠ 0) : cellRight (d - 1) (x / 2) (y / 2) = true := by
  rw [cellRight_iff] at *
  have hp : (2 : Int) ^ d.toNat = 2 * 2 ^ (d - 1).toNat := by
    rw [show d.toNat = (d - 1).toNat + 1 by omega, Int.pow_succ]
    omega
  omega
/-- A cell's loose box lies in its parent's: along one side. -/
theorem up_loose {d x : Int} (hd : 1 ≤ d ∧ d ≤ 8) :
    x / 2 * side (d - 1) - side (d - 1) / 2 ≤ x * side d - side d / 2 ∧ x * side d + side d + side d / 2 ≤ x / 2 * side (d - 1) + side (d - 1) + side (d - 1) / 2 := by
  obtain ⟨h1, h2, h3⟩ := side_up hd
  rw [h1]
  have e1 : x / 2 * (2 * side d) = 2 * (x / 2) * side d := by rw [← Int.mul_assoc, Int.mul_comm (x / 2) 2]
  have hx : x = 2 * (x / 2) + x % 2 := by omega
  have e2 : x * side d = 2 * (x / 2) * side d + x % 2 * side d := by rw [← Int.add_mul, ← hx]
  have h5 : x % 2 = 0 ∨ x % 2 = 1 := by omega
  rcases h5 with h5 | h5 <;> (rw [h5] at e2; omega)
theorem cell_of {x0 y0 x1 y1 : Int} (hw : inWorld x0 y0 x1 y1 = true) :
    cellRight (depthOf (bsize x0 y0 x1 y1)) (colOf ((x0 + x1) / 2) (depthOf (bsize x0 y0 x1 y1))) (colOf ((y0 + y1) / 2) (depthOf (bsize x0 y0 x1 y1))) = true := by
  rw [inWorld_iff] at hw
  have hd := depthOf_bd (bsize x0 y0 x1 y1)
  have hx := col_bd (n := (x0 + x1) / 2) hd (by omega)
  have hy := col_bd (n := (y0 + y1) / 2) hd (by omega)
  rw [cellRight_iff]
  omega
end Go.Px

/- Plain words for trees of boxes: cells, those above them, what stands in the nodes. No program in sight. -/
namespace Go.Qd
open Go.Px
set_option linter.unusedVariables false
set_option linter.unusedSimpArgs false
set_option linter.unusedSectionVars false
abbrev C3 := Int × Int × Int
abbrev HH := Int × Int
abbrev BB := Int × Int × Int × Int
def rootC : C3 := ⟨0, 0, 0⟩
def upC (c : C3) : C3 := ⟨c.1 - 1, c.2.1 / 2, c.2.2 / 2⟩
def okC (c : C3) : Bool := cellRight c.1 c.2.1 c.2.2
theorem okC_iff {c : C3} : okC c = true ↔ (0 ≤ c.1 ∧ c.1 ≤ 8) ∧ (0 ≤ c.2.1 ∧ c.2.1 < 2 ^ c.1.toNat) ∧ 0 ≤ c.2.2 ∧ c.2.2 < 2 ^ c.1.toNat := by
  unfold okC cellRight
  simp only [decide_eq_true_eq, Bool.and_eq_true]
  omega
theorem okC_up {c : C3} (h : okC c = true) (h0 : c.1 ≠ 0) : okC (upC c) = true := cellRight_up h h0
theorem okC_root {c : C3} (h : okC c = true) (h0 : c.1 = 0) : c = rootC := by
  obtain ⟨d, x, y⟩ := c
  have h1 := okC_iff.1 h
  simp only at h0
  subst h0
  simp at h1
  obtain ⟨hx, hy⟩ := h1
  have e1 : x = 0 := by omega
  have e2 : y = 0 := by omega
  subst e1 e2
  rfl
/-- A cell and those above it. -/
def chainN : Nat → C3 → List C3
  | 0, c => [c]
  | n + 1, c => c :: chainN n (upC c)
def chain (c : C3) : List C3 := chainN c.1.toNat c
theorem chain_step {c : C3} (h : okC c = true) (h0 : c.1 ≠ 0) : chain c = c :: chain (upC c) := by
  have h1 := okC_iff.1 h
  unfold chain
  have e : c.1.toNat = (upC c).1.toNat + 1 := by show c.1.toNat = (c.1 - 1).toNat + 1; omega
  rw [e]
  rfl
theorem chain_zero {c : C3} (h0 : c.1 = 0) : chain c = [c] := by
  unfold chain
  rw [h0]
  rfl
theorem chain_self (c : C3) : c ∈ chain c := by
  unfold chain
  cases c.1.toNat <;> simp [chainN]
theorem chain_ind {m : C3 → Prop} (h0 : ∀ c, okC c = true → c.1 = 0 → m c) (h1 : ∀ c, okC c = true → c.1 ≠ 0 → m (upC c) → m c) : ∀ c, okC c = true → m c := by
  have key : ∀ n : Nat, ∀ c, okC c = true → c.1.toNat = n → m c := fun n => by
    induction n with
    | zero => exact fun c hc e => h0 c hc (by have := okC_iff.1 hc; omega)
    | succ n ih =>
      intro c hc e
      have h2 : c.1 ≠ 0 := by omega
      exact h1 c hc h2 (ih _ (okC_up hc h2) (by show (c.1 - 1).toNat = n; omega))
  exact fun c hc => key _ c hc rfl
theorem chain_ok {c : C3} (h : okC c = true) : ∀ z ∈ chain c, okC z = true ∧ z.1 ≤ c.1 := by
  revert h
  refine fun h => chain_ind (m := fun c => ∀ z ∈ chain c, okC z = true ∧ z.1 ≤ c.1) (fun c hc h0 z hz => ?_) (fun c hc h0 ih z hz => ?_) c h
  · rw [chain_zero h0] at hz
    obtain rfl := List.mem_singleton.1 hz
    exact ⟨hc, Int.le_refl _⟩
  · rw [chain_step hc h0] at hz
    rcases List.mem_cons.1 hz with rfl | hz
    · exact ⟨hc, Int.le_refl _⟩
    · have := ih z hz
      refine ⟨this.1, Int.le_trans this.2 ?_⟩
      show c.1 - 1 ≤ c.1
      omega
theorem chain_nd {c : C3} (h : okC c = true) : (chain c).Nodup := by
  refine chain_ind (m := fun c => (chain c).Nodup) (fun c hc h0 => ?_) (fun c hc h0 ih => ?_) c h
  · rw [chain_zero h0]; simp
  · rw [chain_step hc h0, List.nodup_cons]
    refine ⟨fun hm => ?_, ih⟩
    have := (chain_ok (okC_up hc h0) c hm).2
    have e : (upC c).1 = c.1 - 1 := rfl
    omega
theorem chain_root {c : C3} (h : okC c = true) : rootC ∈ chain c := by
  refine chain_ind (m := fun c => rootC ∈ chain c) (fun c hc h0 => ?_) (fun c hc h0 ih => ?_) c h
  · rw [okC_root hc h0]; exact chain_self _
  · rw [chain_step hc h0]; exact List.mem_cons_of_mem _ ih

/-! ### What has been counted -/
def inCh (z k : C3) : Bool := decide (z ∈ chain k)
def fK (K : List C3) (z : C3) : Int := ((K.filter fun k => inCh z k).length : Nat)
theorem fK_cons (c : C3) (K : List C3) (z : C3) : fK (c :: K) z = fK K z + if z ∈ chain c then 1 else 0 := by
  unfold fK
  rw [List.filter_cons]
  by_cases h : z ∈ chain c
  · simp [inCh, h]
  · simp [inCh, h]
theorem fK_nonneg (K : List C3) (z : C3) : 0 ≤ fK K z := Int.natCast_nonneg _
theorem fK_perm {K K' : List C3} (h : K.Perm K') (z : C3) : fK K z = fK K' z := by
  unfold fK
  rw [(h.filter _).length_eq]
theorem fK_pos {K : List C3} {k z : C3} (hk : k ∈ K) (hz : z ∈ chain k) : 0 < fK K z := by
  unfold fK
  have : 0 < (K.filter fun k => inCh z k).length := List.length_pos_of_mem (List.mem_filter.2 ⟨hk, decide_eq_true hz⟩)
  omega
theorem fK_ne {K : List C3} {z : C3} (h : fK K z ≠ 0) : ∃ k ∈ K, z ∈ chain k := by
  unfold fK at h
  cases hl : K.filter fun k => inCh z k with
  | nil => rw [hl] at h; simp at h
  | cons k r =>
    have hm : k ∈ K.filter fun k => inCh z k := by rw [hl]; exact List.mem_cons_self ..
    exact ⟨k, (List.mem_filter.1 hm).1, of_decide_eq_true (List.mem_filter.1 hm).2⟩

abbrev NV := List (HH × BB) × Int
abbrev NM := List (C3 × NV)
/-- What counting does at one cell. -/
def cnt1 (k : Int) (N : NM) (z : C3) : NM := if ((getK N z).getD ([], 0)).2 + k = 0 ∧ 0 < z.1 then delK N z else putK N z (((getK N z).getD ([], 0)).1, ((getK N z).getD ([], 0)).2 + k)
def cntL (k : Int) (N : NM) (zs : List C3) : NM := zs.foldl (cnt1 k) N
/-- The nodes are those whose count is not nothing, and the one above all. -/
structure NF (N : NM) (f : C3 → Int) (g : C3 → HH × BB → Prop) : Prop where
  nd : (N.map (·.1)).Nodup
  val : ∀ z v, (z, v) ∈ N → v.2 = f z ∧ (v.1.map (·.1)).Nodup ∧ ∀ p, p ∈ v.1 ↔ g z p
  ex : ∀ z, hasK N z = true ↔ z = rootC ∨ f z ≠ 0
section
variable {κ ν : Type} [DecidableEq κ] {L : List (κ × ν)} {x y : κ} {v : ν}
theorem get_mem (h : (L.map (·.1)).Nodup) : getK L x = some v ↔ (x, v) ∈ L := by
  constructor
  · intro hg
    unfold getK at hg
    obtain ⟨p, hp, rfl⟩ := Option.map_eq_some_iff.1 hg
    have e : p.1 = x := by simpa using List.find?_some hp
    rw [← e]; exact List.mem_of_find?_eq_some hp
  · exact getK_of_mem h
theorem put_mem (h : (L.map (·.1)).Nodup) {w : κ × ν} : w ∈ putK L x v ↔ w = (x, v) ∨ (w ∈ L ∧ w.1 ≠ x) := by
  have hn := putK_nd h x v
  obtain ⟨y, u⟩ := w
  rw [← get_mem hn, getK_put]
  by_cases e : x = y
  · subst e
    rw [if_pos rfl]
    simp [eq_comm]
  · rw [if_neg e, get_mem h]
    constructor
    · exact fun q => .inr ⟨q, fun e2 => e e2.symm⟩
    · rintro (q | q)
      · exact absurd (congrArg (·.1) q).symm e
      · exact q.1
theorem del_mem {w : κ × ν} : w ∈ delK L x ↔ w ∈ L ∧ w.1 ≠ x := by unfold delK; rw [List.mem_filter]; simp
theorem has_put : hasK (putK L x v) y = (decide (x = y) || hasK L y) := by
  rw [Bool.eq_iff_iff, Bool.or_eq_true, decide_eq_true_iff, hasK_iff, hasK_iff, putK_keys]
  split
  · rename_i h
    constructor
    · exact .inr
    · rintro (rfl | q)
      · exact hasK_iff.1 h
      · exact q
  · rw [List.mem_append, List.mem_singleton]
    constructor
    · rintro (q | q)
      · exact .inr q
      · exact .inl q.symm
    · rintro (q | q)
      · exact .inr q.symm
      · exact .inl q
theorem has_del : hasK (delK L x) y = (!decide (x = y) && hasK L y) := by
  rw [Bool.eq_iff_iff, Bool.and_eq_true, hasK_iff, hasK_iff, Bool.not_eq_true', decide_eq_false_iff_not]
  constructor
  · intro h
    obtain ⟨w, hw, rfl⟩ := List.mem_map.1 h
    have := del_mem.1 hw
    exact ⟨fun e => this.2 e.symm, List.mem_map.2 ⟨w, this.1, rfl⟩⟩
  · rintro ⟨h1, h2⟩
    obtain ⟨w, hw, rfl⟩ := List.mem_map.1 h2
    exact List.mem_map.2 ⟨w, del_mem.2 ⟨hw, fun e => h1 e.symm⟩, rfl⟩
theorem get_has (h : hasK L x = true) : ∃ v, getK L x = some v := by rw [hasK_get] at h; exact Option.isSome_iff_exists.1 h
theorem get_not (h : ¬ hasK L x = true) : getK L x = none := by
  cases hg : getK L x with
  | none => rfl
  | some v => exact absurd (by rw [hasK_get, hg]; rfl) h
end
section
variable {N : NM} {f : C3 → Int} {g : C3 → HH × BB → Prop} {z : C3} {k : Int}
/-- What a node holds is put another way. -/
theorem NF.set {g' : C3 → HH × BB → Prop} {v : NV} (h : NF N f g) (hz : hasK N z = true) (hv : v.2 = f z ∧ (v.1.map (·.1)).Nodup ∧ ∀ p, p ∈ v.1 ↔ g' z p) (hg : ∀ y, y ≠ z → ∀ p, g' y p ↔ g y p) : NF (putK N z v) f g' := by
  refine ⟨putK_nd h.nd z v, fun y u hm => ?_, fun y => ?_⟩
  · rcases (put_mem h.nd).1 hm with e | ⟨q1, q2⟩
    · cases e; exact hv
    · obtain ⟨r1, r2, r3⟩ := h.val y u q1
      exact ⟨r1, r2, fun p => (r3 p).trans (hg y q2 p).symm⟩
  · rw [has_put, Bool.or_eq_true, decide_eq_true_iff, h.ex]
    constructor
    · rintro (rfl | q)
      · exact (h.ex _).1 hz
      · exact q
    · exact .inr
/-- One cell is counted. -/
theorem NF.count (h : NF N f g) (hz : okC z = true) (h0 : f z + k = 0 → z ≠ rootC → ∀ p, ¬ g z p) (h1 : f z = 0 → z ≠ rootC → ∀ p, ¬ g z p) : NF (cnt1 k N z) (fun y => if y = z then f z + k else f y) g := by
  have hroot : 0 < z.1 ↔ z ≠ rootC := by
    constructor
    · rintro q rfl; exact absurd q (by decide)
    · intro q
      have := okC_iff.1 hz
      rcases Int.lt_or_eq_of_le this.1.1 with q1 | q1
      · exact q1
      · exact absurd (okC_root hz q1.symm) q
  have hval : ((getK N z).getD ([], 0)).2 = f z ∧ (((getK N z).getD ([], 0)).1.map (·.1)).Nodup ∧ ∀ p, p ∈ ((getK N z).getD ([], 0)).1 ↔ g z p := by
    by_cases hx : hasK N z = true
    · obtain ⟨v, hv⟩ := get_has hx
      rw [hv]; exact h.val z v ((get_mem h.nd).1 hv)
    · rw [get_not hx]
      have hf : f z = 0 := by
        by_cases e : f z = 0
        · exact e
        · exact absurd ((h.ex z).2 (.inr e)) hx
      have hr : z ≠ rootC := fun e => hx ((h.ex z).2 (.inl e))
      exact ⟨hf.symm, .nil, fun p => ⟨fun q => by simp at q, fun q => absurd q (h1 hf hr p)⟩⟩
  unfold cnt1
  split
  · rename_i hd
    rw [hval.1, hroot] at hd
    refine ⟨delK_nd h.nd z, fun y u hm => ?_, fun y => ?_⟩
    · obtain ⟨q1, q2⟩ := del_mem.1 hm
      rw [if_neg q2]; exact h.val y u q1
    · rw [has_del, Bool.and_eq_true, Bool.not_eq_true', decide_eq_false_iff_not, h.ex]
      by_cases e : y = z
      · subst e
        rw [if_pos rfl]
        exact ⟨fun q => absurd rfl q.1, fun q => q.elim (fun e => absurd e hd.2) (fun e => absurd hd.1 e)⟩
      · rw [if_neg e]
        exact ⟨fun q => q.2, fun q => ⟨fun e2 => e e2.symm, q⟩⟩
  · rename_i hd
    rw [hval.1, hroot] at hd
    refine ⟨putK_nd h.nd z _, fun y u hm => ?_, fun y => ?_⟩
    · rcases (put_mem h.nd).1 hm with e | ⟨q1, q2⟩
      · cases e
        rw [if_pos rfl, hval.1]; exact ⟨rfl, hval.2⟩
      · rw [if_neg q2]; exact h.val y u q1
    · rw [has_put, Bool.or_eq_true, decide_eq_true_iff, h.ex]
      by_cases e : y = z
      · subst e
        rw [if_pos rfl]
        refine ⟨fun _ => ?_, fun _ => .inl rfl⟩
        by_cases e2 : y = rootC
        · exact .inl e2
        · exact .inr fun e3 => hd ⟨e3, e2⟩
      · rw [if_neg e]
        exact ⟨fun q => q.elim (fun e2 => absurd e2.symm e) id, .inr⟩
theorem NF.ext {f' : C3 → Int} {g' : C3 → HH × BB → Prop} (h : NF N f g) (hf : ∀ z, f' z = f z) (hg : ∀ z p, g' z p ↔ g z p) : NF N f' g' :=
  ⟨h.nd, fun z v hm => by rw [hf z]; exact ⟨(h.val z v hm).1, (h.val z v hm).2.1, fun p => ((h.val z v hm).2.2 p).trans (hg z p).symm⟩, fun z => by rw [hf z]; exact h.ex z⟩
/-- A chain of cells is counted. -/
theorem NF.counts : ∀ (zs : List C3) {N : NM} {f : C3 → Int}, NF N f g → zs.Nodup → (∀ z ∈ zs, okC z = true) → (∀ z ∈ zs, f z + k = 0 → z ≠ rootC → ∀ p, ¬ g z p) → (∀ z ∈ zs, f z = 0 → z ≠ rootC → ∀ p, ¬ g z p) →
    NF (cntL k N zs) (fun y => f y + if y ∈ zs then k else 0) g
  | [], N, f, h, _, _, _, _ => h.ext (fun z => by simp) fun _ _ => Iff.rfl
  | z :: r, N, f, h, hn, ho, h0, h1 => by
    have hn' := List.nodup_cons.1 hn
    have hz : z ∈ z :: r := List.mem_cons_self ..
    have hs := h.count (k := k) (ho z hz) (h0 z hz) (h1 z hz)
    have hne : ∀ y ∈ r, y ≠ z := fun y hy e => hn'.1 (e ▸ hy)
    have := NF.counts r hs hn'.2 (fun y hy => ho y (List.mem_cons_of_mem _ hy)) (fun y hy => by rw [if_neg (hne y hy)]; exact h0 y (List.mem_cons_of_mem _ hy)) (fun y hy => by rw [if_neg (hne y hy)]; exact h1 y (List.mem_cons_of_mem _ hy))
    refine NF.ext (f := fun y => (if y = z then f z + k else f y) + if y ∈ r then k else 0) this (fun y => ?_) fun _ _ => Iff.rfl
    by_cases e : y = z
    · subst e; simp [hn'.1]
    · simp [e]
end
/-! ### A tree of boxes -/
def cellB (b : BB) : C3 := (depthOf (bsize b.1 b.2.1 b.2.2.1 b.2.2.2), colOf ((b.1 + b.2.2.1) / 2) (depthOf (bsize b.1 b.2.1 b.2.2.1 b.2.2.2)), colOf ((b.2.1 + b.2.2.2) / 2) (depthOf (bsize b.1 b.2.1 b.2.2.1 b.2.2.2)))
def okB (b : BB) : Bool := boxRight b.1 b.2.1 b.2.2.1 b.2.2.2 && inWorld b.1 b.2.1 b.2.2.1 b.2.2.2
theorem okC_cell {b : BB} (h : okB b = true) : okC (cellB b) = true := by
  unfold okB at h
  rw [Bool.and_eq_true] at h
  exact cell_of h.2
abbrev BS := List (HH × BB)
def keysB (bs : BS) : List C3 := bs.map fun p => cellB p.2
def gB (bs : BS) (z : C3) (p : HH × BB) : Prop := p ∈ bs ∧ cellB p.2 = z
structure TI (bs : BS) (C : List (HH × C3)) (N : NM) : Prop where
  nd : (bs.map (·.1)).Nodup
  ok : ∀ p ∈ bs, okB p.2 = true
  cs : C = bs.map fun p => (p.1, cellB p.2)
  nf : NF N (fK (keysB bs)) (gB bs)
theorem TI.new : TI [] [] [(rootC, ([], 0))] := by
  refine ⟨.nil, fun p hp => by simp at hp, rfl, ⟨by simp, fun z v hm => ?_, fun z => ?_⟩⟩
  · cases List.mem_singleton.1 hm
    exact ⟨rfl, .nil, fun p => by simp [gB]⟩
  · rw [hasK_iff]; simp [keysB, fK]
section
variable {bs : BS} {C : List (HH × C3)} {N : NM} {h : HH} {b c : BB}
theorem has_cs (bs : BS) (h : HH) : hasK (bs.map fun p => (p.1, cellB p.2)) h = hasK bs h := by
  induction bs with
  | nil => rfl
  | cons p r ih => simp only [hasK, List.map_cons, List.any_cons] at ih ⊢; rw [ih]
theorem get_cs (bs : BS) (h : HH) : getK (bs.map fun p => (p.1, cellB p.2)) h = (getK bs h).map cellB := by
  induction bs with
  | nil => rfl
  | cons p r ih =>
    simp only [getK, List.map_cons, List.find?_cons] at ih ⊢
    by_cases e : p.1 = h
    · simp [e]
    · simp only [e, decide_false]; exact ih
theorem put_cs (bs : BS) (h : HH) (b : BB) : putK (bs.map fun p => (p.1, cellB p.2)) h (cellB b) = (putK bs h b).map fun p => (p.1, cellB p.2) := by
  unfold putK
  rw [has_cs]
  split
  · rw [List.map_map, List.map_map]
    refine List.map_congr_left fun p _ => ?_
    simp only [Function.comp]
    split <;> rfl
  · rw [List.map_append]; rfl
theorem del_cs (bs : BS) (h : HH) : delK (bs.map fun p => (p.1, cellB p.2)) h = (delK bs h).map fun p => (p.1, cellB p.2) := by
  unfold delK
  rw [List.filter_map]; rfl
theorem TI.at (t : TI bs C N) (hp : (h, b) ∈ bs) : getK C h = some (cellB b) := by rw [t.cs, get_cs, (get_mem t.nd).2 hp]; rfl
theorem TI.node (t : TI bs C N) (hp : (h, b) ∈ bs) : hasK N (cellB b) = true :=
  (t.nf.ex _).2 (.inr (Int.ne_of_gt (fK_pos (List.mem_map.2 ⟨_, hp, rfl⟩) (chain_self _))))
/-- A list with one thing out of it, and its counts. -/
theorem del_perm (hn : (bs.map (·.1)).Nodup) (hp : (h, b) ∈ bs) : bs.Perm ((h, b) :: delK bs h) := by
  have d1 : bs.Nodup := (List.pairwise_map.1 hn).imp fun q e => q (congrArg (·.1) e)
  have d2 : ((h, b) :: delK bs h).Nodup := List.nodup_cons.2 ⟨fun hm => (del_mem.1 hm).2 rfl, d1.sublist List.filter_sublist⟩
  refine (List.perm_ext_iff_of_nodup d1 d2).2 fun p => ?_
  rw [List.mem_cons, del_mem]
  constructor
  · intro hm
    by_cases e : p.1 = h
    · left
      have := (get_mem hn).2 hp
      have h2 : getK bs h = some p.2 := (get_mem hn).2 (by rw [← e]; exact hm)
      rw [this] at h2
      rw [← e, Option.some.inj h2]
    · exact .inr ⟨hm, e⟩
  · rintro (rfl | q)
    · exact hp
    · exact q.1
theorem fK_del (hn : (bs.map (·.1)).Nodup) (hp : (h, b) ∈ bs) (z : C3) : fK (keysB bs) z = fK (keysB (delK bs h)) z + if z ∈ chain (cellB b) then 1 else 0 := by
  have e := fK_perm ((del_perm hn hp).map fun p => cellB p.2) z
  rw [List.map_cons, fK_cons] at e
  exact e
/-- No count, no box. -/
theorem none_in (bs : BS) {z : C3} (h0 : fK (keysB bs) z = 0) (p : HH × BB) : ¬ gB bs z p := fun ⟨q1, q2⟩ => by
  have := fK_pos (K := keysB bs) (List.mem_map.2 ⟨p, q1, q2⟩) (chain_self z)
  omega
/-- A box goes. -/
theorem TI.drop (t : TI bs C N) (hp : (h, b) ∈ bs) {v : NV} (hv : getK N (cellB b) = some v) : TI (delK bs h) (delK C h) (cntL (-1) (putK N (cellB b) (delK v.1 h, v.2)) (chain (cellB b))) := by
  have hok := okC_cell (t.ok _ hp)
  have hval := t.nf.val _ v ((get_mem t.nf.nd).1 hv)
  have h1 : NF (putK N (cellB b) (delK v.1 h, v.2)) (fK (keysB bs)) (gB (delK bs h)) := by
    refine t.nf.set (t.node hp) ⟨hval.1, delK_nd hval.2.1 h, fun p => ?_⟩ fun y hy p => ?_
    · rw [del_mem, hval.2.2]
      unfold gB
      rw [del_mem]
      exact ⟨fun q => ⟨⟨q.1.1, q.2⟩, q.1.2⟩, fun q => ⟨⟨q.1.1, q.2⟩, q.1.2⟩⟩
    · unfold gB
      rw [del_mem]
      refine ⟨fun q => ⟨q.1.1, q.2⟩, fun q => ⟨⟨q.1, fun e => hy ?_⟩, q.2⟩⟩
      have e2 : p = (h, b) := by
        have r1 := (get_mem t.nd).2 hp
        have r2 : getK bs h = some p.2 := (get_mem t.nd).2 (by rw [← e]; exact q.1)
        rw [r1] at r2
        rw [← e, Option.some.inj r2]
      rw [← q.2, e2]
  have e := fK_del t.nd hp
  refine ⟨delK_nd t.nd h, fun p hm => t.ok p (del_mem.1 hm).1, by rw [t.cs, del_cs], ?_⟩
  refine (h1.counts (k := -1) (chain (cellB b)) (chain_nd hok) (fun z hz => (chain_ok hok z hz).1) (fun z hz h0 _ p => ?_) fun z hz h0 _ p => ?_).ext (fun z => ?_) fun _ _ => Iff.rfl
  · rw [e z, if_pos hz] at h0
    exact none_in _ (by omega) p
  · have := fK_nonneg (keysB (delK bs h)) z
    rw [e z, if_pos hz] at h0
    omega
  · rw [e z]; split <;> omega
/-- What counting leaves, ahead of a box that comes. -/
theorem TI.cnt (t : TI bs C N) (hn : hasK bs h = false) (hb : okB b = true) : NF (cntL 1 N (chain (cellB b))) (fK (keysB (putK bs h b))) (gB bs) := by
  have hok := okC_cell hb
  have e : putK bs h b = bs ++ [(h, b)] := by unfold putK; rw [hn]; rfl
  have ek : ∀ z, fK (keysB (putK bs h b)) z = fK (keysB bs) z + if z ∈ chain (cellB b) then 1 else 0 := fun z => by
    rw [e, ← fK_cons]
    unfold keysB
    rw [List.map_append]
    exact fK_perm (List.perm_append_comm) z
  exact (t.nf.counts (k := 1) (chain (cellB b)) (chain_nd hok) (fun z hz => (chain_ok hok z hz).1) (fun z hz h0 _ p => by have := fK_nonneg (keysB bs) z; omega) fun z hz h0 _ p => none_in _ h0 p).ext (fun z => by rw [ek z]) fun _ _ => Iff.rfl
theorem TI.cnt_has (t : TI bs C N) (hn : hasK bs h = false) (hb : okB b = true) : ∃ v, getK (cntL 1 N (chain (cellB b))) (cellB b) = some v :=
  get_has (((t.cnt hn hb).ex _).2 (.inr (Int.ne_of_gt (fK_pos (List.mem_map.2 ⟨(h, b), (put_mem t.nd).2 (.inl rfl), rfl⟩) (chain_self _)))))
theorem fK_le (K : List C3) (z : C3) : fK K z ≤ (K.length : Nat) := by
  unfold fK
  have := List.length_filter_le (fun k => inCh z k) K
  omega
theorem TI.small (t : TI bs C N) {z : C3} {v : NV} (hv : getK N z = some v) : 0 ≤ v.2 ∧ v.2 ≤ (bs.length : Nat) := by
  have := (t.nf.val z v ((get_mem t.nf.nd).1 hv)).1
  have h1 := fK_nonneg (keysB bs) z
  have h2 := fK_le (keysB bs) z
  unfold keysB at h2
  rw [List.length_map] at h2
  unfold keysB at this h1
  omega
theorem chainN_len : ∀ (n : Nat) (c : C3), (chainN n c).length = n + 1
  | 0, c => rfl
  | n + 1, c => by show (chainN n (upC c)).length + 1 = _; rw [chainN_len n]
theorem flat_len {α β : Type} (f : α → List β) (m : Nat) : ∀ l : List α, (∀ x ∈ l, (f x).length ≤ m) → (l.flatMap f).length ≤ m * l.length
  | [], _ => by simp
  | x :: r, h => by
    rw [List.flatMap_cons, List.length_append, List.length_cons, Nat.mul_succ]
    have h1 := h x (List.mem_cons_self ..)
    have h2 := flat_len f m r fun y hy => h y (List.mem_cons_of_mem _ hy)
    omega
theorem nodup_lenQ {α : Type} [DecidableEq α] : ∀ {l m : List α}, l.Nodup → (∀ x ∈ l, x ∈ m) → l.length ≤ m.length
  | [], m, _, _ => Nat.zero_le _
  | x :: r, m, hn, hs => by
    have hn := List.nodup_cons.1 hn
    have hx := hs x (List.mem_cons_self ..)
    have h1 := nodup_lenQ (m := m.erase x) hn.2 fun y hy => (List.mem_erase_of_ne (fun e : y = x => hn.1 (e ▸ hy))).2 (hs y (List.mem_cons_of_mem _ hy))
    have h2 := List.length_erase_of_mem hx
    have h3 := List.length_pos_of_mem hx
    rw [List.length_cons]; omega
theorem TI.few (t : TI bs C N) : N.length ≤ 1 + 9 * bs.length := by
  have h1 : (N.map (·.1)).length ≤ (rootC :: (keysB bs).flatMap chain).length := nodup_lenQ t.nf.nd fun z hz => by
    rcases (t.nf.ex z).1 (hasK_iff.2 hz) with rfl | h
    · exact List.mem_cons_self ..
    · obtain ⟨k, hk, hz⟩ := fK_ne h
      exact List.mem_cons_of_mem _ (List.mem_flatMap.2 ⟨k, hk, hz⟩)
  have h2 := flat_len chain 9 (keysB bs) fun k hk => by
    obtain ⟨p, hp, rfl⟩ := List.mem_map.1 hk
    have := okC_iff.1 (okC_cell (t.ok p hp))
    unfold chain
    rw [chainN_len]; omega
  rw [List.length_map, List.length_cons] at h1
  have h3 : (keysB bs).length = bs.length := List.length_map _
  rw [h3] at h2
  omega
/-- Two trees of the same boxes have the same nodes. -/
theorem TI.keys {bs' : BS} {C' : List (HH × C3)} {N' : NM} (t : TI bs C N) (t' : TI bs' C' N') (e : ∀ p, p ∈ bs ↔ p ∈ bs') (z : C3) : z ∈ N.map (·.1) ↔ z ∈ N'.map (·.1) := by
  have key : ∀ {bs bs' : BS} {C C'} {N N' : NM}, TI bs C N → TI bs' C' N' → (∀ p, p ∈ bs → p ∈ bs') → z ∈ N.map (·.1) → z ∈ N'.map (·.1) := fun {bs bs' C C' N N'} t t' e hz => by
    rw [← hasK_iff] at hz ⊢
    rcases (t.nf.ex z).1 hz with h | h
    · exact (t'.nf.ex z).2 (.inl h)
    · obtain ⟨k, hk, hz⟩ := fK_ne h
      obtain ⟨p, hp, rfl⟩ := List.mem_map.1 hk
      exact (t'.nf.ex z).2 (.inr (Int.ne_of_gt (fK_pos (List.mem_map.2 ⟨p, e p hp, rfl⟩) hz)))
  exact ⟨key t t' fun p => (e p).1, key t' t fun p => (e p).2⟩
theorem TI.hands {bs' : BS} {C' : List (HH × C3)} {N' : NM} (t : TI bs C N) (t' : TI bs' C' N') (e : ∀ p, p ∈ bs ↔ p ∈ bs') (z : HH) : z ∈ C.map (·.1) ↔ z ∈ C'.map (·.1) := by
  rw [t.cs, t'.cs, List.map_map, List.map_map]
  constructor
  · intro h
    obtain ⟨p, hp, rfl⟩ := List.mem_map.1 h
    exact List.mem_map.2 ⟨p, (e p).1 hp, rfl⟩
  · intro h
    obtain ⟨p, hp, rfl⟩ := List.mem_map.1 h
    exact List.mem_map.2 ⟨p, (e p).2 hp, rfl⟩
/-- A box comes. -/
theorem TI.more (t : TI bs C N) (hn : hasK bs h = false) (hb : okB b = true) {v : NV} (hv : getK (cntL 1 N (chain (cellB b))) (cellB b) = some v) :
    TI (putK bs h b) (putK C h (cellB b)) (putK (cntL 1 N (chain (cellB b))) (cellB b) (putK v.1 h b, v.2)) := by
  have hok := okC_cell hb
  have hnm : ∀ p ∈ bs, p.1 ≠ h := fun p hp e => by
    rw [← Bool.not_eq_true] at hn
    exact hn (hasK_iff.2 (List.mem_map.2 ⟨p, hp, e⟩))
  have e : putK bs h b = bs ++ [(h, b)] := by unfold putK; rw [hn]; rfl
  have ek : ∀ z, fK (keysB (putK bs h b)) z = fK (keysB bs) z + if z ∈ chain (cellB b) then 1 else 0 := fun z => by
    rw [e, ← fK_cons]
    unfold keysB
    rw [List.map_append]
    exact fK_perm (List.perm_append_comm) z
  have h1 : NF (cntL 1 N (chain (cellB b))) (fK (keysB (putK bs h b))) (gB bs) :=
    (t.nf.counts (k := 1) (chain (cellB b)) (chain_nd hok) (fun z hz => (chain_ok hok z hz).1) (fun z hz h0 _ p => by have := fK_nonneg (keysB bs) z; omega) fun z hz h0 _ p => none_in _ h0 p).ext (fun z => by rw [ek z]) fun _ _ => Iff.rfl
  have hval := h1.val _ v ((get_mem h1.nd).1 hv)
  have hin : ∀ p, p ∈ putK bs h b ↔ p = (h, b) ∨ p ∈ bs := fun p => by
    rw [put_mem t.nd]
    exact ⟨fun q => q.imp id (·.1), fun q => q.imp id fun q => ⟨q, hnm p q⟩⟩
  refine ⟨putK_nd t.nd h b, fun p hp => ?_, by rw [t.cs, put_cs], ?_⟩
  · rcases (hin p).1 hp with rfl | q
    · exact hb
    · exact t.ok p q
  · refine h1.set (by rw [hasK_get, hv]; rfl) ⟨hval.1, putK_nd hval.2.1 h b, fun p => ?_⟩ fun y hy p => ?_
    · rw [put_mem hval.2.1]
      unfold gB
      rw [hin p, hval.2.2]
      constructor
      · rintro (rfl | q)
        · exact ⟨.inl rfl, rfl⟩
        · exact ⟨.inr q.1.1, q.1.2⟩
      · rintro ⟨rfl | q, q2⟩
        · exact .inl rfl
        · exact .inr ⟨⟨q, q2⟩, hnm p q⟩
    · unfold gB
      rw [hin p]
      constructor
      · rintro ⟨rfl | q, q2⟩
        · exact absurd q2.symm hy
        · exact ⟨q, q2⟩
      · rintro ⟨q, q2⟩
        exact ⟨.inr q, q2⟩
/-- A box is put where it was. -/
theorem TI.same (t : TI bs C N) (hp : (h, c) ∈ bs) (hb : okB b = true) (hc : cellB c = cellB b) {v : NV} (hv : getK N (cellB b) = some v) :
    TI (putK bs h b) (putK C h (cellB b)) (putK N (cellB b) (putK v.1 h b, v.2)) := by
  have hval := t.nf.val _ v ((get_mem t.nf.nd).1 hv)
  have ek : keysB (putK bs h b) = keysB bs := by
    unfold keysB putK
    rw [if_pos (hasK_iff.2 (List.mem_map.2 ⟨_, hp, rfl⟩)), List.map_map]
    refine List.map_congr_left fun p hpm => ?_
    simp only [Function.comp]
    split
    · rename_i e
      have r1 := (get_mem t.nd).2 hp
      have r2 : getK bs h = some p.2 := (get_mem t.nd).2 (by rw [← e]; exact hpm)
      rw [r1] at r2
      rw [← hc, Option.some.inj r2]
    · rfl
  refine ⟨putK_nd t.nd h b, fun p hm => ?_, by rw [t.cs, put_cs], ?_⟩
  · rcases (put_mem t.nd).1 hm with rfl | q
    · exact hb
    · exact t.ok p q.1
  · rw [ek]
    refine t.nf.set (by rw [← hc]; exact t.node hp) ⟨hval.1, putK_nd hval.2.1 h b, fun p => ?_⟩ fun y hy p => ?_
    · rw [put_mem hval.2.1]
      unfold gB
      rw [put_mem t.nd, hval.2.2]
      constructor
      · rintro (rfl | q)
        · exact ⟨.inl rfl, rfl⟩
        · exact ⟨.inr ⟨q.1.1, q.2⟩, q.1.2⟩
      · rintro ⟨rfl | q, q2⟩
        · exact .inl rfl
        · exact .inr ⟨⟨q.1, q2⟩, q.2⟩
    · unfold gB
      rw [put_mem t.nd]
      constructor
      · rintro ⟨rfl | q, q2⟩
        · exact absurd q2.symm hy
        · exact ⟨q.1, q2⟩
      · rintro ⟨q, q2⟩
        refine ⟨.inr ⟨q, fun e => hy ?_⟩, q2⟩
        have r1 := (get_mem t.nd).2 hp
        have r2 : getK bs h = some p.2 := (get_mem t.nd).2 (by rw [← e]; exact q)
        rw [r1] at r2
        rw [← q2, ← Option.some.inj r2, hc]
end
end Go.Qd

/- Plain words for walks over trees: what is met, what isn't. No program in sight. -/
namespace Go.Qd
open Go.Px
set_option linter.unusedVariables false
set_option linter.unusedSimpArgs false
set_option linter.unusedSectionVars false
def kids (c : C3) : List C3 := [⟨c.1 + 1, 2 * c.2.1, 2 * c.2.2⟩, ⟨c.1 + 1, 2 * c.2.1 + 1, 2 * c.2.2⟩, ⟨c.1 + 1, 2 * c.2.1, 2 * c.2.2 + 1⟩, ⟨c.1 + 1, 2 * c.2.1 + 1, 2 * c.2.2 + 1⟩]
theorem mem_kids {c y : C3} : y ∈ kids c ↔ upC y = c := by
  obtain ⟨d, x, z⟩ := c
  obtain ⟨d', x', z'⟩ := y
  simp only [kids, upC, List.mem_cons, List.not_mem_nil, or_false, Prod.mk.injEq]
  omega
theorem kids_d {c k : C3} (h : k ∈ kids c) : k.1 = c.1 + 1 := by
  have := mem_kids.1 h
  subst this
  show k.1 = k.1 - 1 + 1
  omega
theorem kids_ok {c k : C3} (h : okC c = true) (hd : c.1 < 8) (hk : k ∈ kids c) : okC k = true := by
  have h1 := okC_iff.1 h
  have h2 := mem_kids.1 hk
  subst h2
  have e : (upC k).1 = k.1 - 1 := rfl
  have ex : (upC k).2.1 = k.2.1 / 2 := rfl
  have ey : (upC k).2.2 = k.2.2 / 2 := rfl
  rw [e, ex, ey] at h1
  rw [e] at hd
  refine okC_iff.2 ⟨by omega, ?_⟩
  have h3 : (2 : Int) ^ k.1.toNat = 2 * 2 ^ (k.1 - 1).toNat := by
    rw [show k.1.toNat = (k.1 - 1).toNat + 1 by omega, Int.pow_succ, Int.mul_comm]
  rw [h3]
  omega
/-- Have all been entered, up to one? -/
def goodTo (e : C3 → Bool) : List C3 → C3 → Bool
  | [], _ => false
  | z :: r, c => e z && (decide (z = c) || goodTo e r c)
theorem goodTo_mem {e : C3 → Bool} : ∀ {l : List C3} {c : C3}, goodTo e l c = true → c ∈ l
  | [], _, h => by cases h
  | z :: r, c, h => by
    simp only [goodTo, Bool.and_eq_true, Bool.or_eq_true, decide_eq_true_eq] at h
    rcases h.2 with rfl | h2
    · exact List.mem_cons_self ..
    · exact List.mem_cons_of_mem _ (goodTo_mem h2)
theorem chain_depth {y : C3} (h : okC y = true) : ∀ z ∈ chain y, ∀ z' ∈ chain y, z.1 = z'.1 → z = z' := by
  refine chain_ind (m := fun y => ∀ z ∈ chain y, ∀ z' ∈ chain y, z.1 = z'.1 → z = z') (fun y hy h0 z hz z' hz' _ => ?_) (fun y hy h0 ih z hz z' hz' hd => ?_) y h
  · rw [chain_zero h0] at hz hz'
    rw [List.mem_singleton.1 hz, List.mem_singleton.1 hz']
  · rw [chain_step hy h0] at hz hz'
    have e : (upC y).1 = y.1 - 1 := rfl
    rcases List.mem_cons.1 hz with rfl | hz
    · rcases List.mem_cons.1 hz' with rfl | hz'
      · rfl
      · have := (chain_ok (okC_up hy h0) z' hz').2
        omega
    · rcases List.mem_cons.1 hz' with rfl | hz'
      · have := (chain_ok (okC_up hy h0) z hz).2
        omega
      · exact ih z hz z' hz' hd
theorem goodTo_step (e : C3 → Bool) {c : C3} (hc : 0 ≤ c.1) {y : C3} (hy : okC y = true) : goodTo e (chain y) c = (e c && (decide (y = c) || (kids c).any fun k => goodTo e (chain y) k)) := by
  refine chain_ind (m := fun y => goodTo e (chain y) c = (e c && (decide (y = c) || (kids c).any fun k => goodTo e (chain y) k))) (fun y hy h0 => ?_) (fun y hy h0 ih => ?_) y hy
  · rw [chain_zero h0]
    have hno : ((kids c).any fun k => goodTo e [y] k) = false := by
      rw [List.any_eq_false]
      intro k hk hg
      have h1 := List.mem_singleton.1 (goodTo_mem hg)
      have h2 := kids_d hk
      rw [h1] at h2
      omega
    rw [hno, Bool.or_false]
    simp only [goodTo, Bool.or_false]
    by_cases h1 : y = c
    · subst h1; rfl
    · simp [h1]
  · rw [chain_step hy h0]
    by_cases h1 : y = c
    · subst h1
      simp [goodTo]
    · have e1 : ((kids c).any fun k => goodTo e (y :: chain (upC y)) k) = (e y && (decide (upC y = c) || (kids c).any fun k => goodTo e (chain (upC y)) k)) := by
        have e2 : decide (upC y = c) = (kids c).any fun k => decide (y = k) := by
          rw [Bool.eq_iff_iff, decide_eq_true_iff, ← mem_kids, List.any_eq_true]
          constructor
          · exact fun h => ⟨y, h, by simp⟩
          · rintro ⟨k, hk, he⟩
            rw [of_decide_eq_true he]
            exact hk
        rw [e2]
        generalize kids c = l
        induction l with
        | nil => simp
        | cons k l ih2 =>
          simp only [List.any_cons, goodTo] at ih2 ⊢
          rw [ih2]
          cases e y <;> cases decide (y = k) <;> cases goodTo e (chain (upC y)) k <;> cases l.any (fun k => decide (y = k)) <;> cases l.any (fun k => goodTo e (chain (upC y)) k) <;> rfl
      rw [e1, decide_eq_false h1]
      simp only [goodTo, decide_eq_false h1, Bool.false_or]
      rw [ih]
      cases e y <;> cases e c <;> rfl
theorem perm_or {α : Type} {p q : α → Bool} {l : List α} (h : ∀ x ∈ l, ¬ (p x = true ∧ q x = true)) : (l.filter fun x => p x || q x).Perm (l.filter p ++ l.filter q) := by
  induction l with
  | nil => exact List.Perm.refl _
  | cons x r ih =>
    have ih' := ih fun y hy => h y (List.mem_cons_of_mem _ hy)
    have hx := h x (List.mem_cons_self ..)
    simp only [List.filter_cons]
    cases hp : p x with
    | true =>
      cases hq : q x with
      | true => exact absurd ⟨hp, hq⟩ hx
      | false => simpa using ih'
    | false =>
      cases hq : q x with
      | true => simpa using (ih'.cons x).trans List.perm_middle.symm
      | false => simpa using ih'
theorem perm_any {α β : Type} {g : α → β → Bool} {l : List α} : ∀ {ks : List β}, ks.Nodup → (∀ x ∈ l, ∀ k ∈ ks, ∀ k' ∈ ks, g x k = true → g x k' = true → k = k') → (l.filter fun x => ks.any fun k => g x k).Perm (ks.flatMap fun k => l.filter fun x => g x k)
  | [], _, _ => by simp
  | k :: ks, hd, h => by
    have hd' := List.nodup_cons.1 hd
    rw [List.flatMap_cons]
    refine (perm_or (p := fun x => g x k) (q := fun x => ks.any fun k => g x k) fun x hx hh => ?_).trans ((perm_any hd'.2 fun x hx k1 h1 k2 h2 => h x hx k1 (List.mem_cons_of_mem _ h1) k2 (List.mem_cons_of_mem _ h2)).append_left _)
    obtain ⟨k', hk', hg⟩ := List.any_eq_true.1 hh.2
    have := h x hx k (List.mem_cons_self ..) k' (List.mem_cons_of_mem _ hk') hh.1 hg
    subst this
    exact hd'.1 hk'
/-- What a walk meets from a cell on. -/
def subW (e : C3 → Bool) (bs : List (HH × BB)) (c : C3) : List (HH × BB) := bs.filter fun x => goodTo e (chain (cellB x.2)) c
def ownW (bs : List (HH × BB)) (c : C3) : List (HH × BB) := bs.filter fun x => decide (cellB x.2 = c)
theorem kids_nd (c : C3) : (kids c).Nodup := by
  obtain ⟨d, x, y⟩ := c
  simp only [kids, List.nodup_cons, List.mem_cons, List.not_mem_nil, or_false, Prod.mk.injEq, List.nodup_nil, not_false_eq_true, and_true, true_and]
  omega
theorem subW_no {e : C3 → Bool} {bs : List (HH × BB)} (hok : ∀ x ∈ bs, okC (cellB x.2) = true) {c : C3} (hc : 0 ≤ c.1) (he : e c = false) : subW e bs c = [] := by
  unfold subW
  rw [List.filter_eq_nil_iff]
  intro x hx hg
  rw [goodTo_step e hc (hok x hx), he] at hg
  cases hg
theorem subW_none {e : C3 → Bool} {bs : List (HH × BB)} {c : C3} (h : ∀ x ∈ bs, ¬ c ∈ chain (cellB x.2)) : subW e bs c = [] := by
  unfold subW
  rw [List.filter_eq_nil_iff]
  exact fun x hx hg => h x hx (goodTo_mem hg)
theorem subW_yes {e : C3 → Bool} {bs : List (HH × BB)} (hok : ∀ x ∈ bs, okC (cellB x.2) = true) {c : C3} (hc : 0 ≤ c.1) (he : e c = true) : (subW e bs c).Perm (ownW bs c ++ (kids c).flatMap (subW e bs)) := by
  have h1 : subW e bs c = bs.filter fun x => decide (cellB x.2 = c) || (kids c).any fun k => goodTo e (chain (cellB x.2)) k := by
    unfold subW
    refine List.filter_congr fun x hx => ?_
    rw [goodTo_step e hc (hok x hx), he, Bool.true_and]
  rw [h1]
  refine (perm_or fun x hx hh => ?_).trans ((perm_any (kids_nd c) fun x hx k hk k' hk' hg hg' => ?_).append_left _)
  · obtain ⟨k, hk, hg⟩ := List.any_eq_true.1 hh.2
    have h2 := (chain_ok (hok x hx) k (goodTo_mem hg)).2
    have h3 := kids_d hk
    rw [of_decide_eq_true hh.1] at h2
    omega
  · exact chain_depth (hok x hx) k (goodTo_mem hg) k' (goodTo_mem hg') ((kids_d hk).trans (kids_d hk').symm)
theorem subW_deep {e : C3 → Bool} {bs : List (HH × BB)} (hok : ∀ x ∈ bs, okC (cellB x.2) = true) {c : C3} (hd : c.1 = 8) : (kids c).flatMap (subW e bs) = [] := by
  rw [List.flatMap_eq_nil_iff]
  intro k hk
  refine subW_none fun x hx hm => ?_
  have h1 := okC_iff.1 (chain_ok (hok x hx) k hm).1
  have h2 := kids_d hk
  omega
/-! ### How long a walk may be -/
def wgt (c : C3) : Nat := 5 ^ (9 - c.1).toNat
def wgtS (S : List C3) : Nat := (S.map wgt).sum
theorem wgt_kids {c : C3} (h : 0 ≤ c.1 ∧ c.1 < 8) : wgtS (kids c) < wgt c := by
  have h1 : ∀ k ∈ kids c, wgt k = 5 ^ (8 - c.1).toNat := fun k hk => by
    unfold wgt
    rw [kids_d hk]
    congr 1
    omega
  have h2 : wgtS (kids c) = 4 * 5 ^ (8 - c.1).toNat := by
    unfold wgtS
    rw [List.map_congr_left h1]
    simp [kids]
    omega
  have h3 : wgt c = 5 * 5 ^ (8 - c.1).toNat := by
    unfold wgt
    rw [show (9 - c.1).toNat = (8 - c.1).toNat + 1 by omega, Nat.pow_succ, Nat.mul_comm]
  have h4 : 0 < 5 ^ (8 - c.1).toNat := Nat.pow_pos (by omega)
  omega
theorem wgt_pos (c : C3) : 0 < wgt c := Nat.pow_pos (by omega)
theorem wgtS_app (S T : List C3) : wgtS (S ++ T) = wgtS S + wgtS T := by simp [wgtS]
theorem wgtS_one (c : C3) : wgtS [c] = wgt c := by simp [wgtS]
theorem wgtS_len (S : List C3) : S.length ≤ wgtS S := by
  induction S with
  | nil => simp
  | cons c r ih =>
    have := wgt_pos c
    simp only [wgtS, List.map_cons, List.sum_cons, List.length_cons] at *
    omega
def inT (bs : List (HH × BB)) (c : C3) : List (HH × BB) := subW (fun _ => true) bs c
theorem goodTo_true : ∀ (l : List C3) (c : C3), goodTo (fun _ => true) l c = decide (c ∈ l)
  | [], c => by simp [goodTo]
  | z :: r, c => by
    simp only [goodTo, Bool.true_and, goodTo_true r c, List.mem_cons]
    by_cases h : z = c
    · simp [h]
    · have h' : ¬ c = z := fun e => h e.symm
      simp [h, h']
theorem mem_inT {bs : List (HH × BB)} {c : C3} {x : HH × BB} : x ∈ inT bs c ↔ x ∈ bs ∧ c ∈ chain (cellB x.2) := by
  unfold inT subW
  rw [List.mem_filter, goodTo_true, decide_eq_true_iff]
theorem inT_root {bs : List (HH × BB)} (hok : ∀ x ∈ bs, okB x.2 = true) : inT bs rootC = bs := by
  unfold inT subW
  rw [List.filter_eq_self]
  intro x hx
  rw [goodTo_true, decide_eq_true_iff]
  exact chain_root (okC_cell (hok x hx))
theorem inT_split {bs : List (HH × BB)} (hok : ∀ x ∈ bs, okB x.2 = true) {zz : C3} (hz : okC zz = true) : (inT bs zz).Perm (ownW bs zz ++ (kids zz).flatMap (inT bs)) :=
  subW_yes (fun x hx => okC_cell (hok x hx)) (okC_iff.1 hz).1.1 rfl
theorem inT_deep {bs : List (HH × BB)} (hok : ∀ x ∈ bs, okB x.2 = true) {zz : C3} (hd : zz.1 = 8) : (kids zz).flatMap (inT bs) = [] := subW_deep (fun x hx => okC_cell (hok x hx)) hd
section
variable {vis vi blk lf nb bs K S1 : List (HH × BB)} {zz : C3}
theorem pop_none {S1 : List C3} (h : (vis ++ blk ++ (S1 ++ [zz]).flatMap (inT bs)).Perm bs) (h0 : inT bs zz = []) : (vis ++ blk ++ S1.flatMap (inT bs)).Perm bs := by
  simpa [h0] using h
theorem pop_no {S1 : List C3} (h : (vis ++ blk ++ (S1 ++ [zz]).flatMap (inT bs)).Perm bs) : (vis ++ (blk ++ inT bs zz) ++ S1.flatMap (inT bs)).Perm bs := by
  rw [List.perm_iff_count] at h ⊢
  intro a
  have := h a
  simp only [List.flatMap_append, List.flatMap_cons, List.flatMap_nil, List.append_nil, List.count_append] at this ⊢
  omega
theorem pop_no_rest {S1 : List C3} (h : (vis ++ blk ++ (S1 ++ [zz]).flatMap (inT bs)).Perm bs) : ∃ rest, (vis ++ (blk ++ inT bs zz) ++ rest).Perm bs := ⟨_, pop_no h⟩
theorem pop_deep {S1 : List C3} (h : (vis ++ blk ++ (S1 ++ [zz]).flatMap (inT bs)).Perm bs) (hs : (inT bs zz).Perm (ownW bs zz ++ (kids zz).flatMap (inT bs))) (hd : (kids zz).flatMap (inT bs) = []) (hn : nb.Perm (ownW bs zz)) (hi : (vi ++ lf).Perm (vis ++ nb)) (hl : lf = []) :
    (vi ++ blk ++ S1.flatMap (inT bs)).Perm bs := by
  subst hl
  rw [hd, List.append_nil] at hs
  rw [List.perm_iff_count] at *
  intro a
  have := h a; have := hs a; have := hn a; have := hi a
  simp only [List.flatMap_append, List.flatMap_cons, List.flatMap_nil, List.append_nil, List.count_append] at *
  omega
theorem pop_yes {S1 : List C3} (h : (vis ++ blk ++ (S1 ++ [zz]).flatMap (inT bs)).Perm bs) (hs : (inT bs zz).Perm (ownW bs zz ++ (kids zz).flatMap (inT bs))) (hn : nb.Perm (ownW bs zz)) (hi : (vi ++ lf).Perm (vis ++ nb)) (hl : lf = []) :
    (vi ++ blk ++ (S1 ++ kids zz).flatMap (inT bs)).Perm bs := by
  subst hl
  rw [List.flatMap_append]
  generalize (kids zz).flatMap (inT bs) = KK at *
  rw [List.perm_iff_count] at *
  intro a
  have := h a; have := hs a; have := hn a; have := hi a
  simp only [List.flatMap_append, List.flatMap_cons, List.flatMap_nil, List.append_nil, List.count_append] at *
  omega
theorem pop_rest {S1 : List C3} {x : HH} {v : BB} {lf' : List (HH × BB)} (h : (vis ++ blk ++ (S1 ++ [zz]).flatMap (inT bs)).Perm bs) (hs : (inT bs zz).Perm (ownW bs zz ++ (kids zz).flatMap (inT bs))) (hn : nb.Perm (ownW bs zz)) (hi : (vi ++ lf).Perm (vis ++ nb)) (hl : lf.Perm ((x, v) :: lf')) :
    ∃ rest, ((vi ++ [(x, v)]) ++ blk ++ rest).Perm bs := by
  refine ⟨lf' ++ (kids zz).flatMap (inT bs) ++ S1.flatMap (inT bs), ?_⟩
  generalize (kids zz).flatMap (inT bs) = KK at *
  rw [List.perm_iff_count] at *
  intro a
  have := h a; have := hs a; have := hn a; have := hi a; have := hl a
  simp only [List.flatMap_append, List.flatMap_cons, List.flatMap_nil, List.append_nil, List.count_append, List.count_cons, List.count_nil] at *
  omega
theorem next_perm {x : HH} {v : BB} {lf' : List (HH × BB)} (hi : (vi ++ lf).Perm (vis ++ nb)) (hl : lf.Perm ((x, v) :: lf')) : ((vi ++ [(x, v)]) ++ lf').Perm (vis ++ nb) := by
  rw [List.perm_iff_count] at *
  intro a
  have := hi a; have := hl a
  simp only [List.count_append, List.count_cons, List.count_nil] at *
  omega
end
theorem last_get {S1 : List C3} {zz d : C3} : (S1 ++ [zz]).getD (((S1 ++ [zz]).length : Int) - 1).toNat d = zz := by
  rw [List.length_append, List.length_singleton, show ((((S1.length + 1 : Nat) : Int) - 1).toNat) = S1.length by omega]
  simp
theorem last_n {S1 : List C3} {zz : C3} : (((S1 ++ [zz]).length : Int) - 1).toNat = S1.length := by
  rw [List.length_append, List.length_singleton]
  omega
theorem last_take {S1 : List C3} {zz : C3} : (S1 ++ [zz]).take S1.length = S1 := by simp
theorem last_of {S : List C3} (h : 0 < (S.length : Int)) : ∃ (S1 : List C3) (zz : C3), S = S1 ++ [zz] := by
  have h0 : S ≠ [] := fun e => by subst e; simp at h
  exact ⟨S.dropLast, S.getLast h0, (List.dropLast_concat_getLast h0).symm⟩
theorem wgt_pop {S1 : List C3} {zz : C3} : wgtS S1 < wgtS (S1 ++ [zz]) := by
  have := wgt_pos zz
  rw [wgtS_app, wgtS_one]
  omega
theorem wgt_push {S1 : List C3} {zz : C3} (hz : okC zz = true) (hd : zz.1 < 8) : wgtS (S1 ++ kids zz) < wgtS (S1 ++ [zz]) := by
  have := wgt_kids ⟨(okC_iff.1 hz).1.1, hd⟩
  rw [wgtS_app, wgtS_app, wgtS_one]
  omega

theorem loose_up {c : C3} (hc : okC c = true) (h0 : c.1 ≠ 0) :
    (upC c).2.1 * side (upC c).1 - side (upC c).1 / 2 ≤ c.2.1 * side c.1 - side c.1 / 2 ∧ c.2.1 * side c.1 + side c.1 + side c.1 / 2 ≤ (upC c).2.1 * side (upC c).1 + side (upC c).1 + side (upC c).1 / 2 ∧
    (upC c).2.2 * side (upC c).1 - side (upC c).1 / 2 ≤ c.2.2 * side c.1 - side c.1 / 2 ∧ c.2.2 * side c.1 + side c.1 + side c.1 / 2 ≤ (upC c).2.2 * side (upC c).1 + side (upC c).1 + side (upC c).1 / 2 := by
  have h1 := (okC_iff.1 hc).1
  have hx := up_loose (d := c.1) (x := c.2.1) (by omega)
  have hy := up_loose (d := c.1) (x := c.2.2) (by omega)
  exact ⟨hx.1, hx.2, hy.1, hy.2⟩
theorem in_chain {b : BB} (hb : okB b = true) : ∀ c ∈ chain (cellB b), c.2.1 * side c.1 - 2097152 - side c.1 / 2 ≤ b.1 ∧ b.2.2.1 ≤ c.2.1 * side c.1 - 2097152 + side c.1 + side c.1 / 2 ∧ c.2.2 * side c.1 - 2097152 - side c.1 / 2 ≤ b.2.1 ∧ b.2.2.2 ≤ c.2.2 * side c.1 - 2097152 + side c.1 + side c.1 / 2 := by
  have hb' := hb
  unfold okB at hb'
  rw [Bool.and_eq_true] at hb'
  have hr := boxRight_iff.1 hb'.1
  have hw := inWorld_iff.1 hb'.2
  have hm : bsize b.1 b.2.1 b.2.2.1 b.2.2.2 ≤ 4194304 := by unfold bsize; split <;> omega
  have hbs := bsize_spec b.1 b.2.1 b.2.2.1 b.2.2.2
  have hx := in_loose (a := b.1) (b := b.2.2.1) (m := bsize b.1 b.2.1 b.2.2.1 b.2.2.2) (by omega) (by omega)
  have hy := in_loose (a := b.2.1) (b := b.2.2.2) (m := bsize b.1 b.2.1 b.2.2.1 b.2.2.2) (by omega) (by omega)
  have key : ∀ z, okC z = true → (z.2.1 * side z.1 - 2097152 - side z.1 / 2 ≤ b.1 ∧ b.2.2.1 ≤ z.2.1 * side z.1 - 2097152 + side z.1 + side z.1 / 2 ∧ z.2.2 * side z.1 - 2097152 - side z.1 / 2 ≤ b.2.1 ∧ b.2.2.2 ≤ z.2.2 * side z.1 - 2097152 + side z.1 + side z.1 / 2) →
      ∀ c ∈ chain z, c.2.1 * side c.1 - 2097152 - side c.1 / 2 ≤ b.1 ∧ b.2.2.1 ≤ c.2.1 * side c.1 - 2097152 + side c.1 + side c.1 / 2 ∧ c.2.2 * side c.1 - 2097152 - side c.1 / 2 ≤ b.2.1 ∧ b.2.2.2 ≤ c.2.2 * side c.1 - 2097152 + side c.1 + side c.1 / 2 := fun z hz => by
    refine chain_ind (m := fun z => (z.2.1 * side z.1 - 2097152 - side z.1 / 2 ≤ b.1 ∧ b.2.2.1 ≤ z.2.1 * side z.1 - 2097152 + side z.1 + side z.1 / 2 ∧ z.2.2 * side z.1 - 2097152 - side z.1 / 2 ≤ b.2.1 ∧ b.2.2.2 ≤ z.2.2 * side z.1 - 2097152 + side z.1 + side z.1 / 2) →
      ∀ c ∈ chain z, c.2.1 * side c.1 - 2097152 - side c.1 / 2 ≤ b.1 ∧ b.2.2.1 ≤ c.2.1 * side c.1 - 2097152 + side c.1 + side c.1 / 2 ∧ c.2.2 * side c.1 - 2097152 - side c.1 / 2 ≤ b.2.1 ∧ b.2.2.2 ≤ c.2.2 * side c.1 - 2097152 + side c.1 + side c.1 / 2) (fun z hz h0 h c hc => ?_) (fun z hz h0 ih h c hc => ?_) z hz
    · rw [chain_zero h0] at hc
      obtain rfl := List.mem_singleton.1 hc
      exact h
    · rw [chain_step hz h0] at hc
      rcases List.mem_cons.1 hc with rfl | hc
      · exact h
      · have hl := loose_up hz h0
        refine ih ?_ c hc
        generalize (upC z).2.1 * side (upC z).1 = X at *
        generalize (upC z).2.2 * side (upC z).1 = Y at *
        generalize z.2.1 * side z.1 = X' at *
        generalize z.2.2 * side z.1 = Y' at *
        generalize side (upC z).1 = s at *
        generalize side z.1 = s' at *
        omega
  exact key _ (okC_cell hb) ⟨hx.1, hx.2, hy.1, hy.2⟩
section
variable {bs : BS} {C : List (HH × C3)} {N : NM} {z : C3}
theorem TI.inT_none (t : TI bs C N) (hh : hasK N z = false) : inT bs z = [] := by
  refine subW_none fun x hx hm => ?_
  have h1 : hasK N z = true := (t.nf.ex z).2 (.inr (Int.ne_of_gt (fK_pos (List.mem_map.2 ⟨x, hx, rfl⟩) hm)))
  rw [h1] at hh; cases hh
theorem mem_own (bs : BS) (z : C3) (p : HH × BB) : p ∈ ownW bs z ↔ gB bs z p := by
  unfold ownW gB
  rw [List.mem_filter, decide_eq_true_iff]
theorem own_nodup {bs : BS} (d : bs.Nodup) (z : C3) : (ownW bs z).Nodup := d.sublist List.filter_sublist
theorem TI.own (t : TI bs C N) {v : NV} (hv : getK N z = some v) : v.1.Perm (ownW bs z) := by
  obtain ⟨_, h1, h2⟩ := t.nf.val z v ((get_mem t.nf.nd).1 hv)
  have d1 : v.1.Nodup := (List.pairwise_map.1 h1).imp fun q e => q (congrArg (·.1) e)
  have d2 : bs.Nodup := (List.pairwise_map.1 t.nd).imp fun q e => q (congrArg (·.1) e)
  refine (List.perm_ext_iff_of_nodup d1 (own_nodup d2 z)).2 fun p => ?_
  rw [h2]
  exact (mem_own bs z p).symm
/-- Where a walk that asks for boxes stands: what was met, what wasn't, what waits. -/
structure Wk (m : BB → Bool) (bs : BS) (S : List C3) (vis : BS) : Prop where
  ex : ∃ blk : BS, (vis ++ blk ++ S.flatMap (inT bs)).Perm bs ∧ ∀ x ∈ blk, m x.2 = false
  ok : ∀ c ∈ S, okC c = true
/-- .. in a node. -/
structure Wn (m : BB → Bool) (bs : BS) (S1 : List C3) (zz : C3) (vis lf : BS) : Prop where
  ex : ∃ (vis0 blk nb : BS), (vis0 ++ blk ++ (S1 ++ [zz]).flatMap (inT bs)).Perm bs ∧ (∀ x ∈ blk, m x.2 = false) ∧ nb.Perm (ownW bs zz) ∧ (vis ++ lf).Perm (vis0 ++ nb)
  ok : ∀ c ∈ S1 ++ [zz], okC c = true
variable {m : BB → Bool} {S S1 : List C3} {zz : C3} {vis lf : BS}
theorem Wk.start (t : TI bs C N) : Wk m bs [rootC] [] := by
  refine ⟨⟨[], ?_, fun x hx => by simp at hx⟩, fun c hc => ?_⟩
  · simp only [List.nil_append, List.flatMap_cons, List.flatMap_nil, List.append_nil]
    rw [inT_root t.ok]
  · rw [List.mem_singleton.1 hc]; rfl
theorem Wk.none (h : Wk m bs (S1 ++ [zz]) vis) (t : TI bs C N) (hn : hasK N zz = false) : Wk m bs S1 vis := by
  obtain ⟨blk, h1, h2⟩ := h.ex
  exact ⟨⟨blk, pop_none h1 (t.inT_none hn), h2⟩, fun c hc => h.ok c (List.mem_append.2 (.inl hc))⟩
theorem Wk.no (h : Wk m bs (S1 ++ [zz]) vis) (hm : ∀ x ∈ inT bs zz, m x.2 = false) : Wk m bs S1 vis := by
  obtain ⟨blk, h1, h2⟩ := h.ex
  exact ⟨⟨blk ++ inT bs zz, pop_no h1, fun x hx => (List.mem_append.1 hx).elim (h2 x) (hm x)⟩, fun c hc => h.ok c (List.mem_append.2 (.inl hc))⟩
theorem Wk.enter (h : Wk m bs (S1 ++ [zz]) vis) (t : TI bs C N) {v : NV} (hv : getK N zz = some v) : Wn m bs S1 zz vis v.1 := by
  obtain ⟨blk, h1, h2⟩ := h.ex
  exact ⟨⟨vis, blk, v.1, h1, h2, t.own hv, List.Perm.refl _⟩, h.ok⟩
theorem Wn.next (h : Wn m bs S1 zz vis lf) {x : HH} {v : BB} {lf' : BS} (hl : lf.Perm ((x, v) :: lf')) : Wn m bs S1 zz (vis ++ [(x, v)]) lf' := by
  obtain ⟨vis0, blk, nb, h1, h2, h3, h4⟩ := h.ex
  exact ⟨⟨vis0, blk, nb, h1, h2, h3, next_perm h4 hl⟩, h.ok⟩
theorem Wn.deep (h : Wn m bs S1 zz vis []) (t : TI bs C N) (hd : ¬ zz.1 < 8) : Wk m bs S1 vis := by
  obtain ⟨vis0, blk, nb, h1, h2, h3, h4⟩ := h.ex
  have hz := h.ok zz (by simp)
  have h8 : zz.1 = 8 := by have := okC_iff.1 hz; omega
  exact ⟨⟨blk, pop_deep h1 (inT_split t.ok hz) (inT_deep t.ok h8) h3 h4 rfl, h2⟩, fun c hc => h.ok c (List.mem_append.2 (.inl hc))⟩
theorem Wn.push (h : Wn m bs S1 zz vis []) (t : TI bs C N) (hd : zz.1 < 8) : Wk m bs (S1 ++ kids zz) vis := by
  obtain ⟨vis0, blk, nb, h1, h2, h3, h4⟩ := h.ex
  have hz := h.ok zz (by simp)
  refine ⟨⟨blk, pop_yes h1 (inT_split t.ok hz) h3 h4 rfl, h2⟩, fun c hc => ?_⟩
  rcases List.mem_append.1 hc with q | q
  · exact h.ok c (List.mem_append.2 (.inl q))
  · exact kids_ok hz hd q
theorem filter_none {α : Type} {p : α → Bool} {l : List α} (h : ∀ x ∈ l, p x = false) : l.filter p = [] := List.filter_eq_nil_iff.2 fun x hx => by simp [h x hx]
/-- What a walk has met at its end. -/
theorem Wk.done (h : Wk m bs [] vis) : ((vis.filter fun x => m x.2).map (·.1)).Perm ((bs.filter fun x => m x.2).map (·.1)) := by
  obtain ⟨blk, h1, h2⟩ := h.ex
  simp only [List.flatMap_nil, List.append_nil] at h1
  have h3 := (h1.filter fun x => m x.2).map (·.1)
  rw [List.filter_append, filter_none (p := fun x : HH × BB => m x.2) h2, List.append_nil] at h3
  exact h3
theorem Wk.vlen (h : Wk m bs S vis) : vis.length ≤ bs.length := by
  obtain ⟨blk, h1, _⟩ := h.ex
  have := h1.length_eq
  simp only [List.length_append] at this; omega
theorem Wn.vlen (h : Wn m bs S1 zz vis lf) (hn : lf ≠ []) : vis.length < bs.length := by
  obtain ⟨vis0, blk, nb, h1, h2, h3, h4⟩ := h.ex
  have e1 := h1.length_eq; have e3 := h4.length_eq
  have hz := h.ok zz (by simp)
  have e2 : (ownW bs zz).length ≤ (inT bs zz).length := by
    have : ∀ x ∈ ownW bs zz, x ∈ inT bs zz := fun x hx => by
      unfold ownW at hx
      have hx := List.mem_filter.1 hx
      exact mem_inT.2 ⟨hx.1, by rw [of_decide_eq_true hx.2]; exact chain_self _⟩
    unfold ownW inT subW
    rw [← List.countP_eq_length_filter, ← List.countP_eq_length_filter]
    refine List.countP_mono_left fun x _ hx => ?_
    rw [goodTo_true, decide_eq_true_iff, of_decide_eq_true hx]; exact chain_self _
  have e4 := h3.length_eq
  have e5 : 0 < lf.length := List.length_pos_iff.2 hn
  simp only [List.length_append, List.flatMap_append, List.flatMap_cons, List.flatMap_nil, List.append_nil] at e1 e3
  omega
end
end Go.Qd

/- The join of a law's walk with its row: arguments that read as they did; the answer; the package's errors out of the row's list. Nothing of any one program stands here. -/
namespace Go.Px
set_option linter.unusedVariables false
set_option linter.unusedSimpArgs false
set_option linter.unusedSectionVars false
open Go.RowKit Go.ChangeShapes Go.WideShapes

theorem trodAll_stays {H : Type} {enc : TypeId × Value → H} {P : Program} (hl : laidOutB P = true) {W W' : World} {sp' : Nat → Bool} : ∀ {ts : List TypeId} {vs : List Value} {ds : List (DataW H)} {ps : List MemPlace},
    DataW.TrodAll enc P W 0 (fun _ => true) true ts vs ds ps → (ts.all fun t => P.readableRec t && decide (t < P.types.size)) = true → (∀ p ∈ ps, W.sameAt W' p) → (∀ p ∈ ps, sp' p.block = true) → DataW.TrodAll enc P W' 0 sp' true ts vs ds ps
  | [], vs, ds, ps, h, _, _, _ => by
    obtain ⟨rfl, rfl, rfl⟩ := trodAll_nil h
    exact trodAll_mk0
  | t :: ts, vs, ds, ps, h, ht, hs, hsp => by
    obtain ⟨v, vs', d, ds', p, q, rfl, rfl, rfl, h1, h2⟩ := trodAll_cons h
    simp only [List.all_cons, Bool.and_eq_true, decide_eq_true_eq] at ht
    exact trodAll_cons_mk (WideElems.Trod_stays hl ht.1.1 ht.1.2 h1 (fun x hx => hs x (by simp [hx])) (fun x hx => hsp x (by simp [hx])))
      (trodAll_stays hl h2 ht.2 (fun x hx => hs x (by simp [hx])) (fun x hx => hsp x (by simp [hx])))

theorem bd_i64 {n : Int} (h : (Lit.int .i64 n).wf = true) : -9223372036854775808 ≤ n ∧ n ≤ 9223372036854775807 := by
  simp only [Lit.wf, Bool.and_eq_true, decide_eq_true_eq] at h
  exact h
/-- A law that returns true, and turns nothing old. -/
theorem law_post {H : Type} {enc : TypeId × Value → H} {P : Program} {f : Func} {s : ChangeSpec} {tb : TypeId} {W W' : World} {args : Array Value} {ds gs : List (DataW H)} {before : List MemPlace}
    (hl : laidOutB P = true) (hr : f.resultTypes = #[tb]) (hb : P.underlying tb = some .bool) (hts : (f.params.toList.all fun t => P.readableRec t && decide (t < P.types.size)) = true) (hv : s.vars = [])
    (hfn : (s.fn H ds).results = [.lit (.bool true)] ∧ (s.fn H ds).args = ds ∧ (s.fn H ds).vars = []) (hW : DataW.Whole enc P f.params.toList s.vars false W args.toList ds gs before) (hk : Keep Nn W W') :
    s.post enc P f false true false false W args (.bool true) W' := by
  have hW' := hW
  obtain ⟨p, q, hA, hV, he, hfz, hnd⟩ := hW'
  rw [hv] at hV
  obtain ⟨rfl, rfl⟩ := trodVars_none hV
  have hlt : ∀ x ∈ p, x.block < W.heap.size := fun x hx => by
    have := hW.lt x (by rw [he]; simp [hx])
    exact this
  have e1 : ds ++ ([] : List (DataW H)) = ds := by simp
  refine ⟨ds, [], before, [], p, [], hW, ?_, ?_, ?_, hk.below.frame _, fun h => by cases h⟩
  · rw [e1, hfn.1, hr]
    exact trodAll_mk1 (shut_bool hb true)
  · rw [e1, hfn.2.1]
    exact trodAll_stays hl hA hts (fun x hx => hk.below.same (hlt x hx)) (fun x hx => by simpa using hlt x hx)
  · rw [e1, hfn.2.2, hv]
    rfl

theorem sents {P : Program} {W : World} {nm : String} {ti tp te ts : TypeId} {ms : Array (String × TypeId)} {f : Field} (hi : P.underlying ti = some (.interface ms)) (hrow : ∀ u, P.typeName? 3 u = some nm → u = tp)
    (hp : P.underlying tp = some (.pointer te)) (he : P.underlying te = some (.struct #[f])) (hft : f.type = ts) (hfo : f.offset = 0) (hs : P.underlying ts = some .string) (hc : P.cellsOf te = 1) (hcs : P.cellsOf ts = 1) :
    ∀ {l : List (String × DataW Unit)} {ps : List MemPlace}, DataW.LaidVars P W l ps → (∀ x ∈ l, ∃ text, x.2 = .iface nm (.ptr (.agg [.lit (.string text)]))) →
    (∀ x ∈ l, ∀ g, P.globalNamed x.1 = some g → (P.globals[g]?).map (·.type) = some ti) →
    (∀ b off, MemPlace.cell b off ∈ ps → (∃ c t, W.heap[b]? = some (.cells c t (0, 0))) ∧ ∀ u v, W.cell? ⟨b, off, none⟩ = some (.iface u v) → Value.okWide P W .any 0 u v) →
    ∃ as : List Addr, as.length = l.length ∧ (as.map fun a => MemPlace.cell a.block a.off).Sublist ps ∧
      ∀ (i : Nat) x a, l[i]? = some x → as[i]? = some a → ∃ g, P.globalNamed x.1 = some g ∧ W.cell? ⟨g, 0, none⟩ = some (.iface tp (.pointer (some a))) ∧ ∃ c u, W.heap[a.block]? = some (.cells c u (0, 0))
  | [], ps, _, _, _, _ => ⟨[], rfl, by simp, fun i x a h => by simp at h⟩
  | (n, d) :: r, ps, h, hd, hg, hrows => by
    obtain ⟨g, t, cs, fuel, p, q, hg0, ht0, hv0, hd0, hr0, rfl⟩ := h
    obtain ⟨text, htext⟩ := hd (n, d) (by simp)
    simp only at htext
    subst htext
    have ht1 := hg _ (List.mem_cons_self ..) g hg0
    obtain rfl := Option.some.inj (ht1.symm.trans ht0)
    obtain ⟨l0⟩ := cs
    have ok0 : ∀ u v, l0 = [.iface u v] → Value.okWide P W .any 0 u v := fun u v e => by
      subst e
      exact (hrows g 0 (by simp [MemPlace.row])).2 u v (by simpa using World.var?_cell hg0 hv0 0)
    obtain ⟨a, s, rfl, hca, _, _, rfl⟩ := errorString_of_trod hi hrow hp he hft hfo hs hc hcs hd0 ok0
    obtain ⟨as, h1, h2, h3⟩ := sents hi hrow hp he hft hfo hs hc hcs hr0 (fun x hx => hd x (List.mem_cons_of_mem _ hx)) (fun x hx => hg x (List.mem_cons_of_mem _ hx)) (fun b off hm => hrows b off (by simp [hm]))
    refine ⟨a :: as, by simp [h1], ?_, ?_⟩
    · have e : MemPlace.row a 1 = [MemPlace.cell a.block a.off] := by simp [MemPlace.row]
      rw [List.map_cons, e, List.append_assoc]
      exact (List.Sublist.append (List.nil_sublist _) (List.Sublist.append (List.Sublist.refl [MemPlace.cell a.block a.off]) h2))
    · intro i x a' hx ha
      rcases i with _ | i
      · simp only [List.getElem?_cons_zero, Option.some.injEq] at hx ha
        subst hx ha
        refine ⟨g, hg0, ?_, ?_⟩
        · have := World.var?_cell hg0 hv0 0
          simpa using this
        · exact (hrows a.block a.off (by simp [MemPlace.row])).1
      · simp only [List.getElem?_cons_succ] at hx ha
        exact h3 i x a' hx ha

/-- The package's errors, as the row's list lays them: the variables 0 .. in their order. -/
theorem errs_of_laid {P : Program} {W : World} {gs : List Nat} {l : List (String × DataW Unit)} {nm : String} {ti tp te ts : TypeId} {ms : Array (String × TypeId)} {f : Field} (hi : P.underlying ti = some (.interface ms)) (hrow : ∀ u, P.typeName? 3 u = some nm → u = tp)
    (hp : P.underlying tp = some (.pointer te)) (he : P.underlying te = some (.struct #[f])) (hft : f.type = ts) (hfo : f.offset = 0) (hs : P.underlying ts = some .string) (hc : P.cellsOf te = 1) (hcs : P.cellsOf ts = 1)
    (hgnd : gs.Nodup) (hd : ∀ x ∈ l, ∃ text, x.2 = .iface nm (.ptr (.agg [.lit (.string text)]))) (hnames : l.map (fun x => P.globalNamed x.1) = gs.map some) (htypes : gs.all (fun g => ((P.globals[g]?).map (·.type)) == some ti) = true)
    (hh : l.filter (fun x => x.2.handleName?.isSome) = []) (h : laidMetH P l W) : ∃ E, Errs gs W tp E := by
  unfold laidMetH at h
  rw [hh] at h
  obtain ⟨ps, hv, hnd, hrows⟩ := h
  have hlen : l.length = gs.length := by
    have := congrArg List.length hnames
    simpa using this
  have hidx : ∀ (i : Nat) (x : String × DataW Unit), l[i]? = some x → ∃ g, gs[i]? = some g ∧ P.globalNamed x.1 = some g := fun i x hx => by
    have h1 : (l.map (fun x => P.globalNamed x.1))[i]? = some (P.globalNamed x.1) := by simp [hx]
    rw [hnames] at h1
    have hlt : i < gs.length := by
      have := (List.getElem?_eq_some_iff.1 hx).1
      omega
    simp [hlt] at h1
    exact ⟨gs[i], by simp [hlt], h1.symm⟩
  obtain ⟨as, h1, h2, h3⟩ := sents hi hrow hp he hft hfo hs hc hcs hv hd (fun x hx g hg => by
    obtain ⟨i, hlt, rfl⟩ := List.getElem_of_mem hx
    obtain ⟨g', h5, h6⟩ := hidx i _ (List.getElem?_eq_getElem hlt)
    obtain rfl := Option.some.inj (h6.symm.trans hg)
    simp only [List.all_eq_true, beq_iff_eq] at htypes
    exact htypes g' (List.mem_of_getElem? h5)) hrows
  have key : ∀ (i g : Nat), gs[i]? = some g → ∃ a, as[i]? = some a ∧ W.cell? ⟨g, 0, none⟩ = some (.iface tp (.pointer (some a))) ∧ ∃ c u, W.heap[a.block]? = some (.cells c u (0, 0)) := fun i g hg => by
    have hlt : i < gs.length := (List.getElem?_eq_some_iff.1 hg).1
    have hx : l[i]? = some (l[i]'(by omega)) := List.getElem?_eq_getElem (by omega)
    have ha : as[i]? = some (as[i]'(by omega)) := List.getElem?_eq_getElem (by omega)
    obtain ⟨g', h4, h5, h6⟩ := h3 i _ _ hx ha
    obtain ⟨g2, h7, h8⟩ := hidx i _ hx
    obtain rfl := Option.some.inj (h7.symm.trans hg)
    obtain rfl := Option.some.inj (h8.symm.trans h4)
    exact ⟨_, ha, h5, h6⟩
  have at_ : ∀ g, gs.contains g = true → gs[gs.idxOf g]? = some g := fun g hg => by
    have hm : g ∈ gs := by simpa using hg
    rw [List.getElem?_eq_getElem (List.idxOf_lt_length_of_mem hm)]
    simp
  have hnd2 := hnd.sublist h2
  refine ⟨fun g => as.getD (gs.idxOf g) ⟨0, 0, none⟩, fun g hg => ?_, fun g hg => ?_, fun g h hg hh2 e => ?_⟩
  · obtain ⟨a, ha, hb, _⟩ := key _ g (at_ g hg)
    simpa [List.getD_eq_getElem?_getD, ha] using hb
  · obtain ⟨a, ha, _, hb⟩ := key _ g (at_ g hg)
    simpa [List.getD_eq_getElem?_getD, ha] using hb
  · obtain ⟨a, ha, _, _⟩ := key _ g (at_ g hg)
    obtain ⟨b, hb, _, _⟩ := key _ h (at_ h hh2)
    simp only [List.getD_eq_getElem?_getD, ha, hb, Option.getD_some] at e
    subst e
    have q1 : (as.map fun a => MemPlace.cell a.block a.off)[gs.idxOf g]? = some (.cell a.block a.off) := by simp [ha]
    have q2 : (as.map fun a => MemPlace.cell a.block a.off)[gs.idxOf h]? = some (.cell a.block a.off) := by simp [hb]
    have hg' : gs.idxOf g < (as.map fun a => MemPlace.cell a.block a.off).length := (List.getElem?_eq_some_iff.1 q1).1
    have hij := (List.getElem?_inj hg' hnd2).1 (q1.trans q2.symm)
    have e1 := at_ g hg
    rw [hij, at_ h hh2] at e1
    exact (Option.some.inj e1).symm
end Go.Px

/- Arguments that are slices, and structs of numbers: what they are. Nothing of any one program stands here. -/
namespace Go.Px
set_option linter.unusedVariables false
set_option linter.unusedSimpArgs false
set_option linter.unusedSectionVars false
open Go.RowKit Go.ChangeShapes Go.WideShapes Go.Deep

/-- Of what kind a cell is: a number's, or yes and no. -/
def OkC : Option IntKind → Value → Prop
  | some k, v => ∃ n, v = .int k n ∧ (Lit.int k n).wf = true
  | none, v => ∃ b, v = .bool b
def OkCs : List (Option IntKind) → List Value → Prop
  | [], [] => True
  | k :: ks, v :: vs => OkC k v ∧ OkCs ks vs
  | _, _ => False
theorem OkCs.cons {k : Option IntKind} {ks : List (Option IntKind)} {cs : List Value} (h : OkCs (k :: ks) cs) : ∃ v vs, cs = v :: vs ∧ OkC k v ∧ OkCs ks vs := by
  cases cs with
  | nil => exact h.elim
  | cons v vs => exact ⟨v, vs, rfl, h.1, h.2⟩
theorem OkCs.nil {cs : List Value} (h : OkCs [] cs) : cs = [] := by
  cases cs with
  | nil => rfl
  | cons v vs => exact h.elim
theorem OkCs.app {ks ls : List (Option IntKind)} : ∀ {cs ds : List Value}, OkCs ks cs → OkCs ls ds → OkCs (ks ++ ls) (cs ++ ds) := by
  induction ks with
  | nil =>
    intro cs ds h h2
    cases cs with
    | nil => exact h2
    | cons _ _ => exact h.elim
  | cons k ks ih =>
    intro cs ds h h2
    cases cs with
    | nil => exact h.elim
    | cons c cs => exact ⟨h.1, ih h.2 h2⟩

def shapeF (P : Program) (g : TypeId → List (Option IntKind) → Bool) : List Field → Nat → List (Option IntKind) → Bool
  | [], _, ks => ks.isEmpty
  | f :: r, off, ks => Nat.beq f.offset off && Nat.ble (P.cellsOf f.type) ks.length && g f.type (ks.take (P.cellsOf f.type)) && shapeF P g r (off + P.cellsOf f.type) (ks.drop (P.cellsOf f.type))
/-- The cells of a type. -/
def shapeB (P : Program) : Nat → TypeId → List (Option IntKind) → Bool
  | 0, _, _ => false
  | n + 1, t, ks => match P.underlying t with
    | some (.int k) => match ks with
      | [some k'] => decide (k = k')
      | _ => false
    | some .bool => match ks with
      | [none] => true
      | _ => false
    | some (.struct fs) => shapeF P (shapeB P n) fs.toList 0 ks
    | _ => false

section
variable {H : Type} {enc : TypeId × Value → H} {P : Program} {W : World} {base : Nat} {spare : Nat → Bool} {held : Bool}

theorem shapeF_ok {n : Nat} (ih : ∀ t ks, shapeB P n t ks = true → ∀ fuel cs y, cs.length = ks.length → DataW.trod enc P W base spare held fuel t cs = some y → OkCs ks cs) {cs : List Value} {fuel : Nat} :
    ∀ (fl : List Field) (off : Nat) (ks : List (Option IntKind)), shapeF P (shapeB P n) fl off ks = true → (∀ f ∈ fl, ∃ y, DataW.trod enc P W base spare held fuel f.type ((cs.drop f.offset).take (P.cellsOf f.type)) = some y) → (cs.drop off).length = ks.length → OkCs ks (cs.drop off)
  | [], off, ks, h, _, hl => by
    simp only [shapeF, List.isEmpty_iff] at h
    subst h
    have : cs.drop off = [] := List.eq_nil_of_length_eq_zero (by simpa using hl)
    rw [this]
    trivial
  | f :: r, off, ks, h, hf, hl => by
    simp only [shapeF, Bool.and_eq_true] at h
    obtain ⟨⟨⟨h1, h2⟩, h3⟩, h4⟩ := h
    have h1 : f.offset = off := Nat.eq_of_beq_eq_true h1
    have h2 : P.cellsOf f.type ≤ ks.length := by simpa [Nat.ble_eq] using h2
    obtain ⟨y, hy⟩ := hf f (by simp)
    rw [h1] at hy
    have a1 := ih _ _ h3 _ _ _ (by rw [List.length_take, List.length_take, hl]) hy
    have a2 := shapeF_ok ih (cs := cs) (fuel := fuel) r _ _ h4 (fun g hg => hf g (by simp [hg])) (by simp only [List.length_drop] at hl ⊢; omega)
    have a3 := a1.app a2
    rw [List.take_append_drop, ← List.drop_drop, List.take_append_drop] at a3
    exact a3
theorem shape_ok : ∀ (n : Nat) (t : TypeId) (ks : List (Option IntKind)), shapeB P n t ks = true → ∀ (fuel : Nat) (cs : List Value) (y : DataW H × List MemPlace), cs.length = ks.length → DataW.trod enc P W base spare held fuel t cs = some y → OkCs ks cs
  | 0, _, _, h, _, _, _, _, _ => by simp [shapeB] at h
  | n + 1, t, ks, h, fuel, cs, y, hl, hy => by
    simp only [shapeB] at h
    split at h
    · rename_i k hu
      split at h
      · rename_i k'
        obtain ⟨m, rfl, _, hw⟩ := DataW.trod_int hu hy
        have : k = k' := by simpa using h
        subst this
        exact ⟨⟨m, rfl, hw⟩, trivial⟩
      · cases h
    · rename_i hu
      split at h
      · obtain ⟨b, rfl, _⟩ := DataW.trod_bool hu hy
        exact ⟨⟨b, rfl⟩, trivial⟩
      · cases h
    · rename_i fs hu
      obtain ⟨xs, m, _, _, _, hxl, hf⟩ := DataW.trod_struct hu hy
      have := shapeF_ok (shape_ok n) (cs := cs) (fuel := m) fs.toList 0 ks h (fun f hf' => by
        obtain ⟨i, hi, rfl⟩ := List.getElem_of_mem hf'
        have h5 := hf i fs[i] (by simp)
        have hix : i < xs.length := by rw [hxl]; simpa using hi
        rw [List.getElem?_eq_getElem hix] at h5
        exact ⟨_, h5⟩) (by simpa using hl)
      simpa using this
    · cases h

/-- An argument that is a struct of numbers. -/
theorem open_cells {r : Reach} {b0 : Nat} {t : TypeId} {fs : Array Field} {v : Value} {d : DataW H} {p : List MemPlace} (ht : P.underlying t = some (.struct fs)) (ks : List (Option IntKind)) (hc : P.cellsOf t = ks.length) (hs : shapeB P 8 t ks = true)
    (hval : Value.okWide P W r b0 t v) (h : DataW.Trod enc P W base spare held t v d p) : ∃ cs : List Value, v = .agg cs.toArray ∧ OkCs ks cs := by
  obtain ⟨cs, rfl, hsz⟩ := okWide_struct ht hval
  obtain ⟨fuel, hf⟩ := h
  have h1 := shape_ok 8 t ks hs fuel cs.toList _ (by rw [← hc, ← hsz]; simp) (by simpa [Value.cells] using hf)
  exact ⟨cs.toList, by simp, h1⟩

/-- An argument that is a slice. -/
theorem open_list {α : Type} [Inhabited α] {f : α → List Value} {sz : Nat} {r : Reach} {b0 : Nat} {t e : TypeId} {v : Value} {d : DataW H} {p : List MemPlace} (hf : ∀ x, (f x).length = sz) (hsz : Nat.blt 0 sz = true) (ht : P.underlying t = some (.slice e))
    (ks : List (Option IntKind)) (hc : P.cellsOf e = sz) (hk : ks.length = sz) (hs : shapeB P 8 e ks = true) {R : α → Prop} (hdec : ∀ cs, OkCs ks cs → ∃ x, cs = f x ∧ R x) (hval : Value.okWide P W r b0 t v) (h : DataW.Trod enc P W base spare held t v d p) :
    ∃ (av : Option Addr) (l : List α) (c : Nat), v = .slice av l.length c ∧ Arr W sz av l.length c (flat f l) ∧ ∀ x ∈ l, R x := by
  have hsz : 0 < sz := by simpa [Nat.blt_eq] using hsz
  obtain ⟨a, len, cap, rfl⟩ := okWide_slice ht hval
  obtain ⟨fuel, hfu⟩ := h
  rcases open_slice ht hfu with ⟨hcs, _⟩ | ⟨A, len', cap', m, n, D, Pl, hcs, _, hl, _, hm, _, hx⟩
  · simp only [Value.cells, List.cons.injEq, and_true, Value.slice.injEq] at hcs
    obtain ⟨rfl, rfl, rfl⟩ := hcs
    exact ⟨none, [], 0, rfl, Arr.none_nil _ _, fun x hx => by simp at hx⟩
  · simp only [Value.cells, List.cons.injEq, and_true, Value.slice.injEq] at hcs
    obtain ⟨rfl, rfl, rfl⟩ := hcs
    have hle : len ≤ m := by rw [hm]; split <;> omega
    obtain ⟨g, hg⟩ := choose_lt (α := α) (n := len) (p := fun i x => W.cells? base (A.add (i * P.cellsOf e)) (P.cellsOf e) = some (f x) ∧ R x) (fun i hi => by
      obtain ⟨cs, h1, h2⟩ := hx i (by omega)
      have hl2 := (World.cells?_some h1).2.1
      obtain ⟨x, rfl, hr⟩ := hdec cs (shape_ok 8 e ks hs n cs _ (by rw [hl2, hc, hk]) h2)
      exact ⟨x, h1, hr⟩)
    refine ⟨some A, (List.range len).map g, cap, by simp, ⟨?_, fun _ => rfl, (fun h => by cases h), by simpa using hl, fun j u hu => ?_⟩, fun x hx => ?_⟩
    · rw [flat_len hf]
    · have hj : j < len * sz := by
        have := (List.getElem?_eq_some_iff.1 hu).1
        rw [flat_len hf] at this
        simpa using this
      have hi : j / sz < len := (Nat.div_lt_iff_lt_mul hsz).2 hj
      have hq : j % sz < sz := Nat.mod_lt _ hsz
      have ej : j = j / sz * sz + j % sz := by have := Nat.div_add_mod j sz; rw [Nat.mul_comm] at this; omega
      have h1 := (hg _ hi).1
      rw [hc] at h1
      have h2 := (World.cells?_some h1).2.2 (j % sz) hq
      rw [add_add, ← ej] at h2
      have h3 : (flat f ((List.range len).map g))[j / sz * sz + j % sz]? = (f (g (j / sz)))[j % sz]? := flat_get hf (by simp [hi]) hq
      rw [← ej, hu] at h3
      show W.cell? (A.add j) = some u
      rw [h2, ← h3]
    · obtain ⟨i, hi, rfl⟩ := List.mem_map.1 hx
      exact (hg i (by simpa using hi)).2
end
end Go.Px
