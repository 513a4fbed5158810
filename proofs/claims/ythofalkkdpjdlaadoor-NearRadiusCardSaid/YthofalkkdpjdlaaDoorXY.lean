/- The walker: 'copy' into a slice of one's own, 'append' of so many zeros to a first part where there is no room, a slice drawn longer within its room, slices.overlaps. Nothing of any one program stands here. -/
import Derived.Test.YthofalkkdpjdlaaDoorXG
import Derived.Test.YthofalkkdpjdlaaDoorXT
import Derived.Lib.AppendZerosOnto
import Derived.Lib.Overlaps
namespace Go.Px
set_option linter.unusedVariables false
set_option linter.unusedSimpArgs false
set_option linter.unusedSectionVars false
open Go.RowKit
section
variable {P : Program} {w : World} {base : Nat} {e : TypeId} {sz k c : Nat} {av : Option Addr} {xs : List Value}
theorem putAt_nil0 (A : List Value) (o : Nat) : putAt A o [] = A := by simp [putAt]
theorem min_def' (a b : Nat) : Nat.min a b = if a ≤ b then a else b := Nat.min_def
theorem own_copy (hown : w.ownsRow base e sz (.slice av k c) k xs) {dT sT ty : TypeId} (ht : P.underlying dT = some (.slice e)) (hi : (P.info? e).map (·.size) = some sz) (hsz : 0 < sz) {i : Nat} (hik : i ≤ k) {sv : Option Addr} {m mc : Nat} {news : List Value}
    (hsrc : Arr w sz sv m mc news) (h1 : ∀ u ∈ news.take (Nat.min m (k - i) * sz), u.oneCell' = true) :
    ∃ w', (Builtin.copy_ #[dT, sT] ty #[.slice (cutA av i c sz) (k - i) (c - i), .slice sv m mc]).run P w = .ok (goInt (Nat.min m (k - i) : Nat)) w' ∧ w'.ownsRow base e sz (.slice av k c) k (putAt xs (i * sz) (news.take (Nat.min m (k - i) * sz))) ∧ Keep (fun j => Value.ownBlock (.slice av k c) = some j) w w' := by
  obtain ⟨inf, hi1, hi2⟩ := Option.map_eq_some_iff.1 hi
  have hmm : Nat.min m (k - i) ≤ m := Nat.min_le_left _ _
  have hmk : Nat.min m (k - i) ≤ k - i := Nat.min_le_right _ _
  have hlen : (news.take (Nat.min m (k - i) * sz)).length = Nat.min m (k - i) * sz := by
    rw [List.length_take, hsrc.len]
    exact Nat.min_eq_left (Nat.mul_le_mul_right _ hmm)
  obtain ⟨N, hN⟩ : ∃ N, N = Nat.min m (k - i) := ⟨_, rfl⟩
  rw [← hN] at hmm hmk hlen h1 ⊢
  have hfirst : (Builtin.firstCells inf.size N (.slice sv m mc)).run P w = .ok (news.take (N * sz)).toArray w := by
    cases sv with
    | none =>
      have hm0 : m = 0 := by have := hsrc.le; have := hsrc.none_ rfl; omega
      have hN0 : N = 0 := by omega
      rw [run_firstCells_none, hN0]
      simp
    | some A => exact run_firstCells_some w inf.size N A m mc _ (by rw [hlen, hi2]) (fun j v hj => by
        have hj' : news[j]? = some v := by
          rw [List.getElem?_take] at hj
          split at hj
          · exact hj
          · cases hj
        exact hsrc.cell j v hj')
  rcases Nat.eq_zero_or_pos N with h0 | h0
  · have e0 : news.take (N * sz) = [] := by rw [h0]; simp
    rw [e0] at hfirst ⊢
    refine ⟨w, ?_, by rw [putAt_nil0]; exact hown, Keep.refl _ _⟩
    cases hc : cutA av i c sz <;> simp [Builtin.copy_, run_underlying ht, Builtin.lenOf, sizeOf, typeInfo, hi1, ← hN, hfirst, storeCells]
  · have hsome : ∃ g, av = some ⟨g, 0, none⟩ := by
      rcases hown.2 with ⟨h, hk0⟩ | ⟨g, cap, cur, h, _⟩
      · omega
      · simp only [Value.slice.injEq] at h
        exact ⟨g, h.1⟩
    obtain ⟨g, rfl⟩ := hsome
    have hc : k ≤ c := (own_arr hown).le
    have e1 : cutA (some ⟨g, 0, none⟩) i c sz = some ((sa (some ⟨g, 0, none⟩)).add (i * sz)) := by
      unfold cutA
      rw [if_neg (by omega)]
      rfl
    obtain ⟨w', hr, hx, hk⟩ := own_cells (P := P) hown (o := i * sz) (vs := news.take (N * sz)) (by rw [hlen, ← Nat.add_mul]; exact Nat.mul_le_mul_right _ (by omega)) (by rw [hlen]; exact Nat.mul_pos h0 hsz) h1
    refine ⟨w', ?_, hx, hk⟩
    rw [e1]
    simp [Builtin.copy_, run_underlying ht, Builtin.lenOf, sizeOf, typeInfo, hi1, ← hN, hfirst, hr]
/-- A slice of one's own, drawn longer within its room: what stands there is not known. -/
theorem own_longer (hown : w.ownsRow base e sz (.slice av k c) k xs) {j : Nat} (hk : 0 < k) (hj : k + j ≤ c) : ∃ ys, ys.length = j * sz ∧ w.ownsRow base e sz (.slice av (k + j) c) (k + j) (xs ++ ys) := by
  rcases hown.2 with ⟨h, hk0⟩ | ⟨g, cap, cur, h, hbg, hg, hnc, hcm, hcs, htake⟩
  · omega
  · simp only [Value.slice.injEq] at h
    obtain ⟨rfl, _, rfl⟩ := h
    have hle : (k + j) * sz ≤ cur.toList.length := by rw [Array.length_toList, hcs]; exact Nat.mul_le_mul_right _ hj
    have hsp : cur.toList.take ((k + j) * sz) = xs ++ (cur.toList.drop (k * sz)).take (j * sz) := by
      rw [Nat.add_mul, List.take_add, htake]
    refine ⟨(cur.toList.drop (k * sz)).take (j * sz), ?_, ?_, .inr ⟨g, c, cur, rfl, hbg, hg, hj, hcm, hcs, hsp⟩⟩
    · rw [List.length_take, List.length_drop]
      rw [Nat.add_mul] at hle
      exact Nat.min_eq_left (by omega)
    · rw [← hsp, List.length_take]
      exact Nat.min_eq_left hle
theorem reps_one {n : Nat} {zs : List Value} (h : ∀ u ∈ zs, u.oneCell' = true) : ∀ u ∈ reps n zs, u.oneCell' = true := fun u hu => by
  simp only [reps, List.mem_flatten, List.mem_replicate] at hu
  obtain ⟨l, ⟨_, rfl⟩, hu⟩ := hu
  exact h u hu
/-- So many zeros behind a first part, where there is no room. -/
theorem own_growz (hown : w.ownsRow base e sz (.slice av k c) k xs) {t tn ty : TypeId} {kn kq : IntKind} {by_ i q : Nat} {zs : List Value} (ht : P.underlying t = some (.slice e)) (htn : P.underlying tn = some (.int kn)) (hi : (P.info? e).map (fun i => (i.size, i.bytes, i.zero.map (·.cells.toList))) = some (sz, by_, some zs)) (hz : zs.length = sz) (hsz : 0 < sz)
    (hik : i ≤ k) (hq : 0 < q) (hg : c < i + q) (h63 : i + q ≤ maxLen ∧ (i + q) * by_ ≤ 140737488355328) :
    ∃ w' c', (Builtin.append_ #[t, tn] ty #[.slice av i c, .int kq q]).run P w = .ok (.slice (some ⟨w.heap.size, 0, none⟩) (i + q) c') w' ∧ w'.ownsRow w.heap.size e sz (.slice (some ⟨w.heap.size, 0, none⟩) (i + q) c') (i + q) (xs.take (i * sz) ++ reps q zs) ∧ Keep Nn w w' := by
  obtain ⟨inf, hi1, hi2⟩ := Option.map_eq_some_iff.1 hi
  simp only [Prod.mk.injEq] at hi2
  obtain ⟨h2, h3, h4⟩ := hi2
  obtain ⟨z, hz1, hz2⟩ := Option.map_eq_some_iff.1 h4
  have hcut := own_arr (own_cut hown hik)
  have hold : (Builtin.firstCells inf.size i (.slice av i c)).run P w.drew = .ok (xs.take (i * sz)).toArray w.drew := by
    cases av with
    | none =>
      have h0 : i = 0 := by have := hcut.le; have := hcut.none_ rfl; omega
      rw [run_firstCells_none, h0]
      simp
    | some A => exact run_firstCells_some w.drew inf.size i A i c _ (by rw [hcut.len, h2]) (fun j v hj => hcut.cell j v hj)
  have hmx : i + q ≤ 9223372036854775807 := by have := h63.1; simp only [maxLen] at this; omega
  have hmul : q * inf.bytes ≤ (i + q) * inf.bytes := Nat.mul_le_mul_right _ (by omega)
  have hr := Lib.run_append_grow_zeros (P := P) w t tn ty e inf z kq kn ht htn hi1 hz1 av i c (xs.take (i * sz)) hold q hq (by omega) hg (by omega) (by rw [h3] at hmul ⊢; omega) (by rw [h3]; exact growslice_fits hg h63.2)
  have hge := grownCap_ge w (i + q) c e
  have hcm : grownCap w (i + q) c e ≤ maxLen := grownCap_le_maxLen w (i + q) c e h63.1
  have hzq : (Builtin.zeroCells z.cells q).toList = reps q zs := by rw [zero_reps, hz2]
  have hzc : z.cells.size = sz := by rw [← hz, ← hz2]; simp
  refine ⟨_, _, hr, ⟨?_, .inr ⟨w.heap.size, _, _, rfl, Nat.le_refl _, heap_alloc_new w.drew _, hge, hcm, ?_, ?_⟩⟩, ?_⟩
  · rw [List.length_append, hcut.len, reps_len, hz, Nat.add_mul]
  · simp only [Array.size_append, size_zeroCells, hzc, List.size_toArray, hcut.len, ← Nat.add_mul]
    congr 1
    omega
  · have e1 : ((xs.take (i * sz)).toArray ++ Builtin.zeroCells z.cells q ++ Builtin.zeroCells z.cells (grownCap w (i + q) c e - (i + q))).toList = (xs.take (i * sz) ++ reps q zs) ++ (Builtin.zeroCells z.cells (grownCap w (i + q) c e - (i + q))).toList := by
      simp [hzq]
    rw [e1]
    have e2 : (xs.take (i * sz) ++ reps q zs).length = (i + q) * sz := by rw [List.length_append, hcut.len, reps_len, hz, Nat.add_mul]
    rw [← e2, List.take_left]
  · have hg' : w.grownBy (w.drew.alloc (.cells ((xs.take (i * sz)).toArray ++ Builtin.zeroCells z.cells q ++ Builtin.zeroCells z.cells (grownCap w (i + q) c e - (i + q))) e)) none := ⟨rfl, rfl, rfl, by simp, fun k hk _ => heap_alloc_old w.drew _ hk⟩
    exact (Keep.of_grownBy hg' (Nat.le_succ _)).mono fun _ _ h => by cases h
/-- slices.overlaps, of a known block and a slice of one's own. -/
theorem run_overlaps_own {tS tR : TypeId} (ht : P.underlying tS = some (.slice e)) (hi : (P.info? e).map (·.size) = some sz) (hown : w.ownsRow base e sz (.slice av k c) k xs) (hk : 0 < k) (hsz : 0 < sz) {vb tV : Nat} {cs : List Value} (hv : w.heap[vb]? = some (.cells cs.toArray tV (0, 0))) (hne : Value.ownBlock (.slice av k c) ≠ some vb) (vl vc i n2 c2 : Nat) :
    (Extern.SlicesOverlaps.overlaps #[tS, tS] #[tR] #[.slice (some ⟨vb, 0, none⟩) vl vc, .slice (cutA av i c sz) n2 c2]).run P w = .ok (.bool false) w := by
  obtain ⟨inf, hi1, hi2⟩ := Option.map_eq_some_iff.1 hi
  rcases hown.2 with ⟨h, hk0⟩ | ⟨g, cap, cur, h, hbg, hg, hnc, hcm, hcs, htake⟩
  · omega
  · simp only [Value.slice.injEq] at h
    obtain ⟨rfl, _, rfl⟩ := h
    have hgv : g ≠ vb := fun e => hne (by simp [Value.ownBlock, e])
    obtain ⟨B2, hB2, hB2g⟩ : ∃ B2 : Addr, cutA (some ⟨g, 0, none⟩) i c sz = some B2 ∧ B2.block = g := by
      unfold cutA
      split
      · exact ⟨_, rfl, rfl⟩
      · exact ⟨_, rfl, add_block _ _⟩
    rw [hB2]
    have hcz : cur.size ≠ 0 := by
      rw [hcs]
      exact Nat.mul_ne_zero (by omega) (by omega)
    refine Lib.run_overlaps_apart w tS tR e ht sz (fun w => by simp [sizeOf, typeInfo, hi1, hi2]) ⟨vb, 0, none⟩ B2 vl vc n2 c2 (by rw [hB2g]; exact fun e => hgv e.symm) tV e cs.length cur.size ?_ ?_ hcz ?_ ?_
    · simp [World.shape?, hv]
    · simp [World.shape?, hB2g, hg]
    · simp [World.frozen?, hv]
    · simp [World.frozen?, hv]
end
section
variable {P : Program} {ops : Array Oper} {n : Nat} {Q : Exit → Act → World → Prop} {rest : List Oper} {env : Env} {M : Mem} {a : Act} {w : World} {base : Nat} {O : List Own}
theorem sxcopy (hf : Fr n env a) (hM : MemOk M w) {e : TypeId} {sz k c : Nat} {av : Option Addr} {xs : List Value} (hO : OwnOk base M (oS e sz (.slice av k c) k xs :: O) w) {o : Oper} {d : Tmp} {X Y : Operand} {dT sT : TypeId}
    (hgd : o.guard = none) (hd : o.dst = some d) (hdn : Nat.blt d n = true) (hop : o.op = .call { callee := .builtin .copy, args := #[X, Y], argTypes := #[dT, sT] }) {i : Nat} {sv : Option Addr} {m mc n2 c2 : Nat} {dv : Option Addr}
    (hX : look env none X = some (.slice dv n2 c2, [])) (hdv : dv = cutA av i c sz) (hn2 : n2 = k - i) (hc2 : c2 = c - i) (hY : look env none Y = some (.slice sv m mc, [])) (ht : P.underlying dT = some (.slice e)) (hi : (P.info? e).map (·.size) = some sz) (hsz : Nat.blt 0 sz = true) (hik : i ≤ k)
    {news : List Value} (hsrc : Arr w sz sv m mc news) (h1 : ∀ u ∈ news.take (Nat.min m (k - i) * sz), u.oneCell' = true)
    (kont : ∀ act w', Fr n ((d, .val (.int .i64 (Nat.min m (k - i) : Nat))) :: env) act → MemOk M w' → OwnOk base M (oS e sz (.slice av k c) k (putAt xs (i * sz) (news.take (Nat.min m (k - i) * sz))) :: O) w' → Keep (fun j => Value.ownBlock (.slice av k c) = some j) w w' → wpList P ops Q rest act w') :
    wpList P ops Q (o :: rest) a w := by
  subst hdv hn2 hc2
  have hown : w.ownsRow base e sz (.slice av k c) k xs := hO.own _ (List.mem_cons_self ..)
  obtain ⟨w', hr, hx, hk⟩ := own_copy (ty := o.type) (sT := sT) hown ht hi (by simpa [Nat.blt_eq] using hsz) hik hsrc h1
  refine wpList_plain hgd fun K hK => ?_
  refine wp_of_run (w2 := w') (v := goInt (Nat.min m (k - i) : Nat)) (nx := .value (goInt (Nat.min m (k - i) : Nat))) ?_ (.inl rfl) K Q ?_
  · have e1 : a.eval X = .slice (cutA av i c sz) (k - i) (c - i) := look_sound hf (c := none) trivial hX trivial
    have e2 : a.eval Y = .slice sv m mc := look_sound hf (c := none) trivial hY trivial
    rw [← e1, ← e2] at hr
    simp [execOp, hop, resolve, invoke, builtin, hr]
  · rw [hd]
    exact hK _ _ (kont _ _ (hf.putv (by simpa [Nat.blt_eq] using hdn) _) (hO.memTurn hM hk) (hO.turn hk hx) hk)
theorem sxgrowz (hf : Fr n env a) (hM : MemOk M w) {e : TypeId} {sz k c : Nat} {av : Option Addr} {xs : List Value} (hO : OwnOk base M (oS e sz (.slice av k c) k xs :: O) w) {o : Oper} {d : Tmp} {s x : Operand} {t tn : TypeId} {kn kq : IntKind} {by_ i q : Nat} {kk : Int} {zs : List Value}
    (hgd : o.guard = none) (hd : o.dst = some d) (hdn : Nat.blt d n = true) (hop : o.op = .call { callee := .builtin .append, args := #[s, x], argTypes := #[t, tn] })
    (hs : look env none s = some (.slice av i c, [])) (hx : look env none x = some (.int kq kk, [])) (hkk : kk = q) (ht : P.underlying t = some (.slice e)) (htn : P.underlying tn = some (.int kn)) (hi : (P.info? e).map (fun i => (i.size, i.bytes, i.zero.map (·.cells.toList))) = some (sz, by_, some zs)) (hz : zs.length = sz) (hsz : Nat.blt 0 sz = true)
    (hik : i ≤ k) (hq : 0 < q) (hg : c < i + q) (h63 : i + q ≤ maxLen ∧ (i + q) * by_ ≤ 140737488355328) (hb : base ≤ w.heap.size)
    (kont : ∀ act w' B c', Fr n ((d, .val (.slice (some ⟨B, 0, none⟩) (i + q) c')) :: env) act → MemOk M w' → OwnOk base M (oS e sz (.slice (some ⟨B, 0, none⟩) (i + q) c') (i + q) (xs.take (i * sz) ++ reps q zs) :: oS e sz (.slice av k c) k xs :: O) w' → w.heap.size = B → Keep Nn w w' → wpList P ops Q rest act w') :
    wpList P ops Q (o :: rest) a w := by
  subst hkk
  have hown : w.ownsRow base e sz (.slice av k c) k xs := hO.own _ (List.mem_cons_self ..)
  obtain ⟨w', c', hr, hx2, hk⟩ := own_growz (ty := o.type) (kq := kq) hown ht htn hi hz (by simpa [Nat.blt_eq] using hsz) hik hq hg h63
  refine wpList_plain hgd fun K hK => ?_
  refine wp_of_run (w2 := w') (v := .slice (some ⟨w.heap.size, 0, none⟩) (i + q) c') (nx := .value (.slice (some ⟨w.heap.size, 0, none⟩) (i + q) c')) ?_ (.inl rfl) K Q ?_
  · have e1 : a.eval s = .slice av i c := look_sound hf (c := none) trivial hs trivial
    have e2 : a.eval x = .int kq q := look_sound hf (c := none) trivial hx trivial
    rw [← e1, ← e2] at hr
    simp [execOp, hop, resolve, invoke, builtin, hr]
  · rw [hd]
    exact hK _ _ (kont _ _ w.heap.size _ (hf.putv (by simpa [Nat.blt_eq] using hdn) _) (hM.keepNn hk) (hO.more hM hk hb hx2) rfl hk)
/-- 'append', with all that is known of what has turned. -/
theorem sxappendk (hf : Fr n env a) (hM : MemOk M w) {e : TypeId} {sz by_ k : Nat} {v : Value} {xs : List Value} (hO : OwnOk base M (oS e sz v k xs :: O) w) {o : Oper} {d : Tmp} {s x : Operand} {t : TypeId}
    (hgd : o.guard = none) (hd : o.dst = some d) (hdn : Nat.blt d n = true) (hop : o.op = .call { callee := .builtin .append, args := #[s, x], argTypes := #[t, t] })
    {av : Option Addr} {m c : Nat} (hs : look env none s = some (v, [])) (hx : look env none x = some (.slice av m c, []))
    (ht : P.underlying t = some (.slice e)) (hi : (P.info? e).map (fun i => (i.size, i.bytes, i.zero.map (·.cells.size))) = some (sz, by_, some sz)) (hsz : Nat.blt 0 sz = true)
    {news : List Value} (hsrc : Arr w sz av m c news) (h1 : ∀ u ∈ news, u.oneCell' = true) (h63 : k + m ≤ maxLen ∧ (k + m) * by_ ≤ 140737488355328) (hb : base ≤ w.heap.size)
    (kont : ∀ act w' av' c', Fr n ((d, .val (.slice av' (k + m) c')) :: env) act → MemOk M w' → OwnOk base M (oS e sz (.slice av' (k + m) c') (k + m) (xs ++ news) :: O) w' → Keep (fun i => v.ownBlock = some i) w w' → (∀ j, Value.ownBlock (.slice av' (k + m) c') = some j → v.ownBlock = some j ∨ w.heap.size ≤ j) → wpList P ops Q rest act w') :
    wpList P ops Q (o :: rest) a w := by
  have hown : w.ownsRow base e sz v k xs := hO.own _ (List.mem_cons_self ..)
  obtain ⟨av', c', w', hr, ho, hg, hdr, hfr⟩ := append_own (ty := o.type) ht hi (by simpa [Nat.blt_eq] using hsz) hown hsrc h1 h63.1 h63.2 hb
  have hk : Keep (fun i => v.ownBlock = some i) w w' := Keep.of_grownBy hg hdr
  have hap : ∀ i, v.ownBlock = some i → ¬ i ∈ M.names := fun i hi => hO.apart (List.mem_cons_self ..) hi
  have hM' : MemOk M w' := hM.keep hk fun i hi hv => hap i hv hi
  have hfr' : ∀ j, Value.ownBlock (.slice av' (k + m) c') = some j → v.ownBlock = some j ∨ w.heap.size ≤ j := fun j hj => by
    rcases hfr with hs' | hs'
    · exact .inl (hs' ▸ hj)
    · exact .inr (hs' j hj)
  refine wpList_plain hgd fun K hK => ?_
  refine wp_of_run (w2 := w') (v := .slice av' (k + m) c') (nx := .value (.slice av' (k + m) c')) ?_ (.inl rfl) K Q ?_
  · refine ox_append hop ?_
    have e1 : a.eval s = v := look_sound hf (c := none) trivial hs trivial
    have e2 : a.eval x = .slice av m c := look_sound hf (c := none) trivial hx trivial
    rw [e1, e2]
    exact hr
  rw [hd]
  exact hK _ _ (kont _ w' av' c' (hf.putv (by simpa [Nat.blt_eq] using hdn) _) hM' (hO.turnB hM (hk.mono fun i _ hi => mem_ob.2 hi) (o' := oS e sz (.slice av' (k + m) c') (k + m) (xs ++ news)) ho (fun i hi => (hfr' i (mem_ob.1 hi)).imp (fun h => mem_ob.2 h) id) (ob_nd _)) hk hfr')
/-- A slice of one's own, drawn longer within its room. -/
theorem OwnOk.longer {e : TypeId} {sz k c j : Nat} {av : Option Addr} {xs : List Value} (hO : OwnOk base M (oS e sz (.slice av k c) k xs :: O) w) (hk : 0 < k) (hj : k + j ≤ c) : ∃ ys, ys.length = j * sz ∧ OwnOk base M (oS e sz (.slice av (k + j) c) (k + j) (xs ++ ys) :: O) w := by
  have hown : w.ownsRow base e sz (.slice av k c) k xs := hO.own _ (List.mem_cons_self ..)
  obtain ⟨ys, hy, hx⟩ := own_longer hown hk hj
  exact ⟨ys, hy, hO.turnS (Keep.refl _ _) (o' := oS e sz (.slice av (k + j) c) (k + j) (xs ++ ys)) hx (by cases av <;> exact List.Sublist.refl _)⟩
end
end Go.Px
