/- Stores into slices of one's own: an element or a part of one, 'clear', parts that are cut off. Nothing of any one program stands here. -/
import Derived.Test.YthofalkkdpjdlaaDoorX9
import Derived.Laws.CopyRow
namespace Go.Px
set_option linter.unusedVariables false
set_option linter.unusedSimpArgs false
set_option linter.unusedSectionVars false
open Go.RowKit

/-- A list with a stretch of it written over. -/
def putAt (xs : List Value) (o : Nat) (vs : List Value) : List Value := xs.take o ++ vs ++ xs.drop (o + vs.length)
theorem putAt_len {xs : List Value} {o : Nat} {vs : List Value} (h : o + vs.length ≤ xs.length) : (putAt xs o vs).length = xs.length := by
  simp only [putAt, List.length_append, List.length_take, List.length_drop]
  omega
theorem putAt_left {A B : List Value} {o : Nat} {vs : List Value} (h : o + vs.length ≤ A.length) : putAt (A ++ B) o vs = putAt A o vs ++ B := by
  unfold putAt
  rw [List.take_append_of_le_length (by omega), List.drop_append_of_le_length h]
  simp [List.append_assoc]
theorem putAt_right {A B : List Value} {o : Nat} {vs : List Value} : putAt (A ++ B) (A.length + o) vs = A ++ putAt B o vs := by
  unfold putAt
  rw [List.take_length_add_append, show A.length + o + vs.length = A.length + (o + vs.length) by omega, ← List.drop_drop, List.drop_left]
  simp [List.append_assoc]
theorem putAt_take {xs : List Value} {o n : Nat} {vs : List Value} (h : o + vs.length ≤ n) (hn : n ≤ xs.length) : (putAt xs o vs).take n = putAt (xs.take n) o vs := by
  have e : xs = xs.take n ++ xs.drop n := (List.take_append_drop n xs).symm
  have hl : (xs.take n).length = n := by rw [List.length_take]; omega
  have h2 : putAt xs o vs = putAt (xs.take n) o vs ++ xs.drop n := by
    conv => lhs; rw [e]
    exact putAt_left (by omega)
  rw [h2, List.take_append_of_le_length (by rw [putAt_len (by omega)]; omega), List.take_of_length_le (by rw [putAt_len (by omega)]; omega)]
theorem flat_put {α : Type} {f : α → List Value} {sz : Nat} (hf : ∀ x, (f x).length = sz) {q : Nat} {vs : List Value} (hq : q + vs.length ≤ sz) {x d : α} : ∀ {l : List α} {i : Nat}, i < l.length → putAt (f (l.getD i d)) q vs = f x →
    putAt (flat f l) (i * sz + q) vs = flat f (l.set i x)
  | [], _, h, _ => by simp at h
  | y :: r, 0, _, h => by
    have h' : putAt (f y) q vs = f x := by simpa using h
    rw [flat_cons, show 0 * sz + q = q by omega, putAt_left (by rw [hf]; exact hq), h', List.set_cons_zero, flat_cons]
  | y :: r, i + 1, hi, h => by
    have h' : putAt (f (r.getD i d)) q vs = f x := by simpa using h
    have e : (i + 1) * sz + q = (f y).length + (i * sz + q) := by rw [hf, Nat.add_mul]; omega
    rw [flat_cons, e, putAt_right, flat_put hf hq (by simpa using hi) h', List.set_cons_succ, flat_cons]
theorem putAt_whole {xs vs : List Value} (h : xs.length = vs.length) : putAt xs 0 vs = vs := by
  simp [putAt, h]

section
variable {P : Program} {w : World} {base : Nat} {e : TypeId} {sz k c : Nat} {av : Option Addr} {xs : List Value}

theorem own_cells (hown : w.ownsRow base e sz (.slice av k c) k xs) {o : Nat} {vs : List Value} (ho : o + vs.length ≤ k * sz) (h0 : 0 < vs.length) (h1 : ∀ u ∈ vs, u.oneCell' = true) :
    ∃ w', (storeCells ((sa av).add o) vs).run P w = .ok () w' ∧ w'.ownsRow base e sz (.slice av k c) k (putAt xs o vs) ∧ Keep (fun j => Value.ownBlock (.slice av k c) = some j) w w' := by
  rcases hown.2 with ⟨h, hk0⟩ | ⟨g, cap, cur, h, hbg, hg, hnc, hcm, hcs, htake⟩
  · subst hk0; rw [Nat.zero_mul] at ho; omega
  · simp only [Value.slice.injEq] at h
    obtain ⟨rfl, _, rfl⟩ := h
    have hfit : o + 0 + vs.length ≤ cur.size := by rw [hcs]; have := Nat.mul_le_mul_right sz hnc; omega
    have hr := run_storeCells_at P g 0 e vs o cur w hg (by omega) h1
    have ea : (sa (some ⟨g, 0, none⟩)).add o = ⟨g, o, none⟩ := by
      show (⟨g, 0, none⟩ : Addr).add o = _
      unfold Addr.add
      split
      · rename_i h; rw [h]
      · simp
    have hr := run_storeCells_at P g o e vs 0 cur w hg hfit h1
    simp only [Nat.add_zero] at hr
    rw [ea]
    refine ⟨_, hr, ⟨by rw [putAt_len (by rw [hown.1]; exact ho)]; exact hown.1, .inr ⟨g, c, _, rfl, hbg, setRow_heap w g cur _ e _ hg, hnc, hcm, ?_, ?_⟩⟩, ⟨rfl, rfl, rfl, by simp, Nat.le_refl _, fun j _ hj => setRow_other w g j _ (fun e => hj (by simp [Value.ownBlock, e]))⟩⟩
    · rw [← hcs]
      have := putAt_len (xs := cur.toList) (o := o) (vs := vs) (by simpa using hfit)
      simpa [putAt] using this
    · have := putAt_take (xs := cur.toList) (o := o) (n := k * sz) (vs := vs) ho (by simp only [Array.length_toList, hcs]; exact Nat.mul_le_mul_right _ hnc)
      rw [htake] at this
      simpa [putAt] using this

theorem run_storeAt_cells {ty : TypeId} {A : Addr} {val : Value} {w' : World} (hi : (P.info? ty).map (·.size) = some val.cells.toList.length) (hr : (storeCells A val.cells.toList).run P w = .ok () w') :
    (Instr.storeAt ty (.pointer (some A)) val).run P w = .ok () w' := by
  obtain ⟨i, hi1, hi2⟩ := Option.map_eq_some_iff.1 hi
  have hs : val.cells.size = i.size := by simpa using hi2.symm
  simp [Instr.storeAt, Instr.sureAddr, storeVar, sizeOf, typeInfo, hi1, hs, hr]

theorem own_storeAt (hown : w.ownsRow base e sz (.slice av k c) k xs) {o : Nat} {ty : TypeId} {val : Value} (ho : o + val.cells.toList.length ≤ k * sz) (h0 : 0 < val.cells.toList.length) (h1 : ∀ u ∈ val.cells.toList, u.oneCell' = true)
    (hi : (P.info? ty).map (·.size) = some val.cells.toList.length) :
    ∃ w', (Instr.storeAt ty (.pointer (some ((sa av).add o))) val).run P w = .ok () w' ∧ w'.ownsRow base e sz (.slice av k c) k (putAt xs o val.cells.toList) ∧ Keep (fun j => Value.ownBlock (.slice av k c) = some j) w w' := by
  obtain ⟨w', hr, hx, hk⟩ := own_cells (P := P) hown ho h0 h1
  exact ⟨w', run_storeAt_cells hi hr, hx, hk⟩

theorem zero_reps (z : Array Value) (n : Nat) : (Builtin.zeroCells z n).toList = reps n z.toList := made_reps z n

/-- 'clear' of the end of a slice of one's own. -/
theorem own_clear (hown : w.ownsRow base e sz (.slice av k c) k xs) {t ty : TypeId} {zs : List Value} (ht : P.underlying t = some (.slice e)) (hi : (P.info? e).map (fun i => i.zero.map (·.cells.toList)) = some (some zs)) (hz : zs.length = sz)
    (hz1 : ∀ u ∈ zs, u.oneCell' = true) {m : Nat} (hm : m ≤ k) (hsz : 0 < sz) :
    ∃ w', (Builtin.clear_ #[t] ty #[.slice (cutA av m c sz) (k - m) (c - m)]).run P w = .ok (.tuple #[]) w' ∧ w'.ownsRow base e sz (.slice av k c) k (xs.take (m * sz) ++ reps (k - m) zs) ∧ Keep (fun j => Value.ownBlock (.slice av k c) = some j) w w' := by
  obtain ⟨i, hi1, hi2⟩ := Option.map_eq_some_iff.1 hi
  obtain ⟨z, hz0, hzs⟩ := Option.map_eq_some_iff.1 hi2
  rcases Nat.eq_zero_or_pos (k - m) with hd | hd
  · have hkm : m = k := by omega
    subst hkm
    refine ⟨w, ?_, ?_, Keep.refl _ _⟩
    · rw [hd]
      cases cutA av m c sz <;> simp [Builtin.clear_, run_underlying ht]
    · rw [hd, List.take_of_length_le (by rw [hown.1]; exact Nat.le_refl _)]
      simpa [reps] using hown
  · have hsome : ∃ g, av = some ⟨g, 0, none⟩ := by
      rcases hown.2 with ⟨h, hk0⟩ | ⟨g, cap, cur, h, _⟩
      · omega
      · simp only [Value.slice.injEq] at h
        exact ⟨g, h.1⟩
    obtain ⟨g, rfl⟩ := hsome
    have hc : k ≤ c := (own_arr hown).le
    have e1 : cutA (some ⟨g, 0, none⟩) m c sz = some ((sa (some ⟨g, 0, none⟩)).add (m * sz)) := by
      unfold cutA
      rw [if_neg (by omega)]
      rfl
    have hlen : (reps (k - m) zs).length = (k - m) * sz := by rw [reps_len, hz]
    obtain ⟨w', hr, hx, hk⟩ := own_cells (P := P) hown (o := m * sz) (vs := reps (k - m) zs) (by rw [hlen, ← Nat.add_mul]; exact Nat.mul_le_mul_right _ (by omega)) (by rw [hlen]; exact Nat.mul_pos hd hsz)
      (fun u hu => by
        simp only [reps, List.mem_flatten, List.mem_replicate] at hu
        obtain ⟨l, ⟨_, rfl⟩, hu⟩ := hu
        exact hz1 u hu)
    refine ⟨w', ?_, ?_, hk⟩
    · rw [e1]
      obtain ⟨d, hd'⟩ : ∃ d, k - m = d + 1 := ⟨k - m - 1, by omega⟩
      rw [hd'] at hr ⊢
      have e2 : (Builtin.zeroCells z.cells (d + 1)).toList = reps (d + 1) zs := by rw [zero_reps, hzs]
      simp [Builtin.clear_, run_underlying ht, zeroValue, typeInfo, hi1, hz0, e2, hr]
    · have e3 : putAt xs (m * sz) (reps (k - m) zs) = xs.take (m * sz) ++ reps (k - m) zs := by
        unfold putAt
        rw [hlen, List.drop_of_length_le (by rw [hown.1, ← Nat.add_mul]; exact Nat.mul_le_mul_right _ (by omega))]
        simp
      rw [e3] at hx
      exact hx

/-- The first part of a slice of one's own is one's own. -/
theorem own_cut (hown : w.ownsRow base e sz (.slice av k c) k xs) {m : Nat} (hm : m ≤ k) : w.ownsRow base e sz (.slice av m c) m (xs.take (m * sz)) := by
  refine ⟨?_, ?_⟩
  · rw [List.length_take, hown.1]
    exact Nat.min_eq_left (Nat.mul_le_mul_right _ hm)
  · rcases hown.2 with ⟨h, hk0⟩ | ⟨g, cap, cur, h, hbg, hg, hnc, hcm, hcs, htake⟩
    · simp only [Value.slice.injEq] at h
      obtain ⟨rfl, _, rfl⟩ := h
      obtain rfl : m = 0 := by omega
      exact .inl ⟨rfl, rfl⟩
    · simp only [Value.slice.injEq] at h
      obtain ⟨rfl, _, rfl⟩ := h
      refine .inr ⟨g, c, cur, rfl, hbg, hg, by omega, hcm, hcs, ?_⟩
      rw [← htake, List.take_take, Nat.min_eq_left (Nat.mul_le_mul_right _ hm)]
theorem own_cutf {α : Type} {f : α → List Value} {l : List α} (hf : ∀ x, (f x).length = sz) (hown : w.ownsRow base e sz (.slice av k c) k (flat f l)) {m : Nat} (hm : m ≤ k) : w.ownsRow base e sz (.slice av m c) m (flat f (l.take m)) := by
  have h := own_cut hown hm
  rwa [flat_take hf] at h
end

section
variable {P : Program} {ops : Array Oper} {n : Nat} {Q : Exit → Act → World → Prop} {rest : List Oper} {env : Env} {M : Mem} {O : List Own} {a : Act} {w : World} {base : Nat}

theorem ox_store {ρ : Operand → Value} {o : Oper} {ty : TypeId} {X Y : Operand} {w' : World} (hop : o.op = .store ty X Y) (hr : (Instr.storeAt ty (ρ X) (ρ Y)).run P w = .ok () w') : (execOp ρ o).run P w = .ok .skip w' := by
  simp [execOp, hop, hr]
theorem ox_clear {ρ : Operand → Value} {o : Oper} {x : Operand} {t : TypeId} {v : Value} {w' : World} (hop : o.op = .call { callee := .builtin .clear, args := #[x], argTypes := #[t] })
    (hr : (Builtin.clear_ #[t] o.type #[ρ x]).run P w = .ok v w') : (execOp ρ o).run P w = .ok (.value v) w' := by
  simp [execOp, hop, resolve, invoke, builtin, hr]

/-- A store into a slice of one's own: of an element, or of a part of one. -/
theorem sxset {α : Type} {f : α → List Value} (hf : Fr n env a) (hM : MemOk M w) {e : TypeId} {sz k c : Nat} {av : Option Addr} {l : List α} (hO : OwnOk base M (oS e sz (.slice av k c) k (flat f l) :: O) w) {o : Oper} {ty : TypeId} {X Y : Operand}
    (hgd : o.guard = none) (hd : o.dst = none) (hop : o.op = .store ty X Y) {A : Addr} {val : Value} (hx : look env none X = some (.pointer (some A), [])) (hy : look env none Y = some (val, []))
    {i q : Nat} {x d : α} (hA : A = (sa av).add (i * sz + q)) (hi : (P.info? ty).map (·.size) = some val.cells.toList.length) (hfl : ∀ x, (f x).length = sz) (hil : i < l.length) (hlk : l.length = k)
    (hput : putAt (f (l.getD i d)) q val.cells.toList = f x) (hq : Nat.ble (q + val.cells.toList.length) sz = true) (h0 : Nat.blt 0 val.cells.toList.length = true) (h1 : ∀ u ∈ val.cells.toList, u.oneCell' = true)
    (kont : ∀ a w', Fr n env a → MemOk M w' → OwnOk base M (oS e sz (.slice av k c) k (flat f (l.set i x)) :: O) w' → Keep (fun j => Value.ownBlock (.slice av k c) = some j) w w' → wpList P ops Q rest a w') :
    wpList P ops Q (o :: rest) a w := by
  have hq' : q + val.cells.toList.length ≤ sz := by simpa [Nat.ble_eq] using hq
  have hown : w.ownsRow base e sz (.slice av k c) k (flat f l) := hO.own _ (List.mem_cons_self ..)
  obtain ⟨w', hr, hx', hk⟩ := own_storeAt (P := P) hown (o := i * sz + q) (ty := ty) (val := val) (by
    have := Nat.mul_le_mul_right sz (show i + 1 ≤ k by omega)
    rw [Nat.add_mul] at this
    omega) (by simpa [Nat.blt_eq] using h0) h1 hi
  rw [flat_put hfl hq' hil hput] at hx'
  refine wpList_plain hgd fun K hK => ?_
  refine wp_of_run (w2 := w') (v := undef) (nx := .skip) ?_ (.inr ⟨rfl, rfl⟩) K Q ?_
  · refine ox_store hop ?_
    have e1 : a.eval X = .pointer (some A) := look_sound hf (c := none) trivial hx trivial
    have e2 : a.eval Y = val := look_sound hf (c := none) trivial hy trivial
    rw [e1, e2, hA]
    exact hr
  rw [hd]
  exact hK _ _ (kont _ w' hf (hO.memTurn hM hk) (hO.turn hk hx') hk)
/-- The same under a guard that holds. -/
theorem sxsetg {α : Type} {f : α → List Value} (hf : Fr n env a) (hM : MemOk M w) {e : TypeId} {sz k c : Nat} {av : Option Addr} {l : List α} (hO : OwnOk base M (oS e sz (.slice av k c) k (flat f l) :: O) w) {o : Oper} {ty : TypeId} {X Y : Operand} {j : Nat} {want : Bool}
    (hgd : o.guard = some (j, want)) (hgv : ((ops[j]?).bind (·.dst)).bind env.get = some (.val (.bool want))) (hd : o.dst = none) (hop : o.op = .store ty X Y) {A : Addr} {val : Value} (hx : look env none X = some (.pointer (some A), [])) (hy : look env none Y = some (val, []))
    {i q : Nat} {x d : α} (hA : A = (sa av).add (i * sz + q)) (hi : (P.info? ty).map (·.size) = some val.cells.toList.length) (hfl : ∀ x, (f x).length = sz) (hil : i < l.length) (hlk : l.length = k)
    (hput : putAt (f (l.getD i d)) q val.cells.toList = f x) (hq : Nat.ble (q + val.cells.toList.length) sz = true) (h0 : Nat.blt 0 val.cells.toList.length = true) (h1 : ∀ u ∈ val.cells.toList, u.oneCell' = true)
    (kont : ∀ a w', Fr n env a → MemOk M w' → OwnOk base M (oS e sz (.slice av k c) k (flat f (l.set i x)) :: O) w' → Keep (fun j => Value.ownBlock (.slice av k c) = some j) w w' → wpList P ops Q rest a w') :
    wpList P ops Q (o :: rest) a w := by
  have hq' : q + val.cells.toList.length ≤ sz := by simpa [Nat.ble_eq] using hq
  have hown : w.ownsRow base e sz (.slice av k c) k (flat f l) := hO.own _ (List.mem_cons_self ..)
  obtain ⟨w', hr, hx', hk⟩ := own_storeAt (P := P) hown (o := i * sz + q) (ty := ty) (val := val) (by
    have := Nat.mul_le_mul_right sz (show i + 1 ≤ k by omega)
    rw [Nat.add_mul] at this
    omega) (by simpa [Nat.blt_eq] using h0) h1 hi
  rw [flat_put hfl hq' hil hput] at hx'
  refine wpList_step fun K hK => ?_
  rw [wanted_some hf hgd hgv]
  simp only [BEq.rfl, if_true]
  refine wp_of_run (w2 := w') (v := undef) (nx := .skip) ?_ (.inr ⟨rfl, rfl⟩) K Q ?_
  · refine ox_store hop ?_
    have e1 : a.eval X = .pointer (some A) := look_sound hf (c := none) trivial hx trivial
    have e2 : a.eval Y = val := look_sound hf (c := none) trivial hy trivial
    rw [e1, e2, hA]
    exact hr
  rw [hd]
  exact hK _ _ (kont _ w' hf (hO.memTurn hM hk) (hO.turn hk hx') hk)

/-- 'clear' of the end of a slice of one's own. -/
theorem sxclear {α : Type} {f : α → List Value} (hf : Fr n env a) (hM : MemOk M w) {e : TypeId} {sz k c : Nat} {av : Option Addr} {l : List α} (hO : OwnOk base M (oS e sz (.slice av k c) k (flat f l) :: O) w) {o : Oper} {x : Operand} {t : TypeId}
    (hgd : o.guard = none) (hd : o.dst = none) (hop : o.op = .call { callee := .builtin .clear, args := #[x], argTypes := #[t] })
    {m : Nat} (hx : look env none x = some (.slice (cutA av m c sz) (k - m) (c - m), [])) (ht : P.underlying t = some (.slice e)) {z : α} (hi : (P.info? e).map (fun i => i.zero.map (·.cells.toList)) = some (some (f z)))
    (hfl : ∀ x, (f x).length = sz) (hf1 : ∀ x, ∀ u ∈ f x, u.oneCell' = true) (hsz : Nat.blt 0 sz = true) (hm : m ≤ k)
    (kont : ∀ a w', Fr n env a → MemOk M w' → OwnOk base M (oS e sz (.slice av k c) k (flat f (l.take m ++ List.replicate (k - m) z)) :: O) w' → Keep (fun j => Value.ownBlock (.slice av k c) = some j) w w' → wpList P ops Q rest a w') :
    wpList P ops Q (o :: rest) a w := by
  have hown : w.ownsRow base e sz (.slice av k c) k (flat f l) := hO.own _ (List.mem_cons_self ..)
  obtain ⟨w', hr, hx', hk⟩ := own_clear (P := P) (ty := o.type) hown ht hi (hfl z) (hf1 z) hm (by simpa [Nat.blt_eq] using hsz)
  rw [flat_take hfl, reps_flat (f := f) rfl, ← flat_app] at hx'
  refine wpList_plain hgd fun K hK => ?_
  refine wp_of_run (w2 := w') (v := .tuple #[]) (nx := .value (.tuple #[])) ?_ (.inl rfl) K Q ?_
  · refine ox_clear hop ?_
    have e1 : a.eval x = .slice (cutA av m c sz) (k - m) (c - m) := look_sound hf (c := none) trivial hx trivial
    rw [e1]
    exact hr
  rw [hd]
  exact hK _ _ (kont _ w' hf (hO.memTurn hM hk) (hO.turn hk hx') hk)
end

theorem OwnOk.cut {α : Type} {f : α → List Value} {base : Nat} {M : Mem} {O : List Own} {w : World} {e : TypeId} {sz k c : Nat} {av : Option Addr} {l : List α} (hO : OwnOk base M (oS e sz (.slice av k c) k (flat f l) :: O) w) (hfl : ∀ x, (f x).length = sz) {m : Nat} (hm : m ≤ k) :
    OwnOk base M (oS e sz (.slice av m c) m (flat f (l.take m)) :: O) w := by
  refine ⟨fun o ho => ?_, ?_⟩
  · rcases List.mem_cons.1 ho with rfl | ho
    · exact own_cutf hfl (hO.own _ (List.mem_cons_self ..)) hm
    · exact hO.own o (List.mem_cons_of_mem _ ho)
  · have := hO.nd
    cases av <;> simpa [oS, Value.ownBlock] using this
/-- What stands in one has turned, and how much of it. -/
theorem OwnOk.turn2 {base : Nat} {M : Mem} {O : List Own} {w w' : World} {e : TypeId} {sz n m c : Nat} {av : Option Addr} {xs xs' : List Value} (h : OwnOk base M (oS e sz (.slice av n c) n xs :: O) w) (hk : Keep (fun i => Value.ownBlock (.slice av n c) = some i) w w')
    (hx : w'.ownsRow base e sz (.slice av m c) m xs') : OwnOk base M (oS e sz (.slice av m c) m xs' :: O) w' :=
  h.turnS (hk.mono fun i _ hi => mem_ob.2 hi) (o' := oS e sz (.slice av m c) m xs') hx (by cases av <;> exact List.Sublist.refl _)
theorem OwnOk.one {base : Nat} {w : World} {e : TypeId} {sz n : Nat} {v : Value} {xs : List Value} (h : w.ownsRow base e sz v n xs) : OwnOk base [] [oS e sz v n xs] w := by
  refine ⟨fun o ho => ?_, ?_⟩
  · obtain rfl := List.mem_singleton.1 ho
    exact h
  · cases hv : v.ownBlock <;> simp [Mem.names, oS, hv]
/-- Where the part of a slice behind some place has an element. -/
theorem sa_cut {av : Option Addr} {m c sz j : Nat} (hs : av.isSome = true) (hm : m < c) : (sa (cutA av m c sz)).add (j * sz) = (sa av).add ((m + j) * sz) := by
  obtain ⟨A, rfl⟩ := Option.isSome_iff_exists.1 hs
  unfold cutA
  rw [if_neg (by omega)]
  show (A.add (m * sz)).add (j * sz) = A.add ((m + j) * sz)
  rw [add_add, Nat.add_mul]
/-- A list's cells, a stretch of which is another list's. -/
theorem flat_over {α : Type} {f : α → List Value} {sz : Nat} (hf : ∀ x, (f x).length = sz) (A x : List α) (k : Nat) : (flat f A).take (k * sz) ++ flat f x ++ (flat f A).drop (k * sz + (flat f x).length) = flat f (A.take k ++ x ++ A.drop (k + x.length)) := by
  rw [flat_len hf, ← Nat.add_mul, flat_take hf, flat_drop hf, flat_app, flat_app]
end Go.Px
