/- The walker: arrays as slices of one's own: a whole one is read. Nothing of any one program stands here. -/
import Derived.Test.YthofalkkdpjdlaaDoorXQ
namespace Go.Px
set_option linter.unusedVariables false
set_option linter.unusedSimpArgs false
set_option linter.unusedSectionVars false
open Go.RowKit
section
variable {P : Program} {ops : Array Oper} {n : Nat} {Q : Exit → Act → World → Prop} {rest : List Oper} {env : Env} {M : Mem} {a : Act} {w : World} {base : Nat} {O : List Own}
theorem own_row {B e k sz : Nat} {xs : List Value} (h : w.ownsRow base e sz (.slice (some ⟨B, 0, none⟩) k k) k xs) : w.heap[B]? = some (.cells xs.toArray e (0, 0)) := by
  rcases h.2 with ⟨h1, h2⟩ | ⟨g, cap, cur, h1, _, hg, _, _, hcs, htake⟩
  · simp at h1
  · simp only [Value.slice.injEq, Option.some.injEq, Addr.mk.injEq] at h1
    obtain ⟨⟨rfl, -⟩, -, rfl⟩ := h1
    have e1 : cur.toList = xs := by
      rw [← htake, List.take_of_length_le (by simp [hcs])]
    rw [hg, ← e1, Array.toArray_toList]
/-- The load of a whole array that is one's own. -/
theorem sxloadown (hf : Fr n env a) (hM : MemOk M w) {B e k sz : Nat} {xs : List Value} (hO : OwnOk base M (oS e sz (.slice (some ⟨B, 0, none⟩) k k) k xs :: O) w) {o : Oper} {d : Tmp} {t : TypeId} {x : Operand} {td : TypeDesc}
    (hgd : o.guard = none) (hd : o.dst = some d) (hdn : Nat.blt d n = true) (hop : o.op = .load t x) (hx : look env none x = some (.pointer (some ⟨B, 0, none⟩), []))
    (hu : P.underlying t = some td) (htd : (match td with | .struct _ | .array _ _ => true | _ => false) = true) (hi : (P.info? t).map (·.size) = some (k * sz))
    (kont : ∀ act, Fr n ((d, .val (.agg xs.toArray)) :: env) act → wpList P ops Q rest act w) : wpList P ops Q (o :: rest) a w := by
  have hown := hO.own _ (List.mem_cons_self ..)
  have hb := own_row hown
  have e1 : a.eval x = .pointer (some ⟨B, 0, none⟩) := look_sound hf (c := none) trivial hx trivial
  refine wpList_load_row hgd t x hop B e1 e xs.toArray (0, 0) td hb hu htd (by rw [hi]; simpa using hown.1.symm) ?_
  rw [hd]
  exact kont _ (hf.putv (by simpa [Nat.blt_eq] using hdn) _)
/-- A block that is made, as an array of one's own. -/
theorem sxnewown (hf : Fr n env a) (hM : MemOk M w) (hO : OwnOk base M O w) {o : Oper} {d : Tmp} {t : TypeId} {xs : List Value} {k : Nat} (hgd : o.guard = none) (hd : o.dst = some d) (hdn : Nat.blt d n = true) (hb : base ≤ w.heap.size) (hkl : xs.length = k) (hl : k ≤ maxLen)
    (hr : (execOp a.eval o).run P w = .ok (.value (.pointer (some ⟨w.heap.size, 0, none⟩))) { w with heap := w.heap.push (.cells xs.toArray t (0, 0)) })
    (kont : ∀ a w' B, Fr n ((d, .val (.pointer (some ⟨B, 0, none⟩))) :: env) a → MemOk M w' → OwnOk base M (oS t 1 (.slice (some ⟨B, 0, none⟩) k k) k xs :: O) w' → Keep Nn w w' → wpList P ops Q rest a w') : wpList P ops Q (o :: rest) a w := by
  refine sxnew hf hM (v := fun B => .pointer (some ⟨B, 0, none⟩)) hgd hd hdn hr fun a' w' B hf' hM' hB hk => ?_
  have hO' : OwnOk base (M ++ [⟨B, t, xs⟩]) O w' := hO.step hM' hk.nn (by
    intro i hi
    simp only [Mem.names, List.map_append, List.map_cons, List.map_nil, List.mem_append, List.mem_singleton] at hi ⊢
    rcases hi with hi | rfl
    · exact .inl hi
    · exact .inr (Nat.le_of_eq hB))
  have h2 := OwnOk.took (M1 := M) (M2 := []) (sz := 1) hO' hM' (by omega) (Nat.le_refl k) hl (by omega)
  rw [List.append_nil, Nat.mul_one, ← hkl, List.take_length, hkl] at h2
  exact kont a' w' B hf' (hM'.sub (List.sublist_append_left _ _)) h2 hk
theorem run_newVar_cells {t : TypeId} {v : Value} {xs : List Value} (hv : v.cells.toList = xs) : (newVar t v).run P w = .ok ⟨w.heap.size, 0, none⟩ { w with heap := w.heap.push (.cells xs.toArray t (0, 0)) } := by
  subst hv
  simp [newVar, newRow, newObj]
  rfl
theorem ox_box {ρ : Operand → Value} {o : Oper} {t : TypeId} {x : Operand} {v : Value} {xs : List Value} (hop : o.op = .box t x) (hx : ρ x = v) (hv : v.cells.toList = xs) :
    (execOp ρ o).run P w = .ok (.value (.pointer (some ⟨w.heap.size, 0, none⟩))) { w with heap := w.heap.push (.cells xs.toArray t (0, 0)) } := by
  simp [execOp, hop, hx, Instr.box, run_newVar_cells (P := P) (t := t) (w := w) hv]
theorem ox_alloc {ρ : Operand → Value} {o : Oper} {t : TypeId} {z : Value} {xs : List Value} (hop : o.op = .alloc t) (hz : (P.info? t).bind (·.zero) = some z) (hv : z.cells.toList = xs) :
    (execOp ρ o).run P w = .ok (.value (.pointer (some ⟨w.heap.size, 0, none⟩))) { w with heap := w.heap.push (.cells xs.toArray t (0, 0)) } := by
  obtain ⟨i, hi, hz⟩ := Option.bind_eq_some_iff.1 hz
  simp [execOp, hop, Instr.alloc, zeroValue, typeInfo, hi, hz, run_newVar_cells (P := P) (t := t) (w := w) hv]
theorem sxboxown (hf : Fr n env a) (hM : MemOk M w) (hO : OwnOk base M O w) {o : Oper} {d : Tmp} {t : TypeId} {x : Operand} {v : Value} {xs : List Value} {k : Nat} (hgd : o.guard = none) (hd : o.dst = some d) (hdn : Nat.blt d n = true) (hb : base ≤ w.heap.size) (hkl : xs.length = k) (hl : k ≤ maxLen)
    (hop : o.op = .box t x) (hx : look env none x = some (v, [])) (hv : v.cells.toList = xs)
    (kont : ∀ a w' B, Fr n ((d, .val (.pointer (some ⟨B, 0, none⟩))) :: env) a → MemOk M w' → OwnOk base M (oS t 1 (.slice (some ⟨B, 0, none⟩) k k) k xs :: O) w' → Keep Nn w w' → wpList P ops Q rest a w') : wpList P ops Q (o :: rest) a w :=
  sxnewown hf hM hO hgd hd hdn hb hkl hl (ox_box hop (look_sound hf (c := none) trivial hx trivial) hv) kont
/-- The store of a whole array. -/
theorem sxsetall (hf : Fr n env a) (hM : MemOk M w) {e : TypeId} {k : Nat} {B : Nat} {xs ys : List Value} (hO : OwnOk base M (oS e 1 (.slice (some ⟨B, 0, none⟩) k k) k xs :: O) w) {o : Oper} {ty : TypeId} {X Y : Operand}
    (hgd : o.guard = none) (hd : o.dst = none) (hop : o.op = .store ty X Y) (hx : look env none X = some (.pointer (some ⟨B, 0, none⟩), [])) {y : Value} (hy : look env none Y = some (y, [])) (hys : y.cells.toList = ys)
    (hk : ys.length = k) (h0 : 0 < k) (hi : (P.info? ty).map (·.size) = some k) (h1 : ∀ u ∈ ys, u.oneCell' = true)
    (kont : ∀ a w', Fr n env a → MemOk M w' → OwnOk base M (oS e 1 (.slice (some ⟨B, 0, none⟩) k k) k ys :: O) w' → Keep (fun j => Value.ownBlock (.slice (some ⟨B, 0, none⟩) k k) = some j) w w' → wpList P ops Q rest a w') :
    wpList P ops Q (o :: rest) a w := by
  have hown : w.ownsRow base e 1 (.slice (some ⟨B, 0, none⟩) k k) k xs := hO.own _ (List.mem_cons_self ..)
  subst hys
  obtain ⟨w', hr, hx', hkk⟩ := own_storeAt (P := P) hown (o := 0) (ty := ty) (val := y) (by omega) (by omega) h1 (by rw [hi, hk])
  have hxl : xs.length = k := by simpa using hown.1
  have e0 : putAt xs 0 y.cells.toList = y.cells.toList := by
    simp only [putAt, List.take_zero, List.nil_append, Nat.zero_add]
    rw [List.drop_of_length_le (by omega), List.append_nil]
  rw [e0] at hx'
  have ea : (sa (some ⟨B, 0, none⟩)).add 0 = (⟨B, 0, none⟩ : Addr) := by simp [sa, Addr.add]
  rw [ea] at hr
  refine wpList_plain hgd fun K hK => ?_
  refine wp_of_run (w2 := w') (v := undef) (nx := .skip) ?_ (.inr ⟨rfl, rfl⟩) K Q ?_
  · refine ox_store hop ?_
    have e1 : a.eval X = .pointer (some ⟨B, 0, none⟩) := look_sound hf (c := none) trivial hx trivial
    have e2 : a.eval Y = y := look_sound hf (c := none) trivial hy trivial
    rw [e1, e2]
    exact hr
  rw [hd]
  exact hK _ _ (kont _ w' hf (hO.memTurn hM hkk) (hO.turn hkk hx') hkk)
/-! ### Results that are arrays -/
theorem sxretR (hf : Fr n env a) {fn : Func} {R : Value → World → Prop} {l : List Value} {rs : List ResultVar} (hrs : fn.results.toList = rs) (hk : resKnown env rs = true) (h : (resL (getV env) rs).run P w = .ok l w) (hR : R (resOf l) w) : bodyPost P fn (Ret R) .ret a w := by
  subst hrs
  exact ⟨hf.dfr, _, results_run hf hk h, _, rfl, hR⟩
theorem resL_nil {g : Nat → Value} : (resL g []).run P w = .ok [] w := rfl
theorem resL_tmp {g : Nat → Value} {t : Nat} {rs : List ResultVar} {l : List Value} {v : Value} (hv : g t = v) (h : (resL g rs).run P w = .ok l w) : (resL g (.tmp t :: rs)).run P w = .ok (v :: l) w := by
  simp [resL, h, hv]
theorem resL_arr {g : Nat → Value} {t ty e : Nat} {rs : List ResultVar} {l : List Value} {B k : Nat} {xs : List Value} {td : TypeDesc} (hg : g t = .pointer (some ⟨B, 0, none⟩)) (hown : w.ownsRow base e 1 (.slice (some ⟨B, 0, none⟩) k k) k xs)
    (hu : P.underlying ty = some td) (htd : (match td with | .struct _ | .array _ _ => true | _ => false) = true) (hi : (P.info? ty).map (·.size) = some k) (h : (resL g rs).run P w = .ok l w) :
    (resL g (.cell t ty :: rs)).run P w = .ok (.agg xs.toArray :: l) w := by
  have hr := run_loadVar_row (P := P) w B e ty xs.toArray (0, 0) td (own_row hown) hu htd (by rw [hi]; simpa using hown.1.symm)
  simp [resL, hg, asAddr, hr, h]
end
end Go.Px
