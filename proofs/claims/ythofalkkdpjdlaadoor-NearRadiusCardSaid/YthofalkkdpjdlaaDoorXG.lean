/- The walker: 'append' of so many zeros to no slice (slices.Grow). Nothing of any one program stands here. -/
import Derived.Test.YthofalkkdpjdlaaDoorXQ
import Derived.Lib.AppendZeros
namespace Go.Px
set_option linter.unusedVariables false
set_option linter.unusedSimpArgs false
set_option linter.unusedSectionVars false
open Go.RowKit
section
variable {P : Program} {ops : Array Oper} {n : Nat} {Q : Exit → Act → World → Prop} {rest : List Oper} {env : Env} {M : Mem} {a : Act} {w : World} {base : Nat} {O : List Own}
theorem sxgrow (hf : Fr n env a) (hM : MemOk M w) (hO : OwnOk base M O w) {o : Oper} {d : Tmp} {s x : Operand} {t tn e : TypeId} {kn kq : IntKind} {sz by_ k : Nat} {kk : Int}
    (hgd : o.guard = none) (hd : o.dst = some d) (hdn : Nat.blt d n = true) (hop : o.op = .call { callee := .builtin .append, args := #[s, x], argTypes := #[t, tn] })
    (hs : look env none s = some (.slice none 0 0, [])) (hx : look env none x = some (.int kq kk, [])) (hk : kk = k)
    (ht : P.underlying t = some (.slice e)) (htn : P.underlying tn = some (.int kn)) (hi : (P.info? e).map (fun i => (i.size, i.bytes, i.zero.map (·.cells.size))) = some (sz, by_, some sz)) (hsz : Nat.blt 0 sz = true)
    (h0 : 0 < k) (h63 : k ≤ maxLen ∧ k * by_ ≤ 140737488355328) (hb : base ≤ w.heap.size)
    (kont : ∀ act w' B c', Fr n ((d, .val (.slice (some ⟨B, 0, none⟩) k c')) :: env) act → MemOk M w' → OwnOk base M (oS e sz (.slice (some ⟨B, 0, none⟩) 0 c') 0 [] :: O) w' → Keep Nn w w' → wpList P ops Q rest act w') :
    wpList P ops Q (o :: rest) a w := by
  obtain ⟨i, hi1, hi2⟩ := Option.map_eq_some_iff.1 hi
  simp only [Prod.mk.injEq] at hi2
  obtain ⟨h2, h3, h4⟩ := hi2
  obtain ⟨z, hz, hzs⟩ := Option.map_eq_some_iff.1 h4
  have hsz' : 0 < sz := by simpa [Nat.blt_eq] using hsz
  have hmx : k ≤ 9223372036854775807 := by have := h63.1; simp only [maxLen] at this; omega
  have hr := Lib.run_append_nil_zeros (P := P) w t tn o.type e i z kq kn ht htn hi1 hz k h0 (by rw [h2]; exact hsz') (by omega) (by rw [h3]; have := h63.2; omega)
  have hge := grownCap_ge w k 0 e
  have hcm : grownCap w k 0 e ≤ maxLen := grownCap_le_maxLen w k 0 e h63.1
  have hown : (w.drew.alloc (.cells (Builtin.zeroCells z.cells k ++ Builtin.zeroCells z.cells (grownCap w k 0 e - k)) e)).ownsRow w.heap.size e sz (.slice (some ⟨w.heap.size, 0, none⟩) 0 (grownCap w k 0 e)) 0 [] := by
    refine ⟨by simp, .inr ⟨w.heap.size, _, _, rfl, Nat.le_refl _, heap_alloc_new w.drew _, Nat.zero_le _, hcm, ?_, by simp⟩⟩
    simp only [Array.size_append, size_zeroCells, hzs, ← Nat.add_mul]
    congr 1
    omega
  have hkp : Keep Nn w (w.drew.alloc (.cells (Builtin.zeroCells z.cells k ++ Builtin.zeroCells z.cells (grownCap w k 0 e - k)) e)) := by
    have hg : w.grownBy (w.drew.alloc (.cells (Builtin.zeroCells z.cells k ++ Builtin.zeroCells z.cells (grownCap w k 0 e - k)) e)) none := ⟨rfl, rfl, rfl, by simp, fun k hk _ => heap_alloc_old w.drew _ hk⟩
    exact (Keep.of_grownBy hg (Nat.le_succ _)).mono fun _ _ h => by cases h
  refine wpList_plain hgd fun K hK => ?_
  refine wp_of_run (w2 := (w.drew.alloc (.cells (Builtin.zeroCells z.cells k ++ Builtin.zeroCells z.cells (grownCap w k 0 e - k)) e))) (v := (.slice (some ⟨w.heap.size, 0, none⟩) k (grownCap w k 0 e))) (nx := .value (.slice (some ⟨w.heap.size, 0, none⟩) k (grownCap w k 0 e))) ?_ (.inl rfl) K Q ?_
  · have e1 : a.eval s = .slice none 0 0 := look_sound hf (c := none) trivial hs trivial
    have e2 : a.eval x = .int kq kk := look_sound hf (c := none) trivial hx trivial
    have hr2 : (Builtin.append_ #[t, tn] o.type #[a.eval s, a.eval x]).run P w = .ok (.slice (some ⟨w.heap.size, 0, none⟩) k (grownCap w k 0 e)) (w.drew.alloc (.cells (Builtin.zeroCells z.cells k ++ Builtin.zeroCells z.cells (grownCap w k 0 e - k)) e)) := by
      rw [e1, e2, hk]
      exact hr
    simp [execOp, hop, resolve, invoke, builtin, hr2]
  · rw [hd]
    exact hK _ _ (kont _ _ w.heap.size _ (hf.putv (by simpa [Nat.blt_eq] using hdn) _) (hM.keepNn hkp) (hO.more hM hkp hb hown) hkp)
end
theorem MemOk.one {w : World} {B t : Nat} {cs : List Value} (h : w.heap[B]? = some (.cells cs.toArray t (0, 0))) : MemOk [⟨B, t, cs⟩] w := ⟨fun b hb => by obtain rfl := List.mem_singleton.1 hb; exact h, by simp [Mem.names]⟩
end Go.Px
