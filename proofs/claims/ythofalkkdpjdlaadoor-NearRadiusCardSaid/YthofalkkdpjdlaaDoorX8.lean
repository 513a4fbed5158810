/- The join of a law's walk with its row: arguments that read as they did; the answer; the package's errors out of the row's list. Nothing of any one program stands here. -/
import Derived.Test.YthofalkkdpjdlaaDoorXp0
import Derived.WalkKit
import Derived.ProofKit
import Derived.OpenShut
import Derived.Carry
import Derived.Stop.LaidErr
import Derived.Deep.DeepHandedRow
import Derived.Deep.DeepWitnessRowRef
namespace Go.Px
set_option linter.unusedVariables false
set_option linter.unusedSimpArgs false
set_option linter.unusedSectionVars false
open Go.RowKit Go.ChangeShapes Go.WideShapes

theorem trodAll_stays {H : Type} {enc : TypeId × Value → H} {P : Program} (hl : laidOutB P = true) {W W' : World} {sp' : Nat → Bool} : ∀ {ts : List TypeId} {vs : List Value} {ds : List (DataW H)} {ps : List MemPlace},
    DataW.TrodAll enc P W 0 (fun _ => true) true ts vs ds ps → (ts.all fun t => P.readableRec t && decide (t < P.types.size)) = true → (∀ p ∈ ps, W.sameAt W' p) → (∀ p ∈ ps, sp' p.block = true) → DataW.TrodAll enc P W' 0 sp' true ts vs ds ps
  | [], vs, ds, ps, h, _, _, _ => by
    obtain ⟨rfl, rfl, rfl⟩ := trodAll_nil h
    exact trodAll_mk0
  | t :: ts, vs, ds, ps, h, ht, hs, hsp => by
    obtain ⟨v, vs', d, ds', p, q, rfl, rfl, rfl, h1, h2⟩ := trodAll_cons h
    simp only [List.all_cons, Bool.and_eq_true, decide_eq_true_eq] at ht
    exact trodAll_cons_mk (WideElems.Trod_stays hl ht.1.1 ht.1.2 h1 (fun x hx => hs x (by simp [hx])) (fun x hx => hsp x (by simp [hx])))
      (trodAll_stays hl h2 ht.2 (fun x hx => hs x (by simp [hx])) (fun x hx => hsp x (by simp [hx])))

theorem bd_i64 {n : Int} (h : (Lit.int .i64 n).wf = true) : -9223372036854775808 ≤ n ∧ n ≤ 9223372036854775807 := by
  simp only [Lit.wf, Bool.and_eq_true, decide_eq_true_eq] at h
  exact h
/-- A law that returns true, and turns nothing old. -/
theorem law_post {H : Type} {enc : TypeId × Value → H} {P : Program} {f : Func} {s : ChangeSpec} {tb : TypeId} {W W' : World} {args : Array Value} {ds gs : List (DataW H)} {before : List MemPlace}
    (hl : laidOutB P = true) (hr : f.resultTypes = #[tb]) (hb : P.underlying tb = some .bool) (hts : (f.params.toList.all fun t => P.readableRec t && decide (t < P.types.size)) = true) (hv : s.vars = [])
    (hfn : (s.fn H ds).results = [.lit (.bool true)] ∧ (s.fn H ds).args = ds ∧ (s.fn H ds).vars = []) (hW : DataW.Whole enc P f.params.toList s.vars false W args.toList ds gs before) (hk : Keep Nn W W') :
    s.post enc P f false true false false W args (.bool true) W' := by
  have hW' := hW
  obtain ⟨p, q, hA, hV, he, hfz, hnd⟩ := hW'
  rw [hv] at hV
  obtain ⟨rfl, rfl⟩ := trodVars_none hV
  have hlt : ∀ x ∈ p, x.block < W.heap.size := fun x hx => by
    have := hW.lt x (by rw [he]; simp [hx])
    exact this
  have e1 : ds ++ ([] : List (DataW H)) = ds := by simp
  refine ⟨ds, [], before, [], p, [], hW, ?_, ?_, ?_, hk.below.frame _, fun h => by cases h⟩
  · rw [e1, hfn.1, hr]
    exact trodAll_mk1 (shut_bool hb true)
  · rw [e1, hfn.2.1]
    exact trodAll_stays hl hA hts (fun x hx => hk.below.same (hlt x hx)) (fun x hx => by simpa using hlt x hx)
  · rw [e1, hfn.2.2, hv]
    rfl

theorem sents {P : Program} {W : World} {nm : String} {ti tp te ts : TypeId} {ms : Array (String × TypeId)} {f : Field} (hi : P.underlying ti = some (.interface ms)) (hrow : ∀ u, P.typeName? 3 u = some nm → u = tp)
    (hp : P.underlying tp = some (.pointer te)) (he : P.underlying te = some (.struct #[f])) (hft : f.type = ts) (hfo : f.offset = 0) (hs : P.underlying ts = some .string) (hc : P.cellsOf te = 1) (hcs : P.cellsOf ts = 1) :
    ∀ {l : List (String × DataW Unit)} {ps : List MemPlace}, DataW.LaidVars P W l ps → (∀ x ∈ l, ∃ text, x.2 = .iface nm (.ptr (.agg [.lit (.string text)]))) →
    (∀ x ∈ l, ∀ g, P.globalNamed x.1 = some g → (P.globals[g]?).map (·.type) = some ti) →
    (∀ b off, MemPlace.cell b off ∈ ps → (∃ c t, W.heap[b]? = some (.cells c t (0, 0))) ∧ ∀ u v, W.cell? ⟨b, off, none⟩ = some (.iface u v) → Value.okWide P W .any 0 u v) →
    ∃ as : List Addr, as.length = l.length ∧ (as.map fun a => MemPlace.cell a.block a.off).Sublist ps ∧
      ∀ (i : Nat) x a, l[i]? = some x → as[i]? = some a → ∃ g, P.globalNamed x.1 = some g ∧ W.cell? ⟨g, 0, none⟩ = some (.iface tp (.pointer (some a))) ∧ ∃ c u, W.heap[a.block]? = some (.cells c u (0, 0))
  | [], ps, _, _, _, _ => ⟨[], rfl, by simp, fun i x a h => by simp at h⟩
  | (n, d) :: r, ps, h, hd, hg, hrows => by
    obtain ⟨g, t, cs, fuel, p, q, hg0, ht0, hv0, hd0, hr0, rfl⟩ := h
    obtain ⟨text, htext⟩ := hd (n, d) (by simp)
    simp only at htext
    subst htext
    have ht1 := hg _ (List.mem_cons_self ..) g hg0
    obtain rfl := Option.some.inj (ht1.symm.trans ht0)
    obtain ⟨l0⟩ := cs
    have ok0 : ∀ u v, l0 = [.iface u v] → Value.okWide P W .any 0 u v := fun u v e => by
      subst e
      exact (hrows g 0 (by simp [MemPlace.row])).2 u v (by simpa using World.var?_cell hg0 hv0 0)
    obtain ⟨a, s, rfl, hca, _, _, rfl⟩ := errorString_of_trod hi hrow hp he hft hfo hs hc hcs hd0 ok0
    obtain ⟨as, h1, h2, h3⟩ := sents hi hrow hp he hft hfo hs hc hcs hr0 (fun x hx => hd x (List.mem_cons_of_mem _ hx)) (fun x hx => hg x (List.mem_cons_of_mem _ hx)) (fun b off hm => hrows b off (by simp [hm]))
    refine ⟨a :: as, by simp [h1], ?_, ?_⟩
    · have e : MemPlace.row a 1 = [MemPlace.cell a.block a.off] := by simp [MemPlace.row]
      rw [List.map_cons, e, List.append_assoc]
      exact (List.Sublist.append (List.nil_sublist _) (List.Sublist.append (List.Sublist.refl [MemPlace.cell a.block a.off]) h2))
    · intro i x a' hx ha
      rcases i with _ | i
      · simp only [List.getElem?_cons_zero, Option.some.injEq] at hx ha
        subst hx ha
        refine ⟨g, hg0, ?_, ?_⟩
        · have := World.var?_cell hg0 hv0 0
          simpa using this
        · exact (hrows a.block a.off (by simp [MemPlace.row])).1
      · simp only [List.getElem?_cons_succ] at hx ha
        exact h3 i x a' hx ha

/-- The package's errors, as the row's list lays them: the variables 0 .. in their order. -/
theorem errs_of_laid {P : Program} {W : World} {gs : List Nat} {l : List (String × DataW Unit)} {nm : String} {ti tp te ts : TypeId} {ms : Array (String × TypeId)} {f : Field} (hi : P.underlying ti = some (.interface ms)) (hrow : ∀ u, P.typeName? 3 u = some nm → u = tp)
    (hp : P.underlying tp = some (.pointer te)) (he : P.underlying te = some (.struct #[f])) (hft : f.type = ts) (hfo : f.offset = 0) (hs : P.underlying ts = some .string) (hc : P.cellsOf te = 1) (hcs : P.cellsOf ts = 1)
    (hgnd : gs.Nodup) (hd : ∀ x ∈ l, ∃ text, x.2 = .iface nm (.ptr (.agg [.lit (.string text)]))) (hnames : l.map (fun x => P.globalNamed x.1) = gs.map some) (htypes : gs.all (fun g => ((P.globals[g]?).map (·.type)) == some ti) = true)
    (hh : l.filter (fun x => x.2.handleName?.isSome) = []) (h : laidMetH P l W) : ∃ E, Errs gs W tp E := by
  unfold laidMetH at h
  rw [hh] at h
  obtain ⟨ps, hv, hnd, hrows⟩ := h
  have hlen : l.length = gs.length := by
    have := congrArg List.length hnames
    simpa using this
  have hidx : ∀ (i : Nat) (x : String × DataW Unit), l[i]? = some x → ∃ g, gs[i]? = some g ∧ P.globalNamed x.1 = some g := fun i x hx => by
    have h1 : (l.map (fun x => P.globalNamed x.1))[i]? = some (P.globalNamed x.1) := by simp [hx]
    rw [hnames] at h1
    have hlt : i < gs.length := by
      have := (List.getElem?_eq_some_iff.1 hx).1
      omega
    simp [hlt] at h1
    exact ⟨gs[i], by simp [hlt], h1.symm⟩
  obtain ⟨as, h1, h2, h3⟩ := sents hi hrow hp he hft hfo hs hc hcs hv hd (fun x hx g hg => by
    obtain ⟨i, hlt, rfl⟩ := List.getElem_of_mem hx
    obtain ⟨g', h5, h6⟩ := hidx i _ (List.getElem?_eq_getElem hlt)
    obtain rfl := Option.some.inj (h6.symm.trans hg)
    simp only [List.all_eq_true, beq_iff_eq] at htypes
    exact htypes g' (List.mem_of_getElem? h5)) hrows
  have key : ∀ (i g : Nat), gs[i]? = some g → ∃ a, as[i]? = some a ∧ W.cell? ⟨g, 0, none⟩ = some (.iface tp (.pointer (some a))) ∧ ∃ c u, W.heap[a.block]? = some (.cells c u (0, 0)) := fun i g hg => by
    have hlt : i < gs.length := (List.getElem?_eq_some_iff.1 hg).1
    have hx : l[i]? = some (l[i]'(by omega)) := List.getElem?_eq_getElem (by omega)
    have ha : as[i]? = some (as[i]'(by omega)) := List.getElem?_eq_getElem (by omega)
    obtain ⟨g', h4, h5, h6⟩ := h3 i _ _ hx ha
    obtain ⟨g2, h7, h8⟩ := hidx i _ hx
    obtain rfl := Option.some.inj (h7.symm.trans hg)
    obtain rfl := Option.some.inj (h8.symm.trans h4)
    exact ⟨_, ha, h5, h6⟩
  have at_ : ∀ g, gs.contains g = true → gs[gs.idxOf g]? = some g := fun g hg => by
    have hm : g ∈ gs := by simpa using hg
    rw [List.getElem?_eq_getElem (List.idxOf_lt_length_of_mem hm)]
    simp
  have hnd2 := hnd.sublist h2
  refine ⟨fun g => as.getD (gs.idxOf g) ⟨0, 0, none⟩, fun g hg => ?_, fun g hg => ?_, fun g h hg hh2 e => ?_⟩
  · obtain ⟨a, ha, hb, _⟩ := key _ g (at_ g hg)
    simpa [List.getD_eq_getElem?_getD, ha] using hb
  · obtain ⟨a, ha, _, hb⟩ := key _ g (at_ g hg)
    simpa [List.getD_eq_getElem?_getD, ha] using hb
  · obtain ⟨a, ha, _, _⟩ := key _ g (at_ g hg)
    obtain ⟨b, hb, _, _⟩ := key _ h (at_ h hh2)
    simp only [List.getD_eq_getElem?_getD, ha, hb, Option.getD_some] at e
    subst e
    have q1 : (as.map fun a => MemPlace.cell a.block a.off)[gs.idxOf g]? = some (.cell a.block a.off) := by simp [ha]
    have q2 : (as.map fun a => MemPlace.cell a.block a.off)[gs.idxOf h]? = some (.cell a.block a.off) := by simp [hb]
    have hg' : gs.idxOf g < (as.map fun a => MemPlace.cell a.block a.off).length := (List.getElem?_eq_some_iff.1 q1).1
    have hij := (List.getElem?_inj hg' hnd2).1 (q1.trans q2.symm)
    have e1 := at_ g hg
    rw [hij, at_ h hh2] at e1
    exact (Option.some.inj e1).symm
end Go.Px
