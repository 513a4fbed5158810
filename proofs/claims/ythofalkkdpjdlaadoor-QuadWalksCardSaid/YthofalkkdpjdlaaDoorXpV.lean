/- Layer 12's tree in memory: its maps and nodes as what is one's own. -/
import Derived.Test.YthofalkkdpjdlaaDoorXpU
import Derived.Test.YthofalkkdpjdlaaDoorXN
namespace Go.Px
set_option linter.unusedVariables false
set_option linter.unusedSimpArgs false
set_option linter.unusedSectionVars false
def ndCells (n : ND) : List Value := [.map (some n.m), .int .i64 n.n]
def ndB (n : ND) : List Nat := [n.p, n.m]
def NdAt (tN : TypeId) (b : Nat) (w : World) (n : ND) : Prop := b ≤ n.p ∧ b ≤ n.m ∧ w.heap[n.p]? = some (.cells (ndCells n).toArray tN (0, 0)) ∧ MapAt w n.m vH vB n.bs
/-- The nodes. -/
def oN (tN : TypeId) (N : List ND) : Own where
  B := N.flatMap ndB
  φ := fun b w => ∀ n ∈ N, NdAt tN b w n
  lt' := fun h i hi => by
    obtain ⟨n, hn, hi⟩ := List.mem_flatMap.1 hi
    have h1 := h n hn
    simp only [ndB, List.mem_cons, List.not_mem_nil, or_false] at hi
    rcases hi with rfl | rfl
    · exact ⟨h1.1, (Array.getElem?_eq_some_iff.1 h1.2.2.1).1⟩
    · exact ⟨h1.2.1, h1.2.2.2.lt⟩
  stab := fun h hk hn n hm => by
    have h1 := h n hm
    have h2 : ∀ i ∈ ndB n, ¬ _ := fun i hi => hn i (List.mem_flatMap.2 ⟨n, hm, hi⟩)
    exact ⟨h1.1, h1.2.1, hk.obj h1.2.2.1 (h2 n.p (by simp [ndB])), h1.2.2.2.keep hk (h2 n.m (by simp [ndB]))⟩
  low := fun h hb n hm => ⟨Nat.le_trans hb (h n hm).1, Nat.le_trans hb (h n hm).2.1, (h n hm).2.2⟩
section
variable {base : Nat} {M : Mem} {O : List Own} {w : World} {tN : TypeId}
theorem nd_out {α : Type} {A B C D : List α} (h : (A ++ (B ++ D ++ C)).Nodup) : (A ++ D ++ (B ++ C)).Nodup := by
  have hp : (A ++ D ++ (B ++ C)).Perm (A ++ (B ++ D ++ C)) := by
    rw [List.append_assoc]
    refine List.Perm.append_left _ ?_
    rw [← List.append_assoc, List.append_assoc B]
    exact (List.perm_append_comm (l₁ := D) (l₂ := B)).append_right C |>.trans (by rw [List.append_assoc])
  exact hp.nodup_iff.2 h
/-- One node is looked into: its variable is a known block, its boxes are a map. -/
theorem OwnOk.openN {N1 N2 : List ND} {n : ND} (h : OwnOk base M (oN tN (N1 ++ n :: N2) :: O) w) (hM : MemOk M w) :
    MemOk (M ++ [⟨n.p, tN, ndCells n⟩]) w ∧ OwnOk base (M ++ [⟨n.p, tN, ndCells n⟩]) (oM n.m vH vB n.bs :: oN tN (N1 ++ N2) :: O) w := by
  have hown := h.own _ (List.mem_cons_self ..)
  have hn : NdAt tN base w n := hown n (by simp)
  have hnd := h.nd
  have e1 : (oN tN (N1 ++ n :: N2) :: O).flatMap (·.B) = N1.flatMap ndB ++ [n.p, n.m] ++ (N2.flatMap ndB ++ O.flatMap (·.B)) := by
    simp [oN, ndB, List.flatMap_cons, List.flatMap_append]
  rw [e1] at hnd
  have h2 : (M.names ++ [n.p] ++ ([n.m] ++ (N1.flatMap ndB ++ (N2.flatMap ndB ++ O.flatMap (·.B))))).Nodup := by
    have := nd_out (A := M.names) (B := N1.flatMap ndB) (D := [n.p, n.m]) (C := N2.flatMap ndB ++ O.flatMap (·.B)) hnd
    simpa using this
  have h3 : (M ++ [(⟨n.p, tN, ndCells n⟩ : Blk)]).names = M.names ++ [n.p] := by simp [Mem.names]
  refine ⟨⟨fun b hb => ?_, by rw [h3]; exact (List.nodup_append.1 h2).1⟩, ⟨fun o ho => ?_, ?_⟩⟩
  · rcases List.mem_append.1 hb with hb | hb
    · exact hM.at_ b hb
    · obtain rfl := List.mem_singleton.1 hb
      exact hn.2.2.1
  · rcases List.mem_cons.1 ho with rfl | ho
    · exact ⟨hn.2.1, hn.2.2.2⟩
    · rcases List.mem_cons.1 ho with rfl | ho
      · intro q hq
        refine hown q ?_
        rcases List.mem_append.1 hq with hq | hq
        · exact List.mem_append.2 (.inl hq)
        · exact List.mem_append.2 (.inr (List.mem_cons_of_mem _ hq))
      · exact h.own o (List.mem_cons_of_mem _ ho)
  · rw [h3]
    have e2 : (oM n.m vH vB n.bs :: oN tN (N1 ++ N2) :: O).flatMap (·.B) = [n.m] ++ (N1.flatMap ndB ++ (N2.flatMap ndB ++ O.flatMap (·.B))) := by
      simp [oM, oN, List.flatMap_cons, List.flatMap_append]
    rw [e2]
    exact h2
/-- .. and shut again. -/
theorem OwnOk.shutN {N1 N2 : List ND} {n : ND} (h : OwnOk base (M ++ [⟨n.p, tN, ndCells n⟩]) (oM n.m vH vB n.bs :: oN tN (N1 ++ N2) :: O) w) (hM : MemOk (M ++ [⟨n.p, tN, ndCells n⟩]) w) (hb : base ≤ n.p) :
    MemOk M w ∧ OwnOk base M (oN tN (N1 ++ n :: N2) :: O) w := by
  have h3 : (M ++ [(⟨n.p, tN, ndCells n⟩ : Blk)]).names = M.names ++ [n.p] := by simp [Mem.names]
  have hm := h.own _ (List.mem_cons_self ..)
  have hN := h.own _ (List.mem_cons_of_mem _ (List.mem_cons_self ..))
  have hnd := h.nd
  rw [h3] at hnd
  have e2 : (oM n.m vH vB n.bs :: oN tN (N1 ++ N2) :: O).flatMap (·.B) = [n.m] ++ (N1.flatMap ndB ++ (N2.flatMap ndB ++ O.flatMap (·.B))) := by
    simp [oM, oN, List.flatMap_cons, List.flatMap_append]
  rw [e2] at hnd
  refine ⟨hM.sub (List.sublist_append_left _ _), ⟨fun o ho => ?_, ?_⟩⟩
  · rcases List.mem_cons.1 ho with rfl | ho
    · intro q hq
      rcases List.mem_append.1 hq with hq | hq
      · exact hN q (List.mem_append.2 (.inl hq))
      · rcases List.mem_cons.1 hq with rfl | hq
        · exact ⟨hb, hm.1, hM.at_ ⟨q.p, tN, ndCells q⟩ (by simp), hm.2⟩
        · exact hN q (List.mem_append.2 (.inr hq))
    · exact h.own o (List.mem_cons_of_mem _ (List.mem_cons_of_mem _ ho))
  · have e1 : (oN tN (N1 ++ n :: N2) :: O).flatMap (·.B) = N1.flatMap ndB ++ [n.p, n.m] ++ (N2.flatMap ndB ++ O.flatMap (·.B)) := by
      simp [oN, ndB, List.flatMap_cons, List.flatMap_append]
    rw [e1]
    have hp : (M.names ++ (N1.flatMap ndB ++ [n.p, n.m] ++ (N2.flatMap ndB ++ O.flatMap (·.B)))).Perm (M.names ++ [n.p] ++ ([n.m] ++ (N1.flatMap ndB ++ (N2.flatMap ndB ++ O.flatMap (·.B))))) := by
      have e : M.names ++ [n.p] ++ ([n.m] ++ (N1.flatMap ndB ++ (N2.flatMap ndB ++ O.flatMap (·.B)))) = M.names ++ ([n.p, n.m] ++ N1.flatMap ndB ++ (N2.flatMap ndB ++ O.flatMap (·.B))) := by simp
      rw [e]
      exact List.Perm.append_left _ (List.perm_append_comm.append_right _)
    exact hp.nodup_iff.2 hnd
theorem OwnOk.noN (h : OwnOk base M O w) : OwnOk base M (oN tN [] :: O) w :=
  ⟨fun o ho => by rcases List.mem_cons.1 ho with rfl | ho
                  · intro n hn; cases hn
                  · exact h.own o ho, by simpa [oN] using h.nd⟩
/-- The map of the nodes, and they. -/
def ndL (N : List ND) : List (C3 × Option Nat) := N.map fun n => (n.c, some n.p)
def oNM (tN : TypeId) (nB : Nat) (N : List ND) : Own where
  B := nB :: N.flatMap ndB
  φ := fun b w => (oM nB vC vP (ndL N)).φ b w ∧ (oN tN N).φ b w
  lt' := fun h i hi => by
    rcases List.mem_cons.1 hi with rfl | hi
    · exact (oM i vC vP (ndL N)).lt' h.1 i (List.mem_singleton.2 rfl)
    · exact (oN tN N).lt' h.2 i hi
  stab := fun h hk hn => ⟨(oM nB vC vP (ndL N)).stab h.1 hk fun i hi => hn i (by rw [List.mem_singleton.1 hi]; exact List.mem_cons_self ..), (oN tN N).stab h.2 hk fun i hi => hn i (List.mem_cons_of_mem _ hi)⟩
  low := fun h hb => ⟨(oM nB vC vP (ndL N)).low h.1 hb, (oN tN N).low h.2 hb⟩
theorem OwnOk.openNM {nB : Nat} {N : List ND} (h : OwnOk base M (oNM tN nB N :: O) w) : OwnOk base M (oM nB vC vP (ndL N) :: oN tN N :: O) w := by
  have h1 := h.own _ (List.mem_cons_self ..)
  refine ⟨fun o ho => ?_, by simpa [oM, oN, oNM] using h.nd⟩
  rcases List.mem_cons.1 ho with rfl | ho
  · exact h1.1
  · rcases List.mem_cons.1 ho with rfl | ho
    · exact h1.2
    · exact h.own o (List.mem_cons_of_mem _ ho)
theorem OwnOk.shutNM {nB : Nat} {N : List ND} (h : OwnOk base M (oM nB vC vP (ndL N) :: oN tN N :: O) w) : OwnOk base M (oNM tN nB N :: O) w := by
  have h1 := h.own _ (List.mem_cons_self ..)
  have h2 := h.own _ (List.mem_cons_of_mem _ (List.mem_cons_self ..))
  refine ⟨fun o ho => ?_, by simpa [oM, oN, oNM] using h.nd⟩
  rcases List.mem_cons.1 ho with rfl | ho
  · exact ⟨h1, h2⟩
  · exact h.own o (List.mem_cons_of_mem _ (List.mem_cons_of_mem _ ho))
theorem OwnOk.oneB {o : Own} (h : o.φ base w) (hd : o.B.Nodup) : OwnOk base [] [o] w := ⟨fun p hp => by obtain rfl := List.mem_singleton.1 hp; exact h, by simpa [Mem.names] using hd⟩
theorem ndL_get {N : List ND} {c : C3} : getK (ndL N) c = (N.find? fun n => decide (n.c = c)).map fun n => some n.p := by
  unfold getK ndL
  induction N with
  | nil => rfl
  | cons n r ih =>
    simp only [List.map_cons, List.find?_cons]
    by_cases h : n.c = c
    · simp [h]
    · simp only [decide_eq_false h]
      exact ih
theorem ndL_has {N : List ND} {c : C3} : hasK (ndL N) c = true ↔ c ∈ N.map (·.c) := by
  rw [hasK_iff]
  unfold ndL
  rw [List.map_map]
  exact Iff.rfl
/-- A node that is there. -/
theorem ndL_split {N : List ND} {c : C3} (h : hasK (ndL N) c = true) : ∃ (N1 : List ND) (n : ND) (N2 : List ND), N = N1 ++ n :: N2 ∧ n.c = c ∧ (getK (ndL N) c).getD none = some n.p := by
  have h1 := ndL_has.1 h
  rw [ndL_get]
  cases hf : N.find? fun n => decide (n.c = c) with
  | none =>
    obtain ⟨n, hn, hnc⟩ := List.mem_map.1 h1
    exact absurd (List.find?_eq_none.1 hf n hn) (by simp [hnc])
  | some n =>
    have hm := List.mem_of_find?_eq_some hf
    have hc : n.c = c := by
      have := List.find?_some hf
      exact of_decide_eq_true this
    obtain ⟨N1, N2, rfl⟩ := List.append_of_mem hm
    exact ⟨N1, n, N2, rfl, hc, rfl⟩
theorem ndL_put {N : List ND} {c : C3} {p m : Nat} {v : Int} {bs : List (H2 × B4)} (h : hasK (ndL N) c = false) : putK (ndL N) c (some p) = ndL (N ++ [⟨c, p, m, v, bs⟩]) := by
  unfold putK
  rw [h]
  simp [ndL]
theorem setN_split {N1 N2 : List ND} {n : ND} {v : Int} (hd : ((N1 ++ n :: N2).map (·.c)).Nodup) : setN (N1 ++ n :: N2) n.c v = N1 ++ { n with n := v } :: N2 := by
  have key : ∀ N : List ND, (∀ q ∈ N, q.c ≠ n.c) → setN N n.c v = N := fun N hN => by
    unfold setN
    conv => rhs; rw [← List.map_id N]
    refine List.map_congr_left fun q hq => ?_
    rw [if_neg (hN q hq)]
    rfl
  have h1 : ∀ q ∈ N1, q.c ≠ n.c := fun q hq e => by
    rw [List.map_append, List.nodup_append] at hd
    exact hd.2.2 q.c (List.mem_map.2 ⟨q, hq, rfl⟩) n.c (by simp) e
  have h2 : ∀ q ∈ N2, q.c ≠ n.c := fun q hq e => by
    rw [List.map_append, List.nodup_append, List.map_cons, List.nodup_cons] at hd
    exact hd.2.1.1 (List.mem_map.2 ⟨q, hq, e⟩)
  show (N1 ++ n :: N2).map _ = _
  rw [List.map_append, List.map_cons, if_pos rfl]
  have e1 := key N1 h1
  have e2 := key N2 h2
  unfold setN at e1 e2
  rw [e1, e2]
theorem ndL_set {N1 N2 : List ND} {n : ND} {v : Int} {bs : List (H2 × B4)} : ndL (N1 ++ { n with n := v, bs := bs } :: N2) = ndL (N1 ++ n :: N2) := by simp [ndL]
/-! ### The whole tree -/
def oTree (tT tN : TypeId) (T : Nat) (Bl : List Nat) (bs : List (H2 × B4)) : Own where
  B := Bl
  φ := fun b w => ∃ (nB cB : Nat) (N : List ND) (Lc : List (H2 × C3)), Bl = T :: nB :: cB :: N.flatMap ndB ∧ TreeI N Lc bs ∧ b ≤ T ∧ w.heap[T]? = some (.cells ([.map (some nB), .map (some cB)] : List Value).toArray tT (0, 0)) ∧ (oNM tN nB N).φ b w ∧ (oM cB vH vC Lc).φ b w
  lt' := fun h i hi => by
    obtain ⟨nB, cB, N, Lc, rfl, _, h1, h2, h3, h4⟩ := h
    rcases List.mem_cons.1 hi with rfl | hi
    · exact ⟨h1, (Array.getElem?_eq_some_iff.1 h2).1⟩
    · rcases List.mem_cons.1 hi with rfl | hi
      · exact (oNM tN i N).lt' h3 i (List.mem_cons_self ..)
      · rcases List.mem_cons.1 hi with rfl | hi
        · exact (oM i vH vC Lc).lt' h4 i (List.mem_singleton.2 rfl)
        · exact (oNM tN nB N).lt' h3 i (List.mem_cons_of_mem _ hi)
  stab := fun h hk hn => by
    obtain ⟨nB, cB, N, Lc, rfl, ht, h1, h2, h3, h4⟩ := h
    refine ⟨nB, cB, N, Lc, rfl, ht, h1, hk.obj h2 (hn _ (List.mem_cons_self ..)), (oNM tN nB N).stab h3 hk fun i hi => hn i ?_, (oM cB vH vC Lc).stab h4 hk fun i hi => hn i ?_⟩
    · rcases List.mem_cons.1 hi with rfl | hi
      · exact List.mem_cons_of_mem _ (List.mem_cons_self ..)
      · exact List.mem_cons_of_mem _ (List.mem_cons_of_mem _ (List.mem_cons_of_mem _ hi))
    · rw [List.mem_singleton.1 hi]
      exact List.mem_cons_of_mem _ (List.mem_cons_of_mem _ (List.mem_cons_self ..))
  low := fun h hb => by
    obtain ⟨nB, cB, N, Lc, e, ht, h1, h2, h3, h4⟩ := h
    exact ⟨nB, cB, N, Lc, e, ht, Nat.le_trans hb h1, h2, (oNM tN nB N).low h3 hb, (oM cB vH vC Lc).low h4 hb⟩
theorem OwnOk.openT {tT : TypeId} {T : Nat} {Bl : List Nat} {bs : List (H2 × B4)} (h : OwnOk base M (oTree tT tN T Bl bs :: O) w) (hM : MemOk M w) : ∃ (nB cB : Nat) (N : List ND) (Lc : List (H2 × C3)), Bl = T :: nB :: cB :: N.flatMap ndB ∧ TreeI N Lc bs ∧ base ≤ T ∧
    MemOk (M ++ [⟨T, tT, [.map (some nB), .map (some cB)]⟩]) w ∧ OwnOk base (M ++ [⟨T, tT, [.map (some nB), .map (some cB)]⟩]) (oNM tN nB N :: oM cB vH vC Lc :: O) w := by
  obtain ⟨nB, cB, N, Lc, rfl, ht, h1, h2, h3, h4⟩ := h.own _ (List.mem_cons_self ..)
  have hnd := h.nd
  have e1 : (oTree tT tN T (T :: nB :: cB :: N.flatMap ndB) bs :: O).flatMap (·.B) = T :: nB :: cB :: (N.flatMap ndB ++ O.flatMap (·.B)) := by simp [oTree, List.flatMap_cons]
  rw [e1] at hnd
  have h5 : (M ++ [(⟨T, tT, [.map (some nB), .map (some cB)]⟩ : Blk)]).names = M.names ++ [T] := by simp [Mem.names]
  have hp : (M.names ++ [T] ++ (nB :: N.flatMap ndB ++ (cB :: O.flatMap (·.B)))).Nodup := by
    have : (M.names ++ [T] ++ (nB :: N.flatMap ndB ++ (cB :: O.flatMap (·.B)))).Perm (M.names ++ T :: nB :: cB :: (N.flatMap ndB ++ O.flatMap (·.B))) := by
      rw [List.append_assoc]
      refine List.Perm.append_left _ (List.Perm.cons _ (List.Perm.cons _ ?_))
      exact List.perm_middle
    exact this.nodup_iff.2 hnd
  refine ⟨nB, cB, N, Lc, rfl, ht, h1, ⟨fun b hb => ?_, by rw [h5]; exact (List.nodup_append.1 hp).1⟩, ⟨fun o ho => ?_, ?_⟩⟩
  · rcases List.mem_append.1 hb with hb | hb
    · exact hM.at_ b hb
    · obtain rfl := List.mem_singleton.1 hb
      exact h2
  · rcases List.mem_cons.1 ho with rfl | ho
    · exact h3
    · rcases List.mem_cons.1 ho with rfl | ho
      · exact h4
      · exact h.own o (List.mem_cons_of_mem _ ho)
  · rw [h5]
    have e2 : (oNM tN nB N :: oM cB vH vC Lc :: O).flatMap (·.B) = nB :: N.flatMap ndB ++ (cB :: O.flatMap (·.B)) := by simp [oNM, oM, List.flatMap_cons]
    rw [e2]
    exact hp
theorem OwnOk.shutT {tT : TypeId} {T nB cB : Nat} {N : List ND} {Lc : List (H2 × C3)} {bs : List (H2 × B4)} (h : OwnOk base (M ++ [⟨T, tT, [.map (some nB), .map (some cB)]⟩]) (oNM tN nB N :: oM cB vH vC Lc :: O) w) (hM : MemOk (M ++ [⟨T, tT, [.map (some nB), .map (some cB)]⟩]) w)
    (hb : base ≤ T) (ht : TreeI N Lc bs) : MemOk M w ∧ OwnOk base M (oTree tT tN T (T :: nB :: cB :: N.flatMap ndB) bs :: O) w := by
  have h5 : (M ++ [(⟨T, tT, [.map (some nB), .map (some cB)]⟩ : Blk)]).names = M.names ++ [T] := by simp [Mem.names]
  have hnd := h.nd
  have e2 : (oNM tN nB N :: oM cB vH vC Lc :: O).flatMap (·.B) = nB :: N.flatMap ndB ++ (cB :: O.flatMap (·.B)) := by simp [oNM, oM, List.flatMap_cons]
  rw [h5, e2] at hnd
  refine ⟨hM.sub (List.sublist_append_left _ _), ⟨fun o ho => ?_, ?_⟩⟩
  · rcases List.mem_cons.1 ho with rfl | ho
    · exact ⟨nB, cB, N, Lc, rfl, ht, hb, hM.at_ ⟨T, tT, _⟩ (by simp), h.own _ (List.mem_cons_self ..), h.own _ (List.mem_cons_of_mem _ (List.mem_cons_self ..))⟩
    · exact h.own o (List.mem_cons_of_mem _ (List.mem_cons_of_mem _ ho))
  · have e1 : (oTree tT tN T (T :: nB :: cB :: N.flatMap ndB) bs :: O).flatMap (·.B) = T :: nB :: cB :: (N.flatMap ndB ++ O.flatMap (·.B)) := by simp [oTree, List.flatMap_cons]
    rw [e1]
    have : (M.names ++ [T] ++ (nB :: N.flatMap ndB ++ (cB :: O.flatMap (·.B)))).Perm (M.names ++ T :: nB :: cB :: (N.flatMap ndB ++ O.flatMap (·.B))) := by
      rw [List.append_assoc]
      refine List.Perm.append_left _ (List.Perm.cons _ (List.Perm.cons _ ?_))
      exact List.perm_middle
    exact this.nodup_iff.1 hnd
theorem OwnOk.ndH {o : Own} (h : OwnOk base M (o :: O) w) : o.B.Nodup := by
  have h1 := (List.nodup_append.1 h.nd).2.1
  rw [List.flatMap_cons] at h1
  exact (List.nodup_append.1 h1).1
theorem fD_bd {K done : List C3} (h : K.length ≤ 1000) (z : C3) : 0 ≤ fD K done z ∧ fD K done z ≤ 1001 := by
  unfold fD fK
  have := List.length_filter_le (fun k => inCh z k) K
  split <;> omega
theorem NodesF.bump {N1 N2 : List ND} {n : ND} {K done : List C3} {zz : C3} (h : NodesF (N1 ++ n :: N2) (fD K done)) (hnc : n.c = zz) (hz : ¬ zz ∈ done) (hK : K.length ≤ 1000) : NodesF (N1 ++ { n with n := n.n + 1 } :: N2) (fD K (done ++ [zz])) := by
  subst hnc
  have h1 := h.set (c := n.c) (k := 1) (by simp) (by have := (fD_bd (done := done) hK n.c).1; omega)
  rw [fD_snoc hz] at h1
  have h2 := h.cnt n (by simp)
  rw [← h2] at h1
  rw [setN_split (v := n.n + 1) h.nd] at h1
  exact h1
theorem NodesF.fresh {N : List ND} {K done : List C3} {zz : C3} (h : NodesF N (fD K done)) (hh : hasK (ndL N) zz = false) (hz : ¬ zz ∈ done) (p m : Nat) : NodesF (N ++ [⟨zz, p, m, 1, []⟩]) (fD K (done ++ [zz])) := by
  have hm : ¬ zz ∈ N.map (·.c) := fun hm => by rw [ndL_has.2 hm] at hh; cases hh
  have h0 : fD K done zz = 0 := by
    rcases Int.decEq (fD K done zz) 0 with h1 | h1
    · exact absurd ((h.ex zz).2 (.inr h1)) hm
    · exact h1
  have h1 := h.new (c := zz) (k := 1) hm (by omega) p m
  rw [fD_snoc hz, h0] at h1
  exact h1
theorem bsAt_bump {N1 N2 : List ND} {n : ND} {v : Int} (hd : ((N1 ++ n :: N2).map (·.c)).Nodup) (z : C3) : bsAt (N1 ++ { n with n := v } :: N2) z = bsAt (N1 ++ n :: N2) z := by
  rw [← setN_split hd]
  exact bsAt_set _ _ _ _
theorem notDone {c zz : C3} {done : List C3} (hc : okC c = true) (h : chain c = done ++ chain zz) : ¬ zz ∈ done := fun hm => by
  have h1 := chain_nd hc
  rw [h] at h1
  exact (List.nodup_append.1 h1).2.2 zz hm zz (chain_self _) rfl
theorem chain_more {c zz : C3} {done : List C3} (hz : okC zz = true) (h0 : ¬ zz.d = 0) (h : chain c = done ++ chain zz) : chain c = (done ++ [zz]) ++ chain (upC zz) := by
  rw [h, chain_step hz h0]
  simp
theorem chain_last {c zz : C3} {done : List C3} (h0 : zz.d = 0) (h : chain c = done ++ chain zz) : done ++ [zz] = chain c := by
  rw [h, chain_zero h0]
theorem oNM_bump {nB : Nat} {N1 N2 : List ND} {n : ND} {v : Int} : (oNM tN nB (N1 ++ { n with n := v } :: N2)).B = (oNM tN nB (N1 ++ n :: N2)).B := by
  simp [oNM, ndB]
theorem boxN_split {N1 N2 : List ND} {n : ND} {h : H2} {b : B4} (hd : ((N1 ++ n :: N2).map (·.c)).Nodup) : boxN (N1 ++ n :: N2) n.c h b = N1 ++ { n with bs := putK n.bs h b } :: N2 := by
  have key : ∀ N : List ND, (∀ q ∈ N, q.c ≠ n.c) → boxN N n.c h b = N := fun N hN => by
    unfold boxN
    conv => rhs; rw [← List.map_id N]
    refine List.map_congr_left fun q hq => ?_
    rw [if_neg (hN q hq)]
    rfl
  have h1 : ∀ q ∈ N1, q.c ≠ n.c := fun q hq e => by
    rw [List.map_append, List.nodup_append] at hd
    exact hd.2.2 q.c (List.mem_map.2 ⟨q, hq, rfl⟩) n.c (by simp) e
  have h2 : ∀ q ∈ N2, q.c ≠ n.c := fun q hq e => by
    rw [List.map_append, List.nodup_append, List.map_cons, List.nodup_cons] at hd
    exact hd.2.1.1 (List.mem_map.2 ⟨q, hq, e⟩)
  show (N1 ++ n :: N2).map _ = _
  rw [List.map_append, List.map_cons, if_pos rfl]
  have e1 := key N1 h1
  have e2 := key N2 h2
  unfold boxN at e1 e2
  rw [e1, e2]
theorem TreeI.fresh {N : List ND} {Lc : List (H2 × C3)} {bs : List (H2 × B4)} (h : TreeI N Lc bs) {k : H2} (hk : ¬ k ∈ bs.map (·.1)) : hasK Lc k = false := by
  cases hh : hasK Lc k with
  | false => rfl
  | true =>
    have := hasK_iff.1 hh
    rw [h.cs, List.map_map] at this
    exact absurd this hk
theorem okC_cell {b : B4} (h : okB b = true) : okC (cellB b) = true := by
  unfold okB at h
  rw [Bool.and_eq_true] at h
  have hw := inWorld_iff.1 h.2
  have hd := depthOf_bd (bsize b.x0 b.y0 b.x1 b.y1)
  have hx := col_bd (n := (b.x0 + b.x1) / 2) hd (by omega)
  have hy := col_bd (n := (b.y0 + b.y1) / 2) hd (by omega)
  refine okC_iff.2 ⟨hd, ?_, ?_⟩
  · show 0 ≤ colOf _ _ ∧ colOf _ _ < 2 ^ (depthOf _).toNat
    omega
  · show 0 ≤ colOf _ _ ∧ colOf _ _ < 2 ^ (depthOf _).toNat
    omega
/-- The node of a cell that has been counted. -/
theorem node_at {N : List ND} {K : List C3} {c : C3} (h : NodesF N (fK (c :: K))) : ∃ (N1 : List ND) (n : ND) (N2 : List ND), N = N1 ++ n :: N2 ∧ n.c = c ∧ (getK (ndL N) c).getD none = some n.p :=
  ndL_split (ndL_has.2 ((h.ex _).2 (.inr (Int.ne_of_gt (fK_pos (List.mem_cons_self ..) (chain_self _))))))
theorem ndL_bs {N1 N2 : List ND} {n : ND} {bs : List (H2 × B4)} : ndL (N1 ++ { n with bs := bs } :: N2) = ndL (N1 ++ n :: N2) := by simp [ndL]
theorem B_bs {N1 N2 : List ND} {n : ND} {bs : List (H2 × B4)} : (N1 ++ { n with bs := bs } :: N2).flatMap ndB = (N1 ++ n :: N2).flatMap ndB := by simp [ndB]
end
end Go.Px
