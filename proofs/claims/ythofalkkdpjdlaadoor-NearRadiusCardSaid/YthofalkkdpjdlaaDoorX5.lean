/- The walker's rules, last part: frames pruned to what lives; the one order of a drawn region, step by step; loops; joins. Nothing of any one program stands here. -/
import Derived.Test.YthofalkkdpjdlaaDoorX4
import Derived.LoopN
namespace Go.Px
set_option linter.unusedVariables false
set_option linter.unusedSimpArgs false
set_option linter.unusedSectionVars false
open Go.RowKit

def prune (env : Env) : List Nat → Env
  | [] => []
  | s :: r =>
    match env.get s with
    | some e => (s, e) :: prune env r
    | none => prune env r

theorem Fr.prune {n : Nat} {env : Env} {a : Act} (h : Fr n env a) (l : List Nat) : Fr n (Px.prune env l) a := by
  refine ⟨h.dfr, h.size, ?_⟩
  induction l with
  | nil => intro s e he; simp [Px.prune, Env.get] at he
  | cons t r ih =>
    intro s e he
    simp only [Px.prune] at he
    split at he
    · rename_i e' h1
      simp only [Env.get] at he
      split at he
      · rename_i hs
        obtain rfl : t = s := Nat.eq_of_beq_eq_true hs
        obtain rfl : e' = e := by simpa using he
        exact h.at_ t _ h1
      · exact ih s e he
    · exact ih s e he

theorem An : AllP [] := trivial
theorem Ao {p : Prop} (h : p) : AllP [p] := h
theorem Ac {p q : Prop} {r : List Prop} (h : p) (k : AllP (q :: r)) : AllP (p :: q :: r) := ⟨h, k⟩
/-- An access's address is the known block's. -/
def Ad (g o : Nat) : Prop := (⟨g, o, none⟩ : Addr) = ⟨g, o, none⟩
theorem ad (g o : Nat) : Ad g o := rfl
theorem ixa {B o n m : Nat} (h : o + n = m) : Value.pointer (some ((⟨B, o, none⟩ : Addr).add n)) = .pointer (some ⟨B, m, none⟩) := by
  subst h
  unfold Addr.add
  split
  · rename_i h0; subst h0; rfl
  · rfl
theorem wr {e : Int} (h : -9223372036854775808 ≤ e ∧ e ≤ 9223372036854775807) : Value.int .i64 (IntKind.i64.wrap e) = .int .i64 e := by
  rw [IntKind.wrap_i64]; congr 1; omega
theorem wru {e : Int} (h : 0 ≤ e ∧ e ≤ 18446744073709551615) : Value.int .u64 (IntKind.u64.wrap e) = .int .u64 e := by
  rw [IntKind.wrap_u64]; congr 1; omega
theorem pick_or (a b : Bool) : (bif a then Value.bool true else Value.bool b) = Value.bool (a || b) := by cases a <;> rfl
theorem pick_and (a b : Bool) : (bif a then Value.bool b else Value.bool false) = Value.bool (a && b) := by cases a <;> rfl

def St.prune (s : St) (live : List Nat) : St := { s with env := Px.prune s.env live }

theorem MemOk.nil (w : World) : MemOk [] w := ⟨by simp, by simp [Mem.names]⟩
theorem MemOk.sub {M M' : Mem} {w : World} (h : MemOk M w) (hs : M'.Sublist M) : MemOk M' w :=
  ⟨fun b hb => h.at_ b (hs.subset hb), h.nd.sublist (hs.map _)⟩
theorem MemOk.merge {M M' Mr Ms : Mem} {w w' : World} (h : MemOk M w) (hr : MemOk Mr w') (hs : MemOk Ms w') (hn : M'.names = M.names) (hsub : ∀ b ∈ M', b ∈ Mr ∨ b ∈ Ms) : MemOk M' w' :=
  ⟨fun b hb => (hsub b hb).elim (hr.at_ b) (hs.at_ b), by rw [hn]; exact h.nd⟩
theorem MemOk.keepNn {M : Mem} {w w' : World} (h : MemOk M w) (hk : Keep Nn w w') : MemOk M w' := h.keep hk fun _ _ hf => hf
/-- One known block has turned. -/
theorem MemOk.upd {M1 M2 : Mem} {b b' : Blk} {w w' : World} (h : MemOk (M1 ++ b :: M2) w) (hk : Keep (Is [b.g]) w w') (hx : MemOk [b'] w') (e : b'.g = b.g) : MemOk (M1 ++ b' :: M2) w' := by
  have hnd := h.nd
  refine ⟨fun x hx' => ?_, by simpa [Mem.names, e] using hnd⟩
  have hne : ∀ y ∈ M1 ++ M2, y.g ≠ b.g := fun y hy he => by
    have hp : (M1 ++ b :: M2 : Mem).names.Perm (b.g :: (M1 ++ M2 : Mem).names) := by
      simp only [Mem.names, List.map_append, List.map_cons]
      exact List.perm_middle
    have := hp.nodup_iff.1 hnd
    rw [List.nodup_cons] at this
    exact this.1 (by rw [← he]; exact List.mem_map.2 ⟨y, hy, rfl⟩)
  rcases List.mem_append.1 hx' with hx' | hx'
  · exact hk.obj (h.at_ x (by simp [hx'])) (fun h' => hne x (by simp [hx']) (by simpa [Is] using h'))
  · rcases List.mem_cons.1 hx' with rfl | hx'
    · exact hx.at_ _ (by simp)
    · exact hk.obj (h.at_ x (by simp [hx'])) (fun h' => hne x (by simp [hx']) (by simpa [Is] using h'))
theorem MemOk.drew {M : Mem} {w : World} (h : MemOk M w) : MemOk M w.drew := ⟨h.at_, h.nd⟩

section
variable {P : Program} {ops : Array Oper} {n : Nat} {Q : Exit → Act → World → Prop} {K : Act → World → Prop} {l : List Oper} {env : Env} {M : Mem} {a : Act} {w w0 : World} {S : List Nat}

theorem opsRun_drop {X : Addr → Value → Prop} : ∀ {is : List Ins} {l l' : List Oper} {s s' : St}, opsRun P X ops n is l s = some (l', s') → l' = l.drop is.length
  | [], l, l', s, s', h => by simp only [opsRun, Option.some.injEq, Prod.mk.injEq] at h; simp [h.1]
  | _ :: _, [], _, _, _, h => by simp [opsRun] at h
  | i :: is, o :: l, l', s, s', h => by
    simp only [opsRun] at h
    split at h
    · simpa using opsRun_drop h
    · cases h

/-- A run that only reads. -/
theorem sr0 (hf : Fr n env a) (hM : MemOk M w) (live : List Nat) (is : List Ins) {env' : Env} {ob : List Prop}
    (h : ∀ B, (opsRun P (fun a v => w.cell? a = some v) ops n is l ⟨env, B, M, false, []⟩).map (fun r => (prune r.2.env live, r.2.ob)) = some (env', ob)) (hi : is.all Ins.still = true) (ho : AllP ob)
    (k : ∀ a, Fr n env' a → wpList P ops Q (l.drop is.length) a w) : wpList P ops Q l a w := by
  obtain ⟨⟨l1, s1⟩, h1, h2⟩ := Option.map_eq_some_iff.1 (h 0)
  have hd := opsRun_drop h1
  subst hd
  simp only [Prod.mk.injEq] at h2
  obtain ⟨rfl, rfl⟩ := h2
  obtain ⟨a2, h1, h2, _⟩ := opsRun_still (Q := Q) h1 hi hf hM (fun _ _ _ h => h) ho
  exact h1 (k a2 (h2.prune live))

/-- A run that reads, writes known blocks and makes new ones: the new ones are B, B + 1 .. -/
theorem sr (hf : Fr n env a) (hM : MemOk M w) (live : List Nat) (is : List Ins) {env' : Nat → Env} {M' : Nat → Mem} {ob : Nat → List Prop}
    (h : ∀ B, (opsRun P (fun a v => w.cell? a = some v) ops n is l ⟨env, B, M, false, []⟩).map (fun r => (prune r.2.env live, r.2.M, r.2.ob)) = some (env' B, M' B, ob B)) (ho : ∀ B, AllP (ob B))
    (k : ∀ a w' B, Fr n (env' B) a → MemOk (M' B) w' → w.heap.size = B → Keep (Is M.names) w w' → wpList P ops Q (l.drop is.length) a w') : wpList P ops Q l a w := by
  obtain ⟨⟨l1, s1⟩, h1, h2⟩ := Option.map_eq_some_iff.1 (h w.heap.size)
  have hd := opsRun_drop h1
  subst hd
  simp only [Prod.mk.injEq] at h2
  obtain ⟨h3, h4, h5⟩ := h2
  obtain ⟨_, a2, w2, h6, h7, h8, h9, h10, h11⟩ := opsRun_sound (Q := Q) h1 hf hM rfl (fun _ _ _ h => h) (by rw [h5]; exact ho _)
  exact h6 (k a2 w2 _ (by rw [← h3]; exact h7.prune live) (by rw [← h4]; exact h8) rfl h10)

/-! ### The one order of a drawn region -/

theorem opStep_yields {X : Addr → Value → Prop} {C : World → Prop} {o : Oper} {i : Ins} {s s' : St}
    (h : opStep P X ops n o i s = some s') (hi : i.still = true) (hf : Fr n s.env a) (hC : ∀ w, C w → MemOk s.M w ∧ ∀ a v, X a v → w.cell? a = some v) (ho : AllP s'.ob) (hw : C w) :
    s'.M = s.M ∧ ∃ v, YieldsC P ops C o v a ∧ Fr n s'.env (a.put o.dst v) := by
  unfold opStep at h
  split at h
  · rename_i hg _
    split at h
    · rename_i c x y hop
      split at h
      · rename_i v ob hp
        split at h
        rename_i v' ob' hh
        obtain ⟨env, he, rfl⟩ := Option.map_eq_some_iff.1 h
        rw [AllP_append, AllP_append] at ho
        have hv := hinted_sound hh ho.2
        subst hv
        exact ⟨rfl, v, .inl ⟨wanted_none hg, fun w _ => ⟨_, .inl rfl, pickVal_sound hf hp ho.1.2 hop w⟩⟩, put_sound hf he (fun b s hb => hb)⟩
      · cases h
    · split at h
      · rename_i ob r hn hl hv
        split at h
        rename_i v' ob' hh
        obtain ⟨env, he, rfl⟩ := Option.map_eq_some_iff.1 h
        simp only [AllP_append] at ho
        obtain ⟨⟨⟨ho1, ho2⟩, ho3⟩, ho4⟩ := ho
        have hv' := hinted_sound hh ho4
        subst hv'
        refine ⟨(opVal_still hv hi (hC w hw).1 (fun _ => (hC w hw).2)).2.1, r.val, .inl ⟨wanted_none hg, fun w hw => ?_⟩, put_sound hf he (fun b s hb => hb)⟩
        obtain ⟨_, _, _, e4⟩ := opVal_still hv hi (hC w hw).1 (fun _ => (hC w hw).2)
        obtain ⟨nx, hnx, hr⟩ := e4 ho3
        exact ⟨nx, hnx, by rw [execOp_rho hf (c := none) trivial hn hl ho2]; exact hr⟩
      · cases h
  · rename_i j want hg _
    split at h
    · rename_i β hgv
      split at h
      · rename_i c x y hop
        split at h
        · rename_i v ob hp
          split at h
          rename_i v' ob' hh
          obtain ⟨env, he, rfl⟩ := Option.map_eq_some_iff.1 h
          simp only [AllP_append, AllP_cons] at ho
          obtain ⟨ho1, hβ, ho2, ho4⟩ := ho
          have hv' := hinted_sound hh ho4
          subst hv'
          exact ⟨rfl, v, .inl ⟨by rw [wanted_some hf hg hgv, hβ]; simp, fun w _ => ⟨_, .inl rfl, pickVal_sound hf hp ho2 hop w⟩⟩, put_sound hf he (fun b s hb => hb)⟩
        · cases h
      · split at h
        · rename_i ob r hn hl hv
          split at h
          rename_i v' ob' hh
          obtain ⟨env, he, rfl⟩ := Option.map_eq_some_iff.1 h
          simp only [AllP_append, AllP_cons] at ho
          obtain ⟨ho1, hβ, ⟨ho2, ho3⟩, ho4⟩ := ho
          have hv' := hinted_sound hh ho4
          subst hv'
          refine ⟨(opVal_still hv hi (hC w hw).1 (fun _ => (hC w hw).2)).2.1, r.val, .inl ⟨by rw [wanted_some hf hg hgv, hβ]; simp, fun w hw => ?_⟩, put_sound hf he (fun b s hb => hb)⟩
          obtain ⟨_, _, _, e4⟩ := opVal_still hv hi (hC w hw).1 (fun _ => (hC w hw).2)
          obtain ⟨nx, hnx, hr⟩ := e4 ho3
          exact ⟨nx, hnx, by rw [execOp_rho hf (c := none) trivial hn hl ho2]; exact hr⟩
        · cases h
    · cases h
  · rename_i j want hg _
    split at h
    · rename_i β hgv
      obtain ⟨env, he, rfl⟩ := Option.map_eq_some_iff.1 h
      simp only [AllP_append] at ho
      obtain ⟨ho1, hβ⟩ := ho
      have hβ' : β = !want := hβ
      exact ⟨rfl, undef, .inr ⟨by rw [wanted_some hf hg hgv, hβ']; cases want <;> rfl, rfl⟩, put_sound hf he (fun b s hb => hb)⟩
    · rename_i xs hgv
      obtain ⟨env, he, rfl⟩ := Option.map_eq_some_iff.1 h
      exact ⟨rfl, undef, .inr ⟨wanted_undef hf hg hgv, rfl⟩, put_sound hf he (fun b s hb => hb)⟩
    · cases h
  · rename_i j want hg _
    split at h
    · rename_i β hgv
      split at h
      · rename_i ob r hn hl hv
        split at h
        rename_i v' ob' hh
        obtain ⟨env, he, rfl⟩ := Option.map_eq_some_iff.1 h
        rw [AllP_append] at ho
        obtain ⟨ho1, ho2⟩ := ho
        simp only [Bool.and_eq_true] at hn
        refine ⟨rfl, ?_⟩
        by_cases hβ : β = want
        · have ho3 := allP_imp hβ ho2
          simp only [AllP_append] at ho3
          obtain ⟨⟨ho4, ho5⟩, ho6⟩ := ho3
          have hv' := hinted_sound hh ho6
          subst hv'
          refine ⟨r.val, .inl ⟨by rw [wanted_some hf hg hgv, hβ]; simp, fun w hw => ?_⟩, put_sound hf he (fun b s hb => by simp only [EV.holds, if_pos hβ]; exact hb)⟩
          obtain ⟨_, _, _, e4⟩ := opVal_still hv hn.2 (hC w hw).1 (fun _ => (hC w hw).2)
          obtain ⟨nx, hnx, hr⟩ := e4 ho5
          exact ⟨nx, hnx, by rw [execOp_rho hf (c := some (β, want)) hβ hn.1 hl ho4]; exact hr⟩
        · exact ⟨undef, .inr ⟨by rw [wanted_some hf hg hgv]; simpa using hβ, rfl⟩, put_sound hf he (fun b s hb => by simp only [EV.holds, if_neg hβ]; exact hb)⟩
      · cases h
    · cases h
  · cases h

/-- A run of reading operations in the one order. -/
def canRun (P : Program) (X : Addr → Value → Prop) (ops : Array Oper) (n : Nat) : List Ins → List (Nat × Bool) → St → Option (List (Nat × Bool) × St)
  | [], ord, s => some (ord, s)
  | i :: is, (j, true) :: ord, s =>
    match ops[j]? with
    | some o =>
      match opStep P X ops n o i s with
      | some s' => canRun P X ops n is ord s'
      | none => none
    | none => none
  | _, _, _ => none

theorem canRun_ob {X : Addr → Value → Prop} : ∀ {is : List Ins} {ord ord' : List (Nat × Bool)} {s s' : St}, canRun P X ops n is ord s = some (ord', s') → AllP s'.ob → AllP s.ob
  | [], ord, ord', s, s', h, ho => by
    simp only [canRun, Option.some.injEq, Prod.mk.injEq] at h
    obtain ⟨rfl, rfl⟩ := h
    exact ho
  | i :: is, [], _, _, _, h, _ => by simp [canRun] at h
  | i :: is, (j, false) :: _, _, _, _, h, _ => by simp [canRun] at h
  | i :: is, (j, true) :: ord, ord', s, s', h, ho => by
    simp only [canRun] at h
    split at h
    · rename_i o hoj
      split at h
      · rename_i s1 h1
        refine opsRun_sound.opsRun_ob (P := P) (X := X) (ops := ops) (n := n) (is := [i]) (l := [o]) (l' := []) (s := s) (s' := s1) ?_ (canRun_ob h ho)
        simp [opsRun, h1]
      · cases h
    · cases h

theorem canRun_sound {X : Addr → Value → Prop} {C : World → Prop} (hw : C w) : ∀ {is : List Ins} {ord ord' : List (Nat × Bool)} {s s' : St} {a : Act}, canRun P X ops n is ord s = some (ord', s') → is.all Ins.still = true →
    Fr n s.env a → (∀ w, C w → MemOk s.M w ∧ ∀ a v, X a v → w.cell? a = some v) → AllP s'.ob →
    ∃ a2, Fr n s'.env a2 ∧ (wpCan P ops C K ord' a2 w → wpCan P ops C K ord a w)
  | [], ord, ord', s, s', a, h, _, hf, _, _ => by
    simp only [canRun, Option.some.injEq, Prod.mk.injEq] at h
    obtain ⟨rfl, rfl⟩ := h
    exact ⟨a, hf, id⟩
  | i :: is, [], _, _, _, _, h, _, _, _, _ => by simp [canRun] at h
  | i :: is, (j, false) :: _, _, _, _, _, h, _, _, _, _ => by simp [canRun] at h
  | i :: is, (j, true) :: ord, ord', s, s', a, h, hi, hf, hC, ho => by
    simp only [canRun] at h
    simp only [List.all_cons, Bool.and_eq_true] at hi
    split at h
    · rename_i o hoj
      split at h
      · rename_i s1 h1
        obtain ⟨e1, v, hy, hf1⟩ := opStep_yields h1 hi.1 hf hC (canRun_ob h ho) hw
        obtain ⟨a3, h3, h4⟩ := canRun_sound hw h hi.2 hf1 (by rw [e1]; exact hC) ho
        refine ⟨a3, h3, fun hh oi hoi => ?_⟩
        rw [hoj] at hoi
        obtain rfl : o = oi := by simpa using hoi
        exact ⟨v, hy, h4 hh⟩
      · cases h
    · cases h

theorem canRun_drop {X : Addr → Value → Prop} : ∀ {is : List Ins} {ord ord' : List (Nat × Bool)} {s s' : St}, canRun P X ops n is ord s = some (ord', s') → ord' = ord.drop is.length
  | [], ord, ord', s, s', h => by simp only [canRun, Option.some.injEq, Prod.mk.injEq] at h; simp [h.1]
  | i :: is, [], _, _, _, h => by simp [canRun] at h
  | i :: is, (j, false) :: _, _, _, _, h => by simp [canRun] at h
  | i :: is, (j, true) :: ord, ord', s, s', h => by
    simp only [canRun] at h
    split at h
    · split at h
      · simpa using canRun_drop h
      · cases h
    · cases h

/-- Reading operations of a drawn region. -/
theorem sc0 {C : World → Prop} {ord : List (Nat × Bool)} (hf : Fr n env a) (hw : C w) (hM : ∀ w', C w' → MemOk M w') (live : List Nat) (is : List Ins) {env' : Env} {ob : List Prop}
    (h : (canRun P (fun a v => ∀ w', C w' → w'.cell? a = some v) ops n is ord ⟨env, 0, M, false, []⟩).map (fun r => (prune r.2.env live, r.2.ob)) = some (env', ob)) (hi : is.all Ins.still = true) (ho : AllP ob)
    (k : ∀ a, Fr n env' a → wpCan P ops C K (ord.drop is.length) a w) : wpCan P ops C K ord a w := by
  obtain ⟨⟨l1, s1⟩, h1, h2⟩ := Option.map_eq_some_iff.1 h
  have hd := canRun_drop h1
  subst hd
  simp only [Prod.mk.injEq] at h2
  obtain ⟨rfl, rfl⟩ := h2
  obtain ⟨a2, h3, h4⟩ := canRun_sound (C := C) (K := K) hw h1 hi hf (fun w' hw' => ⟨hM w' hw', fun a v hx => hx w' hw'⟩) ho
  exact h4 (k a2 (h3.prune live))

/-! ### Loops, joins, conversions -/

/-- A loop: the invariant bears the number of rounds that may still come. -/
theorem sxloop {c : Code} (I : Nat → Act → World → Prop) (m : Nat) (h0 : I m a w)
    (round : ∀ (m : Nat) (a : Act) (w : World), I m a w → ∀ L : Act → World → Prop, (∀ m' a' w', m' < m → I m' a' w' → L a' w') → c.wp P (Exit.then L Q) a w) : (Code.loop c).wp P Q a w :=
  wp_loop_ghost I m h0 fun m a w h => round m a w h _ fun m' _ _ hlt hI => ⟨m', hlt, hI⟩

/-- One of so many rounds. -/
theorem sxround {c : Code} {m : Nat} (h : ∀ L : Act → World → Prop, (∀ a w, Code.rounds P c Q m a w → L a w) → c.wp P (Exit.then L Q) a w) : Code.rounds P c Q (m + 1) a w := h _ fun _ _ h => h
/-- The ways through a statement meet again in J. -/
theorem sxjoin {x y : Code} (J : Act → World → Prop) (hx : x.wp P (Exit.then J Q) a w) (hy : ∀ a w, J a w → y.wp P Q a w) : (Code.seq x y).wp P Q a w :=
  wp_seq (wp_mono hx fun e a w h => by cases e <;> first | exact hy _ _ h | exact h)

/-- A word for what holds where the ways meet. -/
theorem kcls (J : Act → World → Prop) : ∃ K : Act → World → Prop, (∀ a w, J a w → K a w) ∧ ∀ a w, K a w → J a w := ⟨J, fun _ _ h => h, fun _ _ h => h⟩
def EV.same : EV → EV → Prop
  | .val v, .val v' => v = v'
  | .gd β want v, .gd β' want' v' => β = β' ∧ want = want' ∧ v = v'
  | .gd β want v, .val v' => (if β = want then v else undef) = v'
  | .val _, .gd _ _ _ => False
/-- The same slots, told in other words. -/
def Env.conv : Env → Env → List Prop
  | (s, e) :: r, (s', e') :: r' => if Nat.beq s s' then EV.same e e' :: Env.conv r r' else [False]
  | [], [] => []
  | _, _ => [False]
theorem EV.holds_same {a : Act} {s : Nat} {e e' : EV} (h : EV.same e e') (hh : e.holds a s) : e'.holds a s := by
  cases e <;> cases e' <;> simp only [EV.same] at h
  · subst h; exact hh
  · subst h; exact hh
  · obtain ⟨rfl, rfl, rfl⟩ := h; exact hh
theorem Fr.conv {env' : Env} (h : Fr n env a) (hc : AllP (Env.conv env env')) : Fr n env' a := by
  refine ⟨h.dfr, h.size, ?_⟩
  suffices H : ∀ (env env' : Env), AllP (Env.conv env env') → ∀ s e', env'.get s = some e' → ∃ e, env.get s = some e ∧ EV.same e e' by
    intro s e' he
    obtain ⟨e, h1, h2⟩ := H _ _ hc s e' he
    exact EV.holds_same h2 (h.at_ s e h1)
  intro env
  induction env with
  | nil =>
    intro env' hc s e' he
    cases env' with
    | nil => simp [Env.get] at he
    | cons x r => simp [Env.conv, AllP] at hc
  | cons x r ih =>
    intro env' hc s e' he
    obtain ⟨t, e⟩ := x
    cases env' with
    | nil => simp [Env.conv, AllP] at hc
    | cons y r' =>
      obtain ⟨t', e2⟩ := y
      simp only [Env.conv] at hc
      split at hc
      · rename_i ht
        obtain rfl : t = t' := Nat.eq_of_beq_eq_true ht
        rw [AllP_cons] at hc
        simp only [Env.get] at he ⊢
        split at he
        · rename_i hts
          obtain rfl : e2 = e' := by simpa using he
          simp only [hts, if_true]
          exact ⟨e, rfl, hc.1⟩
        · rename_i hts
          obtain ⟨e3, h3, h4⟩ := ih r' hc.2 s e' he
          simp only [hts]
          exact ⟨e3, h3, h4⟩
      · simp [AllP] at hc
end
end Go.Px
