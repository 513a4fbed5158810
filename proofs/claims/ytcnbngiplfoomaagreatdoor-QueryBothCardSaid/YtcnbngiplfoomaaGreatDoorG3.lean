/- A part of the proof: texts put together. -/
import Derived.Test.YtcnbngiplfoomaaGreatDoorG2
import Derived.Test.YtcnbngiplfoomaaGreatDoorG1
import Derived.RangeFuncLeaves
import Derived.RangeFuncMany
import Derived.Deep.LoopGhost
namespace Go.Zz
open Go.Px Go.RowKit
set_option linter.unusedVariables false
set_option linter.unusedSimpArgs false
set_option linter.unusedSectionVars false
def sg (σ : List Nat) (c : Nat) : Nat := match nth σ c with
  | some d => d
  | none => 0
def tr (n0 nx : Nat) (σ : List Nat) (c : Nat) : Nat := bif Nat.blt c n0 then sg σ c else nx + (c - n0)
def own1 : Ch → Bool
  | .ro _ _ _ _ => false
  | .fo _ => false
  | _ => true
def hsub1 (f : Nat → Nat) (H : Hp) (c : Nat) : Ch → Prop
  | .ro α e l k => match lk H (f c) with
    | some (.ro α' e' l' k') => Ch.ro α' e' l' k' = .ro α e l k
    | some (.arr α' e' _ l' k') => Ch.ro α' e' l' k' = .ro α e l k
    | _ => False
  | .cells t vs => lk H (f c) = some (.cells t (SV.renL f vs))
  | .hole Ψ vs => lk H (f c) = some (.hole Ψ (SV.renL f vs))
  | .fo Ψ => match lk H (f c) with
    | some (.fo Ψ') => Ψ' = Ψ
    | some (.pr Φ) => Lends Φ Ψ
    | _ => False
  | ch => lk H (f c) = some ch
def hsub (f : Nat → Nat) (H : Hp) : Hp → Prop
  | [] => True
  | (c, ch) :: r => hsub1 f H c ch ∧ hsub f H r
def ownIds (f : Nat → Nat) : Hp → List Nat
  | [] => []
  | (c, ch) :: r => match own1 ch with
    | true => f c :: ownIds f r
    | false => ownIds f r
def roIds (f : Nat → Nat) : Hp → List Nat
  | [] => []
  | (c, ch) :: r => match own1 ch with
    | true => roIds f r
    | false => f c :: roIds f r
def allLt (m : Nat) : List Nat → Bool
  | [] => true
  | x :: r => Nat.blt x m && allLt m r
def apartB : List Nat → List Nat → Bool
  | [], _ => true
  | x :: r, l => !memB l x && apartB r l
def chkCall (S : Spec) (σ : List Nat) (nx : Nat) : Bool := Nat.beq σ.length S.n0 && allLt nx σ && ndB (ownIds (sg σ) S.H) && apartB (roIds (sg σ) S.H) (ownIds (sg σ) S.H)
def ownKeys : Hp → List Nat
  | [] => []
  | (c, ch) :: r => match own1 ch with
    | true => c :: ownKeys r
    | false => ownKeys r
def oldOwn (n0 : Nat) (ks : List Nat) : Hp → Bool
  | [] => true
  | (c, ch) :: r => (!own1 ch || !Nat.blt c n0 || memB ks c) && oldOwn n0 ks r
mutual
def renKR (f : Nat → Nat) : SV → (SV → Prop) → Prop
  | .ptr c o, K => K (.ptr (f c) o)
  | .elt c i sz o, K => K (.elt (f c) i sz o)
  | .sl c n k, K => K (.sl (f c) n k)
  | .sub c lo k0 sz n k, K => K (.sub (f c) lo k0 sz n k)
  | .mp c, K => K (.mp (f c))
  | .fn g caps, K => renLKR f caps fun l => K (.fn g l)
  | .ifc t v, K => renKR f v fun v => K (.ifc t v)
  | .agg l, K => renLKR f l fun l => K (.agg l)
  | .tup l, K => renLKR f l fun l => K (.tup l)
  | .int k n, K => K (.int k n)
  | .tt, K => K .tt
  | .ff, K => K .ff
  | .bl b, K => K (.bl b)
  | .dc p d, K => K (.dc p d)
  | .str s, K => K (.str s)
  | .glob g, K => K (.glob g)
  | .nilp, K => K .nilp
  | .nils, K => K .nils
  | .nilm, K => K .nilm
  | .nilf, K => K .nilf
  | .err g, K => K (.err g)
  | .nili, K => K .nili
  | .raw v, K => K (.raw v)
def renLKR (f : Nat → Nat) : List SV → (List SV → Prop) → Prop
  | [], K => K []
  | x :: r, K => renKR f x fun x => renLKR f r fun r => K (x :: r)
end
def renKRS : { f // f = @renKR } := by delta renKR; exact ⟨_, rfl⟩
def renK := renKRS.val
theorem renK_R : @renK = @renKR := renKRS.2
def renLKRS : { f // f = @renLKR } := by delta renLKR; exact ⟨_, rfl⟩
def renLK := renLKRS.val
theorem renLK_R : @renLK = @renLKR := renLKRS.2
mutual
theorem renK_eq (f : Nat → Nat) : ∀ (v : SV) (K : SV → Prop), renK f v K = K (v.ren f)
  | .fn g l, K => by (simp only [renK_R, renLK_R, renKR, renLKR]; (try simp only [← renK_R, ← renLK_R]); simp only [SV.ren, renLK_eq f l])
  | .agg l, K => by (simp only [renK_R, renLK_R, renKR, renLKR]; (try simp only [← renK_R, ← renLK_R]); simp only [SV.ren, renLK_eq f l])
  | .tup l, K => by (simp only [renK_R, renLK_R, renKR, renLKR]; (try simp only [← renK_R, ← renLK_R]); simp only [SV.ren, renLK_eq f l])
  | .ifc t v, K => by (simp only [renK_R, renLK_R, renKR, renLKR]; (try simp only [← renK_R, ← renLK_R]); simp only [SV.ren, renK_eq f v])
  | .ptr .., K | .elt .., K | .sl .., K | .sub .., K | .mp _, K | .int .., K | .tt, K | .ff, K | .bl _, K | .dc _ _, K | .str _, K | .glob _, K | .nilp, K | .nils, K | .nilm, K | .nilf, K | .err _, K | .nili, K | .raw _, K => by (simp only [renK_R, renLK_R, renKR, renLKR]; (try simp only [← renK_R, ← renLK_R]); simp only [SV.ren])
theorem renLK_eq (f : Nat → Nat) : ∀ (l : List SV) (K : List SV → Prop), renLK f l K = K (SV.renL f l)
  | [], K => by (simp only [renK_R, renLK_R, renKR, renLKR]; (try simp only [← renK_R, ← renLK_R]); simp only [SV.renL])
  | x :: r, K => by (simp only [renK_R, renLK_R, renKR, renLKR]; (try simp only [← renK_R, ← renLK_R]); simp only [SV.renL, renK_eq f x, renLK_eq f r])
end
def Ch.ren (f : Nat → Nat) : Ch → Ch
  | .cells t vs => .cells t (SV.renL f vs)
  | .hole Ψ vs => .hole Ψ (SV.renL f vs)
  | ch => ch
def Ch.renK (f : Nat → Nat) (ch : Ch) (K : Ch → Prop) : Prop := match ch with
  | .cells t vs => renLK f vs fun l => K (.cells t l)
  | .hole Ψ vs => renLK f vs fun l => K (.hole Ψ l)
  | ch => K ch
theorem Ch.renK_eq (f : Nat → Nat) (ch : Ch) (K : Ch → Prop) : ch.renK f K = K (ch.ren f) := by cases ch <;> simp only [Ch.renK, Ch.ren, renLK_eq]
def addH (f : Nat → Nat) : Hp → Hp → Hp
  | [], H => H
  | (c, ch) :: r, H => match own1 ch with
    | true => (f c, ch.ren f) :: addH f r H
    | false => addH f r H
def addKR (f : Nat → Nat) : Hp → Hp → (Hp → Prop) → Prop
  | [], H, K => K H
  | (c, ch) :: r, H, K => match own1 ch with
    | true => ch.renK f fun ch => addKR f r H fun H => K ((f c, ch) :: H)
    | false => addKR f r H K
def addKRS : { f // f = @addKR } := by delta addKR; exact ⟨_, rfl⟩
def addK := addKRS.val
theorem addK_R : @addK = @addKR := addKRS.2
theorem addK_eq (f : Nat → Nat) : ∀ (T H : Hp) (K : Hp → Prop), addK f T H K = K (addH f T H)
  | [], H, K => rfl
  | (c, ch) :: r, H, K => by
    (simp only [addK_R, addKR]; (try simp only [← addK_R]); simp only [addH])
    cases own1 ch
    · simp only [addK_eq f r]
    · simp only [addK_eq f r, Ch.renK_eq]
def delAllKR : Hp → List Nat → (Hp → Prop) → Prop
  | H, [], K => K H
  | H, c :: r, K => delK H c fun H => delAllKR H r K
def delAllKRS : { f // f = @delAllKR } := by delta delAllKR; exact ⟨_, rfl⟩
def delAllK := delAllKRS.val
theorem delAllK_R : @delAllK = @delAllKR := delAllKRS.2
def delAll : Hp → List Nat → Hp
  | H, [] => H
  | H, c :: r => delAll (delH H c) r
theorem delAllK_eq : ∀ (l : List Nat) (H : Hp) (K : Hp → Prop), delAllK H l K = K (delAll H l)
  | [], H, K => rfl
  | c :: r, H, K => by (simp only [delAllK_R, delAllKR]; (try simp only [← delAllK_R]); simp only [delAll, delK_eq, delAllK_eq r])
theorem lk_delAll : ∀ (l : List Nat) (H : Hp) (d : Nat), lk (delAll H l) d = if d ∈ l then none else lk H d
  | [], H, d => by simp [delAll]
  | c :: r, H, d => by
    simp only [delAll, lk_delAll r, lk_del, List.mem_cons]
    by_cases h1 : d ∈ r
    · simp [h1]
    · by_cases h2 : d = c
      · simp [h2]
      · simp [h1, h2]
def goCall (S : Spec) (σ : List Nat) (nx : Nat) (H : Hp) (K : SV → Nat → Hp → Prop) (x : S.X) : Prop :=
  bif oldOwn S.n0 (ownKeys S.H) (S.post x) && ndB (keys (S.post x)) then renK (tr S.n0 nx σ) (S.ret x) fun v => delAllK H (ownIds (sg σ) S.H) fun H => addK (tr S.n0 nx σ) (S.post x) H fun H => litK (nx + (S.n1 - S.n0)) fun n' => K v n' H
  else Stuck "what the callee leaves" (.ready 0)
theorem lk_addH {f : Nat → Nat} : ∀ {T H : Hp} {d : Nat} {ch : Ch}, lk (addH f T H) d = some ch → (∃ c ch0, (c, ch0) ∈ T ∧ own1 ch0 = true ∧ f c = d ∧ ch = ch0.ren f) ∨ ((∀ c ch0, (c, ch0) ∈ T → own1 ch0 = true → f c ≠ d) ∧ lk H d = some ch)
  | [], H, d, ch, h => .inr ⟨fun c ch0 h => by simp at h, h⟩
  | (c, ch1) :: r, H, d, ch, h => by
    simp only [addH] at h
    cases ho : own1 ch1 with
    | true =>
      rw [ho] at h
      simp only [lk_cons] at h
      split at h
      · rename_i e
        obtain rfl := Option.some.inj h
        exact .inl ⟨c, ch1, List.mem_cons_self .., ho, e.symm, rfl⟩
      · rename_i e
        rcases lk_addH h with ⟨c', ch0, h1, h2, h3, h4⟩ | ⟨h1, h2⟩
        · exact .inl ⟨c', ch0, List.mem_cons_of_mem _ h1, h2, h3, h4⟩
        · refine .inr ⟨fun c' ch0 hm hw => ?_, h2⟩
          rcases List.mem_cons.1 hm with hm | hm
          · simp only [Prod.mk.injEq] at hm
            obtain ⟨rfl, rfl⟩ := hm
            exact fun e2 => e e2.symm
          · exact h1 c' ch0 hm hw
    | false =>
      rw [ho] at h
      rcases lk_addH h with ⟨c', ch0, h1, h2, h3, h4⟩ | ⟨h1, h2⟩
      · exact .inl ⟨c', ch0, List.mem_cons_of_mem _ h1, h2, h3, h4⟩
      · refine .inr ⟨fun c' ch0 hm hw => ?_, h2⟩
        rcases List.mem_cons.1 hm with hm | hm
        · simp only [Prod.mk.injEq] at hm
          obtain ⟨rfl, rfl⟩ := hm
          rw [ho] at hw; cases hw
        · exact h1 c' ch0 hm hw
theorem keys_mem {T : Hp} {c : Nat} {ch : Ch} (h : (c, ch) ∈ T) : c ∈ keys T := by
  induction T with
  | nil => simp at h
  | cons x r ih =>
    obtain ⟨s, e⟩ := x
    simp only [keys, List.mem_cons]
    rcases List.mem_cons.1 h with h | h
    · simp only [Prod.mk.injEq] at h; exact .inl h.1
    · exact .inr (ih h)
theorem lk_of_mem : ∀ {T : Hp} {c : Nat} {ch : Ch}, (keys T).Nodup → (c, ch) ∈ T → lk T c = some ch
  | [], c, ch, _, h => by simp at h
  | (s, e) :: r, c, ch, hn, h => by
    simp only [keys, List.nodup_cons] at hn
    rw [lk_cons]
    rcases List.mem_cons.1 h with h | h
    · simp only [Prod.mk.injEq] at h
      obtain ⟨rfl, rfl⟩ := h
      simp
    · have hne : c ≠ s := fun e => hn.1 (e ▸ keys_mem h)
      rw [if_neg hne]
      exact lk_of_mem hn.2 h
theorem ownIds_mem {f : Nat → Nat} : ∀ {T : Hp} {d : Nat}, d ∈ ownIds f T ↔ ∃ c ch, (c, ch) ∈ T ∧ own1 ch = true ∧ f c = d
  | [], d => by simp [ownIds]
  | (c, ch) :: r, d => by
    simp only [ownIds]
    cases ho : own1 ch with
    | true =>
      simp only [List.mem_cons, ownIds_mem (T := r)]
      constructor
      · rintro (rfl | ⟨c', ch', h1, h2, h3⟩)
        · exact ⟨c, ch, .inl rfl, ho, rfl⟩
        · exact ⟨c', ch', .inr h1, h2, h3⟩
      · rintro ⟨c', ch', h1 | h1, h2, h3⟩
        · simp only [Prod.mk.injEq] at h1; left; rw [← h3, h1.1]
        · exact .inr ⟨c', ch', h1, h2, h3⟩
    | false =>
      simp only [ownIds_mem (T := r), List.mem_cons]
      constructor
      · rintro ⟨c', ch', h1, h2, h3⟩; exact ⟨c', ch', .inr h1, h2, h3⟩
      · rintro ⟨c', ch', h1 | h1, h2, h3⟩
        · simp only [Prod.mk.injEq] at h1; rw [h1.2, ho] at h2; cases h2
        · exact ⟨c', ch', h1, h2, h3⟩
theorem roIds_mem {f : Nat → Nat} : ∀ {T : Hp} {c : Nat} {ch : Ch}, (c, ch) ∈ T → own1 ch = false → f c ∈ roIds f T
  | [], c, ch, h, _ => by simp at h
  | (s, e) :: r, c, ch, h, ho => by
    simp only [roIds]
    rcases List.mem_cons.1 h with h | h
    · simp only [Prod.mk.injEq] at h
      obtain ⟨rfl, rfl⟩ := h
      rw [ho]; simp
    · cases own1 e
      · exact List.mem_cons_of_mem _ (roIds_mem h ho)
      · exact roIds_mem h ho
theorem apartB_ok : ∀ {l m : List Nat}, apartB l m = true → ∀ x ∈ l, x ∉ m
  | [], m, _, x, hx => by simp at hx
  | y :: r, m, h, x, hx => by
    simp only [apartB, Bool.and_eq_true, Bool.not_eq_true'] at h
    rcases List.mem_cons.1 hx with rfl | hx
    · intro hm; rw [memB_iff.2 hm] at h; cases h.1
    · exact apartB_ok h.2 x hx
theorem allLt_ok : ∀ {l : List Nat} {m : Nat}, allLt m l = true → ∀ x ∈ l, x < m
  | [], m, _, x, hx => by simp at hx
  | y :: r, m, h, x, hx => by
    simp only [allLt, Bool.and_eq_true] at h
    rcases List.mem_cons.1 hx with rfl | hx
    · simpa [Nat.blt_eq] using h.1
    · exact allLt_ok h.2 x hx
theorem hsub_mem {f : Nat → Nat} {H : Hp} : ∀ {T : Hp} {c : Nat} {ch : Ch}, hsub f H T → (c, ch) ∈ T → hsub1 f H c ch
  | [], c, ch, _, h => by simp at h
  | (s, e) :: r, c, ch, hs, h => by
    rcases List.mem_cons.1 h with h | h
    · simp only [Prod.mk.injEq] at h
      obtain ⟨rfl, rfl⟩ := h
      exact hs.1
    · exact hsub_mem hs.2 h
theorem own_inj {f : Nat → Nat} : ∀ {T : Hp} {c c' : Nat} {ch ch' : Ch}, (ownIds f T).Nodup → (c, ch) ∈ T → (c', ch') ∈ T → own1 ch = true → own1 ch' = true → f c = f c' → c ≠ c' → False
  | [], c, c', ch, ch', _, h, _, _, _, _, _ => by simp at h
  | (s, e) :: r, c, c', ch, ch', hn, h, h', ho, ho', he, hne => by
    have hn' : (ownIds f r).Nodup := by
      simp only [ownIds] at hn
      split at hn
      · exact (List.nodup_cons.1 hn).2
      · exact hn
    rcases List.mem_cons.1 h with q | q <;> rcases List.mem_cons.1 h' with q' | q'
    · simp only [Prod.mk.injEq] at q q'
      exact hne (q.1.trans q'.1.symm)
    · simp only [Prod.mk.injEq] at q
      obtain ⟨rfl, rfl⟩ := q
      simp only [ownIds, ho, List.nodup_cons] at hn
      exact hn.1 (ownIds_mem.2 ⟨c', ch', q', ho', he.symm⟩)
    · simp only [Prod.mk.injEq] at q'
      obtain ⟨rfl, rfl⟩ := q'
      simp only [ownIds, ho', List.nodup_cons] at hn
      exact hn.1 (ownIds_mem.2 ⟨c, ch, q, ho, he⟩)
    · exact own_inj hn' q q' ho ho' he hne
section
variable {Γ : Ctx} {En : Ent} {V V' : Val} {nx n0 : Nat} {H : Hp} {w w' : World}
noncomputable def Val.sub (V : Val) (f : Nat → Nat) (T : Hp) : Val := ⟨fun c => V.ρ (f c), fun c i => (∃ ch, lk T c = some ch ∧ own1 ch = true) ∧ V.β (f c) i⟩
theorem hsub1_here {f : Nat → Nat} {c : Nat} {ch : Ch} (h : hsub1 f H c ch) : (lk H (f c)).isSome = true := by
  cases ch with
  | cells t vs => have : lk H (f c) = some (.cells t (SV.renL f vs)) := h; rw [this]; rfl
  | hole Ψ vs => have : lk H (f c) = some (.hole Ψ (SV.renL f vs)) := h; rw [this]; rfl
  | ro α e l k =>
    have h : (match lk H (f c) with | some (.ro α' e' l' k') => Ch.ro α' e' l' k' = .ro α e l k | some (.arr α' e' _ l' k') => Ch.ro α' e' l' k' = .ro α e l k | _ => False) := h
    split at h
    · rename_i h2; rw [h2]; rfl
    · rename_i h2; rw [h2]; rfl
    · exact h.elim
  | arr α e t l k => have : lk H (f c) = some (.arr α e t l k) := h; rw [this]; rfl
  | pr Ψ => have : lk H (f c) = some (.pr Ψ) := h; rw [this]; rfl
  | fo Ψ =>
    have h : (match lk H (f c) with | some (.fo Ψ') => Ψ' = Ψ | some (.pr Φ) => Lends Φ Ψ | _ => False) := h
    split at h
    · rename_i h2; rw [h2]; rfl
    · rename_i h2; rw [h2]; rfl
    · exact h.elim
theorem HpOk.sub (h : HpOk Γ En V nx H w) {f : Nat → Nat} {T : Hp} (hs : hsub f H T) (hB : HB n0 T) (hnd : (ownIds f T).Nodup) (hap : ∀ x ∈ roIds f T, x ∉ ownIds f T) :
    HpOk Γ (entOf (V.sub f T) w T n0) (V.sub f T) n0 T w := by
  have here : ∀ c ch, lk T c = some ch → hsub1 f H c ch := fun c ch hc => hsub_mem hs (lk_mem hc)
  have hF0 : ∀ i, (entOf (V.sub f T) w T n0).F0 i → ∃ d, d ∈ ownIds f T ∧ (lk H d).isSome = true ∧ V.β d i := fun i ⟨c, hc, ⟨ch, hch, ho⟩, hb⟩ =>
    ⟨f c, ownIds_mem.2 ⟨c, ch, lk_mem hch, ho, rfl⟩, hsub1_here (here c ch hch), hb⟩
  have hfoot : ∀ i, (entOf (V.sub f T) w T n0).F0 i → En.F0 i ∨ En.w0.heap.size ≤ i := fun i hi => by
    obtain ⟨d, _, h1, h2⟩ := hF0 i hi
    exact (h.foot d h1 i h2).1
  have hβ : ∀ c ch, lk T c = some ch → own1 ch = true → (V.sub f T).β c = V.β (f c) := fun c ch hc ho => by
    funext i; simp only [Val.sub]; exact propext ⟨fun h => h.2, fun h => ⟨⟨ch, hc, ho⟩, h⟩⟩
  refine ⟨⟨fun c ch hc => ?_, Keep.refl _ _, h.hr.errsNow, fun g hg => ⟨fun hf => ?_, fun hf => ?_⟩⟩, hB, fun c c' hc hc' hne i h1 h2 => ?_, fun c hc i hi => ⟨.inl ⟨c, hc, hi⟩, ?_⟩⟩
  · have hh := here c ch hc
    cases ch with
    | cells t vs =>
      have hk : lk H (f c) = some (.cells t (SV.renL f vs)) := hh
      obtain ⟨g, q1, q2, q3, q4⟩ := h.hr.ok _ _ hk
      rw [denL_ren] at q3 q4
      exact ⟨g, q1, by rw [hβ c _ hc rfl]; exact q2, q3, q4⟩
    | arr α e t l k =>
      have hk : lk H (f c) = some (.arr α e t l k) := hh
      have := h.hr.ok _ _ hk
      simp only [Ch.ok, hβ c _ hc rfl] at this ⊢
      exact this
    | pr Ψ =>
      have hk : lk H (f c) = some (.pr Ψ) := hh
      have := h.hr.ok _ _ hk
      simp only [Ch.ok, hβ c _ hc rfl] at this ⊢
      exact this
    | hole Ψ vs =>
      have hk : lk H (f c) = some (.hole Ψ (SV.renL f vs)) := hh
      have := h.hr.ok _ _ hk
      simp only [Ch.ok, hβ c _ hc rfl, denL_ren] at this ⊢
      exact this
    | fo Ψ =>
      have hnb : ∀ i, ¬ (V.sub f T).β c i := fun i hi => by
        obtain ⟨⟨ch, h1, h2⟩, _⟩ := hi
        rw [hc] at h1
        obtain rfl := Option.some.inj h1
        cases h2
      have hro : f c ∉ ownIds f T := hap _ (roIds_mem (lk_mem hc) rfl)
      have hh : (match lk H (f c) with | some (.fo Ψ') => Ψ' = Ψ | some (.pr Φ) => Lends Φ Ψ | _ => False) := hh
      split at hh
      · rename_i Ψ' hk
        subst hh
        exact ⟨Ψ'.carry (h.hr.ok _ _ hk).1 h.hr.keep hfoot, hnb⟩
      · rename_i Φ hk
        refine ⟨hh _ _ _ _ (h.hr.ok _ _ hk) fun i hb hf => ?_, hnb⟩
        obtain ⟨d, h1, h2, h3⟩ := hF0 _ hf
        exact h.apart (f c) d (by rw [hk]; rfl) h2 (fun e => hro (e ▸ h1)) _ hb h3
      · exact hh.elim
    | ro α e l k =>
      have hnb : ∀ i, ¬ (V.sub f T).β c i := fun i hi => by
        obtain ⟨⟨ch, h1, h2⟩, _⟩ := hi
        rw [hc] at h1
        obtain rfl := Option.some.inj h1
        cases h2
      have hro : f c ∉ ownIds f T := hap _ (roIds_mem (lk_mem hc) rfl)
      have hh : (match lk H (f c) with | some (.ro α' e' l' k') => Ch.ro α' e' l' k' = .ro α e l k | some (.arr α' e' _ l' k') => Ch.ro α' e' l' k' = .ro α e l k | _ => False) := hh
      split at hh
      · rename_i hk
        rw [hh] at hk
        have hok := h.hr.ok _ _ hk
        have hnow := Ch.ro_now hok h.hr.keep
        refine ⟨hnow, hnb, fun hl A hA => ⟨fun hf => ?_, Nat.lt_of_lt_of_le (hok.2.2 hl A hA).2 h.hr.keep.size⟩⟩
        obtain ⟨q1, q2⟩ := hok.2.2 hl A hA
        rcases hfoot _ hf with h3 | h3
        · exact q1 h3
        · omega
      · rename_i α' e' t l' k' hk
        have hok := h.hr.ok _ _ hk
        simp only [Ch.ro.injEq] at hh
        obtain ⟨rfl, he, hl, rfl⟩ := hh
        obtain rfl := eq_of_heq he
        obtain rfl := eq_of_heq hl
        have hnow := Ch.arr_now hok
        refine ⟨hnow, hnb, fun hl A hA => ?_⟩
        have hb : V.β (f c) A.block := (hok.2 _).2 (by have : V.ρ (f c) = some A := hA; rw [this]; rfl)
        refine ⟨fun hf => ?_, (h.foot _ (by rw [hk]; rfl) _ hb).2⟩
        obtain ⟨d, h1, h2, h3⟩ := hF0 _ hf
        exact h.apart (f c) d (by rw [hk]; rfl) h2 (fun e => hro (e ▸ h1)) _ hb h3
      · exact hh.elim
  · have hlt : g < En.w0.heap.size := by
      have := h.hr.errs.cell g hg
      rcases Nat.lt_or_ge g En.w0.heap.size with h1 | h1
      · exact h1
      · simp [World.cell?, Array.getElem?_eq_none h1] at this
    rcases hfoot _ hf with h3 | h3
    · exact (h.hr.eF g hg).1 h3
    · omega
  · obtain ⟨cc, u, hcc⟩ := h.hr.errs.blk g hg
    have hlt := (Array.getElem?_eq_some_iff.1 hcc).1
    rcases hfoot _ hf with h3 | h3
    · exact (h.hr.eF g hg).2 h3
    · omega
  · obtain ⟨⟨ch, q1, q2⟩, q3⟩ := h1
    obtain ⟨⟨ch', p1, p2⟩, p3⟩ := h2
    refine h.apart (f c) (f c') (hsub1_here (here c ch q1)) (hsub1_here (here c' ch' p1)) (fun e => own_inj hnd (lk_mem q1) (lk_mem p1) q2 p2 e hne) i q3 p3
  · obtain ⟨⟨ch, q1, q2⟩, q3⟩ := hi
    exact (h.foot (f c) (hsub1_here (here c ch q1)) i q3).2
theorem call_rule {f : FuncId} {args : List SV} {S : Spec} {K : SV → Nat → Hp → Prop} (hf : Does Γ f S) (σ : List Nat) (ha : args = SV.renL (sg σ) S.args) (hs : hsub (sg σ) H S.H) (hck : chkCall S σ nx = true)
    (k : ∀ x, S.cond x → goCall S σ nx H K x) : CallGoal Γ f args nx H K := by
  obtain ⟨hn01, hbd, hB, hf⟩ := hf
  simp only [chkCall, Bool.and_eq_true] at hck
  obtain ⟨⟨⟨hlen, hlt⟩, hnd⟩, hap⟩ := hck
  have hlen := beqT hlen
  have hlt := allLt_ok hlt
  have hnd := ndB_nd hnd
  have hap := apartB_ok hap
  have hsg : ∀ c, c < S.n0 → sg σ c < nx := fun c hc => by
    have h1 : c < σ.length := by omega
    unfold sg
    rw [nth_eq, List.getElem?_eq_getElem h1]
    exact hlt _ (List.getElem_mem h1)
  refine ⟨fun En V w hp hn0 hba => ?_⟩
  have hsub := hp.sub (n0 := S.n0) hs hB hnd hap
  obtain ⟨R, hR, hback⟩ := hf _ w hsub
  have hden : SV.denL Γ.Δ V.ρ args = SV.denL Γ.Δ (V.sub (sg σ) S.H).ρ S.args := by rw [ha, denL_ren]; rfl
  refine ⟨R, by rw [hden]; exact hR, fun v w' hr => ?_⟩
  obtain ⟨x, V', hc, hv, hrb, hold, hp'⟩ := hback v w' hr
  have hk := k x hc
  unfold goCall at hk
  cases hq : oldOwn S.n0 (ownKeys S.H) (S.post x) && ndB (keys (S.post x)) with
  | false => rw [hq] at hk; exact hk.no.elim
  | true =>
    rw [hq] at hk
    simp only [cond_true, renK_eq, delAllK_eq, addK_eq, litK_eq] at hk
    simp only [Bool.and_eq_true] at hq
    obtain ⟨hold2, hkd⟩ := hq
    have hkd := ndB_nd hkd
    have htlt : ∀ c, c < S.n0 → tr S.n0 nx σ c = sg σ c := fun c hc => by
      have : Nat.blt c S.n0 = true := by simpa [Nat.blt_eq] using hc
      simp only [tr, this, cond_true]
    have htge : ∀ c, ¬ c < S.n0 → tr S.n0 nx σ c = nx + (c - S.n0) := fun c hc => by
      have : Nat.blt c S.n0 = false := by
        cases h2 : Nat.blt c S.n0 with
        | true => exact absurd (by simpa [Nat.blt_eq] using h2) hc
        | false => rfl
      simp only [tr, this, cond_false]
    have hoo : ∀ c ch, (c, ch) ∈ S.post x → own1 ch = true → c < S.n0 → ∃ ch', (c, ch') ∈ S.H ∧ own1 ch' = true := fun c ch hm ho hc => by
      have key : ∀ T : Hp, oldOwn S.n0 (ownKeys S.H) T = true → (c, ch) ∈ T → memB (ownKeys S.H) c = true := fun T => by
        induction T with
        | nil => intro _ hm; simp at hm
        | cons y r ih =>
          obtain ⟨s, e⟩ := y
          intro hT hm
          simp only [oldOwn, Bool.and_eq_true] at hT
          rcases List.mem_cons.1 hm with q | q
          · simp only [Prod.mk.injEq] at q
            obtain ⟨rfl, rfl⟩ := q
            have : Nat.blt c S.n0 = true := by simpa [Nat.blt_eq] using hc
            simpa [ho, this] using hT.1
          · exact ih hT.2 q
      have h1 := memB_iff.1 (key _ hold2 hm)
      have key2 : ∀ T : Hp, c ∈ ownKeys T → ∃ ch', (c, ch') ∈ T ∧ own1 ch' = true := fun T => by
        induction T with
        | nil => intro h; simp [ownKeys] at h
        | cons y r ih =>
          obtain ⟨s, e⟩ := y
          intro h
          simp only [ownKeys] at h
          cases ho : own1 e with
          | true =>
            rw [ho] at h
            rcases List.mem_cons.1 h with rfl | h
            · exact ⟨e, List.mem_cons_self .., ho⟩
            · obtain ⟨ch', h1, h2⟩ := ih h; exact ⟨ch', List.mem_cons_of_mem _ h1, h2⟩
          | false =>
            rw [ho] at h
            obtain ⟨ch', h1, h2⟩ := ih h; exact ⟨ch', List.mem_cons_of_mem _ h1, h2⟩
      exact key2 _ h1
    have hinj : ∀ c c' ch ch', (c, ch) ∈ S.post x → (c', ch') ∈ S.post x → own1 ch = true → own1 ch' = true → tr S.n0 nx σ c = tr S.n0 nx σ c' → c = c' := fun c c' ch ch' hm hm' ho ho' he => by
      by_cases hc : c < S.n0
      · by_cases hc' : c' < S.n0
        · rw [htlt c hc, htlt c' hc'] at he
          obtain ⟨d, h1, h2⟩ := hoo c ch hm ho hc
          obtain ⟨d', h1', h2'⟩ := hoo c' ch' hm' ho' hc'
          exact Classical.byContradiction fun hne => own_inj hnd h1 h1' h2 h2' he hne
        · rw [htlt c hc, htge c' hc'] at he
          have := hsg c hc; omega
      · by_cases hc' : c' < S.n0
        · rw [htge c hc, htlt c' hc'] at he
          have := hsg c' hc'; omega
        · rw [htge c hc, htge c' hc'] at he; omega
    let OP : Nat → Prop := fun d => ∃ c ch, (c, ch) ∈ S.post x ∧ own1 ch = true ∧ tr S.n0 nx σ c = d
    let W : Val := ⟨fun d => if d < nx then V.ρ d else V'.ρ (S.n0 + (d - nx)), fun d i => (OP d ∧ ∃ c ch, (c, ch) ∈ S.post x ∧ own1 ch = true ∧ tr S.n0 nx σ c = d ∧ V'.β c i) ∨ (¬ OP d ∧ V.β d i)⟩
    have hWρ : ∀ c, c < S.n1 → W.ρ (tr S.n0 nx σ c) = V'.ρ c := fun c hc => by
      by_cases hc0 : c < S.n0
      · rw [htlt c hc0, hold c hc0]
        show (if sg σ c < nx then V.ρ (sg σ c) else _) = _
        rw [if_pos (hsg c hc0)]; rfl
      · rw [htge c hc0]
        show (if nx + (c - S.n0) < nx then _ else V'.ρ (S.n0 + (nx + (c - S.n0) - nx))) = _
        rw [if_neg (by omega), show S.n0 + (nx + (c - S.n0) - nx) = c by omega]
    have hWβ : ∀ c ch, (c, ch) ∈ S.post x → own1 ch = true → W.β (tr S.n0 nx σ c) = V'.β c := fun c ch hm ho => by
      funext i
      refine propext ⟨fun h => ?_, fun h => .inl ⟨⟨c, ch, hm, ho, rfl⟩, c, ch, hm, ho, rfl, h⟩⟩
      rcases h with ⟨_, c', ch', hm', ho', he, hb⟩ | ⟨hn, _⟩
      · obtain rfl := hinj c' c ch' ch hm' hm ho' ho he
        exact hb
      · exact absurd ⟨c, ch, hm, ho, rfl⟩ hn
    have hWβ0 : ∀ d, ¬ OP d → W.β d = V.β d := fun d hn => by
      funext i
      exact propext ⟨fun h => by rcases h with ⟨h1, _⟩ | ⟨_, h2⟩; exact absurd h1 hn; exact h2, fun h => .inr ⟨hn, h⟩⟩
    have hbnd : ∀ c, c < S.n1 → tr S.n0 nx σ c < nx + (S.n1 - S.n0) := fun c hc => by
      by_cases hc0 : c < S.n0
      · rw [htlt c hc0]; have := hsg c hc0; omega
      · rw [htge c hc0]; omega
    refine ⟨W, (S.ret x).ren (tr S.n0 nx σ), nx + (S.n1 - S.n0), _, ?_, Nat.le_add_right _ _, fun d hd => if_pos hd, bd_ren hbnd _ hrb, ?_, hk⟩
    · rw [hv, den_ren]
      exact (den_congr (fun c hc => hWρ c hc) _ hrb).symm
    · have hown : ∀ c ch, lk S.H c = some ch → own1 ch = true → sg σ c ∈ ownIds (sg σ) S.H := fun c ch hc ho => ownIds_mem.2 ⟨c, ch, lk_mem hc, ho, rfl⟩
      refine hp.step (F := (entOf (V.sub (sg σ) S.H) w S.H S.n0).F0) (fun d => d ∈ ownIds (sg σ) S.H) OP hp'.hr.keep (fun i _ hf => ?_) (Nat.le_add_right _ _) (fun d hd => if_pos hd) (fun d ch hd hn => ?_) (fun d ch hd hn => ?_) (fun d d' hn hn' _ _ hne i h1 h2 => ?_)
      · obtain ⟨c, _, ⟨ch, hch, ho⟩, hb⟩ := hf
        exact ⟨sg σ c, hown c ch hch ho, hsub1_here (hsub_mem hs (lk_mem hch)), hb⟩
      · rcases lk_addH hd with ⟨c, ch0, h1, h2, h3, h4⟩ | ⟨h1, h2⟩
        · exact absurd ⟨c, ch0, h1, h2, h3⟩ hn
        · rw [lk_delAll] at h2
          split at h2
          · cases h2
          · rename_i h3; exact ⟨h3, h2, hWβ0 d hn⟩
      · rcases lk_addH hd with ⟨c, ch0, h1, h2, h3, rfl⟩ | ⟨h1, h2⟩
        · subst h3
          have hlk := lk_of_mem hkd h1
          obtain ⟨hcn, hcb⟩ := hp'.hb c ch0 hlk
          have hok := hp'.hr.ok c ch0 hlk
          refine ⟨?_, ?_, hbnd c hcn, fun i hi => ?_⟩
          · cases ch0 with
            | cells t vs =>
              obtain ⟨g, q1, q2, q3, q4⟩ := hok
              have e : SV.denL Γ.Δ W.ρ (SV.renL (tr S.n0 nx σ) vs) = SV.denL Γ.Δ V'.ρ vs := by rw [denL_ren]; exact denL_congr (fun c hc => hWρ c hc) vs hcb
              exact ⟨g, (hWρ c hcn).trans q1, by rw [hWβ c _ h1 h2]; exact q2, by rw [e]; exact q3, by rw [e]; exact q4⟩
            | arr α e t l kk => simp only [Ch.ren, Ch.ok, hWρ c hcn, hWβ c _ h1 h2] at hok ⊢; exact hok
            | ro α e l kk => cases h2
            | fo Ψ => cases h2
            | pr Ψ => simp only [Ch.ren, Ch.ok, hWρ c hcn, hWβ c _ h1 h2] at hok ⊢; exact hok
            | hole Ψ vs =>
              have e : SV.denL Γ.Δ W.ρ (SV.renL (tr S.n0 nx σ) vs) = SV.denL Γ.Δ V'.ρ vs := by rw [denL_ren]; exact denL_congr (fun c hc => hWρ c hc) vs hcb
              simp only [Ch.ren, Ch.ok, hWρ c hcn, hWβ c _ h1 h2, e] at hok ⊢; exact hok
          · cases ch0 with
            | cells t vs => exact bdL_ren hbnd vs hcb
            | hole Ψ vs => exact bdL_ren hbnd vs hcb
            | _ => trivial
          · rw [hWβ c ch0 h1 h2] at hi
            rcases (hp'.foot c (by rw [hlk]; rfl) i hi).1 with ⟨c', _, ⟨ch', hch, ho⟩, hb⟩ | h5
            · exact .inl ⟨sg σ c', hown c' ch' hch ho, hsub1_here (hsub_mem hs (lk_mem hch)), hb⟩
            · exact .inr h5
        · obtain ⟨c, ch0, h3, h4, h5⟩ := hn
          exact absurd h5 (h1 c ch0 h3 h4)
      · obtain ⟨c, ch, q1, q2, rfl⟩ := hn
        obtain ⟨c', ch', p1, p2, rfl⟩ := hn'
        rw [hWβ c ch q1 q2] at h1
        rw [hWβ c' ch' p1 p2] at h2
        exact hp'.apart c c' (by rw [lk_of_mem hkd q1]; rfl) (by rw [lk_of_mem hkd p1]; rfl) (fun e => hne (by rw [e])) i h1 h2
def Sp0 (args : List SV) (H : Hp) (n0 : Nat) (ret : SV) : Spec := ⟨args, H, n0, n0, Unit, fun _ => True, fun _ => ret, fun _ => H⟩
theorem call0 {f : FuncId} {args as_ : List SV} {T : Hp} {m : Nat} {ret : SV} {K : SV → Nat → Hp → Prop} (hf : Does Γ f (Sp0 as_ T m ret)) (σ : List Nat) (ha : args = SV.renL (sg σ) as_) (hs : hsub (sg σ) H T) (hck : chkCall (Sp0 as_ T m ret) σ nx = true)
    (k : goCall (Sp0 as_ T m ret) σ nx H K ()) : CallGoal Γ f args nx H K := call_rule hf σ ha hs hck fun _ _ => k
end
end Go.Zz
namespace Go.Zz
open Go.Px Go.RowKit
set_option linter.unusedVariables false
set_option linter.unusedSimpArgs false
set_option linter.unusedSectionVars false
def dstOf : List Oper → List Nat
  | [] => []
  | o :: r => match o.dst with
    | some d => d :: dstOf r
    | none => dstOf r
def defsC : Code → List Nat
  | .region _ os _ => dstOf os.toList
  | .seq a b => defsC a ++ defsC b
  | .cond _ a b => defsC a ++ defsC b
  | .block _ a => defsC a
  | .loop a => defsC a
  | .scope a => defsC a
  | .rangeFunc _ ps a b => ps.toList ++ defsC a ++ defsC b
  | _ => []
def keysE : Ev → List Nat
  | [] => []
  | (r, _) :: l => r :: keysE l
def dropE : Ev → List Nat → Ev
  | [], _ => []
  | (r, v) :: l, ds => bif memB ds r then dropE l ds else (r, v) :: dropE l (r :: ds)
def dropEKR : Ev → List Nat → (Ev → Prop) → Prop
  | [], _, K => K []
  | (r, v) :: l, ds, K => bif memB ds r then dropEKR l ds K else dropEKR l (r :: ds) fun e => K ((r, v) :: e)
def dropEKRS : { f // f = @dropEKR } := by delta dropEKR; exact ⟨_, rfl⟩
def dropEK := dropEKRS.val
theorem dropEK_R : @dropEK = @dropEKR := dropEKRS.2
theorem dropEK_eq : ∀ (l : Ev) (ds : List Nat) (K : Ev → Prop), dropEK l ds K = K (dropE l ds)
  | [], ds, K => rfl
  | (r, v) :: l, ds, K => by
    (simp only [dropEK_R, dropEKR]; (try simp only [← dropEK_R]); simp only [dropE])
    cases memB ds r
    · simp only [cond_false, dropEK_eq l]
    · simp only [cond_true, dropEK_eq l]
def dropH : Hp → List Nat → Hp
  | [], _ => []
  | (r, v) :: l, ds => bif memB ds r then dropH l ds else (r, v) :: dropH l ds
def dropHKR : Hp → List Nat → (Hp → Prop) → Prop
  | [], _, K => K []
  | (r, v) :: l, ds, K => bif memB ds r then dropHKR l ds K else dropHKR l ds fun e => K ((r, v) :: e)
def dropHKRS : { f // f = @dropHKR } := by delta dropHKR; exact ⟨_, rfl⟩
def dropHK := dropHKRS.val
theorem dropHK_R : @dropHK = @dropHKR := dropHKRS.2
theorem dropHK_eq : ∀ (l : Hp) (ds : List Nat) (K : Hp → Prop), dropHK l ds K = K (dropH l ds)
  | [], ds, K => rfl
  | (r, v) :: l, ds, K => by
    (simp only [dropHK_R, dropHKR]; (try simp only [← dropHK_R]); simp only [dropH])
    cases memB ds r
    · simp only [cond_false, dropHK_eq l]
    · simp only [cond_true, dropHK_eq l]
def appR {α : Type _} : List (Nat × α) → List (Nat × α) → (List (Nat × α) → Prop) → Prop
  | [], m, K => K m
  | x :: l, m, K => appR l m fun r => K (x :: r)
def appRS.{u} {α : Type u} : { f // f = @appR α } := by delta appR; exact ⟨_, rfl⟩
def appK'.{u} {α : Type u} := (@appRS α).val
theorem appK'_R.{u} {α : Type u} : @appK' α = @appR α := (@appRS α).2
theorem appK'_eq {α : Type _} : ∀ (l m : List (Nat × α)) (K : List (Nat × α) → Prop), appK' l m K = K (l ++ m)
  | [], m, K => rfl
  | x :: l, m, K => by (simp only [appK'_R, appR]; (try simp only [← appK'_R]); simp only [appK'_eq l, List.cons_append])
def updS (s : St) (ds : List Nat) (pe : Ev) (ph : Hp) (gone : List Nat) : St := ⟨pe ++ dropE s.env (ds ++ keysE pe), s.nx + 16, ph ++ dropH s.H (gone ++ keys ph)⟩
def updK (s : St) (ds : List Nat) (pe : Ev) (ph : Hp) (gone : List Nat) (K : St → Prop) : Prop :=
  match s with
  | ⟨env, nx, H⟩ => dropEK env (ds ++ keysE pe) fun e => appK' pe e fun e => dropHK H (gone ++ keys ph) fun h => appK' ph h fun h => litK (nx + 16) fun n' => K ⟨e, n', h⟩
theorem updK_eq (s : St) (ds : List Nat) (pe : Ev) (ph : Hp) (gone : List Nat) (K : St → Prop) : updK s ds pe ph gone K = K (updS s ds pe ph gone) := by
  simp only [updK, updS, dropEK_eq, appK'_eq, dropHK_eq, litK_eq]
structure UnfitE (why : String) (r : Nat) (p : SV) (env : Ev) : Prop where
  no : False
def mtER (n0 n1 : Nat) : Ev → Ev → Tau → (Tau → Prop) → Prop
  | [], env, τ, K => K τ
  | (r, p) :: l, env, τ, K => match lk env r with
    | some v => mt n0 n1 p v τ fun τ => mtER n0 n1 l env τ K
    | none => UnfitE "slot not known" r p env
def mtERS : { f // f = @mtER } := by delta mtER; exact ⟨_, rfl⟩
def mtE := mtERS.val
theorem mtE_R : @mtE = @mtER := mtERS.2
def LeS (n0 : Nat) (t s : St) (K : Prop) : Prop :=
  match t, s with
  | ⟨te, tn, tH⟩, ⟨env, nx, H⟩ => bif Nat.ble n0 tn then mtE n0 tn te env [] fun τ => mtH n0 tn tH H τ K else UnfitE "bound" 0 .nilp env
section
variable {Γ : Ctx} {n n0 : Nat} {En : Ent} {V : Val} {a : Act} {w : World}
theorem mtE_ok (Δ : Env0) {n1 : Nat} (hn : n0 ≤ n1) : ∀ {te env : Ev} {τ : Tau} {K : Tau → Prop}, TauOk n0 n1 τ → mtE n0 n1 te env τ K → MtOk n0 n1 τ K (∀ x ∈ te, x.2.bd n1) fun ρ ρt => ∀ x ∈ te, ∃ v, lk env x.1 = some v ∧ x.2.den Δ ρt = v.den Δ ρ
  | [], env, τ, K, hτ, h => .now hτ h (fun x hx => by simp at hx) fun ρ ρt x hx => by simp at hx
  | (r, p) :: l, env, τ, K, hτ, h => by
    (simp only [mtE_R, mtER] at h; (try simp only [← mtE_R] at h))
    split at h
    · rename_i v hv
      have h1 := mt_ok (Δ := Δ) hn p v τ _ hτ h
      refine (MtOk.seq (L := fun τ K => mtE n0 n1 l env τ K) h1 fun τ hτ h => mtE_ok Δ hn hτ h).mono (fun hb x hx => ?_) fun ρ ρt he x hx => ?_
      · rcases List.mem_cons.1 hx with rfl | hx
        · exact hb.1
        · exact hb.2 x hx
      · rcases List.mem_cons.1 hx with rfl | hx
        · exact ⟨v, hv, he.1⟩
        · exact he.2 x hx
    · exact h.no.elim
theorem LeS_ok {t s : St} {K : Prop} (h : LeS n0 t s K) (hs : StOk Γ n En V a w s) (he : En.n0 = n0) : K ∧ ∃ V', StOk Γ n En V' a w t := by
  obtain ⟨te, tn, tH⟩ := t
  obtain ⟨env, nx, H⟩ := s
  simp only [LeS] at h
  cases hb : Nat.ble n0 tn with
  | false => rw [hb] at h; exact h.no.elim
  | true =>
    rw [hb] at h
    have hn := Nat.le_of_ble_eq_true hb
    obtain ⟨τ1, e1, e2, e3, e4, e5⟩ := mtE_ok Γ.Δ hn ⟨fun c y h => by simp [lk] at h⟩ h
    obtain ⟨τ2, g1, g2, g3, g4⟩ := mtH_ok (Γ := Γ) hn e2 e3
    have hag := ag_of V g2
    refine ⟨g3, V.img n0 τ2, hs.dfr, hs.size, fun r v hv => ?_, g4 _ _ _ _ hs.hp, fun c hc => ?_, by show En.n0 ≤ tn; omega⟩
    · have hm := lk_mem hv
      obtain ⟨u, hu, hd⟩ := e5 _ _ (hag.sub g1) _ hm
      exact ⟨by rw [(hs.env _ u hu).1]; exact congrArg some hd.symm, e4 _ hm⟩
    · rw [hag.old c (by omega)]
      exact hs.old c hc
theorem loop_rule (hΓ : Γ.Ok) {c : Code} {s : St} {Q : Exit → St → Prop} (js : List Nat) {X : Type} (pe : X → Ev) (ph : X → Hp) (gone : List Nat) (I : X → Prop) (m : X → Nat)
    (h0 : ∃ x0, updK s (defsC c) (pe x0) (ph x0) gone fun t => LeS n0 t s (I x0))
    (hr : ∀ x, I x → updK s (defsC c) (pe x) (ph x) gone fun t => vc Γ n n0 js c t fun e s' => match e with
      | .normal => ∃ x', updK s (defsC c) (pe x') (ph x') gone fun t' => LeS n0 t' s' (I x' ∧ m x' < m x)
      | e => Q e s') : LoopGoal Γ n n0 c s Q := by
  refine ⟨fun En V a w he hs => ?_⟩
  obtain ⟨x0, h0⟩ := h0
  rw [updK_eq] at h0
  obtain ⟨hI, V0, hs0⟩ := LeS_ok h0 hs he
  refine wp_loop_ghost (fun k a w => ∃ x V, m x = k ∧ I x ∧ StOk Γ n En V a w (updS s (defsC c) (pe x) (ph x) gone)) (m x0) ⟨x0, V0, rfl, hI, hs0⟩ fun k a w hk => ?_
  obtain ⟨x, V, rfl, hI, hs⟩ := hk
  have hx := hr x hI
  rw [updK_eq] at hx
  refine wp_mono (vc_ok hΓ he c hx hs) fun e a' w' hq => ?_
  obtain ⟨V', s', hs', hq⟩ := hq
  cases e with
  | normal =>
    obtain ⟨x', hq⟩ := hq
    rw [updK_eq] at hq
    obtain ⟨⟨h1, h2⟩, V2, hs2⟩ := LeS_ok hq hs' he
    exact ⟨m x', h2, x', V2, rfl, h1, hs2⟩
  | _ => exact ⟨V', s', hs', hq⟩
theorem loop_at (r : Nat) (hΓ : Γ.Ok) {c : Code} {s : St} {Q : Exit → St → Prop} (hr0 : headOf c = some r) (js : List Nat) {X : Type} (pe : X → Ev) (ph : X → Hp) (gone : List Nat) (I : X → Prop) (m : X → Nat)
    (h0 : ∃ x0, updK s (defsC c) (pe x0) (ph x0) gone fun t => LeS n0 t s (I x0))
    (hr : ∀ x, I x → updK s (defsC c) (pe x) (ph x) gone fun t => vc Γ n n0 js c t fun e s' => match e with
      | .normal => ∃ x', updK s (defsC c) (pe x') (ph x') gone fun t' => LeS n0 t' s' (I x' ∧ m x' < m x)
      | e => Q e s') : LoopGoal Γ n n0 c s Q := loop_rule hΓ js pe ph gone I m h0 hr
def roundsVR (Γ : Ctx) (n n0 : Nat) (js : List Nat) (c : Code) (Q : Exit → St → Prop) : Nat → St → Prop
  | 0, s => Stuck "more rounds" (.ready 0)
  | m + 1, s => vc Γ n n0 js c s fun e s' => match e with
    | .normal => roundsVR Γ n n0 js c Q m s'
    | e => Q e s'
def roundsVRS : { f // f = @roundsVR } := by delta roundsVR; exact ⟨_, rfl⟩
def roundsV := roundsVRS.val
theorem loop_rounds (hΓ : Γ.Ok) {c : Code} {s : St} {Q : Exit → St → Prop} (js : List Nat) (m : Nat) (h : roundsV Γ n n0 js c Q m s) : LoopGoal Γ n n0 c s Q := by
  refine ⟨fun En V a w he hs => wp_loop_rounds m ?_⟩
  induction m generalizing s V a w with
  | zero => exact h.no.elim
  | succ m ih =>
    refine wp_mono (vc_ok hΓ he c h hs) fun e a' w' hq => ?_
    obtain ⟨V', s', hs', hq⟩ := hq
    cases e with
    | normal => exact ih hq _ _ _ hs'
    | _ => exact ⟨V', s', hs', hq⟩
end
end Go.Zz
namespace Go.Zz
open Go.Px Go.RowKit
set_option linter.unusedVariables false
set_option linter.unusedSimpArgs false
set_option linter.unusedSectionVars false
def readsB (o : Op) : Bool := match kdOf o with
  | .rd => true
  | .pick => true
  | _ => false
def sameHR : Hp → Hp → Prop → Prop
  | [], _, K => K
  | (c, ch) :: r, H, K => lk H c = some ch ∧ sameHR r H K
def sameHRS : { f // f = @sameHR } := by delta sameHR; exact ⟨_, rfl⟩
def sameH := sameHRS.val
def keepH : Hp → List Nat → Hp
  | [], _ => []
  | (c, ch) :: r, l => bif memB l c then (c, ch) :: keepH r l else keepH r l
def keepHKR : Hp → List Nat → (Hp → Prop) → Prop
  | [], _, K => K []
  | (c, ch) :: r, l, K => bif memB l c then keepHKR r l fun h => K ((c, ch) :: h) else keepHKR r l K
def keepHKRS : { f // f = @keepHKR } := by delta keepHKR; exact ⟨_, rfl⟩
def keepHK := keepHKRS.val
theorem keepHK_R : @keepHK = @keepHKR := keepHKRS.2
theorem keepHK_eq : ∀ (H : Hp) (l : List Nat) (K : Hp → Prop), keepHK H l K = K (keepH H l)
  | [], l, K => rfl
  | (c, ch) :: r, l, K => by
    (simp only [keepHK_R, keepHKR]; (try simp only [← keepHK_R]); simp only [keepH])
    cases memB l c
    · simp only [cond_false, keepHK_eq r]
    · simp only [cond_true, keepHK_eq r]
theorem lk_keep : ∀ {H : Hp} {l : List Nat} {c : Nat} {ch : Ch}, lk (keepH H l) c = some ch → lk H c = some ch
  | [], l, c, ch, h => by simp [keepH, lk] at h
  | (s, e) :: r, l, c, ch, h => by
    simp only [keepH] at h
    rw [lk_cons]
    cases hm : memB l s with
    | true =>
      rw [hm] at h
      simp only [cond_true, lk_cons] at h
      split at h
      · rename_i e; rw [if_pos e]; exact h
      · rename_i e; rw [if_neg e]; exact lk_keep h
    | false =>
      rw [hm] at h
      simp only [cond_false] at h
      by_cases e : c = s
      · subst e
        exfalso
        have key : ∀ (H : Hp), lk (keepH H l) c = none := fun H => by
          induction H with
          | nil => rfl
          | cons x r ih =>
            obtain ⟨s', e'⟩ := x
            simp only [keepH]
            cases hm' : memB l s' with
            | true =>
              simp only [cond_true, lk_cons]
              by_cases e : c = s'
              · subst e; rw [hm] at hm'; cases hm'
              · rw [if_neg e]; exact ih
            | false => exact ih
        rw [key] at h; cases h
      · rw [if_neg e]; exact lk_keep h
def canVR (Γ : Ctx) (n : Nat) (all : List Oper) (HC HS : Hp) (nx0 : Nat) : List (Nat × Bool) → Ev → Gds → Nat → Hp → (Ev → Gds → Nat → Hp → Prop) → Prop
  | [], env, gds, nx, H, K => K env gds nx H
  | (i, b) :: r, env, gds, nx, H, K => match nth all i with
    | none => Stuck "the order" (.ready i)
    | some o => match b with
      | true => bif readsB o.op then (match o.guard with
        | none => opGo Γ n [] o env gds nx HC fun env gds _ _ => canVR Γ n all HC HS nx0 r env gds nx H K
        | some (j, want) => guardGo Γ n all j want o env gds nx HC fun env gds _ _ => canVR Γ n all HC HS nx0 r env gds nx H K) else Stuck "the order: it doesn't only read" o.op
      | false => match o.guard with
        | none => opGo Γ n [] o env gds nx H fun env gds nx H => sameH HS H (canVR Γ n all HC HS nx0 r env gds nx H K)
        | some (j, want) => guardGo Γ n all j want o env gds nx H fun env gds nx H => sameH HS H (canVR Γ n all HC HS nx0 r env gds nx H K)
def canVRS : { f // f = @canVR } := by delta canVR; exact ⟨_, rfl⟩
def canV := canVRS.val
theorem canV_R : @canV = @canVR := canVRS.2
theorem sameH_ok : ∀ {HC H : Hp} {K : Prop}, sameH HC H K → K ∧ ∀ x ∈ HC, lk H x.1 = some x.2
  | [], H, K, h => ⟨h, fun x hx => by simp at hx⟩
  | (c, ch) :: r, H, K, h => by
    obtain ⟨h1, h2⟩ := h
    obtain ⟨h3, h4⟩ := sameH_ok h2
    refine ⟨h3, fun x hx => ?_⟩
    rcases List.mem_cons.1 hx with rfl | hx
    · exact h1
    · exact h4 x hx
section
variable {Γ : Ctx} {n n0 : Nat} {En : Ent} {V V0 : Val} {a : Act} {w : World} {env : Ev} {gds : Gds} {nx nx0 : Nat} {H HC HS : Hp}
def Way (Γ : Ctx) (En : Ent) (V0 : Val) (nx0 : Nat) (HC : Hp) (w : World) : Prop := ∃ V', (∀ d, d < nx0 → V'.ρ d = V0.ρ d) ∧ HR Γ En V' HC w
theorem Way.now (h : Way Γ En V0 nx0 HC w) (hB : HB nx0 HC) (hV : ∀ d, d < nx0 → V.ρ d = V0.ρ d) : ∃ β, HR Γ En ⟨V.ρ, β⟩ HC w := by
  obtain ⟨V', h1, h2⟩ := h
  refine ⟨V'.β, fun c ch hc => ?_, h2.keep, h2.errs, h2.eF⟩
  obtain ⟨q1, q2⟩ := hB c ch hc
  exact ch.congr (V := V') (V' := ⟨V.ρ, V'.β⟩) (h2.ok c ch hc) q2 q1 (fun d hd => (hV d hd).trans (h1 d hd).symm) rfl
theorem Way.of (h : HpOk Γ En V nx H w) (hV : ∀ d, d < nx0 → V.ρ d = V0.ρ d) (hs : ∀ x ∈ HC, lk H x.1 = some x.2) : Way Γ En V0 nx0 HC w :=
  ⟨V, hV, fun c ch hc => h.hr.ok c ch (hs _ (lk_mem hc)), h.hr.keep, h.hr.errs, h.hr.eF⟩
def YOk (Γ : Ctx) (n : Nat) (En : Ent) (V : Val) (HC : Hp) (ops : Array Oper) (o : Oper) (a : Act) (w : World) (nx : Nat) (H : Hp) (K : Ev → Gds → Nat → Hp → Prop) : Prop :=
  ∃ v env' gds', ((Region.wanted o (yielded ops a.tmps) = true ∧ ∀ β w', HR Γ En ⟨V.ρ, β⟩ HC w' → (execOp a.eval o).run Γ.P w' = .ok (.value v) w') ∨ (Region.wanted o (yielded ops a.tmps) = false ∧ v = undef)) ∧
    StOk Γ n En V (a.put o.dst v) w ⟨env', nx, H⟩ ∧ GdOk Γ V nx (a.put o.dst v) gds' ∧ ∃ nx' H', K env' gds' nx' H'
theorem opGo_yields (hΓ : Γ.Ok) {ops : Array Oper} {g : Gp} {o : Oper} {K : Ev → Gds → Nat → Hp → Prop} (hr : readsB o.op = true) (h : opGo Γ n g o env gds nx HC K) (hs : StOk Γ n En V a w ⟨env, nx, H⟩) (hg : GdOk Γ V nx a gds) (hp : PH a g) (hB : HB nx HC)
    (hw : Region.wanted o (yielded ops a.tmps) = true) : YOk Γ n En V HC ops o a w nx H K := by
  unfold opGo at h
  split at h
  · split at h
    · rename_i c x y hop
      obtain ⟨v, hb, hK, hrun⟩ := pickK_ok hs hg h
      obtain ⟨env', gds', h1, h2, h3⟩ := putK_ok hK hs hg hb
      exact ⟨_, _, _, .inl ⟨hw, fun β w' _ => hrun hp o hop w'⟩, h1, h2, _, _, h3⟩
    · exact h.no.elim
  · cases hk : knGs env gds g o.op.operands.toList with
    | false => rw [hk] at h; exact h.no.elim
    | true =>
      rw [hk] at h
      simp only [cond_true] at h
      have hcg : execOp a.eval o = execOp (fun x => (svG env gds g x).den Γ.Δ V.ρ) o := execOp_congr o (fun cs b e => rd_nosel h cs b e) fun x hx => svs_eval hs hg hp hk x (by simpa using hx)
      obtain ⟨obs, v, hb, hK, hrun⟩ := rd_sound (En := En) (V := V) (nx := nx) (oper := o) hΓ hB (fun x _ => sv_bd hs hg g x) h
      obtain ⟨ho, hK⟩ := allK_ok hK
      obtain ⟨env', gds', h1, h2, h3⟩ := putK_ok hK hs hg hb
      exact ⟨_, _, _, .inl ⟨hw, fun β w' hw' => by rw [hcg]; exact hrun ho β w' hw'⟩, h1, h2, _, _, h3⟩
  all_goals (rename_i hkd; simp only [readsB, hkd] at hr; cases hr)
theorem symGo_yields (hΓ : Γ.Ok) {ops : Array Oper} {g : Gp} {pc : Prop} {o : Oper} {K : Ev → Gds → Nat → Hp → Prop} (hr : readsB o.op = true) (h : symGo Γ n g pc o env gds nx HC K) (hs : StOk Γ n En V a w ⟨env, nx, H⟩) (hg : GdOk Γ V nx a gds) (hp : PH a g ↔ pc) (hB : HB nx HC)
    (hw : Region.wanted o (yielded ops a.tmps) = true ↔ PH a g) : YOk Γ n En V HC ops o a w nx H K := by
  have hw0 : ¬ pc → Region.wanted o (yielded ops a.tmps) = false := fun hn => by
    cases hq : Region.wanted o (yielded ops a.tmps) with
    | false => rfl
    | true => exact absurd (hp.1 (hw.1 hq)) hn
  unfold symGo at h
  split at h
  · split at h
    · rename_i c x y hop
      obtain ⟨v, hb, hK, hrun⟩ := pickK_ok hs hg h
      by_cases hpc : pc
      · obtain ⟨env', gds', h1, h2, h3⟩ := putGK_ok (u := v.den Γ.Δ V.ρ) hK hs hg hb hp (fun _ => rfl) (fun h => absurd hpc h)
        exact ⟨_, _, _, .inl ⟨hw.2 (hp.2 hpc), fun β w' _ => hrun (hp.2 hpc) o hop w'⟩, h1, h2, _, _, h3⟩
      · obtain ⟨env', gds', h1, h2, h3⟩ := putGK_ok (u := undef) hK hs hg hb hp (fun h => absurd h hpc) (fun _ => rfl)
        exact ⟨_, _, _, .inr ⟨hw0 hpc, rfl⟩, h1, h2, _, _, h3⟩
    · exact h.no.elim
  · cases hk : knGs env gds g o.op.operands.toList with
    | false => rw [hk] at h; exact h.no.elim
    | true =>
      rw [hk] at h
      simp only [cond_true] at h
      obtain ⟨obs, v, hb, hK, hrun⟩ := rd_sound (En := En) (V := V) (nx := nx) (oper := o) hΓ hB (fun x _ => sv_bd hs hg g x) h
      obtain ⟨ho, hK⟩ := impK_ok hK
      by_cases hpc : pc
      · obtain ⟨env', gds', h1, h2, h3⟩ := putGK_ok (u := v.den Γ.Δ V.ρ) hK hs hg hb hp (fun _ => rfl) (fun h => absurd hpc h)
        have hcg : execOp a.eval o = execOp (fun x => (svG env gds g x).den Γ.Δ V.ρ) o := execOp_congr o (fun cs b e => rd_nosel h cs b e) fun x hx => svs_eval hs hg (hp.2 hpc) hk x (by simpa using hx)
        exact ⟨_, _, _, .inl ⟨hw.2 (hp.2 hpc), fun β w' hw' => by rw [hcg]; exact hrun (ho hpc) β w' hw'⟩, h1, h2, _, _, h3⟩
      · obtain ⟨env', gds', h1, h2, h3⟩ := putGK_ok (u := undef) hK hs hg hb hp (fun h => absurd h hpc) (fun _ => rfl)
        exact ⟨_, _, _, .inr ⟨hw0 hpc, rfl⟩, h1, h2, _, _, h3⟩
  · rename_i hk1 hk2
    unfold readsB at hr
    split at hr
    · rename_i e; exact (hk2 e).elim
    · rename_i e; exact (hk1 e).elim
    · cases hr
theorem guardGo_yields (hΓ : Γ.Ok) {l : List Oper} {j : Nat} {want : Bool} {o : Oper} {K : Ev → Gds → Nat → Hp → Prop} (hr : readsB o.op = true) (hgd : o.guard = some (j, want)) (h : guardGo Γ n l j want o env gds nx HC K) (hs : StOk Γ n En V a w ⟨env, nx, H⟩) (hg : GdOk Γ V nx a gds) (hB : HB nx HC) :
    YOk Γ n En V HC l.toArray o a w nx H K := by
  unfold guardGo at h
  split at h
  · rename_i oj hj
    split at h
    · rename_i r hrd
      have hw := wanted_at (a := a) hgd hj hrd
      have hwf : ¬ a.tmps[r]? = some (.bool want) → Region.wanted o (yielded l.toArray a.tmps) = false := fun hn => by
        cases hq : Region.wanted o (yielded l.toArray a.tmps) with
        | false => rfl
        | true => exact absurd (hw.1 hq) hn
      split at h
      · rename_i b hb
        obtain ⟨h1, h2⟩ := hs.env r b hb
        have run : ∀ (hwant : a.tmps[r]? = some (.bool want)), opGo Γ n [(r, want)] o env gds nx HC K → YOk Γ n En V HC l.toArray o a w nx H K := fun hwant h =>
          opGo_yields hΓ hr h hs hg (PH.one.2 hwant) hB (hw.2 hwant)
        have skip : ∀ (hwant : ¬ a.tmps[r]? = some (.bool want)), (putK n o.dst (.raw undef) env gds o.op fun env gds => K env gds nx HC) → YOk Γ n En V HC l.toArray o a w nx H K := fun hwant h => by
          obtain ⟨env', gds', h1, h2, h3⟩ := putK_ok h hs hg (by simp only [SV.bd])
          simp only [SV.den] at h1 h2
          exact ⟨_, _, _, .inr ⟨hwf hwant, rfl⟩, h1, h2, _, _, h3⟩
        have sym : ∀ (w0 : Bool) (pc : Prop), want = w0 → (a.tmps[r]? = some (.bool w0) ↔ pc) → symGo Γ n [(r, w0)] pc o env gds nx HC K → YOk Γ n En V HC l.toArray o a w nx H K := fun w0 pc e h1 h => by
          subst e
          exact symGo_yields hΓ hr h hs hg (PH.one.trans h1) hB (hw.trans PH.one.symm)
        split at h
        · exact run (by rw [h1, SV.den]) h
        · exact run (by rw [h1, SV.den]) h
        · exact skip (by rw [h1, SV.den]; simp) h
        · exact skip (by rw [h1, SV.den]; simp) h
        · exact sym true _ rfl (by rw [h1, SV.den]; simp) h
        · exact sym false _ rfl (by rw [h1, SV.den]; simp) h
        · exact sym want _ rfl (by rw [h1, SV.den]; simp) h
        · exact skip (by rw [h1, SV.den, h.1]; simp [undef]) h.2
        · exact h.no.elim
      · split at h
        · rename_i g pc b hb
          obtain ⟨q1, q2, q3, q4⟩ := hg.ok r g pc b (lk_mem hb)
          have skip : ∀ (hwant : ¬ a.tmps[r]? = some (.bool want)), (putK n o.dst (.raw undef) env gds o.op fun env gds => K env gds nx HC) → YOk Γ n En V HC l.toArray o a w nx H K := fun hwant h => by
            obtain ⟨env', gds', h1, h2, h3⟩ := putK_ok h hs hg (by simp only [SV.bd])
            simp only [SV.den] at h1 h2
            exact ⟨_, _, _, .inr ⟨hwf hwant, rfl⟩, h1, h2, _, _, h3⟩
          have sym : ∀ (w0 : Bool) (pc' : Prop), want = w0 → (pc → (b.den Γ.Δ V.ρ = .bool w0 ↔ pc')) → (pc' → pc) → symGo Γ n ((r, w0) :: g) pc' o env gds nx HC K → YOk Γ n En V HC l.toArray o a w nx H K := fun w0 pc' e h1 h2 h => by
            subst e
            have hq : a.tmps[r]? = some (.bool want) ↔ pc' := by
              constructor
              · intro ht
                by_cases hpc : pc
                · rw [q3 hpc] at ht
                  exact (h1 hpc).1 (Option.some.inj ht)
                · rw [q4 hpc] at ht
                  simp [undef] at ht
              · intro hp'
                rw [q3 (h2 hp'), (h1 (h2 hp')).2 hp']
            refine symGo_yields hΓ hr h hs hg (pc := pc') ?_ hB ?_
            · rw [PH.cons, hq]
              exact ⟨fun h => h.1, fun h => ⟨h, q2.2 (h2 h)⟩⟩
            · rw [hw, PH.cons, hq]
              exact ⟨fun h => ⟨h, q2.2 (h2 h)⟩, fun h => h.1⟩
          split at h
          · exact sym true pc rfl (fun h => by simp [SV.den, h]) id h
          · exact sym false pc rfl (fun h => by simp [SV.den, h]) id h
          · exact skip (fun hwant => by by_cases hpc : pc <;> simp [q3, q4, hpc, undef, SV.den] at hwant) h
          · exact skip (fun hwant => by by_cases hpc : pc <;> simp [q3, q4, hpc, undef, SV.den] at hwant) h
          · exact sym true _ rfl (fun h => by simp [SV.den, h]) (fun h => h.1) h
          · exact sym false _ rfl (fun h => by simp [SV.den, h]) (fun h => h.1) h
          · exact sym want _ rfl (fun h => by simp [SV.den, h]) (fun h => h.1) h
          · exact h.no.elim
        · exact h.no.elim
    · exact h.no.elim
  · exact h.no.elim
theorem HB.mono {m m' : Nat} (h : HB m H) (hm : m ≤ m') : HB m' H := fun c ch hc => ⟨Nat.lt_of_lt_of_le (h c ch hc).1 hm, ch.bd_mono hm (h c ch hc).2⟩
theorem canV_ok (hΓ : Γ.Ok) {l : List Oper} (hB : HB nx0 HC) (hW : ∀ {V : Val} {w : World} {nx : Nat} {H : Hp}, HpOk Γ En V nx H w → (∀ d, d < nx0 → V.ρ d = V0.ρ d) → (∀ x ∈ HS, lk H x.1 = some x.2) → Way Γ En V0 nx0 HC w) {K : Ev → Gds → Nat → Hp → Prop} {Kq : Act → World → Prop} (kont : ∀ a w V env gds nx H, nx0 ≤ nx → (∀ d, d < nx0 → V.ρ d = V0.ρ d) → StOk Γ n En V a w ⟨env, nx, H⟩ → GdOk Γ V nx a gds → K env gds nx H → Kq a w) :
    ∀ {r : List (Nat × Bool)} {a : Act} {w : World} {V : Val} {env : Ev} {gds : Gds} {nx : Nat} {H : Hp}, canV Γ n l HC HS nx0 r env gds nx H K → nx0 ≤ nx → (∀ d, d < nx0 → V.ρ d = V0.ρ d) → StOk Γ n En V a w ⟨env, nx, H⟩ → GdOk Γ V nx a gds →
    wpCan Γ.P l.toArray (Way Γ En V0 nx0 HC) Kq r a w
  | [], a, w, V, env, gds, nx, H, h, hn, hV, hs, hg => kont _ _ _ _ _ _ _ hn hV hs hg h
  | (i, true) :: r, a, w, V, env, gds, nx, H, h, hn, hV, hs, hg => by
    (simp only [canV_R, canVR] at h; (try simp only [← canV_R] at h))
    split at h
    · exact h.no.elim
    · rename_i o hi
      rw [nth_eq] at hi
      cases hr : readsB o.op with
      | false => rw [hr] at h; exact h.no.elim
      | true =>
        rw [hr] at h
        simp only [cond_true] at h
        have key : YOk Γ n En V HC l.toArray o a w nx H (fun env gds _ _ => canV Γ n l HC HS nx0 r env gds nx H K) := by
          split at h
          · rename_i hgd
            exact opGo_yields hΓ hr h hs hg (fun x hx => by simp at hx) (hB.mono hn) (wanted_none hgd)
          · rename_i j want hgd
            exact guardGo_yields hΓ hr hgd h hs hg (hB.mono hn)
        intro oi hoi
        obtain rfl : o = oi := by simpa [hi] using hoi
        obtain ⟨v, env', gds', hy, h1, h2, _, _, h3⟩ := key
        refine ⟨v, ?_, canV_ok hΓ hB hW kont h3 hn hV h1 h2⟩
        rcases hy with ⟨q1, q2⟩ | ⟨q1, q2⟩
        · refine .inl ⟨q1, fun w' hw' => ?_⟩
          obtain ⟨β, hβ⟩ := hw'.now hB hV
          exact ⟨_, .inl rfl, q2 β w' hβ⟩
        · exact .inr ⟨q1, q2⟩
  | (i, false) :: r, a, w, V, env, gds, nx, H, h, hn, hV, hs, hg => by
    (simp only [canV_R, canVR] at h; (try simp only [← canV_R] at h))
    split at h
    · exact h.no.elim
    · rename_i o hi
      rw [nth_eq] at hi
      refine scstep (ops := l.toArray) (by simpa using hi) ?_
      refine wpList_step fun K' hK' => ?_
      have kont' : Cont Γ n En V nx (fun env gds nx H => sameH HS H (canV Γ n l HC HS nx0 r env gds nx H K)) K' := fun a' w' V' env gds nx' H' hn' hV' hs' hg' h' => by
        obtain ⟨h1, h2⟩ := sameH_ok h'
        have hV2 : ∀ d, d < nx0 → V'.ρ d = V0.ρ d := fun d hd => (hV' d (by omega)).trans (hV d hd)
        exact hK' _ _ (scdone (hW hs'.hp hV2 h2) (canV_ok hΓ hB hW kont h1 (by omega) hV2 hs' hg'))
      split at h
      · rename_i hgd
        rw [wanted_none hgd, if_pos rfl]
        exact opGo_ok hΓ h hs hg (fun x hx => by simp at hx) kont' _
      · rename_i j want hgd
        exact guardGo_ok hΓ hgd h hs hg kont' _
theorem StOk.drew {s : St} (h : StOk Γ n En V a w s) : StOk Γ n En V a w.drew s := ⟨h.dfr, h.size, h.env, h.hp.drew, h.old, h.n0⟩
def chk2 (l : List Oper) (ord ord2 : List (Nat × Bool)) (Hd : List Nat) : Bool :=
  Region.noSelect l.toArray && okTr .any l.toArray (fun x => stopB Hd x && okTr .any l.toArray (fun x => (Region.ready .any l.toArray x).isEmpty) false (.leaf ord2) x) false (.leaf ord) (Array.replicate l.length false) &&
  Nat.beq ((Tr.leaf ord).depth + (Tr.leaf ord2).depth) l.length && waitsB .any l.toArray Hd && allIn (Tr.leaf ord).idx Hd && waitsB .any l.toArray (List.range l.length) && allIn (Tr.leaf ord2).idx (List.range l.length) && Hd.all (fun i => Nat.blt i l.length)
def treeVR (Γ : Ctx) (n : Nat) (all : List Oper) (HC HS : Hp) (nx0 : Nat) : Tr → Ev → Gds → Nat → Hp → (Ev → Gds → Nat → Hp → Prop) → Prop
  | .leaf l, env, gds, nx, H, K => canV Γ n all HC HS nx0 l env gds nx H K
  | .alt l s t, env, gds, nx, H, K => canV Γ n all HC HS nx0 l env gds nx H fun env gds nx H => treeVR Γ n all HC HS nx0 s env gds nx H K ∧ treeVR Γ n all HC HS nx0 t env gds nx H K
def treeVRS : { f // f = @treeVR } := by delta treeVR; exact ⟨_, rfl⟩
def treeV := treeVRS.val
theorem treeV_R : @treeV = @treeVR := treeVRS.2
theorem treeV_ok (hΓ : Γ.Ok) {l : List Oper} (hB : HB nx0 HC) (hW : ∀ {V : Val} {w : World} {nx : Nat} {H : Hp}, HpOk Γ En V nx H w → (∀ d, d < nx0 → V.ρ d = V0.ρ d) → (∀ x ∈ HS, lk H x.1 = some x.2) → Way Γ En V0 nx0 HC w) {K : Ev → Gds → Nat → Hp → Prop} {Kq : Act → World → Prop} (kont : ∀ a w V env gds nx H, nx0 ≤ nx → (∀ d, d < nx0 → V.ρ d = V0.ρ d) → StOk Γ n En V a w ⟨env, nx, H⟩ → GdOk Γ V nx a gds → K env gds nx H → Kq a w) :
    ∀ (tr : Tr) {a : Act} {w : World} {V : Val} {env : Ev} {gds : Gds} {nx : Nat} {H : Hp}, treeV Γ n l HC HS nx0 tr env gds nx H K → nx0 ≤ nx → (∀ d, d < nx0 → V.ρ d = V0.ρ d) → StOk Γ n En V a w ⟨env, nx, H⟩ → GdOk Γ V nx a gds →
    wpTr Γ.P l.toArray (Way Γ En V0 nx0 HC) Kq tr a w
  | .leaf r, a, w, V, env, gds, nx, H, h, hn, hV, hs, hg => by
    simp only [treeV_R, treeVR] at h
    exact sxleaf (canV_ok hΓ hB hW kont h hn hV hs hg)
  | .alt r s t, a, w, V, env, gds, nx, H, h, hn, hV, hs, hg => by
    simp only [treeV_R, treeVR] at h
    simp only [← treeV_R] at h
    refine sxalts (canV_ok hΓ hB hW (K := fun env gds nx H => treeV Γ n l HC HS nx0 s env gds nx H K ∧ treeV Γ n l HC HS nx0 t env gds nx H K) (fun a' w' V' env' gds' nx' H' hn' hV' hs' hg' hK => ?_) h hn hV hs hg)
    exact ⟨treeV_ok hΓ hB hW kont s hK.1 hn' hV' hs' hg', treeV_ok hΓ hB hW kont t hK.2 hn' hV' hs' hg'⟩
def chkT (l : List Oper) (tr : Tr) : Bool :=
  Region.noSelect l.toArray && okTr .any l.toArray (fun x => (Region.ready .any l.toArray x).isEmpty) false tr (Array.replicate l.length false) && Nat.beq tr.depth l.length && waitsB .any l.toArray (List.range l.length) && allIn tr.idx (List.range l.length)
theorem draw_tree (hΓ : Γ.Ok) {l : List Oper} {Q : Exit → St → Prop} (ids : List Nat) (tr : Tr) (hck : chkT l tr = true)
    (h : keepHK H ids fun HC => treeV Γ n l HC HC nx tr env [] nx H fun env _ nx H => Q .normal ⟨env, nx, H⟩) : DrawGoal Γ n n0 l ⟨env, nx, H⟩ Q := by
  refine ⟨fun id En V a w he hs => ?_⟩
  simp only [chkT, Bool.and_eq_true] at hck
  obtain ⟨⟨⟨⟨c1, c2⟩, c3⟩, c4⟩, c5⟩ := hck
  rw [keepHK_eq] at h
  have hB : HB nx (keepH H ids) := fun c ch hc => hs.hp.hb c ch (lk_keep hc)
  refine wp_mono (Q := Exit.then (fun a w => Post Γ n En Q .normal a w) fun _ _ _ => False) ?_ fun e a w hq => ?_
  · refine sxdraw (C := Way Γ En V nx (keepH H ids)) tr hΓ.mixed c1 c2 c3 c4 c5 ⟨V, fun _ _ => rfl, ?_⟩ (treeV_ok hΓ hB (V0 := V) (fun h1 h2 h3 => Way.of h1 h2 h3) (fun a w V' env gds nx' H' _ _ hs' _ hK => ⟨V', _, hs', hK⟩) tr h (Nat.le_refl _) (fun _ _ => rfl) hs.drew GdOk.nil)
    have := hs.hp.drew.hr
    exact ⟨fun c ch hc => this.ok c ch (lk_keep hc), this.keep, this.errs, this.eF⟩
  · cases e with
    | normal => exact hq
    | _ => exact hq.elim
theorem draw_rule3 (hΓ : Γ.Ok) {l : List Oper} {Q : Exit → St → Prop} (ord : List (Nat × Bool)) (Hd : List Nat) (ids1 ids : List Nat) (ord2 : List (Nat × Bool)) (hck : chk2 l ord ord2 Hd = true)
    (h : keepHK H ids1 fun HC1 => keepHK H ids fun HC => canV Γ n l HC1 HC1 nx ord env [] nx H fun env gds nx2 H2 => sameH HC H2 (canV Γ n l HC HC nx ord2 env gds nx2 H2 fun env _ nx H => Q .normal ⟨env, nx, H⟩)) : DrawGoal Γ n n0 l ⟨env, nx, H⟩ Q := by
  refine ⟨fun id En V a w he hs => ?_⟩
  simp only [chk2, Bool.and_eq_true] at hck
  obtain ⟨⟨⟨⟨⟨⟨⟨c1, c2⟩, c3⟩, c4⟩, c5⟩, c6⟩, c7⟩, c8⟩ := hck
  rw [keepHK_eq, keepHK_eq] at h
  have hB : HB nx (keepH H ids1) := fun c ch hc => hs.hp.hb c ch (lk_keep hc)
  have hB2 : HB nx (keepH H ids) := fun c ch hc => hs.hp.hb c ch (lk_keep hc)
  refine wp_mono (Q := Exit.then (fun a w => Post Γ n En Q .normal a w) fun _ _ _ => False) ?_ fun e a w hq => ?_
  · refine sxdraw2 (C := Way Γ En V nx (keepH H ids1)) (C2 := Way Γ En V nx (keepH H ids)) (.leaf ord) (.leaf ord2) Hd hΓ.mixed c1 c2 c3 c4 c5 c6 c7 c8 ⟨V, fun _ _ => rfl, ?_⟩ (sxleaf (canV_ok hΓ hB (V0 := V) (fun h1 h2 h3 => Way.of h1 h2 h3) (fun a w V' env gds nx' H' hn hV hs' hg' hK => ?_) h (Nat.le_refl _) (fun _ _ => rfl) hs.drew GdOk.nil))
    · have := hs.hp.drew.hr
      exact ⟨fun c ch hc => this.ok c ch (lk_keep hc), this.keep, this.errs, this.eF⟩
    · obtain ⟨h1, h2⟩ := sameH_ok hK
      exact ⟨Way.of hs'.hp hV h2, sxleaf (canV_ok hΓ hB2 (V0 := V) (fun h1 h2 h3 => Way.of h1 h2 h3) (fun a w V' env gds nx' H' _ _ hs' _ hK => ⟨V', _, hs', hK⟩) h1 hn hV hs' hg')⟩
  · cases e with
    | normal => exact hq
    | _ => exact hq.elim
def placedPr : Pr where
  ok a B w := a.isSome = true ∧ ∀ i, ¬ B i
  stab h _ _ := h
  lt h hi := (h.2 _ hi).elim
theorem placedPr_ok : PlacedPr placedPr := ⟨fun _ _ _ h => h.1⟩
theorem draw_weak (hΓ : Γ.Ok) {l : List Oper} {Q : Exit → St → Prop} (c : Nat) {α : Type} {en : Enc α} {e : TypeId} {xs : List α} {k : Nat} (ids : List Nat) (tr : Tr) (hck : chkT l tr = true) (hc : lk H c = some (.arr α en e xs k)) (hl : 0 < xs.length)
    (h : keepHK H ids fun HS => treeV Γ n l ((c, .pr placedPr) :: HS) HS nx tr env [] nx H fun env _ nx H => Q .normal ⟨env, nx, H⟩) : DrawGoal Γ n n0 l ⟨env, nx, H⟩ Q := by
  refine ⟨fun id En V a w he hs => ?_⟩
  simp only [chkT, Bool.and_eq_true] at hck
  obtain ⟨⟨⟨⟨c1, c2⟩, c3⟩, c4⟩, c5⟩ := hck
  rw [keepHK_eq] at h
  have hcn : c < nx := (hs.hp.hb c _ hc).1
  have hlk : ∀ d, lk ((c, Ch.pr placedPr) :: keepH H ids) d = if d = c then some (.pr placedPr) else lk (keepH H ids) d := fun d => by rw [lk_cons]
  have hB : HB nx ((c, Ch.pr placedPr) :: keepH H ids) := fun d ch hd => by
    rw [hlk] at hd
    split at hd
    · rename_i e1
      obtain rfl := Option.some.inj hd
      exact ⟨e1 ▸ hcn, trivial⟩
    · exact hs.hp.hb d ch (lk_keep hd)
  have hsome : (V.ρ c).isSome = true := by
    obtain ⟨h1, _⟩ := hs.hp.hr.ok c _ hc
    rcases h1.2 with ⟨q1, q2⟩ | ⟨g, cap, cur, q1, _⟩
    · omega
    · simp only [Value.slice.injEq] at q1
      rw [q1.1]; rfl
  have hW : ∀ {V1 : Val} {w1 : World} {nx1 : Nat} {H1 : Hp}, HpOk Γ En V1 nx1 H1 w1 → (∀ d, d < nx → V1.ρ d = V.ρ d) → (∀ d ch, lk (keepH H ids) d = some ch → lk H1 d = some ch) → Way Γ En V nx ((c, Ch.pr placedPr) :: keepH H ids) w1 := fun {V1 w1 nx1 H1} h1 h2 h3 => by
    refine ⟨⟨V1.ρ, fun d i => if d = c then False else V1.β d i⟩, h2, ⟨fun d ch hd => ?_, h1.hr.keep, h1.hr.errs, h1.hr.eF⟩⟩
    rw [hlk] at hd
    split at hd
    · rename_i e1
      obtain rfl := Option.some.inj hd
      subst e1
      refine ⟨by show (V1.ρ d).isSome = true; rw [h2 d hcn]; exact hsome, fun i hi => ?_⟩
      have hi : (if d = d then False else V1.β d i) := hi
      rw [if_pos rfl] at hi; exact hi
    · rename_i e1
      have h4 := h3 _ _ hd
      have hb := h1.hb d ch h4
      refine ch.congr (V := V1) (V' := ⟨V1.ρ, fun d i => if d = c then False else V1.β d i⟩) (h1.hr.ok d ch h4) hb.2 hb.1 (fun _ _ => rfl) ?_
      funext i
      show (if d = c then _ else _) = _
      rw [if_neg e1]
  refine wp_mono (Q := Exit.then (fun a w => Post Γ n En Q .normal a w) fun _ _ _ => False) ?_ fun e a w hq => ?_
  · exact sxdraw (C := Way Γ En V nx ((c, Ch.pr placedPr) :: keepH H ids)) tr hΓ.mixed c1 c2 c3 c4 c5 (hW hs.hp.drew (fun _ _ => rfl) fun d ch hd => lk_keep hd) (treeV_ok hΓ hB (V0 := V) (fun h1 h2 h3 => hW h1 h2 fun d ch hd => h3 _ (lk_mem hd)) (fun a w V' env gds nx' H' _ _ hs' _ hK => ⟨V', _, hs', hK⟩) tr h (Nat.le_refl _) (fun _ _ => rfl) hs.drew GdOk.nil)
  · cases e with
    | normal => exact hq
    | _ => exact hq.elim
end
end Go.Zz
namespace Go.Zz
open Go.Px Go.RowKit
set_option linter.unusedVariables false
set_option linter.unusedSimpArgs false
set_option linter.unusedSectionVars false
def encI : Enc Int where
  sz := 1
  get x := [.int .i64 x]
  put x o v := match o, v with
    | 0, .int .i64 n => some n
    | _, _ => none
  of l := match l with
    | [.int .i64 n] => some n
    | _ => none
  d := 0
  val x := [.int .i64 x]
  len _ := rfl
  den_get Δ ρ x := by simp only [SV.denL, SV.den]
  one x u hu := by simp at hu; subst hu; rfl
  bd x := by simp only [SV.bdL, SV.bd, and_self]
  put_ok := by
    intro Δ ρ x o v y h
    split at h
    · simp only [Option.some.injEq] at h; subst h; exact ⟨by decide, by simp [SV.den]⟩
    · cases h
  of_ok := by
    intro Δ ρ vs y h
    split at h
    · simp only [Option.some.injEq] at h; subst h; simp [SV.denL, SV.den]
    · cases h
def encB : Enc Bool where
  sz := 1
  get x := [.bl x]
  put x o v := match o, v with
    | 0, .bl n => some n
    | 0, .tt => some true
    | 0, .ff => some false
    | 0, .dc p d => some (@decide p d)
    | _, _ => none
  of l := match l with
    | [.bl n] => some n
    | [.tt] => some true
    | [.ff] => some false
    | [.dc p d] => some (@decide p d)
    | _ => none
  d := false
  val x := [.bool x]
  len _ := rfl
  den_get Δ ρ x := by simp only [SV.denL, SV.den]
  one x u hu := by simp at hu; subst hu; rfl
  bd x := by simp only [SV.bdL, SV.bd, and_self]
  put_ok := by
    intro Δ ρ x o v y h
    split at h
    all_goals first | cases h; done | (simp only [Option.some.injEq] at h; subst h; exact ⟨by decide, by simp [SV.den]⟩)
  of_ok := by
    intro Δ ρ vs y h
    split at h
    all_goals first | cases h; done | (simp only [Option.some.injEq] at h; subst h; simp [SV.denL, SV.den])
def encP {α β : Type} (a : Enc α) (b : Enc β) : Enc (α × β) where
  sz := a.sz + b.sz
  get x := a.get x.1 ++ b.get x.2
  put x o v := match Nat.blt o a.sz with
    | true => match a.put x.1 o v with
      | some y => some (y, x.2)
      | none => none
    | false => match b.put x.2 (o - a.sz) v with
      | some y => some (x.1, y)
      | none => none
  of l := match a.of (l.take a.sz) with
    | some x => match b.of (l.drop a.sz) with
      | some y => some (x, y)
      | none => none
    | none => none
  d := (a.d, b.d)
  val x := a.val x.1 ++ b.val x.2
  len x := by simp [a.len, b.len]
  den_get Δ ρ x := by rw [denL_app, a.den_get, b.den_get]
  one x u hu := by
    rcases List.mem_append.1 hu with h | h
    · exact a.one _ u h
    · exact b.one _ u h
  bd x := by
    refine bdL_mem.2 fun u hu => ?_
    rcases List.mem_append.1 hu with h | h
    · exact bdL_mem.1 (a.bd _) u h
    · exact bdL_mem.1 (b.bd _) u h
  put_ok := by
    intro Δ ρ x o v y h
    split at h
    · rename_i hlt
      have hlt : o < a.sz := by simpa [Nat.blt_eq] using hlt
      split at h
      · rename_i z hz
        obtain rfl := Option.some.inj h
        obtain ⟨h1, h2⟩ := a.put_ok (Δ := Δ) (ρ := ρ) hz
        refine ⟨by omega, ?_⟩
        show a.val z ++ b.val x.2 = _
        rw [h2, List.set_append_left _ _ (by rw [a.len]; exact hlt)]
      · cases h
    · rename_i hlt
      have hlt : ¬ o < a.sz := fun h => by
        have : Nat.blt o a.sz = true := by rw [Nat.blt_eq]; exact h
        rw [this] at hlt; cases hlt
      split at h
      · rename_i z hz
        obtain rfl := Option.some.inj h
        obtain ⟨h1, h2⟩ := b.put_ok (Δ := Δ) (ρ := ρ) hz
        refine ⟨by omega, ?_⟩
        show a.val x.1 ++ b.val z = _
        rw [h2, List.set_append_right _ _ (by rw [a.len]; omega), a.len]
      · cases h
  of_ok := by
    intro Δ ρ vs y h
    split at h
    · rename_i x hx
      split at h
      · rename_i z hz
        obtain rfl := Option.some.inj h
        show a.val x ++ b.val z = _
        rw [a.of_ok (Δ := Δ) (ρ := ρ) hx, b.of_ok (Δ := Δ) (ρ := ρ) hz, ← denL_app, List.take_append_drop]
      · cases h
    · cases h
def Enc.iso {α β : Type} (e : Enc β) (f : α → β) (g : β → α) (h : ∀ y, f (g y) = y) : Enc α where
  sz := e.sz
  get x := e.get (f x)
  put x o v := match e.put (f x) o v with
    | some y => some (g y)
    | none => none
  of l := match e.of l with
    | some y => some (g y)
    | none => none
  d := g e.d
  val x := e.val (f x)
  len x := e.len _
  den_get Δ ρ x := e.den_get Δ ρ _
  one x := e.one _
  bd x := e.bd _
  put_ok := by
    intro Δ ρ x o v y hp
    split at hp
    · rename_i z hz
      obtain rfl := Option.some.inj hp
      rw [h]; exact e.put_ok hz
    · cases hp
  of_ok := by
    intro Δ ρ vs y hp
    split at hp
    · rename_i z hz
      obtain rfl := Option.some.inj hp
      rw [h]; exact e.of_ok hz
    · cases hp
theorem TiOk.of {P : Program} {Δ : Env0} {t : TypeId} {ti : TI} (h1 : (P.info? t).map (fun i => (i.size, i.bytes, i.zero)) = some (ti.sz, ti.by_, some (zvOf Δ ti))) (h2 : (P.underlying t).map isAggD = some ti.agg) (h3 : uOk P t ti.u)
    (h4 : SV.bdLB 0 ti.zero = true) (h5 : allFlat ti.zero = true) (h6 : Nat.beq ti.zero.length ti.sz = true) : TiOk P Δ t ti :=
  ⟨h1, h2, h3, bdLB_ok _ h4, one_all h5, beqT h6⟩
def AllTb {α : Type _} (p : Nat → α → Prop) : List (Nat × α) → Prop
  | [] => True
  | (t, x) :: r => p t x ∧ AllTb p r
theorem AllTb.lk {α : Type _} {p : Nat → α → Prop} : ∀ {l : List (Nat × α)}, AllTb p l → ∀ t x, Zz.lk l t = some x → p t x
  | [], _, t, x, h => by simp [Zz.lk] at h
  | (s, e) :: r, h, t, x, hl => by
    rw [lk_cons] at hl
    split at hl
    · rename_i e1; subst e1
      obtain rfl := Option.some.inj hl
      exact h.1
    · exact AllTb.lk h.2 t x hl
theorem HpOk.as {Γ Γ' : Ctx} {En : Ent} {V : Val} {n : Nat} {H : Hp} {w : World} (hd : Γ'.Δ = Γ.Δ) (he : Γ'.errs = Γ.errs) (h : HpOk Γ En V n H w) : HpOk Γ' En V n H w := by
  refine ⟨⟨fun c ch hc => ?_, h.hr.keep, by rw [hd, he]; exact h.hr.errs, by rw [hd, he]; exact h.hr.eF⟩, h.hb, h.apart, h.foot⟩
  have := h.hr.ok c ch hc
  cases ch <;> simp only [Ch.ok, hd] at this ⊢ <;> exact this
theorem Does.as {Γ Γ' : Ctx} {f : FuncId} {S : Spec} (hP : Γ'.P = Γ.P) (hd : Γ'.Δ = Γ.Δ) (he : Γ'.errs = Γ.errs) (h : Does Γ f S) : Does Γ' f S := by
  refine ⟨h.1, h.2.1, h.2.2.1, fun V w hp => ?_⟩
  obtain ⟨R, hR, hb⟩ := h.2.2.2 V w (hp.as hd.symm he.symm)
  refine ⟨R, by rw [hP, hd]; exact hR, fun v w' hr => ?_⟩
  obtain ⟨x, V', h1, h2, h3, h4, h5⟩ := hb v w' hr
  exact ⟨x, V', h1, by rw [hd]; exact h2, h3, h4, h5.as hd he⟩
theorem Does.way {Γ : Ctx} {f : FuncId} {S : Spec} (h : Does Γ f S) (a b : Bool) : Does { Γ with lax := a, lit := b } f S := Does.as (Γ := Γ) rfl rfl rfl h
theorem Does.back {Γ : Ctx} {f : FuncId} {S : Spec} {a b : Bool} (h : Does { Γ with lax := a, lit := b } f S) : Does Γ f S := Does.as (Γ := { Γ with lax := a, lit := b }) rfl rfl rfl h
theorem Ctx.Ok.way {Γ : Ctx} (h : Γ.Ok) (a b : Bool) : Ctx.Ok { Γ with lax := a, lit := b } := ⟨h.tb, h.eqs, h.mixed⟩
end Go.Zz
namespace Go.Zz
open Go.Px Go.RowKit
set_option linter.unusedVariables false
set_option linter.unusedSimpArgs false
set_option linter.unusedSectionVars false
structure VE (α : Type) where
  sv : α → SV
  val : α → Value
  of : SV → Option α
  den : ∀ Δ ρ x, (sv x).den Δ ρ = val x
  bd : ∀ x, (sv x).bd 0
  of_ok : ∀ {Δ ρ v x}, of v = some x → v.den Δ ρ = val x
def veI : VE Int where
  sv x := .int .i64 x
  val x := .int .i64 x
  of v := match v with
    | .int .i64 n => some n
    | _ => none
  den Δ ρ x := by simp only [SV.den]
  bd x := by simp only [SV.bd]
  of_ok := by
    intro Δ ρ v x h
    split at h
    · obtain rfl := Option.some.inj h; simp only [SV.den]
    · cases h
def Enc.ag {α : Type} (e : Enc α) : VE α where
  sv x := .agg (e.get x)
  val x := .agg (e.val x).toArray
  of v := match v with
    | .agg l => e.of l
    | _ => none
  den Δ ρ x := by simp only [SV.den, e.den_get]
  bd x := by simp only [SV.bd]; exact e.bd x
  of_ok := by
    intro Δ ρ v x h
    split at h
    · simp only [SV.den]; rw [e.of_ok (Δ := Δ) (ρ := ρ) h]
    · cases h
section
variable {κ ν : Type} [DecidableEq κ]
def mapPr (ke : VE κ) (ve : VE ν) (L : List (κ × ν)) : Pr where
  ok a B w := ∃ g, a = some ⟨g, 0, none⟩ ∧ (∀ i, B i ↔ i = g) ∧ MapAt w g ke.val ve.val L
  stab := by
    rintro a B w w' F ⟨g, h1, h2, h3⟩ hk hn
    exact ⟨g, h1, h2, h3.keep hk (hn g ((h2 g).2 rfl))⟩
  lt := by
    rintro a B w i ⟨g, h1, h2, h3⟩ hi
    rw [(h2 i).1 hi]; exact h3.lt
structure MapTy (P : Program) (t k e : TypeId) (ke : VE κ) (ve : VE ν) (z : ν) : Prop where
  u : P.underlying t = some (.map k e)
  key : KeyT P k ke.val
  zero : (P.info? e).bind (·.zero) = some (ve.val z)
variable {Γ : Ctx} {sv : Operand → SV} {nx : Nat} {H : Hp} {K : SV → Nat → Hp → Prop} {t k e : TypeId} {ke : VE κ} {ve : VE ν} {z : ν}
theorem mp_at {En : Ent} {V : Val} {w : World} {c : Nat} {L : List (κ × ν)} (h0 : HpOk Γ En V nx H w) (hH : lk H c = some (.pr (mapPr ke ve L))) :
    ∃ g, (SV.mp c).den Γ.Δ V.ρ = .map (some g) ∧ (∀ i, V.β c i ↔ i = g) ∧ V.ρ c = some ⟨g, 0, none⟩ ∧ MapAt w g ke.val ve.val L := by
  obtain ⟨g, h1, h2, h3⟩ := h0.hr.ok c _ hH
  exact ⟨g, by simp [SV.den, h1], h2, h1, h3⟩
theorem lookup_rule (M : MapTy Γ.P t k e ke ve z) {X Y : Operand} (c : Nat) (L : List (κ × ν)) (x : κ) (hX : sv X = .mp c) (hY : ke.of (sv Y) = some x) (hH : lk H c = some (.pr (mapPr ke ve L)))
    (k1 : kval (ve.sv ((getK L x).getD z)) fun v => K v nx H) : OpGoal Γ sv nx H (.lookup t X Y false) K := by
  refine ⟨fun En V w oper hop h0 hb => ?_⟩
  obtain ⟨g, e1, _, _, hm⟩ := mp_at h0 hH
  have hz' : (zeroValue e).run Γ.P w = .ok (ve.val z) w := by
    obtain ⟨i, hi, hz⟩ := Option.bind_eq_some_iff.1 M.zero
    simp [zeroValue, typeInfo, hi, hz]
  have hr := hm.lookup M.key M.u hz' x false
  rw [kval_eq] at k1
  refine ⟨V, _, nx, H, w, _, .inl rfl, ?_, Nat.le_refl _, fun _ _ => rfl, bd_mono (Nat.zero_le nx) _ (ve.bd _), h0, k1⟩
  simp [execOp, hop, hX, e1, ke.of_ok hY, hr, ve.den]
theorem upd_core {En : Ent} {V : Val} {w w' : World} {c g : Nat} {L L' : List (κ × ν)} (h0 : HpOk Γ En V nx H w) (hH : lk H c = some (.pr (mapPr ke ve L))) (hβ : ∀ i, V.β c i ↔ i = g) (hρ : V.ρ c = some ⟨g, 0, none⟩)
    (hm : MapAt w' g ke.val ve.val L') (hk : Keep (fun i => i = g) w w') : HpOk Γ En V nx (setH H c (.pr (mapPr ke ve L'))) w' :=
  h0.set hH (hk.mono fun i _ hi => (hβ i).2 hi) ⟨g, hρ, hβ, hm⟩ trivial
theorem mapnew_rule (ke : VE κ) (ve : VE ν) (k1 : litK (nx + 1) fun n => K (.mp nx) n ((nx, .pr (mapPr ke ve [])) :: H)) : OpGoal Γ sv nx H (.makeMap t none) K := by
  refine ⟨fun En V w oper hop h0 hb => ?_⟩
  rw [litK_eq] at k1
  have hk : Keep Nn w (w.alloc (.map #[] 0)) := keep_alloc w _
  refine ⟨V.upd nx (some ⟨w.heap.size, 0, none⟩) (fun i => i = w.heap.size), _, nx + 1, _, w.alloc (.map #[] 0), _, .inl rfl, ?_, Nat.le_succ _, upd_ρ, by simp only [SV.bd]; exact Nat.lt_succ_self nx,
    h0.add hk _ _ (.pr (mapPr ke ve [])) ⟨w.heap.size, by simp [Val.upd], fun i => by simp [Val.upd], mapAt_new w ke.val ve.val⟩ trivial (fun i hi => by rw [hi]; exact Nat.le_refl _), k1⟩
  simp [execOp, hop, Instr.makeMap, newObj, SV.den, Val.upd]
  rfl
theorem maplen_rule {K : List Prop → SV → Prop} (M : MapTy Γ.P t k e ke ve z) {X : Operand} (c : Nat) (L : List (κ × ν)) (hX : sv X = .mp c) (hH : lk H c = some (.pr (mapPr ke ve L)))
    (k1 : K [] (.int .i64 (L.length : Nat))) : RdGoal Γ sv H (.call { callee := .builtin .len, args := #[X], argTypes := #[t] }) K := by
  refine ⟨fun En V nx oper hop hB hbx => ⟨[], _, by simp only [SV.bd], k1, fun _ β w hr => ?_⟩⟩
  obtain ⟨g, h1, h2, h3⟩ := hr.ok c _ hH
  have h1 : V.ρ c = some ⟨g, 0, none⟩ := h1
  have hl := h3.len (ty := oper.type) M.u
  simp [execOp, hop, resolve, invoke, builtin, hX, SV.den, h1, hl, goInt]
end
end Go.Zz
namespace Go.Zz
open Go.Px Go.RowKit
set_option linter.unusedVariables false
set_option linter.unusedSimpArgs false
set_option linter.unusedSectionVars false
theorem Ch.okΔ {Γ Γ0 : Ctx} {En : Ent} {V : Val} {c : Nat} {w : World} {ch : Ch} (e : Γ0.Δ = Γ.Δ) (h : ch.ok Γ0 En V c w) : ch.ok Γ En V c w := by
  cases ch <;> simp only [Ch.ok, e] at h ⊢ <;> exact h
theorem Ch.okEn {Γ : Ctx} {En En' : Ent} {V : Val} {c : Nat} {w : World} {ch : Ch} (ho : own1 ch = true) (h : ch.ok Γ En V c w) : ch.ok Γ En' V c w := by
  cases ch with
  | ro α e l k => cases ho
  | fo Ψ => cases ho
  | _ => exact h
theorem Ch.okRen {Γ : Ctx} {En : Ent} {V V' : Val} {c k : Nat} {w : World} {ch : Ch} {f : Nat → Nat} (ho : own1 ch = true) (h : ch.ok Γ En V c w) (hb : ch.bd k) (hc : c < k) (hρ : ∀ d, d < k → V'.ρ (f d) = V.ρ d) (hβ : V'.β (f c) = V.β c) : (ch.ren f).ok Γ En V' (f c) w := by
  cases ch with
  | cells t vs =>
    obtain ⟨g, q1, q2, q3, q4⟩ := h
    have e : SV.denL Γ.Δ V'.ρ (SV.renL f vs) = SV.denL Γ.Δ V.ρ vs := by rw [denL_ren]; exact denL_congr hρ vs hb
    exact ⟨g, (hρ c hc).trans q1, by rw [hβ]; exact q2, by rw [e]; exact q3, by rw [e]; exact q4⟩
  | arr α e t l kk => simp only [Ch.ren, Ch.ok, hρ c hc, hβ] at h ⊢; exact h
  | ro α e l kk => cases ho
  | fo Ψ => cases ho
  | pr Ψ => simp only [Ch.ren, Ch.ok, hρ c hc, hβ] at h ⊢; exact h
  | hole Ψ vs =>
    have e : SV.denL Γ.Δ V'.ρ (SV.renL f vs) = SV.denL Γ.Δ V.ρ vs := by rw [denL_ren]; exact denL_congr hρ vs hb
    simp only [Ch.ren, Ch.ok, hρ c hc, hβ, e] at h ⊢; exact h
theorem Ch.okUnren {Γ : Ctx} {En : Ent} {V : Val} {c : Nat} {w : World} {ch : Ch} {f : Nat → Nat} (ho : own1 ch = true) (h : (ch.ren f).ok Γ En V (f c) w) : ch.ok Γ En ⟨fun d => V.ρ (f d), fun d => V.β (f d)⟩ c w := by
  cases ch with
  | cells t vs =>
    obtain ⟨g, q1, q2, q3, q4⟩ := h
    rw [denL_ren] at q3 q4
    exact ⟨g, q1, q2, q3, q4⟩
  | arr α e t l kk => exact h
  | ro α e l kk => cases ho
  | fo Ψ => cases ho
  | pr Ψ => exact h
  | hole Ψ vs => simp only [Ch.ren, Ch.ok, denL_ren] at h ⊢; exact h
theorem Ch.bdRen {m k : Nat} {ch : Ch} {f : Nat → Nat} (hf : ∀ d, d < k → f d < m) (h : ch.bd k) : (ch.ren f).bd m := by
  cases ch with
  | cells t vs => exact bdL_ren hf vs h
  | hole Ψ vs => exact bdL_ren hf vs h
  | _ => trivial
def grp (Γ : Ctx) (T : Hp) : Pr where
  ok a B w := ∃ En V, V.ρ 0 = a ∧ (∀ c ch, lk T c = some ch → own1 ch = true ∧ ch.ok Γ En V c w) ∧ (∀ c c', (lk T c).isSome = true → (lk T c').isSome = true → c ≠ c' → ∀ i, V.β c i → ¬ V.β c' i) ∧ ∀ i, B i ↔ ∃ c, (lk T c).isSome = true ∧ V.β c i
  stab := by
    rintro a B w w' F ⟨En, V, h1, h2, h3, h4⟩ hk hn
    exact ⟨En, V, h1, fun c ch hc => ⟨(h2 c ch hc).1, ch.stab (h2 c ch hc).2 hk fun i hi => hn i ((h4 i).2 ⟨c, by rw [hc]; rfl, hi⟩)⟩, h3, h4⟩
  lt := by
    rintro a B w i ⟨En, V, h1, h2, h3, h4⟩ hi
    obtain ⟨c, hc, hb⟩ := (h4 i).1 hi
    obtain ⟨ch, hc⟩ := Option.isSome_iff_exists.1 hc
    exact ch.lt (h2 c ch hc).2 i hb
def pV : Option Nat → Value
  | none => .pointer none
  | some g => .pointer (some ⟨g, 0, none⟩)
section
variable {κ ν : Type} [DecidableEq κ]
theorem mem_getK {L : List (κ × ν)} {x : κ} {v : ν} (h : getK L x = some v) : (x, v) ∈ L := by
  unfold getK at h
  obtain ⟨p, hp, rfl⟩ := Option.map_eq_some_iff.1 h
  have := List.find?_some hp
  have e : p.1 = x := by simpa using this
  rw [← e]; exact List.mem_of_find?_eq_some hp
theorem mem_putK {L : List (κ × ν)} {x : κ} {v : ν} (hx : hasK L x = true) {y : κ × ν} : y ∈ Go.Px.putK L x v ↔ y = (x, v) ∨ (y ∈ L ∧ ¬ y.1 = x) := by
  unfold Go.Px.putK
  rw [if_pos hx, List.mem_map]
  constructor
  · rintro ⟨p, hp, rfl⟩
    by_cases e : p.1 = x
    · rw [if_pos e]; exact .inl rfl
    · rw [if_neg e]; exact .inr ⟨hp, e⟩
  · rintro (rfl | ⟨hy, hn⟩)
    · obtain ⟨p, hp, e⟩ := List.mem_map.1 (hasK_iff.1 hx)
      exact ⟨p, hp, by rw [if_pos e]⟩
    · exact ⟨y, hy, by rw [if_neg hn]⟩
theorem mem_delK {L : List (κ × ν)} {x : κ} {y : κ × ν} : y ∈ Go.Px.delK L x ↔ y ∈ L ∧ ¬ y.1 = x := by
  unfold Go.Px.delK
  rw [List.mem_filter]
  simp
theorem hasK_pt {L : List (κ × ν)} (p : κ → Nat) (x : κ) : hasK (L.map fun y => (y.1, some (p y.1))) x = hasK L x := by
  induction L with
  | nil => rfl
  | cons y r ih => simp only [hasK, List.map_cons, List.any_cons] at ih ⊢; rw [ih]
theorem putK_pt {L : List (κ × ν)} (p : κ → Nat) (x : κ) (v : ν) (n : Nat) : Go.Px.putK (L.map fun y => (y.1, some (p y.1))) x (some n) = (Go.Px.putK L x v).map fun y => (y.1, some (if y.1 = x then n else p y.1)) := by
  unfold Go.Px.putK
  rw [hasK_pt]
  have key : ∀ M : List (κ × ν), (M.map fun y => (y.1, some (p y.1))).map (fun q => if q.1 = x then (x, some n) else q) = (M.map fun q => if q.1 = x then (x, v) else q).map fun y => (y.1, some (if y.1 = x then n else p y.1)) := fun M => by
    induction M with
    | nil => rfl
    | cons y r ih =>
      simp only [List.map_cons, ih]
      congr 1
      by_cases e : y.1 = x
      · simp [e]
      · simp [e]
  split
  · exact key L
  · rename_i hx
    have hx' : ∀ y ∈ L, ¬ y.1 = x := fun y hy e => hx (hasK_iff.2 (List.mem_map.2 ⟨y, hy, e⟩))
    rw [List.map_append]
    congr 1
    · refine List.map_congr_left fun y hy => ?_
      rw [if_neg (hx' y hy)]
    · simp
theorem delK_pt {L : List (κ × ν)} (p : κ → Nat) (x : κ) : Go.Px.delK (L.map fun y => (y.1, some (p y.1))) x = (Go.Px.delK L x).map fun y => (y.1, some (p y.1)) := by
  unfold Go.Px.delK
  rw [List.filter_map]; rfl
structure ObjAt (ke : VE κ) (el : ν → Pr) (L : List (κ × ν)) (ou : κ → Prop) (g : Nat) (p : κ → Nat) (Bs : κ → Nat → Prop) (B : Nat → Prop) (w : World) : Prop where
  map : MapAt w g ke.val pV (L.map fun x => (x.1, some (p x.1)))
  el : ∀ x ∈ L, ¬ ou x.1 → (el x.2).ok (some ⟨p x.1, 0, none⟩) (Bs x.1) w ∧ ¬ Bs x.1 g
  ap : ∀ x ∈ L, ∀ y ∈ L, ¬ ou x.1 → ¬ ou y.1 → x.1 ≠ y.1 → ∀ i, Bs x.1 i → ¬ Bs y.1 i
  fp : ∀ i, B i ↔ i = g ∨ ∃ x ∈ L, ¬ ou x.1 ∧ Bs x.1 i
variable {ke : VE κ} {el : ν → Pr} {L : List (κ × ν)} {ou : κ → Prop} {g : Nat} {p : κ → Nat} {Bs : κ → Nat → Prop} {B : Nat → Prop} {w w' : World} {x : κ} {v : ν}
theorem ObjAt.nd (h : ObjAt ke el L ou g p Bs B w) : (L.map (·.1)).Nodup := by
  have := h.map.nd
  rw [List.map_map] at this; exact this
theorem ObjAt.keep {F : Nat → Prop} (h : ObjAt ke el L ou g p Bs B w) (hk : Keep F w w') (hn : ∀ i, B i → ¬ F i) : ObjAt ke el L ou g p Bs B w' :=
  ⟨h.map.keep hk (hn g ((h.fp g).2 (.inl rfl))), fun x hx ho => ⟨(el x.2).stab (h.el x hx ho).1 hk fun i hi => hn i ((h.fp i).2 (.inr ⟨x, hx, ho, hi⟩)), (h.el x hx ho).2⟩, h.ap, h.fp⟩
theorem ObjAt.lt (h : ObjAt ke el L ou g p Bs B w) {i : Nat} (hi : B i) : i < w.heap.size := by
  rcases (h.fp i).1 hi with rfl | ⟨x, hx, ho, hb⟩
  · exact h.map.lt
  · exact (el x.2).lt (h.el x hx ho).1 hb
theorem ObjAt.open (h : ObjAt ke el L (fun _ => False) g p Bs B w) (x : κ) : ObjAt ke el L (fun y => y = x) g p Bs (fun i => i = g ∨ ∃ y ∈ L, ¬ y.1 = x ∧ Bs y.1 i) w :=
  ⟨h.map, fun y hy _ => h.el y hy id, fun y hy z hz _ _ => h.ap y hy z hz id id, fun i => Iff.rfl⟩
theorem ObjAt.close {Bx : Nat → Prop} (h : ObjAt ke el L (fun y => y = x) g p Bs B w) (hx : hasK L x = true) (hv : (el v).ok (some ⟨p x, 0, none⟩) Bx w) (hB : ∀ i, Bx i → ¬ B i) :
    ObjAt ke el (Go.Px.putK L x v) (fun _ => False) g p (fun y i => (y = x ∧ Bx i) ∨ (¬ y = x ∧ Bs y i)) (fun i => B i ∨ Bx i) w := by
  have hne : ∀ y, (¬ y = x) → (fun i => (y = x ∧ Bx i) ∨ (¬ y = x ∧ Bs y i)) = Bs y := fun y hy => by funext i; exact propext ⟨fun o => o.elim (fun q => absurd q.1 hy) (·.2), fun q => .inr ⟨hy, q⟩⟩
  have heq : (fun i => (x = x ∧ Bx i) ∨ (¬ x = x ∧ Bs x i)) = Bx := by funext i; exact propext ⟨fun o => o.elim (·.2) (fun q => absurd rfl q.1), fun q => .inl ⟨rfl, q⟩⟩
  refine ⟨?_, fun y hy _ => ?_, fun y hy z hz _ _ hyz i h1 h2 => ?_, fun i => ?_⟩
  · have e : (Go.Px.putK L x v).map (fun y => (y.1, some (p y.1))) = L.map fun y => (y.1, some (p y.1)) := by
      unfold Go.Px.putK
      rw [if_pos hx, List.map_map]
      refine List.map_congr_left fun y _ => ?_
      simp only [Function.comp]
      split
      · rename_i e; rw [e]
      · rfl
    rw [e]; exact h.map
  · rcases (mem_putK hx).1 hy with rfl | ⟨h1, h2⟩
    · show _ ∧ ¬ (fun i => (x = x ∧ Bx i) ∨ (¬ x = x ∧ Bs x i)) g
      rw [heq]; exact ⟨hv, fun hg => hB g hg ((h.fp g).2 (.inl rfl))⟩
    · show _ ∧ ¬ (fun i => (y.1 = x ∧ Bx i) ∨ (¬ y.1 = x ∧ Bs y.1 i)) g
      rw [hne _ h2]; exact h.el y h1 h2
  · rcases (mem_putK hx).1 hy with rfl | ⟨h3, h4⟩
    · rcases (mem_putK hx).1 hz with rfl | ⟨h5, h6⟩
      · exact hyz rfl
      · rcases h1 with ⟨_, h1⟩ | ⟨h1, _⟩
        · rcases h2 with ⟨h2, _⟩ | ⟨_, h2⟩
          · exact h6 h2
          · exact hB i h1 ((h.fp i).2 (.inr ⟨z, h5, h6, h2⟩))
        · exact h1 rfl
    · rcases (mem_putK hx).1 hz with rfl | ⟨h5, h6⟩
      · rcases h1 with ⟨h1, _⟩ | ⟨_, h1⟩
        · exact h4 h1
        · rcases h2 with ⟨_, h2⟩ | ⟨h2, _⟩
          · exact hB i h2 ((h.fp i).2 (.inr ⟨y, h3, h4, h1⟩))
          · exact h2 rfl
      · rcases h1 with ⟨h1, _⟩ | ⟨_, h1⟩
        · exact h4 h1
        · rcases h2 with ⟨h2, _⟩ | ⟨_, h2⟩
          · exact h6 h2
          · exact h.ap y h3 z h5 h4 h6 hyz i h1 h2
  · constructor
    · rintro (h1 | h1)
      · rcases (h.fp i).1 h1 with h2 | ⟨y, hy, hn, hb⟩
        · exact .inl h2
        · exact .inr ⟨y, (mem_putK hx).2 (.inr ⟨hy, hn⟩), id, .inr ⟨hn, hb⟩⟩
      · exact .inr ⟨(x, v), (mem_putK hx).2 (.inl rfl), id, .inl ⟨rfl, h1⟩⟩
    · rintro (h1 | ⟨y, hy, _, ⟨e, hb⟩ | ⟨e, hb⟩⟩)
      · exact .inl ((h.fp i).2 (.inl h1))
      · exact .inr hb
      · rcases (mem_putK hx).1 hy with rfl | ⟨h3, h4⟩
        · exact absurd rfl e
        · exact .inl ((h.fp i).2 (.inr ⟨y, h3, e, hb⟩))
theorem ObjAt.enter {n : Nat} (h : ObjAt ke el L (fun _ => False) g p Bs B w) (hx : hasK L x = false) (hm : MapAt w' g ke.val pV (Go.Px.putK (L.map fun y => (y.1, some (p y.1))) x (some n))) (hk : Keep (fun i => i = g) w w') :
    ObjAt ke el (Go.Px.putK L x v) (fun y => y = x) g (fun y => if y = x then n else p y) Bs B w' := by
  have hnx : ∀ y ∈ L, ¬ y.1 = x := fun y hy e => by rw [← Bool.not_eq_true] at hx; exact hx (hasK_iff.2 (List.mem_map.2 ⟨y, hy, e⟩))
  have hmem : ∀ {y}, y ∈ Go.Px.putK L x v → ¬ y.1 = x → y ∈ L := fun {y} hy hn => by
    unfold Go.Px.putK at hy
    rw [hx, if_neg (by simp)] at hy
    rcases List.mem_append.1 hy with h1 | h1
    · exact h1
    · obtain rfl := List.mem_singleton.1 h1; exact absurd rfl hn
  have hmem' : ∀ {y}, y ∈ L → y ∈ Go.Px.putK L x v := fun {y} hy => by
    unfold Go.Px.putK
    rw [hx, if_neg (by simp)]
    exact List.mem_append.2 (.inl hy)
  refine ⟨by rw [← putK_pt]; exact hm, fun y hy hn => ?_, fun y hy z hz hn hn' => h.ap y (hmem hy hn) z (hmem hz hn') id id, fun i => ?_⟩
  · have h1 := h.el y (hmem hy hn) id
    simp only [if_neg hn]
    exact ⟨(el y.2).stab h1.1 hk fun i hi e => h1.2 (e ▸ hi), h1.2⟩
  · rw [h.fp i]
    constructor
    · rintro (h1 | ⟨y, hy, _, hb⟩)
      · exact .inl h1
      · exact .inr ⟨y, hmem' hy, hnx y hy, hb⟩
    · rintro (h1 | ⟨y, hy, hn, hb⟩)
      · exact .inl h1
      · exact .inr ⟨y, hmem hy hn, id, hb⟩
theorem ObjAt.erase (h : ObjAt ke el L (fun y => y = x) g p Bs B w) (hm : MapAt w' g ke.val pV (Go.Px.delK (L.map fun y => (y.1, some (p y.1))) x)) (hk : Keep (fun i => i = g) w w') :
    ObjAt ke el (Go.Px.delK L x) (fun _ => False) g p Bs B w' := by
  refine ⟨by rw [← delK_pt]; exact hm, fun y hy _ => ?_, fun y hy z hz _ _ => h.ap y (mem_delK.1 hy).1 z (mem_delK.1 hz).1 (mem_delK.1 hy).2 (mem_delK.1 hz).2, fun i => ?_⟩
  · have h1 := h.el y (mem_delK.1 hy).1 (mem_delK.1 hy).2
    exact ⟨(el y.2).stab h1.1 hk fun i hi e => h1.2 (e ▸ hi), h1.2⟩
  · rw [h.fp i]
    constructor
    · rintro (h1 | ⟨y, hy, hn, hb⟩)
      · exact .inl h1
      · exact .inr ⟨y, mem_delK.2 ⟨hy, hn⟩, id, hb⟩
    · rintro (h1 | ⟨y, hy, _, hb⟩)
      · exact .inl h1
      · exact .inr ⟨y, (mem_delK.1 hy).1, (mem_delK.1 hy).2, hb⟩
end
section
variable {Γ : Ctx} {En : Ent} {V : Val} {nx c : Nat} {H T : Hp} {w : World} {ch0 ch1 : Ch}
def Val.more (V VT : Val) (nx c : Nat) (B1 : Nat → Prop) : Val := ⟨fun d => if d < nx then V.ρ d else VT.ρ (d - nx), fun d => if d = c then B1 else if d < nx then V.β d else VT.β (d - nx)⟩
theorem HpOk.open {k : Nat} {VT : Val} {En0 : Ent} {B1 : Nat → Prop} (h : HpOk Γ En V nx H w) (hc : lk H c = some ch0) (hT : HB k T) (hkT : (keys T).Nodup)
    (hok : ∀ d ch, lk T d = some ch → own1 ch = true ∧ ch.ok Γ En0 VT d w) (hap : ∀ d d', (lk T d).isSome = true → (lk T d').isSome = true → d ≠ d' → ∀ i, VT.β d i → ¬ VT.β d' i)
    (hin : ∀ d, (lk T d).isSome = true → ∀ i, VT.β d i → V.β c i ∧ ¬ B1 i) (hB1 : ∀ i, B1 i → V.β c i) (hb1 : ch1.bd (nx + k))
    (hok1 : ∀ V' : Val, (∀ d, d < nx → V'.ρ d = V.ρ d) → (∀ d, V'.ρ (nx + d) = VT.ρ d) → V'.β c = B1 → ch1.ok Γ En V' c w) :
    ∃ V' : Val, (∀ d, d < nx → V'.ρ d = V.ρ d) ∧ (∀ d, V'.ρ (nx + d) = VT.ρ d) ∧ HpOk Γ En V' (nx + k) (addH (fun d => nx + d) T (setH H c ch1)) w := by
  have hcn := (h.hb c ch0 hc).1
  have e1 : ∀ d, d < nx → (V.more VT nx c B1).ρ d = V.ρ d := fun d hd => if_pos hd
  have e2 : ∀ d, (V.more VT nx c B1).ρ (nx + d) = VT.ρ d := fun d => by unfold Val.more; dsimp only; rw [if_neg (by omega)]; congr 1; omega
  have e3 : (V.more VT nx c B1).β c = B1 := if_pos rfl
  have e4 : ∀ d, (V.more VT nx c B1).β (nx + d) = VT.β d := fun d => by
    unfold Val.more; dsimp only
    rw [if_neg (by omega), if_neg (by omega)]; congr 1; omega
  have e5 : ∀ d, ¬ d = c → d < nx → (V.more VT nx c B1).β d = V.β d := fun d h1 h2 => by unfold Val.more; dsimp only; rw [if_neg h1, if_pos h2]
  refine ⟨V.more VT nx c B1, e1, e2, ?_⟩
  have here : (lk H c).isSome = true := by rw [hc]; rfl
  refine h.step (F := Nn) (fun d => d = c) (fun d => d = c ∨ nx ≤ d) (Keep.refl _ _) (fun i _ hf => hf.elim) (Nat.le_add_right _ _) e1 (fun d ch hd hn => ?_) (fun d ch hd hn => ?_) (fun d d' hn hn' hs hs' hne i h1 h2 => ?_)
  · rcases lk_addH hd with ⟨t, ch2, q1, q2, q3, q4⟩ | ⟨q1, q2⟩
    · exact absurd (.inr (by omega)) hn
    · have hdc : ¬ d = c := fun e => hn (.inl e)
      rw [lk_set, if_neg hdc] at q2
      exact ⟨hdc, q2, e5 d hdc (h.hb d ch q2).1⟩
  · rcases lk_addH hd with ⟨t, ch2, q1, q2, q3, rfl⟩ | ⟨q1, q2⟩
    · subst q3
      have hlk := lk_of_mem hkT q1
      obtain ⟨hb, hbd⟩ := hT t ch2 hlk
      refine ⟨Ch.okEn (by cases ch2 <;> first | rfl | exact q2) (Ch.okRen q2 (hok t ch2 hlk).2 hbd hb (fun d _ => e2 d) (e4 t)), Ch.bdRen (fun d hd => by omega) hbd, by omega, fun i hi => .inl ⟨c, rfl, here, ?_⟩⟩
      rw [e4] at hi
      exact (hin t (by rw [hlk]; rfl) i hi).1
    · rw [lk_set] at q2
      split at q2
      · rename_i e; subst e
        rw [hc] at q2
        obtain rfl := Option.some.inj q2
        exact ⟨hok1 _ e1 e2 e3, hb1, by omega, fun i hi => .inl ⟨_, rfl, here, hB1 i (by rw [← e3]; exact hi)⟩⟩
      · rename_i e
        rcases hn with hn | hn
        · exact absurd hn e
        · have := (h.hb d ch q2).1; omega
  · have inT : ∀ {d}, ¬ d = c → (d = c ∨ nx ≤ d) → (lk (addH (fun d => nx + d) T (setH H c ch1)) d).isSome = true → ∃ t, d = nx + t ∧ (lk T t).isSome = true := fun {d} hdc hn hs => by
      obtain ⟨ch, hd⟩ := Option.isSome_iff_exists.1 hs
      rcases lk_addH hd with ⟨t, ch2, q1, q2, q3, q4⟩ | ⟨q1, q2⟩
      · exact ⟨t, q3.symm, by rw [lk_of_mem hkT q1]; rfl⟩
      · rw [lk_set, if_neg hdc] at q2
        have := (h.hb d ch q2).1
        rcases hn with hn | hn
        · exact absurd hn hdc
        · omega
    by_cases hd : d = c
    · subst hd
      obtain ⟨t, rfl, ht⟩ := inT (fun e => hne e.symm) hn' hs'
      rw [e3] at h1; rw [e4] at h2
      exact (hin t ht i h2).2 h1
    · obtain ⟨t, rfl, ht⟩ := inT hd hn hs
      rw [e4] at h1
      by_cases hd' : d' = c
      · subst hd'
        rw [e3] at h2
        exact (hin t ht i h1).2 h2
      · obtain ⟨t', rfl, ht'⟩ := inT hd' hn' hs'
        rw [e4] at h2
        exact hap t t' ht ht' (fun e => hne (by rw [e])) i h1 h2
def Val.grow (V : Val) (c : Nat) (B1 : Nat → Prop) : Val := ⟨V.ρ, fun d => if d = c then B1 else V.β d⟩
theorem HpOk.close {n0 : Nat} {σ : List Nat} (h : HpOk Γ En V nx H w) (hc : lk H c = some ch0) (hs : hsub (sg σ) H T) (hB : HB n0 T) (hnd : (ownIds (sg σ) T).Nodup) (hnc : c ∉ ownIds (sg σ) T) (hb1 : ch1.bd nx)
    (hok1 : ∀ V' : Val, V'.ρ = V.ρ → (V'.β c = fun i => V.β c i ∨ ∃ d, d ∈ ownIds (sg σ) T ∧ V.β d i) → ch1.ok Γ En V' c w) :
    ∃ V' : Val, (∀ d, d < nx → V'.ρ d = V.ρ d) ∧ HpOk Γ En V' nx (setH (delAll H (ownIds (sg σ) T)) c ch1) w := by
  have here : (lk H c).isSome = true := by rw [hc]; rfl
  have e3 : (V.grow c fun i => V.β c i ∨ ∃ d, d ∈ ownIds (sg σ) T ∧ V.β d i).β c = fun i => V.β c i ∨ ∃ d, d ∈ ownIds (sg σ) T ∧ V.β d i := if_pos rfl
  refine ⟨V.grow c fun i => V.β c i ∨ ∃ d, d ∈ ownIds (sg σ) T ∧ V.β d i, fun _ _ => rfl, ?_⟩
  refine h.step (F := Nn) (fun d => d = c ∨ d ∈ ownIds (sg σ) T) (fun d => d = c) (Keep.refl _ _) (fun i _ hf => hf.elim) (Nat.le_refl _) (fun _ _ => rfl) (fun d ch hd hn => ?_) (fun d ch hd hn => ?_) (fun d d' hn hn' _ _ hne => absurd (hn.trans hn'.symm) hne)
  · rw [lk_set, if_neg hn, lk_delAll] at hd
    split at hd
    · cases hd
    · rename_i hm
      exact ⟨fun o => o.elim hn hm, hd, if_neg hn⟩
  · subst hn
    rw [lk_set, if_pos rfl, lk_delAll, if_neg hnc, hc] at hd
    obtain rfl := Option.some.inj hd
    refine ⟨hok1 _ rfl e3, hb1, (h.hb d ch0 hc).1, fun i hi => ?_⟩
    rw [e3] at hi
    rcases hi with hi | ⟨t, ht, hi⟩
    · exact .inl ⟨d, .inl rfl, here, hi⟩
    · obtain ⟨t0, ch2, q1, q2, rfl⟩ := ownIds_mem.1 ht
      exact .inl ⟨_, .inr ht, hsub1_here (hsub_mem hs q1), hi⟩
end
end Go.Zz
namespace Go.Zz
open Go.Px Go.RowKit
set_option linter.unusedVariables false
set_option linter.unusedSimpArgs false
set_option linter.unusedSectionVars false
structure Cv (Γ : Ctx) (nx : Nat) (H : Hp) (nx' : Nat) (H' : Hp) : Prop where
  le : nx ≤ nx'
  h : ∀ En V w, HpOk Γ En V nx H w → ∃ V' : Val, (∀ d, d < nx → V'.ρ d = V.ρ d) ∧ HpOk Γ En V' nx' H' w
structure HereGoal (Γ : Ctx) (n n0 : Nat) (js : List Nat) (y : Code) (s : St) (Q : Exit → St → Prop) : Prop where
  h : ∀ En V a w, En.n0 = n0 → StOk Γ n En V a w s → y.wp Γ.P (Post Γ n En Q) a w
section
variable {Γ : Ctx} {n n0 nx nx' : Nat} {js : List Nat} {x y : Code} {s : St} {Q : Exit → St → Prop} {En : Ent} {V : Val} {a : Act} {w : World} {env : Ev} {H H' : Hp}
theorem join_stop (hΓ : Γ.Ok) (h : vc Γ n n0 js x s fun e s' => match e with
      | .normal => HereGoal Γ n n0 js y s' Q
      | e => Q e s') : JoinGoal Γ n n0 js x y s Q := by
  refine ⟨fun En V a w he hs => ?_⟩
  refine wp_seq (wp_mono (vc_ok hΓ he x h hs) fun e a' w' hq => ?_)
  obtain ⟨V', s', hs', hq⟩ := hq
  cases e with
  | normal => exact hq.h _ _ _ _ he hs'
  | _ => exact ⟨V', s', hs', hq⟩
theorem here_go (hΓ : Γ.Ok) (h : vc Γ n n0 js y s Q) : HereGoal Γ n n0 js y s Q := ⟨fun En V a w he hs => vc_ok hΓ he y h hs⟩
theorem StOk.conv (hc : Cv Γ nx H nx' H') (hs : StOk Γ n En V a w ⟨env, nx, H⟩) : ∃ V', StOk Γ n En V' a w ⟨env, nx', H'⟩ := by
  obtain ⟨V', h1, h2⟩ := hc.h En V w hs.hp
  refine ⟨V', hs.dfr, hs.size, fun t v hv => ?_, h2, fun c hcn => ?_, Nat.le_trans hs.n0 hc.le⟩
  · obtain ⟨q1, q2⟩ := hs.env t v hv
    exact ⟨by rw [q1, den_congr (fun d hd => (h1 d hd).symm) v q2], bd_mono hc.le v q2⟩
  · rw [h1 c (Nat.lt_of_lt_of_le hcn hs.n0)]; exact hs.old c hcn
end
def ownB : Hp → Bool
  | [] => true
  | (c, ch) :: r => own1 ch && ownB r
theorem ownB_ok : ∀ {T : Hp}, ownB T = true → ∀ c ch, lk T c = some ch → own1 ch = true
  | [], _, c, ch, h => by simp [lk] at h
  | (s, e) :: r, h, c, ch, hc => by
    simp only [ownB, Bool.and_eq_true] at h
    rw [lk_cons] at hc
    split at hc
    · obtain rfl := Option.some.inj hc; exact h.1
    · exact ownB_ok h.2 c ch hc
section
variable {κ ν : Type} [DecidableEq κ] {Γ Γ0 : Ctx} {En : Ent} {V : Val} {nx c g : Nat} {H : Hp} {w w' : World} {ke : VE κ} {tm : ν → Hp} {L : List (κ × ν)} {x : κ} {v : ν} {t k e : TypeId} {kk : Nat} {sv : Operand → SV} {K : SV → Nat → Hp → Prop} {X Y Z : Operand} {m : Nat}
theorem lookupY_rule {ve : VE ν} {z : ν} (M : MapTy Γ.P t k e ke ve z) (c : Nat) (L : List (κ × ν)) (x : κ) (v : ν) (hX : sv X = .mp c) (hY : ke.of (sv Y) = some x) (hH : lk H c = some (.pr (mapPr ke ve L))) (hg : getK L x = some v)
    (k1 : kval (ve.sv v) fun v => K (.tup [v, .tt]) nx H) : OpGoal Γ sv nx H (.lookup t X Y true) K := by
  refine ⟨fun En V w oper hop h0 hb => ?_⟩
  obtain ⟨g, e1, _, _, hm⟩ := mp_at h0 hH
  have hz' : (zeroValue e).run Γ.P w = .ok (ve.val z) w := by
    obtain ⟨i, hi, hz⟩ := Option.bind_eq_some_iff.1 M.zero
    simp [zeroValue, typeInfo, hi, hz]
  have hr := hm.lookup M.key M.u hz' x true
  have hh : hasK L x = true := by rw [hasK_get, hg]; rfl
  rw [hg, hh] at hr
  rw [kval_eq] at k1
  refine ⟨V, _, nx, H, w, _, .inl rfl, ?_, Nat.le_refl _, fun _ _ => rfl, ?_, h0, k1⟩
  · simp [execOp, hop, hX, e1, ke.of_ok hY, hr, SV.den, SV.denL, ve.den]
  · simp only [SV.bd, SV.bdL, and_true]; exact bd_mono (Nat.zero_le nx) _ (ve.bd _)
theorem lookupN_rule {ve : VE ν} {z : ν} (M : MapTy Γ.P t k e ke ve z) (c : Nat) (L : List (κ × ν)) (x : κ) (hX : sv X = .mp c) (hY : ke.of (sv Y) = some x) (hH : lk H c = some (.pr (mapPr ke ve L))) (hg : hasK L x = false)
    (k1 : kval (ve.sv z) fun v => K (.tup [v, .ff]) nx H) : OpGoal Γ sv nx H (.lookup t X Y true) K := by
  refine ⟨fun En V w oper hop h0 hb => ?_⟩
  obtain ⟨g, e1, _, _, hm⟩ := mp_at h0 hH
  have hz' : (zeroValue e).run Γ.P w = .ok (ve.val z) w := by
    obtain ⟨i, hi, hz⟩ := Option.bind_eq_some_iff.1 M.zero
    simp [zeroValue, typeInfo, hi, hz]
  have hr := hm.lookup M.key M.u hz' x true
  have hn : getK L x = none := by
    rw [hasK_get] at hg
    cases h : getK L x with
    | none => rfl
    | some v => rw [h] at hg; cases hg
  rw [hn, hg] at hr
  rw [kval_eq] at k1
  refine ⟨V, _, nx, H, w, _, .inl rfl, ?_, Nat.le_refl _, fun _ _ => rfl, ?_, h0, k1⟩
  · simp [execOp, hop, hX, e1, ke.of_ok hY, hr, SV.den, SV.denL, ve.den]
  · simp only [SV.bd, SV.bdL, and_true]; exact bd_mono (Nat.zero_le nx) _ (ve.bd _)
end
end Go.Zz
namespace Go.Zz
open Go.Px Go.RowKit
open Go.ChangeMaps (setBlock)
set_option linter.unusedVariables false
set_option linter.unusedSimpArgs false
set_option linter.unusedSectionVars false
section
variable {κ ν : Type} [DecidableEq κ]
structure IterC (w : World) (B r : Nat) (fk : κ → Value) (fv : ν → Value) (L left : List (κ × ν)) (cur : Option (κ × ν)) : Prop where
  it : IterAt w B r fk fv L left
  cu : ∀ x v, cur = some (x, v) → ∃ (es : Array MapEntry) (clock since : Nat) (s0 : Array Nat) (e : MapEntry), w.heap[B]? = some (.map es clock) ∧ w.heap[r]? = some (.mapIter (some B) since (s0.push e.born) clock) ∧ e ∈ es.toList ∧ (es.toList.map (·.born)).Pairwise (· < ·) ∧ e.key = fk x ∧ e.val = fv v
theorem IterC.keep {w w' : World} {B r : Nat} {fk : κ → Value} {fv : ν → Value} {L left : List (κ × ν)} {cur : Option (κ × ν)} {F : Nat → Prop} (h : IterC w B r fk fv L left cur) (hk : Keep F w w') (h1 : ¬ F B) (h2 : ¬ F r) : IterC w' B r fk fv L left cur := by
  refine ⟨h.it.keep hk h1 h2, fun x v hc => ?_⟩
  obtain ⟨es, clock, since, s0, e, q1, q2, q3⟩ := h.cu x v hc
  exact ⟨es, clock, since, s0, e, (hk.block B h.it.map.lt h1).trans q1, (hk.block r h.it.lt h2).trans q2, q3⟩
def isA (ga : Option Addr) : Pr where
  ok a B w := a = ga ∧ ∀ i, ¬ B i
  stab h hk hn := h
  lt h hi := (h.2 _ hi).elim
def iterPr (ke : VE κ) (ve : VE ν) (ga : Option Addr) (L left : List (κ × ν)) (cur : Option (κ × ν)) : Pr where
  ok a B w := ∃ r g, a = some ⟨r, 0, none⟩ ∧ ga = some ⟨g, 0, none⟩ ∧ (∀ i, B i ↔ i = g ∨ i = r) ∧ IterC w g r ke.val ve.val L left cur
  stab := by
    rintro a B w w' F ⟨r, g, h1, h2, h3, h4⟩ hk hn
    exact ⟨r, g, h1, h2, h3, h4.keep hk (hn g ((h3 g).2 (.inl rfl))) (hn r ((h3 r).2 (.inr rfl)))⟩
  lt := by
    rintro a B w i ⟨r, g, h1, h2, h3, h4⟩ hi
    rcases (h3 i).1 hi with rfl | rfl
    · exact h4.it.map.lt
    · exact h4.it.lt
variable {Γ : Ctx} {sv : Operand → SV} {nx : Nat} {H : Hp} {K : SV → Nat → Hp → Prop} {t k e : TypeId} {ke : VE κ} {ve : VE ν} {z : ν}
theorem next_rule {X : Operand} {ga : Option Addr} {left : List (κ × ν)} {cur : Option (κ × ν)} (L : List (κ × ν)) (ci c : Nat) (hX : sv X = .ptr ci 0) (hH : lk H ci = some (.pr (iterPr ke ve ga L left cur))) (hc : lk H c = some (.pr (isA ga))) (hne : Nat.beq ci c = false)
    (done : left = [] → setK H c (.pr (mapPr ke ve L)) fun H => delK H ci fun H => K (.tup [.ff]) nx H)
    (more : ∀ x v left', left.Perm ((x, v) :: left') → (x, v) ∈ L → setK H ci (.pr (iterPr ke ve ga L left' (some (x, v)))) fun H => kval (ke.sv x) fun a => kval (ve.sv v) fun b => K (.tup [.tt, a, b]) nx H) : OpGoal Γ sv nx H (.next X false) K := by
  refine ⟨fun En V w oper hop h0 hbx => ?_⟩
  have hne : ci ≠ c := beqF hne
  obtain ⟨r, g, h1, h2, hβ, hI⟩ := h0.hr.ok ci _ hH
  obtain ⟨hρc, hβc⟩ := h0.hr.ok c _ hc
  have e1 : (SV.ptr ci 0).den Γ.Δ V.ρ = .pointer (some ⟨r, 0, none⟩) := by simp [SV.den, h1, sa, addA]
  obtain ⟨es, clock, since, c0, seen, hb, hr, hold, hsc, hcl, hp, hl, he⟩ := hI.it.it
  have hlt := hI.it.lt
  have hleft : (leftOf es seen).toList = es.toList.filter fun e => !seen.contains e.born := by
    unfold leftOf
    rw [Array.toList_filter]
  rcases run_next_at (P := Γ.P) w oper.type r g since c0 seen es clock hr hb hold hsc with ⟨hz0, hrun⟩ | ⟨e, hem, w1, hw1, hrun⟩
  · have hz : left = [] := by
      have h1 : (leftOf es seen).toList = [] := List.eq_nil_of_length_eq_zero (by simpa using hz0)
      rw [hleft] at h1
      rw [h1] at hl
      exact List.map_eq_nil_iff.1 hl.symm
    have k1 := done hz
    rw [setK_eq, delK_eq] at k1
    let V2 : Val := ⟨V.ρ, fun d i => if d = c then i = g else V.β d i⟩
    have hlk : ∀ d, lk (delH (setH H c (.pr (mapPr ke ve L))) ci) d = if d = ci then none else lk (setH H c (.pr (mapPr ke ve L))) d := fun d => lk_del _ _ _
    refine ⟨V2, _, nx, _, w, _, .inl rfl, ?_, Nat.le_refl _, fun _ _ => rfl, by simp only [SV.bd, SV.bdL, and_true],
      h0.step (V' := V2) (F := Nn) (fun d => d = c ∨ d = ci) (fun d => d = c) (Keep.refl _ _) (fun i _ hf => hf.elim) (Nat.le_refl _) (fun _ _ => rfl) (fun d ch hd hn => ?_) (fun d ch hd hn => ?_) (fun d d' hn hn' _ _ hne' i _ _ => hne' (hn.trans hn'.symm)), k1⟩
    · simp [execOp, hop, hX, e1, hrun, SV.den, SV.denL]
    · rw [hlk] at hd
      split at hd
      · cases hd
      · rename_i hdi
        rw [lk_set, if_neg hn] at hd
        refine ⟨fun h => h.elim hn hdi, hd, ?_⟩
        funext i
        show (if d = c then _ else V.β d i) = _
        rw [if_neg hn]
    · subst hn
      rw [hlk, if_neg (fun h => hne h.symm), lk_set, if_pos rfl, hc] at hd
      obtain rfl := Option.some.inj hd
      have hbd : ∀ i, V2.β d i ↔ i = g := fun i => by
        show (if d = d then _ else _) ↔ _
        rw [if_pos rfl]
      exact ⟨⟨g, hρc.trans h2, hbd, hI.it.map⟩, trivial, (h0.hb d _ hc).1, fun i hi => .inl ⟨ci, .inr rfl, by rw [hH]; rfl, (hβ i).2 (.inl ((hbd i).1 hi))⟩⟩
  · rw [hleft] at hem
    obtain ⟨i, hi⟩ := List.getElem?_of_mem hem
    obtain ⟨q, hq, hqe⟩ := map_split hl hi
    obtain ⟨x, v⟩ := q
    simp only [Prod.mk.injEq] at hqe
    have hw1h : w1.heap = w.heap := by rcases hw1 with rfl | rfl <;> rfl
    have hk : Keep (fun j => j = r) w (setBlock w1 r (.mapIter (some g) since (seen.push e.born) clock)) := by
      have : Keep (fun j => j = r) w w1 := by
        rcases hw1 with rfl | rfl
        · exact Keep.refl _ _
        · exact (Keep.refl _ _).drew
      refine this.trans ⟨rfl, rfl, rfl, by simp [setBlock], Nat.le_refl _, fun j hj hn => ?_⟩
      have : ¬ r = j := fun e => hn e.symm
      simp [setBlock, Array.getElem?_setIfInBounds, this]
    have hB2 : (setBlock w1 r (.mapIter (some g) since (seen.push e.born) clock)).heap[g]? = some (.map es clock) := (hk.block g hI.it.map.lt (fun e => hI.it.ne e.symm)).trans hb
    have hr2 : (setBlock w1 r (.mapIter (some g) since (seen.push e.born) clock)).heap[r]? = some (.mapIter (some g) since (seen.push e.born) clock) := by
      simp [setBlock, hw1h, hlt]
    have hit : IterC (setBlock w1 r (.mapIter (some g) since (seen.push e.born) clock)) g r ke.val ve.val L (left.eraseIdx i) (some (x, v)) :=
      ⟨⟨hI.it.map.keep hk (fun e => hI.it.ne e.symm), hI.it.ne, ⟨es, clock, since, clock, seen.push e.born, hB2, hr2, hold, hcl, hcl, hp, by rw [filter_seen hp hi, ChangeMaps.map_eraseIdx, hl, ← ChangeMaps.map_eraseIdx], he⟩, (List.eraseIdx_sublist _ _).trans hI.it.sub⟩,
        fun x' v' hxv => by
          simp only [Option.some.injEq, Prod.mk.injEq] at hxv
          obtain ⟨rfl, rfl⟩ := hxv
          exact ⟨es, clock, since, seen, e, hB2, hr2, (List.mem_filter.1 hem).1, hp, hqe.1, hqe.2⟩⟩
    have k1 := more x v (left.eraseIdx i) (erase_perm hq) (hI.it.sub.subset (List.mem_of_getElem? hq))
    rw [setK_eq, kval_eq, kval_eq] at k1
    refine ⟨V, _, nx, _, _, _, .inl rfl, ?_, Nat.le_refl _, fun _ _ => rfl, ?_, h0.set (ch' := .pr (iterPr ke ve ga L (left.eraseIdx i) (some (x, v)))) hH (hk.mono fun j _ hj => (hβ j).2 (.inr hj)) ⟨r, g, h1, h2, hβ, hit⟩ trivial, k1⟩
    · simp [execOp, hop, hX, e1, hrun, SV.den, SV.denL, ke.den, ve.den, hqe.1, hqe.2]
    · simp only [SV.bd, SV.bdL, and_true, true_and]
      exact ⟨bd_mono (Nat.zero_le nx) _ (ke.bd _), bd_mono (Nat.zero_le nx) _ (ve.bd _)⟩
theorem entry_rule {X : Operand} {ga : Option Addr} {left L : List (κ × ν)} {x : κ} {v : ν} (ci : Nat) (hX : sv X = .ptr ci 0) (hH : lk H ci = some (.pr (iterPr ke ve ga L left (some (x, v)))))
    (k1 : kval (ke.sv x) fun a => kval (ve.sv v) fun b => K (.tup [a, b]) nx H) : OpGoal Γ sv nx H (.entry X) K := by
  refine ⟨fun En V w oper hop h0 hbx => ?_⟩
  obtain ⟨r, g, h1, h2, hβ, hI⟩ := h0.hr.ok ci _ hH
  have e1 : (SV.ptr ci 0).den Γ.Δ V.ρ = .pointer (some ⟨r, 0, none⟩) := by simp [SV.den, h1, sa, addA]
  obtain ⟨es, clock, since, s0, e, q1, q2, q3, q4, q5, q6⟩ := hI.cu x v rfl
  have := run_entry_at (P := Γ.P) w r g since s0 es clock e q2 q1 q3 (List.Pairwise.imp (fun h => Nat.ne_of_lt h) q4)
  rw [q5, q6] at this
  rw [kval_eq, kval_eq] at k1
  refine ⟨V, _, nx, _, w, _, .inl rfl, ?_, Nat.le_refl _, fun _ _ => rfl, ?_, h0, k1⟩
  · simp [execOp, hop, hX, e1, this, SV.den, SV.denL, ke.den, ve.den]
  · simp only [SV.bd, SV.bdL, and_true]
    exact ⟨bd_mono (Nat.zero_le nx) _ (ke.bd _), bd_mono (Nat.zero_le nx) _ (ve.bd _)⟩
end
end Go.Zz
namespace Go.Zz
open Go.Px Go.RowKit
set_option linter.unusedVariables false
set_option linter.unusedSimpArgs false
set_option linter.unusedSectionVars false
def allFar : Hp → Bool
  | [] => true
  | (_, ch) :: r => !own1 ch && allFar r
theorem allFar_at : ∀ {H : Hp} {c : Nat} {ch : Ch}, allFar H = true → lk H c = some ch → own1 ch = false ∧ (c, ch) ∈ H
  | [], c, ch, _, h => by simp [lk] at h
  | (s, e) :: r, c, ch, hr, h => by
    simp only [allFar, Bool.and_eq_true, Bool.not_eq_true'] at hr
    rw [lk_cons] at h
    split at h
    · rename_i e1; subst e1
      obtain rfl := Option.some.inj h
      exact ⟨hr.1, List.mem_cons_self ..⟩
    · obtain ⟨h1, h2⟩ := allFar_at (H := r) hr.2 h
      exact ⟨h1, List.mem_cons_of_mem _ h2⟩
theorem arr_lt {W : World} {sz n k : Nat} {a : Option Addr} {l : List Value} (hA : Arr W sz a n k l) (hsz : 0 < sz) (hl : 0 < n) {A : Addr} (hA' : a = some A) : A.block < W.heap.size := by
  obtain ⟨u, hu⟩ : ∃ u, l[0]? = some u := ⟨_, List.getElem?_eq_getElem (by rw [hA.len]; exact Nat.mul_pos hl hsz)⟩
  have h1 := hA.cell 0 u hu
  rw [hA'] at h1
  simp only [sa, Option.getD_some] at h1
  have hb : (A.add 0).block = A.block := by unfold Addr.add; split <;> rfl
  unfold World.cell? at h1
  rw [hb] at h1
  cases hq : W.heap[A.block]? with
  | none => rw [hq] at h1; simp at h1
  | some o => exact (Array.getElem?_eq_some_iff.1 hq).1
theorem DoesC.law2 {Γ : Ctx} {f : FuncId} {S : Spec} (h : DoesC Γ f S) (ρ : Rho) {W : World} (he : Errs Γ.errs W Γ.Δ.eT Γ.Δ.E) (hro : allFar S.H = true)
    (hH : ∀ c α (e : Enc α) l k, (c, Ch.ro α e l k) ∈ S.H → Arr W e.sz (ρ c) l.length k (flat e.val l) ∧ 0 < e.sz) (hO : ∀ c Ψ, (c, Ch.fo Ψ) ∈ S.H → Ψ.ok (ρ c) (fun _ => False) W) (hr : ∀ x, S.ret x = .tt) {args : Array Value} (ha : (SV.denL Γ.Δ ρ S.args).toArray = args) :
    Calls Γ.P f args W (Ret fun v w' => v = .bool true ∧ Keep Nn W w') := by
  subst ha
  have hF : ∀ i, ¬ (entOf ⟨ρ, fun _ _ => False⟩ W S.H S.n0).F0 i := fun i ⟨c, _, hb⟩ => hb
  refine (h.2.2.2.2 ⟨ρ, fun _ _ => False⟩ W ⟨⟨fun c ch hc => ?_, Keep.refl _ _, he, fun g _ => ⟨hF _, hF _⟩⟩, h.2.2.1, fun _ _ _ _ _ i h => h.elim, fun _ _ i h => h.elim⟩).mono fun ex w' hx => ?_
  · obtain ⟨ho, hm⟩ := allFar_at hro hc
    cases ch with
    | ro α e l k =>
      obtain ⟨hA, hsz⟩ := hH c α e l k hm
      exact ⟨hA, fun i h => h, fun hl A hA' => ⟨hF _, arr_lt hA hsz hl hA'⟩⟩
    | fo Ψ => exact ⟨Ψ.carry (hO c Ψ hm) (Keep.refl Nn W) fun i hi => absurd hi (hF i), fun i h => h⟩
    | _ => cases ho
  · obtain ⟨v, rfl, x, V', _, hv, _, _, hp⟩ := hx
    exact ⟨v, rfl, by rw [hv, hr x]; rfl, hp.hr.keep.mono fun i _ hi => (hF i hi).elim⟩
theorem HpOk.keepNn {Γ : Ctx} {En : Ent} {V : Val} {nx : Nat} {H : Hp} {w w' : World} (h : HpOk Γ En V nx H w) (hk : Keep Nn w w') : HpOk Γ En V nx H w' :=
  h.step (F := Nn) (fun _ => False) (fun _ => False) hk (fun i _ hf => hf.elim) (Nat.le_refl _) (fun _ _ => rfl) (fun c ch hc _ => ⟨id, hc, rfl⟩) (fun _ _ _ hn => hn.elim) (fun _ _ hn => hn.elim)
theorem Does.of_calls {Γ : Ctx} {f : FuncId} {args : List SV} {H : Hp} {n0 : Nat} {ret : SV} (hen : enters Γ.P f) (hb : SV.bdL n0 args) (hB : HB n0 H) (hr : ret.bd n0)
    (h : ∀ V w, HpOk Γ (entOf V w H n0) V n0 H w → Calls Γ.P f (SV.denL Γ.Δ V.ρ args).toArray w (Ret fun v w' => v = ret.den Γ.Δ V.ρ ∧ Keep Nn w w')) : Does Γ f (Sp0 args H n0 ret) :=
  ⟨Nat.le_refl _, hb, hB, fun V w hp => ⟨_, .inl ⟨hen, h V w hp⟩, fun v w' hv => ⟨(), V, trivial, hv.1, hr, fun _ _ => rfl, hp.keepNn hv.2⟩⟩⟩
theorem HpOk.errs0 {Γ : Ctx} {En : Ent} {V : Val} {n : Nat} {H : Hp} {w : World} (h : HpOk Γ En V n H w) : HpOk { Γ with errs := [] } En V n H w := by
  refine ⟨⟨fun c ch hc => ?_, h.hr.keep, ⟨fun g hg => by simp at hg, fun g hg => by simp at hg, fun g h hg => by simp at hg⟩, fun g hg => by simp at hg⟩, h.hb, h.apart, h.foot⟩
  have := h.hr.ok c ch hc
  cases ch <;> exact this
theorem Does.more {Γ : Ctx} {f : FuncId} {S : Spec} (h : Does { Γ with errs := [] } f S) : Does Γ f S := by
  refine ⟨h.1, h.2.1, h.2.2.1, fun V w hp => ?_⟩
  obtain ⟨R, hR, hb⟩ := h.2.2.2 V w hp.errs0
  refine ⟨R, hR, fun v w' hr => ?_⟩
  obtain ⟨x, V', h1, h2, h3, h4, h5⟩ := hb v w' hr
  refine ⟨x, V', h1, h2, h3, h4, ⟨⟨fun c ch hc => ?_, h5.hr.keep, hp.hr.errs, hp.hr.eF⟩, h5.hb, h5.apart, h5.foot⟩⟩
  have := h5.hr.ok c ch hc
  cases ch <;> exact this
theorem DoesC.two {Γ : Ctx} {g : FuncId} {α : Type} {en : Enc α} {x y : α} {r : SV} (h : DoesC { Γ with errs := [] } g (Sp0 [.agg (en.get x), .agg (en.get y)] [] 0 r)) (w : World) :
    Calls Γ.P g #[.agg (en.val x).toArray, .agg (en.val y).toArray] w (Ret fun v w' => v = r.den Γ.Δ (fun _ => none) ∧ Keep Nn w w') := by
  have hF : ∀ i, ¬ (entOf ⟨fun _ => none, fun _ _ => False⟩ w [] 0).F0 i := fun i ⟨c, _, hb⟩ => hb
  have := h.2.2.2.2 ⟨fun _ => none, fun _ _ => False⟩ w ⟨⟨fun c ch hc => by simp [Sp0, lk] at hc, Keep.refl _ _, ⟨fun g hg => by simp at hg, fun g hg => by simp at hg, fun g h hg => by simp at hg⟩, fun g hg => by simp at hg⟩, h.2.2.1, fun _ _ _ _ _ i h => h.elim, fun _ _ i h => h.elim⟩
  simp only [Sp0, SV.denL, SV.den, en.den_get] at this
  refine this.mono fun ex w' hx => ?_
  obtain ⟨v, rfl, x', V', _, hv, hb, hρ, hp⟩ := hx
  exact ⟨v, rfl, by rw [hv]; exact den_congr (fun d hd => by omega) _ hb, hp.hr.keep.mono fun i _ hi => (hF i hi).elim⟩
theorem DoesC.as {Γ Γ' : Ctx} {f : FuncId} {S : Spec} (hP : Γ'.P = Γ.P) (hd : Γ'.Δ = Γ.Δ) (he : Γ'.errs = Γ.errs) (h : DoesC Γ f S) : DoesC Γ' f S := by
  refine ⟨h.1, h.2.1, h.2.2.1, by rw [hP]; exact h.2.2.2.1, fun V w hp => ?_⟩
  rw [hP, hd]
  refine (h.2.2.2.2 V w (hp.as hd.symm he.symm)).mono fun ex w' hx => ?_
  obtain ⟨v, rfl, x, V', h1, h2, h3, h4, h5⟩ := hx
  exact ⟨v, rfl, x, V', h1, h2, h3, h4, h5.as hd he⟩
theorem DoesC.way {Γ : Ctx} {f : FuncId} {S : Spec} (h : DoesC Γ f S) (a b : Bool) : DoesC { Γ with lax := a, lit := b } f S := DoesC.as (Γ := Γ) rfl rfl rfl h
theorem DoesC.back {Γ : Ctx} {f : FuncId} {S : Spec} {a b : Bool} (h : DoesC { Γ with lax := a, lit := b } f S) : DoesC Γ f S := DoesC.as (Γ := { Γ with lax := a, lit := b }) rfl rfl rfl h
theorem Ctx.Ok.noErrs {Γ : Ctx} (h : Γ.Ok) : Ctx.Ok { Γ with errs := [] } := ⟨h.tb, h.eqs, h.mixed⟩
end Go.Zz
namespace Go.Zz
open Go.Px Go.RowKit
set_option linter.unusedVariables false
set_option linter.unusedSimpArgs false
set_option linter.unusedSectionVars false
def noDef : Op → Bool
  | .defer _ => false
  | _ => true
theorem op_round {P : Program} {o : Oper} {a : Act} {w : World} {m : Nat} {next next' : Act → World → Prop} {Q : Exit → Act → World → Prop} (l : Nat) (hd : noDef o.op = true) (hn : ∀ a w, next a w → next' a w)
    (h : o.wp P a w next Q) : o.wpIn (Fence.wide.inRound l) m P a w next' Q := by
  refine ⟨fun _ _ => trivial, ?_⟩
  have e : o.semAt (Fence.wide.inRound l).round a.eval = execOp a.eval o := Oper.semAt_eq _ _ _ (fun c hc => by rw [hc] at hd; cases hd)
  rw [e]
  unfold Oper.wp at h
  generalize (execOp a.eval o).run P w = r at h ⊢
  cases r with
  | ok nxt w' =>
    cases nxt with
    | value v => exact hn _ _ h
    | skip => exact hn _ _ h
    | defer d => exact hn _ _ h
    | enter f args =>
      refine ⟨fun h => (by cases h), (callsIn_wide (n := m - 1)).2 (Calls.mono h fun e w' he => ?_)⟩
      cases e with
      | returned v => exact hn _ _ he
      | panicked c => exact he
      | outgrown => exact he
    | row r args => exact ⟨fun h => (by cases h), fun c cs _ => let ⟨v, w', hr, hs⟩ := h c cs; ⟨v, w', hn _ _ hr, stepsIn_wide.2 hs⟩⟩
    | _ => exact h.elim
  | halt hh w' =>
    cases hh with
    | panic v => exact h
    | _ => exact h.elim
theorem list_round {P : Program} {ops : Array Oper} {Q : Exit → Act → World → Prop} (l m : Nat) (hQ : ¬ LetsOut Q) : ∀ {rest : List Oper} {a : Act} {w : World}, rest.all (fun o => noDef o.op) = true → wpList P ops Q rest a w → wpListIn (Fence.wide.inRound l) m P ops Q rest a w
  | [], a, w, _, h => h
  | o :: r, a, w, hd, h => by
    simp only [List.all_cons, Bool.and_eq_true] at hd
    unfold wpList at h
    unfold wpListIn
    split at h
    · rename_i hw
      rw [if_pos hw]
      rcases h with h | h
      · exact op_round l hd.1 (fun a w h => list_round l m hQ hd.2 h) h
      · exact absurd h.2 hQ
    · rename_i hw
      rw [if_neg hw]
      exact ⟨fun _ _ => trivial, list_round l m hQ hd.2 h⟩
def roundC : Code → Bool
  | .skip => true
  | .region _ os d => !d && os.toList.all fun o => noDef o.op
  | .seq a b => roundC a && roundC b
  | .block _ a => roundC a
  | _ => false
theorem joins_nil (c : Code) : joinsAt [] c = false := rfl
section
variable {Γ : Ctx} {n : Nat} {En : Ent}
theorem vc_round (hΓ : Γ.Ok) {n0 : Nat} (hn0 : En.n0 = n0) (l m : Nat) (c : Code) : ∀ {s : St} {Q : Exit → St → Prop} {V : Val} {a : Act} {w : World}, roundC c = true → (∀ s, ¬ Q .outgrown s) → vc Γ n n0 [] c s Q → StOk Γ n En V a w s →
    c.wpIn (Fence.wide.inRound l) m Γ.P (Post Γ n En Q) a w := by
  induction c with
  | skip => intro s Q V a w _ _ h hs; exact wpIn_skip ⟨V, s, hs, h⟩
  | region id os draw =>
    intro s Q V a w hr hQ h hs
    obtain ⟨env, nx, H⟩ := s
    cases draw with
    | false =>
      (simp only [vc_R, vcR] at h; (try simp only [← vc_R] at h))
      simp only [roundC, Bool.not_false, Bool.true_and] at hr
      have := wpIn_region_lit (id := id) (list_round l m (fun hl => by obtain ⟨a, w, V, s, _, hq⟩ := hl; exact hQ s hq) hr (opsV_ok hΓ h hs GdOk.nil))
      simpa using this
    | true => simp [roundC] at hr
  | seq x y ihx ihy =>
    intro s Q V a w hr hQ h hs
    (simp only [vc_R, vcR] at h; (try simp only [← vc_R] at h))
    simp only [joins_nil, cond_false] at h
    simp only [roundC, Bool.and_eq_true] at hr
    refine wpIn_seq (wpIn_mono (ihx hr.1 (Q := fun e s => match e with
      | .normal => vc Γ n n0 [] y s Q
      | e => Q e s) hQ h hs) fun e a' w' hq => ?_)
    obtain ⟨V', s', hs', hq⟩ := hq
    cases e with
    | normal => exact ihy hr.2 hQ hq hs'
    | _ => exact ⟨V', s', hs', hq⟩
  | block id c ih =>
    intro s Q V a w hr hQ h hs
    (simp only [vc_R, vcR] at h; (try simp only [← vc_R] at h))
    refine wpIn_block (wpIn_mono (ih hr (fun s hq => ?_) h hs) fun e a' w' hq => ?_)
    · exact hQ s hq
    obtain ⟨V', s', hs', hq⟩ := hq
    cases e with
    | exit i =>
      simp only [Exit.inBlock]
      simp only at hq
      cases hb : Nat.beq i id with
      | true => rw [hb] at hq; rw [if_pos (beqT hb)]; exact ⟨V', s', hs', hq⟩
      | false => rw [hb] at hq; rw [if_neg (beqF hb)]; exact ⟨V', s', hs', hq⟩
    | _ => exact ⟨V', s', hs', hq⟩
  | _ => intro s Q V a w hr hQ h hs; cases hr
def noRo : Hp → Bool
  | [] => true
  | (_, .ro _ _ _ _) :: _ => false
  | (_, .fo _) :: _ => false
  | _ :: r => noRo r
theorem noRo_at : ∀ {H : Hp} {c : Nat} {ch : Ch}, noRo H = true → lk H c = some ch → own1 ch = true
  | [], c, ch, _, h => by simp [lk] at h
  | (s, e0) :: r, c, ch, hr, h => by
    rw [lk_cons] at h
    have hr' : noRo r = true := by cases e0 <;> first | exact hr | cases hr
    split at h
    · obtain rfl := Option.some.inj h
      cases e0 <;> first | rfl | cases hr
    · exact noRo_at hr' h
theorem Ch.anyEn {V : Val} {c : Nat} {w : World} {ch : Ch} (En' : Ent) (hn : own1 ch = true) (h : ch.ok Γ En V c w) : ch.ok Γ En' V c w := by
  cases ch with
  | ro α e l k => cases hn
  | fo Ψ => cases hn
  | _ => exact h
theorem lk_drop : ∀ (H : Hp) (ds : List Nat) (c : Nat), lk (dropH H ds) c = if memB ds c = true then none else lk H c
  | [], ds, c => by simp [dropH, lk]
  | (r, v) :: l, ds, c => by
    simp only [dropH]
    cases hm : memB ds r with
    | true =>
      simp only [cond_true, lk_drop l ds c, lk_cons]
      by_cases e : c = r
      · subst e; simp [hm]
      · simp only [if_neg e]
    | false =>
      simp only [cond_false, lk_cons, lk_drop l ds c]
      by_cases e : c = r
      · subst e; simp [hm]
      · simp only [if_neg e]
def entAt (V : Val) (w : World) (H : Hp) (n0 : Nat) : Ent := ⟨fun i => ∃ c, (lk H c).isSome = true ∧ V.β c i, w, n0, V.ρ, []⟩
theorem HpOk.anew {V : Val} {nx : Nat} {H : Hp} {w w' : World} {F : Nat → Prop} (h : HpOk Γ En V nx H w) (hk : Keep F w w') (n0 : Nat) (hF : ∀ i, F i → En.w0.heap.size ≤ i) (hX : ∀ c i, (lk H c).isSome = true → V.β c i → ¬ F i) (hn : noRo H = true) : HpOk Γ (entAt V w' H n0) V nx H w' := by
  have hkk : Keep En.F0 En.w0 w' := h.hr.keep.then hk fun i hi hf => absurd (hF i hf) (by omega)
  have hE : ∀ g, Γ.errs.contains g = true → g < En.w0.heap.size ∧ (Γ.Δ.E g).block < En.w0.heap.size := fun g hg => by
    constructor
    · have := h.hr.errs.cell g hg
      unfold World.cell? at this
      cases hq : En.w0.heap[g]? with
      | none => simp [hq] at this
      | some o => exact (Array.getElem?_eq_some_iff.1 hq).1
    · obtain ⟨c, u, hc⟩ := h.hr.errs.blk g hg
      exact (Array.getElem?_eq_some_iff.1 hc).1
  have hnot : ∀ i, i < En.w0.heap.size → ¬ En.F0 i → ¬ (entAt V w' H n0).F0 i := fun i hi hn ⟨c, h1, h2⟩ => by
    rcases (h.foot c h1 i h2).1 with h3 | h3
    · exact hn h3
    · omega
  refine ⟨⟨fun c ch hc => Ch.anyEn _ (noRo_at hn hc) (ch.stab (h.hr.ok c ch hc) hk (hX c · (by rw [hc]; rfl))), Keep.refl _ _, ?_, fun g hg => ⟨hnot _ (hE g hg).1 (h.hr.eF g hg).1, hnot _ (hE g hg).2 (h.hr.eF g hg).2⟩⟩, h.hb, h.apart, fun c hc i hi => ⟨.inl ⟨c, hc, hi⟩, Nat.lt_of_lt_of_le (h.foot c hc i hi).2 hk.size⟩⟩
  exact ⟨fun g hg => hkk.cell (h.hr.errs.cell g hg) (h.hr.eF g hg).1, fun g hg => by obtain ⟨c, u, hc⟩ := h.hr.errs.blk g hg; exact ⟨c, u, hkk.obj hc (h.hr.eF g hg).2⟩, h.hr.errs.inj⟩
theorem HpOk.back {En' : Ent} {V : Val} {nx : Nat} {H : Hp} {w : World} (h : HpOk Γ En' V nx H w) (hn : noRo H = true) (hk : Keep En.F0 En.w0 w) (he : Errs Γ.errs En.w0 Γ.Δ.eT Γ.Δ.E) (heF : ∀ g, Γ.errs.contains g = true → ¬ En.F0 g ∧ ¬ En.F0 (Γ.Δ.E g).block)
    (hf : ∀ c i, (lk H c).isSome = true → V.β c i → En.F0 i ∨ En.w0.heap.size ≤ i) : HpOk Γ En V nx H w :=
  ⟨⟨fun c ch hc => Ch.anyEn _ (noRo_at hn hc) (h.hr.ok c ch hc), hk, he, heF⟩, h.hb, h.apart, fun c hc i hi => ⟨hf c i hc hi, (h.foot c hc i hi).2⟩⟩
theorem HpOk.other {V : Val} {nx : Nat} {H : Hp} {w w' : World} {F : Nat → Prop} (h : HpOk Γ En V nx H w) (hk : Keep F w w') (hF : ∀ i, F i → En.F0 i ∨ En.w0.heap.size ≤ i) (hX : ∀ c i, (lk H c).isSome = true → V.β c i → ¬ F i) : HpOk Γ En V nx H w' :=
  ⟨⟨fun c ch hc => ch.stab (h.hr.ok c ch hc) hk (hX c · (by rw [hc]; rfl)), h.hr.keep.then hk fun i hi hf => (hF i hf).resolve_right (by omega), h.hr.errs, h.hr.eF⟩, h.hb, h.apart, fun c hc i hi => ⟨(h.foot c hc i hi).1, Nat.lt_of_lt_of_le (h.foot c hc i hi).2 hk.size⟩⟩
theorem keep_putObj (w : World) (l : Nat) (o : Obj) : Keep (fun i => i = l) w (w.putObj l o) :=
  ⟨rfl, rfl, rfl, by simp [World.putObj], Nat.le_refl _, fun j hj hn => World.putObj_heap_other (fun e => hn e)⟩
end
section
variable {κ ν : Type} [DecidableEq κ]
def GivesKeys (P : Program) (gf : FuncId) (A : Addr) (gb : Nat) (kv : κ → Value) (vv : ν → Value) (L : List (κ × ν)) (W0 : World) : Prop :=
  ∀ (l : Nat) (J : List κ → World → Prop), (∀ pre W W', J pre W → Keep (fun i => i = gb ∨ i = W0.heap.size) W W' → J pre W') →
    (∀ pre x W, J pre W → x ∈ L.map (·.1) → pre.length < L.length → W0.heap.size < W.heap.size → YieldAt Fence.wide 0 P l #[kv x] W fun e W' => e = .returned (.bool true) ∧ J (pre ++ [x]) W' ∧ Keep (fun i => i ≠ gb ∧ i ≠ W0.heap.size) W W') →
    J [] W0 → CallsIn Fence.wide 0 P gf #[.func (.yield l) #[] #[], .pointer (some A)] W0 fun e W' => (∃ v, e = .returned v) ∧ ∃ xs, xs.Perm (L.map (·.1)) ∧ J xs W' ∧ MapAt W' gb kv vv L
theorem callsIn_any {P : Program} {f : FuncId} {args : Array Value} {w : World} {R : Ending → World → Prop} {n : Nat} (m : Nat) (h : CallsIn Fence.wide n P f args w R) : CallsIn Fence.wide m P f args w R := callsIn_wide.2 (callsIn_wide.1 h)
theorem roundIn_any {P : Program} {l : Nat} {f : FuncId} {tmps : Array Value} {as_ body : Code} {w : World} {R : Ending → World → Prop} {n : Nat} (m : Nat) (h : RoundIn Fence.wide n P l f tmps as_ body w R) : RoundIn Fence.wide m P l f tmps as_ body w R :=
  ⟨trivial, fun c cs _ => h.2 c cs (room_wide _)⟩
def dfrPr (D : Nat) : Pr where
  ok a B w := (∀ i, B i ↔ i = D) ∧ w.heap[D]? = some (.deferred (some []))
  stab h hk hn := ⟨h.1, hk.obj h.2 (hn _ ((h.1 _).2 rfl))⟩
  lt h hi := by rw [(h.1 _).1 hi]; exact (Array.getElem?_eq_some_iff.1 h.2).1
theorem run_callFunc {P : Program} {f : FuncId} (h : enters P f) (args : Array Value) (w : World) : (callFunc f args).run P w = .ok (.enter f args) w := by
  obtain ⟨fn, h1, h2, h3⟩ := h
  obtain ⟨c, hc⟩ := Option.isSome_iff_exists.1 h3
  have h4 : ¬ fn.name = "runtime.NumGoroutine" := by simpa using h2
  simp [callFunc, h1, h4, hc]
variable {Γ : Ctx} {n : Nat} {En : Ent} {V : Val} {a : Act} {w : World} {env : Ev} {nx : Nat} {H : Hp}
theorem noRo_set {c : Nat} {Ψ : Pr} : ∀ {H : Hp}, noRo H = true → noRo (setH H c (.pr Ψ)) = true
  | [], h => h
  | (s, e) :: r, h => by
    have hr : noRo r = true := by cases e <;> first | exact h | cases h
    simp only [setH]
    cases Nat.beq s c with
    | true => simp only [cond_true]; first | exact hr | exact noRo_set hr
    | false => simp only [cond_false]; cases e <;> first | exact noRo_set hr | cases h
theorem noRo_drop : ∀ {H : Hp} {ds : List Nat}, noRo H = true → noRo (dropH H ds) = true
  | [], ds, h => h
  | (s, e) :: r, ds, h => by
    have hr : noRo r = true := by cases e <;> first | exact h | cases h
    simp only [dropH]
    cases memB ds s with
    | true => exact noRo_drop hr
    | false => simp only [cond_false]; cases e <;> first | exact noRo_drop hr | cases h
theorem noRo_app : ∀ {H K : Hp}, noRo H = true → noRo K = true → noRo (H ++ K) = true
  | [], K, h, hk => hk
  | (s, e) :: r, K, h, hk => by
    have hr : noRo r = true := by cases e <;> first | exact h | cases h
    simp only [List.cons_append]; cases e <;> first | exact noRo_app hr hk | cases h
theorem lk_app {α : Type _} : ∀ (l m : List (Nat × α)) (c : Nat), lk (l ++ m) c = (lk l c).or (lk m c)
  | [], m, c => by simp [lk]
  | (s, e) :: r, m, c => by
    simp only [List.cons_append, lk_cons]
    split
    · rfl
    · exact lk_app r m c
theorem memB_mem {l : List Nat} {c : Nat} : memB l c = true ↔ c ∈ l := by
  induction l with
  | nil => simp [memB]
  | cons x r ih =>
    simp only [memB, Bool.or_eq_true, ih, List.mem_cons]
    exact ⟨fun h => h.imp (fun h => (beqT h).symm) id, fun h => h.imp (fun h => by rw [h]; exact Nat.beq_refl x) id⟩
theorem range_wp (hΓ : Γ.Ok) {g : Operand} {p : Nat} {as_ body : Code} (hs : StOk Γ n En V a w ⟨env, nx, H⟩) (hds : En.ds = []) (hp : p < n) (gf cb cm : Nat) (tm : TypeId) (ke : VE κ) (ve : VE ν) (L : List (κ × ν))
    (hk : knG env [] [] g = true) (hg : svG env [] [] g = .fn gf [.ptr cb 0]) (hcb : lk H cb = some (.cells tm [.mp cm])) (hcm : lk H cm = some (.pr (mapPr ke ve L))) (hro : noRo H = true) (hen : enters Γ.P gf)
    (hgive : ∀ A gb W0, W0.cell? A = some (.map (some gb)) → MapAt W0 gb ke.val ve.val L → GivesKeys Γ.P gf A gb ke.val ve.val L W0) (hrc : (roundC as_ && roundC body) = true)
    {X : Type} (ph : X → Hp) (gone : List Nat) (I : X → Prop) (ks : X → List κ) (hnr : ∀ x, noRo (ph x) = true) (hcmk : ∀ x, memB (gone ++ keys (ph x)) cm = false)
    (h0 : ∀ ga, ∃ x0, ks x0 = [] ∧ LeS nx ⟨[], nx + 16, ph x0 ++ dropH (setH H cm (.pr (isA ga))) (gone ++ keys (ph x0))⟩ ⟨env, nx, setH H cm (.pr (isA ga))⟩ (I x0))
    (hr : ∀ ga x k, I x → k ∈ L.map (·.1) → (ks x).length < L.length → vc Γ n nx [] as_ ⟨(p, ke.sv k) :: env, nx + 16, ph x ++ dropH (setH H cm (.pr (isA ga))) (gone ++ keys (ph x))⟩ fun e s1 => match e, s1 with
      | .normal, ⟨env1, nx1, H1⟩ => noRo H1 = true ∧ vc Γ n nx [] body ⟨env1, nx1, H1⟩ fun e s2 => match e with
        | .normal => ∃ x', ks x' = ks x ++ [k] ∧ LeS nx ⟨[], nx + 16, ph x' ++ dropH (setH H cm (.pr (isA ga))) (gone ++ keys (ph x'))⟩ s2 (I x')
        | _ => Stuck "a round's end" (.ready 0)
      | _, _ => Stuck "a round's end" (.ready 0)) :
    (Code.rangeFunc g #[p] as_ body).wp Γ.P (fun e a' w' => e = .normal ∧ ∃ D x V', I x ∧ (ks x).Perm (L.map (·.1)) ∧ (∀ d, d < nx → V'.ρ d = V.ρ d) ∧
      StOk Γ n { En with ds := [{ target := .collected D, args := #[] }] } V' a' w' ⟨env, nx + 17, (nx + 16, .pr (dfrPr D)) :: (ph x ++ dropH H (gone ++ keys (ph x)))⟩) a w := by
  obtain ⟨gb, hρm, hβm, hm⟩ := hs.hp.hr.ok cm _ hcm
  obtain ⟨gc, hρc, hβc, hwc, _⟩ := hs.hp.hr.ok cb _ hcb
  have hcn : cm < nx := (hs.hp.hb cm _ hcm).1
  have hbn : cb < nx := (hs.hp.hb cb _ hcb).1
  have hws := hs.hp.hr.keep.size
  have e0 : SV.denL Γ.Δ V.ρ [SV.mp cm] = [.map (some gb)] := by simp [SV.denL, SV.den, hρm]
  rw [e0] at hwc
  have hgcl : gc < w.heap.size := (Array.getElem?_eq_some_iff.1 hwc).1
  have hgbl : gb < w.heap.size := hm.lt
  have he : a.eval g = .func (.func gf) #[] #[.pointer (some ⟨gc, 0, none⟩)] := by
    have := sv_eval hs GdOk.nil (g := []) (fun z hz => by simp at hz) hk
    rw [this, hg]
    simp [SV.den, SV.denL, hρc, sa, addA]
  obtain ⟨ga, hga⟩ : ∃ ga, ga = V.ρ cm := ⟨_, rfl⟩
  obtain ⟨H', hH'⟩ : ∃ H', H' = setH H cm (.pr (isA ga)) := ⟨_, rfl⟩
  obtain ⟨x0, hx0, h0⟩ := h0 ga
  have hr := hr ga
  simp only [← hH'] at h0 hr
  have hlkH' : ∀ d, lk H' d = if d = cm then some (.pr (isA ga)) else lk H d := fun d => by rw [hH', lk_set, hcm]; rfl
  have hroH' : noRo H' = true := hH' ▸ noRo_set hro
  let Hx : X → Hp := fun x => ph x ++ dropH H' (gone ++ keys (ph x))
  have hroX : ∀ x, noRo (Hx x) = true := fun x => noRo_app (hnr x) (noRo_drop hroH')
  obtain ⟨D, hD⟩ : ∃ D, D = w.heap.size := ⟨_, rfl⟩
  rw [← wpIn_wide (n := 0)]
  refine wpIn_rangeFunc fun fn _ => ?_
  obtain ⟨rec, hrec⟩ : ∃ rec : LoopState → Option Code → Loop, rec = fun st pe => { state := st, pending := pe, fn, tmps := a.tmps, params := #[p], assign := as_, body, defers := D } := ⟨_, rfl⟩
  obtain ⟨W1, hW1⟩ : ∃ W1, (w.alloc (.deferred (some []))).alloc (.loop (rec .ready none)) = W1 := ⟨_, rfl⟩
  have hL1 : W1.heap[D + 1]? = some (.loop (rec .ready none)) := by
    rw [← hW1, hD]; have := World.alloc_heap_new (w.alloc (.deferred (some []))) (.loop (rec .ready none)); rwa [World.size_alloc] at this
  have hK1 : W1.heap[D]? = some (.deferred (some [])) := by
    rw [← hW1, hD]; exact (Below.heap_alloc _ _ _ (by simp)).trans (World.alloc_heap_new w _)
  have hs1 : W1.heap.size = D + 2 := by rw [← hW1, hD]; simp
  have hk1 : Keep Nn w W1 := by rw [← hW1]; exact (keep_alloc _ _).trans (keep_alloc _ _)
  have hP1 : HpOk Γ En V nx H W1 := hs.hp.keepNn hk1
  have conv : ∀ {Va Vb : Val} {Wa Wb : World} {nxa nxb : Nat} {Ha Hb : Hp}, HpOk Γ En Va nxa Ha Wa → (∀ c i, (lk Ha c).isSome = true → Va.β c i → i ≠ gb ∧ i ≠ D ∧ i ≠ D + 1 ∧ i ≠ D + 2) →
      (∀ i, Wa.heap.size ≤ i → i < Wb.heap.size → i ≠ gb ∧ i ≠ D ∧ i ≠ D + 1 ∧ i ≠ D + 2) → HpOk Γ (entAt Va Wa Ha nx) Vb nxb Hb Wb → noRo Hb = true →
      HpOk Γ En Vb nxb Hb Wb ∧ (∀ c i, (lk Hb c).isSome = true → Vb.β c i → i ≠ gb ∧ i ≠ D ∧ i ≠ D + 1 ∧ i ≠ D + 2) := fun {Va Vb Wa Wb nxa nxb Ha Hb} ha hxa hxx hb hnb => by
    refine ⟨hb.back hnb (ha.hr.keep.then hb.hr.keep fun i hi hf => ?_) ha.hr.errs ha.hr.eF fun c i h1 h2 => ?_, fun c i h1 h2 => ?_⟩
    · obtain ⟨c, h1, h2⟩ := hf
      exact (ha.foot c h1 i h2).1.resolve_right (by omega)
    · rcases (hb.foot c h1 i h2).1 with ⟨c', q1, q2⟩ | h3
      · exact (ha.foot c' q1 i q2).1
      · exact .inr (Nat.le_trans ha.hr.keep.size h3)
    · have h4 := hb.foot c h1 i h2
      rcases h4.1 with ⟨c', q1, q2⟩ | h3
      · exact hxa c' i q1 q2
      · exact hxx i h3 h4.2
  have ha1 : HpOk Γ En ⟨V.ρ, fun d i => if d = cm then False else V.β d i⟩ nx H' W1 := by
    refine hP1.step (F := Nn) (fun d => d = cm) (fun d => d = cm) (Keep.refl _ _) (fun i _ hf => hf.elim) (Nat.le_refl _) (fun _ _ => rfl) (fun c ch hc hn => ?_) (fun c ch hc hn => ?_) (fun c c' hc hc' _ _ hne => absurd (hc.trans hc'.symm) hne)
    · rw [hlkH', if_neg hn] at hc
      refine ⟨hn, hc, ?_⟩
      funext i
      show (if c = cm then _ else _) = _
      rw [if_neg hn]
    · rw [hlkH', if_pos hn] at hc
      obtain rfl := Option.some.inj hc
      subst hn
      refine ⟨⟨hga.symm, fun i hi => ?_⟩, trivial, hcn, fun i hi => ?_⟩ <;>
      · have hi : (if c = c then False else V.β c i) := hi
        rw [if_pos rfl] at hi; exact hi.elim
  have hx1 : ∀ c i, (lk H' c).isSome = true → (if c = cm then False else V.β c i) → i ≠ gb ∧ i ≠ D ∧ i ≠ D + 1 ∧ i ≠ D + 2 := fun c i h1 h2 => by
    by_cases hc : c = cm
    · rw [if_pos hc] at h2; exact h2.elim
    · rw [if_neg hc] at h2
      rw [hlkH', if_neg hc] at h1
      have h3 := (hs.hp.foot c h1 i h2).2
      refine ⟨fun e => hs.hp.apart c cm h1 (by rw [hcm]; rfl) hc i h2 ((hβm i).2 e), ?_, ?_, ?_⟩ <;> omega
  have hst1 : StOk Γ n (entAt ⟨V.ρ, fun d i => if d = cm then False else V.β d i⟩ W1 H' nx) ⟨V.ρ, fun d i => if d = cm then False else V.β d i⟩ { a with defers := [] } W1 ⟨env, nx, H'⟩ :=
    ⟨rfl, hs.size, hs.env, ha1.anew (F := Nn) (Keep.refl _ _) nx (fun i hf => hf.elim) (fun _ _ _ _ hf => hf.elim) hroH', fun _ _ => rfl, Nat.le_refl _⟩
  obtain ⟨hI0, V0, hst0⟩ := LeS_ok h0 hst1 rfl
  obtain ⟨hp0, hxx0⟩ := conv ha1 hx1 (fun i h1 h2 => by omega) hst0.hp (hroX x0)
  have hb0 : ∀ d, d < nx → V0.ρ d = V.ρ d := fun d hd => hst0.old d hd
  obtain ⟨J, hJ⟩ : ∃ J : List κ → World → Prop, J = fun pre W => W.heap[D + 1]? = some (.loop (rec .ready none)) ∧ W.heap[D]? = some (.deferred (some [])) ∧ ∃ x V', I x ∧ ks x = pre ∧ HpOk Γ En V' (nx + 16) (Hx x) W ∧ (∀ d, d < nx → V'.ρ d = V.ρ d) ∧
      (∀ c i, (lk (Hx x) c).isSome = true → V'.β c i → i ≠ gb ∧ i ≠ D ∧ i ≠ D + 1 ∧ i ≠ D + 2) := ⟨_, rfl⟩
  have hcell1 : W1.cell? ⟨gc, 0, none⟩ = some (.map (some gb)) := by
    have := hk1.obj hwc id
    simp [World.cell?, this]
  refine ⟨D + 1, [{ target := .collected D, args := #[] }], W1, { target := .fn (.func gf) #[.pointer (some ⟨gc, 0, none⟩)], args := #[.func (.yield (D + 1)) #[] #[]] }, W1, gf, #[.func (.yield (D + 1)) #[] #[], .pointer (some ⟨gc, 0, none⟩)], W1, ?_, ?_, fun _ _ => trivial, ?_, fun h => (by cases h), ?_⟩
  · rw [← hW1, hrec, hD]; exact run_enterLoop_outer _ _ _ _ _
  · have ec : a.eval (.const (.func (.yield (D + 1)) #[] #[])) = .func (.yield (D + 1)) #[] #[] := rfl
    simp [resolve, rangeCall, he, Deferred.ofValue, ec]
  · have := run_callFunc hen #[.func (.yield (D + 1)) #[] #[], .pointer (some ⟨gc, 0, none⟩)] W1
    simpa [invoke] using this
  refine callsIn_any _ (CallsIn.mono (hgive _ gb W1 hcell1 (hm.keep hk1 id) (D + 1) J ?_ ?_ ?_) ?_)
  · 
    intro pre W W' hj hkk
    rw [hs1] at hkk
    rw [hJ] at hj ⊢
    obtain ⟨q1, q2, x, V', q3, q4, q5, q6, q7⟩ := hj
    refine ⟨hkk.obj q1 (by omega), hkk.obj q2 (by omega), x, V', q3, q4, q5.other hkk (fun i hi => ?_) (fun c i h1 h2 hf => hf.elim (q7 c i h1 h2).1 (q7 c i h1 h2).2.2.2), q6, q7⟩
    rcases hi with rfl | rfl
    · exact (hs.hp.foot cm (by rw [hcm]; rfl) _ ((hβm _).2 rfl)).1
    · exact .inr (by omega)
  · 
    intro pre k W hj hkL hlen hWs
    rw [hs1] at hWs
    rw [hJ] at hj
    obtain ⟨q1, q2, x, V', q3, q4, q5, q6, q7⟩ := hj
    have hy := run_yield (P := Γ.P) (args := #[ke.val k]) q1 (by rw [hrec]; rfl)
    rw [hrec] at hy
    have hrc := Bool.and_eq_true _ _ ▸ hrc
    have hax := q5.anew (F := Nn) (Keep.refl _ _) nx (fun i hf => hf.elim) (fun _ _ _ _ hf => hf.elim) (hroX x)
    have hst : StOk Γ n (entAt V' W (Hx x) nx) V' { tmps := (#[p].zip #[ke.val k]).foldl (fun t (p, v) => t.setIfInBounds p v) a.tmps, defers := [] } W ⟨(p, ke.sv k) :: env, nx + 16, Hx x⟩ := by
      refine ⟨rfl, by simpa using hs.size, fun t v hv => ?_, hax, fun _ _ => rfl, Nat.le_add_right _ _⟩
      have hz : (#[p].zip #[ke.val k]).foldl (fun t (p, v) => t.setIfInBounds p v) a.tmps = a.tmps.setIfInBounds p (ke.val k) := by simp
      simp only [hz]
      rw [lk_cons] at hv
      split at hv
      · rename_i e
        obtain rfl := Option.some.inj hv
        subst e
        have := hs.size
        exact ⟨by rw [Array.getElem?_setIfInBounds_self_of_lt (by omega), ke.den], bd_mono (Nat.zero_le _) _ (ke.bd k)⟩
      · rename_i e
        obtain ⟨r1, r2⟩ := hs.env t v hv
        exact ⟨by rw [Array.getElem?_setIfInBounds_ne (fun h => e h.symm), r1]; exact congrArg some (den_congr (fun d hd => (q6 d hd).symm) v r2), bd_mono (Nat.le_add_right _ _) v r2⟩
    refine ⟨fn, _, as_, body, hy, roundIn_of_wpIn trivial (wpIn_mono (vc_round hΓ rfl (D + 1) 0 as_ hrc.1 (fun s h => ?_) (hr x k q3 hkL (by rw [q4]; exact hlen)) hst) fun e a1 w1 hq => ?_)⟩
    · obtain ⟨_, _, _⟩ := s; exact (h : Stuck _ _).no.elim
    obtain ⟨Va, ⟨env1, nx1, H1⟩, hsa, hq⟩ := hq
    cases e with
    | normal =>
      obtain ⟨hn1, hq⟩ := hq
      obtain ⟨ha1, hxa⟩ := conv q5 q7 (fun i h1 h2 => by omega) hsa.hp hn1
      have hkW1 : Keep (fun i => i ≠ gb ∧ i ≠ D ∧ i ≠ D + 1 ∧ i ≠ D + 2) W w1 := hsa.hp.hr.keep.mono fun i _ hf => by obtain ⟨c, r1, r2⟩ := hf; exact q7 c i r1 r2
      have hl1 := hkW1.obj q1 (fun h => h.2.2.1 rfl)
      have hd1 := hkW1.obj q2 (fun h => h.2.1 rfl)
      refine ⟨_, run_beginRound hl1 (by rw [hrec]), ?_⟩
      have hl1l : D + 1 < w1.heap.size := (Array.getElem?_eq_some_iff.1 hl1).1
      obtain ⟨w2, hw2⟩ : ∃ w2, w1.putObj (D + 1) (.loop { rec .ready none with state := .busy }) = w2 := ⟨_, rfl⟩
      have hk12 : Keep (fun i => i = D + 1) w1 w2 := hw2 ▸ keep_putObj _ _ _
      have hl2 : w2.heap[D + 1]? = some (.loop { rec .ready none with state := .busy }) := by rw [← hw2]; exact World.putObj_heap_same hl1l
      have hd2 := hk12.obj hd1 (by omega)
      rw [hw2]
      have hP2 : HpOk Γ En Va nx1 H1 w2 := ha1.other hk12 (fun i hi => .inr (by omega)) (fun c i h1 h2 => (hxa c i h1 h2).2.2.1)
      have hst2 : StOk Γ n (entAt Va w2 H1 nx) Va a1 w2 ⟨env1, nx1, H1⟩ := ⟨hsa.dfr, hsa.size, hsa.env, hP2.anew (F := Nn) (Keep.refl _ _) nx (fun i hf => hf.elim) (fun _ _ _ _ hf => hf.elim) hn1, fun _ _ => rfl, hsa.n0⟩
      refine wpIn_mono (vc_round hΓ rfl (D + 1) 0 body hrc.2 (fun s h => (h : Stuck _ _).no.elim) hq hst2) fun e a3 w3 hq => ?_
      obtain ⟨Vb, s3, hsb, hq⟩ := hq
      cases e with
      | normal =>
        obtain ⟨x', hx', hq⟩ := hq
        obtain ⟨hI', V3, hs3⟩ := LeS_ok hq hsb rfl
        obtain ⟨hp3, hx3⟩ := conv hP2 hxa (fun i h1 h2 => by have := hk12.size; have := hkW1.size; omega) hs3.hp (hroX x')
        have hk23 : Keep (fun i => i ≠ gb ∧ i ≠ D ∧ i ≠ D + 1 ∧ i ≠ D + 2) w2 w3 := hs3.hp.hr.keep.mono fun i _ hf => by obtain ⟨c, r1, r2⟩ := hf; exact hxa c i r1 r2
        have hl3 := hk23.obj hl2 (fun h => h.2.2.1 rfl)
        have hd3 := hk23.obj hd2 (fun h => h.2.1 rfl)
        have hl3l : D + 1 < w3.heap.size := (Array.getElem?_eq_some_iff.1 hl3).1
        refine ⟨_, _, run_endRound none hl3, rfl, ?_, ?_⟩
        · rw [hJ]
          refine ⟨by rw [World.putObj_heap_same hl3l, hrec]; rfl, (keep_putObj _ _ _).obj hd3 (by omega), x', V3, hI', by rw [hx', q4], hp3.other (keep_putObj _ _ _) (fun i hi => .inr (by omega)) (fun c i h1 h2 => (hx3 c i h1 h2).2.2.1), fun d hd => ?_, hx3⟩
          rw [hs3.old d hd]
          show Va.ρ d = _
          rw [hsa.old d hd]
          exact q6 d hd
        · have m1 : Keep (fun i => i ≠ gb ∧ i ≠ W1.heap.size) W w1 := hkW1.mono fun i _ h => ⟨h.1, by omega⟩
          have m2 : Keep (fun i => i ≠ gb ∧ i ≠ W1.heap.size) w1 w2 := hk12.mono fun i _ h => by omega
          have m3 : Keep (fun i => i ≠ gb ∧ i ≠ W1.heap.size) w2 w3 := hk23.mono fun i _ h => ⟨h.1, by omega⟩
          exact ((m1.trans m2).trans m3).trans ((keep_putObj _ _ _).mono fun i _ h => by omega)
      | _ => exact (hq : Stuck _ _).no.elim
    | _ => exact (hq : Stuck _ _).no.elim
  · rw [hJ]
    exact ⟨hL1, hK1, x0, V0, hI0, hx0, hp0, hb0, hxx0⟩
  · 
    rintro e w5 ⟨⟨v, rfl⟩, xs, hperm, hj, hm5⟩
    rw [hJ] at hj
    obtain ⟨q1, q2, x, V', q3, rfl, q5, q6, q7⟩ := hj
    refine ⟨none, _, by have := run_endLoop (P := Γ.P) q1 (by rw [hrec]; simp); rw [hrec] at this; exact this, rfl, D, x, ⟨fun d => if d = nx + 16 then some ⟨D, 0, none⟩ else V'.ρ d, fun d i => if d = nx + 16 then i = D else if d = cm then i = gb else V'.β d i⟩, q3, hperm, fun d hd => ?_, ?_⟩
    · show (if d = nx + 16 then _ else V'.ρ d) = _
      rw [if_neg (by omega)]; exact q6 d hd
    have hkp : Keep (fun i => i = D + 1) w5 (w5.putObj (D + 1) (.loop { rec .ready none with state := .exhausted })) := keep_putObj _ _ _
    rw [hrec] at hkp
    obtain ⟨w6, hw6⟩ : ∃ w6, w5.putObj (D + 1) (.loop { state := .exhausted, pending := none, fn, tmps := a.tmps, params := #[p], assign := as_, body, defers := D }) = w6 := ⟨_, rfl⟩
    simp only at hkp ⊢
    rw [hw6] at hkp ⊢
    have q5 := q5.other hkp (fun i hi => .inr (by omega)) (fun c i h1 h2 => (q7 c i h1 h2).2.2.1)
    have hm6 : MapAt w6 gb ke.val ve.val L := hm5.keep hkp (by omega)
    have hd6 := hkp.obj q2 (by omega)
    have hnk : lk (ph x) cm = none := by
      cases hq : lk (ph x) cm with
      | none => rfl
      | some ch =>
        have h1 := keys_mem (lk_mem hq)
        have h2 : memB (gone ++ keys (ph x)) cm = true := memB_mem.2 (List.mem_append_right _ h1)
        rw [hcmk x] at h2; cases h2
    have hf : ∀ c, lk (ph x ++ dropH H (gone ++ keys (ph x))) c = if c = cm then some (.pr (mapPr ke ve L)) else lk (Hx x) c := fun c => by
      have e1 : lk (Hx x) c = (lk (ph x) c).or (lk (dropH H' (gone ++ keys (ph x))) c) := lk_app _ _ _
      rw [e1, lk_app]
      by_cases hc : c = cm
      · subst hc
        rw [if_pos rfl, hnk]
        simp only [lk_drop, hcmk, hcm]; rfl
      · rw [if_neg hc]
        simp only [lk_drop, hlkH', if_neg hc]
    have hcmX : lk (Hx x) cm = some (.pr (isA ga)) := by
      have e1 : lk (Hx x) cm = (lk (ph x) cm).or (lk (dropH H' (gone ++ keys (ph x))) cm) := lk_app _ _ _
      rw [e1, hnk]
      simp only [lk_drop, hcmk, hlkH', if_true]; rfl
    have hlt : ∀ c ch, lk (Hx x) c = some ch → c < nx + 16 := fun c ch hc => (q5.hb c ch hc).1
    have hfx : ∀ c, c ≠ nx + 16 → c ≠ cm → ∀ ch, lk ((nx + 16, Ch.pr (dfrPr D)) :: (ph x ++ dropH H (gone ++ keys (ph x)))) c = some ch → lk (Hx x) c = some ch := fun c h1 h2 ch hc => by
      rw [lk_cons, if_neg h1, hf, if_neg h2] at hc; exact hc
    have hβ : ∀ c i, (if c = nx + 16 then i = D else if c = cm then i = gb else V'.β c i) → (lk ((nx + 16, Ch.pr (dfrPr D)) :: (ph x ++ dropH H (gone ++ keys (ph x)))) c).isSome = true → (c = nx + 16 ∧ i = D) ∨ (c = cm ∧ i = gb) ∨ (c ≠ nx + 16 ∧ c ≠ cm ∧ V'.β c i ∧ (lk (Hx x) c).isSome = true) := fun c i h1 h2 => by
      by_cases e1 : c = nx + 16
      · rw [if_pos e1] at h1; exact .inl ⟨e1, h1⟩
      · rw [if_neg e1] at h1
        by_cases e2 : c = cm
        · rw [if_pos e2] at h1; exact .inr (.inl ⟨e2, h1⟩)
        · rw [if_neg e2] at h1
          obtain ⟨ch, hc⟩ := Option.isSome_iff_exists.1 h2
          exact .inr (.inr ⟨e1, e2, h1, by rw [hfx c e1 e2 ch hc]; rfl⟩)
    refine ⟨by show _ ++ a.defers = _; rw [hs.dfr, hds]; rfl, hs.size, fun t v hv => ?_, ⟨⟨fun c ch hc => ?_, q5.hr.keep, q5.hr.errs, q5.hr.eF⟩, fun c ch hc => ?_, fun c c' hc hc' hne i hi hi' => ?_, fun c hc i hi => ?_⟩, fun c hc => ?_, Nat.le_trans hs.n0 (Nat.le_add_right _ _)⟩
    · obtain ⟨r1, r2⟩ := hs.env t v hv
      refine ⟨r1.trans (congrArg some (den_congr (fun d hd => ?_) v r2)), bd_mono (Nat.le_add_right _ _) v r2⟩
      show _ = (if d = nx + 16 then _ else V'.ρ d)
      have hd : d < nx := hd
      rw [if_neg (by omega), q6 d hd]
    · by_cases e1 : c = nx + 16
      · rw [lk_cons, if_pos e1] at hc
        obtain rfl := Option.some.inj hc
        subst e1
        exact ⟨fun i => by show (if nx + 16 = nx + 16 then _ else _) ↔ _; rw [if_pos rfl], hd6⟩
      · by_cases e2 : c = cm
        · rw [lk_cons, if_neg e1, hf, if_pos e2] at hc
          obtain rfl := Option.some.inj hc
          subst e2
          refine ⟨gb, ?_, fun i => ?_, hm6⟩
          · show (if c = nx + 16 then _ else V'.ρ c) = _
            rw [if_neg e1, q6 c hcn]; exact hρm
          · show (if c = nx + 16 then _ else if c = c then _ else _) ↔ _
            rw [if_neg e1, if_pos rfl]
        · have hc := hfx c e1 e2 ch hc
          have hb := q5.hb c ch hc
          refine ch.congr (V := V') (V' := ⟨fun d => if d = nx + 16 then some ⟨D, 0, none⟩ else V'.ρ d, fun d i => if d = nx + 16 then i = D else if d = cm then i = gb else V'.β d i⟩) (Ch.anyEn _ (noRo_at (hroX x) hc) (q5.hr.ok c ch hc)) hb.2 hb.1 (fun d hd => if_neg (by omega)) ?_
          funext i
          show (if c = nx + 16 then _ else if c = cm then _ else _) = _
          rw [if_neg e1, if_neg e2]
    · by_cases e1 : c = nx + 16
      · rw [lk_cons, if_pos e1] at hc
        obtain rfl := Option.some.inj hc
        exact ⟨by show c < nx + 17; omega, trivial⟩
      · by_cases e2 : c = cm
        · rw [lk_cons, if_neg e1, hf, if_pos e2] at hc
          obtain rfl := Option.some.inj hc
          exact ⟨by show c < nx + 17; omega, trivial⟩
        · obtain ⟨r1, r2⟩ := q5.hb c ch (hfx c e1 e2 ch hc)
          exact ⟨by show c < nx + 17; omega, ch.bd_mono (by show _ ≤ nx + 17; omega) r2⟩
    · rcases hβ c i hi hc with ⟨e1, r1⟩ | ⟨e1, r1⟩ | ⟨e1, e2, r1, r2⟩ <;> rcases hβ c' i hi' hc' with ⟨e1', r1'⟩ | ⟨e1', r1'⟩ | ⟨e1', e2', r1', r2'⟩
      · exact hne (e1.trans e1'.symm)
      · omega
      · exact (q7 c' i r2' r1').2.1 r1
      · omega
      · exact hne (e1.trans e1'.symm)
      · exact (q7 c' i r2' r1').1 r1
      · exact (q7 c i r2 r1).2.1 r1'
      · exact (q7 c i r2 r1).1 r1'
      · exact q5.apart c c' r2 r2' hne i r1 r1'
    · rcases hβ c i hi hc with ⟨e1, r1⟩ | ⟨e1, r1⟩ | ⟨e1, e2, r1, r2⟩
      · exact ⟨.inr (by show En.w0.heap.size ≤ i; omega), by rw [r1]; exact (Array.getElem?_eq_some_iff.1 hd6).1⟩
      · have := hs.hp.foot cm (by rw [hcm]; rfl) i ((hβm i).2 r1)
        exact ⟨this.1, by rw [r1]; exact hm6.lt⟩
      · exact q5.foot c r2 i r1
    · show (if c = nx + 16 then _ else V'.ρ c) = _
      have hc : c < En.n0 := hc
      have := hs.n0
      have hnn : En.n0 ≤ nx := this
      rw [if_neg (by omega), q6 c (by omega)]
      exact hs.old c hc
def phK (H P : Hp) (gone : List Nat) (nx : Nat) (K : Nat → Hp → Prop) : Prop := dropHK H (gone ++ keys P) fun h => appK' P h fun h => litK (nx + 16) fun n => K n h
theorem phK_eq (H P : Hp) (gone : List Nat) (nx : Nat) (K : Nat → Hp → Prop) : phK H P gone nx K = K (nx + 16) (P ++ dropH H (gone ++ keys P)) := by simp only [phK, dropHK_eq, appK'_eq, litK_eq]
structure RangeAt (Γ : Ctx) (n n0 : Nat) (g : Operand) (ps : Array Nat) (as_ body : Code) (s : St) (Q : Nat → Nat → St → Prop) : Prop where
  h : ∀ En V a w, En.n0 = n0 → En.ds = [] → StOk Γ n En V a w s → (Code.rangeFunc g ps as_ body).wp Γ.P (fun e a' w' => e = .normal ∧ ∃ D cD V' s', StOk Γ n { En with ds := [{ target := .collected D, args := #[] }] } V' a' w' s' ∧ Q cD D s') a w
theorem rangeAt_rule (hΓ : Γ.Ok) {n0 : Nat} {g : Operand} {p : Nat} {as_ body : Code} {Q : Nat → Nat → St → Prop} (hp : Nat.blt p n = true) (gf cb cm : Nat) (tm : TypeId) (ke : VE κ) (ve : VE ν) (L : List (κ × ν))
    (hk : knG env [] [] g = true) (hg : svG env [] [] g = .fn gf [.ptr cb 0]) (hcb : lk H cb = some (.cells tm [.mp cm])) (hcm : lk H cm = some (.pr (mapPr ke ve L))) (hro : noRo H = true) (hen : enters Γ.P gf)
    (hgive : ∀ A gb W0, W0.cell? A = some (.map (some gb)) → MapAt W0 gb ke.val ve.val L → GivesKeys Γ.P gf A gb ke.val ve.val L W0) (hrc : (roundC as_ && roundC body) = true)
    {X : Type} (ph : X → Hp) (gone : List Nat) (I : X → Prop) (ks : X → List κ) (hnr : ∀ x, noRo (ph x) = true) (hcmk : ∀ x, memB (gone ++ keys (ph x)) cm = false)
    (h0 : ∀ ga, setK H cm (.pr (isA ga)) fun H' => ∃ x0, ks x0 = [] ∧ phK H' (ph x0) gone nx fun n' h => LeS nx ⟨[], n', h⟩ ⟨env, nx, H'⟩ (I x0))
    (hr : ∀ ga x k, I x → k ∈ L.map (·.1) → (ks x).length < L.length → setK H cm (.pr (isA ga)) fun H' => phK H' (ph x) gone nx fun n' h => kval (ke.sv k) fun kv => vc Γ n nx [] as_ ⟨(p, kv) :: env, n', h⟩ fun e s1 => match e, s1 with
      | .normal, ⟨env1, nx1, H1⟩ => noRo H1 = true ∧ vc Γ n nx [] body ⟨env1, nx1, H1⟩ fun e s2 => match e with
        | .normal => ∃ x', ks x' = ks x ++ [k] ∧ phK H' (ph x') gone nx fun n' h => LeS nx ⟨[], n', h⟩ s2 (I x')
        | _ => Stuck "a round's end" (.ready 0)
      | _, _ => Stuck "a round's end" (.ready 0))
    (hd : ∀ D x, I x → (ks x).Perm (L.map (·.1)) → phK H (ph x) gone nx fun n' h => litK (n' + 1) fun n2 => Q n' D ⟨env, n2, (n', .pr (dfrPr D)) :: h⟩) :
    RangeAt Γ n n0 g #[p] as_ body ⟨env, nx, H⟩ Q := by
  refine ⟨fun En V a w hn0 hds hs => ?_⟩
  refine wp_mono (range_wp hΓ hs hds (by simpa [Nat.blt_eq] using hp) gf cb cm tm ke ve L hk hg hcb hcm hro hen hgive hrc ph gone I ks hnr hcmk (fun ga => ?_) (fun ga x k hx hkL hlen => ?_)) fun e a' w' hq => ?_
  · have := h0 ga
    rw [setK_eq] at this
    obtain ⟨x0, h1, h2⟩ := this
    rw [phK_eq] at h2
    exact ⟨x0, h1, h2⟩
  · have := hr ga x k hx hkL hlen
    rw [setK_eq, phK_eq, kval_eq] at this
    simp only [phK_eq] at this
    exact this
  · obtain ⟨he, D, x, V', h1, h2, h3, h4⟩ := hq
    have := hd D x h1 h2
    rw [phK_eq, litK_eq] at this
    exact ⟨he, D, _, V', _, h4, this⟩
def RetKD (Γ : Ctx) (S : Spec) (rs : List ResultVar) (cD D : Nat) : Exit → St → Prop
  | .normal, ⟨env, nx, H⟩ => lk H cD = some (.pr (dfrPr D)) ∧ delK H cD fun H => resK Γ H env rs fun l => ∃ x, mt S.n0 S.n1 (S.ret x) (resS l) [] fun τ => mtH S.n0 S.n1 (S.post x) H τ (S.cond x)
  | .ret, ⟨env, nx, H⟩ => lk H cD = some (.pr (dfrPr D)) ∧ delK H cD fun H => resK Γ H env rs fun l => ∃ x, mt S.n0 S.n1 (S.ret x) (resS l) [] fun τ => mtH S.n0 S.n1 (S.post x) H τ (S.cond x)
  | _, _ => Stuck "an exit" (.ready 0)
theorem HpOk.shut {cD D : Nat} (h : HpOk Γ En V nx H w) (hc : lk H cD = some (.pr (dfrPr D))) : HpOk Γ En V nx (delH H cD) (w.putObj D (.deferred none)) := by
  obtain ⟨h1, h2⟩ := h.hr.ok cD _ hc
  refine h.step (F := fun i => i = D) (fun c => c = cD) (fun _ => False) (keep_putObj _ _ _) (fun i _ hi => ⟨cD, rfl, by rw [hc]; rfl, (h1 i).2 hi⟩) (Nat.le_refl _) (fun _ _ => rfl) (fun c ch hq _ => ?_) (fun _ _ _ hn => hn.elim) (fun _ _ hn => hn.elim)
  rw [lk_del] at hq
  split at hq
  · cases hq
  · rename_i hne; exact ⟨hne, hq, rfl⟩
def RPost (Γ : Ctx) (S : Spec) (V : Val) (w : World) : Value → World → Prop := fun v w' => ∃ x V', S.cond x ∧ v = (S.ret x).den Γ.Δ V'.ρ ∧ (S.ret x).bd S.n1 ∧ (∀ d, d < S.n0 → V'.ρ d = V.ρ d) ∧ HpOk Γ (entOf V w S.H S.n0) V' S.n1 (S.post x) w'
theorem range_core (hΓ : Γ.Ok) {fn : Func} {C B as_ body : Code} {i : Nat} {g : Operand} {ps : Array Nat} {S : Spec} {js : List Nat} {V V1 : Val} {w w1 : World} {s1 : St} {a : Act} (hn : S.n0 ≤ S.n1) (hs1 : StOk Γ fn.ntmps (entOf V w S.H S.n0) V1 a w1 s1)
    (h : vc Γ fn.ntmps S.n0 js C s1 fun e s => match e with
        | .normal => RangeAt Γ fn.ntmps S.n0 g ps as_ body s fun cD D s => vc Γ fn.ntmps S.n0 js B s (RetKD Γ S fn.results.toList cD D)
        | _ => Stuck "ahead of the loop" (.ready 0)) : (Code.seq (.seq C (.block i (.rangeFunc g ps as_ body))) B).wp Γ.P (bodyPostM Fence.wide 0 Γ.P fn (Ret (RPost Γ S V w))) a w1 := by
  refine wp_seq (wp_seq (wp_mono (vc_ok hΓ (En := entOf V w S.H S.n0) rfl C h hs1) fun e a w2 hq => ?_))
  obtain ⟨V2, s2, hs2, hq⟩ := hq
  cases e with
  | normal =>
    refine wp_block (wp_mono (hq.h (entOf V w S.H S.n0) V2 a w2 rfl rfl hs2) fun e a3 w3 hq => ?_)
    obtain ⟨rfl, D, cD, V3, s3, hs3, hq⟩ := hq
    refine wp_mono (vc_ok hΓ (En := { entOf V w S.H S.n0 with ds := [{ target := .collected D, args := #[] }] }) rfl B hq hs3) fun e a4 w4 hq => ?_
    obtain ⟨V', ⟨env, nx, H⟩, hs', hq⟩ := hq
    have fin : (lk H cD = some (.pr (dfrPr D)) ∧ delK H cD fun H => resK Γ H env fn.results.toList (fun l => ∃ x, mt S.n0 S.n1 (S.ret x) (resS l) [] fun τ => mtH S.n0 S.n1 (S.post x) H τ (S.cond x))) →
        LeavesInM Fence.wide 0 Γ.P fn a4.tmps (Ret (RPost Γ S V w)) a4.defers .returning w4 := fun hq => by
      obtain ⟨hc, hq⟩ := hq
      rw [delK_eq] at hq
      have hsh := hs'.hp.shut hc
      have hst : StOk Γ fn.ntmps { entOf V w S.H S.n0 with ds := [{ target := .collected D, args := #[] }] } V' a4 (w4.putObj D (.deferred none)) ⟨env, nx, delH H cD⟩ := ⟨hs'.dfr, hs'.size, hs'.env, hsh, hs'.old, hs'.n0⟩
      obtain ⟨l, ⟨x, h3⟩, h4, h5⟩ := results_ok hΓ hst hq
      obtain ⟨τ1, e1, e2, e3, e4, e5⟩ := mt_ok (Δ := Γ.Δ) hn _ _ [] _ ⟨fun c y h => by simp [lk] at h⟩ h3
      obtain ⟨τ2, g1, g2, g3, g4⟩ := mtH_ok (Γ := Γ) hn e2 e3
      have hag := ag_of V' g2
      have hdf : a4.defers = [{ target := .collected D, args := #[] }] := hs'.dfr
      rw [hdf]
      refine ⟨by simp, .inl ⟨D, _, rfl, run_takeDeferred (hs'.hp.hr.ok cD _ hc).2, ?_⟩⟩
      refine ⟨_, h5, _, rfl, x, V'.img S.n0 τ2, g3, ?_, e4, fun d hd => ?_, ?_⟩
      · exact (e5 _ _ (hag.sub g1)).symm
      · rw [hag.old d hd]
        exact hs'.old d hd
      · exact g4 (entOf V w S.H S.n0) _ _ _ ⟨⟨fun c ch h => hsh.hr.ok c ch h, hsh.hr.keep, hsh.hr.errs, hsh.hr.eF⟩, hsh.hb, hsh.apart, hsh.foot⟩
    cases e with
    | normal => exact fin hq
    | ret => exact fin hq
    | _ => exact (hq : Stuck _ _).no.elim
  | _ => exact (hq : Stuck _ _).no.elim
theorem fn_range (hΓ : Γ.Ok) {f : FuncId} {fn : Func} {A C B as_ body : Code} {i : Nat} {g : Operand} {ps : Array Nat} {S : Spec} (n n0 : Nat) (js : List Nat) (hf : Γ.P.funcs[f]? = some fn) (hb : fn.body = some (.seq A (.seq (.seq C (.block i (.rangeFunc g ps as_ body))) B))) (hnm : (fn.name == "runtime.NumGoroutine") = false) (hnt : fn.ntmps = n) (hn0 : S.n0 = n0) (hck : chkFn S n = true)
    (h : vc Γ n n0 js A ⟨argE 0 S.args, n0, S.H⟩ fun e s => match e with
      | .normal => vc Γ n n0 js C s fun e s => match e with
        | .normal => RangeAt Γ n n0 g ps as_ body s fun cD D s => vc Γ n n0 js B s (RetKD Γ S fn.results.toList cD D)
        | _ => Stuck "ahead of the loop" (.ready 0)
      | _ => Stuck "ahead of the loop" (.ready 0)) : Does Γ f S := by
  refine DoesC.does ?_
  subst hnt
  subst hn0
  simp only [chkFn, Bool.and_eq_true] at hck
  have hn := Nat.le_of_ble_eq_true hck.1.1.1
  have hle := Nat.le_of_ble_eq_true hck.1.1.2
  have hbd := bdLB_ok _ hck.1.2
  refine ⟨hn, hbd, hbB_ok hck.2, ⟨fn, hf, hnm, by rw [hb]; rfl⟩, fun V w hp => ?_⟩
  refine callsIn_wide.1 (callsIn_of_wp_marks (n := 0) hf hb trivial (wpIn_wide.2 ?_))
  have hs : StOk Γ fn.ntmps (entOf V w S.H S.n0) V { tmps := (SV.denL Γ.Δ V.ρ S.args).toArray ++ Array.replicate (fn.ntmps - (SV.denL Γ.Δ V.ρ S.args).toArray.size) undef, defers := [] } w ⟨argE 0 S.args, S.n0, S.H⟩ := by
    refine ⟨rfl, by simp [denL_len]; omega, fun t v hv => ?_, hp, fun c hc => rfl, Nat.le_refl _⟩
    obtain ⟨_, h2⟩ := argE_get hv
    simp only [Nat.sub_zero] at h2
    refine ⟨?_, bdL_mem.1 hbd v (List.mem_of_getElem? h2)⟩
    have hlt : t < (SV.denL Γ.Δ V.ρ S.args).toArray.size := by simp [denL_len]; exact (List.getElem?_eq_some_iff.1 h2).1
    show ((SV.denL Γ.Δ V.ρ S.args).toArray ++ Array.replicate _ undef)[t]? = _
    rw [Array.getElem?_append_left hlt]
    simp [denL_get, h2]
  refine wp_seq (wp_mono (vc_ok hΓ (En := entOf V w S.H S.n0) rfl A h hs) fun e a w1 hq => ?_)
  obtain ⟨V1, s1, hs1, hq⟩ := hq
  cases e with
  | normal =>
    exact range_core hΓ hn hs1 hq
  | _ => exact (hq : Stuck _ _).no.elim
end
end Go.Zz
namespace Go.Zz
open Go.Px Go.RowKit
set_option linter.unusedVariables false
set_option linter.unusedSimpArgs false
set_option linter.unusedSectionVars false
theorem op_wide {P : Program} {o : Oper} {a : Act} {w : World} {m : Nat} {next next' : Act → World → Prop} {Q Q' : Exit → Act → World → Prop} (hn : ∀ a w, next a w → next' a w) (hp : ∀ c a w, ¬ Q (.panic c) a w) (ho : ¬ LetsOut Q)
    (h : o.wp P a w next Q) : o.wpIn Fence.wide m P a w next' Q' := by
  refine ⟨fun _ _ => trivial, ?_⟩
  have e : o.semAt Fence.wide.round a.eval = execOp a.eval o := rfl
  rw [e]
  unfold Oper.wp at h
  generalize (execOp a.eval o).run P w = r at h ⊢
  cases r with
  | ok nxt w' =>
    cases nxt with
    | value v => exact hn _ _ h
    | skip => exact hn _ _ h
    | defer d => exact hn _ _ h
    | enter f args =>
      refine ⟨fun h => (by cases h), (callsIn_wide (n := m - 1)).2 (Calls.mono h fun e w' he => ?_)⟩
      cases e with
      | returned v => exact hn _ _ he
      | panicked c => exact absurd he (hp _ _ _)
      | outgrown => exact absurd he ho
    | row r args => exact ⟨fun h => (by cases h), fun c cs _ => let ⟨v, w', hr, hs⟩ := h c cs; ⟨v, w', hn _ _ hr, stepsIn_wide.2 hs⟩⟩
    | _ => exact h.elim
  | halt hh w' =>
    cases hh with
    | panic v => exact absurd h (hp _ _ _)
    | _ => exact h.elim
theorem list_then {P : Program} {ops : Array Oper} {Q Q' : Exit → Act → World → Prop} {m : Nat} {r2 : List Oper} (hp : ∀ c a w, ¬ Q (.panic c) a w) (ho : ¬ LetsOut Q) (k : ∀ a w, Q .normal a w → wpListIn Fence.wide m P ops Q' r2 a w) :
    ∀ {r1 : List Oper} {a : Act} {w : World}, wpList P ops Q r1 a w → wpListIn Fence.wide m P ops Q' (r1 ++ r2) a w
  | [], a, w, h => k a w h
  | o :: r, a, w, h => by
    unfold wpList at h
    simp only [List.cons_append]
    unfold wpListIn
    split at h
    · rename_i hw
      rw [if_pos hw]
      rcases h with h | h
      · exact op_wide (fun a w h => list_then hp ho k h) hp ho h
      · exact absurd h.2 ho
    · rename_i hw
      rw [if_neg hw]
      exact ⟨fun _ _ => trivial, list_then hp ho k h⟩
theorem listIn_value {P : Program} {ops : Array Oper} {Q : Exit → Act → World → Prop} {m : Nat} {o : Oper} {r : List Oper} {a : Act} {w w' : World} {v : Value} (hg : o.guard = none) (hr : (execOp a.eval o).run P w = .ok (.value v) w')
    (k : wpListIn Fence.wide m P ops Q r (a.put o.dst v) w') : wpListIn Fence.wide m P ops Q (o :: r) a w := by
  refine wpListIn_plain hg fun K hK => ⟨fun _ _ => trivial, ?_⟩
  have e : o.semAt Fence.wide.round a.eval = execOp a.eval o := rfl
  rw [e, hr]
  exact hK _ _ k
theorem wpIn_loop_ghost {P : Program} {Q : Exit → Act → World → Prop} {a : Act} {w : World} {c : Code} {m : Nat} (I : Nat → Act → World → Prop) (n₀ : Nat) (h₀ : I n₀ a w)
    (round : ∀ n a w, I n a w → c.wpIn Fence.wide m P (Exit.then (fun a' w' => ∃ n', n' < n ∧ I n' a' w') Q) a w) : (Code.loop c).wpIn Fence.wide m P Q a w := by
  refine wpIn_loop (fun a w => ∃ n, I n a w) (fun a w => leastOf (fun n => I n a w)) ⟨n₀, h₀⟩ ?_
  intro a w hI
  refine wpIn_mono (round _ a w (leastOf_spec hI).1) ?_
  intro e a' w' hq
  cases e with
  | normal =>
    obtain ⟨n', hlt, hI'⟩ := hq
    exact show (∃ n, I n a' w') ∧ leastOf (fun n => I n a' w') < leastOf (fun n => I n a w) from ⟨⟨n', hI'⟩, Nat.lt_of_le_of_lt ((leastOf_spec ⟨n', hI'⟩).2 n' hI') hlt⟩
  | _ => exact hq
section
variable (tm te ty tb : Nat) (p q : String)
def kC1 : Code := .region 1 #[{ dst := some 6, op := .next (.tmp 5) false, type := 0, pos := p, after := #[], guard := none }, { dst := some 7, op := .extract (.tmp 6) 0, type := tb, pos := p, after := #[{ on := 0, ground := .data }], guard := none }] false
def kY : Oper := { dst := some 12, op := .call { callee := .value (.tmp 10), args := #[.tmp 11], argTypes := #[te] }, type := tb, pos := q, after := #[{ on := 0, ground := .data }, { on := 1, ground := .data }], guard := none }
def kN : Oper := { dst := some 13, op := .unOp .not tb (.tmp 12), type := tb, pos := q, after := #[{ on := 2, ground := .data }], guard := none }
def kL0 : Oper := { dst := some 4, op := .load tm (.tmp 1), type := tm, pos := p, after := #[], guard := none }
def kG0 : Oper := { dst := some 5, op := .range tm (.tmp 4), type := 0, pos := p, after := #[{ on := 0, ground := .data }], guard := none }
end
section
variable {κ ν : Type} [DecidableEq κ]
theorem iterC_new {w : World} {g : Nat} {fk : κ → Value} {fv : ν → Value} {L : List (κ × ν)} (hm : MapAt w g fk fv L) : ∃ es clock, w.heap[g]? = some (.map es clock) ∧ IterC (w.alloc (.mapIter (some g) clock #[] clock)) g w.heap.size fk fv L L none := by
  have hlt := hm.lt
  obtain ⟨es, clock, hbk, he, hp, hc⟩ := hm.ex
  refine ⟨es, clock, hbk, ⟨⟨hm.keep (keep_alloc w _) (fun h => h), by omega, ?_, List.Sublist.refl _⟩, fun x v h => by cases h⟩⟩
  exact ⟨es, clock, clock, clock, #[], ((MapKept.heap_alloc w _).2 g hlt).trans hbk, (MapKept.heap_alloc w _).1, hc, Nat.le_refl _, Nat.le_refl _, hp, by rw [List.filter_eq_self.2 (fun x _ => by simp)]; exact he, he⟩
end
end Go.Zz
namespace Go.Zz
open Go.Px Go.RowKit
set_option linter.unusedVariables false
set_option linter.unusedSimpArgs false
set_option linter.unusedSectionVars false
theorem clear_rule {Γ : Ctx} (hΓ : Γ.Ok) {sv : Operand → SV} {nx : Nat} {H : Hp} {K : SV → Nat → Hp → Prop} {X : Operand} {t e : TypeId} {ti te : TI} {α : Type} {en : Enc α} {z : α} (c lo k0 n k sz : Nat) (l : List α)
    (hX : sv X = .sub c lo k0 sz n k) (hti : lk Γ.tb t = some ti) (hu : ti.u = .slice e) (hte : lk Γ.tb e = some te) (hz : en.of te.zero = some z) (hsz : (Nat.beq sz en.sz && Nat.blt 0 en.sz && Nat.beq te.sz en.sz) = true) (hH : lk H c = some (.arr α en e l k0))
    (hn : n = l.length - lo ∧ k = k0 - lo ∧ lo ≤ l.length) (k1 : setK H c (.arr α en e (l.take lo ++ List.replicate (l.length - lo) z) k0) fun H => K (.tup []) nx H) :
    OpGoal Γ sv nx H (.call { callee := .builtin .clear, args := #[X], argTypes := #[t] }) K := by
  refine ⟨fun En V w oper hop h0 hb => ?_⟩
  simp only [Bool.and_eq_true] at hsz
  obtain ⟨⟨s1, s2⟩, s3⟩ := hsz
  have s1 := beqT s1
  have s2 : 0 < en.sz := by simpa [Nat.blt_eq] using s2
  obtain ⟨rfl, rfl, hlo⟩ := hn
  subst s1
  rw [setK_eq] at k1
  have hT := (hΓ.tb t ti hti).u
  rw [hu] at hT
  have hT : Γ.P.underlying t = some (.slice e) := hT
  have hE := hΓ.tb e te hte
  obtain ⟨hown, hβ⟩ := h0.hr.ok c _ hH
  have hi : (Γ.P.info? e).map (fun i => i.zero.map (·.cells.toList)) = some (some (en.val z)) := by
    obtain ⟨i, hi, he⟩ := Option.map_eq_some_iff.1 hE.info
    simp only [Prod.mk.injEq] at he
    rw [hi]
    simp only [Option.map_some, he.2.2]
    have := hE.zcells
    rw [this, en.of_ok (Δ := Γ.Δ) (ρ := fun _ => none) hz]
  obtain ⟨w', hr, hx', hk⟩ := own_clear (P := Γ.P) (ty := oper.type) hown hT hi (en.len z) (en.one z) hlo s2
  rw [flat_take en.len, reps_flat (f := en.val) rfl, ← flat_app] at hx'
  refine ⟨V, _, nx, _, w', _, .inl rfl, ?_, Nat.le_refl _, fun _ _ => rfl, by simp only [SV.bd, SV.bdL], h0.set (ch' := .arr α en e (l.take lo ++ List.replicate (l.length - lo) z) k0) hH (hk.mono fun i _ hi => (hβ i).2 hi) ⟨?_, fun i => ?_⟩ trivial, k1⟩
  · have e1 : (SV.denL Γ.Δ V.ρ []) = [] := by simp only [SV.denL]
    have := ox_clear (P := Γ.P) (w := w) (ρ := fun x => (sv x).den Γ.Δ V.ρ) (o := oper) hop (by rw [hX]; simp only [SV.den]; exact hr)
    rw [this]
    simp only [SV.den, e1]
  · have hl : (l.take lo ++ List.replicate (l.length - lo) z).length = l.length := by simp; omega
    rw [hl]; exact hx'
  · have hl : (l.take lo ++ List.replicate (l.length - lo) z).length = l.length := by simp; omega
    rw [hl]; exact hβ i
end Go.Zz
namespace Go.Zz
open Go.Px Go.RowKit
set_option linter.unusedVariables false
set_option linter.unusedSimpArgs false
set_option linter.unusedSectionVars false
section
variable (tm te ty tb : Nat) (p q : String)
def kC2S : Code := .region 2 #[{ dst := some 8, op := .entry (.tmp 5), type := 0, pos := p, after := #[], guard := none }, { dst := some 9, op := .extract (.tmp 8) 0, type := te, pos := p, after := #[{ on := 0, ground := .data }], guard := none },
  { dst := some 3, op := .assign (.tmp 9), type := te, pos := p, after := #[{ on := 1, ground := .data }, { on := 0, ground := .phase }, { on := 1, ground := .phase }], guard := none }] false
def kMS : List Oper := [{ dst := some 10, op := .move (.tmp 0), type := ty, pos := q, after := #[], guard := none }, { dst := some 11, op := .move (.tmp 3), type := te, pos := q, after := #[], guard := none }]
def kR3S : List Oper := kMS te ty q ++ [kY te tb q, kN tb q]
def keysCodeS : Code := .seq (.region 0 [kL0 tm p, kG0 tm p].toArray false) (.block 0 (.loop (.seq (kC1 tb p) (.seq (.cond (.tmp 7) .skip (.exit 0)) (.block 1 (.seq (kC2S te p) (.seq (.region 3 (kR3S te ty tb q).toArray false) (.cond (.tmp 13) .ret .skip))))))))
end
section
variable {κ ν : Type} [DecidableEq κ]
def KeysVcS (Γ : Ctx) (te ty tb : Nat) (p q : String) (ke : VE κ) (ve : VE ν) (L : List (κ × ν)) : Prop := ∀ (y : Value) (ga : Option Addr) (left : List (κ × ν)) (cur : Option (κ × ν)),
  vc Γ 14 2 [] (kC1 tb p) ⟨[(5, .ptr 1 0), (0, .raw y)], 2, [(1, .pr (iterPr ke ve ga L left cur)), (0, .pr (isA ga))]⟩ fun e s => match e with
    | .normal => vc Γ 14 2 [] (.cond (.tmp 7) .skip (.exit 0)) s fun e s => match e, s with
      | .exit j, ⟨_, _, H⟩ => j = 0 ∧ left = [] ∧ lk H 0 = some (.pr (mapPr ke ve L))
      | .normal, s => vc Γ 14 2 [] (kC2S te p) s fun e s => match e, s with
        | .normal, ⟨env, nx, H⟩ => opsV Γ 14 (kR3S te ty tb q) (kMS te ty q) env [] nx H fun s => match s with
          | ⟨env, nx, H⟩ => ∃ (x : κ) (v : ν) (left' : List (κ × ν)), left.Perm ((x, v) :: left') ∧ lk env 10 = some (.raw y) ∧ lk env 11 = some (ke.sv x) ∧ lk env 5 = some (.ptr 1 0) ∧ lk env 0 = some (.raw y) ∧ lk H 1 = some (.pr (iterPr ke ve ga L left' (some (x, v)))) ∧ (x, v) ∈ L
        | _, _ => Stuck "a round" (.ready 0)
      | _, _ => Stuck "a round" (.ready 0)
    | _ => Stuck "a round" (.ready 0)
theorem keys_givesS {Γ : Ctx} (hΓ : Γ.Ok) (herr : Γ.errs = []) {gf : FuncId} {fn : Func} (tm te ty tb : Nat) (p q : String) {ke : VE κ} {ve : VE ν} {L : List (κ × ν)} {k e : TypeId} {z : ν} (hf : Γ.P.funcs[gf]? = some fn) (hb : fn.body = some (keysCodeS tm te ty tb p q)) (hnt : fn.ntmps = 14) (hres : fn.results = #[])
    (M : MapTy Γ.P tm k e ke ve z) {ti : TI} (hti : lk Γ.tb tm = some ti) (hag : ti.agg = false) (hv : KeysVcS Γ te ty tb p q ke ve L) (A : Addr) (gb : Nat) (W0 : World) (hA : W0.cell? A = some (.map (some gb))) (hm : MapAt W0 gb ke.val ve.val L) : GivesKeys Γ.P gf A gb ke.val ve.val L W0 := by
  intro l J hst hround hJ0
  have hgb := hm.lt
  obtain ⟨es, clock, hbk, hI0⟩ := iterC_new hm
  obtain ⟨r, hr⟩ : ∃ r, r = W0.heap.size := ⟨_, rfl⟩
  rw [← hr] at hst hround hI0
  obtain ⟨W1, hW1⟩ : ∃ W1, W1 = W0.alloc (.mapIter (some gb) clock #[] clock) := ⟨_, rfl⟩
  rw [← hW1] at hI0
  obtain ⟨y, hy⟩ : ∃ y, y = Value.func (.yield l) #[] #[] := ⟨_, rfl⟩
  refine callsIn_of_wp hf hb trivial ?_
  rw [hnt, ← hy]
  refine wpIn_seq ?_
  refine wpIn_region_lit (listIn_value rfl (v := .map (some gb)) (w' := W0) ?_ (listIn_value rfl (v := .pointer (some ⟨r, 0, none⟩)) (w' := W1) ?_ ?_))
  · have hT := hΓ.tb tm ti hti
    obtain ⟨v, _, hv1, _, hv2⟩ := run_loadVar (Δ := Γ.Δ) (ρ := fun _ => none) hT (vs := [.raw (.map (some gb))]) (off := 0) (o := .ready 0) (K := fun v => v = .raw (.map (some gb))) (nx := 0) (by simp [SV.bdL, SV.bd]) (by unfold cutK; rw [hag]; simp [nth, kval_eq])
    have := hv2 W0 A (fun j u hu => by
      cases j with
      | zero => simp at hu; subst hu; rw [add_zero]; simpa [SV.den] using hA
      | succ j => simp at hu)
    subst hv1
    simp only [SV.den] at this
    simp [execOp, kL0, Act.eval, Instr.loadAt, Instr.sureAddr, this]
  · have := run_range_map (P := Γ.P) W0 tm k e gb es clock M.u hbk
    rw [← hr, ← hW1] at this
    simp [execOp, kG0, kL0, Act.eval, Act.put, this]
  · refine wpIn_block ?_
    obtain ⟨Inv, hInv⟩ : ∃ Inv : Nat → Act → World → Prop, Inv = fun m a W => ∃ pre left cur, m = left.length ∧ J pre W ∧ IterC W gb r ke.val ve.val L left cur ∧ (pre ++ left.map (·.1)).Perm (L.map (·.1)) ∧ a.defers = [] ∧ a.tmps.size = 14 ∧ a.tmps[0]? = some y ∧ a.tmps[5]? = some (.pointer (some ⟨r, 0, none⟩)) := ⟨_, rfl⟩
    refine wpIn_loop_ghost Inv L.length ?_ fun m a W hm => ?_
    · rw [hInv]
      refine ⟨[], L, none, rfl, hst [] W0 W1 hJ0 (by rw [hW1]; exact (keep_alloc _ _).nn), hI0, by simp, rfl, by simp [Act.put, kL0, kG0], by simp [Act.put, kL0, kG0, ← hy], by simp [Act.put, kL0, kG0]⟩
    · rw [hInv] at hm
      obtain ⟨pre, left, cur, rfl, hJ, hI, hperm, hdf, hsz, ha0, ha5⟩ := hm
      obtain ⟨V, hV⟩ : ∃ V : Val, V = ⟨fun d => if d = 1 then some ⟨r, 0, none⟩ else some ⟨gb, 0, none⟩, fun d i => d = 1 ∧ (i = gb ∨ i = r)⟩ := ⟨_, rfl⟩
      have hV0 : V.ρ 0 = some ⟨gb, 0, none⟩ := by rw [hV]; rfl
      have hV1 : V.ρ 1 = some ⟨r, 0, none⟩ := by rw [hV]; rfl
      have hVβ : ∀ d i, V.β d i ↔ (d = 1 ∧ (i = gb ∨ i = r)) := fun d i => by rw [hV]
      obtain ⟨H, hH⟩ : ∃ H : Hp, H = [(1, .pr (iterPr ke ve (some ⟨gb, 0, none⟩) L left cur)), (0, .pr (isA (some ⟨gb, 0, none⟩)))] := ⟨_, rfl⟩
      have hl1 : ∀ c ch, lk H c = some ch → (c = 1 ∧ ch = .pr (iterPr ke ve (some ⟨gb, 0, none⟩) L left cur)) ∨ (c = 0 ∧ ch = .pr (isA (some ⟨gb, 0, none⟩))) := fun c ch hc => by
        rw [hH, lk_cons] at hc
        split at hc
        · rename_i e1; exact .inl ⟨e1, (Option.some.inj hc).symm⟩
        · rw [lk_cons] at hc
          split at hc
          · rename_i e1; exact .inr ⟨e1, (Option.some.inj hc).symm⟩
          · simp [lk] at hc
      have hlk1 : (lk H 1).isSome = true := by rw [hH]; rfl
      have hp : HpOk Γ (entAt V W H 2) V 2 H W := by
        refine ⟨⟨fun c ch hc => ?_, Keep.refl _ _, by rw [herr]; exact ⟨fun g hg => by simp at hg, fun g hg => by simp at hg, fun g h hg => by simp at hg⟩, fun g hg => by rw [herr] at hg; simp at hg⟩, fun c ch hc => ?_, fun c c' _ _ hne i h1 h2 => ?_, fun c _ i h1 => ?_⟩
        · rcases hl1 c ch hc with ⟨rfl, rfl⟩ | ⟨rfl, rfl⟩
          · exact ⟨r, gb, hV1, rfl, fun i => by rw [hVβ]; simp, hI⟩
          · exact ⟨hV0, fun i h => by rw [hVβ] at h; omega⟩
        · rcases hl1 c ch hc with ⟨rfl, rfl⟩ | ⟨rfl, rfl⟩ <;> exact ⟨by omega, trivial⟩
        · rw [hVβ] at h1 h2; omega
        · refine ⟨.inl ⟨c, ?_, h1⟩, ?_⟩
          · rw [hVβ] at h1; rw [h1.1]; exact hlk1
          · rw [hVβ] at h1
            rcases h1.2 with e1 | e1
            · rw [e1]; exact hI.it.map.lt
            · rw [e1]; exact hI.it.lt
      have hs : StOk Γ 14 (entAt V W H 2) V a W ⟨[(5, .ptr 1 0), (0, .raw y)], 2, H⟩ := by
        refine ⟨hdf, hsz, fun t v hv => ?_, hp, fun _ _ => rfl, Nat.le_refl _⟩
        rw [lk_cons] at hv
        split at hv
        · rename_i e1
          obtain rfl := Option.some.inj hv
          rw [e1, ha5]
          exact ⟨by simp [SV.den, hV1, sa, addA], by simp [SV.bd]⟩
        · rw [lk_cons] at hv
          split at hv
          · rename_i e1
            obtain rfl := Option.some.inj hv
            rw [e1, ha0]
            exact ⟨by simp [SV.den], by simp [SV.bd]⟩
          · simp [lk] at hv
      have hkF : ∀ {nx H' V' w'}, HpOk Γ (entAt V W H 2) V' nx H' w' → Keep (fun i => i = gb ∨ i = r) W w' := fun h => h.hr.keep.mono fun i _ ⟨c, _, hc⟩ => by rw [hVβ] at hc; exact hc.2
      have hv := hv y (some ⟨gb, 0, none⟩) left cur
      rw [← hH] at hv
      refine wpIn_seq (wpIn_mono (wpIn_wide.2 (vc_ok hΓ (En := entAt V W H 2) rfl (kC1 tb p) hv hs)) fun e a1 w1 hq => ?_)
      obtain ⟨Va, s1, hs1, hq⟩ := hq
      cases e with
      | normal =>
        refine wpIn_seq (wpIn_mono (wpIn_wide.2 (vc_ok hΓ (En := entAt V W H 2) rfl _ hq hs1)) fun e a2 w2 hq => ?_)
        obtain ⟨Vb, ⟨env2, nx2, H2⟩, hs2, hq⟩ := hq
        cases e with
        | exit j =>
          obtain ⟨rfl, hl0, hm2⟩ := hq
          obtain ⟨g', h1, h2, h3⟩ := hs2.hp.hr.ok 0 _ hm2
          rw [hs2.old 0 (by show 0 < 2; omega)] at h1
          have h1 : V.ρ 0 = some ⟨g', 0, none⟩ := h1
          rw [hV0] at h1
          simp only [Option.some.injEq, Addr.mk.injEq] at h1
          obtain ⟨rfl, _⟩ := h1
          simp only [Exit.then, Exit.inBlock, if_true]
          refine ⟨hs2.dfr, .tuple #[], by unfold results; rw [hres]; simp, ⟨_, rfl⟩, pre, ?_, hst pre W w2 hJ (hkF hs2.hp), h3⟩
          rw [hl0] at hperm; simpa using hperm
        | normal =>
          refine wpIn_block (wpIn_seq (wpIn_mono (wpIn_wide.2 (vc_ok hΓ (En := entAt V W H 2) rfl _ hq hs2)) fun e a3 w3 hq => ?_))
          obtain ⟨Vc, ⟨env3, nx3, H3⟩, hs3, hq⟩ := hq
          cases e with
          | normal =>
            refine wpIn_seq (wpIn_region_lit (list_then (Q := Post Γ 14 (entAt V W H 2) fun e s => match e, s with
              | .normal, ⟨env, nx, H⟩ => ∃ (x : κ) (v : ν) (left' : List (κ × ν)), left.Perm ((x, v) :: left') ∧ lk env 10 = some (.raw y) ∧ lk env 11 = some (ke.sv x) ∧ lk env 5 = some (.ptr 1 0) ∧ lk env 0 = some (.raw y) ∧ lk H 1 = some (.pr (iterPr ke ve (some ⟨gb, 0, none⟩) L left' (some (x, v)))) ∧ (x, v) ∈ L
              | _, _ => False) (fun c a w h => by obtain ⟨_, _, _, h⟩ := h; exact h) (fun h => by obtain ⟨_, _, _, _, _, h⟩ := h; exact h) ?_ (opsV_ok hΓ hq hs3 GdOk.nil)))
            intro a4 w4 hq
            obtain ⟨Vd, ⟨env4, nx4, H4⟩, hs4, x, v, left', hpl, hy10, hk11, hp5, hy0, hit, hxL⟩ := hq
            obtain ⟨r', g', h1, h2, h3, h4⟩ := hs4.hp.hr.ok 1 _ hit
            rw [hs4.old 1 (by show 1 < 2; omega)] at h1
            have h1 : V.ρ 1 = some ⟨r', 0, none⟩ := h1
            rw [hV1] at h1
            simp only [Option.some.injEq, Addr.mk.injEq] at h1 h2
            obtain ⟨rfl, _⟩ := h1
            obtain ⟨rfl, _⟩ := h2
            have e10 := (hs4.env 10 _ hy10).1
            have e11 := (hs4.env 11 _ hk11).1
            have e5 := (hs4.env 5 _ hp5).1
            have e0 := (hs4.env 0 _ hy0).1
            have hρ1 : Vd.ρ 1 = some ⟨r, 0, none⟩ := (hs4.old 1 (by show 1 < 2; omega)).trans hV1
            simp only [SV.den, ke.den, hρ1, sa, Option.getD_some, addA] at e10 e11 e5 e0
            have hJ4 := hst pre W w4 hJ (hkF hs4.hp)
            have hW4 : r < w4.heap.size := h4.it.lt
            obtain ⟨fn2, tmps2, as2, body2, hyl, hR⟩ := hround pre x w4 hJ4 (List.mem_map.2 ⟨_, hxL, rfl⟩) (by have h1 := hperm.length_eq; have h2 := hpl.length_eq; simp only [List.length_append, List.length_map, List.length_cons] at h1 h2; omega) hW4
            have hrun : (execOp a4.eval (kY te tb q)).run Γ.P w4 = .ok (.round l fn2 tmps2 as2 body2) w4 := by
              simp [execOp, kY, resolve, Act.eval, e10, e11, hy, Deferred.ofValue, invoke, hyl]
            refine wpListIn_plain rfl fun K hK => ⟨fun _ _ => trivial, ?_⟩
            have e : (kY te tb q).semAt Fence.wide.round a4.eval = execOp a4.eval (kY te tb q) := rfl
            rw [e, hrun]
            refine ⟨fun h => (by cases h), (roundIn_any _ hR).mono fun e w5 he => ?_⟩
            obtain ⟨rfl, hJ5, hk5⟩ := he
            refine hK _ _ (listIn_value rfl (v := .bool false) (w' := w5) ?_ ?_)
            · simp [execOp, kN, kY, Act.eval, Act.put, hs4.size, Op.unary, asBool]
            · refine wpIn_cond (t := false) ?_ (wpIn_skip ?_)
              · simp [Act.eval, Act.put, kN, kY, hs4.size]
              · show ∃ n', n' < left.length ∧ Inv n' _ w5
                rw [hInv]
                have hlen := hpl.length_eq
                simp only [List.length_cons] at hlen
                refine ⟨left'.length, by omega, pre ++ [x], left', some (x, v), rfl, hJ5, h4.keep hk5 (fun h => h.1 rfl) (fun h => h.2 rfl), ?_, hs4.dfr, by simp [Act.put, hs4.size, kN, kY], ?_, ?_⟩
                · refine List.Perm.trans ?_ hperm
                  have := (hpl.map (·.1)).append_left pre
                  simp only [List.map_cons] at this
                  rw [List.append_assoc]
                  exact this.symm
                · simp [Act.put, kN, kY, e0]
                · simp [Act.put, kN, kY, e5]
          | _ => exact (hq : Stuck _ _).no.elim
        | _ => exact (hq : Stuck _ _).no.elim
      | _ => exact (hq : Stuck _ _).no.elim
end
end Go.Zz
