/- Short words for the walks' texts. Nothing of any one program stands here. -/
import Derived.Test.YthofalkkdpjdlaaDoorXT
namespace Go.Px
set_option linter.unusedVariables false
set_option linter.unusedSimpArgs false
set_option linter.unusedSectionVars false
abbrev iV (n : Int) : Value := .int .i64 n
abbrev uV (n : Int) : Value := .int .u64 n
abbrev bV (b : Bool) : Value := .bool b
abbrev pV (g o : Nat) : Value := .pointer (some ⟨g, o, none⟩)
abbrev eI (n : Int) : EV := .val (.int .i64 n)
abbrev eU (n : Int) : EV := .val (.int .u64 n)
abbrev eB (b : Bool) : EV := .val (.bool b)
abbrev eP (g o : Nat) : EV := .val (.pointer (some ⟨g, o, none⟩))
abbrev eS (a : Option Addr) (n c : Nat) : EV := .val (.slice a n c)

section
variable {P : Program} {ops : Array Oper} {n : Nat} {Q : Exit → Act → World → Prop} {K : Act → World → Prop} {l : List Oper} {env : Env} {M : Mem} {a : Act} {w : World}
theorem q0 (hf : Fr n env a) (hM : MemOk M w) (old : List Nat) (is : List Ins) {nw : Env} {ob : List Prop} (ho : AllP ob) (k : ∀ a, Fr n (nw ++ prune env old) a → wpList P ops Q (l.drop is.length) a w)
    (h : ∀ B, (opsRun P (fun a v => w.cell? a = some v) ops n is l ⟨env, B, M, false, []⟩).map (fun r => (prune r.2.env (nw.map (·.1) ++ old), r.2.ob)) = some (nw ++ prune env old, ob) := by intro B; as_aux_lemma => kernel_rfl) (hi : is.all Ins.still = true := by exact rfl) :
    wpList P ops Q l a w := sr0 hf hM _ is h hi ho k
/-- The same, at a region's end. -/
theorem q0e {R : Act → World → Prop} (hf : Fr n env a) (hM : MemOk M w) (old : List Nat) (is : List Ins) {nw : Env} {ob : List Prop} (ho : AllP ob) (hK : ∀ a w, R a w → Q .normal a w) (k : ∀ a, Fr n (nw ++ prune env old) a → R a w)
    (h : ∀ B, (opsRun P (fun a v => w.cell? a = some v) ops n is l ⟨env, B, M, false, []⟩).map (fun r => (prune r.2.env (nw.map (·.1) ++ old), r.2.ob)) = some (nw ++ prune env old, ob) := by intro B; as_aux_lemma => kernel_rfl) (hi : is.all Ins.still = true := by exact rfl)
    (hl : l.drop is.length = [] := by exact rfl) : wpList P ops Q l a w := sr0 hf hM _ is h hi ho fun a hf => by rw [hl]; exact wpList_nil (hK _ _ (k a hf))
theorem q1 (hf : Fr n env a) (hM : MemOk M w) (old : List Nat) (is : List Ins) {nw : Nat → Env} {M' : Nat → Mem} {ob : Nat → List Prop} (ho : ∀ B, AllP (ob B))
    (k : ∀ a w' B, Fr n (nw B ++ prune env old) a → MemOk (M' B) w' → w.heap.size = B → Keep (Is M.names) w w' → wpList P ops Q (l.drop is.length) a w')
    (h : ∀ B, (opsRun P (fun a v => w.cell? a = some v) ops n is l ⟨env, B, M, false, []⟩).map (fun r => (prune r.2.env ((nw 0).map (·.1) ++ old), r.2.M, r.2.ob)) = some (nw B ++ prune env old, M' B, ob B) := by intro B; as_aux_lemma => kernel_rfl) :
    wpList P ops Q l a w := sr hf hM _ is h ho k
theorem Fr.to {env' : Env} (h : Fr n env a) (e : env = env') : Fr n env' a := e ▸ h
/-- What a yes or no is has been learned. -/
theorem Fr.setb (h : Fr n env a) (t : Nat) {b lit : Bool} (hb : b = lit) (h1 : env.get t = some (.val (.bool b)) := by kernel_rfl) : Fr n ((t, .val (.bool lit)) :: env) a := by
  subst hb
  refine ⟨h.dfr, h.size, fun s e he => ?_⟩
  simp only [Env.get] at he
  split at he
  · rename_i hs
    obtain rfl := Nat.eq_of_beq_eq_true hs
    obtain rfl := Option.some.inj he
    exact h.at_ _ _ h1
  · exact h.at_ s e he
theorem qc (hf : Fr n env a) {c : Operand} {x y : Code} {b : Bool} (ht : b = true → x.wp P Q a w) (hff : b = false → y.wp P Q a w) (h : look env none c = some (.bool b, []) := by kernel_rfl) : (Code.cond c x y).wp P Q a w := sxcond hf h ht hff
theorem qd {C : World → Prop} {ord : List (Nat × Bool)} (hf : Fr n env a) (hw : C w) (hM : ∀ w', C w' → MemOk M w') (old : List Nat) (is : List Ins) {nw : Env} {ob : List Prop} (ho : AllP ob) (k : ∀ a, Fr n (nw ++ prune env old) a → wpCan P ops C K (ord.drop is.length) a w)
    (h : (canRun P (fun a v => ∀ w', C w' → w'.cell? a = some v) ops n is ord ⟨env, 0, M, false, []⟩).map (fun r => (prune r.2.env (nw.map (·.1) ++ old), r.2.ob)) = some (nw ++ prune env old, ob) := by as_aux_lemma => kernel_rfl) (hi : is.all Ins.still = true := by exact rfl) :
    wpCan P ops C K ord a w := sc0 hf hw hM _ is h hi ho k
/-- Two regions' ways on, in short. -/
theorem qs {x y : Code} {id : Nat} {l : List Oper} (k : ∀ K : Act → World → Prop, (∀ a w, y.wp P Q a w → K a w) → (Code.region id l.toArray false).wp P (Exit.then K Q) a w) : (Code.seq (Code.region id l.toArray false) y).wp P Q a w := wp_seq_k k
theorem qr {fn : Func} {R : Value → World → Prop} (hf : Fr n env a) (hM : MemOk M w) (os : List Orc) {l : List Value} {ob : List Prop} (ho : AllP ob) (hR : R (resOf l) w) (hk : resKnown env fn.results.toList = true := by kernel_rfl)
    (h : ∀ B, sym P (fun a v => w.cell? a = some v) (resL (getV env) fn.results.toList) B M false os = some ⟨l, B, M, false, [], ob⟩ := by intro B; as_aux_lemma => kernel_rfl) (hl : os.all isLd = true := by exact rfl) :
    bodyPost P fn (Ret R) .ret a w := sxret hf hM os hk (fun B => ⟨B, h B⟩) hl ho hR
theorem qe {fn : Func} {R : Value → World → Prop} (hf : Fr n env a) (hM : MemOk M w) (os : List Orc) {l : List Value} {ob : List Prop} (ho : AllP ob) (hR : R (resOf l) w) (hk : resKnown env fn.results.toList = true := by kernel_rfl)
    (h : ∀ B, sym P (fun a v => w.cell? a = some v) (resL (getV env) fn.results.toList) B M false os = some ⟨l, B, M, false, [], ob⟩ := by intro B; as_aux_lemma => kernel_rfl) (hl : os.all isLd = true := by exact rfl) :
    bodyPost P fn (Ret R) .normal a w := sxend hf hM os hk (fun B => ⟨B, h B⟩) hl ho hR
end
theorem pick_id (b : Bool) : (bif b then Value.bool true else Value.bool false) = Value.bool b := by cases b <;> rfl
section
variable {P : Program} {ops : Array Oper} {n : Nat} {Q : Exit → Act → World → Prop} {rest : List Oper} {env : Env} {M : Mem} {a : Act} {w : World}
/-- A slice literal under a test that is known. -/
theorem sxbsliceg (hf : Fr n env a) (hM : MemOk M w) {o : Oper} {d : Tmp} {t e : TypeId} {len : Nat} {parts : Array (Nat × Operand)} {cs : List Value} {ob : List Prop} {j : Nat} {want : Bool} (hgd : o.guard = some (j, want)) (hgv : ((ops[j]?).bind (·.dst)).bind env.get = some (.val (.bool want)))
    (hd : o.dst = some d) (hdn : Nat.blt d n = true) (hop : o.op = .buildSlice t len parts) (hl : lookAll env none o.op.operands.toList = some ob) (ho : AllP ob) (hb : bsV P t len (partsVal env parts.toList) = some (e, cs))
    (k : ∀ a w' B, Fr n ((d, .val (.slice (some ⟨B, 0, none⟩) len len)) :: env) a → MemOk (M ++ [⟨B, e, cs⟩]) w' → w.heap.size = B → Keep Nn w w' → wpList P ops Q rest a w') : wpList P ops Q (o :: rest) a w := by
  refine wpList_step fun K hK => ?_
  rw [wanted_some hf hgd hgv]
  simp only [BEq.rfl, if_true]
  have hr : (execOp a.eval o).run P w = .ok (.value (.slice (some ⟨w.heap.size, 0, none⟩) len len)) { w with heap := w.heap.push (.cells cs.toArray e (0, 0)) } := by
    rw [execOp_rho hf (c := none) trivial (by rw [hop]; rfl) hl ho]
    have e1 : (parts.map fun (x : Nat × Operand) => (x.1, rho env none x.2)).toList = partsVal env parts.toList := by simp [partsVal]
    rw [← e1] at hb
    simp only [execOp, hop, Sem.run_bind]
    have h2 := bsV_sound hb w
    simp only [h2, Result.andThen_ok, Sem.run_pure]
  unfold Oper.wp
  rw [hr]
  show K (a.put o.dst _) _
  rw [hd]
  refine hK _ _ (k _ _ _ (hf.putv (by simpa [Nat.blt_eq] using hdn) _) ?_ rfl (keep_push _ _))
  have := memOk_new hM e cs.toArray
  simpa using this
end
/-- A drawn region that nothing follows. -/
theorem sxdrawE {P : Program} {id : Nat} {Q : Exit → Act → World → Prop} {a : Act} {w : World} {l : List Oper} {C : World → Prop} (t : Tr) (hm : P.follows .mixedOrders = true) (hs : Region.noSelect l.toArray = true)
    (hB : okTr .any l.toArray (fun x => (Region.ready .any l.toArray x).isEmpty) false t (Array.replicate l.length false) = true) (hl : Nat.beq t.depth l.length = true) (hw : waitsB .any l.toArray (List.range l.length) = true) (hH : allIn t.idx (List.range l.length) = true) (hC : C w.drew)
    (h : wpTr P l.toArray C (fun a w => Q .normal a w) t a w.drew) : (Code.region id l.toArray true).wp P Q a w := by
  have e : ∀ e' a' w', Exit.then (fun a w => Q .normal a w) Q e' a' w' = Q e' a' w' := fun e' a' w' => by cases e' <;> rfl
  have h2 := sxdraw (P := P) (id := id) (Q := Q) (K := fun a w => Q .normal a w) (C := C) t hm hs hB hl hw hH hC h
  rwa [show Exit.then (fun a w => Q .normal a w) Q = Q from funext fun e' => funext fun a' => funext fun w' => e e' a' w'] at h2
theorem OwnOk.lenTo {base : Nat} {M : Mem} {O : List Own} {w : World} {e : TypeId} {sz n m c : Nat} {av : Option Addr} {xs : List Value} (h : OwnOk base M (oS e sz (.slice av n c) n xs :: O) w) (en : n = m) : OwnOk base M (oS e sz (.slice av m c) m xs :: O) w := by
  subst en
  exact h
theorem Arr.takef {α : Type} {f : α → List Value} {w : World} {sz n c m : Nat} {a : Option Addr} {l : List α} (h : Arr w sz a n c (flat f l)) (hf : ∀ x, (f x).length = sz) (hn : l.length = n) (hm : m ≤ n) : Arr w sz a (l.take m).length c (flat f (l.take m)) := by
  have h1 := h.take hm
  rw [flat_take hf] at h1
  rwa [List.length_take, Nat.min_eq_left (by omega)]
theorem Arr.dropf {α : Type} {f : α → List Value} {w : World} {sz n c m : Nat} {a : Option Addr} {l : List α} (h : Arr w sz a n c (flat f l)) (hf : ∀ x, (f x).length = sz) (hn : l.length = n) (hm : m ≤ n) : Arr w sz (cutA a m c sz) (l.drop m).length (c - m) (flat f (l.drop m)) := by
  have h1 := h.drop hm
  rw [flat_drop hf] at h1
  rwa [List.length_drop, hn]
theorem qcls (p : World → Prop) : ∃ C : World → Prop, (∀ w', p w' → C w') ∧ (∀ w', C w' → p w') := ⟨p, fun _ h => h, fun _ h => h⟩
theorem Keep.thenNew {F : Nat → Prop} {S : List Nat} {a b c : World} (h : Keep F a b) (k : Keep (Is S) b c) (hn : ∀ i ∈ S, a.heap.size ≤ i) : Keep F a c := h.then k fun i hi hs => absurd (hn i hs) (by omega)
theorem nN {a b : Int} (h : (a != b) = true) : ¬ a = b := by simpa using h
theorem nM {a b : Int} (h : (a != b) = false) : a = b := by simpa using h
theorem nE {a b : Int} (h : (a == b) = true) : a = b := by simpa using h
theorem nF {a b : Int} (h : (a == b) = false) : ¬ a = b := by simpa using h
theorem nT {p : Prop} [Decidable p] (h : decide p = true) : p := of_decide_eq_true h
theorem nU {p : Prop} [Decidable p] (h : decide p = false) : ¬ p := of_decide_eq_false h
/-- A known block, as a slice of one's own. -/
theorem own_of_mem {M : Mem} {base B : Nat} {e : TypeId} {cs : List Value} {w : World} (hM : MemOk M w) (hb : ⟨B, e, cs⟩ ∈ M) (hB : base ≤ B) {n sz : Nat} (hc : n ≤ maxLen) (hl : cs.length = n * sz) :
    w.ownsRow base e sz (.slice (some ⟨B, 0, .none⟩) n n) n cs :=
  ⟨hl, .inr ⟨B, n, cs.toArray, rfl, hB, hM.at_ ⟨B, e, cs⟩ hb, Nat.le_refl _, hc, by simpa using hl, by simp [← hl]⟩⟩
/-- What stands ahead of the room behind. -/
theorem Arr.roomf {α : Type} {f : α → List Value} {w : World} {sz n c : Nat} {a : Option Addr} {l m : List α} (h : Arr w sz a n c (flat f (l ++ m))) (hf : ∀ x, (f x).length = sz) (hn : (l ++ m).length = n) : Arr w sz a l.length c (flat f l) := by
  have h1 := h.takef hf hn (m := l.length) (by rw [← hn, List.length_append]; omega)
  rwa [List.take_left] at h1
theorem MemOk.front {M1 M2 : Mem} {b : Blk} {w : World} (h : MemOk (M1 ++ b :: M2) w) : MemOk (b :: (M1 ++ M2)) w := by
  have hp : (M1 ++ b :: M2).Perm (b :: (M1 ++ M2)) := List.perm_middle
  exact ⟨fun x hx => h.at_ x (hp.mem_iff.2 hx), (hp.map _).nodup_iff.1 h.nd⟩
theorem OwnOk.frontM {base : Nat} {M1 M2 : Mem} {b : Blk} {O : List Own} {w : World} (h : OwnOk base (M1 ++ b :: M2) O w) : OwnOk base (b :: (M1 ++ M2)) O w := by
  have hp : (M1 ++ b :: M2).Perm (b :: (M1 ++ M2)) := List.perm_middle
  exact ⟨h.own, ((hp.map _).append_right _).nodup_iff.1 h.nd⟩
end Go.Px
