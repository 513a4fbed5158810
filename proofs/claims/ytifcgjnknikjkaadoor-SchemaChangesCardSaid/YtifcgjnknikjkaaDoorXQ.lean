/- Short words for the walks' texts. Nothing of any one program stands here. -/
import Derived.Test.YtifcgjnknikjkaaDoorXT
namespace Go.Px
set_option linter.unusedVariables false
set_option linter.unusedSimpArgs false
set_option linter.unusedSectionVars false
abbrev iV (n : Int) : Value := .int .i64 n
abbrev uV (n : Int) : Value := .int .u64 n
abbrev bV (b : Bool) : Value := .bool b
abbrev pV (g o : Nat) : Value := .pointer (some ⟨g, o, none⟩)
abbrev eI (n : Int) : EV := .val (.int .i64 n)
abbrev eU (n : Int) : EV := .val (.int .u64 n)
abbrev eB (b : Bool) : EV := .val (.bool b)
abbrev eP (g o : Nat) : EV := .val (.pointer (some ⟨g, o, none⟩))
abbrev eS (a : Option Addr) (n c : Nat) : EV := .val (.slice a n c)

section
variable {P : Program} {ops : Array Oper} {n : Nat} {Q : Exit → Act → World → Prop} {K : Act → World → Prop} {l : List Oper} {env : Env} {M : Mem} {a : Act} {w : World}
theorem q0 (hf : Fr n env a) (hM : MemOk M w) (live : List Nat) (is : List Ins) {env' : Env} {ob : List Prop} (ho : AllP ob) (k : ∀ a, Fr n env' a → wpList P ops Q (l.drop is.length) a w)
    (h : ∀ B, (opsRun P (fun a v => w.cell? a = some v) ops n is l ⟨env, B, M, false, []⟩).map (fun r => (prune r.2.env live, r.2.ob)) = some (env', ob) := by intro B; as_aux_lemma => kernel_rfl) (hi : is.all Ins.still = true := by exact rfl) :
    wpList P ops Q l a w := sr0 hf hM live is h hi ho k
theorem q1 (hf : Fr n env a) (hM : MemOk M w) (live : List Nat) (is : List Ins) {env' : Nat → Env} {M' : Nat → Mem} {ob : Nat → List Prop} (ho : ∀ B, AllP (ob B))
    (k : ∀ a w' B, Fr n (env' B) a → MemOk (M' B) w' → w.heap.size = B → Keep (Is M.names) w w' → wpList P ops Q (l.drop is.length) a w')
    (h : ∀ B, (opsRun P (fun a v => w.cell? a = some v) ops n is l ⟨env, B, M, false, []⟩).map (fun r => (prune r.2.env live, r.2.M, r.2.ob)) = some (env' B, M' B, ob B) := by intro B; as_aux_lemma => kernel_rfl) :
    wpList P ops Q l a w := sr hf hM live is h ho k
theorem qc (hf : Fr n env a) {c : Operand} {x y : Code} {b : Bool} (ht : b = true → x.wp P Q a w) (hff : b = false → y.wp P Q a w) (h : look env none c = some (.bool b, []) := by kernel_rfl) : (Code.cond c x y).wp P Q a w := sxcond hf h ht hff
theorem qd {C : World → Prop} {ord : List (Nat × Bool)} (hf : Fr n env a) (hw : C w) (hM : ∀ w', C w' → MemOk M w') (live : List Nat) (is : List Ins) {env' : Env} {ob : List Prop} (ho : AllP ob) (k : ∀ a, Fr n env' a → wpCan P ops C K (ord.drop is.length) a w)
    (h : (canRun P (fun a v => ∀ w', C w' → w'.cell? a = some v) ops n is ord ⟨env, 0, M, false, []⟩).map (fun r => (prune r.2.env live, r.2.ob)) = some (env', ob) := by as_aux_lemma => kernel_rfl) (hi : is.all Ins.still = true := by exact rfl) :
    wpCan P ops C K ord a w := sc0 hf hw hM live is h hi ho k
/-- Two regions' ways on, in short. -/
theorem qs {x y : Code} {id : Nat} {l : List Oper} (k : ∀ K : Act → World → Prop, (∀ a w, y.wp P Q a w → K a w) → (Code.region id l.toArray false).wp P (Exit.then K Q) a w) : (Code.seq (Code.region id l.toArray false) y).wp P Q a w := wp_seq_k k
theorem qr {fn : Func} {R : Value → World → Prop} (hf : Fr n env a) (hM : MemOk M w) (os : List Orc) {l : List Value} {ob : List Prop} (ho : AllP ob) (hR : R (resOf l) w) (hk : resKnown env fn.results.toList = true := by kernel_rfl)
    (h : ∀ B, sym P (fun a v => w.cell? a = some v) (resL (getV env) fn.results.toList) B M false os = some ⟨l, B, M, false, [], ob⟩ := by intro B; as_aux_lemma => kernel_rfl) (hl : os.all isLd = true := by exact rfl) :
    bodyPost P fn (Ret R) .ret a w := sxret hf hM os hk (fun B => ⟨B, h B⟩) hl ho hR
theorem qe {fn : Func} {R : Value → World → Prop} (hf : Fr n env a) (hM : MemOk M w) (os : List Orc) {l : List Value} {ob : List Prop} (ho : AllP ob) (hR : R (resOf l) w) (hk : resKnown env fn.results.toList = true := by kernel_rfl)
    (h : ∀ B, sym P (fun a v => w.cell? a = some v) (resL (getV env) fn.results.toList) B M false os = some ⟨l, B, M, false, [], ob⟩ := by intro B; as_aux_lemma => kernel_rfl) (hl : os.all isLd = true := by exact rfl) :
    bodyPost P fn (Ret R) .normal a w := sxend hf hM os hk (fun B => ⟨B, h B⟩) hl ho hR
end
theorem nN {a b : Int} (h : (a != b) = true) : ¬ a = b := by simpa using h
theorem nM {a b : Int} (h : (a != b) = false) : a = b := by simpa using h
theorem nE {a b : Int} (h : (a == b) = true) : a = b := by simpa using h
theorem nF {a b : Int} (h : (a == b) = false) : ¬ a = b := by simpa using h
theorem nT {p : Prop} [Decidable p] (h : decide p = true) : p := of_decide_eq_true h
theorem nU {p : Prop} [Decidable p] (h : decide p = false) : ¬ p := of_decide_eq_false h
end Go.Px
