/- A part of the proof: texts put together. -/
import Derived.Test.YtcnbngiplfoomaaGreatDoorG1
import Derived.Laws.Cells
import Derived.Laws.MakeOwn
import Derived.Laws.CopyRow
import Derived.LoopN
import Derived.Deep.LoopGhost
namespace Go.Zz
open Go.Px
set_option linter.unusedVariables false
set_option linter.unusedSimpArgs false
inductive SV where
  | int (k : IntKind) (n : Int)
  | tt
  | ff
  | bl (b : Bool)
  | dc (p : Prop) (d : Decidable p)
  | str (s : ByteArray)
  | ptr (c o : Nat)
  | elt (c i sz o : Nat)
  | glob (g : Nat)
  | nilp
  | sl (c n k : Nat)
  | sub (c lo k0 sz n k : Nat)
  | nils
  | mp (c : Nat)
  | nilm
  | fn (f : FuncId) (caps : List SV)
  | nilf
  | err (g : Nat)
  | ifc (t : TypeId) (v : SV)
  | nili
  | agg (l : List SV)
  | tup (l : List SV)
  | raw (v : Value)
structure Env0 where
  E : Nat → Addr
  eT : TypeId
abbrev Rho := Nat → Option Addr
mutual
def SV.den (Δ : Env0) (ρ : Rho) : SV → Value
  | .int k n => .int k n
  | .tt => .bool true
  | .ff => .bool false
  | .bl b => .bool b
  | .dc p d => .bool (@decide p d)
  | .str s => .string s
  | .ptr c o => .pointer (some ((sa (ρ c)).add o))
  | .elt c i sz o => .pointer (some ((sa (ρ c)).add (i * sz + o)))
  | .glob g => .pointer (some ⟨g, 0, none⟩)
  | .nilp => .pointer none
  | .sl c n k => .slice (ρ c) n k
  | .sub c lo k0 sz n k => .slice (cutA (ρ c) lo k0 sz) n k
  | .nils => .slice none 0 0
  | .mp c => .map ((ρ c).map (·.block))
  | .nilm => .map none
  | .fn f caps => .func (.func f) #[] (SV.denL Δ ρ caps).toArray
  | .nilf => .nilFunc
  | .err g => .iface Δ.eT (.pointer (some (Δ.E g)))
  | .ifc t v => .iface t (SV.den Δ ρ v)
  | .nili => .nilIface
  | .agg l => .agg (SV.denL Δ ρ l).toArray
  | .tup l => .tuple (SV.denL Δ ρ l).toArray
  | .raw v => v
def SV.denL (Δ : Env0) (ρ : Rho) : List SV → List Value
  | [] => []
  | x :: r => SV.den Δ ρ x :: SV.denL Δ ρ r
end
mutual

def SV.bd (m : Nat) : SV → Prop
  | .ptr c _ => c < m
  | .elt c _ _ _ => c < m
  | .sl c _ _ => c < m
  | .sub c _ _ _ _ _ => c < m
  | .mp c => c < m
  | .fn _ caps => SV.bdL m caps
  | .ifc _ v => SV.bd m v
  | .agg l => SV.bdL m l
  | .tup l => SV.bdL m l
  | _ => True
def SV.bdL (m : Nat) : List SV → Prop
  | [] => True
  | x :: r => SV.bd m x ∧ SV.bdL m r
end
mutual
def SV.ren (f : Nat → Nat) : SV → SV
  | .ptr c o => .ptr (f c) o
  | .elt c i sz o => .elt (f c) i sz o
  | .sl c n k => .sl (f c) n k
  | .sub c lo k0 sz n k => .sub (f c) lo k0 sz n k
  | .mp c => .mp (f c)
  | .fn g caps => .fn g (SV.renL f caps)
  | .ifc t v => .ifc t (SV.ren f v)
  | .agg l => .agg (SV.renL f l)
  | .tup l => .tup (SV.renL f l)
  | .int k n => .int k n
  | .tt => .tt
  | .ff => .ff
  | .bl b => .bl b
  | .dc p d => .dc p d
  | .str s => .str s
  | .glob g => .glob g
  | .nilp => .nilp
  | .nils => .nils
  | .nilm => .nilm
  | .nilf => .nilf
  | .err g => .err g
  | .nili => .nili
  | .raw v => .raw v
def SV.renL (f : Nat → Nat) : List SV → List SV
  | [] => []
  | x :: r => SV.ren f x :: SV.renL f r
end
structure Enc (α : Type) where
  sz : Nat
  get : α → List SV
  put : α → Nat → SV → Option α
  of : List SV → Option α
  d : α
  val : α → List Value
  len : ∀ x, (val x).length = sz
  den_get : ∀ Δ ρ x, SV.denL Δ ρ (get x) = val x
  one : ∀ x, ∀ u ∈ val x, u.oneCell' = true
  bd : ∀ x, SV.bdL 0 (get x)
  put_ok : ∀ {Δ ρ x o v y}, put x o v = some y → o < sz ∧ val y = (val x).set o (v.den Δ ρ)
  of_ok : ∀ {Δ ρ vs y}, of vs = some y → val y = SV.denL Δ ρ vs
structure EncA where
  α : Type
  e : Enc α
structure Pr where
  ok : Option Addr → (Nat → Prop) → World → Prop
  stab : ∀ {a B w w' F}, ok a B w → Keep F w w' → (∀ i, B i → ¬ F i) → ok a B w'
  lt : ∀ {a B w i}, ok a B w → B i → i < w.heap.size
structure PrV where
  ok : List Value → Option Addr → (Nat → Prop) → World → Prop
  stab : ∀ {l a B w w' F}, ok l a B w → Keep F w w' → (∀ i, B i → ¬ F i) → ok l a B w'
  lt : ∀ {l a B w i}, ok l a B w → B i → i < w.heap.size
structure PrF where
  ok : Option Addr → (Nat → Prop) → World → Prop
  carry : ∀ {a F F' w w'}, ok a F w → Keep F w w' → (∀ i, F' i → F i ∨ w.heap.size ≤ i) → ok a F' w'
def Lends (Φ : Pr) (Ψ : PrF) : Prop := ∀ a B F w, Φ.ok a B w → (∀ i, B i → ¬ F i) → Ψ.ok a F w
inductive Ch : Type 1 where
  | cells (t : TypeId) (vs : List SV)
  | arr (α : Type) (e : Enc α) (t : TypeId) (l : List α) (k : Nat)
  | ro (α : Type) (e : Enc α) (l : List α) (k : Nat)
  | pr (Ψ : Pr)
  | hole (Ψ : PrV) (vs : List SV)
  | fo (Ψ : PrF)
abbrev Hp := List (Nat × Ch)
structure St where
  env : List (Nat × SV)
  nx : Nat
  H : Hp
inductive U where
  | other
  | bool
  | int (k : IntKind)
  | str
  | ptr
  | iface
  | func
  | map (k v : TypeId)
  | slice (e : TypeId)
  | array (n : Nat) (e : TypeId)
  | struct (fs : List (Nat × Nat))
def U.conc : U → Bool
  | .other => false
  | .iface => false
  | _ => true
structure TI where
  sz : Nat
  by_ : Nat
  agg : Bool
  zero : List SV
  u : U
inductive LK where
  | int (k : IntKind)
  | bool
structure Ctx where
  P : Program
  Δ : Env0
  tb : List (Nat × TI)
  errs : List Nat
  encs : List (Nat × EncA)
  eqs : List (Nat × List LK)
  lax : Bool := false
  lit : Bool := false
def lk {α : Type _} : List (Nat × α) → Nat → Option α
  | [], _ => none
  | (s, e) :: r, t => bif Nat.beq s t then some e else lk r t
def litLR : List Nat → Nat → (Nat → Prop) → Prop
  | [], m, K => K m
  | k :: r, m, K => bif Nat.beq m k then K k else litLR r m K
def litLRS : { f // f = @litLR } := by delta litLR; exact ⟨_, rfl⟩
def litL := litLRS.val
theorem litL_R : @litL = @litLR := litLRS.2
def lits : List Nat := [0, 1, 2, 3, 4, 5, 6, 7, 8, 9, 10, 11, 12, 13, 14, 15, 16, 17, 18, 19, 20, 21, 22, 23, 24, 25, 26, 27, 28, 29, 30, 31, 32, 33, 34, 35, 36, 37, 38, 39, 40, 41, 42, 43, 44, 45, 46, 47, 48, 49, 50, 51, 52, 53, 54, 55, 56, 57, 58, 59, 60, 61, 62, 63, 64, 65, 66, 67, 68, 69, 70, 71, 72, 73, 74, 75, 76, 77, 78, 79, 80, 81, 82, 83, 84, 85, 86, 87, 88, 89, 90, 91, 92, 93, 94, 95, 96, 97, 98, 99, 100, 101, 102, 103, 104, 105, 106, 107, 108, 109, 110, 111, 112, 113, 114, 115, 116, 117, 118, 119, 120, 121, 122, 123, 124, 125, 126, 127, 128, 129, 130, 131, 132, 133, 134, 135, 136, 137, 138, 139, 140, 141, 142, 143, 144, 145, 146, 147, 148, 149, 150, 151, 152, 153, 154, 155, 156, 157, 158, 159]
def litK (m : Nat) (K : Nat → Prop) : Prop := litL lits m K
theorem litL_eq : ∀ (l : List Nat) (m : Nat) (K : Nat → Prop), litL l m K = K m
  | [], m, K => rfl
  | k :: r, m, K => by
    (simp only [litL_R, litLR]; (try simp only [← litL_R]))
    cases h : Nat.beq m k with
    | true => rw [cond_true, Nat.eq_of_beq_eq_true h]
    | false => rw [cond_false, litL_eq r]
theorem litK_eq (m : Nat) (K : Nat → Prop) : litK m K = K m := litL_eq _ m K
structure Stuck (why : String) (o : Op) : Prop where
  no : False
def kval (v : SV) (K : SV → Prop) : Prop := match v with
  | .int k n => K (.int k n)
  | .tt => K .tt
  | .ff => K .ff
  | .bl b => K (.bl b)
  | .dc p d => K (.dc p d)
  | .str s => K (.str s)
  | .ptr c o => K (.ptr c o)
  | .elt c i sz o => K (.elt c i sz o)
  | .glob g => K (.glob g)
  | .nilp => K .nilp
  | .sl c n k => K (.sl c n k)
  | .sub c lo k0 sz n k => K (.sub c lo k0 sz n k)
  | .nils => K .nils
  | .mp c => K (.mp c)
  | .nilm => K .nilm
  | .fn f l => K (.fn f l)
  | .nilf => K .nilf
  | .err g => K (.err g)
  | .ifc t v => K (.ifc t v)
  | .nili => K .nili
  | .agg l => K (.agg l)
  | .tup l => K (.tup l)
  | .raw v => K (.raw v)
theorem kval_eq (v : SV) (K : SV → Prop) : kval v K = K v := by cases v <;> rfl
def forceR : List SV → (List SV → Prop) → Prop
  | [], K => K []
  | x :: r, K => kval x fun x => forceR r fun r => K (x :: r)
def forceRS : { f // f = @forceR } := by delta forceR; exact ⟨_, rfl⟩
def force := forceRS.val
theorem force_R : @force = @forceR := forceRS.2
theorem force_eq : ∀ (l : List SV) (K : List SV → Prop), force l K = K l
  | [], _ => rfl
  | x :: r, K => by (simp only [force_R, forceR]; (try simp only [← force_R]); simp only [kval_eq, force_eq r])
def ofV : Value → SV
  | .int k n => .int k n
  | .bool true => .tt
  | .bool false => .ff
  | .nilIface => .nili
  | .pointer none => .nilp
  | .slice none 0 0 => .nils
  | .map none => .nilm
  | .nilFunc => .nilf
  | .string s => .str s
  | v => .raw v
def ofVs : List Value → List SV
  | [] => []
  | x :: r => ofV x :: ofVs r
def ofC : Value → SV
  | .agg cs => .agg (ofVs cs.toList)
  | v => ofV v
abbrev Gp := List (Nat × Bool)
abbrev Gds := List (Nat × Gp × Prop × SV)
def Gp.beq : Gp → Gp → Bool
  | [], [] => true
  | (a, x) :: r, (b, y) :: s => Nat.beq a b && (match x, y with | true, true => true | false, false => true | _, _ => false) && Gp.beq r s
  | _, _ => false
def Gp.suf : Gp → Gp → Bool
  | g, [] => Gp.beq g []
  | g, x :: r => Gp.beq g (x :: r) || Gp.suf g r
def svG (env : List (Nat × SV)) (gds : Gds) (gp : Gp) : Operand → SV
  | .tmp t => match lk env t with
    | some v => v
    | none => match lk gds t with
      | some (g, _, v) => bif Gp.suf g gp then v else .raw undef
      | none => .raw undef
  | .const v => ofC v
  | .global g => .glob g
  | .func f => .fn f []
def knG (env : List (Nat × SV)) (gds : Gds) (gp : Gp) : Operand → Bool
  | .tmp t => match lk env t with
    | some _ => true
    | none => match lk gds t with
      | some (g, _, _) => Gp.suf g gp
      | none => false
  | _ => true
def knGs (env : List (Nat × SV)) (gds : Gds) (gp : Gp) : List Operand → Bool
  | [] => true
  | x :: r => knG env gds gp x && knGs env gds gp r
def keq : IntKind → IntKind → Bool
  | .i64, .i64 => true
  | .u64, .u64 => true
  | .u32, .u32 => true
  | .u8, .u8 => true
  | .i32, .i32 => true
  | .i8, .i8 => true
  | .i16, .i16 => true
  | .u16, .u16 => true
  | _, _ => false
theorem keq_eq {a b : IntKind} (h : keq a b = true) : a = b := by cases a <;> cases b <;> first | rfl | cases h
def fitP (k : IntKind) (r : Int) : Prop := match k with
  | .i64 => -9223372036854775808 ≤ r ∧ r ≤ 9223372036854775807
  | .u64 => 0 ≤ r ∧ r ≤ 18446744073709551615
  | k => k.wrap r = r
theorem fitP_wrap {k : IntKind} {r : Int} (h : fitP k r) : k.wrap r = r := by
  cases k <;> simp only [fitP] at h <;> first
    | exact h
    | (rw [IntKind.wrap_i64]; omega)
    | (rw [IntKind.wrap_u64]; omega)
def fitK (lax : Bool) (k : IntKind) (r : Int) (ob : List Prop) (K : List Prop → SV → Prop) : Prop :=
  match lax with
  | true => K ob (.int k (k.wrap r))
  | false => K (fitP k r :: ob) (.int k r)
def shB : List LK → List SV → Bool
  | [], [] => true
  | .int k :: r, .int k' _ :: s => keq k k' && shB r s
  | .bool :: r, .tt :: s => shB r s
  | .bool :: r, .ff :: s => shB r s
  | .bool :: r, .bl _ :: s => shB r s
  | .bool :: r, .dc _ _ :: s => shB r s
  | _, _ => false
def eq1 (x y : SV) (K : (p : Prop) → Decidable p → Prop) (z : Prop) : Prop :=
  match x, y with
  | .int _ a, .int _ b => K (a = b) inferInstance
  | .tt, .tt => K True inferInstance
  | .ff, .ff => K True inferInstance
  | .tt, .ff => K False inferInstance
  | .ff, .tt => K False inferInstance
  | .bl a, .bl b => K (a = b) inferInstance
  | .bl a, .tt => K (a = true) inferInstance
  | .bl a, .ff => K (a = false) inferInstance
  | .tt, .bl a => K (a = true) inferInstance
  | .ff, .bl a => K (a = false) inferInstance
  | .dc p _, .tt => K p inferInstance
  | .tt, .dc p _ => K p inferInstance
  | .dc p _, .ff => K (¬ p) inferInstance
  | .ff, .dc p _ => K (¬ p) inferInstance
  | .dc p _, .dc q _ => K (p ↔ q) inferInstance
  | .dc p _, .bl b => K (p ↔ b = true) inferInstance
  | .bl b, .dc p _ => K (b = true ↔ p) inferInstance
  | _, _ => z
def eqKR : List SV → List SV → ((p : Prop) → Decidable p → Prop) → Prop → Prop
  | [], [], K, _ => K True inferInstance
  | [x], [y], K, z => eq1 x y K z
  | x :: r, y :: s, K, z => eq1 x y (fun p _ => eqKR r s (fun q _ => K (p ∧ q) inferInstance) z) z
  | _, _, _, z => z
def eqKRS : { f // f = @eqKR } := by delta eqKR; exact ⟨_, rfl⟩
def eqK := eqKRS.val
theorem eqK_R : @eqK = @eqKR := eqKRS.2
def rdEq (Γ : Ctx) (t : TypeId) (cst : Bool) (x y : SV) (z : Prop) (K : SV → Prop) : Prop :=
  match x, y with
  | .int k a, .int k' b => bif keq k k' then K (.dc (a = b) inferInstance) else z
  | .agg l, .agg m => match lk Γ.eqs t with
    | some sh => bif shB sh l && shB sh m then eqK l m (fun p d => K (.dc p d)) z else z
    | none => z
  | x, y => match lk Γ.tb t with
    | none => z
    | some ti => match ti.u, x, y with
      | .iface, .err _, .nili => K .ff
      | .iface, .nili, .err _ => K .ff
      | .iface, .ifc _ _, .nili => K .ff
      | .iface, .nili, .ifc _ _ => K .ff
      | .iface, .nili, .nili => bif cst then K .tt else z
      | .ptr, .nilp, .nilp => K .tt
      | .ptr, .ptr _ _, .nilp => K .ff
      | .ptr, .nilp, .ptr _ _ => K .ff
      | .ptr, .elt _ _ _ _, .nilp => K .ff
      | .ptr, .nilp, .elt _ _ _ _ => K .ff
      | .slice _, .nils, .nils => K .tt
      | .bool, .tt, y => eq1 .tt y (fun p d => K (.dc p d)) z
      | .bool, .ff, y => eq1 .ff y (fun p d => K (.dc p d)) z
      | .bool, .bl b, y => eq1 (.bl b) y (fun p d => K (.dc p d)) z
      | .bool, .dc p d, y => eq1 (.dc p d) y (fun p d => K (.dc p d)) z
      | _, _, _ => z
def isC : Operand → Bool
  | .const _ => true
  | _ => false
def bitI (op : BinOp) (k : IntKind) (x y : Int) : Int := match op with
  | .and => k.wrap (BitVec.ofInt k.bits x &&& BitVec.ofInt k.bits y).toNat
  | .or => k.wrap (BitVec.ofInt k.bits x ||| BitVec.ofInt k.bits y).toNat
  | .xor => k.wrap (BitVec.ofInt k.bits x ^^^ BitVec.ofInt k.bits y).toNat
  | _ => k.wrap (BitVec.ofInt k.bits x &&& ~~~ BitVec.ofInt k.bits y).toNat
def rdBin (Γ : Ctx) (op : BinOp) (t : TypeId) (cst : Bool) (x y : SV) (o : Op) (K : List Prop → SV → Prop) : Prop :=
  match op with
  | .eql => rdEq Γ t cst x y (Stuck "eql" o) (K [])
  | .neq => rdEq Γ t cst x y (Stuck "neq" o) fun v => match v with
    | .tt => K [] .ff
    | .ff => K [] .tt
    | .dc p d => K [] (.dc (¬ p) inferInstance)
    | _ => Stuck "neq" o
  | op => match x, y with
    | .int k a, .int k' b => match op with
      | .shl => fitK Γ.lax k (a * 2 ^ (min b.toNat k.bits)) [0 ≤ b] K
      | .shr => K [0 ≤ b] (.int k (a.fdiv (2 ^ (min b.toNat k.bits))))
      | op => bif keq k k' then (match op with
        | .add => fitK Γ.lax k (a + b) [] K
        | .sub => fitK Γ.lax k (a - b) [] K
        | .mul => fitK Γ.lax k (a * b) [] K
        | .quo => fitK Γ.lax k (a.tdiv b) [b ≠ 0] K
        | .rem => K [b ≠ 0] (.int k (a.tmod b))
        | .lss => K [] (.dc (a < b) inferInstance)
        | .leq => K [] (.dc (a ≤ b) inferInstance)
        | .gtr => K [] (.dc (b < a) inferInstance)
        | .geq => K [] (.dc (b ≤ a) inferInstance)
        | .and => K [] (.int k (bitI .and k a b))
        | .or => K [] (.int k (bitI .or k a b))
        | .xor => K [] (.int k (bitI .xor k a b))
        | .andNot => K [] (.int k (bitI .andNot k a b))
        | _ => Stuck "binOp" o) else Stuck "binOp: kinds" o
    | _, _ => Stuck "binOp" o
def rdUn (lax : Bool) (op : UnOp) (x : SV) (o : Op) (K : List Prop → SV → Prop) : Prop :=
  match op, x with
  | .not, .tt => K [] .ff
  | .not, .ff => K [] .tt
  | .not, .bl b => K [] (.bl (!b))
  | .not, .dc p d => K [] (.dc (¬ p) inferInstance)
  | .neg, .int k a => fitK lax k (-a) [] K
  | _, _ => Stuck "unOp" o
def nth {α : Type _} : List α → Nat → Option α
  | [], _ => none
  | x :: _, 0 => some x
  | _ :: r, i + 1 => nth r i
def cutK (agg : Bool) (vs : List SV) (off sz : Nat) (o : Op) (K : SV → Prop) : Prop :=
  match agg with
  | true => force ((vs.drop off).take sz) fun l => bif Nat.beq l.length sz && Nat.blt 0 sz then K (.agg l) else Stuck "cells" o
  | false => match nth vs off with
    | some v => kval v K
    | none => Stuck "cell" o
def memB (l : List Nat) (g : Nat) : Bool := match l with
  | [] => false
  | x :: r => Nat.beq x g || memB r g
def rdLoad (Γ : Ctx) (H : Hp) (ti : TI) (p : SV) (o : Op) (K : List Prop → SV → Prop) : Prop :=
  match p with
  | .ptr c off => match lk H c with
    | some (.cells _ vs) => cutK ti.agg vs off ti.sz o (K [])
    | some (.arr _ e _ l _) => Stuck "load: an array by its pointer" o
    | _ => Stuck "load: no such thing" o
  | .elt c i sz off => match lk H c with
    | some (.arr _ e _ l _) => bif Nat.beq e.sz sz then cutK ti.agg (e.get (l.getD i e.d)) off ti.sz o (K [i < l.length]) else Stuck "load: size" o
    | some (.ro _ e l _) => bif Nat.beq e.sz sz then cutK ti.agg (e.get (l.getD i e.d)) off ti.sz o (K [i < l.length]) else Stuck "load: size" o
    | some (.cells _ vs) => cutK ti.agg vs (i * sz + off) ti.sz o (K [])
    | _ => Stuck "load: no such thing" o
  | .glob g => bif memB Γ.errs g && !ti.agg then K [] (.err g) else Stuck "load: a variable" o
  | _ => Stuck "load" o
def nilQ (Γ : Ctx) (op : BinOp) (t : TypeId) (x y : SV) : Option (Nat × Bool) :=
  match y with
  | .nils => match x with
    | .sl c _ _ => match lk Γ.tb t with
      | some ti => match ti.u with
        | .slice _ => match op with
          | .eql => some (c, true)
          | .neq => some (c, false)
          | _ => none
        | _ => none
      | none => none
    | _ => none
  | _ => none
def nilGo (eq : Bool) (K : List Prop → SV → Prop) (p : Prop) (d : Decidable p) : Prop := match eq with
  | true => K [] (.dc p d)
  | false => K [] (.dc (¬ p) (@instDecidableNot p d))
def nilK (H : Hp) (c : Nat) (eq : Bool) (o : Op) (K : List Prop → SV → Prop) : Prop :=
  match lk H c with
  | some (.cells _ _) => match eq with
    | true => K [] .ff
    | false => K [] .tt
  | some (.arr _ _ _ l k) => ∀ (p : Prop) (d : Decidable p), (p → l = [] ∧ k = 0) → nilGo eq K p d
  | some (.ro _ _ l k) => ∀ (p : Prop) (d : Decidable p), (p → l = [] ∧ k = 0) → nilGo eq K p d
  | _ => Stuck "nil?" o
structure PlacedPr (Ψ : Pr) : Prop where
  some : ∀ a B w, Ψ.ok a B w → a.isSome = true
def hereK (H : Hp) (c : Nat) (o : Op) (K : List Prop → Prop) : Prop :=
  match lk H c with
  | some (.cells _ _) => K []
  | some (.arr _ _ _ l _) => K [0 < l.length]
  | some (.ro _ _ l _) => K [0 < l.length]
  | some (.pr Ψ) => K [PlacedPr Ψ]
  | _ => Stuck "no such thing" o
def rdSlice (H : Hp) (x : SV) (lo hi : Option SV) (t : TI) (sz : Nat) (o : Op) (K : List Prop → SV → Prop) : Prop :=
  match t.u, x, lo, hi with
  | .slice _, .sl c n k, none, some (.int _ h) => K [0 ≤ h ∧ h ≤ (k : Int)] (.sl c h.toNat k)
  | .slice _, .sl c n k, some (.int _ l), none => K [0 ≤ l ∧ l ≤ (n : Int)] (.sub c l.toNat k sz (n - l.toNat) (k - l.toNat))
  | .slice _, .sl c n k, some (.int _ l), some (.int _ h) => K [0 ≤ l ∧ l ≤ h ∧ h ≤ (k : Int)] (.sub c l.toNat k sz (h.toNat - l.toNat) (k - l.toNat))
  | .slice _, .sl c n k, none, none => K [n ≤ k] (.sl c n k)
  | .slice _, .nils, none, some (.int _ h) => K [h = 0] .nils
  | .slice _, .nils, none, none => K [] .nils
  | .array m _, .ptr c 0, none, none => hereK H c o fun ob => K ob (.sl c m m)
  | _, _, _, _ => Stuck "slice" o
def lenK (x : SV) (o : Op) (K : List Prop → SV → Prop) : Prop :=
  match x with
  | .sl _ n _ => K [] (.int .i64 n)
  | .sub _ _ _ _ n _ => K [] (.int .i64 n)
  | .nils => K [] (.int .i64 0)
  | _ => Stuck "len" o
def capK (x : SV) (o : Op) (K : List Prop → SV → Prop) : Prop :=
  match x with
  | .sl _ _ k => K [] (.int .i64 k)
  | .sub _ _ _ _ _ k => K [] (.int .i64 k)
  | .nils => K [] (.int .i64 0)
  | _ => Stuck "cap" o
def mxLR (big : Bool) : Int → List SV → (Int → Prop) → Prop → Prop
  | a, [], K, _ => K a
  | a, .int .i64 b :: r, K, z => match big with
    | true => mxLR big (max a b) r K z
    | false => mxLR big (min a b) r K z
  | _, _, _, z => z
def mxLRS : { f // f = @mxLR } := by delta mxLR; exact ⟨_, rfl⟩
def mxL := mxLRS.val
def layL (cs : List SV) (n : Nat) (vs : List SV) : List SV := cs.take n ++ vs ++ cs.drop (n + vs.length)
def plainV : SV → Bool
  | .raw (.agg _) => false
  | _ => true
def cellsOf : SV → List SV
  | .agg l => l
  | v => [v]
def fillS (place : Nat → Option (Nat × Nat)) : List SV → List (Nat × SV) → Option (List SV)
  | cells, [] => some cells
  | cells, (i, v) :: r => match place i with
    | none => none
    | some (off, size) => bif plainV v && Nat.beq (cellsOf v).length size && Nat.ble (off + (cellsOf v).length) cells.length then fillS place (layL cells off (cellsOf v)) r else none
def partsOf (sv : Operand → SV) : List (Nat × Operand) → List (Nat × SV)
  | [] => []
  | (i, x) :: r => (i, sv x) :: partsOf sv r
def mapSV (sv : Operand → SV) : List Operand → List SV
  | [] => []
  | x :: r => sv x :: mapSV sv r
def optSV (sv : Operand → SV) : Option Operand → Option SV
  | none => none
  | some x => some (sv x)
end Go.Zz
namespace Go.Zz
open Go.Px Go.RowKit
set_option linter.unusedVariables false
set_option linter.unusedSimpArgs false
set_option linter.unusedSectionVars false
theorem denL_map {Δ : Env0} {ρ : Rho} : ∀ l : List SV, SV.denL Δ ρ l = l.map (SV.den Δ ρ)
  | [] => by simp [SV.denL]
  | x :: r => by simp [SV.denL, denL_map r]
theorem denL_len {Δ : Env0} {ρ : Rho} (l : List SV) : (SV.denL Δ ρ l).length = l.length := by simp [denL_map]
theorem denL_get {Δ : Env0} {ρ : Rho} {l : List SV} {i : Nat} : (SV.denL Δ ρ l)[i]? = (l[i]?).map (SV.den Δ ρ) := by simp [denL_map]
theorem denL_drop {Δ : Env0} {ρ : Rho} {l : List SV} {i : Nat} : SV.denL Δ ρ (l.drop i) = (SV.denL Δ ρ l).drop i := by simp [denL_map]
theorem denL_take {Δ : Env0} {ρ : Rho} {l : List SV} {i : Nat} : SV.denL Δ ρ (l.take i) = (SV.denL Δ ρ l).take i := by simp [denL_map]
theorem denL_app {Δ : Env0} {ρ : Rho} {l m : List SV} : SV.denL Δ ρ (l ++ m) = SV.denL Δ ρ l ++ SV.denL Δ ρ m := by simp [denL_map]
theorem bdL_mem {m : Nat} : ∀ {l : List SV}, SV.bdL m l ↔ ∀ x ∈ l, SV.bd m x
  | [] => by simp [SV.bdL]
  | x :: r => by simp [SV.bdL, bdL_mem (l := r)]
theorem nth_eq {α : Type _} : ∀ (l : List α) (i : Nat), nth l i = l[i]?
  | [], i => by simp [nth]
  | x :: r, 0 => by simp [nth]
  | x :: r, i + 1 => by simp [nth, nth_eq r i]
theorem beqT {a b : Nat} (h : Nat.beq a b = true) : a = b := Nat.eq_of_beq_eq_true h
mutual
theorem bd_mono {m n : Nat} (h : m ≤ n) : ∀ (v : SV), v.bd m → v.bd n
  | .ptr c o, hb | .elt c _ _ _, hb | .sl c _ _, hb | .sub c _ _ _ _ _, hb | .mp c, hb => by simp only [SV.bd] at *; omega
  | .fn _ l, hb | .agg l, hb | .tup l, hb => by simp only [SV.bd] at *; exact bdL_mono h l hb
  | .ifc _ v, hb => by simp only [SV.bd] at *; exact bd_mono h v hb
  | .int .., _ | .tt, _ | .ff, _ | .bl _, _ | .dc _ _, _ | .str _, _ | .glob _, _ | .nilp, _ | .nils, _ | .nilm, _ | .nilf, _ | .err _, _ | .nili, _ | .raw _, _ => by simp only [SV.bd]
theorem bdL_mono {m n : Nat} (h : m ≤ n) : ∀ (l : List SV), SV.bdL m l → SV.bdL n l
  | [], _ => by simp only [SV.bdL]
  | x :: r, hb => by simp only [SV.bdL] at *; exact ⟨bd_mono h x hb.1, bdL_mono h r hb.2⟩
end
mutual
theorem den_congr {Δ : Env0} {ρ σ : Rho} {m : Nat} (h : ∀ c, c < m → ρ c = σ c) : ∀ (v : SV), v.bd m → v.den Δ ρ = v.den Δ σ
  | .ptr c o, hb | .elt c _ _ _, hb | .sl c _ _, hb | .sub c _ _ _ _ _, hb | .mp c, hb => by simp only [SV.bd] at hb; simp only [SV.den, h c hb]
  | .fn _ l, hb | .agg l, hb | .tup l, hb => by simp only [SV.bd] at hb; simp only [SV.den, denL_congr h l hb]
  | .ifc _ v, hb => by simp only [SV.bd] at hb; simp only [SV.den, den_congr h v hb]
  | .int .., _ | .tt, _ | .ff, _ | .bl _, _ | .dc _ _, _ | .str _, _ | .glob _, _ | .nilp, _ | .nils, _ | .nilm, _ | .nilf, _ | .err _, _ | .nili, _ | .raw _, _ => by simp only [SV.den]
theorem denL_congr {Δ : Env0} {ρ σ : Rho} {m : Nat} (h : ∀ c, c < m → ρ c = σ c) : ∀ (l : List SV), SV.bdL m l → SV.denL Δ ρ l = SV.denL Δ σ l
  | [], _ => by simp only [SV.denL]
  | x :: r, hb => by simp only [SV.bdL] at hb; simp only [SV.denL, den_congr h x hb.1, denL_congr h r hb.2]
end
mutual
theorem den_ren {Δ : Env0} {ρ : Rho} {f : Nat → Nat} : ∀ (v : SV), (v.ren f).den Δ ρ = v.den Δ (fun c => ρ (f c))
  | .ptr c o | .elt c _ _ _ | .sl c _ _ | .sub c _ _ _ _ _ | .mp c => by simp only [SV.ren, SV.den]
  | .fn _ l | .agg l | .tup l => by simp only [SV.ren, SV.den, denL_ren l]
  | .ifc _ v => by simp only [SV.ren, SV.den, den_ren v]
  | .int .. | .tt | .ff | .bl _ | .dc _ _ | .str _ | .glob _ | .nilp | .nils | .nilm | .nilf | .err _ | .nili | .raw _ => by simp only [SV.ren, SV.den]
theorem denL_ren {Δ : Env0} {ρ : Rho} {f : Nat → Nat} : ∀ (l : List SV), SV.denL Δ ρ (SV.renL f l) = SV.denL Δ (fun c => ρ (f c)) l
  | [] => by simp only [SV.renL, SV.denL]
  | x :: r => by simp only [SV.renL, SV.denL, den_ren x, denL_ren r]
end
mutual
theorem bd_ren {f : Nat → Nat} {m n : Nat} (h : ∀ c, c < m → f c < n) : ∀ (v : SV), v.bd m → (v.ren f).bd n
  | .ptr c o, hb | .elt c _ _ _, hb | .sl c _ _, hb | .sub c _ _ _ _ _, hb | .mp c, hb => by simp only [SV.ren, SV.bd] at *; exact h c hb
  | .fn _ l, hb | .agg l, hb | .tup l, hb => by simp only [SV.ren, SV.bd] at *; exact bdL_ren h l hb
  | .ifc _ v, hb => by simp only [SV.ren, SV.bd] at *; exact bd_ren h v hb
  | .int .., _ | .tt, _ | .ff, _ | .bl _, _ | .dc _ _, _ | .str _, _ | .glob _, _ | .nilp, _ | .nils, _ | .nilm, _ | .nilf, _ | .err _, _ | .nili, _ | .raw _, _ => by simp only [SV.ren, SV.bd]
theorem bdL_ren {f : Nat → Nat} {m n : Nat} (h : ∀ c, c < m → f c < n) : ∀ (l : List SV), SV.bdL m l → SV.bdL n (SV.renL f l)
  | [], _ => by simp only [SV.renL, SV.bdL]
  | x :: r, hb => by simp only [SV.renL, SV.bdL] at *; exact ⟨bd_ren h x hb.1, bdL_ren h r hb.2⟩
end
theorem den_ofV {Δ : Env0} {ρ : Rho} (v : Value) : (ofV v).den Δ ρ = v := by
  unfold ofV
  split <;> simp only [SV.den]
theorem bd_ofV {m : Nat} (v : Value) : (ofV v).bd m := by
  unfold ofV
  split <;> simp only [SV.bd]
theorem den_ofVs {Δ : Env0} {ρ : Rho} : ∀ l : List Value, SV.denL Δ ρ (ofVs l) = l
  | [] => by simp only [ofVs, SV.denL]
  | x :: r => by simp only [ofVs, SV.denL, den_ofV, den_ofVs r]
theorem bd_ofVs {m : Nat} : ∀ l : List Value, SV.bdL m (ofVs l)
  | [] => by simp only [ofVs, SV.bdL]
  | x :: r => by simp only [ofVs, SV.bdL, bd_ofV, bd_ofVs r, true_and]
theorem den_ofC {Δ : Env0} {ρ : Rho} (v : Value) : (ofC v).den Δ ρ = v := by
  unfold ofC
  split
  · simp only [SV.den, den_ofVs]
  · exact den_ofV _
theorem bd_ofC {m : Nat} (v : Value) : (ofC v).bd m := by
  unfold ofC
  split
  · simp only [SV.bd]; exact bd_ofVs _
  · exact bd_ofV _
def zvOf (Δ : Env0) (ti : TI) : Value := match ti.agg, ti.zero with
  | false, [z] => z.den Δ (fun _ => none)
  | _, zs => .agg (SV.denL Δ (fun _ => none) zs).toArray
def uOk (P : Program) (t : TypeId) : U → Prop
  | .other => True
  | .bool => P.underlying t = some .bool
  | .str => P.underlying t = some .string
  | .ptr => ∃ e, P.underlying t = some (.pointer e)
  | .iface => ∃ ms, P.underlying t = some (.interface ms)
  | .func => ∃ a b c, P.underlying t = some (.func a b c)
  | .map k v => P.underlying t = some (.map k v)
  | .int k => P.underlying t = some (.int k)
  | .slice e => P.underlying t = some (.slice e)
  | .array n e => P.underlying t = some (.array n e)
  | .struct fs => ∃ a, (P.underlying t = some (.struct a) ∧ a.toList.map (fun f => (f.offset, f.type)) = fs) ∧ a.toList.all (fun f => (P.info? f.type).isSome) = true
def isAggD : TypeDesc → Bool
  | .struct _ => true
  | .array _ _ => true
  | _ => false
structure TiOk (P : Program) (Δ : Env0) (t : TypeId) (ti : TI) : Prop where
  info : (P.info? t).map (fun i => (i.size, i.bytes, i.zero)) = some (ti.sz, ti.by_, some (zvOf Δ ti))
  agg : (P.underlying t).map isAggD = some ti.agg
  u : uOk P t ti.u
  zb : SV.bdL 0 ti.zero
  one : ∀ u ∈ SV.denL Δ (fun _ => none) ti.zero, u.oneCell' = true
  zl : ti.zero.length = ti.sz
def LK.okV : LK → Value → Prop
  | .int k, v => ∃ n, v = .int k n
  | .bool, v => ∃ b, v = .bool b
def okVs : List LK → List Value → Prop
  | [], [] => True
  | k :: r, v :: s => k.okV v ∧ okVs r s
  | _, _ => False
def leafB : Value → Value → Bool
  | .int _ a, .int _ b => a == b
  | .bool a, .bool b => a == b
  | _, _ => false
def leavesB : List Value → List Value → Bool
  | x :: r, y :: s => leafB x y && leavesB r s
  | _, _ => true
structure EqOk (P : Program) (t : TypeId) (sh : List LK) : Prop where
  guard : P.eqGuardType P.depth t = false
  eq : ∀ xs ys, okVs sh xs → okVs sh ys → ∀ w, (Op.equal t (.agg xs.toArray) (.agg ys.toArray)).run P w = .ok (leavesB xs ys) w
structure Ctx.Ok (Γ : Ctx) : Prop where
  tb : ∀ t ti, lk Γ.tb t = some ti → TiOk Γ.P Γ.Δ t ti
  eqs : ∀ t sh, lk Γ.eqs t = some sh → EqOk Γ.P t sh
  mixed : Γ.P.follows .mixedOrders = true
section
variable {P : Program} {Δ : Env0} {t : TypeId} {ti : TI}
theorem TiOk.size (h : TiOk P Δ t ti) (w : World) : (sizeOf t).run P w = .ok ti.sz w := by
  obtain ⟨i, hi, he⟩ := Option.map_eq_some_iff.1 h.info
  simp only [Prod.mk.injEq] at he
  simp [sizeOf, typeInfo, hi, he.1]
theorem TiOk.cellsOf (h : TiOk P Δ t ti) : P.cellsOf t = ti.sz := by
  obtain ⟨i, hi, he⟩ := Option.map_eq_some_iff.1 h.info
  simp only [Prod.mk.injEq] at he
  simp [Program.cellsOf, hi, he.1]
theorem TiOk.isSome (h : TiOk P Δ t ti) : (P.info? t).isSome = true := by
  obtain ⟨i, hi, he⟩ := Option.map_eq_some_iff.1 h.info
  simp [hi]
theorem TiOk.isAgg (h : TiOk P Δ t ti) (w : World) : (Go.isAgg t).run P w = .ok ti.agg w := by
  obtain ⟨d, hd, he⟩ := Option.map_eq_some_iff.1 h.agg
  simp only [Go.isAgg, Sem.run_bind, run_underlying hd, Result.andThen_ok]
  rw [← he]
  cases d <;> simp [isAggD]
theorem TiOk.zero (h : TiOk P Δ t ti) (w : World) : (zeroValue t).run P w = .ok (zvOf Δ ti) w := by
  obtain ⟨i, hi, he⟩ := Option.map_eq_some_iff.1 h.info
  simp only [Prod.mk.injEq] at he
  simp [zeroValue, typeInfo, hi, he.2.2]
theorem TiOk.zcells (h : TiOk P Δ t ti) : (zvOf Δ ti).cells = (SV.denL Δ (fun _ => none) ti.zero).toArray := by
  have hl := h.zl
  unfold zvOf
  split
  · rename_i z hag hz
    have h1 := h.one (z.den Δ (fun _ => none)) (by rw [hz]; simp [SV.denL])
    rw [hz]
    simp only [SV.denL]
    generalize z.den Δ (fun _ => none) = u at *
    cases u <;> simp [Value.cells, Value.oneCell'] at *
  · rfl
end
structure Ent where
  F0 : Nat → Prop
  w0 : World
  n0 : Nat
  ρ0 : Rho
  ds : List Deferred
structure Val where
  ρ : Rho
  β : Nat → Nat → Prop
def Ch.ok (Γ : Ctx) (En : Ent) (V : Val) (c : Nat) (w : World) : Ch → Prop
  | .cells t vs => ∃ g, V.ρ c = some ⟨g, 0, none⟩ ∧ (∀ i, V.β c i ↔ i = g) ∧ w.heap[g]? = some (.cells (SV.denL Γ.Δ V.ρ vs).toArray t (0, 0)) ∧ ∀ u ∈ SV.denL Γ.Δ V.ρ vs, u.oneCell' = true
  | .arr _ e t l k => w.ownsRow 0 t e.sz (.slice (V.ρ c) l.length k) l.length (flat e.val l) ∧ ∀ i, V.β c i ↔ Value.ownBlock (.slice (V.ρ c) l.length k) = some i
  | .ro _ e l k => Arr En.w0 e.sz (V.ρ c) l.length k (flat e.val l) ∧ (∀ i, ¬ V.β c i) ∧ (0 < l.length → ∀ A, V.ρ c = some A → ¬ En.F0 A.block ∧ A.block < En.w0.heap.size)
  | .pr Ψ => Ψ.ok (V.ρ c) (V.β c) w
  | .hole Ψ vs => Ψ.ok (SV.denL Γ.Δ V.ρ vs) (V.ρ c) (V.β c) w
  | .fo Ψ => Ψ.ok (V.ρ c) En.F0 En.w0 ∧ ∀ i, ¬ V.β c i
def Ch.bd (m : Nat) : Ch → Prop
  | .cells _ vs => SV.bdL m vs
  | .hole _ vs => SV.bdL m vs
  | _ => True
structure HR (Γ : Ctx) (En : Ent) (V : Val) (H : Hp) (w : World) : Prop where
  ok : ∀ c ch, lk H c = some ch → ch.ok Γ En V c w
  keep : Keep En.F0 En.w0 w
  errs : Errs Γ.errs En.w0 Γ.Δ.eT Γ.Δ.E
  eF : ∀ g, Γ.errs.contains g = true → ¬ En.F0 g ∧ ¬ En.F0 (Γ.Δ.E g).block
def HB (nx : Nat) (H : Hp) : Prop := ∀ c ch, lk H c = some ch → c < nx ∧ ch.bd nx
theorem HR.errsNow {Γ : Ctx} {En : Ent} {V : Val} {H : Hp} {w : World} (h : HR Γ En V H w) : Errs Γ.errs w Γ.Δ.eT Γ.Δ.E :=
  ⟨fun g hg => h.keep.cell (h.errs.cell g hg) (h.eF g hg).1, fun g hg => by obtain ⟨c, u, hc⟩ := h.errs.blk g hg; exact ⟨c, u, h.keep.obj hc (h.eF g hg).2⟩, h.errs.inj⟩
theorem addA (g o : Nat) : (⟨g, 0, none⟩ : Addr).add o = ⟨g, o, none⟩ := by
  unfold Addr.add
  split
  · rename_i h; subst h; rfl
  · simp
theorem memB_contains {l : List Nat} {g : Nat} (h : memB l g = true) : l.contains g = true := by
  induction l with
  | nil => cases h
  | cons x r ih =>
    simp only [memB, Bool.or_eq_true] at h
    simp only [List.contains_cons, Bool.or_eq_true, beq_iff_eq]
    rcases h with h | h
    · exact .inl (beqT h).symm
    · exact .inr (ih h)
section
variable {Γ : Ctx} {En : Ent} {V : Val} {H : Hp} {w : World}
theorem Ch.cells_at {t : TypeId} {vs : List SV} {c : Nat} (h : (Ch.cells t vs).ok Γ En V c w) : ∃ A, V.ρ c = some A ∧ ∀ o v, vs[o]? = some v → w.cell? (A.add o) = some (v.den Γ.Δ V.ρ) := by
  obtain ⟨g, hg, _, hw, _⟩ := h
  refine ⟨_, hg, fun o v hv => ?_⟩
  rw [addA]
  simp only [World.cell?, hw]
  simp [denL_get, hv]
theorem Ch.elt_at {α : Type} {e : Enc α} {l : List α} {k i o n : Nat} {a : Option Addr} {W : World} (h : Arr W e.sz a n k (flat e.val l)) (hi : i < l.length) {v : SV} (hv : (e.get (l.getD i e.d))[o]? = some v) {ρ : Rho} :
    ∃ A, a = some A ∧ W.cell? (A.add (i * e.sz + o)) = some (v.den Γ.Δ ρ) := by
  have hn : 0 < n := by
    have h1 := h.len
    rw [flat_len e.len] at h1
    have hz : 0 < e.sz := by
      have h2 : (e.val (l.getD i e.d))[o]? = some (v.den Γ.Δ ρ) := by rw [← e.den_get Γ.Δ ρ, denL_get, hv]; rfl
      have h3 := (List.getElem?_eq_some_iff.1 h2).1
      rw [e.len] at h3
      omega
    have h4 : l.length = n := Nat.eq_of_mul_eq_mul_right hz h1
    omega
  obtain ⟨A, rfl⟩ := Option.isSome_iff_exists.1 (h.some_ hn)
  refine ⟨A, rfl, ?_⟩
  have h2 : (e.val (l.getD i e.d))[o]? = some (v.den Γ.Δ ρ) := by rw [← e.den_get Γ.Δ ρ, denL_get, hv]; rfl
  have h3 := h.get (d := e.d) e.len hi h2
  rw [add_add] at h3
  exact h3
end
theorem run_loadVar {P : Program} {Δ : Env0} {ρ : Rho} {t : TypeId} {ti : TI} (hT : TiOk P Δ t ti) {vs : List SV} {off : Nat} {o : Op} {K : SV → Prop} {nx : Nat}
    (hb : SV.bdL nx vs) (h : cutK ti.agg vs off ti.sz o K) :
    ∃ v, v.bd nx ∧ K v ∧ off < vs.length ∧ ∀ (w : World) (A : Addr), (∀ j u, vs[off + j]? = some u → w.cell? (A.add j) = some (u.den Δ ρ)) → (loadVar t A).run P w = .ok (v.den Δ ρ) w := by
  unfold cutK at h
  split at h
  · rename_i hg
    rw [force_eq] at h
    cases hl : Nat.beq ((vs.drop off).take ti.sz).length ti.sz && Nat.blt 0 ti.sz with
    | false => rw [hl] at h; exact h.no.elim
    | true =>
      rw [hl] at h
      simp only [Bool.and_eq_true] at hl
      have hz : 0 < ti.sz := by simpa [Nat.blt_eq] using hl.2
      replace hl := hl.1
      refine ⟨.agg ((vs.drop off).take ti.sz), ?_, h, by have := beqT hl; simp at this; omega, fun w A hc => ?_⟩
      · simp only [SV.bd]
        rw [bdL_mem] at hb ⊢
        exact fun x hx => hb x (List.mem_of_mem_drop (List.mem_of_mem_take hx))
      · have hl' := beqT hl
        have hag := hT.isAgg w
        rw [hg] at hag
        have h2 := run_loadCells_list (P := P) (w := w) A (SV.denL Δ ρ ((vs.drop off).take ti.sz)) (fun j v hv => by
          rw [denL_get] at hv
          obtain ⟨u, hu, rfl⟩ := Option.map_eq_some_iff.1 hv
          rw [List.getElem?_take] at hu
          split at hu
          · rw [List.getElem?_drop] at hu; exact hc j u hu
          · cases hu)
        rw [denL_len, hl'] at h2
        simp only [loadVar, Sem.run_bind, hag, Result.andThen_ok, hT.size, if_true, h2, SV.den, Sem.run_pure]
  · rename_i hg
    split at h
    · rename_i v hv
      rw [kval_eq] at h
      rw [nth_eq] at hv
      refine ⟨v, ?_, h, (List.getElem?_eq_some_iff.1 hv).1, fun w A hc => ?_⟩
      · rw [bdL_mem] at hb; exact hb v (List.mem_of_getElem? hv)
      · have hag := hT.isAgg w
        rw [hg] at hag
        have h2 := hc 0 v (by simpa using hv)
        rw [add_zero] at h2
        simp [loadVar, Sem.run_bind, hag, load, Sem.run, h2]
    · exact h.no.elim
theorem run_part {P : Program} {Δ : Env0} {ρ : Rho} {t : TypeId} {ti : TI} (hT : TiOk P Δ t ti) {vs : List SV} {off : Nat} {o : Op} {K : SV → Prop} {nx : Nat}
    (hb : SV.bdL nx vs) (h : cutK ti.agg vs off ti.sz o K) : ∃ v, v.bd nx ∧ K v ∧ ∀ w, (part t (SV.denL Δ ρ vs).toArray off).run P w = .ok (v.den Δ ρ) w := by
  unfold cutK at h
  split at h
  · rename_i hg
    rw [force_eq] at h
    cases hl : Nat.beq ((vs.drop off).take ti.sz).length ti.sz && Nat.blt 0 ti.sz with
    | false => rw [hl] at h; exact h.no.elim
    | true =>
      rw [hl] at h
      simp only [Bool.and_eq_true] at hl
      have hz : 0 < ti.sz := by simpa [Nat.blt_eq] using hl.2
      replace hl := hl.1
      refine ⟨.agg ((vs.drop off).take ti.sz), ?_, h, fun w => ?_⟩
      · simp only [SV.bd]
        rw [bdL_mem] at hb ⊢
        exact fun x hx => hb x (List.mem_of_mem_drop (List.mem_of_mem_take hx))
      · have hag := hT.isAgg w
        rw [hg] at hag
        simp only [part, Sem.run_bind, hag, Result.andThen_ok, hT.size, if_true, SV.den, Sem.run_pure, denL_take, denL_drop]
        congr 2
        apply Array.ext'
        simp [List.take_drop, Nat.add_sub_cancel_left]
  · rename_i hg
    split at h
    · rename_i v hv
      rw [kval_eq] at h
      rw [nth_eq] at hv
      refine ⟨v, ?_, h, fun w => ?_⟩
      · rw [bdL_mem] at hb; exact hb v (List.mem_of_getElem? hv)
      · have hag := hT.isAgg w
        rw [hg] at hag
        simp [part, Sem.run_bind, hag, denL_get, hv]
    · exact h.no.elim
end Go.Zz
namespace Go.Zz
open Go.Px Go.RowKit
set_option linter.unusedVariables false
set_option linter.unusedSimpArgs false
set_option linter.unusedSectionVars false
def RdOk (Γ : Ctx) (En : Ent) (V : Val) (nx : Nat) (H : Hp) (sv : Operand → SV) (oper : Oper) (K : List Prop → SV → Prop) : Prop :=
  ∃ obs v, v.bd nx ∧ K obs v ∧ (AllP obs → ∀ β w, HR Γ En ⟨V.ρ, β⟩ H w → (execOp (fun x => (sv x).den Γ.Δ V.ρ) oper).run Γ.P w = .ok (.value (v.den Γ.Δ V.ρ)) w)
structure RdGoal (Γ : Ctx) (sv : Operand → SV) (H : Hp) (o : Op) (K : List Prop → SV → Prop) : Prop where
  h : ∀ En V nx oper, oper.op = o → HB nx H → (∀ x ∈ o.operands.toList, (sv x).bd nx) → RdOk Γ En V nx H sv oper K
def rd (Γ : Ctx) (sv : Operand → SV) (H : Hp) (o : Op) (K : List Prop → SV → Prop) : Prop :=
  match o with
  | .move x => kval (sv x) (K [])
  | .assign x => kval (sv x) (K [])
  | .load t a => match lk Γ.tb t with
    | some ti => rdLoad Γ H ti (sv a) o K
    | none => Stuck "load: its type" o
  | .nilCheck x => match sv x with
    | .ptr c i => K [] (.ptr c i)
    | .elt c i sz f => K [] (.elt c i sz f)
    | .mp c => K [] (.mp c)
    | .fn f l => K [] (.fn f l)
    | _ => Stuck "nilCheck" o
  | .binOp op t x y _ => match nilQ Γ op t (sv x) (sv y) with
    | some (c, eq) => nilK H c eq o K
    | none => rdBin Γ op t (isC x || isC y) (sv x) (sv y) o K
  | .unOp op _ x => rdUn Γ.lax op (sv x) o K
  | .convert s t x => match lk Γ.tb s, lk Γ.tb t, sv x with
    | some _, some ti, .int _ a => match ti.u with
      | .int k => fitK (Γ.lax || keq k .u64) k a [] K
      | _ => Stuck "convert" o
    | _, _, _ => Stuck "convert" o
  | .makeInterface t x => match lk Γ.tb t with
    | some ti => bif U.conc ti.u then kval (sv x) fun v => K [] (.ifc t v) else Stuck "makeInterface" o
    | none => Stuck "makeInterface: its type" o
  | .makeFunc (.func f) first caps => match first.toList with
    | [] => force (mapSV sv caps.toList) fun l => K [] (.fn f l)
    | _ => RdGoal Γ sv H o K
  | .slice t x lo hi none => match lk Γ.tb t with
    | some ti => match ti.u with
      | .slice e => match lk Γ.tb e with
        | some te => rdSlice H (sv x) (optSV sv lo) (optSV sv hi) ti te.sz o K
        | none => Stuck "slice: its elements' type" o
      | .array _ e => match lk Γ.tb e with
        | some te => rdSlice H (sv x) (optSV sv lo) (optSV sv hi) ti te.sz o K
        | none => Stuck "slice: its elements' type" o
      | _ => Stuck "slice: its type" o
    | none => Stuck "slice: its type" o
  | .fieldAddr t x i => match lk Γ.tb t with
    | some ⟨_, _, _, _, .struct fs⟩ => match nth fs i, sv x with
      | some (off, ft), .ptr c j => match lk Γ.tb ft with
        | some tf => bif Nat.blt 0 tf.sz then litK (j + off) fun jo => K [] (.ptr c jo) else Stuck "fieldAddr: no cells" o
        | none => Stuck "fieldAddr: its type" o
      | some (off, ft), .elt c j sz f => match lk Γ.tb ft with
        | some tf => bif Nat.blt 0 tf.sz then litK (f + off) fun jo => K [] (.elt c j sz jo) else Stuck "fieldAddr: no cells" o
        | none => Stuck "fieldAddr: its type" o
      | _, _ => Stuck "fieldAddr" o
    | _ => Stuck "fieldAddr: its type" o
  | .field t x i => match lk Γ.tb t with
    | some ⟨_, _, _, _, .struct fs⟩ => match nth fs i, sv x with
      | some (off, ft), .agg l => match lk Γ.tb ft with
        | some ti => cutK ti.agg l off ti.sz o (K [])
        | none => Stuck "field: its type" o
      | _, _ => Stuck "field" o
    | _ => Stuck "field: the struct's type" o
  | .indexAddr t x ix => match lk Γ.tb t with
    | some ti => match ti.u, sv x, sv ix with
      | .slice e, .sl c n k, .int _ j => match lk Γ.tb e with
        | some te => hereK H c o fun ob => K ((0 ≤ j ∧ j < (n : Int)) :: ob) (.elt c j.toNat te.sz 0)
        | none => Stuck "indexAddr: its elements' type" o
      | .slice e, .sub c lo k0 sz n k, .int _ j => match lk Γ.tb e with
        | some te => bif Nat.beq te.sz sz then hereK H c o fun ob => K ((0 ≤ j ∧ j < (n : Int)) :: (lo < k0) :: ob) (.elt c (lo + j.toNat) te.sz 0) else Stuck "indexAddr: size" o
        | none => Stuck "indexAddr: its elements' type" o
      | .array m e, .ptr c 0, .int _ j => match lk Γ.tb e with
        | some te => K [0 ≤ j ∧ j < (m : Int)] (.elt c j.toNat te.sz 0)
        | none => Stuck "indexAddr: its elements' type" o
      | _, _, _ => Stuck "indexAddr" o
    | none => Stuck "indexAddr: its type" o
  | .extract x i => match sv x with
    | .tup l => match nth l i with
      | some v => kval v (K [])
      | none => Stuck "extract" o
    | _ => Stuck "extract" o
  | .build t ps => match lk Γ.tb t with
    | some ti => match ti.u with
      | .struct fs => match fillS (fun i => match nth fs i with
            | some (off, ft) => match lk Γ.tb ft with
              | some tf => some (off, tf.sz)
              | none => none
            | none => none) ti.zero (partsOf sv ps.toList) with
        | some l => force l fun l => K [] (.agg l)
        | none => Stuck "build" o
      | .array n e => match lk Γ.tb e with
        | some te => match fillS (fun i => some (i * te.sz, te.sz)) ti.zero (partsOf sv ps.toList) with
          | some l => force l fun l => K [] (.agg l)
          | none => Stuck "build" o
        | none => Stuck "build: its elements' type" o
      | _ => Stuck "build: its type" o
    | none => Stuck "build: its type" o
  | .call c => match c.callee with
    | .builtin .len => match c.argTypes.toList with
      | [t] => match lk Γ.tb t with
        | some ti => match ti.u, mapSV sv c.args.toList with
          | .slice _, [x] => lenK x o K
          | .array n _, [x] => K [] (.int .i64 n)
          | _, _ => RdGoal Γ sv H o K
        | none => Stuck "len: its type" o
      | _ => Stuck "len" o
    | .builtin .cap => match c.argTypes.toList with
      | [t] => match lk Γ.tb t with
        | some ti => match ti.u, mapSV sv c.args.toList with
          | .slice _, [x] => capK x o K
          | _, _ => Stuck "cap" o
        | none => Stuck "cap: its type" o
      | _ => Stuck "cap" o
    | .builtin .max => match mapSV sv c.args.toList with
      | .int .i64 a :: r => mxL true a r (fun m => K [] (.int .i64 m)) (Stuck "max" o)
      | _ => Stuck "max" o
    | .builtin .min => match mapSV sv c.args.toList with
      | .int .i64 a :: r => mxL false a r (fun m => K [] (.int .i64 m)) (Stuck "min" o)
      | _ => Stuck "min" o
    | _ => Stuck "call" o
  | .select _ _ => Stuck "select" o
  | o => RdGoal Γ sv H o K
section
variable {Γ : Ctx} {En : Ent} {V : Val} {nx : Nat} {H : Hp} {sv : Operand → SV} {oper : Oper} {K : List Prop → SV → Prop}
theorem fitK_ok {lax : Bool} {k : IntKind} {r : Int} {ob : List Prop} (h : fitK lax k r ob K)
    (hr : AllP ob → ∀ w, (execOp (fun x => (sv x).den Γ.Δ V.ρ) oper).run Γ.P w = .ok (.value (.int k (k.wrap r))) w) : RdOk Γ En V nx H sv oper K := by
  cases lax with
  | true => exact ⟨ob, .int k (k.wrap r), by simp only [SV.bd], h, fun ho _ w _ => by simpa only [SV.den] using hr ho w⟩
  | false =>
    refine ⟨fitP k r :: ob, .int k r, by simp only [SV.bd], h, fun ho _ w _ => ?_⟩
    rw [AllP_cons] at ho
    have := hr ho.2 w
    rw [fitP_wrap ho.1] at this
    simpa only [SV.den] using this
theorem shB_ok {Δ : Env0} {ρ : Rho} : ∀ {sh : List LK} {l : List SV}, shB sh l = true → okVs sh (SV.denL Δ ρ l)
  | [], [], _ => trivial
  | [], _ :: _, h => by simp [shB] at h
  | .int k :: r, [], h => by simp [shB] at h
  | .bool :: r, [], h => by simp [shB] at h
  | .int k :: r, x :: s, h => by
    cases x <;> simp only [shB, Bool.and_eq_true, Bool.false_eq_true] at h
    rename_i k' n
    obtain rfl := keq_eq h.1
    exact ⟨⟨n, by simp only [SV.den]⟩, shB_ok h.2⟩
  | .bool :: r, x :: s, h => by
    cases x <;> simp only [shB, Bool.false_eq_true] at h
    · exact ⟨⟨true, by simp only [SV.den]⟩, shB_ok h⟩
    · exact ⟨⟨false, by simp only [SV.den]⟩, shB_ok h⟩
    · rename_i b; exact ⟨⟨b, by simp only [SV.den]⟩, shB_ok h⟩
    · rename_i p d; exact ⟨⟨decide p, by simp only [SV.den]⟩, shB_ok h⟩
theorem eq1_ok {Δ : Env0} {ρ : Rho} {x y : SV} {L : (p : Prop) → Decidable p → Prop} {z : Prop} (h : eq1 x y L z) : z ∨ ∃ p d, L p d ∧ leafB (x.den Δ ρ) (y.den Δ ρ) = @decide p d := by
  unfold eq1 at h
  split at h
  all_goals first
    | exact .inl h
    | (refine .inr ⟨_, _, h, ?_⟩; simp only [SV.den, leafB]; first | done | rfl | skip)
  all_goals try simp
  all_goals first | done | rfl | (rename_i a b; cases a <;> cases b <;> rfl) | skip
  all_goals first | done | (rw [Bool.eq_iff_iff]; simp) | skip
theorem eqK_ok {Δ : Env0} {ρ : Rho} : ∀ {l m : List SV} {L : (p : Prop) → Decidable p → Prop} {z : Prop}, eqK l m L z → l.length = m.length → z ∨ ∃ p d, L p d ∧ leavesB (SV.denL Δ ρ l) (SV.denL Δ ρ m) = @decide p d
  | [], [], L, z, h, _ => .inr ⟨True, _, h, by simp [SV.denL, leavesB]⟩
  | [], _ :: _, _, _, _, hl => by simp at hl
  | _ :: _, [], _, _, _, hl => by simp at hl
  | [x], [y], L, z, h, _ => by
    (simp only [eqK_R, eqKR] at h; (try simp only [← eqK_R] at h))
    rcases eq1_ok (Δ := Δ) (ρ := ρ) h with h | ⟨p, d, h, e⟩
    · exact .inl h
    · exact .inr ⟨p, d, h, by simpa [SV.denL, leavesB] using e⟩
  | [x], y :: y2 :: s, _, _, _, hl => by simp at hl
  | x :: x2 :: r, [y], _, _, _, hl => by simp at hl
  | x :: x2 :: r, y :: y2 :: s, L, z, h, hl => by
    (simp only [eqK_R, eqKR] at h; (try simp only [← eqK_R] at h))
    rcases eq1_ok (Δ := Δ) (ρ := ρ) h with h | ⟨p, d, h, e⟩
    · exact .inl h
    · rcases eqK_ok (Δ := Δ) (ρ := ρ) (l := x2 :: r) (m := y2 :: s) h (by simpa using hl) with h | ⟨q, d', h, e'⟩
      · exact .inl h
      · refine .inr ⟨p ∧ q, _, h, ?_⟩
        have e2 : leavesB (SV.denL Δ ρ (x :: x2 :: r)) (SV.denL Δ ρ (y :: y2 :: s)) = (leafB (x.den Δ ρ) (y.den Δ ρ) && leavesB (SV.denL Δ ρ (x2 :: r)) (SV.denL Δ ρ (y2 :: s))) := by simp only [SV.denL, leavesB]
        rw [e2, e, e']
        simp
theorem rdUn_ok {op : UnOp} {x : Operand} {t : TypeId} (hop : oper.op = .unOp op t x) (h : rdUn Γ.lax op (sv x) oper.op K) : RdOk Γ En V nx H sv oper K := by
  unfold rdUn at h
  split at h
  · rename_i hx; exact ⟨[], .ff, by simp only [SV.bd], h, fun _ _ w _ => by simp [execOp, hop, hx, SV.den, Op.unary]⟩
  · rename_i hx; exact ⟨[], .tt, by simp only [SV.bd], h, fun _ _ w _ => by simp [execOp, hop, hx, SV.den, Op.unary]⟩
  · rename_i b hx; exact ⟨[], .bl (!b), by simp only [SV.bd], h, fun _ _ w _ => by simp [execOp, hop, hx, SV.den, Op.unary]⟩
  · rename_i p d hx; exact ⟨[], .dc (¬p) inferInstance, by simp only [SV.bd], h, fun _ _ w _ => by simp [execOp, hop, hx, SV.den, Op.unary]⟩
  · rename_i k a hx; exact fitK_ok h fun _ w => by simp [execOp, hop, hx, SV.den, Op.unary, Op.intArith]
  · exact h.no.elim
end
theorem aggs_len {sh : List LK} : ∀ {l : List SV}, shB sh l = true → l.length = sh.length := by
  induction sh with
  | nil => intro l h; cases l <;> simp [shB] at *
  | cons k r ih =>
    intro l h
    cases l with
    | nil => cases k <;> simp [shB] at h
    | cons x s => cases k <;> cases x <;> simp only [shB, Bool.and_eq_true, Bool.false_eq_true] at h <;> first | (simp [ih h.2]; done) | simp [ih h]
theorem eqlIface (P : Program) {t : TypeId} {ms : Array (String × TypeId)} (hu : P.underlying t = some (.interface ms)) (u : TypeId) (v : Value) (w : World) :
    (Op.equal t (.iface u v) .nilIface).run P w = .ok false w ∧ (Op.equal t .nilIface (.iface u v)).run P w = .ok false w ∧ (Op.equal t .nilIface .nilIface).run P w = .ok true w := by
  have h1 : ∀ d, (Op.equalIn (d + 1) t (.iface u v) .nilIface).run P w = .ok false w ∧ (Op.equalIn (d + 1) t .nilIface (.iface u v)).run P w = .ok false w ∧ (Op.equalIn (d + 1) t .nilIface .nilIface).run P w = .ok true w := fun d => by
    simp [Op.equalIn, run_underlying hu]
  exact h1 9999
theorem eqlPtr (P : Program) {t e : TypeId} (hu : P.underlying t = some (.pointer e)) (w : World) : (Op.equal t (.pointer none) (.pointer none)).run P w = .ok true w := by
  have h1 : ∀ d, (Op.equalIn (d + 1) t (.pointer none) (.pointer none)).run P w = .ok true w := fun d => by simp [Op.equalIn, run_underlying hu]
  exact h1 9999
theorem eqlPtrN (P : Program) {t e : TypeId} (hu : P.underlying t = some (.pointer e)) (A : Addr) (w : World) : (Op.equal t (.pointer (some A)) (.pointer none)).run P w = .ok false w ∧ (Op.equal t (.pointer none) (.pointer (some A))).run P w = .ok false w := by
  have h1 : ∀ d, (Op.equalIn (d + 1) t (.pointer (some A)) (.pointer none)).run P w = .ok false w ∧ (Op.equalIn (d + 1) t (.pointer none) (.pointer (some A))).run P w = .ok false w := fun d => by simp [Op.equalIn, run_underlying hu]
  exact h1 9999
theorem eqlSl (P : Program) {t e : TypeId} (hu : P.underlying t = some (.slice e)) (w : World) : (Op.equal t (.slice none 0 0) (.slice none 0 0)).run P w = .ok true w := by
  have h1 : ∀ d, (Op.equalIn (d + 1) t (.slice none 0 0) (.slice none 0 0)).run P w = .ok true w := fun d => by simp [Op.equalIn, run_underlying hu]
  exact h1 9999
theorem eqlSlN (P : Program) {t e : TypeId} (hu : P.underlying t = some (.slice e)) (a : Option Addr) (n k : Nat) (w : World) : (Op.equal t (.slice a n k) (.slice none 0 0)).run P w = .ok a.isNone w := by
  have h1 : ∀ d, (Op.equalIn (d + 1) t (.slice a n k) (.slice none 0 0)).run P w = .ok a.isNone w := fun d => by cases a <;> simp [Op.equalIn, run_underlying hu]
  exact h1 9999
theorem eqlBool (P : Program) {t : TypeId} (hu : P.underlying t = some .bool) (a b : Bool) (w : World) : (Op.equal t (.bool a) (.bool b)).run P w = .ok (a == b) w := by
  have h1 : ∀ d, (Op.equalIn (d + 1) t (.bool a) (.bool b)).run P w = .ok (a == b) w := fun d => by simp [Op.equalIn, run_underlying hu]
  exact h1 9999
def EqRun (P : Program) (t : TypeId) (a b : Value) (r : Bool) : Prop :=
  (∃ k x y, a = .int k x ∧ b = .int k y ∧ r = (x == y)) ∨ ((∀ w, (Op.equal t a b).run P w = .ok r w) ∧ ((∃ xs ys, a = .agg xs ∧ b = .agg ys ∧ P.eqGuardType P.depth t = false) ∨ (¬ (∃ xs, a = .agg xs)) ∧ (¬ ∃ k x, a = .int k x) ∧ (¬ ∃ k x, a = .float k x) ∧ (¬ ∃ k x y, a = .complex k x y) ∧ (¬ ∃ x, a = .string x)))
def SV.bv : SV → Bool
  | .tt => true
  | .dc p d => @decide p d
  | .bl b => b
  | _ => false
def SV.isB : SV → Bool
  | .tt => true
  | .ff => true
  | .dc _ _ => true
  | _ => false
theorem isB_den {v : SV} (h : v.isB = true) (Δ : Env0) (ρ : Rho) : v.den Δ ρ = .bool v.bv := by cases v <;> simp [SV.isB] at h <;> simp only [SV.den, SV.bv]
theorem isB_bd {v : SV} (h : v.isB = true) (n : Nat) : v.bd n := by cases v <;> simp [SV.isB] at h <;> simp only [SV.bd]
theorem eqRunBool {P : Program} {t : TypeId} (hu : P.underlying t = some .bool) {Δ : Env0} {ρ : Rho} {x y : SV} (hx : ∃ a, x.den Δ ρ = .bool a) {L : SV → Prop} {z : Prop} (h : eq1 x y (fun p d => L (.dc p d)) z) :
    z ∨ ∃ v, L v ∧ v.isB = true ∧ EqRun P t (x.den Δ ρ) (y.den Δ ρ) v.bv ∧ (x.den Δ ρ = .nilIface → False) := by
  obtain ⟨a, hx⟩ := hx
  rcases eq1_ok (Δ := Δ) (ρ := ρ) h with h' | ⟨p, d, hl, e⟩
  · exact .inl h'
  · by_cases hy : ∃ b, y.den Δ ρ = .bool b
    · obtain ⟨b, hy⟩ := hy
      refine .inr ⟨_, hl, rfl, ?_, by rw [hx]; simp⟩
      rw [hx, hy] at e ⊢
      refine .inr ⟨fun w => ?_, .inr (by simp)⟩
      rw [eqlBool P hu]
      simp only [leafB] at e
      simp [SV.bv, e]
    · refine .inl ?_
      cases x <;> simp only [SV.den] at hx <;> (try cases hx) <;> cases y <;> simp only [eq1] at h <;> first
        | exact h
        | (simp [SV.den] at hy; done)
        | skip
theorem rdEq_ok {Γ : Ctx} (hΓ : Γ.Ok) {V : Val} {t : TypeId} {cst : Bool} {x y : SV} {z : Prop} {L : SV → Prop} (h : rdEq Γ t cst x y z L) :
    z ∨ ∃ v, L v ∧ v.isB = true ∧ EqRun Γ.P t (x.den Γ.Δ V.ρ) (y.den Γ.Δ V.ρ) v.bv ∧ (x.den Γ.Δ V.ρ = .nilIface → y.den Γ.Δ V.ρ = .nilIface → cst = true) := by
  unfold rdEq at h
  split at h
  · rename_i k a k' b
    cases hk : keq k k' with
    | false => rw [hk] at h; exact .inl h
    | true =>
      rw [hk] at h
      obtain rfl := keq_eq hk
      refine .inr ⟨_, h, rfl, .inl ⟨k, a, b, by simp only [SV.den], by simp only [SV.den], ?_⟩, fun e => by simp only [SV.den] at e; cases e⟩
      simp only [SV.bv]
      rw [Bool.eq_iff_iff]; simp
  · rename_i l m
    split at h
    · rename_i sh hs
      cases hb : shB sh l && shB sh m with
      | false => rw [hb] at h; exact .inl h
      | true =>
        rw [hb] at h
        simp only [Bool.and_eq_true] at hb
        have hE := hΓ.eqs t sh hs
        rcases eqK_ok (Δ := Γ.Δ) (ρ := V.ρ) h (by rw [aggs_len hb.1, aggs_len hb.2]) with h | ⟨p, d, h, e⟩
        · exact .inl h
        · refine .inr ⟨_, h, rfl, .inr ⟨fun w => ?_, .inl ⟨_, _, by simp only [SV.den]; rfl, by simp only [SV.den]; rfl, hE.guard⟩⟩, fun e => by simp only [SV.den] at e; cases e⟩
          simp only [SV.den, SV.bv]
          rw [hE.eq _ _ (shB_ok hb.1) (shB_ok hb.2) w, e]
    · exact .inl h
  · rename_i x y hne1 hne2
    split at h
    · exact .inl h
    · rename_i ti hti
      have hT := hΓ.tb t ti hti
      have hu := hT.u
      split at h
      all_goals first
        | (rename_i hq; rw [hq] at hu; obtain ⟨ms, hu⟩ := hu
           refine .inr ⟨_, h, rfl, .inr ⟨fun w => ?_, .inr ?_⟩, ?_⟩
           · simp only [SV.den, SV.bv]; first | exact (eqlIface Γ.P hu _ _ w).1 | exact (eqlIface Γ.P hu _ _ w).2.1 | exact eqlPtr Γ.P hu w | exact (eqlPtrN Γ.P hu _ w).1 | exact (eqlPtrN Γ.P hu _ w).2
           · simp [SV.den]
           · simp [SV.den])
        | (rename_i hq; rw [hq] at hu
           refine .inr ⟨_, h, rfl, .inr ⟨fun w => ?_, .inr ?_⟩, ?_⟩
           · simp only [SV.den, SV.bv]; exact eqlSl Γ.P hu w
           · simp [SV.den]
           · simp [SV.den])
        | (rename_i hq; rw [hq] at hu; obtain ⟨ms, hu⟩ := hu
           cases hc : cst with
           | false => rw [hc] at h; exact .inl h
           | true =>
             rw [hc] at h
             refine .inr ⟨_, h, rfl, .inr ⟨fun w => ?_, .inr ?_⟩, fun _ _ => rfl⟩
             · simp only [SV.den, SV.bv]; exact (eqlIface Γ.P hu 0 .nilIface w).2.2
             · simp [SV.den])
        | (rename_i hq; rw [hq] at hu
           rcases eqRunBool (Δ := Γ.Δ) (ρ := V.ρ) hu (by simp [SV.den]) h with h | ⟨v, h1, h2, h3, h4⟩
           · exact .inl h
           · exact .inr ⟨v, h1, h2, h3, fun e => (h4 e).elim⟩)
        | exact .inl h
theorem EqRun.bin {P : Program} {t : TypeId} {a b : Value} {r : Bool} (h : EqRun P t a b r) (w : World) : (Go.binOp .eql t a b).run P w = .ok (.bool r) w ∧ (Go.binOp .neq t a b).run P w = .ok (.bool (!r)) w := by
  rcases h with ⟨k, x, y, rfl, rfl, rfl⟩ | ⟨h, h2⟩
  · simp [Go.binOp, Op.intCmp, bne]
  · rcases h2 with ⟨xs, ys, rfl, rfl, _⟩ | ⟨h3, h4, h5, h6, h7⟩
    · simp [Go.binOp, h w]
    · cases a <;> simp at h3 h4 h5 h6 h7 <;> simp [Go.binOp, h w]
theorem EqRun.guard {P : Program} {t : TypeId} {a b : Value} {r : Bool} (h : EqRun P t a b r) {op : BinOp} {x y : Operand} (hc : a = .nilIface → b = .nilIface → (isC x || isC y) = true) (w : World) : (eqGuard op t x y a b).run P w = .ok () w := by
  unfold eqGuard
  cases op <;> first | (simp; done) | skip
  all_goals
    simp only [Bool.not_true, Bool.false_eq_true, if_false]
    split
    · have := hc rfl rfl
      simp only [Bool.or_eq_true] at this
      rcases this with h1 | h1
      · cases x <;> simp [isC] at h1; simp
      · cases y <;> simp [isC] at h1; simp
    · rename_i xs ys
      rcases h with ⟨k, x, y, h, _⟩ | ⟨h, ⟨_, _, _, _, hg⟩ | ⟨h2, _⟩⟩
      · cases h
      · simp [hg]
      · exact absurd ⟨xs, rfl⟩ h2
    · simp
section
variable {Γ : Ctx} {En : Ent} {V : Val} {nx : Nat} {H : Hp} {sv : Operand → SV} {oper : Oper} {K : List Prop → SV → Prop}
theorem rdBin_ok (hΓ : Γ.Ok) {op : BinOp} {t u : TypeId} {x y : Operand} (hop : oper.op = .binOp op t x y u) (h : rdBin Γ op t (isC x || isC y) (sv x) (sv y) oper.op K) : RdOk Γ En V nx H sv oper K := by
  unfold rdBin at h
  split at h
  · rcases rdEq_ok hΓ (V := V) h with h | ⟨v, h, hb, hr, hc⟩
    · exact h.no.elim
    · refine ⟨[], v, isB_bd hb nx, h, fun _ _ w _ => ?_⟩
      simp only [execOp, hop, Sem.run_bind, hr.guard hc w, Result.andThen_ok, (hr.bin w).1, Sem.run_pure, isB_den hb]
  · rcases rdEq_ok hΓ (V := V) h with h | ⟨v, h, hb, hr, hc⟩
    · exact h.no.elim
    · have hrun : ∀ w, (execOp (fun x => (sv x).den Γ.Δ V.ρ) oper).run Γ.P w = .ok (.value (.bool (!v.bv))) w := fun w => by
        simp only [execOp, hop, Sem.run_bind, hr.guard hc w, Result.andThen_ok, (hr.bin w).2, Sem.run_pure]
      split at h
      · exact ⟨[], .ff, by simp only [SV.bd], h, fun _ _ w _ => by rw [hrun]; simp [SV.den, SV.bv]⟩
      · exact ⟨[], .tt, by simp only [SV.bd], h, fun _ _ w _ => by rw [hrun]; simp [SV.den, SV.bv]⟩
      · exact ⟨[], _, by simp only [SV.bd], h, fun _ _ w _ => by rw [hrun]; simp [SV.den, SV.bv]⟩
      · exact h.no.elim
  · rename_i hn1 hn2
    split at h
    · rename_i k a k' b hx hy
      have hg : ∀ w, (eqGuard op t x y (.int k a) (.int k' b)).run Γ.P w = .ok () w := fun w => by unfold eqGuard; split <;> simp
      split at h
      · exact fitK_ok h fun ho w => by
          have hb : ¬ b < 0 := by have : 0 ≤ b := ho; omega
          simp [execOp, hop, hx, hy, SV.den, hg, Go.binOp, Op.shift, hb]
      · refine ⟨_, _, by simp only [SV.bd], h, fun ho _ w _ => ?_⟩
        have hb : ¬ b < 0 := by have : 0 ≤ b := ho; omega
        simp [execOp, hop, hx, hy, SV.den, hg, Go.binOp, Op.shift, hb]
      · cases hk : keq k k' with
        | false => rw [hk] at h; exact h.no.elim
        | true =>
          rw [hk] at h
          obtain rfl := keq_eq hk
          simp only [cond_true] at h
          split at h
          · exact fitK_ok h fun _ w => by simp [execOp, hop, hx, hy, SV.den, hg, Go.binOp, Op.intArith]
          · exact fitK_ok h fun _ w => by simp [execOp, hop, hx, hy, SV.den, hg, Go.binOp, Op.intArith]
          · exact fitK_ok h fun _ w => by simp [execOp, hop, hx, hy, SV.den, hg, Go.binOp, Op.intArith]
          · exact fitK_ok h fun ho w => by
              have hb : ¬ b = 0 := ho
              simp [execOp, hop, hx, hy, SV.den, hg, Go.binOp, Op.intDiv, hb]
          · refine ⟨_, _, by simp only [SV.bd], h, fun ho _ w _ => ?_⟩
            have hb : ¬ b = 0 := ho
            simp [execOp, hop, hx, hy, SV.den, hg, Go.binOp, Op.intDiv, hb]
          · exact ⟨_, _, by simp only [SV.bd], h, fun ho _ w _ => by simp [execOp, hop, hx, hy, SV.den, hg, Go.binOp, Op.intCmp]⟩
          · exact ⟨_, _, by simp only [SV.bd], h, fun ho _ w _ => by simp [execOp, hop, hx, hy, SV.den, hg, Go.binOp, Op.intCmp]⟩
          · exact ⟨_, _, by simp only [SV.bd], h, fun ho _ w _ => by simp [execOp, hop, hx, hy, SV.den, hg, Go.binOp, Op.intCmp]⟩
          · exact ⟨_, _, by simp only [SV.bd], h, fun ho _ w _ => by simp [execOp, hop, hx, hy, SV.den, hg, Go.binOp, Op.intCmp]⟩
          · exact ⟨_, _, by simp only [SV.bd], h, fun ho _ w _ => by simp [execOp, hop, hx, hy, SV.den, hg, Go.binOp, Op.intBits, bitI]⟩
          · exact ⟨_, _, by simp only [SV.bd], h, fun ho _ w _ => by simp [execOp, hop, hx, hy, SV.den, hg, Go.binOp, Op.intBits, bitI]⟩
          · exact ⟨_, _, by simp only [SV.bd], h, fun ho _ w _ => by simp [execOp, hop, hx, hy, SV.den, hg, Go.binOp, Op.intBits, bitI]⟩
          · exact ⟨_, _, by simp only [SV.bd], h, fun ho _ w _ => by simp [execOp, hop, hx, hy, SV.den, hg, Go.binOp, Op.intBits, bitI]⟩
          · exact h.no.elim
    · exact h.no.elim
end
end Go.Zz
namespace Go.Zz
open Go.Px Go.RowKit
set_option linter.unusedVariables false
set_option linter.unusedSimpArgs false
set_option linter.unusedSectionVars false
section
variable {Γ : Ctx} {En : Ent} {V : Val} {nx : Nat} {H : Hp} {sv : Operand → SV} {oper : Oper} {K : List Prop → SV → Prop}
theorem Ch.arr_now {α : Type} {e : Enc α} {t : TypeId} {l : List α} {k c : Nat} {w : World} (h : (Ch.arr α e t l k).ok Γ En V c w) : Arr w e.sz (V.ρ c) l.length k (flat e.val l) := own_arr h.1
theorem Ch.ro_now {α : Type} {e : Enc α} {l : List α} {k c : Nat} {w : World} (h : (Ch.ro α e l k).ok Γ En V c w) (hk : Keep En.F0 En.w0 w) : Arr w e.sz (V.ρ c) l.length k (flat e.val l) := by
  rcases Nat.eq_zero_or_pos l.length with h0 | h0
  · have hl : l = [] := List.eq_nil_of_length_eq_zero h0
    subst hl
    exact ⟨h.1.len, h.1.some_, h.1.none_, h.1.le, fun j u hu => by simp [flat] at hu⟩
  · exact h.1.keep hk fun A hA => (h.2.2 h0 A hA).1
theorem elt_load {α : Type} {e : Enc α} {l : List α} {n k i off : Nat} {a : Option Addr} {w : World} {ρ : Rho} {Δ : Env0} (h : Arr w e.sz a n k (flat e.val l)) (hi : i < l.length) (hoff : off < (e.get (l.getD i e.d)).length) :
    ∃ A, a = some A ∧ ∀ j u, (e.get (l.getD i e.d))[off + j]? = some u → w.cell? ((A.add (i * e.sz + off)).add j) = some (u.den Δ ρ) := by
  obtain ⟨A, hA, _⟩ := Ch.elt_at (Γ := ⟨default, Δ, [], [], [], [], false, false⟩) h hi (List.getElem?_eq_getElem hoff) (ρ := ρ)
  refine ⟨A, hA, fun j u hu => ?_⟩
  obtain ⟨A', hA', h2⟩ := Ch.elt_at (Γ := ⟨default, Δ, [], [], [], [], false, false⟩) h hi hu (ρ := ρ)
  rw [hA] at hA'
  obtain rfl := Option.some.inj hA'
  rw [add_add, Nat.add_assoc]
  exact h2
theorem rdLoad_ok (hΓ : Γ.Ok) (hB : HB nx H) {t : TypeId} {ti : TI} {x : Operand} (hop : oper.op = .load t x) (hti : lk Γ.tb t = some ti) (h : rdLoad Γ H ti (sv x) oper.op K) : RdOk Γ En V nx H sv oper K := by
  have hT := hΓ.tb t ti hti
  have fin : ∀ {A : Addr} {v : SV} {w : World}, (sv x).den Γ.Δ V.ρ = .pointer (some A) → (loadVar t A).run Γ.P w = .ok (v.den Γ.Δ V.ρ) w → (execOp (fun x => (sv x).den Γ.Δ V.ρ) oper).run Γ.P w = .ok (.value (v.den Γ.Δ V.ρ)) w := fun hx hr => by
    simp [execOp, hop, hx, Instr.loadAt, Instr.sureAddr, hr]
  unfold rdLoad at h
  split at h
  · rename_i c off hx
    split at h
    · rename_i tb vs hc
      obtain ⟨v, h1, h2, _, h3⟩ := run_loadVar (Δ := Γ.Δ) (ρ := V.ρ) hT (hB c _ hc).2 h
      refine ⟨[], v, h1, h2, fun _ β w hw => ?_⟩
      obtain ⟨A, hA, hcell⟩ := Ch.cells_at (hw.ok c _ hc)
      replace hA : V.ρ c = some A := hA
      refine fin (A := A.add off) (by rw [hx]; simp [SV.den, hA, sa]) (h3 w _ fun j u hu => ?_)
      rw [add_add]; exact hcell _ u hu
    · exact h.no.elim
    · exact h.no.elim
  · rename_i c i sz off hx
    split at h
    · rename_i α e tb l k hc
      cases hs : Nat.beq e.sz sz with
      | false => rw [hs] at h; exact h.no.elim
      | true =>
        rw [hs] at h
        obtain rfl := beqT hs
        obtain ⟨v, h1, h2, h4, h3⟩ := run_loadVar (Δ := Γ.Δ) (ρ := V.ρ) hT (bdL_mono (Nat.zero_le nx) _ (e.bd _)) h
        refine ⟨_, v, h1, h2, fun ho β w hw => ?_⟩
        obtain ⟨A, hA, hcell⟩ := elt_load (Δ := Γ.Δ) (ρ := V.ρ) (Ch.arr_now (hw.ok c _ hc)) ho h4
        replace hA : V.ρ c = some A := hA
        exact fin (A := A.add (i * e.sz + off)) (by rw [hx]; simp [SV.den, hA, sa]) (h3 w _ hcell)
    · rename_i α e l k hc
      cases hs : Nat.beq e.sz sz with
      | false => rw [hs] at h; exact h.no.elim
      | true =>
        rw [hs] at h
        obtain rfl := beqT hs
        obtain ⟨v, h1, h2, h4, h3⟩ := run_loadVar (Δ := Γ.Δ) (ρ := V.ρ) hT (bdL_mono (Nat.zero_le nx) _ (e.bd _)) h
        refine ⟨_, v, h1, h2, fun ho β w hw => ?_⟩
        obtain ⟨A, hA, hcell⟩ := elt_load (Δ := Γ.Δ) (ρ := V.ρ) (Ch.ro_now (hw.ok c _ hc) hw.keep) ho h4
        replace hA : V.ρ c = some A := hA
        exact fin (A := A.add (i * e.sz + off)) (by rw [hx]; simp [SV.den, hA, sa]) (h3 w _ hcell)
    · rename_i tb vs hc
      obtain ⟨v, h1, h2, _, h3⟩ := run_loadVar (Δ := Γ.Δ) (ρ := V.ρ) hT (hB c _ hc).2 h
      refine ⟨[], v, h1, h2, fun _ β w hw => ?_⟩
      obtain ⟨A, hA, hcell⟩ := Ch.cells_at (hw.ok c _ hc)
      replace hA : V.ρ c = some A := hA
      refine fin (A := A.add (i * sz + off)) (by rw [hx]; simp [SV.den, hA, sa]) (h3 w _ fun j u hu => ?_)
      rw [add_add]; exact hcell _ u hu
    · exact h.no.elim
  · rename_i g hx
    cases hb : memB Γ.errs g && !ti.agg with
    | false => rw [hb] at h; exact h.no.elim
    | true =>
      rw [hb] at h
      simp only [Bool.and_eq_true, Bool.not_eq_true'] at hb
      refine ⟨[], .err g, by simp only [SV.bd], h, fun _ β w hw => fin (A := ⟨g, 0, none⟩) (by rw [hx]; simp [SV.den]) ?_⟩
      have hag := hT.isAgg w
      rw [hb.2] at hag
      have h2 := hw.errsNow.cell g (memB_contains hb.1)
      simp [loadVar, Sem.run_bind, hag, load, Sem.run, h2, SV.den]
  · exact h.no.elim
theorem hereK_ok {c : Nat} {L : List Prop → Prop} (h : hereK H c oper.op L) : ∃ ob, L ob ∧ (AllP ob → ∀ β w, HR Γ En ⟨V.ρ, β⟩ H w → ∃ A, V.ρ c = some A) := by
  unfold hereK at h
  split at h
  · rename_i hc
    exact ⟨_, h, fun _ β w hw => let ⟨A, hA, _⟩ := Ch.cells_at (hw.ok c _ hc); ⟨A, hA⟩⟩
  · rename_i hc
    refine ⟨_, h, fun ho β w hw => ?_⟩
    have h1 := (Ch.arr_now (hw.ok c _ hc)).some_ ho
    exact Option.isSome_iff_exists.1 h1
  · rename_i hc
    refine ⟨_, h, fun ho β w hw => ?_⟩
    have h1 := (Ch.ro_now (hw.ok c _ hc) hw.keep).some_ ho
    exact Option.isSome_iff_exists.1 h1
  · rename_i hc
    exact ⟨_, h, fun ho β w hw => Option.isSome_iff_exists.1 (ho.some _ _ _ (hw.ok c _ hc))⟩
  · exact h.no.elim
theorem rdSlice_ok (hΓ : Γ.Ok) {t e : TypeId} {ti te : TI} {x : Operand} {lo hi : Option Operand} (hop : oper.op = .slice t x lo hi none) (hti : lk Γ.tb t = some ti) (hte : lk Γ.tb e = some te) (he : ti.u = .slice e ∨ ∃ n, ti.u = .array n e)
    (hbx : (sv x).bd nx) (h : rdSlice H (sv x) (optSV sv lo) (optSV sv hi) ti te.sz oper.op K) : RdOk Γ En V nx H sv oper K := by
  have hT := hΓ.tb t ti hti
  have hE := hΓ.tb e te hte
  have hu := hT.u
  have hinf : (Γ.P.info? e).map (·.size) = some te.sz := by
    obtain ⟨i, hi, h2⟩ := Option.map_eq_some_iff.1 hE.info
    simp only [Prod.mk.injEq] at h2
    rw [hi]; simp [h2.1]
  unfold rdSlice at h
  split at h
  · rename_i e' c n k kk hh hq hx hlo hhi
    obtain rfl : e = e' := by rcases he with he | ⟨m, he⟩ <;> rw [he] at hq <;> first | exact U.slice.inj hq | cases hq
    rw [hq] at hu
    cases lo <;> simp only [optSV, reduceCtorEq] at hlo
    cases hi <;> simp only [optSV, reduceCtorEq, Option.some.injEq] at hhi
    rename_i y
    rw [hx] at hbx
    refine ⟨_, .sl c hh.toNat k, by simpa only [SV.bd] using hbx, h, fun ho _ w _ => ?_⟩
    rw [ox_slice_h (P := Γ.P) (w := w) (ρ := fun x => (sv x).den Γ.Δ V.ρ) hop (a := V.ρ c) (n := n) (c := k) (by rw [hx]; simp only [SV.den]) (k := kk) (h := hh) (by rw [hhi]; simp only [SV.den]) hu hinf ho]
    simp only [SV.den]
  · rename_i e' c n k kk hh hq hx hlo hhi
    obtain rfl : e = e' := by rcases he with he | ⟨m, he⟩ <;> rw [he] at hq <;> first | exact U.slice.inj hq | cases hq
    rw [hq] at hu
    cases hi <;> simp only [optSV, reduceCtorEq] at hhi
    cases lo <;> simp only [optSV, reduceCtorEq, Option.some.injEq] at hlo
    rw [hx] at hbx
    refine ⟨_, _, by simpa only [SV.bd] using hbx, h, fun ho _ w _ => ?_⟩
    rw [ox_slice_l (P := Γ.P) (w := w) (ρ := fun x => (sv x).den Γ.Δ V.ρ) hop (a := V.ρ c) (n := n) (c := k) (by rw [hx]; simp only [SV.den]) (k := kk) (l := hh) (by rw [hlo]; simp only [SV.den]) hu hinf ho]
    simp only [SV.den]
  · rename_i e' c n k kk ll kk2 hh hq hx hlo hhi
    obtain rfl : e = e' := by rcases he with he | ⟨m, he⟩ <;> rw [he] at hq <;> first | exact U.slice.inj hq | cases hq
    rw [hq] at hu
    cases hi <;> simp only [optSV, reduceCtorEq, Option.some.injEq] at hhi
    cases lo <;> simp only [optSV, reduceCtorEq, Option.some.injEq] at hlo
    rw [hx] at hbx
    refine ⟨_, _, by simpa only [SV.bd] using hbx, h, fun ho _ w _ => ?_⟩
    rw [ox_slice_lh (P := Γ.P) (w := w) (ρ := fun x => (sv x).den Γ.Δ V.ρ) hop (a := V.ρ c) (n := n) (c := k) (by rw [hx]; simp only [SV.den]) (k := kk) (l := ll) (by rw [hlo]; simp only [SV.den]) (k' := kk2) (h := hh) (by rw [hhi]; simp only [SV.den]) hu hinf ho]
    simp only [SV.den]
  · rename_i e' c n k hq hx hlo hhi
    obtain rfl : e = e' := by rcases he with he | ⟨m, he⟩ <;> rw [he] at hq <;> first | exact U.slice.inj hq | cases hq
    rw [hq] at hu
    cases hi <;> simp only [optSV, reduceCtorEq] at hhi
    cases lo <;> simp only [optSV, reduceCtorEq] at hlo
    rw [hx] at hbx
    refine ⟨_, _, hbx, h, fun ho _ w _ => ?_⟩
    have ho : n ≤ k := ho
    obtain ⟨i, hi1, hi2⟩ := Option.map_eq_some_iff.1 hinf
    have e0 : (if k = 0 then V.ρ c else (V.ρ c).map fun x => x.add 0) = V.ρ c := by
      split
      · rfl
      · have : (fun x : Addr => x.add 0) = id := rfl
        rw [this]; simp
    simp [execOp, hop, hx, SV.den, Instr.sliceAt, Instr.slice, run_underlying hu, Instr.sliceBounds, sizeOf, typeInfo, hi1, e0, ho]
  · rename_i e' kk hh hq hx hlo hhi
    obtain rfl : e = e' := by rcases he with he | ⟨m, he⟩ <;> rw [he] at hq <;> first | exact U.slice.inj hq | cases hq
    rw [hq] at hu
    cases lo <;> simp only [optSV, reduceCtorEq] at hlo
    cases hi <;> simp only [optSV, reduceCtorEq, Option.some.injEq] at hhi
    refine ⟨_, _, by simp only [SV.bd], h, fun ho _ w _ => ?_⟩
    have ho : hh = 0 := ho
    subst ho
    rw [ox_slice_h (P := Γ.P) (w := w) (ρ := fun x => (sv x).den Γ.Δ V.ρ) hop (a := none) (n := 0) (c := 0) (by rw [hx]; simp only [SV.den]) (k := kk) (h := 0) (by rw [hhi]; simp only [SV.den]) hu hinf (by omega)]
    simp only [SV.den]; rfl
  · rename_i e' hq hx hlo hhi
    obtain rfl : e = e' := by rcases he with he | ⟨m, he⟩ <;> rw [he] at hq <;> first | exact U.slice.inj hq | cases hq
    rw [hq] at hu
    cases hi <;> simp only [optSV, reduceCtorEq] at hhi
    cases lo <;> simp only [optSV, reduceCtorEq] at hlo
    refine ⟨_, _, by simp only [SV.bd], h, fun ho _ w _ => ?_⟩
    obtain ⟨i, hi1, hi2⟩ := Option.map_eq_some_iff.1 hinf
    simp [execOp, hop, hx, SV.den, Instr.sliceAt, Instr.slice, run_underlying hu, Instr.sliceBounds, sizeOf, typeInfo, hi1]
  · rename_i m e' c hq hx hlo hhi
    obtain rfl : e = e' := by rcases he with he | ⟨m, he⟩ <;> rw [he] at hq <;> first | exact (U.array.inj hq).2 | cases hq
    rw [hq] at hu
    cases hi <;> simp only [optSV, reduceCtorEq] at hhi
    cases lo <;> simp only [optSV, reduceCtorEq] at hlo
    obtain ⟨ob, h, hA⟩ := hereK_ok (En := En) (V := V) (Γ := Γ) h
    rw [hx] at hbx
    refine ⟨_, _, by simpa only [SV.bd] using hbx, h, fun ho β w hw => ?_⟩
    obtain ⟨A, hA⟩ := hA ho β w hw
    obtain ⟨i, hi1, hi2⟩ := Option.map_eq_some_iff.1 hinf
    have e0 : (if m = 0 then A else A.add 0) = A := by split <;> rfl
    simp [execOp, hop, hx, SV.den, Instr.sliceAt, Instr.sureAddr, run_underlying hu, Instr.sliceBounds, sizeOf, typeInfo, hi1, hA, e0, add_zero, sa]
  · exact h.no.elim
theorem rdFieldAddr_ok (hΓ : Γ.Ok) {t : TypeId} {x : Operand} {i : Nat} (hop : oper.op = .fieldAddr t x i) (hbx : (sv x).bd nx) (h : rd Γ sv H (.fieldAddr t x i) K) : RdOk Γ En V nx H sv oper K := by
  simp only [rd] at h
  split at h
  · rename_i fs ht
    have hT := hΓ.tb t _ ht
    obtain ⟨a, ⟨hu, hfs⟩, _⟩ := hT.u
    have key : ∀ {off ft : Nat} {tf : TI} {A : Addr}, nth fs i = some (off, ft) → lk Γ.tb ft = some tf → Nat.blt 0 tf.sz = true → (sv x).den Γ.Δ V.ρ = .pointer (some A) → ∀ w, (execOp (fun x => (sv x).den Γ.Δ V.ρ) oper).run Γ.P w = .ok (.value (.pointer (some (A.add off)))) w := by
      intro off ft tf A hn hf hz hx w
      rw [nth_eq, ← hfs] at hn
      simp only [List.getElem?_map, Option.map_eq_some_iff, Prod.mk.injEq] at hn
      obtain ⟨f, hf1, rfl, rfl⟩ := hn
      have hF := hΓ.tb _ _ hf
      have hz : tf.sz ≠ 0 := by have : 0 < tf.sz := by simpa [Nat.blt_eq] using hz
                                omega
      have hf2 : a[i]? = some f := by simpa using hf1
      simp [execOp, hop, hx, Instr.fieldAt, run_underlying hu, hf2, Instr.sureAddr, fieldPlace, hF.size, hz]
    split at h
    · rename_i off ft c j hn hx
      split at h
      · rename_i tf hf
        cases hz : Nat.blt 0 tf.sz with
        | false => rw [hz] at h; exact h.no.elim
        | true =>
          rw [hz] at h
          simp only [cond_true, litK_eq] at h
          rw [hx] at hbx
          exact ⟨[], _, by simpa only [SV.bd] using hbx, h, fun _ _ w _ => by rw [key hn hf hz (by rw [hx, SV.den]) w, add_add, SV.den]⟩
      · exact h.no.elim
    · rename_i off ft c j sz f hn hx
      split at h
      · rename_i tf hf
        cases hz : Nat.blt 0 tf.sz with
        | false => rw [hz] at h; exact h.no.elim
        | true =>
          rw [hz] at h
          simp only [cond_true, litK_eq] at h
          rw [hx] at hbx
          exact ⟨[], _, by simpa only [SV.bd] using hbx, h, fun _ _ w _ => by rw [key hn hf hz (by rw [hx, SV.den]) w, add_add, SV.den, Nat.add_assoc]⟩
      · exact h.no.elim
    · exact h.no.elim
  · exact h.no.elim
theorem rdFieldV_ok (hΓ : Γ.Ok) {t : TypeId} {x : Operand} {i : Nat} (hop : oper.op = .field t x i) (hbx : (sv x).bd nx) (h : rd Γ sv H (.field t x i) K) : RdOk Γ En V nx H sv oper K := by
  simp only [rd] at h
  split at h
  · rename_i fs ht
    have hT := hΓ.tb t _ ht
    obtain ⟨a, ⟨hu, hfs⟩, _⟩ := hT.u
    split at h
    · rename_i off ft l hn hx
      split at h
      · rename_i ti hf
        rw [hx] at hbx
        simp only [SV.bd] at hbx
        obtain ⟨v, h1, h2, h3⟩ := run_part (Δ := Γ.Δ) (ρ := V.ρ) (hΓ.tb _ _ hf) hbx h
        refine ⟨[], v, h1, h2, fun _ _ w _ => ?_⟩
        rw [nth_eq, ← hfs] at hn
        simp only [List.getElem?_map, Option.map_eq_some_iff, Prod.mk.injEq] at hn
        obtain ⟨f, hf1, rfl, rfl⟩ := hn
        have hf2 : a[i]? = some f := by simpa using hf1
        simp [execOp, hop, hx, SV.den, Instr.field, run_underlying hu, hf2, asAgg, h3]
      · exact h.no.elim
    · exact h.no.elim
  · exact h.no.elim
theorem rdIndexAddr_ok (hΓ : Γ.Ok) {t : TypeId} {x ix : Operand} (hop : oper.op = .indexAddr t x ix) (hbx : (sv x).bd nx) (h : rd Γ sv H (.indexAddr t x ix) K) : RdOk Γ En V nx H sv oper K := by
  simp only [rd] at h
  have ho : oper.op = .indexAddr t x ix := hop
  split at h
  · rename_i ti ht
    have hT := hΓ.tb t _ ht
    have hu := hT.u
    split at h
    · rename_i e c n k kk j hq hx hi
      rw [hq] at hu
      split at h
      · rename_i te he
        have hE := hΓ.tb _ _ he
        rw [← ho] at h
        obtain ⟨ob, h, hA⟩ := hereK_ok (En := En) (V := V) (Γ := Γ) h
        rw [hx] at hbx
        refine ⟨_, _, by simpa only [SV.bd] using hbx, h, fun hob β w hw => ?_⟩
        rw [AllP_cons] at hob
        obtain ⟨A, hA⟩ := hA hob.2 β w hw
        simp [execOp, hop, hx, hi, SV.den, Instr.indexAt, asIntOf, run_underlying hu, hE.size, hob.1.1, hob.1.2, hA, sa]
      · exact h.no.elim
    · rename_i e c lo k0 sz n k kk j hq hx hi
      rw [hq] at hu
      split at h
      · rename_i te he
        have hE := hΓ.tb _ _ he
        cases hs : Nat.beq te.sz sz with
        | false => rw [hs] at h; exact h.no.elim
        | true =>
          rw [hs] at h
          obtain rfl := beqT hs
          rw [cond_true, ← ho] at h
          obtain ⟨ob, h, hA⟩ := hereK_ok (En := En) (V := V) (Γ := Γ) h
          rw [hx] at hbx
          refine ⟨_, _, by simpa only [SV.bd] using hbx, h, fun hob β w hw => ?_⟩
          rw [AllP_cons, AllP_cons] at hob
          obtain ⟨A, hA⟩ := hA hob.2.2 β w hw
          have hne : k0 ≠ lo := by have := hob.2.1; omega
          simp [execOp, hop, hx, hi, SV.den, Instr.indexAt, asIntOf, run_underlying hu, hE.size, hob.1.1, hob.1.2, hA, sa, cutA, hne, add_add, Nat.add_mul]
      · exact h.no.elim
    · rename_i m e c kk j hq hx hi
      rw [hq] at hu
      split at h
      · rename_i te he
        have hE := hΓ.tb _ _ he
        rw [hx] at hbx
        refine ⟨_, _, by simpa only [SV.bd] using hbx, h, fun hob β w hw => ?_⟩
        have hob : 0 ≤ j ∧ j < (m : Int) := hob
        simp [execOp, hop, hx, hi, SV.den, Instr.indexAt, Instr.sureAddr, asIntOf, run_underlying hu, hE.size, hob.1, hob.2, add_zero]
      · exact h.no.elim
    · exact h.no.elim
  · exact h.no.elim
end
end Go.Zz
namespace Go.Zz
open Go.Px Go.RowKit
set_option linter.unusedVariables false
set_option linter.unusedSimpArgs false
set_option linter.unusedSectionVars false
theorem mapSV_map (sv : Operand → SV) : ∀ l : List Operand, mapSV sv l = l.map sv
  | [] => rfl
  | x :: r => by simp [mapSV, mapSV_map sv r]
theorem partsOf_map (sv : Operand → SV) : ∀ l : List (Nat × Operand), partsOf sv l = l.map (fun p => (p.1, sv p.2))
  | [] => rfl
  | (i, x) :: r => by simp [partsOf, partsOf_map sv r]
theorem cells_of {Δ : Env0} {ρ : Rho} (v : SV) : (v.den Δ ρ).cells.toList = SV.denL Δ ρ (cellsOf v) ∨ ∃ l cs, v = .raw (.agg cs) ∧ l = cs := by
  cases v <;> try (left; simp [SV.den, cellsOf, Value.cells, SV.denL]; done)
  rename_i u
  cases u <;> try (left; simp [SV.den, cellsOf, Value.cells, SV.denL]; done)
  exact .inr ⟨_, _, rfl, rfl⟩
theorem cells_plain {Δ : Env0} {ρ : Rho} {v : SV} (h : plainV v = true) : (v.den Δ ρ).cells.toList = SV.denL Δ ρ (cellsOf v) := by
  rcases cells_of (Δ := Δ) (ρ := ρ) v with h1 | ⟨l, cs, rfl, _⟩
  · exact h1
  · simp [plainV] at h
theorem layL_eq {Δ : Env0} {ρ : Rho} {cs vs : List SV} {n : Nat} : SV.denL Δ ρ (layL cs n vs) = splice (SV.denL Δ ρ cs) n (SV.denL Δ ρ vs) := by
  simp [layL, splice, denL_app, denL_take, denL_drop, denL_len]
theorem layL_mem {cs vs : List SV} {n : Nat} : ∀ x ∈ layL cs n vs, x ∈ cs ∨ x ∈ vs := by
  intro x hx
  simp only [layL, List.mem_append] at hx
  rcases hx with (hx | hx) | hx
  · exact .inl (List.mem_of_mem_take hx)
  · exact .inr hx
  · exact .inl (List.mem_of_mem_drop hx)
theorem layL_len {cs vs : List SV} {n : Nat} (h : n + vs.length ≤ cs.length) : (layL cs n vs).length = cs.length := by simp [layL]; omega
theorem fill_sound {Δ : Env0} {ρ : Rho} {place : Nat → Option (Nat × Nat)} : ∀ {parts : List (Nat × SV)} {cells r : List SV}, fillS place cells parts = some r →
    fillL place (SV.denL Δ ρ cells) (parts.map fun p => (p.1, p.2.den Δ ρ)) = some (SV.denL Δ ρ r) ∧ (∀ x ∈ r, x ∈ cells ∨ ∃ p ∈ parts, x ∈ cellsOf p.2) ∧ r.length = cells.length
  | [], cells, r, h => by simp only [fillS, Option.some.injEq] at h; subst h; simp [fillL]
  | (i, v) :: ps, cells, r, h => by
    simp only [fillS] at h
    split at h
    · cases h
    · rename_i off size hpl
      cases hs : plainV v && Nat.beq (cellsOf v).length size && Nat.ble (off + (cellsOf v).length) cells.length with
      | false => rw [hs] at h; cases h
      | true =>
        rw [hs] at h
        simp only [cond_true] at h
        simp only [Bool.and_eq_true] at hs
        obtain ⟨⟨hp, hsz⟩, hle⟩ := hs
        have hsz := beqT hsz
        have hle := Nat.le_of_ble_eq_true hle
        have hv := cells_plain (Δ := Δ) (ρ := ρ) hp
        obtain ⟨h1, h2, h3⟩ := fill_sound (Δ := Δ) (ρ := ρ) h
        refine ⟨?_, fun x hx => ?_, by rw [h3, layL_len hle]⟩
        · simp only [List.map_cons, fillL, hpl, hv, denL_len]
          rw [if_pos ⟨hsz, hle⟩, ← layL_eq]
          exact h1
        · rcases h2 x hx with h3 | ⟨p, hp1, hp2⟩
          · rcases layL_mem x h3 with h4 | h4
            · exact .inl h4
            · exact .inr ⟨(i, v), List.mem_cons_self .., h4⟩
          · exact .inr ⟨p, List.mem_cons_of_mem _ hp1, hp2⟩
theorem bd_cellsOf {v : SV} {n : Nat} (h : v.bd n) : ∀ x ∈ cellsOf v, x.bd n := by
  cases v <;> simp only [cellsOf, SV.bd, List.mem_singleton] at * <;> first
    | (intro x hx; subst hx; simp only [SV.bd]; done)
    | (intro x hx; subst hx; simp only [SV.bd]; assumption)
    | exact bdL_mem.1 h
theorem mxL_ok {Δ : Env0} {ρ : Rho} {big : Bool} : ∀ {l : List SV} {a : Int} {L : Int → Prop} {z : Prop}, mxL big a l L z → z ∨ ∃ m, L m ∧ ∃ bs : List Int, SV.denL Δ ρ l = bs.map (Value.int .i64) ∧ m = bs.foldl (fun x y => if big then max x y else min x y) a
  | [], a, L, z, h => .inr ⟨a, h, [], by simp [SV.denL], rfl⟩
  | x :: r, a, L, z, h => by
    cases x with
    | int k b =>
      cases k with
      | i64 =>
        cases big with
        | true =>
          rcases mxL_ok (Δ := Δ) (ρ := ρ) (l := r) (a := max a b) h with h | ⟨m, h1, bs, h2, h3⟩
          · exact .inl h
          · exact .inr ⟨m, h1, b :: bs, by simp [SV.denL, SV.den, h2], by simpa using h3⟩
        | false =>
          rcases mxL_ok (Δ := Δ) (ρ := ρ) (l := r) (a := min a b) h with h | ⟨m, h1, bs, h2, h3⟩
          · exact .inl h
          · exact .inr ⟨m, h1, b :: bs, by simp [SV.denL, SV.den, h2], by simpa using h3⟩
      | _ => exact .inl h
    | _ => exact .inl h
theorem fillL_mono {p q : Nat → Option (Nat × Nat)} (hpq : ∀ i x, p i = some x → q i = some x) : ∀ {parts : List (Nat × Value)} {cells r : List Value}, fillL p cells parts = some r → fillL q cells parts = some r
  | [], cells, r, h => h
  | (i, v) :: ps, cells, r, h => by
    simp only [fillL] at h ⊢
    split at h
    · cases h
    · rename_i off size hp
      simp only [hpq i _ hp]
      split at h
      · rename_i hc
        rw [if_pos hc]
        exact fillL_mono hpq h
      · cases h
section
variable {Γ : Ctx} {En : Ent} {V : Val} {nx : Nat} {H : Hp} {sv : Operand → SV} {oper : Oper} {K : List Prop → SV → Prop}
theorem rdBuild_ok (hΓ : Γ.Ok) {t : TypeId} {ps : Array (Nat × Operand)} (hop : oper.op = .build t ps) (hbx : ∀ x ∈ (ps.toList.map (·.2)), (sv x).bd nx) (h : rd Γ sv H (.build t ps) K) : RdOk Γ En V nx H sv oper K := by
  simp only [rd] at h
  split at h
  · rename_i ti ht
    have hT := hΓ.tb t _ ht
    have hu := hT.u
    have hbd : ∀ l : List SV, (∀ x ∈ l, x ∈ ti.zero ∨ ∃ p ∈ partsOf sv ps.toList, x ∈ cellsOf p.2) → SV.bdL nx l := fun l hl => bdL_mem.2 fun x hx => by
      rcases hl x hx with h1 | ⟨p, h1, h2⟩
      · exact bd_mono (Nat.zero_le nx) x (bdL_mem.1 hT.zb x h1)
      · rw [partsOf_map, List.mem_map] at h1
        obtain ⟨q, hq, rfl⟩ := h1
        exact bd_cellsOf (hbx q.2 (List.mem_map.2 ⟨q, hq, rfl⟩)) x h2
    have hz : SV.denL Γ.Δ V.ρ ti.zero = SV.denL Γ.Δ (fun _ => none) ti.zero := denL_congr (m := 0) (fun c hc => absurd hc (Nat.not_lt_zero c)) _ hT.zb
    obtain ⟨i0, hi0, he0⟩ := Option.map_eq_some_iff.1 hT.info
    simp only [Prod.mk.injEq] at he0
    have hparts : ((ps.map fun (x : Nat × Operand) => (x.1, (sv x.2).den Γ.Δ V.ρ)).toList : List (Nat × Value)) = (partsOf sv ps.toList).map fun p => (p.1, p.2.den Γ.Δ V.ρ) := by
      rw [partsOf_map]; simp
    have hzc : (zvOf Γ.Δ ti).cells.toList = SV.denL Γ.Δ V.ρ ti.zero := by rw [hT.zcells, hz]
    have fin : ∀ l : List SV, buildV Γ.P t ((ps.map fun (x : Nat × Operand) => (x.1, (sv x.2).den Γ.Δ V.ρ)).toList) = some (.agg (SV.denL Γ.Δ V.ρ l).toArray) → ∀ w, (execOp (fun x => (sv x).den Γ.Δ V.ρ) oper).run Γ.P w = .ok (.value ((SV.agg l).den Γ.Δ V.ρ)) w := fun l hl w => by
      have := buildV_sound hl w
      simp only [execOp, hop, Sem.run_bind, this, Result.andThen_ok, Sem.run_pure, SV.den]
    split at h
    · rename_i fs hq
      rw [hq] at hu
      obtain ⟨a, ⟨hu, hfs⟩, hall⟩ := hu
      split at h
      · rename_i l hl
        rw [force_eq] at h
        obtain ⟨h1, h2, h3⟩ := fill_sound (Δ := Γ.Δ) (ρ := V.ρ) hl
        refine ⟨[], _, by simp only [SV.bd]; exact hbd l h2, h, fun _ _ w _ => fin l ?_ w⟩
        rw [hparts]
        simp only [buildV, hi0, he0.2.2, hu]
        rw [if_pos hall, hzc]
        have h4 := fillL_mono (q := fun k => (a.toList[k]?).map fun (f : Field) => (f.offset, Γ.P.cellsOf f.type)) (fun i x hx => by
          revert hx
          rw [nth_eq, ← hfs]
          simp only [List.getElem?_map]
          cases hg : a.toList[i]? with
          | none => simp
          | some f =>
            simp only [Option.map_some]
            cases hf : lk Γ.tb f.type with
            | none => simp
            | some tf => simp [(hΓ.tb _ _ hf).cellsOf]) h1
        rw [h4]
        simp
      · exact h.no.elim
    · rename_i n e hq
      rw [hq] at hu
      split at h
      · rename_i te hte
        split at h
        · rename_i l hl
          rw [force_eq] at h
          obtain ⟨h1, h2, h3⟩ := fill_sound (Δ := Γ.Δ) (ρ := V.ρ) hl
          refine ⟨[], _, by simp only [SV.bd]; exact hbd l h2, h, fun _ _ w _ => fin l ?_ w⟩
          rw [hparts]
          obtain ⟨j, hj, hej⟩ := Option.map_eq_some_iff.1 (hΓ.tb _ _ hte).info
          simp only [Prod.mk.injEq] at hej
          have hu : Γ.P.underlying t = some (.array n e) := hu
          simp only [buildV, hi0, he0.2.2, hu, hj, hej.1, hzc, h1, Option.map_some]
        · exact h.no.elim
      · exact h.no.elim
    · exact h.no.elim
  · exact h.no.elim
theorem rdCall_ok (hΓ : Γ.Ok) (hB : HB nx H) (hbx : ∀ x ∈ oper.op.operands.toList, (sv x).bd nx) {c : Call} (hop : oper.op = .call c) (h : rd Γ sv H (.call c) K) : RdOk Γ En V nx H sv oper K := by
  simp only [rd] at h
  have hargs : ∀ {l : List SV}, mapSV sv c.args.toList = l → c.args.map (fun x => (sv x).den Γ.Δ V.ρ) = (SV.denL Γ.Δ V.ρ l).toArray := fun {l} hl => by
    rw [← hl, mapSV_map, denL_map]
    apply Array.ext'
    simp
  have hmx : ∀ (bs : List Int) (a : Int) (w : World), ((bs.map (Value.int .i64)).foldlM Builtin.max2 (.int .i64 a)).run Γ.P w = .ok (.int .i64 (bs.foldl (fun x y => if true then max x y else min x y) a)) w := fun bs => by
    induction bs with
    | nil => intro a w; simp
    | cons b r ih =>
      intro a w
      have e : (if a < b then b else a) = max a b := by rw [Int.max_def]; split <;> split <;> omega
      simp only [List.map_cons, List.foldlM_cons, Builtin.max2, Sem.run_bind, Sem.run_pure, Result.andThen_ok, gt_iff_lt, e, List.foldl_cons, ih, if_true]
  have hmn : ∀ (bs : List Int) (a : Int) (w : World), ((bs.map (Value.int .i64)).foldlM Builtin.min2 (.int .i64 a)).run Γ.P w = .ok (.int .i64 (bs.foldl (fun x y => if false then max x y else min x y) a)) w := fun bs => by
    induction bs with
    | nil => intro a w; simp
    | cons b r ih =>
      intro a w
      have e : (if b < a then b else a) = min a b := by rw [Int.min_def]; split <;> split <;> omega
      simp only [List.map_cons, List.foldlM_cons, Builtin.min2, Sem.run_bind, Sem.run_pure, Result.andThen_ok, e, List.foldl_cons, ih, Bool.false_eq_true, if_false]
  split at h
  · rename_i hc
    split at h
    · rename_i t htl
      have ht0 : c.argTypes = #[t] := by apply Array.ext'; simpa using htl
      split at h
      · rename_i ti hti
        have hu := (hΓ.tb _ _ hti).u
        split at h
        · rename_i e x hq hm
          rw [hq] at hu
          have hu : Γ.P.underlying t = some (.slice e) := hu
          have ha := hargs hm
          unfold lenK at h
          split at h
          all_goals first
            | exact h.no.elim
            | (refine ⟨[], _, by simp only [SV.bd], h, fun _ _ w _ => ?_⟩
               simp [execOp, hop, resolve, hc, invoke, builtin, ha, ht0, SV.denL, SV.den, Builtin.len_, goInt, run_underlying hu]; done)
        · rename_i n e x hq hm
          rw [hq] at hu
          have hu : Γ.P.underlying t = some (.array n e) := hu
          have ha := hargs hm
          refine ⟨[], _, by simp only [SV.bd], h, fun _ _ w _ => ?_⟩
          simp [execOp, hop, resolve, hc, invoke, builtin, ha, ht0, SV.denL, SV.den, Builtin.len_, goInt, run_underlying hu]
        · exact h.h _ _ _ _ hop hB (by rw [hop] at hbx; exact hbx)
      · exact h.no.elim
    · exact h.no.elim
  · rename_i hc
    split at h
    · rename_i t htl
      have ht0 : c.argTypes = #[t] := by apply Array.ext'; simpa using htl
      split at h
      · rename_i ti hti
        have hu := (hΓ.tb _ _ hti).u
        split at h
        · rename_i e x hq hm
          rw [hq] at hu
          have hu : Γ.P.underlying t = some (.slice e) := hu
          have ha := hargs hm
          unfold capK at h
          split at h
          all_goals first
            | exact h.no.elim
            | (refine ⟨[], _, by simp only [SV.bd], h, fun _ _ w _ => ?_⟩
               simp [execOp, hop, resolve, hc, invoke, builtin, ha, ht0, SV.denL, SV.den, Builtin.cap_, goInt, run_underlying hu]; done)
        · exact h.no.elim
      · exact h.no.elim
    · exact h.no.elim
  · rename_i hc
    split at h
    · rename_i a r hm
      have ha := hargs hm
      rcases mxL_ok (Δ := Γ.Δ) (ρ := V.ρ) h with h | ⟨m, h, bs, hb, rfl⟩
      · exact h.no.elim
      · refine ⟨[], _, by simp only [SV.bd], h, fun _ _ w _ => ?_⟩
        simp only [execOp, hop, resolve, hc, Sem.run_bind, Sem.run_pure, Result.andThen_ok, invoke, builtin, ha, SV.denL, SV.den, Builtin.max_, hb, hmx]
    · exact h.no.elim
  · rename_i hc
    split at h
    · rename_i a r hm
      have ha := hargs hm
      rcases mxL_ok (Δ := Γ.Δ) (ρ := V.ρ) h with h | ⟨m, h, bs, hb, rfl⟩
      · exact h.no.elim
      · refine ⟨[], _, by simp only [SV.bd], h, fun _ _ w _ => ?_⟩
        simp only [execOp, hop, resolve, hc, Sem.run_bind, Sem.run_pure, Result.andThen_ok, invoke, builtin, ha, SV.denL, SV.den, Builtin.min_, hb, hmn]
    · exact h.no.elim
  · exact h.no.elim
theorem nilQ_eq {op : BinOp} {t : TypeId} {x y : SV} {c : Nat} {eq : Bool} (h : nilQ Γ op t x y = some (c, eq)) : ∃ n k ti e, x = .sl c n k ∧ y = .nils ∧ lk Γ.tb t = some ti ∧ ti.u = .slice e ∧ ((op = .eql ∧ eq = true) ∨ (op = .neq ∧ eq = false)) := by
  unfold nilQ at h
  split at h
  · split at h
    · split at h
      · rename_i ti hti
        split at h
        · rename_i e he
          split at h
          · simp only [Option.some.injEq, Prod.mk.injEq] at h; obtain ⟨rfl, rfl⟩ := h; exact ⟨_, _, ti, e, rfl, rfl, hti, he, .inl ⟨rfl, rfl⟩⟩
          · simp only [Option.some.injEq, Prod.mk.injEq] at h; obtain ⟨rfl, rfl⟩ := h; exact ⟨_, _, ti, e, rfl, rfl, hti, he, .inr ⟨rfl, rfl⟩⟩
          · cases h
        · cases h
      · cases h
    · cases h
  · cases h
theorem nilK_ok (hΓ : Γ.Ok) {op : BinOp} {t u : TypeId} {x y : Operand} {c : Nat} {eq : Bool} (hop : oper.op = .binOp op t x y u) (hq : nilQ Γ op t (sv x) (sv y) = some (c, eq)) (h : nilK H c eq oper.op K) : RdOk Γ En V nx H sv oper K := by
  obtain ⟨n, k, ti, e, hx, hy, hti, hu, hc⟩ := nilQ_eq hq
  have hT := (hΓ.tb t ti hti).u
  rw [hu] at hT
  have hT : Γ.P.underlying t = some (.slice e) := hT
  have hrun : ∀ w, (execOp (fun x => (sv x).den Γ.Δ V.ρ) oper).run Γ.P w = .ok (.value (.bool (bif eq then (V.ρ c).isNone else !(V.ρ c).isNone))) w := fun w => by
    rcases hc with ⟨rfl, rfl⟩ | ⟨rfl, rfl⟩ <;> simp [execOp, hop, hx, hy, SV.den, eqGuard, Go.binOp, eqlSlN Γ.P hT]
  have key : ∀ (l0 : Prop), (∀ (p : Prop) (d : Decidable p), (p → l0) → nilGo eq K p d) → (∀ β w, HR Γ En ⟨V.ρ, β⟩ H w → V.ρ c = none → l0) → RdOk Γ En V nx H sv oper K := fun l0 h hl => by
    have h := h (V.ρ c = none ∧ l0) (Classical.propDecidable _) (fun h => h.2)
    cases eq with
    | true =>
      refine ⟨[], _, by simp only [SV.bd], h, fun _ β w hr => ?_⟩
      rw [hrun w]
      simp only [cond_true, SV.den]
      congr 3
      rw [Bool.eq_iff_iff, Option.isNone_iff_eq_none, @decide_eq_true_iff _ (Classical.propDecidable _)]
      exact ⟨fun e => ⟨e, hl β w hr e⟩, fun e => e.1⟩
    | false =>
      refine ⟨[], _, by simp only [SV.bd], h, fun _ β w hr => ?_⟩
      rw [hrun w]
      simp only [cond_false, SV.den]
      congr 3
      rw [Bool.eq_iff_iff, Bool.not_eq_true', ← Bool.not_eq_true, Option.isNone_iff_eq_none, @decide_eq_true_iff _ (@instDecidableNot _ (Classical.propDecidable _))]
      exact ⟨fun e e2 => e e2.1, fun e e2 => e ⟨e2, hl β w hr e2⟩⟩
  unfold nilK at h
  split at h
  · rename_i t' vs hk
    have hn : ∀ β w, HR Γ En ⟨V.ρ, β⟩ H w → (V.ρ c).isNone = false := fun β w hr => by
      obtain ⟨g, h1, _⟩ := hr.ok _ _ hk
      have h1 : V.ρ c = some ⟨g, 0, none⟩ := h1
      rw [h1]; rfl
    cases eq with
    | true => exact ⟨[], _, by simp only [SV.bd], h, fun _ β w hr => by rw [hrun w, hn β w hr]; simp [SV.den]⟩
    | false => exact ⟨[], _, by simp only [SV.bd], h, fun _ β w hr => by rw [hrun w, hn β w hr]; simp [SV.den]⟩
  · rename_i α e' t' l k' hk
    refine key _ h fun β w hr he => ?_
    have hA := Ch.arr_now (hr.ok _ _ hk)
    refine ⟨?_, hA.none_ he⟩
    rcases Nat.eq_zero_or_pos l.length with h0 | h0
    · exact List.eq_nil_of_length_eq_zero h0
    · have h1 := hA.some_ h0
      have he : (⟨V.ρ, β⟩ : Val).ρ c = none := he
      rw [he] at h1; cases h1
  · rename_i α e' l k' hk
    refine key _ h fun β w hr he => ?_
    have hA := Ch.ro_now (hr.ok _ _ hk) hr.keep
    refine ⟨?_, hA.none_ he⟩
    rcases Nat.eq_zero_or_pos l.length with h0 | h0
    · exact List.eq_nil_of_length_eq_zero h0
    · have h1 := hA.some_ h0
      have he : (⟨V.ρ, β⟩ : Val).ρ c = none := he
      rw [he] at h1; cases h1
  · exact h.no.elim
theorem rd_sound (hΓ : Γ.Ok) (hB : HB nx H) (hbx : ∀ x ∈ oper.op.operands.toList, (sv x).bd nx) (h : rd Γ sv H oper.op K) : RdOk Γ En V nx H sv oper K := by
  have hbx0 := hbx
  cases hop : oper.op with
  | move x =>
    rw [hop] at h hbx
    simp only [rd, kval_eq] at h
    exact ⟨[], _, hbx x (by simp [Op.operands]), h, fun _ _ w _ => by simp [execOp, hop]⟩
  | assign x =>
    rw [hop] at h hbx
    simp only [rd, kval_eq] at h
    exact ⟨[], _, hbx x (by simp [Op.operands]), h, fun _ _ w _ => by simp [execOp, hop]⟩
  | load t x =>
    have h0 := h
    rw [hop] at h
    simp only [rd] at h
    split at h
    · rename_i ti hti; rw [← hop] at h; exact rdLoad_ok hΓ hB hop hti h
    · exact h.no.elim
  | nilCheck x =>
    rw [hop] at h hbx
    have hb := hbx x (by simp [Op.operands])
    simp only [rd] at h
    split at h
    · rename_i c i hx; rw [hx] at hb; exact ⟨[], _, hb, h, fun _ _ w _ => by simp [execOp, hop, hx, SV.den]⟩
    · rename_i c i sz f hx; rw [hx] at hb; exact ⟨[], _, hb, h, fun _ _ w _ => by simp [execOp, hop, hx, SV.den]⟩
    · rename_i c hx; rw [hx] at hb; exact ⟨[], _, hb, h, fun _ _ w _ => by simp [execOp, hop, hx, SV.den]⟩
    · rename_i f l hx; rw [hx] at hb; exact ⟨[], _, hb, h, fun _ _ w _ => by simp [execOp, hop, hx, SV.den]⟩
    · exact h.no.elim
  | binOp op t x y u =>
    rw [hop] at h
    simp only [rd] at h
    split at h
    · rename_i c eq hq
      rw [← hop] at h
      exact nilK_ok hΓ hop hq h
    · rw [← hop] at h
      exact rdBin_ok hΓ hop h
  | unOp op t x =>
    rw [hop] at h
    simp only [rd] at h
    rw [← hop] at h
    exact rdUn_ok hop h
  | convert s t x =>
    rw [hop] at h
    simp only [rd] at h
    split at h
    · rename_i si ti k a hs ht hx
      split at h
      · rename_i k' hq
        have hT := hΓ.tb t _ ht
        have hu := hT.u
        rw [hq] at hu
        have hu : Γ.P.underlying t = some (.int k') := hu
        obtain ⟨d, hd, _⟩ := Option.map_eq_some_iff.1 (hΓ.tb s _ hs).agg
        exact fitK_ok h fun _ w => by
          simp only [execOp, hop, hx, SV.den, convert, Sem.run_bind, run_underlying hd, run_underlying hu, Result.andThen_ok]
          cases d <;> simp [Conv.intToInt]
      · exact h.no.elim
    · exact h.no.elim
  | makeInterface t x =>
    rw [hop] at h hbx
    have hb := hbx x (by simp [Op.operands])
    simp only [rd, kval_eq] at h
    split at h
    · rename_i ti ht
      have hu := (hΓ.tb t _ ht).u
      cases hc : U.conc ti.u with
      | false => rw [hc] at h; exact h.no.elim
      | true =>
        rw [hc] at h
        refine ⟨[], _, by simpa only [SV.bd] using hb, h, fun _ _ w _ => ?_⟩
        obtain ⟨d, hd, hni⟩ : ∃ d, Γ.P.underlying t = some d ∧ ∀ ms, d ≠ .interface ms := by
          revert hu hc
          cases ti.u <;> intro hu hc <;> simp only [uOk] at hu <;> simp [U.conc] at hc <;> first
            | exact ⟨_, hu, by simp⟩
            | (obtain ⟨e, hu⟩ := hu; exact ⟨_, hu, by simp⟩)
            | (obtain ⟨e, f, g, hu⟩ := hu; exact ⟨_, hu, by simp⟩)
            | (obtain ⟨e, ⟨hu, _⟩, _⟩ := hu; exact ⟨_, hu, by simp⟩)
        simp only [execOp, hop, SV.den, Instr.makeInterface, Sem.run_bind, run_underlying hd, Result.andThen_ok]
        cases d <;> first | (simp; done) | exact absurd rfl (hni _)
    · exact h.no.elim
  | makeFunc f first caps =>
    rw [hop] at h hbx
    cases f with
    | func g =>
      simp only [rd] at h
      split at h
      · rename_i hf
        rw [force_eq] at h
        have hf0 : first = #[] := by apply Array.ext'; simpa using hf
        refine ⟨[], _, ?_, h, fun _ _ w _ => ?_⟩
        · simp only [SV.bd]
          rw [bdL_mem, mapSV_map]
          intro x hx
          obtain ⟨y, hy, rfl⟩ := List.mem_map.1 hx
          exact hbx y (by simp [Op.operands, hf0] at *; exact hy)
        · have : caps.map (fun x => (sv x).den Γ.Δ V.ρ) = (SV.denL Γ.Δ V.ρ (mapSV sv caps.toList)).toArray := by
            rw [mapSV_map, denL_map]; apply Array.ext'; simp
          simp [execOp, hop, hf0, SV.den, Instr.makeFunc, this]
      · exact h.h _ _ _ _ hop hB (by rw [hop] at hbx0; exact hbx0)
    | _ => simp only [rd] at h; exact h.h _ _ _ _ hop hB (by rw [hop] at hbx0; exact hbx0)
  | slice t x lo hi mx =>
    rw [hop] at h hbx
    have hb := hbx x (by simp [Op.operands])
    cases mx with
    | some _ => simp only [rd] at h; exact h.h _ _ _ _ hop hB (by rw [hop] at hbx0; exact hbx0)
    | none =>
      simp only [rd] at h
      split at h
      · rename_i ti hti
        split at h
        · rename_i e hq
          split at h
          · rename_i te hte; rw [← hop] at h; exact rdSlice_ok hΓ hop hti hte (.inl hq) hb h
          · exact h.no.elim
        · rename_i n e hq
          split at h
          · rename_i te hte; rw [← hop] at h; exact rdSlice_ok hΓ hop hti hte (.inr ⟨n, hq⟩) hb h
          · exact h.no.elim
        · exact h.no.elim
      · exact h.no.elim
  | fieldAddr t x i => rw [hop] at h hbx; exact rdFieldAddr_ok hΓ hop (hbx x (by simp [Op.operands])) h
  | field t x i => rw [hop] at h hbx; exact rdFieldV_ok hΓ hop (hbx x (by simp [Op.operands])) h
  | indexAddr t x ix => rw [hop] at h hbx; exact rdIndexAddr_ok hΓ hop (hbx x (by simp [Op.operands])) h
  | extract x i =>
    rw [hop] at h hbx
    have hb := hbx x (by simp [Op.operands])
    simp only [rd] at h
    split at h
    · rename_i l hx
      split at h
      · rename_i v hv
        rw [kval_eq] at h
        rw [hx] at hb
        simp only [SV.bd] at hb
        rw [nth_eq] at hv
        refine ⟨[], v, bdL_mem.1 hb v (List.mem_of_getElem? hv), h, fun _ _ w _ => ?_⟩
        have h2 : (SV.denL Γ.Δ V.ρ l).toArray[i]? = some (v.den Γ.Δ V.ρ) := by simp [denL_get, hv]
        simp [execOp, hop, hx, SV.den, Instr.extract, h2]
      · exact h.no.elim
    · exact h.no.elim
  | build t ps => rw [hop] at h hbx; exact rdBuild_ok hΓ hop (fun x hx => hbx x (by simpa [Op.operands] using hx)) h
  | call c => rw [hop] at h; exact rdCall_ok hΓ hB hbx hop h
  | select cs b => rw [hop] at h; simp only [rd] at h; exact h.no.elim
  | _ => rw [hop] at h; simp only [rd] at h; exact h.h _ _ _ _ hop hB (by rw [hop] at hbx; exact hbx)
end
end Go.Zz
namespace Go.Zz
open Go.Px Go.RowKit
set_option linter.unusedVariables false
set_option linter.unusedSimpArgs false
set_option linter.unusedSectionVars false
def flatS : SV → Bool
  | .agg _ => false
  | .tup _ => false
  | .raw (.slice _ _ _) => true
  | .raw (.pointer _) => true
  | .raw _ => false
  | _ => true
def allFlat : List SV → Bool
  | [] => true
  | x :: r => flatS x && allFlat r
def delH : Hp → Nat → Hp
  | [], _ => []
  | (s, e) :: r, c => bif Nat.beq s c then delH r c else (s, e) :: delH r c
def delKR : Hp → Nat → (Hp → Prop) → Prop
  | [], _, K => K []
  | (s, e) :: r, c, K => bif Nat.beq s c then delKR r c K else delKR r c fun r => K ((s, e) :: r)
def delKRS : { f // f = @delKR } := by delta delKR; exact ⟨_, rfl⟩
def delK := delKRS.val
theorem delK_R : @delK = @delKR := delKRS.2
theorem delK_eq : ∀ (H : Hp) (c : Nat) (K : Hp → Prop), delK H c K = K (delH H c)
  | [], _, _ => rfl
  | (s, e) :: r, c, K => by
    (simp only [delK_R, delKR]; (try simp only [← delK_R]); simp only [delH])
    cases Nat.beq s c
    · simp [delK_eq r]
    · simp [delK_eq r]
def setH : Hp → Nat → Ch → Hp
  | [], _, _ => []
  | (s, e) :: r, c, x => bif Nat.beq s c then (s, x) :: r else (s, e) :: setH r c x
def setKR : Hp → Nat → Ch → (Hp → Prop) → Prop
  | [], _, _, K => K []
  | (s, e) :: r, c, x, K => bif Nat.beq s c then K ((s, x) :: r) else setKR r c x fun r => K ((s, e) :: r)
def setKRS : { f // f = @setKR } := by delta setKR; exact ⟨_, rfl⟩
def setK := setKRS.val
theorem setK_R : @setK = @setKR := setKRS.2
theorem setK_eq : ∀ (H : Hp) (c : Nat) (x : Ch) (K : Hp → Prop), setK H c x K = K (setH H c x)
  | [], _, _, _ => rfl
  | (s, e) :: r, c, x, K => by
    (simp only [setK_R, setKR]; (try simp only [← setK_R]); simp only [setH])
    cases Nat.beq s c
    · simp [setK_eq r]
    · simp
theorem beqF {a b : Nat} (h : Nat.beq a b = false) : a ≠ b := fun e => by subst e; rw [Nat.beq_refl] at h; cases h
theorem lk_del : ∀ (H : Hp) (c d : Nat), lk (delH H c) d = if d = c then none else lk H d
  | [], c, d => by simp [delH, lk]
  | (s, e) :: r, c, d => by
    simp only [delH]
    cases h : Nat.beq s c with
    | true =>
      have := beqT h; subst this
      simp only [cond_true, lk_del r, lk]
      by_cases hd : d = s
      · subst hd; simp
      · rw [if_neg hd, if_neg hd]
        cases h2 : Nat.beq s d with
        | true => exact absurd (beqT h2).symm hd
        | false => rfl
    | false =>
      simp only [cond_false, lk, lk_del r]
      cases h2 : Nat.beq s d with
      | true =>
        have := beqT h2; subst this
        simp [beqF h]
      | false => rfl
theorem lk_set : ∀ (H : Hp) (c d : Nat) (x : Ch), lk (setH H c x) d = if d = c then (lk H c).map (fun _ => x) else lk H d
  | [], c, d, x => by simp [setH, lk]
  | (s, e) :: r, c, d, x => by
    simp only [setH]
    cases h : Nat.beq s c with
    | true =>
      have := beqT h; subst this
      simp only [cond_true, lk, h, Option.map_some]
      by_cases hd : d = s
      · subst hd; simp
      · rw [if_neg hd]
        cases h2 : Nat.beq s d with
        | true => exact absurd (beqT h2).symm hd
        | false => rfl
    | false =>
      simp only [cond_false, lk, lk_set r, h]
      cases h2 : Nat.beq s d with
      | true =>
        have := beqT h2; subst this
        simp [beqF h]
      | false => rfl
def putL {α : Type} (e : Enc α) : α → Nat → List SV → Option α
  | x, _, [] => some x
  | x, o, v :: r => match e.put x o v with
    | some y => putL e y (o + 1) r
    | none => none
def ofL {α : Type} (e : Enc α) : Nat → List SV → Option (List α)
  | 0, [] => some []
  | 0, _ :: _ => none
  | n + 1, vs => match e.of (vs.take e.sz), ofL e n (vs.drop e.sz) with
    | some x, some r => some (x :: r)
    | _, _ => none
def storeK (H : Hp) (p : SV) (news : List SV) (o : Op) (K : Hp → Prop) : Prop :=
  match p with
  | .ptr c off => match lk H c with
    | some (.cells t vs) => bif Nat.ble (off + news.length) vs.length && allFlat news then force (layL vs off news) fun l => setK H c (.cells t l) K else Stuck "store: size" o
    | _ => Stuck "store: no such thing" o
  | .elt c i sz off => match lk H c with
    | some (.arr α e t l k) => bif Nat.beq e.sz sz then (match putL e (l.getD i e.d) off news with
      | some y => i < l.length ∧ setK H c (.arr α e t (l.set i y) k) K
      | none => Stuck "store: an element" o) else Stuck "store: size" o
    | some (.cells t vs) => bif Nat.ble (i * sz + off + news.length) vs.length && allFlat news then force (layL vs (i * sz + off) news) fun l => setK H c (.cells t l) K else Stuck "store: size" o
    | _ => Stuck "store: no such thing" o
  | _ => Stuck "store" o
def litEnc (Γ : Ctx) (e : Nat) : Option EncA := match Γ.lit with
  | true => none
  | false => lk Γ.encs e
def srcK {α : Type} (en : Enc α) (H : Hp) (x : SV) (o : Op) (K : Nat → Prop → List α → Prop) : Prop :=
  match x with
  | .nils => K 0 True []
  | .sl c m k => match lk H c with
    | some (.arr β e' _ l k') => ∃ h : β = α, HEq e' en ∧ K m (m ≤ l.length ∧ k = k') ((h ▸ l : List α).take m)
    | some (.ro β e' l k') => ∃ h : β = α, HEq e' en ∧ K m (m ≤ l.length ∧ k = k') ((h ▸ l : List α).take m)
    | some (.cells _ vs) => match ofL en m vs with
      | some l => K m (m ≤ k) l
      | none => Stuck "append: its source's elements" o
    | _ => Stuck "append: its source" o
  | .sub c lo k0 sz m k => match lk H c with
    | some (.arr β e' _ l k') => ∃ h : β = α, HEq e' en ∧ K m (lo ≤ l.length ∧ m ≤ l.length - lo ∧ k0 = k' ∧ k = k' - lo ∧ sz = en.sz) (((h ▸ l : List α).drop lo).take m)
    | some (.ro β e' l k') => ∃ h : β = α, HEq e' en ∧ K m (lo ≤ l.length ∧ m ≤ l.length - lo ∧ k0 = k' ∧ k = k' - lo ∧ sz = en.sz) (((h ▸ l : List α).drop lo).take m)
    | _ => Stuck "append: its source" o
  | _ => Stuck "append: its source" o
def appK (Γ : Ctx) (nx : Nat) (H : Hp) (te : TI) (e : TypeId) (s x : SV) (o : Op) (K : SV → Nat → Hp → Prop) : Prop :=
  match s with
  | .sl c n ks => match lk H c with
    | some (.arr α en t l kc) => bif Nat.beq en.sz te.sz && Nat.beq t e then srcK en H x o
        (fun m ob r => (ob ∧ ks = kc ∧ n ≤ l.length ∧ n + m ≤ 4611686018427387904 ∧ (n + m) * te.by_ ≤ 140737488355328) ∧ ∀ k, n + m ≤ k → delK H c fun H => litK (nx + 1) fun n' => K (.sl nx (n + m) k) n' ((nx, .arr α en e (l.take n ++ r) k) :: H)) else Stuck "append: size" o
    | _ => Stuck "append: no such thing" o
  | .nils => match lk Γ.encs e with
    | some ⟨α, en⟩ => bif Nat.beq en.sz te.sz then srcK en H x o
        (fun m ob r => (ob ∧ m ≤ 4611686018427387904 ∧ m * te.by_ ≤ 140737488355328) ∧ ∀ k, m ≤ k → litK (nx + 1) fun n' => K (.sl nx m k) n' ((nx, .arr α en e r k) :: H)) else Stuck "append: size" o
    | none => Stuck "append: its elements" o
  | _ => Stuck "append" o
structure HpOk (Γ : Ctx) (En : Ent) (V : Val) (nx : Nat) (H : Hp) (w : World) : Prop where
  hr : HR Γ En V H w
  hb : HB nx H
  apart : ∀ c c', (lk H c).isSome = true → (lk H c').isSome = true → c ≠ c' → ∀ i, V.β c i → ¬ V.β c' i
  foot : ∀ c, (lk H c).isSome = true → ∀ i, V.β c i → (En.F0 i ∨ En.w0.heap.size ≤ i) ∧ i < w.heap.size
def EffOk (Γ : Ctx) (En : Ent) (V : Val) (nx : Nat) (w : World) (ρo : Operand → Value) (oper : Oper) (K : SV → Nat → Hp → Prop) : Prop :=
  ∃ V' v nx' H' w' nxt, (nxt = .value (v.den Γ.Δ V'.ρ) ∨ (nxt = .skip ∧ v = .raw undef)) ∧ (execOp ρo oper).run Γ.P w = .ok nxt w' ∧ nx ≤ nx' ∧ (∀ d, d < nx → V'.ρ d = V.ρ d) ∧ v.bd nx' ∧ HpOk Γ En V' nx' H' w' ∧ K v nx' H'
structure OpGoal (Γ : Ctx) (sv : Operand → SV) (nx : Nat) (H : Hp) (o : Op) (K : SV → Nat → Hp → Prop) : Prop where
  h : ∀ En V w oper, oper.op = o → HpOk Γ En V nx H w → (∀ x ∈ o.operands.toList, (sv x).bd nx) → EffOk Γ En V nx w (fun x => (sv x).den Γ.Δ V.ρ) oper K
def eff (Γ : Ctx) (sv : Operand → SV) (nx : Nat) (H : Hp) (o : Op) (K : SV → Nat → Hp → Prop) : Prop :=
  match o with
  | .alloc t => match lk Γ.tb t with
    | some ti => bif allFlat ti.zero then litK (nx + 1) fun n' => K (.ptr nx 0) n' ((nx, .cells t ti.zero) :: H) else Stuck "alloc" o
    | none => Stuck "alloc: its type" o
  | .box t x => bif plainV (sv x) && allFlat (cellsOf (sv x)) then force (cellsOf (sv x)) fun l => litK (nx + 1) fun n' => K (.ptr nx 0) n' ((nx, .cells t l) :: H) else Stuck "box" o
  | .store t a x => match lk Γ.tb t with
    | some ti => bif plainV (sv x) && Nat.beq (cellsOf (sv x)).length ti.sz && allFlat (cellsOf (sv x)) && Nat.blt 0 ti.sz then storeK H (sv a) (cellsOf (sv x)) o (K (.raw undef) nx) else Stuck "store" o
    | none => Stuck "store: its type" o
  | .buildSlice t n ps => match lk Γ.tb t with
    | some ti => match ti.u with
      | .slice e => match lk Γ.tb e with
        | some te => match fillS (fun i => some (i * te.sz, te.sz)) (List.replicate n te.zero).flatten (partsOf sv ps.toList) with
          | some cs => bif allFlat cs && Nat.ble n 4096 && Nat.ble te.sz 4096 && Nat.blt 0 te.sz then (match litEnc Γ e with
            | some ⟨α, en⟩ => match ofL en n cs with
              | some l => bif Nat.beq en.sz te.sz then litK (nx + 1) fun n' => K (.sl nx n n) n' ((nx, .arr α en e l n) :: H) else Stuck "buildSlice: size" o
              | none => Stuck "buildSlice: elements" o
            | none => force cs fun cs => litK (nx + 1) fun n' => K (.sl nx n n) n' ((nx, .cells e cs) :: H)) else Stuck "buildSlice: size" o
          | none => Stuck "buildSlice" o
        | none => Stuck "buildSlice: its elements' type" o
      | _ => Stuck "buildSlice: its type" o
    | none => Stuck "buildSlice: its type" o
  | .makeSlice t l c => match lk Γ.tb t with
    | some ti => match ti.u, sv l, sv c with
      | .slice e, .int kl a, .int kc b => match lk Γ.tb e, lk Γ.encs e with
        | some te, some ⟨α, en⟩ => match en.of te.zero with
          | some z => bif Nat.beq en.sz te.sz && Nat.blt 0 te.sz then ((0 ≤ a ∧ a ≤ b ∧ b ≤ 4611686018427387904 ∧ (te.by_ : Int) * b ≤ 281474976710656) ∧ litK (nx + 1) fun n' => K (.sl nx a.toNat b.toNat) n' ((nx, .arr α en e (List.replicate a.toNat z) b.toNat) :: H)) else Stuck "makeSlice: size" o
          | none => Stuck "makeSlice: elements" o
        | _, _ => Stuck "makeSlice: its elements" o
      | _, _, _ => Stuck "makeSlice" o
    | none => Stuck "makeSlice: its type" o
  | .call c => match c.callee with
    | .builtin .append => match c.argTypes.toList, mapSV sv c.args.toList with
      | [t, u], [s, x] => match lk Γ.tb t with
        | some ti => match ti.u with
          | .slice e => match lk Γ.tb e with
            | some te => bif Nat.beq t u && Nat.blt 0 te.sz then appK Γ nx H te e s x o K else Stuck "append: types" o
            | none => Stuck "append: its elements' type" o
          | _ => Stuck "append: its type" o
        | none => Stuck "append: its type" o
      | _, _ => Stuck "append" o
    | _ => OpGoal Γ sv nx H o K
  | .select _ _ => Stuck "select" o
  | o => OpGoal Γ sv nx H o K
theorem Ch.stab {Γ : Ctx} {En : Ent} {V : Val} {c : Nat} {w w' : World} {F : Nat → Prop} (ch : Ch) (h : ch.ok Γ En V c w) (hk : Keep F w w') (hn : ∀ i, V.β c i → ¬ F i) : ch.ok Γ En V c w' := by
  cases ch with
  | cells t vs =>
    obtain ⟨g, h1, h2, h3, h4⟩ := h
    exact ⟨g, h1, h2, hk.obj h3 (hn g ((h2 g).2 rfl)), h4⟩
  | arr α e t l k =>
    obtain ⟨h1, h2⟩ := h
    exact ⟨own_of_block h1 fun i hi => hk.block i (h1.lt i hi).2 (hn i ((h2 i).2 hi)), h2⟩
  | ro α e l k => exact h
  | pr Ψ => exact Ψ.stab h hk hn
  | hole Ψ vs => exact Ψ.stab h hk hn
  | fo Ψ => exact h
theorem Ch.congr {Γ : Ctx} {En : Ent} {V V' : Val} {c nx : Nat} {w : World} (ch : Ch) (h : ch.ok Γ En V c w) (hb : ch.bd nx) (hc : c < nx) (hρ : ∀ d, d < nx → V'.ρ d = V.ρ d) (hβ : V'.β c = V.β c) : ch.ok Γ En V' c w := by
  cases ch with
  | cells t vs =>
    obtain ⟨g, h1, h2, h3, h4⟩ := h
    have e := denL_congr (Δ := Γ.Δ) hρ vs hb
    exact ⟨g, (hρ c hc).trans h1, by rw [hβ]; exact h2, by rw [e]; exact h3, by rw [e]; exact h4⟩
  | arr α e t l k => simp only [Ch.ok, hρ c hc, hβ] at *; exact h
  | ro α e l k => simp only [Ch.ok, hρ c hc, hβ] at *; exact h
  | pr Ψ => simp only [Ch.ok, hρ c hc, hβ] at *; exact h
  | fo Ψ => simp only [Ch.ok, hρ c hc, hβ] at *; exact h
  | hole Ψ vs => have e := denL_congr (Δ := Γ.Δ) hρ vs hb; simp only [Ch.ok, hρ c hc, hβ, e] at *; exact h
theorem Ch.bd_mono {m n : Nat} (h : m ≤ n) (ch : Ch) (hb : ch.bd m) : ch.bd n := by
  cases ch with
  | cells t vs => exact bdL_mono h vs hb
  | hole Ψ vs => exact bdL_mono h vs hb
  | _ => trivial
theorem Ch.lt {Γ : Ctx} {En : Ent} {V : Val} {c : Nat} {w : World} (ch : Ch) (h : ch.ok Γ En V c w) : ∀ i, V.β c i → i < w.heap.size := by
  intro i hi
  cases ch with
  | cells t vs =>
    obtain ⟨g, h1, h2, h3, h4⟩ := h
    obtain rfl := (h2 i).1 hi
    exact (Array.getElem?_eq_some_iff.1 h3).1
  | arr α e t l k => exact (h.1.lt i ((h.2 i).1 hi)).2
  | ro α e l k => exact absurd hi (h.2.1 i)
  | pr Ψ => exact Ψ.lt h hi
  | hole Ψ vs => exact Ψ.lt h hi
  | fo Ψ => exact absurd hi (h.2 i)
theorem HpOk.step {Γ : Ctx} {En : Ent} {V V' : Val} {nx nx' : Nat} {H H' : Hp} {w w' : World} {F : Nat → Prop} (h : HpOk Γ En V nx H w) (R N : Nat → Prop) (hk : Keep F w w')
    (hF : ∀ i, i < w.heap.size → F i → ∃ c, R c ∧ (lk H c).isSome = true ∧ V.β c i) (hnx : nx ≤ nx') (hρ : ∀ d, d < nx → V'.ρ d = V.ρ d)
    (old : ∀ c ch, lk H' c = some ch → ¬ N c → ¬ R c ∧ lk H c = some ch ∧ V'.β c = V.β c)
    (new : ∀ c ch, lk H' c = some ch → N c → ch.ok Γ En V' c w' ∧ ch.bd nx' ∧ c < nx' ∧ ∀ i, V'.β c i → (∃ d, R d ∧ (lk H d).isSome = true ∧ V.β d i) ∨ w.heap.size ≤ i)
    (nap : ∀ c c', N c → N c' → (lk H' c).isSome = true → (lk H' c').isSome = true → c ≠ c' → ∀ i, V'.β c i → ¬ V'.β c' i) : HpOk Γ En V' nx' H' w' := by
  have hFo : ∀ i, i < En.w0.heap.size → F i → En.F0 i := fun i hi hf => by
    obtain ⟨c, _, h1, h2⟩ := hF i (Nat.lt_of_lt_of_le hi h.hr.keep.size) hf
    rcases (h.foot c h1 i h2).1 with h3 | h3
    · exact h3
    · omega
  have hoff : ∀ c, (lk H c).isSome = true → ¬ R c → ∀ i, V.β c i → ¬ F i := fun c hc hr i hi hf => by
    obtain ⟨d, h1, h2, h3⟩ := hF i (h.foot c hc i hi).2 hf
    exact h.apart c d hc h2 (fun e => hr (e ▸ h1)) i hi h3
  refine ⟨⟨fun c ch hc => ?_, h.hr.keep.then hk hFo, h.hr.errs, h.hr.eF⟩, fun c ch hc => ?_, fun c c' hc hc' hne i hi hi' => ?_, fun c hc i hi => ?_⟩
  · by_cases hn : N c
    · exact (new c ch hc hn).1
    · obtain ⟨h1, h2, h3⟩ := old c ch hc hn
      obtain ⟨h4, h5⟩ := h.hb c ch h2
      have h6 := ch.stab (h.hr.ok c ch h2) hk (hoff c (by rw [h2]; rfl) h1)
      exact ch.congr h6 h5 h4 hρ h3
  · by_cases hn : N c
    · obtain ⟨_, h1, h2, _⟩ := new c ch hc hn
      exact ⟨h2, h1⟩
    · obtain ⟨h1, h2, h3⟩ := old c ch hc hn
      obtain ⟨h4, h5⟩ := h.hb c ch h2
      exact ⟨Nat.lt_of_lt_of_le h4 hnx, ch.bd_mono hnx h5⟩
  · obtain ⟨ch, hc1⟩ := Option.isSome_iff_exists.1 hc
    obtain ⟨ch', hc1'⟩ := Option.isSome_iff_exists.1 hc'
    by_cases hn : N c
    · by_cases hn' : N c'
      · exact nap c c' hn hn' hc hc' hne i hi hi'
      · obtain ⟨h1, h2, h3⟩ := old c' ch' hc1' hn'
        rw [h3] at hi'
        have hs : (lk H c').isSome = true := by rw [h2]; rfl
        rcases (new c ch hc1 hn).2.2.2 i hi with ⟨d, hd1, hd2, hd3⟩ | h4
        · exact h.apart c' d hs hd2 (fun e => h1 (e ▸ hd1)) i hi' hd3
        · have := (h.foot c' hs i hi').2; omega
    · obtain ⟨h1, h2, h3⟩ := old c ch hc1 hn
      rw [h3] at hi
      have hs : (lk H c).isSome = true := by rw [h2]; rfl
      by_cases hn' : N c'
      · rcases (new c' ch' hc1' hn').2.2.2 i hi' with ⟨d, hd1, hd2, hd3⟩ | h4
        · exact h.apart c d hs hd2 (fun e => h1 (e ▸ hd1)) i hi hd3
        · have := (h.foot c hs i hi).2; omega
      · obtain ⟨h1', h2', h3'⟩ := old c' ch' hc1' hn'
        rw [h3'] at hi'
        exact h.apart c c' hs (by rw [h2']; rfl) hne i hi hi'
  · obtain ⟨ch, hc1⟩ := Option.isSome_iff_exists.1 hc
    by_cases hn : N c
    · obtain ⟨h1, h2, h3, h4⟩ := new c ch hc1 hn
      refine ⟨?_, ch.lt h1 i hi⟩
      rcases h4 i hi with ⟨d, hd1, hd2, hd3⟩ | h5
      · exact (h.foot d hd2 i hd3).1
      · exact .inr (Nat.le_trans h.hr.keep.size h5)
    · obtain ⟨h1, h2, h3⟩ := old c ch hc1 hn
      rw [h3] at hi
      have h4 := h.foot c (by rw [h2]; rfl) i hi
      exact ⟨h4.1, Nat.lt_of_lt_of_le h4.2 hk.size⟩
def Val.upd (V : Val) (c : Nat) (a : Option Addr) (B : Nat → Prop) : Val := ⟨fun d => if d = c then a else V.ρ d, fun d => if d = c then B else V.β d⟩
theorem HpOk.add {Γ : Ctx} {En : Ent} {V : Val} {nx : Nat} {H : Hp} {w w' : World} (h : HpOk Γ En V nx H w) (hk : Keep Nn w w') (a : Option Addr) (B : Nat → Prop) (ch : Ch)
    (hok : ch.ok Γ En (V.upd nx a B) nx w') (hb : ch.bd (nx + 1)) (hB : ∀ i, B i → w.heap.size ≤ i) : HpOk Γ En (V.upd nx a B) (nx + 1) ((nx, ch) :: H) w' := by
  have hlk : ∀ c, lk ((nx, ch) :: H) c = if c = nx then some ch else lk H c := fun c => by
    simp only [lk]
    by_cases hc : c = nx
    · subst hc; simp
    · rw [if_neg hc]
      cases h2 : Nat.beq nx c with
      | true => exact absurd (beqT h2).symm hc
      | false => rfl
  refine h.step (F := Nn) (fun _ => False) (fun c => c = nx) hk (fun i _ hf => hf.elim) (Nat.le_succ _) (fun d hd => if_neg (by omega)) (fun c ch' hc hn => ?_) (fun c ch' hc hn => ?_) (fun c c' hc hc' _ _ hne => absurd (hc.trans hc'.symm) hne)
  · rw [hlk, if_neg hn] at hc
    exact ⟨id, hc, if_neg hn⟩
  · subst hn
    rw [hlk, if_pos rfl] at hc
    obtain rfl := Option.some.inj hc
    exact ⟨hok, hb, Nat.lt_succ_self _, fun i hi => .inr (hB i (by simpa [Val.upd] using hi))⟩
theorem upd_ρ {V : Val} {nx : Nat} {a : Option Addr} {B : Nat → Prop} : ∀ d, d < nx → (V.upd nx a B).ρ d = V.ρ d := fun d hd => if_neg (by omega)
theorem HpOk.set {Γ : Ctx} {En : Ent} {V : Val} {nx c : Nat} {H : Hp} {w w' : World} {ch ch' : Ch} (h : HpOk Γ En V nx H w) (hc : lk H c = some ch) (hk : Keep (V.β c) w w')
    (hok : ch'.ok Γ En V c w') (hb : ch'.bd nx) : HpOk Γ En V nx (setH H c ch') w' := by
  refine h.step (F := V.β c) (fun d => d = c) (fun d => d = c) hk (fun i _ hf => ⟨c, rfl, by rw [hc]; rfl, hf⟩) (Nat.le_refl _) (fun d hd => rfl) (fun d ch2 hd hn => ?_) (fun d ch2 hd hn => ?_) (fun c c' hc hc' _ _ hne => absurd (hc.trans hc'.symm) hne)
  · rw [lk_set, if_neg hn] at hd
    exact ⟨hn, hd, rfl⟩
  · subst hn
    rw [lk_set, if_pos rfl, hc] at hd
    obtain rfl := Option.some.inj hd
    exact ⟨hok, hb, (h.hb d ch hc).1, fun i hi => .inl ⟨d, rfl, by rw [hc]; rfl, hi⟩⟩
theorem HpOk.drew {Γ : Ctx} {En : Ent} {V : Val} {nx : Nat} {H : Hp} {w : World} (h : HpOk Γ En V nx H w) : HpOk Γ En V nx H w.drew :=
  h.step (F := Nn) (fun _ => False) (fun _ => False) (Keep.refl _ _).drew (fun i _ hf => hf.elim) (Nat.le_refl _) (fun _ _ => rfl) (fun c ch hc _ => ⟨id, hc, rfl⟩) (fun _ _ _ hn => hn.elim) (fun _ _ hn => hn.elim)
end Go.Zz
namespace Go.Zz
open Go.Px Go.RowKit
set_option linter.unusedVariables false
set_option linter.unusedSimpArgs false
set_option linter.unusedSectionVars false
theorem one_flat {v : SV} (h : flatS v = true) (Δ : Env0) (ρ : Rho) : (v.den Δ ρ).oneCell' = true := by
  cases v <;> try (simp [flatS] at h; done)
  case raw u => cases u <;> simp [flatS] at h <;> simp [SV.den, Value.oneCell']
  all_goals simp [SV.den, Value.oneCell']
theorem one_all {Δ : Env0} {ρ : Rho} : ∀ {l : List SV}, allFlat l = true → ∀ u ∈ SV.denL Δ ρ l, u.oneCell' = true
  | [], _, u, hu => by simp [SV.denL] at hu
  | x :: r, h, u, hu => by
    simp only [allFlat, Bool.and_eq_true] at h
    simp only [SV.denL, List.mem_cons] at hu
    rcases hu with rfl | hu
    · exact one_flat h.1 Δ ρ
    · exact one_all h.2 u hu
theorem keep_alloc (w : World) (o : Obj) : Keep Nn w (w.alloc o) :=
  ⟨rfl, rfl, rfl, by show _ ≤ (w.heap.push o).size; simp, Nat.le_refl _, fun k hk _ => by show (w.heap.push o)[k]? = _; rw [Array.getElem?_push, if_neg (Nat.ne_of_lt hk)]⟩
theorem alloc_at (w : World) (o : Obj) : (w.alloc o).heap[w.heap.size]? = some o := by show (w.heap.push o)[w.heap.size]? = _; simp
section
variable {Γ : Ctx} {En : Ent} {V : Val} {nx : Nat} {H : Hp} {w : World} {sv : Operand → SV} {oper : Oper} {K : SV → Nat → Hp → Prop}
theorem HpOk.newCells (h : HpOk Γ En V nx H w) {t : TypeId} {vs : List SV} (hb : SV.bdL nx vs) (hf : allFlat vs = true) :
    HpOk Γ En (V.upd nx (some ⟨w.heap.size, 0, none⟩) (fun i => i = w.heap.size)) (nx + 1) ((nx, .cells t vs) :: H) (w.alloc (.cells (SV.denL Γ.Δ V.ρ vs).toArray t)) := by
  have e : SV.denL Γ.Δ (V.upd nx (some ⟨w.heap.size, 0, none⟩) (fun i => i = w.heap.size)).ρ vs = SV.denL Γ.Δ V.ρ vs := denL_congr upd_ρ vs hb
  refine h.add (keep_alloc w _) _ _ _ ⟨w.heap.size, by simp [Val.upd], fun i => by simp [Val.upd], ?_, one_all hf⟩ (bdL_mono (Nat.le_succ nx) vs hb) fun i hi => by rw [hi]; exact Nat.le_refl _
  rw [e, alloc_at]
theorem run_newRow (P : Program) (w : World) (t : TypeId) (c : Array Value) : (newRow t c).run P w = .ok ⟨w.heap.size, 0, none⟩ (w.alloc (.cells c t)) := rfl
theorem alloc_ok (hΓ : Γ.Ok) (h0 : HpOk Γ En V nx H w) {t : TypeId} (hop : oper.op = .alloc t) (h : eff Γ sv nx H (.alloc t) K) : EffOk Γ En V nx w (fun x => (sv x).den Γ.Δ V.ρ) oper K := by
  simp only [eff] at h
  split at h
  · rename_i ti ht
    have hT := hΓ.tb t ti ht
    cases hf : allFlat ti.zero with
    | false => rw [hf] at h; exact h.no.elim
    | true =>
      rw [hf] at h
      simp only [cond_true, litK_eq] at h
      have hz : SV.denL Γ.Δ V.ρ ti.zero = SV.denL Γ.Δ (fun _ => none) ti.zero := denL_congr (m := 0) (fun c hc => absurd hc (Nat.not_lt_zero c)) _ hT.zb
      refine ⟨_, _, _, _, _, _, .inl rfl, ?_, Nat.le_succ _, upd_ρ, by simp only [SV.bd]; exact Nat.lt_succ_self nx, h0.newCells (t := t) (bdL_mono (Nat.zero_le nx) _ hT.zb) hf, h⟩
      simp only [execOp, hop, Instr.alloc, Sem.run_bind, hT.zero, Result.andThen_ok, newVar, run_newRow, Sem.run_pure, hT.zcells, hz, SV.den, Val.upd, if_true, sa, Option.getD_some, add_zero]
  · exact h.no.elim
theorem box_ok (h0 : HpOk Γ En V nx H w) {t : TypeId} {x : Operand} (hop : oper.op = .box t x) (hb : (sv x).bd nx) (h : eff Γ sv nx H (.box t x) K) : EffOk Γ En V nx w (fun x => (sv x).den Γ.Δ V.ρ) oper K := by
  simp only [eff] at h
  cases hf : plainV (sv x) && allFlat (cellsOf (sv x)) with
  | false => rw [hf] at h; exact h.no.elim
  | true =>
    rw [hf] at h
    simp only [cond_true, force_eq, litK_eq] at h
    simp only [Bool.and_eq_true] at hf
    refine ⟨_, _, _, _, _, _, .inl rfl, ?_, Nat.le_succ _, upd_ρ, by simp only [SV.bd]; exact Nat.lt_succ_self nx, h0.newCells (t := t) (bdL_mem.2 (bd_cellsOf hb)) hf.2, h⟩
    have hc : ((sv x).den Γ.Δ V.ρ).cells = (SV.denL Γ.Δ V.ρ (cellsOf (sv x))).toArray := by apply Array.ext'; simpa using cells_plain hf.1
    simp only [execOp, hop, Instr.box, Sem.run_bind, Result.andThen_ok, newVar, hc, run_newRow, Sem.run_pure, SV.den, Val.upd, if_true, sa, Option.getD_some, add_zero]
theorem HpOk.stCells (h : HpOk Γ En V nx H w) {t : TypeId} {vs news : List SV} {c off : Nat} (hc : lk H c = some (.cells t vs)) (hle : off + news.length ≤ vs.length) (hf : allFlat news = true) (hb : SV.bdL nx news) :
    ∃ w', (storeCells ((sa (V.ρ c)).add off) (SV.denL Γ.Δ V.ρ news)).run Γ.P w = .ok () w' ∧ HpOk Γ En V nx (setH H c (.cells t (layL vs off news))) w' := by
  obtain ⟨g, h1, h2, h3, h4⟩ := h.hr.ok c _ hc
  have hbv : SV.bdL nx vs := (h.hb c _ hc).2
  refine ⟨w.setRow g (SV.denL Γ.Δ V.ρ (layL vs off news)).toArray, ?_, h.set hc ?_ ?_ ?_⟩
  · rw [h1]
    simp only [sa, Option.getD_some, addA]
    have := run_storeCells_at (P := Γ.P) g off t (SV.denL Γ.Δ V.ρ news) 0 _ w h3 (by simp [denL_len]; omega) (one_all hf)
    rw [this]
    congr 3
    rw [layL_eq]
    simp [splice]
  · exact ⟨rfl, rfl, rfl, by simp [World.setRow], Nat.le_refl _, fun k hk hn => setRow_other w g k _ fun e => hn ((h2 k).2 e)⟩
  · refine ⟨g, h1, h2, setRow_heap w g _ _ t (0, 0) h3, fun u hu => ?_⟩
    rw [layL_eq] at hu
    simp only [splice, List.mem_append] at hu
    rcases hu with (hu | hu) | hu
    · exact h4 u (List.mem_of_mem_take hu)
    · exact one_all hf u hu
    · exact h4 u (List.mem_of_mem_drop hu)
  · refine bdL_mem.2 fun x hx => ?_
    rcases layL_mem x hx with hx | hx
    · exact bdL_mem.1 hbv x hx
    · exact bdL_mem.1 hb x hx
def setL : List Value → Nat → List Value → List Value
  | l, _, [] => l
  | l, o, v :: r => setL (l.set o v) (o + 1) r
theorem setL_splice : ∀ {vs l : List Value} {o : Nat}, o + vs.length ≤ l.length → setL l o vs = splice l o vs
  | [], l, o, h => by simp [setL, splice]
  | v :: r, l, o, h => by
    simp only [List.length_cons] at h
    simp only [setL]
    rw [setL_splice (by simp; omega)]
    have e : l.set o v = l.take o ++ v :: l.drop (o + 1) := by rw [List.set_eq_take_append_cons_drop, if_pos (by omega)]
    have h1 : (l.take o).length = o := by simp; omega
    have e1 : (l.take o ++ v :: l.drop (o + 1)).take (o + 1) = l.take o ++ [v] := by
      rw [List.take_append, h1, List.take_of_length_le (by omega), show o + 1 - o = 1 by omega]
      rfl
    have e2 : (l.take o ++ v :: l.drop (o + 1)).drop (o + 1 + r.length) = l.drop (o + (r.length + 1)) := by
      rw [List.drop_append, h1, List.drop_of_length_le (by omega), show o + 1 + r.length - o = r.length + 1 by omega, List.nil_append, List.drop_succ_cons, List.drop_drop]
      congr 1; omega
    simp only [splice, e, e1, e2, List.length_cons, List.append_assoc, List.singleton_append]
theorem splice_take {l vs : List Value} {o n : Nat} (h : o + vs.length ≤ n) (ho : o ≤ l.length) : (splice l o vs).take n = splice (l.take n) o vs := by
  simp only [splice]
  have h1 : (l.take o ++ vs).length = o + vs.length := by simp; omega
  rw [List.take_append, h1, List.take_of_length_le (by omega), List.take_take, show min o n = o by omega, List.drop_take]
theorem putL_ok {α : Type} {e : Enc α} {Δ : Env0} {ρ : Rho} : ∀ {vs : List SV} {x y : α} {o : Nat}, putL e x o vs = some y → (vs = [] ∨ o + vs.length ≤ e.sz) ∧ e.val y = setL (e.val x) o (SV.denL Δ ρ vs)
  | [], x, y, o, h => by simp only [putL, Option.some.injEq] at h; subst h; exact ⟨.inl rfl, by simp [SV.denL, setL]⟩
  | v :: r, x, y, o, h => by
    simp only [putL] at h
    split at h
    · rename_i z hz
      obtain ⟨h1, h2⟩ := e.put_ok (Δ := Δ) (ρ := ρ) hz
      obtain ⟨h3, h4⟩ := putL_ok (Δ := Δ) (ρ := ρ) h
      refine ⟨.inr ?_, by rw [h4, h2]; simp only [SV.denL, setL]⟩
      rcases h3 with rfl | h3
      · simp; omega
      · simp only [List.length_cons]; omega
    · cases h
theorem flat_set {α : Type} {e : Enc α} : ∀ {l : List α} {i : Nat} {x y : α} {o : Nat} {vs : List Value}, l[i]? = some x → o + vs.length ≤ e.sz → e.val y = splice (e.val x) o vs →
    splice (flat e.val l) (i * e.sz + o) vs = flat e.val (l.set i y)
  | [], i, x, y, o, vs, h, _, _ => by simp at h
  | z :: l, 0, x, y, o, vs, h, ho, hy => by
    simp only [List.getElem?_cons_zero, Option.some.injEq] at h
    subst h
    have hl := e.len z
    simp only [List.set_cons_zero, flat_cons, hy, splice, Nat.zero_mul, Nat.zero_add]
    rw [List.take_append, List.drop_append, hl, show o - e.sz = 0 by omega, show o + vs.length - e.sz = 0 by omega]
    simp
  | z :: l, i + 1, x, y, o, vs, h, ho, hy => by
    simp only [List.getElem?_cons_succ] at h
    have ih := flat_set (l := l) h ho hy
    have hl := e.len z
    simp only [List.set_cons_succ, flat_cons, ← ih, splice]
    have e1 : (i + 1) * e.sz + o = (e.val z).length + (i * e.sz + o) := by rw [hl, Nat.add_mul]; omega
    rw [e1, List.take_length_add_append, Nat.add_assoc, List.drop_length_add_append]
    simp [List.append_assoc]
theorem HpOk.stElt (h : HpOk Γ En V nx H w) {α : Type} {e : Enc α} {t : TypeId} {l : List α} {y : α} {news : List SV} {k c i off : Nat} (hc : lk H c = some (.arr α e t l k)) (hi : i < l.length) (hy : putL e (l.getD i e.d) off news = some y) (hne : news ≠ []) (hf : allFlat news = true) :
    ∃ w', (storeCells ((sa (V.ρ c)).add (i * e.sz + off)) (SV.denL Γ.Δ V.ρ news)).run Γ.P w = .ok () w' ∧ HpOk Γ En V nx (setH H c (.arr α e t (l.set i y) k)) w' := by
  obtain ⟨hown, hβ⟩ := h.hr.ok c _ hc
  obtain ⟨h1, h2⟩ := putL_ok (Δ := Γ.Δ) (ρ := V.ρ) hy
  have ho : off + news.length ≤ e.sz := by rcases h1 with h1 | h1; exact absurd h1 hne; exact h1
  have hg : l[i]? = some (l.getD i e.d) := getD_some hi
  have hsp : e.val y = splice (e.val (l.getD i e.d)) off (SV.denL Γ.Δ V.ρ news) := by rw [h2, setL_splice (by rw [denL_len, e.len]; exact ho)]
  have hfl := flat_set (e := e) hg (by rw [denL_len]; exact ho) hsp
  obtain ⟨hlen, hrest⟩ := hown
  rcases hrest with ⟨h3, h4⟩ | ⟨g, cap, cur, hv, hg0, hheap, hcap, hmax, hsz, htk⟩
  · omega
  · simp only [Value.slice.injEq] at hv
    obtain ⟨hρ, _, rfl⟩ := hv
    have hcur : (i * e.sz + off) + news.length ≤ l.length * e.sz := by
      have : (i + 1) * e.sz ≤ l.length * e.sz := Nat.mul_le_mul_right _ hi
      rw [Nat.add_mul] at this; omega
    have hcc : l.length * e.sz ≤ k * e.sz := Nat.mul_le_mul_right _ hcap
    have hrun := run_storeCells_at (P := Γ.P) g (i * e.sz + off) t (SV.denL Γ.Δ V.ρ news) 0 cur w hheap (by rw [denL_len, hsz]; omega) (one_all hf)
    have hbeta : ∀ j, V.β c j ↔ j = g := fun j => by rw [hβ, hρ]; simp [Value.ownBlock, eq_comm]
    refine ⟨w.setRow g (splice cur.toList (i * e.sz + off) (SV.denL Γ.Δ V.ρ news)).toArray, ?_, h.set hc ?_ ?_ trivial⟩
    · rw [hρ]
      simp only [sa, Option.getD_some, addA]
      rw [hrun]
      simp [splice]
    · exact ⟨rfl, rfl, rfl, by simp [World.setRow], Nat.le_refl _, fun k hk hn => setRow_other w g k _ fun e => hn ((hbeta k).2 e)⟩
    · refine ⟨⟨?_, .inr ⟨g, k, _, by rw [hρ, List.length_set], Nat.zero_le _, setRow_heap w g _ _ t (0, 0) hheap, by simpa using hcap, hmax, ?_, ?_⟩⟩, fun j => by rw [List.length_set]; exact hβ j⟩
      · rw [flat_len e.len]
      · have := denL_len (Δ := Γ.Δ) (ρ := V.ρ) news
        simp only [List.size_toArray, splice, List.length_append, List.length_take, List.length_drop, Array.length_toList, this, hsz]
        omega
      · rw [← hfl, ← htk, List.length_set]
        show (splice cur.toList (i * e.sz + off) (SV.denL Γ.Δ V.ρ news)).take _ = _
        rw [splice_take (by rw [denL_len]; omega) (by simp; omega)]
theorem store_ok (hΓ : Γ.Ok) (h0 : HpOk Γ En V nx H w) {t : TypeId} {p x : Operand} (hop : oper.op = .store t p x) (hb : (sv x).bd nx) (h : eff Γ sv nx H (.store t p x) K) : EffOk Γ En V nx w (fun x => (sv x).den Γ.Δ V.ρ) oper K := by
  simp only [eff] at h
  split at h
  · rename_i ti ht
    have hT := hΓ.tb t ti ht
    cases hq : plainV (sv x) && Nat.beq (cellsOf (sv x)).length ti.sz && allFlat (cellsOf (sv x)) && Nat.blt 0 ti.sz with
    | false => rw [hq] at h; exact h.no.elim
    | true =>
      rw [hq] at h
      simp only [cond_true] at h
      simp only [Bool.and_eq_true] at hq
      obtain ⟨⟨⟨hp, hl⟩, hf⟩, hz⟩ := hq
      have hl := beqT hl
      have hne : cellsOf (sv x) ≠ [] := fun e => by rw [e] at hl; simp only [List.length_nil] at hl; rw [← hl] at hz; cases hz
      have hcl : ((sv x).den Γ.Δ V.ρ).cells.toList = SV.denL Γ.Δ V.ρ (cellsOf (sv x)) := cells_plain hp
      have hsz : ((sv x).den Γ.Δ V.ρ).cells.size = ti.sz := by rw [← hl, ← denL_len (Δ := Γ.Δ) (ρ := V.ρ), ← hcl]; simp
      have hbn : SV.bdL nx (cellsOf (sv x)) := bdL_mem.2 (bd_cellsOf hb)
      have fin : ∀ {A : Addr} {w' : World}, (sv p).den Γ.Δ V.ρ = .pointer (some A) → (storeCells A (SV.denL Γ.Δ V.ρ (cellsOf (sv x)))).run Γ.P w = .ok () w' → (execOp (fun x => (sv x).den Γ.Δ V.ρ) oper).run Γ.P w = .ok .skip w' := fun hp hr => by
        simp [execOp, hop, hp, Instr.storeAt, Instr.sureAddr, storeVar, hT.size, hsz, hcl, hr]
      unfold storeK at h
      split at h
      · rename_i c off hx
        split at h
        · rename_i tb vs hc
          cases hq : Nat.ble (off + (cellsOf (sv x)).length) vs.length && allFlat (cellsOf (sv x)) with
          | false => rw [hq] at h; exact h.no.elim
          | true =>
            rw [hq] at h
            simp only [cond_true, force_eq, setK_eq] at h
            simp only [Bool.and_eq_true] at hq
            obtain ⟨w', h1, h2⟩ := h0.stCells hc (Nat.le_of_ble_eq_true hq.1) hf hbn
            exact ⟨V, _, nx, _, w', .skip, .inr ⟨rfl, rfl⟩, fin (by rw [hx, SV.den]) h1, Nat.le_refl _, fun _ _ => rfl, by simp only [SV.bd], h2, h⟩
        · exact h.no.elim
      · rename_i c i sz off hx
        split at h
        · rename_i α e tb l k hc
          cases hs : Nat.beq e.sz sz with
          | false => rw [hs] at h; exact h.no.elim
          | true =>
            rw [hs] at h
            obtain rfl := beqT hs
            simp only [cond_true] at h
            split at h
            · rename_i y hy
              rw [setK_eq] at h
              obtain ⟨w', h1, h2⟩ := h0.stElt hc h.1 hy hne hf
              exact ⟨V, _, nx, _, w', .skip, .inr ⟨rfl, rfl⟩, fin (by rw [hx, SV.den]) h1, Nat.le_refl _, fun _ _ => rfl, by simp only [SV.bd], h2, h.2⟩
            · exact h.no.elim
        · rename_i tb vs hc
          cases hq : Nat.ble (i * sz + off + (cellsOf (sv x)).length) vs.length && allFlat (cellsOf (sv x)) with
          | false => rw [hq] at h; exact h.no.elim
          | true =>
            rw [hq] at h
            simp only [cond_true, force_eq, setK_eq] at h
            simp only [Bool.and_eq_true] at hq
            obtain ⟨w', h1, h2⟩ := h0.stCells hc (Nat.le_of_ble_eq_true hq.1) hf hbn
            exact ⟨V, _, nx, _, w', .skip, .inr ⟨rfl, rfl⟩, fin (by rw [hx, SV.den]) h1, Nat.le_refl _, fun _ _ => rfl, by simp only [SV.bd], h2, h⟩
        · exact h.no.elim
      · exact h.no.elim
  · exact h.no.elim
end
end Go.Zz
namespace Go.Zz
open Go.Px Go.RowKit
set_option linter.unusedVariables false
set_option linter.unusedSimpArgs false
set_option linter.unusedSectionVars false
theorem ofL_ok {α : Type} {e : Enc α} {Δ : Env0} {ρ : Rho} : ∀ {n : Nat} {cs : List SV} {l : List α}, ofL e n cs = some l → flat e.val l = SV.denL Δ ρ cs ∧ l.length = n
  | 0, [], l, h => by simp only [ofL, Option.some.injEq] at h; subst h; simp [flat, SV.denL]
  | 0, _ :: _, l, h => by simp [ofL] at h
  | n + 1, cs, l, h => by
    simp only [ofL] at h
    split at h
    · rename_i x r hx hr
      simp only [Option.some.injEq] at h; subst h
      have h1 := e.of_ok (Δ := Δ) (ρ := ρ) hx
      obtain ⟨h2, h3⟩ := ofL_ok (Δ := Δ) (ρ := ρ) hr
      refine ⟨?_, by simp [h3]⟩
      rw [flat_cons, h1, h2, ← denL_app, List.take_append_drop]
    · cases h
theorem zeros_eq {zs : List Value} {n : Nat} (hz : 0 < zs.length) : zerosL zs (n * zs.length) = (List.replicate n zs).flatten := by
  have hl : ((List.replicate n zs).flatten).length = n * zs.length := reps_len n zs
  refine List.ext_getElem? fun j => ?_
  rcases Nat.lt_or_ge j (n * zs.length) with h | h
  · have h1 : ((List.replicate n zs).flatten)[j]? = zs[j % zs.length]? := reps_get h
    have hm : j % zs.length < zs.length := Nat.mod_lt _ hz
    rw [h1]
    simp [zerosL, h, List.getD_eq_getElem?_getD, hm]
  · rw [List.getElem?_eq_none (by simpa [zerosL] using h), List.getElem?_eq_none (by rw [hl]; exact h)]
theorem denL_rep {Δ : Env0} {ρ : Rho} (l : List SV) : ∀ n, SV.denL Δ ρ (List.replicate n l).flatten = (List.replicate n (SV.denL Δ ρ l)).flatten
  | 0 => by simp [SV.denL]
  | n + 1 => by simp only [List.replicate_succ, List.flatten_cons, denL_app, denL_rep l n]
section
variable {Γ : Ctx} {En : Ent} {V : Val} {nx : Nat} {H : Hp} {w : World} {sv : Operand → SV} {oper : Oper} {K : SV → Nat → Hp → Prop}
theorem HpOk.newArr (h : HpOk Γ En V nx H w) {α : Type} {e : Enc α} {t : TypeId} {l : List α} {k : Nat} {cs : List Value} (hl : l.length ≤ k) (hk : k ≤ maxLen) (hc : cs.length = k * e.sz) (ht : cs.take (l.length * e.sz) = flat e.val l) :
    HpOk Γ En (V.upd nx (some ⟨w.heap.size, 0, none⟩) (fun i => i = w.heap.size)) (nx + 1) ((nx, .arr α e t l k) :: H) (w.alloc (.cells cs.toArray t)) := by
  refine h.add (keep_alloc w _) _ _ _ ⟨⟨by rw [flat_len e.len], .inr ⟨w.heap.size, k, cs.toArray, by simp [Val.upd], Nat.zero_le _, alloc_at w _, hl, hk, by simpa using hc, by simpa using ht⟩⟩, fun i => by simp [Val.upd, Value.ownBlock, eq_comm]⟩ trivial fun i hi => by rw [hi]; exact Nat.le_refl _
theorem buildSlice_ok (hΓ : Γ.Ok) (h0 : HpOk Γ En V nx H w) {t : TypeId} {n : Nat} {ps : Array (Nat × Operand)} (hop : oper.op = .buildSlice t n ps) (hbx : ∀ x ∈ (ps.toList.map (·.2)), (sv x).bd nx) (h : eff Γ sv nx H (.buildSlice t n ps) K) :
    EffOk Γ En V nx w (fun x => (sv x).den Γ.Δ V.ρ) oper K := by
  simp only [eff] at h
  split at h
  · rename_i ti ht
    have hT := hΓ.tb t ti ht
    have hu := hT.u
    split at h
    · rename_i e hq
      rw [hq] at hu
      have hu : Γ.P.underlying t = some (.slice e) := hu
      split at h
      · rename_i te hte
        have hE := hΓ.tb e te hte
        split at h
        · rename_i cs hcs
          cases hq2 : allFlat cs && Nat.ble n 4096 && Nat.ble te.sz 4096 && Nat.blt 0 te.sz with
          | false => rw [hq2] at h; exact h.no.elim
          | true =>
            rw [hq2] at h
            simp only [cond_true] at h
            simp only [Bool.and_eq_true] at hq2
            obtain ⟨⟨⟨hf, hn⟩, hs⟩, hp⟩ := hq2
            have hp : 0 < te.sz := by simpa [Nat.blt_eq] using hp
            have hn := Nat.le_of_ble_eq_true hn
            have hs := Nat.le_of_ble_eq_true hs
            obtain ⟨h1, h2, h3⟩ := fill_sound (Δ := Γ.Δ) (ρ := V.ρ) hcs
            have hbc : SV.bdL nx cs := bdL_mem.2 fun x hx => by
              rcases h2 x hx with h4 | ⟨p, h4, h5⟩
              · obtain ⟨l, hl, hx⟩ := List.mem_flatten.1 h4
                obtain rfl := (List.mem_replicate.1 hl).2
                exact bd_mono (Nat.zero_le nx) x (bdL_mem.1 hE.zb x hx)
              · rw [partsOf_map, List.mem_map] at h4
                obtain ⟨q, hq, rfl⟩ := h4
                exact bd_cellsOf (hbx q.2 (List.mem_map.2 ⟨q, hq, rfl⟩)) x h5
            have hcl : cs.length = n * te.sz := by
              rw [h3]
              have := reps_len n (SV.denL Γ.Δ V.ρ te.zero)
              simp only [reps, ← denL_rep, denL_len] at this
              rw [this, hE.zl]
            obtain ⟨i, hi, he⟩ := Option.map_eq_some_iff.1 hE.info
            simp only [Prod.mk.injEq] at he
            have hz : SV.denL Γ.Δ V.ρ te.zero = SV.denL Γ.Δ (fun _ => none) te.zero := denL_congr (m := 0) (fun c hc => absurd hc (Nat.not_lt_zero c)) _ hE.zb
            have hzc : (zvOf Γ.Δ te).cells.toList = SV.denL Γ.Δ V.ρ te.zero := by rw [hE.zcells, hz]
            have hzl : (SV.denL Γ.Δ V.ρ te.zero).length = te.sz := by rw [denL_len, hE.zl]
            have hparts : ((ps.map fun (x : Nat × Operand) => (x.1, (sv x.2).den Γ.Δ V.ρ)).toList : List (Nat × Value)) = (partsOf sv ps.toList).map fun p => (p.1, p.2.den Γ.Δ V.ρ) := by
              rw [partsOf_map]; simp
            have hrun : (Instr.buildSlice t n (ps.map fun (x : Nat × Operand) => (x.1, (sv x.2).den Γ.Δ V.ρ))).run Γ.P w = .ok (.slice (some ⟨w.heap.size, 0, none⟩) n n) (w.alloc (.cells (SV.denL Γ.Δ V.ρ cs).toArray e)) := by
              refine bsV_sound ?_ w
              rw [hparts]
              simp only [bsV, hu, hi, he.2.2, hzc, he.1]
              have hm : n * te.sz ≤ 16777216 := by
                have := Nat.mul_le_mul hn hs
                omega
              rw [if_pos (by simp only [Bool.and_eq_true]; exact ⟨⟨by simpa using hm, by simp [hzl]⟩, by simpa [Nat.blt_eq] using hp⟩)]
              have e1 := zeros_eq (zs := SV.denL Γ.Δ V.ρ te.zero) (n := n) (by rw [hzl]; exact hp)
              rw [hzl] at e1
              rw [e1, ← denL_rep, h1]
              rfl
            have hop2 : (execOp (fun x => (sv x).den Γ.Δ V.ρ) oper).run Γ.P w = .ok (.value (.slice (some ⟨w.heap.size, 0, none⟩) n n)) (w.alloc (.cells (SV.denL Γ.Δ V.ρ cs).toArray e)) := by
              simp only [execOp, hop, Sem.run_bind, hrun, Result.andThen_ok, Sem.run_pure]
            split at h
            · rename_i α en hen
              split at h
              · rename_i l hl
                cases hz2 : Nat.beq en.sz te.sz with
                | false => rw [hz2] at h; exact h.no.elim
                | true =>
                  rw [hz2] at h
                  simp only [cond_true, litK_eq] at h
                  have hz2 := beqT hz2
                  obtain ⟨h4, h5⟩ := ofL_ok (Δ := Γ.Δ) (ρ := V.ρ) hl
                  refine ⟨_, _, _, _, _, _, .inl rfl, ?_, Nat.le_succ _, upd_ρ, by simp only [SV.bd]; exact Nat.lt_succ_self nx, h0.newArr (cs := SV.denL Γ.Δ V.ρ cs) (Nat.le_of_eq h5) (by simp only [maxLen]; omega) (by rw [denL_len, hcl, hz2]) (by rw [h5, h4, List.take_of_length_le (by rw [denL_len, hcl, hz2]; exact Nat.le_refl _)]), h⟩
                  rw [hop2]
                  simp [SV.den, Val.upd]
              · exact h.no.elim
            · simp only [force_eq, litK_eq] at h
              refine ⟨_, _, _, _, _, _, .inl rfl, ?_, Nat.le_succ _, upd_ρ, by simp only [SV.bd]; exact Nat.lt_succ_self nx, h0.newCells (t := e) hbc hf, h⟩
              rw [hop2]
              simp [SV.den, Val.upd]
        · exact h.no.elim
      · exact h.no.elim
    · exact h.no.elim
  · exact h.no.elim
theorem makeSlice_ok (hΓ : Γ.Ok) (h0 : HpOk Γ En V nx H w) {t : TypeId} {x y : Operand} (hop : oper.op = .makeSlice t x y) (h : eff Γ sv nx H (.makeSlice t x y) K) : EffOk Γ En V nx w (fun x => (sv x).den Γ.Δ V.ρ) oper K := by
  simp only [eff] at h
  split at h
  · rename_i ti ht
    have hT := hΓ.tb t ti ht
    have hu := hT.u
    split at h
    · rename_i e kl a kc b hq hx hy
      rw [hq] at hu
      have hu : Γ.P.underlying t = some (.slice e) := hu
      split at h
      · rename_i te α en hte hen
        have hE := hΓ.tb e te hte
        split at h
        · rename_i z hz
          cases hs : Nat.beq en.sz te.sz && Nat.blt 0 te.sz with
          | false => rw [hs] at h; exact h.no.elim
          | true =>
            rw [hs] at h
            simp only [cond_true] at h
            simp only [Bool.and_eq_true] at hs
            have hs1 := beqT hs.1
            simp only [litK_eq] at h
            obtain ⟨⟨h1, h2, h3, h4⟩, h⟩ := h
            obtain ⟨i, hi, he⟩ := Option.map_eq_some_iff.1 hE.info
            simp only [Prod.mk.injEq] at he
            have hzz : SV.denL Γ.Δ V.ρ te.zero = SV.denL Γ.Δ (fun _ => none) te.zero := denL_congr (m := 0) (fun c hc => absurd hc (Nat.not_lt_zero c)) _ hE.zb
            have hzv := en.of_ok (Δ := Γ.Δ) (ρ := V.ρ) hz
            have hzs : (zvOf Γ.Δ te).cells.size = te.sz := by rw [hE.zcells]; simp [denL_len, hE.zl]
            have hcells : (madeCells (zvOf Γ.Δ te).cells (b.toNat * te.sz)).toList = flat en.val (List.replicate b.toNat z) := by
              rw [← hzs, made_reps, hE.zcells, ← hzz]
              exact reps_flat hzv _
            have hr := run_make (P := Γ.P) w t e i _ hu hi he.2.2 kl kc a b h1 h2 (by rw [he.2.1]; exact h4) (by omega)
            rw [he.1] at hr
            have e0 : (Obj.cells (madeCells (zvOf Γ.Δ te).cells (b.toNat * te.sz)) e) = .cells (flat en.val (List.replicate b.toNat z)).toArray e := by rw [← hcells]
            rw [e0] at hr
            have hab : a.toNat ≤ b.toNat := Int.toNat_le_toNat h2
            refine ⟨_, _, _, _, _, _, .inl rfl, ?_, Nat.le_succ _, upd_ρ, by simp only [SV.bd]; exact Nat.lt_succ_self nx, h0.newArr (cs := flat en.val (List.replicate b.toNat z)) (by simpa using hab) (by simp only [maxLen]; omega) (by rw [flat_len en.len]; simp) (by rw [flat_take en.len]; congr 1; simp; omega), h⟩
            simp [execOp, hop, hx, hy, SV.den, hr, Val.upd]
        · exact h.no.elim
      · exact h.no.elim
    · exact h.no.elim
  · exact h.no.elim
theorem own_less {α : Type} {e : Enc α} {t : TypeId} {a : Option Addr} {l : List α} {k n : Nat} (h : w.ownsRow 0 t e.sz (.slice a l.length k) l.length (flat e.val l)) (hn : n ≤ l.length) : w.ownsRow 0 t e.sz (.slice a n k) n (flat e.val (l.take n)) := by
  obtain ⟨h1, h2⟩ := h
  refine ⟨by rw [flat_len e.len, List.length_take, Nat.min_eq_left hn], ?_⟩
  rcases h2 with ⟨h3, h4⟩ | ⟨g, cap, cur, h3, h4, h5, h6, h7, h8, h9⟩
  · left
    simp only [Value.slice.injEq] at h3
    obtain ⟨rfl, _, rfl⟩ := h3
    have : n = 0 := by omega
    subst this
    exact ⟨rfl, rfl⟩
  · right
    simp only [Value.slice.injEq] at h3
    obtain ⟨rfl, _, rfl⟩ := h3
    refine ⟨g, k, cur, rfl, h4, h5, by omega, h7, h8, ?_⟩
    rw [← flat_take e.len, ← h9, List.take_take, Nat.min_eq_left (Nat.mul_le_mul_right _ hn)]
theorem srcK_ok (h0 : HpOk Γ En V nx H w) {α : Type} {en : Enc α} {x : SV} {L : Nat → Prop → List α → Prop} (h : srcK en H x oper.op L) :
    ∃ m ob r, L m ob r ∧ (ob → ∃ a k, x.den Γ.Δ V.ρ = .slice a m k ∧ Arr w en.sz a m k (flat en.val r) ∧ r.length = m) := by
  unfold srcK at h
  split at h
  · exact ⟨_, _, _, h, fun _ => ⟨none, 0, by simp only [SV.den], Arr.none_nil w en.sz, rfl⟩⟩
  · rename_i c m k
    split at h
    · rename_i β e' t l k' hc
      obtain ⟨rfl, he, h⟩ := h
      obtain rfl := eq_of_heq he
      refine ⟨_, _, _, h, fun ⟨h1, h2⟩ => ⟨V.ρ c, k, by simp only [SV.den], ?_, by simp; omega⟩⟩
      subst h2
      have := (Ch.arr_now (h0.hr.ok c _ hc)).take h1
      rw [flat_take e'.len] at this
      exact this
    · rename_i β e' l k' hc
      obtain ⟨rfl, he, h⟩ := h
      obtain rfl := eq_of_heq he
      refine ⟨_, _, _, h, fun ⟨h1, h2⟩ => ⟨V.ρ c, k, by simp only [SV.den], ?_, by simp; omega⟩⟩
      subst h2
      have := (Ch.ro_now (h0.hr.ok c _ hc) h0.hr.keep).take h1
      rw [flat_take e'.len] at this
      exact this
    · rename_i t vs hc
      split at h
      · rename_i l hl
        obtain ⟨h4, h5⟩ := ofL_ok (Δ := Γ.Δ) (ρ := V.ρ) hl
        refine ⟨_, _, _, h, fun h1 => ⟨V.ρ c, k, by simp only [SV.den], ?_, h5⟩⟩
        obtain ⟨g, hg, _, hheap, _⟩ := h0.hr.ok c _ hc
        rw [hg, h4]
        have hlen : (SV.denL Γ.Δ V.ρ vs).length = m * en.sz := by rw [← h4, flat_len en.len, h5]
        refine ⟨hlen, fun _ => rfl, (fun h => by cases h), h1, fun j u hu => ?_⟩
        show w.cell? ((⟨g, 0, none⟩ : Addr).add j) = some u
        rw [addA]
        simp only [World.cell?, hheap]
        simpa using hu
      · exact h.no.elim
    · exact h.no.elim
  · rename_i c lo k0 sz m k
    split at h
    · rename_i β e' t l k' hc
      obtain ⟨rfl, he, h⟩ := h
      obtain rfl := eq_of_heq he
      refine ⟨_, _, _, h, fun ⟨h1, h2, h3, h4, h5⟩ => ⟨cutA (V.ρ c) lo k0 sz, k, by simp only [SV.den], ?_, by simp; omega⟩⟩
      subst h3 h4 h5
      have := ((Ch.arr_now (h0.hr.ok c _ hc)).drop h1).take h2
      rw [flat_drop e'.len, flat_take e'.len] at this
      exact this
    · rename_i β e' l k' hc
      obtain ⟨rfl, he, h⟩ := h
      obtain rfl := eq_of_heq he
      refine ⟨_, _, _, h, fun ⟨h1, h2, h3, h4, h5⟩ => ⟨cutA (V.ρ c) lo k0 sz, k, by simp only [SV.den], ?_, by simp; omega⟩⟩
      subst h3 h4 h5
      have := ((Ch.ro_now (h0.hr.ok c _ hc) h0.hr.keep).drop h1).take h2
      rw [flat_drop e'.len, flat_take e'.len] at this
      exact this
    · exact h.no.elim
  · exact h.no.elim
theorem append_ok (hΓ : Γ.Ok) (h0 : HpOk Γ En V nx H w) {c : Call} (hop : oper.op = .call c) (hc : c.callee = .builtin .append) (h : eff Γ sv nx H (.call c) K) : EffOk Γ En V nx w (fun x => (sv x).den Γ.Δ V.ρ) oper K := by
  simp only [eff, hc] at h
  have hargs : ∀ {l : List SV}, mapSV sv c.args.toList = l → c.args.map (fun x => (sv x).den Γ.Δ V.ρ) = (SV.denL Γ.Δ V.ρ l).toArray := fun {l} hl => by
    rw [← hl, mapSV_map, denL_map]
    apply Array.ext'
    simp
  split at h
  · rename_i t u s x htl hm
    have ha := hargs hm
    split at h
    · rename_i ti ht
      have hu := (hΓ.tb t ti ht).u
      split at h
      · rename_i e hq
        rw [hq] at hu
        have hu : Γ.P.underlying t = some (.slice e) := hu
        split at h
        · rename_i te hte
          have hE := hΓ.tb e te hte
          cases hb : Nat.beq t u && Nat.blt 0 te.sz with
          | false => rw [hb] at h; exact h.no.elim
          | true =>
            rw [hb] at h
            simp only [cond_true, ← hop] at h
            simp only [Bool.and_eq_true] at hb
            obtain rfl := beqT hb.1
            have hz : 0 < te.sz := by simpa [Nat.blt_eq] using hb.2
            have ht0 : c.argTypes = #[t, t] := by apply Array.ext'; simpa using htl
            have hinf : (Γ.P.info? e).map (fun i => (i.size, i.bytes, i.zero.map (·.cells.size))) = some (te.sz, te.by_, some te.sz) := by
              obtain ⟨i, hi, he⟩ := Option.map_eq_some_iff.1 hE.info
              simp only [Prod.mk.injEq] at he
              rw [hi]
              have : (zvOf Γ.Δ te).cells.size = te.sz := by rw [hE.zcells]; simp [denL_len, hE.zl]
              simp [he.1, he.2.1, he.2.2, this]
            have hrun : ∀ {v : Value} {w' : World}, (Builtin.append_ #[t, t] oper.type #[s.den Γ.Δ V.ρ, x.den Γ.Δ V.ρ]).run Γ.P w = .ok v w' → (execOp (fun x => (sv x).den Γ.Δ V.ρ) oper).run Γ.P w = .ok (.value v) w' := fun hr => by
              simp [execOp, hop, resolve, hc, invoke, builtin, ha, ht0, SV.denL, hr]
            unfold appK at h
            split at h
            · rename_i c0 n ks
              split at h
              · rename_i α en t' l kc hlk
                cases hb2 : Nat.beq en.sz te.sz && Nat.beq t' e with
                | false => rw [hb2] at h; exact h.no.elim
                | true =>
                  rw [hb2] at h
                  simp only [cond_true] at h
                  simp only [Bool.and_eq_true] at hb2
                  have hsz := beqT hb2.1
                  obtain rfl := beqT hb2.2
                  obtain ⟨m, ob, r, ⟨⟨hob, rfl, hn, hm1, hm2⟩, hK⟩, hsrc⟩ := srcK_ok h0 h
                  obtain ⟨av, kv, hx, harr, hr⟩ := hsrc hob
                  obtain ⟨hown, hβ⟩ := h0.hr.ok c0 _ hlk
                  have hown2 := own_less hown hn
                  rw [hsz] at hown2 harr
                  obtain ⟨a', k', w', h1, h2, h3, h4, h5⟩ := append_own (P := Γ.P) (ty := oper.type) hu hinf hz hown2 harr (flat_one1 en.one) (by simp only [maxLen]; omega) hm2 (Nat.zero_le _)
                  have hkk : n + m ≤ k' := by
                    rcases h2.2 with ⟨h6, h7⟩ | ⟨g, cap, cur, h6, _, _, h7, _⟩
                    · omega
                    · simp only [Value.slice.injEq] at h6; omega
                  have hk := hK k' hkk
                  simp only [delK_eq, litK_eq] at hk
                  have hkeep : Keep (V.β c0) w w' := (Keep.of_grownBy h3 h4).mono fun i _ hi => (hβ i).2 (by cases hρ : V.ρ c0 <;> rw [hρ] at hi <;> first | (simp [Value.ownBlock] at hi; done) | simpa [Value.ownBlock] using hi)
                  have hlen : (l.take n ++ r).length = n + m := by simp [hr]; omega
                  refine ⟨V.upd nx a' (fun i => Value.ownBlock (.slice a' (n + m) k') = some i), _, _, _, w', _, .inl rfl, ?_, Nat.le_succ _, upd_ρ, by simp only [SV.bd]; exact Nat.lt_succ_self nx, ?_, hk⟩
                  · rw [hrun (by rw [hx]; simp only [SV.den]; exact h1)]
                    simp [SV.den, Val.upd]
                  · have hlk2 : ∀ d, lk ((nx, Ch.arr α en t' (l.take n ++ r) k') :: delH H c0) d = if d = nx then some (Ch.arr α en t' (l.take n ++ r) k') else if d = c0 then none else lk H d := fun d => by
                      simp only [lk, lk_del]
                      by_cases hd : d = nx
                      · subst hd; simp
                      · rw [if_neg hd]
                        cases h2 : Nat.beq nx d with
                        | true => exact absurd (beqT h2).symm hd
                        | false => rfl
                    refine h0.step (F := V.β c0) (fun d => d = c0) (fun d => d = nx) hkeep (fun i _ hi => ⟨c0, rfl, by rw [hlk]; rfl, hi⟩) (Nat.le_succ _) upd_ρ (fun d ch hd hnd => ?_) (fun d ch hd hnd => ?_) (fun c c' hc hc' _ _ hne => absurd (hc.trans hc'.symm) hne)
                    · rw [hlk2, if_neg hnd] at hd
                      split at hd
                      · cases hd
                      · rename_i h6; exact ⟨h6, hd, if_neg hnd⟩
                    · subst hnd
                      rw [hlk2, if_pos rfl] at hd
                      obtain rfl := Option.some.inj hd
                      refine ⟨⟨?_, fun i => by simp only [Val.upd, if_true, hlen]⟩, trivial, Nat.lt_succ_self _, fun i hi => ?_⟩
                      · simp only [Val.upd, if_true, hlen, flat_app, hsz]
                        exact h2
                      · simp only [Val.upd, if_true] at hi
                        rcases h5 with h6 | h6
                        · left
                          refine ⟨c0, rfl, by rw [hlk]; rfl, (hβ i).2 ?_⟩
                          rw [h6] at hi
                          cases hρ : V.ρ c0 <;> rw [hρ] at hi <;> first | (simp [Value.ownBlock] at hi; done) | simpa [Value.ownBlock] using hi
                        · exact .inr (h6 i hi)
              · exact h.no.elim
            · split at h
              · rename_i α en hen
                cases hb2 : Nat.beq en.sz te.sz with
                | false => rw [hb2] at h; exact h.no.elim
                | true =>
                  rw [hb2] at h
                  simp only [cond_true] at h
                  have hsz := beqT hb2
                  simp only [litK_eq] at h
                  obtain ⟨m, ob, r, ⟨⟨hob, hm1, hm2⟩, hK⟩, hsrc⟩ := srcK_ok h0 h
                  obtain ⟨av, kv, hx, harr, hr⟩ := hsrc hob
                  rw [hsz] at harr
                  obtain ⟨a', k', w', h1, h2, h3, h4, h5⟩ := append_own (P := Γ.P) (ty := oper.type) hu hinf hz (World.ownsRow_nil w 0 e te.sz) harr (flat_one1 en.one) (by simp only [maxLen]; omega) (by simpa using hm2) (Nat.zero_le _)
                  simp only [Nat.zero_add, List.nil_append] at h1 h2 h5
                  have hkk : m ≤ k' := by
                    rcases h2.2 with ⟨h6, h7⟩ | ⟨g, cap, cur, h6, _, _, h7, _⟩
                    · omega
                    · simp only [Value.slice.injEq] at h6; omega
                  have hkeep : Keep Nn w w' := (Keep.of_grownBy h3 h4).mono fun i _ hi => by simp [Value.ownBlock] at hi
                  have hnew : ∀ i, Value.ownBlock (.slice a' m k') = some i → w.heap.size ≤ i := fun i hi => by
                    rcases h5 with h6 | h6
                    · rw [h6] at hi; simp [Value.ownBlock] at hi
                    · exact h6 i hi
                  refine ⟨V.upd nx a' (fun i => Value.ownBlock (.slice a' m k') = some i), _, _, _, w', _, .inl rfl, ?_, Nat.le_succ _, upd_ρ, by simp only [SV.bd]; exact Nat.lt_succ_self nx, h0.add hkeep _ _ (.arr α en e r k') ⟨?_, fun i => by simp only [Val.upd, if_true, hr]⟩ trivial hnew, hK k' hkk⟩
                  · rw [hrun (by rw [hx]; simp only [SV.den]; exact h1)]
                    simp [SV.den, Val.upd]
                  · simp only [Val.upd, if_true, hr, hsz]
                    exact h2
              · exact h.no.elim
            · exact h.no.elim
        · exact h.no.elim
      · exact h.no.elim
    · exact h.no.elim
  · exact h.no.elim
theorem eff_sound (hΓ : Γ.Ok) (h0 : HpOk Γ En V nx H w) (hbx : ∀ x ∈ oper.op.operands.toList, (sv x).bd nx) (h : eff Γ sv nx H oper.op K) : EffOk Γ En V nx w (fun x => (sv x).den Γ.Δ V.ρ) oper K := by
  cases hop : oper.op with
  | alloc t => rw [hop] at h; exact alloc_ok hΓ h0 hop h
  | box t x => rw [hop] at h hbx; exact box_ok h0 hop (hbx x (by simp [Op.operands])) h
  | store t a x => rw [hop] at h hbx; exact store_ok hΓ h0 hop (hbx x (by simp [Op.operands])) h
  | buildSlice t n ps => rw [hop] at h hbx; exact buildSlice_ok hΓ h0 hop (fun x hx => hbx x (by simpa [Op.operands] using hx)) h
  | makeSlice t a b => rw [hop] at h; exact makeSlice_ok hΓ h0 hop h
  | call c =>
    rw [hop] at h
    by_cases hc : c.callee = .builtin .append
    · exact append_ok hΓ h0 hop hc h
    · simp only [eff] at h
      exact h.h _ _ _ _ hop h0 (by rw [hop] at hbx; exact hbx)
  | select cs b => rw [hop] at h; simp only [eff] at h; exact h.no.elim
  | _ => rw [hop] at h; simp only [eff] at h; exact h.h _ _ _ _ hop h0 (by rw [hop] at hbx; exact hbx)
end
end Go.Zz
namespace Go.Zz
open Go.Px Go.RowKit
set_option linter.unusedVariables false
set_option linter.unusedSimpArgs false
set_option linter.unusedSectionVars false
abbrev Ev := List (Nat × SV)
structure StOk (Γ : Ctx) (n : Nat) (En : Ent) (V : Val) (a : Act) (w : World) (s : St) : Prop where
  dfr : a.defers = En.ds
  size : a.tmps.size = n
  env : ∀ t v, lk s.env t = some v → a.tmps[t]? = some (v.den Γ.Δ V.ρ) ∧ v.bd s.nx
  hp : HpOk Γ En V s.nx s.H w
  old : ∀ c, c < En.n0 → V.ρ c = En.ρ0 c
  n0 : En.n0 ≤ s.nx
def PH (a : Act) (g : Gp) : Prop := ∀ x ∈ g, a.tmps[x.1]? = some (.bool x.2)
structure GdOk (Γ : Ctx) (V : Val) (nx : Nat) (a : Act) (gds : Gds) : Prop where
  ok : ∀ t g pc v, (t, g, pc, v) ∈ gds → v.bd nx ∧ (PH a g ↔ pc) ∧ (pc → a.tmps[t]? = some (v.den Γ.Δ V.ρ)) ∧ (¬ pc → a.tmps[t]? = some undef)
structure CallGoal (Γ : Ctx) (f : FuncId) (args : List SV) (nx : Nat) (H : Hp) (K : SV → Nat → Hp → Prop) : Prop where
  h : ∀ En V w, HpOk Γ En V nx H w → En.n0 ≤ nx → SV.bdL nx args → ∃ R : Value → World → Prop,
    ((enters Γ.P f ∧ Calls Γ.P f (SV.denL Γ.Δ V.ρ args).toArray w (Ret R)) ∨ (∃ v w', (callFunc f (SV.denL Γ.Δ V.ρ args).toArray).run Γ.P w = .ok (.value v) w' ∧ R v w')) ∧
    ∀ v w', R v w' → ∃ V' sv nx' H', v = sv.den Γ.Δ V'.ρ ∧ nx ≤ nx' ∧ (∀ d, d < nx → V'.ρ d = V.ρ d) ∧ sv.bd nx' ∧ HpOk Γ En V' nx' H' w' ∧ K sv nx' H'
def Post (Γ : Ctx) (n : Nat) (En : Ent) (Q : Exit → St → Prop) : Exit → Act → World → Prop := fun e a w => ∃ V s, StOk Γ n En V a w s ∧ Q e s
structure LoopGoal (Γ : Ctx) (n n0 : Nat) (c : Code) (s : St) (Q : Exit → St → Prop) : Prop where
  h : ∀ En V a w, En.n0 = n0 → StOk Γ n En V a w s → (Code.loop c).wp Γ.P (Post Γ n En Q) a w
structure DrawGoal (Γ : Ctx) (n n0 : Nat) (l : List Oper) (s : St) (Q : Exit → St → Prop) : Prop where
  h : ∀ id En V a w, En.n0 = n0 → StOk Γ n En V a w s → (Code.region id l.toArray true).wp Γ.P (Post Γ n En Q) a w
structure RangeGoal (Γ : Ctx) (n n0 : Nat) (f : Operand) (ps : Array Tmp) (as_ body : Code) (s : St) (Q : Exit → St → Prop) : Prop where
  h : ∀ En V a w, En.n0 = n0 → StOk Γ n En V a w s → (Code.rangeFunc f ps as_ body).wp Γ.P (Post Γ n En Q) a w
structure JoinGoal (Γ : Ctx) (n n0 : Nat) (js : List Nat) (x y : Code) (s : St) (Q : Exit → St → Prop) : Prop where
  h : ∀ En V a w, En.n0 = n0 → StOk Γ n En V a w s → (Code.seq x y).wp Γ.P (Post Γ n En Q) a w
def allKR : List Prop → Prop → Prop
  | [], K => K
  | p :: r, K => p ∧ allKR r K
def allKRS : { f // f = @allKR } := by delta allKR; exact ⟨_, rfl⟩
def allK := allKRS.val
def impKR (pc : Prop) : List Prop → Prop → Prop
  | [], K => K
  | p :: r, K => (pc → p) ∧ impKR pc r K
def impKRS : { f // f = @impKR } := by delta impKR; exact ⟨_, rfl⟩
def impK := impKRS.val
def gpHas : Gp → Nat → Bool
  | [], _ => false
  | (r, _) :: g, d => Nat.beq r d || gpHas g d
def gdsRm : Gds → Nat → Gds
  | [], _ => []
  | (t, g, pc, v) :: r, d => bif Nat.beq t d || gpHas g d then gdsRm r d else (t, g, pc, v) :: gdsRm r d
def rmE : Ev → Nat → Ev
  | [], _ => []
  | (s, e) :: r, d => bif Nat.beq s d then rmE r d else (s, e) :: rmE r d
def rmKR : Ev → Nat → (Ev → Prop) → Prop
  | [], _, K => K []
  | (s, e) :: r, d, K => bif Nat.beq s d then rmKR r d K else rmKR r d fun r => K ((s, e) :: r)
def rmKRS : { f // f = @rmKR } := by delta rmKR; exact ⟨_, rfl⟩
def rmK := rmKRS.val
theorem rmK_R : @rmK = @rmKR := rmKRS.2
def gdsRmKR : Gds → Nat → (Gds → Prop) → Prop
  | [], _, K => K []
  | (t, g, pc, v) :: r, d, K => bif Nat.beq t d || gpHas g d then gdsRmKR r d K else gdsRmKR r d fun r => K ((t, g, pc, v) :: r)
def gdsRmKRS : { f // f = @gdsRmKR } := by delta gdsRmKR; exact ⟨_, rfl⟩
def gdsRmK := gdsRmKRS.val
theorem gdsRmK_R : @gdsRmK = @gdsRmKR := gdsRmKRS.2
theorem gdsRmK_eq : ∀ (E : Gds) (d : Nat) (K : Gds → Prop), gdsRmK E d K = K (gdsRm E d)
  | [], d, K => by simp only [gdsRmK_R, gdsRmKR]; rfl
  | (t, g, pc, v) :: r, d, K => by
    simp only [gdsRmK_R, gdsRmKR, gdsRm]
    simp only [← gdsRmK_R]
    cases Nat.beq t d || gpHas g d
    · simp [gdsRmK_eq r]
    · simp [gdsRmK_eq r]
def putK (n : Nat) (d : Option Nat) (v : SV) (env : Ev) (gds : Gds) (o : Op) (K : Ev → Gds → Prop) : Prop :=
  match d with
  | none => K env gds
  | some d => bif Nat.blt d n then gdsRmK gds d fun gds => K ((d, v) :: env) gds else Stuck "a slot" o
def putGK (n : Nat) (d : Option Nat) (g : Gp) (pc : Prop) (v : SV) (env : Ev) (gds : Gds) (o : Op) (K : Ev → Gds → Prop) : Prop :=
  match d with
  | none => K env gds
  | some d => bif Nat.blt d n && !gpHas g d then rmK env d fun env => gdsRmK gds d fun gds => K env ((d, g, pc, v) :: gds) else Stuck "a slot" o
def gpOf (env : Ev) (gds : Gds) (r : Nat) : Gp :=
  match lk env r with
  | some _ => []
  | none => match lk gds r with
    | some (g, _, _) => g
    | none => []
def knG2 (env : Ev) (gds : Gds) (g g' : Gp) (x : Operand) : Bool := knG env gds g x || knG env gds g' x
def svG2 (env : Ev) (gds : Gds) (g g' : Gp) (x : Operand) : SV := bif knG env gds g x then svG env gds g x else svG env gds g' x
def orK (p : Prop) (d : Decidable p) (v : SV) (z : Prop) (K : SV → Prop) : Prop := match v with
  | .dc q e => K (.dc (p ∨ q) inferInstance)
  | .bl y => K (.dc (p ∨ y = true) inferInstance)
  | .ff => K (.dc p d)
  | .tt => K .tt
  | _ => z
def andK (p : Prop) (d : Decidable p) (v : SV) (z : Prop) (K : SV → Prop) : Prop := match v with
  | .dc q e => K (.dc (p ∧ q) inferInstance)
  | .bl y => K (.dc (p ∧ y = true) inferInstance)
  | .tt => K (.dc p d)
  | .ff => K .ff
  | _ => z
def mixK (p : Prop) (d : Decidable p) (va vb : SV) (z : Prop) (K : SV → Prop) : Prop := match va, vb with
  | .tt, vb => orK p d vb z K
  | va, .ff => andK p d va z K
  | _, _ => z
def pickK (env : Ev) (gds : Gds) (g : Gp) (c a b : Operand) (o : Op) (K : SV → Prop) : Prop :=
  match c with
  | .tmp r => bif knG env gds g (.tmp r) then (match svG env gds g (.tmp r) with
    | .tt => bif knG2 env gds ((r, true) :: gpOf env gds r) g a then kval (svG2 env gds ((r, true) :: gpOf env gds r) g a) K else Stuck "pick" o
    | .ff => bif knG2 env gds ((r, false) :: gpOf env gds r) g b then kval (svG2 env gds ((r, false) :: gpOf env gds r) g b) K else Stuck "pick" o
    | .dc p d => bif knG2 env gds ((r, true) :: gpOf env gds r) g a && knG2 env gds ((r, false) :: gpOf env gds r) g b then mixK p d (svG2 env gds ((r, true) :: gpOf env gds r) g a) (svG2 env gds ((r, false) :: gpOf env gds r) g b) (Stuck "pick: its sides" o) K else Stuck "pick" o
    | .bl x => bif knG2 env gds ((r, true) :: gpOf env gds r) g a && knG2 env gds ((r, false) :: gpOf env gds r) g b then mixK (x = true) inferInstance (svG2 env gds ((r, true) :: gpOf env gds r) g a) (svG2 env gds ((r, false) :: gpOf env gds r) g b) (Stuck "pick: its sides" o) K else Stuck "pick" o
    | _ => Stuck "pick" o) else Stuck "pick: its test" o
  | _ => Stuck "pick: its test" o
inductive Kd where
  | rd | eff | call | pick
def kdOf : Op → Kd
  | .alloc _ => .eff
  | .box _ _ => .eff
  | .store _ _ _ => .eff
  | .buildSlice _ _ _ => .eff
  | .makeSlice _ _ _ => .eff
  | .pick _ _ _ => .pick
  | .call c => match c.callee with
    | .value _ => .call
    | .builtin .append => .eff
    | .builtin .len => .rd
    | .builtin .cap => .rd
    | .builtin .max => .rd
    | .builtin .min => .rd
    | _ => .eff
  | .lookup _ _ _ _ => .eff
  | .mapUpdate _ _ _ _ => .eff
  | .mapEntry _ _ _ => .eff
  | .entryStore _ _ _ _ => .eff
  | .insert _ _ _ _ => .eff
  | .makeMap _ _ => .eff
  | .range _ _ => .eff
  | .next _ _ => .eff
  | .entry _ => .eff
  | .typeAssert _ _ _ _ => .eff
  | _ => .rd
def rawL (l : List Value) : List SV := l.map SV.raw
theorem rawL_den {Δ : Env0} {ρ : Rho} (l : List Value) : SV.denL Δ ρ (rawL l) = l := by unfold rawL; rw [denL_map, List.map_map]; exact (List.map_congr_left (g := id) fun x _ => by simp only [Function.comp, SV.den, id]).trans (List.map_id _)
theorem rawL_bd {m : Nat} (l : List Value) : SV.bdL m (rawL l) := bdL_mem.2 fun x hx => by obtain ⟨y, _, rfl⟩ := List.mem_map.1 hx; simp only [SV.bd]
def callK (Γ : Ctx) (sv : Operand → SV) (nx : Nat) (H : Hp) (o : Op) (K : SV → Nat → Hp → Prop) : Prop :=
  match o with
  | .call c => match c.callee with
    | .value f => match sv f with
      | .fn g caps => force (mapSV sv c.args.toList ++ caps) fun l => CallGoal Γ g l nx H K
      | .raw (.func (.func g) fst cps) => force (rawL fst.toList ++ (mapSV sv c.args.toList ++ rawL cps.toList)) fun l => CallGoal Γ g l nx H K
      | _ => Stuck "call: of what?" o
    | _ => Stuck "call" o
  | _ => Stuck "call" o
def opGo (Γ : Ctx) (n : Nat) (g : Gp) (o : Oper) (env : Ev) (gds : Gds) (nx : Nat) (H : Hp) (K : Ev → Gds → Nat → Hp → Prop) : Prop :=
  match kdOf o.op with
  | .pick => match o.op with
    | .pick c a b => pickK env gds g c a b o.op fun v => putK n o.dst v env gds o.op fun env gds => K env gds nx H
    | _ => Stuck "pick" o.op
  | .rd => bif knGs env gds g o.op.operands.toList then rd Γ (svG env gds g) H o.op (fun obs v => allK obs (putK n o.dst v env gds o.op fun env gds => K env gds nx H)) else Stuck "an operand is not known" o.op
  | .eff => bif knGs env gds g o.op.operands.toList then eff Γ (svG env gds g) nx H o.op (fun v nx H => putK n o.dst v env gds o.op fun env gds => K env gds nx H) else Stuck "an operand is not known" o.op
  | .call => bif knGs env gds g o.op.operands.toList then callK Γ (svG env gds g) nx H o.op (fun v nx H => putK n o.dst v env gds o.op fun env gds => K env gds nx H) else Stuck "an operand is not known" o.op
def litB : Bool → SV
  | true => .tt
  | false => .ff
def symGo (Γ : Ctx) (n : Nat) (g : Gp) (pc : Prop) (o : Oper) (env : Ev) (gds : Gds) (nx : Nat) (H : Hp) (K : Ev → Gds → Nat → Hp → Prop) : Prop :=
  match kdOf o.op with
  | .pick => match o.op with
    | .pick c a b => pickK env gds g c a b o.op fun v => putGK n o.dst g pc v env gds o.op fun env gds => K env gds nx H
    | _ => Stuck "pick" o.op
  | .rd => bif knGs env gds g o.op.operands.toList then rd Γ (svG env gds g) H o.op (fun obs v => impK pc obs (putGK n o.dst g pc v env gds o.op fun env gds => K env gds nx H)) else Stuck "an operand is not known" o.op
  | _ => match g with
    | [(r, w)] => (pc → opGo Γ n g o ((r, litB w) :: env) gds nx H K) ∧ (¬ pc → putGK n o.dst g pc .ff ((r, litB (!w)) :: env) gds o.op fun env gds => K env gds nx H)
    | g => (pc → opGo Γ n g o env gds nx H K) ∧ (¬ pc → putGK n o.dst g pc .ff env gds o.op fun env gds => K env gds nx H)
def guardGo (Γ : Ctx) (n : Nat) (all : List Oper) (j : Nat) (want : Bool) (o : Oper) (env : Ev) (gds : Gds) (nx : Nat) (H : Hp) (K : Ev → Gds → Nat → Hp → Prop) : Prop :=
  match nth all j with
  | some oj => match oj.dst with
    | some r => match lk env r with
      | some b => match b, want with
        | .tt, true => opGo Γ n [(r, true)] o env gds nx H K
        | .ff, false => opGo Γ n [(r, false)] o env gds nx H K
        | .tt, false => putK n o.dst (.raw undef) env gds o.op fun env gds => K env gds nx H
        | .ff, true => putK n o.dst (.raw undef) env gds o.op fun env gds => K env gds nx H
        | .dc p _, true => symGo Γ n [(r, true)] p o env gds nx H K
        | .dc p _, false => symGo Γ n [(r, false)] (¬ p) o env gds nx H K
        | .bl b, want => symGo Γ n [(r, want)] (b = want) o env gds nx H K
        | .raw v, want => v = undef ∧ putK n o.dst (.raw undef) env gds o.op fun env gds => K env gds nx H
        | _, _ => Stuck "guard" o.op
      | none => match lk gds r with
        | some (g, pc, b) => match b, want with
          | .tt, true => symGo Γ n ((r, true) :: g) pc o env gds nx H K
          | .ff, false => symGo Γ n ((r, false) :: g) pc o env gds nx H K
          | .tt, false => putK n o.dst (.raw undef) env gds o.op fun env gds => K env gds nx H
          | .ff, true => putK n o.dst (.raw undef) env gds o.op fun env gds => K env gds nx H
          | .dc p _, true => symGo Γ n ((r, true) :: g) (pc ∧ p) o env gds nx H K
          | .dc p _, false => symGo Γ n ((r, false) :: g) (pc ∧ ¬ p) o env gds nx H K
          | .bl b, want => symGo Γ n ((r, want) :: g) (pc ∧ b = want) o env gds nx H K
          | _, _ => Stuck "guard" o.op
        | none => Stuck "guard: not known" o.op
    | none => Stuck "guard" o.op
  | none => Stuck "guard" o.op
def opsVR (Γ : Ctx) (n : Nat) (all : List Oper) : List Oper → Ev → Gds → Nat → Hp → (St → Prop) → Prop
  | [], env, _, nx, H, K => K ⟨env, nx, H⟩
  | o :: r, env, gds, nx, H, K => match o.guard with
    | none => opGo Γ n [] o env gds nx H fun env gds nx H => opsVR Γ n all r env gds nx H K
    | some (j, want) => guardGo Γ n all j want o env gds nx H fun env gds nx H => opsVR Γ n all r env gds nx H K
def opsVRS : { f // f = @opsVR } := by delta opsVR; exact ⟨_, rfl⟩
def opsV := opsVRS.val
theorem opsV_R : @opsV = @opsVR := opsVRS.2
def headOf : Code → Option Nat
  | .region id _ _ => some id
  | .seq a _ => headOf a
  | .cond _ a _ => headOf a
  | .block _ a => headOf a
  | .loop a => headOf a
  | _ => none
def joinsAt (js : List Nat) (c : Code) : Bool := match js with
  | [] => false
  | js => match headOf c with
    | some i => memB js i
    | none => false
def vcR (Γ : Ctx) (n n0 : Nat) (js : List Nat) : Code → St → (Exit → St → Prop) → Prop
  | .skip, s, Q => Q .normal s
  | .region _ os false, ⟨env, nx, H⟩, Q => match os.toList with
    | l => opsV Γ n l l env [] nx H (Q .normal)
  | .region _ os true, s, Q => DrawGoal Γ n n0 os.toList s Q
  | .seq a b, s, Q => bif joinsAt js b then JoinGoal Γ n n0 js a b s Q else vcR Γ n n0 js a s fun e s => match e with
    | .normal => vcR Γ n n0 js b s Q
    | e => Q e s
  | .cond c x y, ⟨env, nx, H⟩, Q => bif knG env [] [] c then (match svG env [] [] c with
    | .tt => vcR Γ n n0 js x ⟨env, nx, H⟩ Q
    | .ff => vcR Γ n n0 js y ⟨env, nx, H⟩ Q
    | .dc p _ => (p → vcR Γ n n0 js x ⟨env, nx, H⟩ Q) ∧ (¬ p → vcR Γ n n0 js y ⟨env, nx, H⟩ Q)
    | .bl b => (b = true → vcR Γ n n0 js x ⟨env, nx, H⟩ Q) ∧ (b = false → vcR Γ n n0 js y ⟨env, nx, H⟩ Q)
    | _ => Stuck "cond" (.move c)) else Stuck "cond: not known" (.move c)
  | .block id c, s, Q => vcR Γ n n0 js c s fun e s => match e with
    | .exit i => bif Nat.beq i id then Q .normal s else Q (.exit i) s
    | e => Q e s
  | .loop c, s, Q => LoopGoal Γ n n0 c s Q
  | .exit i, s, Q => Q (.exit i) s
  | .ret, s, Q => Q .ret s
  | .rangeFunc f ps as_ body, s, Q => RangeGoal Γ n n0 f ps as_ body s Q
  | _, s, Q => Stuck "code" (.ready 0)
def vcRS : { f // f = @vcR } := by delta vcR; exact ⟨_, rfl⟩
def vc := vcRS.val
theorem vc_R : @vc = @vcR := vcRS.2
end Go.Zz
namespace Go.Zz
open Go.Px Go.RowKit
set_option linter.unusedVariables false
set_option linter.unusedSimpArgs false
set_option linter.unusedSectionVars false
theorem gpBeq_eq : ∀ {g h : Gp}, Gp.beq g h = true → g = h
  | [], [], _ => rfl
  | [], _ :: _, h => by simp [Gp.beq] at h
  | _ :: _, [], h => by simp [Gp.beq] at h
  | (a, x) :: r, (b, y) :: s, h => by
    simp only [Gp.beq, Bool.and_eq_true] at h
    obtain ⟨⟨h1, h2⟩, h3⟩ := h
    have e1 := beqT h1
    have e2 := gpBeq_eq h3
    cases x <;> cases y <;> simp at h2 <;> rw [e1, e2]
theorem PH.suf {a : Act} : ∀ {g' g : Gp}, Gp.suf g g' = true → PH a g' → PH a g
  | [], g, h, hp => by
    simp only [Gp.suf] at h
    rw [gpBeq_eq h]; exact hp
  | x :: r, g, h, hp => by
    simp only [Gp.suf, Bool.or_eq_true] at h
    rcases h with h | h
    · rw [gpBeq_eq h]; exact hp
    · exact PH.suf h fun y hy => hp y (List.mem_cons_of_mem _ hy)
theorem put_get {a : Act} {n d t : Nat} {v : Value} (hs : a.tmps.size = n) (hd : d < n) : (a.put (some d) v).tmps[t]? = if t = d then some v else a.tmps[t]? := by
  by_cases h : t = d
  · subst h; simp [Act.put, hs, hd]
  · rw [if_neg h]
    simp [Act.put, Array.getElem?_setIfInBounds_ne (Ne.symm h)]
theorem gpHas_iff {g : Gp} {d : Nat} : gpHas g d = true ↔ ∃ x ∈ g, x.1 = d := by
  induction g with
  | nil => simp [gpHas]
  | cons x r ih =>
    obtain ⟨s, b⟩ := x
    simp only [gpHas, Bool.or_eq_true, ih, List.mem_cons]
    constructor
    · rintro (h | ⟨y, hy, hd⟩)
      · exact ⟨_, .inl rfl, beqT h⟩
      · exact ⟨y, .inr hy, hd⟩
    · rintro ⟨y, rfl | hy, hd⟩
      · left; simp only at hd; subst hd; exact Nat.beq_refl _
      · exact .inr ⟨y, hy, hd⟩
theorem PH.put {a : Act} {n d : Nat} {v : Value} {g : Gp} (hs : a.tmps.size = n) (hd : d < n) (hg : gpHas g d = false) : PH (a.put (some d) v) g ↔ PH a g := by
  have h : ∀ x ∈ g, x.1 ≠ d := fun x hx e => by
    have := gpHas_iff.2 ⟨x, hx, e⟩
    rw [hg] at this; cases this
  constructor
  · intro hp x hx
    have := hp x hx
    rwa [put_get hs hd, if_neg (h x hx)] at this
  · intro hp x hx
    rw [put_get hs hd, if_neg (h x hx)]
    exact hp x hx
theorem mem_gdsRm : ∀ {gds : Gds} {d t : Nat} {g : Gp} {pc : Prop} {v : SV}, (t, g, pc, v) ∈ gdsRm gds d → (t, g, pc, v) ∈ gds ∧ t ≠ d ∧ gpHas g d = false := by
  intro gds
  induction gds with
  | nil => intro d t g pc v h; simp [gdsRm] at h
  | cons x r ih =>
    obtain ⟨s, g0, pc0, v0⟩ := x
    intro d t g pc v h
    simp only [gdsRm] at h
    cases hb : Nat.beq s d || gpHas g0 d with
    | true =>
      rw [hb] at h
      obtain ⟨h1, h2⟩ := ih h
      exact ⟨List.mem_cons_of_mem _ h1, h2⟩
    | false =>
      rw [hb] at h
      simp only [cond_false, List.mem_cons] at h
      simp only [Bool.or_eq_false_iff] at hb
      rcases h with h | h
      · simp only [Prod.mk.injEq] at h
        obtain ⟨rfl, rfl, rfl, rfl⟩ := h
        exact ⟨List.mem_cons_self .., beqF hb.1, hb.2⟩
      · obtain ⟨h1, h2⟩ := ih h
        exact ⟨List.mem_cons_of_mem _ h1, h2⟩
theorem lk_mem {α : Type _} : ∀ {l : List (Nat × α)} {t : Nat} {x : α}, lk l t = some x → (t, x) ∈ l
  | [], t, x, h => by simp [lk] at h
  | (s, e) :: r, t, x, h => by
    simp only [lk] at h
    cases h2 : Nat.beq s t with
    | true =>
      rw [h2] at h
      obtain rfl := beqT h2
      simp only [cond_true, Option.some.injEq] at h
      subst h
      exact List.mem_cons_self ..
    | false => rw [h2] at h; exact List.mem_cons_of_mem _ (lk_mem h)
theorem rmK_eq : ∀ (E : Ev) (d : Nat) (K : Ev → Prop), rmK E d K = K (rmE E d)
  | [], _, _ => rfl
  | (s, e) :: r, d, K => by
    (simp only [rmK_R, rmKR]; (try simp only [← rmK_R]); simp only [rmE])
    cases Nat.beq s d
    · simp [rmK_eq r]
    · simp [rmK_eq r]
theorem lk_rm : ∀ (E : Ev) (c d : Nat), lk (rmE E c) d = if d = c then none else lk E d
  | [], c, d => by simp [rmE, lk]
  | (s, e) :: r, c, d => by
    simp only [rmE]
    cases h : Nat.beq s c with
    | true =>
      have := beqT h; subst this
      simp only [cond_true, lk_rm r, lk]
      by_cases hd : d = s
      · subst hd; simp
      · rw [if_neg hd, if_neg hd]
        cases h2 : Nat.beq s d with
        | true => exact absurd (beqT h2).symm hd
        | false => rfl
    | false =>
      simp only [cond_false, lk, lk_rm r]
      cases h2 : Nat.beq s d with
      | true =>
        have := beqT h2; subst this
        simp [beqF h]
      | false => rfl
theorem lk_cons {α : Type _} {l : List (Nat × α)} {d t : Nat} {x : α} : lk ((d, x) :: l) t = if t = d then some x else lk l t := by
  simp only [lk]
  by_cases h : t = d
  · subst h; simp
  · rw [if_neg h]
    cases h2 : Nat.beq d t with
    | true => exact absurd (beqT h2).symm h
    | false => rfl
section
variable {Γ : Ctx} {n : Nat} {En : Ent} {V V' : Val} {a : Act} {w w' : World} {env : Ev} {gds : Gds} {nx nx' : Nat} {H H' : Hp}
theorem StOk.put (h : StOk Γ n En V a w ⟨env, nx, H⟩) {d : Nat} (hd : d < n) {v : SV} (hb : v.bd nx) : StOk Γ n En V (a.put (some d) (v.den Γ.Δ V.ρ)) w ⟨(d, v) :: env, nx, H⟩ :=
  ⟨h.dfr, by simpa [Act.put] using h.size, fun t u hu => by
    rw [put_get h.size hd]
    simp only [lk_cons] at hu
    split at hu
    · obtain rfl := Option.some.inj hu
      rename_i h1; rw [if_pos h1]; exact ⟨rfl, hb⟩
    · rename_i h1; rw [if_neg h1]; exact h.env t u hu, h.hp, h.old, h.n0⟩
theorem GdOk.put (h : GdOk Γ V nx a gds) (hs : a.tmps.size = n) {d : Nat} (hd : d < n) (u : Value) : GdOk Γ V nx (a.put (some d) u) (gdsRm gds d) :=
  ⟨fun t g pc v hm => by
    obtain ⟨h1, h2, h3⟩ := mem_gdsRm hm
    obtain ⟨q1, q2, q3, q4⟩ := h.ok t g pc v h1
    refine ⟨q1, (PH.put hs hd h3).trans q2, fun hp => ?_, fun hp => ?_⟩
    · rw [put_get hs hd, if_neg h2]; exact q3 hp
    · rw [put_get hs hd, if_neg h2]; exact q4 hp⟩
theorem StOk.putG (h : StOk Γ n En V a w ⟨env, nx, H⟩) {d : Nat} (hd : d < n) (u : Value) : StOk Γ n En V (a.put (some d) u) w ⟨rmE env d, nx, H⟩ :=
  ⟨h.dfr, by simpa [Act.put] using h.size, fun t v hv => by
    simp only [lk_rm] at hv
    split at hv
    · cases hv
    · rename_i h1; rw [put_get h.size hd, if_neg h1]; exact h.env t v hv, h.hp, h.old, h.n0⟩
theorem GdOk.putG (h : GdOk Γ V nx a gds) (hs : a.tmps.size = n) {d : Nat} (hd : d < n) {g : Gp} {pc : Prop} {v : SV} {u : Value} (hg : gpHas g d = false) (hb : v.bd nx) (hp : PH a g ↔ pc) (h1 : pc → u = v.den Γ.Δ V.ρ) (h2 : ¬ pc → u = undef) :
    GdOk Γ V nx (a.put (some d) u) ((d, g, pc, v) :: gdsRm gds d) :=
  ⟨fun t g' pc' v' hm => by
    rcases List.mem_cons.1 hm with hm | hm
    · simp only [Prod.mk.injEq] at hm
      obtain ⟨rfl, rfl, rfl, rfl⟩ := hm
      refine ⟨hb, (PH.put hs hd hg).trans hp, fun hp => ?_, fun hp => ?_⟩
      · rw [put_get hs hd, if_pos rfl, h1 hp]
      · rw [put_get hs hd, if_pos rfl, h2 hp]
    · exact (h.put hs hd u).ok t g' pc' v' hm⟩
theorem StOk.mem (h : StOk Γ n En V a w ⟨env, nx, H⟩) (hp : HpOk Γ En V' nx' H' w') (hn : nx ≤ nx') (hρ : ∀ d, d < nx → V'.ρ d = V.ρ d) : StOk Γ n En V' a w' ⟨env, nx', H'⟩ :=
  ⟨h.dfr, h.size, fun t v hv => by
    obtain ⟨h1, h2⟩ := h.env t v hv
    exact ⟨by rw [h1, den_congr (fun c hc => (hρ c hc).symm) v h2], bd_mono hn v h2⟩, hp, fun c hc => (hρ c (Nat.lt_of_lt_of_le hc h.n0)).trans (h.old c hc), Nat.le_trans h.n0 hn⟩
theorem GdOk.mem (h : GdOk Γ V nx a gds) (hn : nx ≤ nx') (hρ : ∀ d, d < nx → V'.ρ d = V.ρ d) : GdOk Γ V' nx' a gds :=
  ⟨fun t g pc v hm => by
    obtain ⟨q1, q2, q3, q4⟩ := h.ok t g pc v hm
    exact ⟨bd_mono hn v q1, q2, fun hp => by rw [q3 hp, den_congr (fun c hc => (hρ c hc).symm) v q1], q4⟩⟩
theorem sv_bd (h : StOk Γ n En V a w ⟨env, nx, H⟩) (hg : GdOk Γ V nx a gds) (g : Gp) (x : Operand) : (svG env gds g x).bd nx := by
  cases x with
  | tmp t =>
    simp only [svG]
    split
    · rename_i v hv; exact (h.env t v hv).2
    · split
      · rename_i g' pc v hv
        cases Gp.suf g' g
        · simp only [cond_false, SV.bd]
        · exact (hg.ok t g' pc v (lk_mem hv)).1
      · simp only [SV.bd]
  | const v => exact bd_ofC v
  | global g => simp only [svG, SV.bd]
  | func f => simp only [svG, SV.bd, SV.bdL]
theorem sv_eval (h : StOk Γ n En V a w ⟨env, nx, H⟩) (hg : GdOk Γ V nx a gds) {g : Gp} (hp : PH a g) {x : Operand} (hk : knG env gds g x = true) : a.eval x = (svG env gds g x).den Γ.Δ V.ρ := by
  cases x with
  | tmp t =>
    simp only [knG] at hk
    simp only [svG, Act.eval, Array.getD_eq_getD_getElem?]
    split at hk
    · rename_i v hv
      simp only [(h.env t v hv).1, Option.getD_some]
    · rename_i hn
      split at hk
      · rename_i g' pc v hv
        obtain ⟨q1, q2, q3, q4⟩ := hg.ok t g' pc v (lk_mem hv)
        simp only [hk, cond_true, q3 (q2.1 (hp.suf hk)), Option.getD_some]
      · cases hk
  | const v => simp only [svG, Act.eval, den_ofC]
  | global g => simp only [svG, Act.eval, SV.den]
  | func f => simp only [svG, Act.eval, SV.den, SV.denL]
theorem svs_eval (h : StOk Γ n En V a w ⟨env, nx, H⟩) (hg : GdOk Γ V nx a gds) {g : Gp} (hp : PH a g) : ∀ {l : List Operand}, knGs env gds g l = true → ∀ x ∈ l, a.eval x = (svG env gds g x).den Γ.Δ V.ρ
  | [], _, x, hx => by simp at hx
  | y :: r, hk, x, hx => by
    simp only [knGs, Bool.and_eq_true] at hk
    rcases List.mem_cons.1 hx with rfl | hx
    · exact sv_eval h hg hp hk.1
    · exact svs_eval h hg hp hk.2 x hx
def Cont (Γ : Ctx) (n : Nat) (En : Ent) (V0 : Val) (nx0 : Nat) (K : Ev → Gds → Nat → Hp → Prop) (Kq : Act → World → Prop) : Prop :=
  ∀ a w V env gds nx H, nx0 ≤ nx → (∀ d, d < nx0 → V.ρ d = V0.ρ d) → StOk Γ n En V a w ⟨env, nx, H⟩ → GdOk Γ V nx a gds → K env gds nx H → Kq a w
theorem putK_ok {d : Option Nat} {v : SV} {o : Op} {K : Ev → Gds → Prop} (h : putK n d v env gds o K) (hs : StOk Γ n En V a w ⟨env, nx, H⟩) (hg : GdOk Γ V nx a gds) (hb : v.bd nx) :
    ∃ env' gds', StOk Γ n En V (a.put d (v.den Γ.Δ V.ρ)) w ⟨env', nx, H⟩ ∧ GdOk Γ V nx (a.put d (v.den Γ.Δ V.ρ)) gds' ∧ K env' gds' := by
  unfold putK at h
  split at h
  · exact ⟨env, gds, hs, hg, h⟩
  · rename_i d
    cases hd : Nat.blt d n with
    | false => rw [hd] at h; exact h.no.elim
    | true =>
      rw [hd] at h
      simp only [cond_true, gdsRmK_eq] at h
      have hd : d < n := by simpa [Nat.blt_eq] using hd
      exact ⟨_, _, hs.put hd hb, hg.put hs.size hd _, h⟩
theorem putGK_ok {d : Option Nat} {g : Gp} {pc : Prop} {v : SV} {o : Op} {K : Ev → Gds → Prop} {u : Value} (h : putGK n d g pc v env gds o K) (hs : StOk Γ n En V a w ⟨env, nx, H⟩) (hg : GdOk Γ V nx a gds) (hb : v.bd nx)
    (hp : PH a g ↔ pc) (h1 : pc → u = v.den Γ.Δ V.ρ) (h2 : ¬ pc → u = undef) :
    ∃ env' gds', StOk Γ n En V (a.put d u) w ⟨env', nx, H⟩ ∧ GdOk Γ V nx (a.put d u) gds' ∧ K env' gds' := by
  unfold putGK at h
  split at h
  · exact ⟨env, gds, hs, hg, h⟩
  · rename_i d
    cases hd : Nat.blt d n && !gpHas g d with
    | false => rw [hd] at h; exact h.no.elim
    | true =>
      rw [hd] at h
      simp only [cond_true, rmK_eq, gdsRmK_eq] at h
      simp only [Bool.and_eq_true, Bool.not_eq_true'] at hd
      have hd1 : d < n := by simpa [Nat.blt_eq] using hd.1
      exact ⟨_, _, hs.putG hd1 u, hg.putG hs.size hd1 hd.2 hb hp h1 h2, h⟩
theorem orK_ok {p : Prop} {d : Decidable p} {v : SV} {z : Prop} {L : SV → Prop} (h : orK p d v z L) (Δ : Env0) (ρ : Rho) : z ∨ ∃ u b, L u ∧ v.den Δ ρ = .bool b ∧ u.den Δ ρ = .bool (decide p || b) ∧ ∀ m, u.bd m := by
  unfold orK at h
  split at h
  · rename_i q e
    refine .inr ⟨_, decide q, h, by simp only [SV.den], ?_, fun m => by simp only [SV.bd]⟩
    simp only [SV.den]; congr 1; rw [Bool.eq_iff_iff]; simp
  · rename_i y
    refine .inr ⟨_, y, h, by simp only [SV.den], ?_, fun m => by simp only [SV.bd]⟩
    simp only [SV.den]; congr 1; rw [Bool.eq_iff_iff]; simp
  · exact .inr ⟨_, false, h, by simp only [SV.den], by simp only [SV.den, Bool.or_false], fun m => by simp only [SV.bd]⟩
  · exact .inr ⟨_, true, h, by simp only [SV.den], by simp only [SV.den, Bool.or_true], fun m => by simp only [SV.bd]⟩
  · exact .inl h
theorem andK_ok {p : Prop} {d : Decidable p} {v : SV} {z : Prop} {L : SV → Prop} (h : andK p d v z L) (Δ : Env0) (ρ : Rho) : z ∨ ∃ u b, L u ∧ v.den Δ ρ = .bool b ∧ u.den Δ ρ = .bool (decide p && b) ∧ ∀ m, u.bd m := by
  unfold andK at h
  split at h
  · rename_i q e
    refine .inr ⟨_, decide q, h, by simp only [SV.den], ?_, fun m => by simp only [SV.bd]⟩
    simp only [SV.den]; congr 1; rw [Bool.eq_iff_iff]; simp
  · rename_i y
    refine .inr ⟨_, y, h, by simp only [SV.den], ?_, fun m => by simp only [SV.bd]⟩
    simp only [SV.den]; congr 1; rw [Bool.eq_iff_iff]; simp
  · exact .inr ⟨_, true, h, by simp only [SV.den], by simp only [SV.den, Bool.and_true], fun m => by simp only [SV.bd]⟩
  · exact .inr ⟨_, false, h, by simp only [SV.den], by simp only [SV.den, Bool.and_false], fun m => by simp only [SV.bd]⟩
  · exact .inl h
theorem mixK_ok {p : Prop} {d : Decidable p} {va vb : SV} {z : Prop} {L : SV → Prop} (h : mixK p d va vb z L) (Δ : Env0) (ρ : Rho) : z ∨ ∃ u, L u ∧ (p → u.den Δ ρ = va.den Δ ρ) ∧ (¬ p → u.den Δ ρ = vb.den Δ ρ) ∧ ∀ m, u.bd m := by
  unfold mixK at h
  split at h
  · rcases orK_ok h Δ ρ with h | ⟨u, b, h1, h2, h3, h4⟩
    · exact .inl h
    · refine .inr ⟨u, h1, fun hp => ?_, fun hp => ?_, h4⟩
      · rw [h3]; simp [hp, SV.den]
      · rw [h3, h2]; simp [hp]
  · rcases andK_ok h Δ ρ with h | ⟨u, b, h1, h2, h3, h4⟩
    · exact .inl h
    · refine .inr ⟨u, h1, fun hp => ?_, fun hp => ?_, h4⟩
      · rw [h3, h2]; simp [hp]
      · rw [h3]; simp [hp, SV.den]
  · exact .inl h
theorem gpOf_PH (hs : StOk Γ n En V a w ⟨env, nx, H⟩) {g : Gp} (hp : PH a g) {r : Nat} (hk : knG env gds g (.tmp r) = true) : PH a (gpOf env gds r) := by
  simp only [knG] at hk
  unfold gpOf
  cases h1 : lk env r with
  | some v => intro x hx; simp at hx
  | none =>
    rw [h1] at hk
    cases h2 : lk gds r with
    | none => rw [h2] at hk; cases hk
    | some y =>
      obtain ⟨g', pc, v⟩ := y
      rw [h2] at hk
      exact hp.suf hk
theorem sv2_eval (hs : StOk Γ n En V a w ⟨env, nx, H⟩) (hg : GdOk Γ V nx a gds) {g g' : Gp} (hp : PH a g) (hp' : PH a g') {x : Operand} (hk : knG2 env gds g g' x = true) : a.eval x = (svG2 env gds g g' x).den Γ.Δ V.ρ := by
  unfold svG2
  cases hq : knG env gds g x with
  | true => simp only [cond_true]; exact sv_eval hs hg hp hq
  | false =>
    simp only [knG2, hq, Bool.false_or] at hk
    simp only [cond_false]
    exact sv_eval hs hg hp' hk
theorem sv2_bd (hs : StOk Γ n En V a w ⟨env, nx, H⟩) (hg : GdOk Γ V nx a gds) (g g' : Gp) (x : Operand) : (svG2 env gds g g' x).bd nx := by
  unfold svG2
  cases knG env gds g x
  · exact sv_bd hs hg _ _
  · exact sv_bd hs hg _ _
theorem pickK_ok (hs : StOk Γ n En V a w ⟨env, nx, H⟩) (hg : GdOk Γ V nx a gds) {g : Gp} {c x y : Operand} {o : Op} {K : SV → Prop} (h : pickK env gds g c x y o K) :
    ∃ v, v.bd nx ∧ K v ∧ (PH a g → ∀ oper : Oper, oper.op = .pick c x y → ∀ w, (execOp a.eval oper).run Γ.P w = .ok (.value (v.den Γ.Δ V.ρ)) w) := by
  unfold pickK at h
  split at h
  · rename_i r
    cases hkr : knG env gds g (.tmp r) with
    | false => rw [hkr] at h; exact h.no.elim
    | true =>
      rw [hkr] at h
      simp only [cond_true] at h
      have hr : PH a g → a.eval (.tmp r) = (svG env gds g (.tmp r)).den Γ.Δ V.ρ := fun hp => sv_eval hs hg hp hkr
      have hpath : ∀ {b : Bool}, PH a g → (svG env gds g (.tmp r)).den Γ.Δ V.ρ = .bool b → PH a ((r, b) :: gpOf env gds r) := fun {b} hp hb z hz => by
        rcases List.mem_cons.1 hz with rfl | hz
        · have h1 := hr hp
          rw [hb] at h1
          simp only [Act.eval, Array.getD_eq_getD_getElem?] at h1
          cases hq : a.tmps[r]? with
          | none => rw [hq] at h1; simp [undef] at h1
          | some u => rw [hq] at h1; simpa using h1
        · exact gpOf_PH hs hp hkr z hz
      have fin : ∀ {b : Bool} {v : SV}, (PH a g → (svG env gds g (.tmp r)).den Γ.Δ V.ρ = .bool b) → (PH a g → v.den Γ.Δ V.ρ = if b then a.eval x else a.eval y) → (PH a g → ∀ oper : Oper, oper.op = .pick (.tmp r) x y → ∀ w, (execOp a.eval oper).run Γ.P w = .ok (.value (v.den Γ.Δ V.ρ)) w) := fun {b v} h1 h2 hp oper hop w => by
        have e := (hr hp).trans (h1 hp)
        rw [h2 hp]
        cases b <;> simp [execOp, hop, e, asBool]
      split at h
      · rename_i hq
        cases hk2 : knG2 env gds ((r, true) :: gpOf env gds r) g x with
        | false => rw [hk2] at h; exact h.no.elim
        | true =>
          rw [hk2] at h
          simp only [cond_true, kval_eq] at h
          refine ⟨_, sv2_bd hs hg _ _ _, h, fin (b := true) (fun _ => by rw [hq, SV.den]) fun hp => ?_⟩
          simp only [if_true]
          exact (sv2_eval hs hg (hpath hp (by rw [hq, SV.den])) hp hk2).symm
      · rename_i hq
        cases hk2 : knG2 env gds ((r, false) :: gpOf env gds r) g y with
        | false => rw [hk2] at h; exact h.no.elim
        | true =>
          rw [hk2] at h
          simp only [cond_true, kval_eq] at h
          refine ⟨_, sv2_bd hs hg _ _ _, h, fin (b := false) (fun _ => by rw [hq, SV.den]) fun hp => ?_⟩
          simp only [Bool.false_eq_true, if_false]
          exact (sv2_eval hs hg (hpath hp (by rw [hq, SV.den])) hp hk2).symm
      · rename_i p d hq
        cases hk2 : knG2 env gds ((r, true) :: gpOf env gds r) g x && knG2 env gds ((r, false) :: gpOf env gds r) g y with
        | false => rw [hk2] at h; exact h.no.elim
        | true =>
          rw [hk2] at h
          simp only [cond_true] at h
          simp only [Bool.and_eq_true] at hk2
          rcases mixK_ok h Γ.Δ V.ρ with h | ⟨u, h1, h2, h3, h4⟩
          · exact h.no.elim
          · refine ⟨u, h4 nx, h1, fin (b := decide p) (fun _ => by rw [hq, SV.den]) fun hp => ?_⟩
            by_cases hpp : p
            · rw [h2 hpp, if_pos (by simpa using hpp)]
              exact (sv2_eval hs hg (hpath hp (by rw [hq, SV.den]; simp [hpp])) hp hk2.1).symm
            · rw [h3 hpp, if_neg (by simpa using hpp)]
              exact (sv2_eval hs hg (hpath hp (by rw [hq, SV.den]; simp [hpp])) hp hk2.2).symm
      · rename_i b hq
        cases hk2 : knG2 env gds ((r, true) :: gpOf env gds r) g x && knG2 env gds ((r, false) :: gpOf env gds r) g y with
        | false => rw [hk2] at h; exact h.no.elim
        | true =>
          rw [hk2] at h
          simp only [cond_true] at h
          simp only [Bool.and_eq_true] at hk2
          rcases mixK_ok h Γ.Δ V.ρ with h | ⟨u, h1, h2, h3, h4⟩
          · exact h.no.elim
          · refine ⟨u, h4 nx, h1, fin (b := b) (fun _ => by rw [hq, SV.den]) fun hp => ?_⟩
            by_cases hpp : b = true
            · rw [h2 hpp, if_pos hpp]
              exact (sv2_eval hs hg (hpath hp (by rw [hq, SV.den, hpp])) hp hk2.1).symm
            · rw [h3 hpp, if_neg hpp]
              exact (sv2_eval hs hg (hpath hp (by rw [hq, SV.den]; simp at hpp; rw [hpp])) hp hk2.2).symm
      · exact h.no.elim
  · exact h.no.elim
end
end Go.Zz
namespace Go.Zz
open Go.Px Go.RowKit
set_option linter.unusedVariables false
set_option linter.unusedSimpArgs false
set_option linter.unusedSectionVars false
theorem allK_ok {obs : List Prop} {K : Prop} (h : allK obs K) : AllP obs ∧ K := by
  induction obs with
  | nil => exact ⟨trivial, h⟩
  | cons p r ih => obtain ⟨h1, h2⟩ := h; obtain ⟨h3, h4⟩ := ih h2; exact ⟨AllP_cons.2 ⟨h1, h3⟩, h4⟩
theorem impK_ok {pc : Prop} {obs : List Prop} {K : Prop} (h : impK pc obs K) : (pc → AllP obs) ∧ K := by
  induction obs with
  | nil => exact ⟨fun _ => trivial, h⟩
  | cons p r ih => obtain ⟨h1, h2⟩ := h; obtain ⟨h3, h4⟩ := ih h2; exact ⟨fun hp => AllP_cons.2 ⟨h1 hp, h3 hp⟩, h4⟩
section
variable {Γ : Ctx} {n : Nat} {En : Ent} {V V' : Val} {a : Act} {w w' : World} {env : Ev} {gds : Gds} {nx nx' : Nat} {H H' : Hp}
theorem rd_nosel {sv : Operand → SV} {op : Op} {K : List Prop → SV → Prop} (h : rd Γ sv H op K) : ∀ cs b, op ≠ .select cs b := by
  rintro cs b rfl
  simp only [rd] at h
  exact h.no
theorem eff_nosel {sv : Operand → SV} {op : Op} {K : SV → Nat → Hp → Prop} (h : eff Γ sv nx H op K) : ∀ cs b, op ≠ .select cs b := by
  rintro cs b rfl
  simp only [eff] at h
  exact h.no
theorem opGo_ok (hΓ : Γ.Ok) {g : Gp} {o : Oper} {K : Ev → Gds → Nat → Hp → Prop} (h : opGo Γ n g o env gds nx H K) (hs : StOk Γ n En V a w ⟨env, nx, H⟩) (hg : GdOk Γ V nx a gds) (hp : PH a g)
    {Kq : Act → World → Prop} (kont : Cont Γ n En V nx K Kq) (Q : Exit → Act → World → Prop) : o.wp Γ.P a w Kq Q := by
  unfold opGo at h
  split at h
  · split at h
    · rename_i c x y hop
      obtain ⟨v, hb, hK, hrun⟩ := pickK_ok hs hg h
      obtain ⟨env', gds', h1, h2, h3⟩ := putK_ok hK hs hg hb
      exact wp_of_run (hrun hp o hop w) (.inl rfl) Kq Q (kont _ _ _ _ _ _ _ (Nat.le_refl _) (fun _ _ => rfl) h1 h2 h3)
    · exact h.no.elim
  · cases hk : knGs env gds g o.op.operands.toList with
    | false => rw [hk] at h; exact h.no.elim
    | true =>
      rw [hk] at h
      simp only [cond_true] at h
      obtain ⟨obs, v, hb, hK, hrun⟩ := rd_sound (En := En) (V := V) (nx := nx) (oper := o) hΓ hs.hp.hb (fun x _ => sv_bd hs hg g x) h
      obtain ⟨ho, hK⟩ := allK_ok hK
      obtain ⟨env', gds', h1, h2, h3⟩ := putK_ok hK hs hg hb
      have hcg : execOp a.eval o = execOp (fun x => (svG env gds g x).den Γ.Δ V.ρ) o := execOp_congr o (fun cs b e => rd_nosel h cs b e) fun x hx => svs_eval hs hg hp hk x (by simpa using hx)
      exact wp_of_run (by rw [hcg]; exact hrun ho V.β w hs.hp.hr) (.inl rfl) Kq Q (kont _ _ _ _ _ _ _ (Nat.le_refl _) (fun _ _ => rfl) h1 h2 h3)
  · cases hk : knGs env gds g o.op.operands.toList with
    | false => rw [hk] at h; exact h.no.elim
    | true =>
      rw [hk] at h
      simp only [cond_true] at h
      obtain ⟨V', v, nx', H', w', nxt, hnx, hrun, hn, hρ, hb, hp', hK⟩ := eff_sound (oper := o) hΓ hs.hp (fun x _ => sv_bd hs hg g x) h
      obtain ⟨env', gds', h1, h2, h3⟩ := putK_ok hK (hs.mem hp' hn hρ) (hg.mem hn hρ) hb
      have hcg : execOp a.eval o = execOp (fun x => (svG env gds g x).den Γ.Δ V.ρ) o := execOp_congr o (fun cs b e => eff_nosel h cs b e) fun x hx => svs_eval hs hg hp hk x (by simpa using hx)
      refine wp_of_run (by rw [hcg]; exact hrun) ?_ Kq Q (kont _ _ _ _ _ _ _ hn hρ h1 h2 h3)
      rcases hnx with h4 | ⟨h4, rfl⟩
      · exact .inl h4
      · exact .inr ⟨h4, by simp only [SV.den]⟩
  · cases hk : knGs env gds g o.op.operands.toList with
    | false => rw [hk] at h; exact h.no.elim
    | true =>
      rw [hk] at h
      simp only [cond_true] at h
      unfold callK at h
      split at h
      · rename_i c hop
        split at h
        · rename_i f hc
          have hev := fun x hx => svs_eval hs hg hp hk x hx
          have hops : o.op.operands.toList = f :: c.args.toList := by rw [hop]; simp [Op.operands, Call.operands, hc]
          have main : ∀ (fn : FuncId) (fst cps : Array Value) (L : List SV), a.eval f = .func (.func fn) fst cps → fst ++ c.args.map a.eval ++ cps = (SV.denL Γ.Δ V.ρ L).toArray → SV.bdL nx L → CallGoal Γ fn L nx H (fun v nx H => putK n o.dst v env gds o.op fun env gds => K env gds nx H) → o.wp Γ.P a w Kq Q := fun fn fst cps L hfe hall hbl h => by
            obtain ⟨R, hR, hback⟩ := h.h En V w hs.hp hs.n0 hbl
            have fin : ∀ v w', R v w' → Kq (a.put o.dst v) w' := fun v w' hr => by
              obtain ⟨V', sv, nx', H', rfl, hn, hρ, hb, hp', hK⟩ := hback v w' hr
              obtain ⟨env', gds', h1, h2, h3⟩ := putK_ok hK (hs.mem hp' hn hρ) (hg.mem hn hρ) hb
              exact kont _ _ _ _ _ _ _ hn hρ h1 h2 h3
            rcases hR with ⟨hent, hcalls⟩ | ⟨v, w', hrun, hr⟩
            · obtain ⟨fd, e1, e2, e3⟩ := hent
              have h4 : fd.body ≠ none := by intro hb; rw [hb] at e3; cases e3
              have h5 : ¬ fd.name = "runtime.NumGoroutine" := by simpa using e2
              have hrun : (execOp a.eval o).run Γ.P w = .ok (.enter fn (SV.denL Γ.Δ V.ρ L).toArray) w := by
                rw [← hall]
                simp [execOp, hop, resolve, hc, Deferred.ofValue, hfe, invoke, callFunc, e1, h5, h4]
              unfold Oper.wp
              rw [hrun]
              refine hcalls.mono fun e w' he => ?_
              obtain ⟨v, rfl, hr⟩ := he
              exact fin v w' hr
            · refine wp_of_run (v := v) (w2 := w') ?_ (.inl rfl) Kq Q (fin v w' hr)
              rw [← hall] at hrun
              simp [execOp, hop, resolve, hc, Deferred.ofValue, hfe, invoke] at hrun ⊢
              exact hrun
          have hargs : c.args.map a.eval = (SV.denL Γ.Δ V.ρ (mapSV (svG env gds g) c.args.toList)).toArray := by
            rw [mapSV_map, denL_map]
            apply Array.ext'
            simp only [Array.toList_map, List.map_map]
            exact List.map_congr_left fun x hx => hev x (by rw [hops]; exact List.mem_cons_of_mem _ hx)
          have hba : SV.bdL nx (mapSV (svG env gds g) c.args.toList) := by
            rw [bdL_mem]
            intro x hx
            rw [mapSV_map] at hx
            obtain ⟨y, _, rfl⟩ := List.mem_map.1 hx
            exact sv_bd hs hg g y
          split at h
          · rename_i fn caps hf
            rw [force_eq] at h
            refine main fn #[] (SV.denL Γ.Δ V.ρ caps).toArray _ (by rw [hev f (by rw [hops]; exact List.mem_cons_self ..), hf, SV.den]) (by rw [hargs, denL_app]; simp) ?_ h
            rw [bdL_mem]
            intro x hx
            rcases List.mem_append.1 hx with hx | hx
            · exact bdL_mem.1 hba x hx
            · have := sv_bd hs hg g f
              rw [hf] at this
              simp only [SV.bd] at this
              exact bdL_mem.1 this x hx
          · rename_i fn fst cps hf
            rw [force_eq] at h
            refine main fn fst cps _ (by rw [hev f (by rw [hops]; exact List.mem_cons_self ..), hf, SV.den]) (by rw [hargs, denL_app, denL_app, rawL_den, rawL_den]; apply Array.ext'; simp) ?_ h
            rw [bdL_mem]
            intro x hx
            rcases List.mem_append.1 hx with hx | hx
            · exact bdL_mem.1 (rawL_bd _) x hx
            · rcases List.mem_append.1 hx with hx | hx
              · exact bdL_mem.1 hba x hx
              · exact bdL_mem.1 (rawL_bd _) x hx
          · exact h.no.elim
        · exact h.no.elim
      · exact h.no.elim
theorem litB_den (b : Bool) (Δ : Env0) (ρ : Rho) : (litB b).den Δ ρ = .bool b := by cases b <;> simp only [litB, SV.den]
theorem StOk.lit (h : StOk Γ n En V a w ⟨env, nx, H⟩) {r : Nat} {b : Bool} (hr : a.tmps[r]? = some (.bool b)) : StOk Γ n En V a w ⟨(r, litB b) :: env, nx, H⟩ :=
  ⟨h.dfr, h.size, fun t v hv => by
    simp only [lk_cons] at hv
    split at hv
    · rename_i ht
      obtain rfl := Option.some.inj hv
      subst ht
      exact ⟨by rw [hr, litB_den], by cases b <;> simp only [litB, SV.bd]⟩
    · exact h.env t v hv, h.hp, h.old, h.n0⟩
theorem symGo_ok (hΓ : Γ.Ok) {g : Gp} {pc : Prop} {o : Oper} {K : Ev → Gds → Nat → Hp → Prop} (h : symGo Γ n g pc o env gds nx H K) (hs : StOk Γ n En V a w ⟨env, nx, H⟩) (hg : GdOk Γ V nx a gds) (hp : PH a g ↔ pc) {wt : Bool} (hw : wt = true ↔ PH a g)
    (hbool : ∀ r b, g = [(r, b)] → ¬ PH a g → a.tmps[r]? = some (.bool (!b)))
    {Kq : Act → World → Prop} (kont : Cont Γ n En V nx K Kq) (Q : Exit → Act → World → Prop) : if wt then o.wp Γ.P a w Kq Q else Kq (a.put o.dst undef) w := by
  have skip : ∀ {env : Ev}, StOk Γ n En V a w ⟨env, nx, H⟩ → ¬ pc → (putGK n o.dst g pc .ff env gds o.op fun env gds => K env gds nx H) → Kq (a.put o.dst undef) w := fun hs hnp hq => by
    obtain ⟨env', gds', h1, h2, h3⟩ := putGK_ok (u := undef) hq hs hg (by simp only [SV.bd]) hp (fun h => absurd h hnp) (fun _ => rfl)
    exact kont _ _ _ _ _ _ _ (Nat.le_refl _) (fun _ _ => rfl) h1 h2 h3
  unfold symGo at h
  split at h
  · split at h
    · rename_i c x y hop
      obtain ⟨v, hb, hK, hrun⟩ := pickK_ok hs hg h
      by_cases hpc : pc
      · rw [if_pos (hw.2 (hp.2 hpc))]
        obtain ⟨env', gds', h1, h2, h3⟩ := putGK_ok (u := v.den Γ.Δ V.ρ) hK hs hg hb hp (fun _ => rfl) (fun h => absurd hpc h)
        exact wp_of_run (hrun (hp.2 hpc) o hop w) (.inl rfl) Kq Q (kont _ _ _ _ _ _ _ (Nat.le_refl _) (fun _ _ => rfl) h1 h2 h3)
      · rw [if_neg (fun h => hpc (hp.1 (hw.1 h)))]
        obtain ⟨env', gds', h1, h2, h3⟩ := putGK_ok (u := undef) hK hs hg hb hp (fun h => absurd h hpc) (fun _ => rfl)
        exact kont _ _ _ _ _ _ _ (Nat.le_refl _) (fun _ _ => rfl) h1 h2 h3
    · exact h.no.elim
  · cases hk : knGs env gds g o.op.operands.toList with
    | false => rw [hk] at h; exact h.no.elim
    | true =>
      rw [hk] at h
      simp only [cond_true] at h
      obtain ⟨obs, v, hb, hK, hrun⟩ := rd_sound (En := En) (V := V) (nx := nx) (oper := o) hΓ hs.hp.hb (fun x _ => sv_bd hs hg g x) h
      obtain ⟨ho, hK⟩ := impK_ok hK
      by_cases hpc : pc
      · rw [if_pos (hw.2 (hp.2 hpc))]
        obtain ⟨env', gds', h1, h2, h3⟩ := putGK_ok (u := v.den Γ.Δ V.ρ) hK hs hg hb hp (fun _ => rfl) (fun h => absurd hpc h)
        have hcg : execOp a.eval o = execOp (fun x => (svG env gds g x).den Γ.Δ V.ρ) o := execOp_congr o (fun cs b e => rd_nosel h cs b e) fun x hx => svs_eval hs hg (hp.2 hpc) hk x (by simpa using hx)
        exact wp_of_run (by rw [hcg]; exact hrun (ho hpc) V.β w hs.hp.hr) (.inl rfl) Kq Q (kont _ _ _ _ _ _ _ (Nat.le_refl _) (fun _ _ => rfl) h1 h2 h3)
      · rw [if_neg (fun h => hpc (hp.1 (hw.1 h)))]
        obtain ⟨env', gds', h1, h2, h3⟩ := putGK_ok (u := undef) hK hs hg hb hp (fun h => absurd h hpc) (fun _ => rfl)
        exact kont _ _ _ _ _ _ _ (Nat.le_refl _) (fun _ _ => rfl) h1 h2 h3
  · split at h
    · rename_i r b
      by_cases hpc : pc
      · rw [if_pos (hw.2 (hp.2 hpc))]
        have hph := hp.2 hpc
        exact opGo_ok hΓ (h.1 hpc) (hs.lit (hph (r, b) (List.mem_cons_self ..))) hg hph kont Q
      · rw [if_neg (fun h => hpc (hp.1 (hw.1 h)))]
        exact skip (hs.lit (hbool r b rfl fun h => hpc (hp.1 h))) hpc (h.2 hpc)
    · by_cases hpc : pc
      · rw [if_pos (hw.2 (hp.2 hpc))]
        exact opGo_ok hΓ (h.1 hpc) hs hg (hp.2 hpc) kont Q
      · rw [if_neg (fun h => hpc (hp.1 (hw.1 h)))]
        exact skip hs hpc (h.2 hpc)
theorem PH.one {r : Nat} {b : Bool} : PH a [(r, b)] ↔ a.tmps[r]? = some (.bool b) := by simp [PH]
theorem PH.cons {r : Nat} {b : Bool} {g : Gp} : PH a ((r, b) :: g) ↔ a.tmps[r]? = some (.bool b) ∧ PH a g := by simp [PH]
theorem wanted_at {l : List Oper} {o : Oper} {j r : Nat} {want : Bool} {oj : Oper} (hgd : o.guard = some (j, want)) (hj : nth l j = some oj) (hd : oj.dst = some r) :
    Region.wanted o (yielded l.toArray a.tmps) = true ↔ a.tmps[r]? = some (.bool want) := by
  rw [nth_eq] at hj
  simp only [Region.wanted, hgd, yielded, List.getElem?_toArray, hj, Option.bind_some, hd]
  cases h : a.tmps[r]? with
  | none => simp
  | some v => cases v <;> simp
theorem guardGo_ok (hΓ : Γ.Ok) {l : List Oper} {j : Nat} {want : Bool} {o : Oper} {K : Ev → Gds → Nat → Hp → Prop} (hgd : o.guard = some (j, want)) (h : guardGo Γ n l j want o env gds nx H K) (hs : StOk Γ n En V a w ⟨env, nx, H⟩) (hg : GdOk Γ V nx a gds)
    {Kq : Act → World → Prop} (kont : Cont Γ n En V nx K Kq) (Q : Exit → Act → World → Prop) : if Region.wanted o (yielded l.toArray a.tmps) then o.wp Γ.P a w Kq Q else Kq (a.put o.dst undef) w := by
  unfold guardGo at h
  split at h
  · rename_i oj hj
    split at h
    · rename_i r hr
      have hw := wanted_at (a := a) hgd hj hr
      split at h
      · rename_i b hb
        obtain ⟨h1, h2⟩ := hs.env r b hb
        have run : ∀ (hwant : a.tmps[r]? = some (.bool want)), opGo Γ n [(r, want)] o env gds nx H K → if Region.wanted o (yielded l.toArray a.tmps) then o.wp Γ.P a w Kq Q else Kq (a.put o.dst undef) w := fun hwant h => by
          rw [if_pos (hw.2 hwant)]
          exact opGo_ok hΓ h hs hg (PH.one.2 hwant) kont Q
        have skip : ∀ (hwant : ¬ a.tmps[r]? = some (.bool want)), (putK n o.dst (.raw undef) env gds o.op fun env gds => K env gds nx H) → if Region.wanted o (yielded l.toArray a.tmps) then o.wp Γ.P a w Kq Q else Kq (a.put o.dst undef) w := fun hwant h => by
          rw [if_neg (fun h => hwant (hw.1 h))]
          obtain ⟨env', gds', h1, h2, h3⟩ := putK_ok h hs hg (by simp only [SV.bd])
          simp only [SV.den] at h1 h2
          exact kont _ _ _ _ _ _ _ (Nat.le_refl _) (fun _ _ => rfl) h1 h2 h3
        have sym : ∀ (w0 : Bool) (pc : Prop), want = w0 → (a.tmps[r]? = some (.bool w0) ↔ pc) → (¬ a.tmps[r]? = some (.bool w0) → a.tmps[r]? = some (.bool (!w0))) → symGo Γ n [(r, w0)] pc o env gds nx H K → if Region.wanted o (yielded l.toArray a.tmps) then o.wp Γ.P a w Kq Q else Kq (a.put o.dst undef) w := fun w0 pc e h1 h2 h => by
          subst e
          refine symGo_ok hΓ h hs hg (PH.one.trans h1) (wt := Region.wanted o (yielded l.toArray a.tmps)) (hw.trans PH.one.symm) (fun r' b' e hn => ?_) kont Q
          simp only [List.cons.injEq, Prod.mk.injEq, and_true] at e
          obtain ⟨rfl, rfl⟩ := e
          exact h2 fun h => hn (PH.one.2 h)
        split at h
        · exact run (by rw [h1, SV.den]) h
        · exact run (by rw [h1, SV.den]) h
        · exact skip (by rw [h1, SV.den]; simp) h
        · exact skip (by rw [h1, SV.den]; simp) h
        · rename_i p d
          refine sym true p rfl (by rw [h1, SV.den]; simp) (fun hn => ?_) h
          rw [h1, SV.den] at hn ⊢
          simp at hn; simp [hn]
        · rename_i p d
          refine sym false (¬ p) rfl (by rw [h1, SV.den]; simp) (fun hn => ?_) h
          rw [h1, SV.den] at hn ⊢
          simp at hn; simp [hn]
        · rename_i b
          refine sym want (b = want) rfl (by rw [h1, SV.den]; simp) (fun hn => ?_) h
          rw [h1, SV.den] at hn ⊢
          simp at hn
          cases b <;> cases want <;> simp at hn ⊢
        · exact skip (by rw [h1, SV.den, h.1]; simp [undef]) h.2
        · exact h.no.elim
      · split at h
        · rename_i g pc b hb
          obtain ⟨q1, q2, q3, q4⟩ := hg.ok r g pc b (lk_mem hb)
          have skip : ∀ (hwant : ¬ a.tmps[r]? = some (.bool want)), (putK n o.dst (.raw undef) env gds o.op fun env gds => K env gds nx H) → if Region.wanted o (yielded l.toArray a.tmps) then o.wp Γ.P a w Kq Q else Kq (a.put o.dst undef) w := fun hwant h => by
            rw [if_neg (fun h => hwant (hw.1 h))]
            obtain ⟨env', gds', h1, h2, h3⟩ := putK_ok h hs hg (by simp only [SV.bd])
            simp only [SV.den] at h1 h2
            exact kont _ _ _ _ _ _ _ (Nat.le_refl _) (fun _ _ => rfl) h1 h2 h3
          have sym : ∀ (w0 : Bool) (pc' : Prop), want = w0 → (∃ x, b.den Γ.Δ V.ρ = .bool x) → (pc → (b.den Γ.Δ V.ρ = .bool w0 ↔ pc')) → (pc' → pc) → symGo Γ n ((r, w0) :: g) pc' o env gds nx H K → if Region.wanted o (yielded l.toArray a.tmps) then o.wp Γ.P a w Kq Q else Kq (a.put o.dst undef) w := fun w0 pc' e hx h1 h2 h => by
            subst e
            have hq : a.tmps[r]? = some (.bool want) ↔ pc' := by
              constructor
              · intro ht
                by_cases hpc : pc
                · rw [q3 hpc] at ht
                  exact (h1 hpc).1 (Option.some.inj ht)
                · rw [q4 hpc] at ht
                  simp [undef] at ht
              · intro hp'
                rw [q3 (h2 hp'), (h1 (h2 hp')).2 hp']
            refine symGo_ok hΓ h hs hg (pc := pc') ?_ (wt := Region.wanted o (yielded l.toArray a.tmps)) ?_ (fun r' b' e hn => ?_) kont Q
            · rw [PH.cons, hq]
              exact ⟨fun h => h.1, fun h => ⟨h, q2.2 (h2 h)⟩⟩
            · rw [hw, PH.cons, hq]
              exact ⟨fun h => ⟨h, q2.2 (h2 h)⟩, fun h => h.1⟩
            · simp only [List.cons.injEq, Prod.mk.injEq] at e
              obtain ⟨⟨rfl, rfl⟩, rfl⟩ := e
              obtain ⟨x, hx⟩ := hx
              have hpc : pc := q2.1 fun y hy => by simp at hy
              have ht := q3 hpc
              rw [hx] at ht
              rw [PH.one, ht] at hn
              rw [ht]
              cases x <;> cases want <;> simp at hn ⊢
          split at h
          · exact sym true pc rfl (by simp [SV.den]) (fun h => by simp [SV.den, h]) id h
          · exact sym false pc rfl (by simp [SV.den]) (fun h => by simp [SV.den, h]) id h
          · exact skip (fun hwant => by by_cases hpc : pc <;> simp [q3, q4, hpc, undef, SV.den] at hwant) h
          · exact skip (fun hwant => by by_cases hpc : pc <;> simp [q3, q4, hpc, undef, SV.den] at hwant) h
          · exact sym true _ rfl (by simp [SV.den]) (fun h => by simp [SV.den, h]) (fun h => h.1) h
          · exact sym false _ rfl (by simp [SV.den]) (fun h => by simp [SV.den, h]) (fun h => h.1) h
          · exact sym want _ rfl (by simp [SV.den]) (fun h => by simp [SV.den, h]) (fun h => h.1) h
          · exact h.no.elim
        · exact h.no.elim
    · exact h.no.elim
  · exact h.no.elim
theorem opsV_ok (hΓ : Γ.Ok) {l : List Oper} {Q : Exit → St → Prop} : ∀ {r : List Oper} {a : Act} {w : World} {V : Val} {env : Ev} {gds : Gds} {nx : Nat} {H : Hp}, opsV Γ n l r env gds nx H (Q .normal) → StOk Γ n En V a w ⟨env, nx, H⟩ → GdOk Γ V nx a gds →
    wpList Γ.P l.toArray (Post Γ n En Q) r a w
  | [], a, w, V, env, gds, nx, H, h, hs, hg => wpList_nil ⟨V, _, hs, h⟩
  | o :: r, a, w, V, env, gds, nx, H, h, hs, hg => by
    (simp only [opsV_R, opsVR] at h; (try simp only [← opsV_R] at h))
    refine wpList_step fun K hK => ?_
    have kont : Cont Γ n En V nx (fun env gds nx H => opsV Γ n l r env gds nx H (Q .normal)) K := fun a w V env gds nx H _ _ hs hg h => hK _ _ (opsV_ok hΓ h hs hg)
    split at h
    · rename_i hgd
      rw [wanted_none hgd, if_pos rfl]
      exact opGo_ok hΓ h hs hg (fun x hx => by simp at hx) kont _
    · rename_i j want hgd
      exact guardGo_ok hΓ hgd h hs hg kont _
theorem GdOk.nil : GdOk Γ V nx a [] := ⟨fun _ _ _ _ h => by simp at h⟩
theorem Post.mono {Q Q' : Exit → St → Prop} (h : ∀ e s, Q e s → Q' e s) {e : Exit} {a : Act} {w : World} (hp : Post Γ n En Q e a w) : Post Γ n En Q' e a w :=
  let ⟨V, s, h1, h2⟩ := hp; ⟨V, s, h1, h e s h2⟩
theorem vc_ok (hΓ : Γ.Ok) {n0 : Nat} (hn0 : En.n0 = n0) {js : List Nat} (c : Code) : ∀ {s : St} {Q : Exit → St → Prop} {V : Val} {a : Act} {w : World}, vc Γ n n0 js c s Q → StOk Γ n En V a w s → c.wp Γ.P (Post Γ n En Q) a w := by
  induction c with
  | skip => intro s Q V a w h hs; exact wp_skip ⟨V, s, hs, h⟩
  | region id os draw =>
    intro s Q V a w h hs
    obtain ⟨env, nx, H⟩ := s
    cases draw with
    | false =>
      (simp only [vc_R, vcR] at h; (try simp only [← vc_R] at h))
      have := wp_region_lit (id := id) (opsV_ok hΓ h hs GdOk.nil)
      simpa using this
    | true =>
      (simp only [vc_R, vcR] at h; (try simp only [← vc_R] at h))
      have := h.h id En V a w hn0 hs
      simpa using this
  | seq x y ihx ihy =>
    intro s Q V a w h hs
    (simp only [vc_R, vcR] at h; (try simp only [← vc_R] at h))
    cases hj : joinsAt js y with
    | true => rw [hj] at h; exact h.h En V a w hn0 hs
    | false =>
      rw [hj] at h
      simp only [cond_false] at h
      refine wp_seq (wp_mono (ihx h hs) fun e a' w' hq => ?_)
      obtain ⟨V', s', hs', hq⟩ := hq
      cases e with
      | normal => exact ihy hq hs'
      | _ => exact ⟨V', s', hs', hq⟩
  | cond c x y ihx ihy =>
    intro s Q V a w h hs
    obtain ⟨env, nx, H⟩ := s
    (simp only [vc_R, vcR] at h; (try simp only [← vc_R] at h))
    cases hk : knG env [] [] c with
    | false => rw [hk] at h; exact h.no.elim
    | true =>
      rw [hk] at h
      simp only [cond_true] at h
      have he := sv_eval hs GdOk.nil (g := []) (fun z hz => by simp at hz) hk
      split at h
      · rename_i hv
        rw [hv, SV.den] at he
        exact wp_cond he (ihx h hs)
      · rename_i hv
        rw [hv, SV.den] at he
        exact wp_cond he (ihy h hs)
      · rename_i p d hv
        rw [hv, SV.den] at he
        exact wp_cond_split he (fun hp => ihx (h.1 (by simpa using hp)) hs) (fun hp => ihy (h.2 (by simpa using hp)) hs)
      · rename_i b hv
        rw [hv, SV.den] at he
        exact wp_cond_split he (fun hp => ihx (h.1 hp) hs) (fun hp => ihy (h.2 hp) hs)
      · exact h.no.elim
  | block id c ih =>
    intro s Q V a w h hs
    (simp only [vc_R, vcR] at h; (try simp only [← vc_R] at h))
    refine wp_block (wp_mono (ih h hs) fun e a' w' hq => ?_)
    obtain ⟨V', s', hs', hq⟩ := hq
    cases e with
    | exit i =>
      simp only [Exit.inBlock]
      simp only at hq
      cases hb : Nat.beq i id with
      | true => rw [hb] at hq; rw [if_pos (beqT hb)]; exact ⟨V', s', hs', hq⟩
      | false => rw [hb] at hq; rw [if_neg (beqF hb)]; exact ⟨V', s', hs', hq⟩
    | _ => exact ⟨V', s', hs', hq⟩
  | loop c ih => intro s Q V a w h hs; (simp only [vc_R, vcR] at h; (try simp only [← vc_R] at h)); exact h.h En V a w hn0 hs
  | exit i => intro s Q V a w h hs; (simp only [vc_R, vcR] at h; (try simp only [← vc_R] at h)); exact wp_exit ⟨V, s, hs, h⟩
  | ret => intro s Q V a w h hs; (simp only [vc_R, vcR] at h; (try simp only [← vc_R] at h)); exact wp_ret ⟨V, s, hs, h⟩
  | rangeFunc f ps as_ body _ _ => intro s Q V a w h hs; (simp only [vc_R, vcR] at h; (try simp only [← vc_R] at h)); exact h.h En V a w hn0 hs
  | _ => intro s Q V a w h hs; (simp only [vc_R, vcR] at h; (try simp only [← vc_R] at h)); exact h.no.elim
end
end Go.Zz
namespace Go.Zz
open Go.Px Go.RowKit
set_option linter.unusedVariables false
set_option linter.unusedSimpArgs false
set_option linter.unusedSectionVars false
abbrev Tau := List (Nat × Option Nat)
structure Unfit (why : String) (p v : SV) : Prop where
  no : False
def idK (n0 n1 : Nat) (c c' : Nat) (τ : Tau) (z : Prop) (K : Tau → Prop) : Prop :=
  bif Nat.blt c n0 then (bif Nat.beq c c' then K τ else z) else match lk τ c with
    | some (some d) => bif Nat.beq d c' then K τ else z
    | some none => z
    | none => bif Nat.blt c n1 then K ((c, some c') :: τ) else z
def idNil (n0 n1 : Nat) (c : Nat) (τ : Tau) (z : Prop) (K : Tau → Prop) : Prop :=
  bif Nat.blt c n0 then z else match lk τ c with
    | some (some d) => z
    | some none => K τ
    | none => bif Nat.blt c n1 then K ((c, none) :: τ) else z
mutual
def mtR (n0 n1 : Nat) : SV → SV → Tau → (Tau → Prop) → Prop
  | .int k a, .int k' b, τ, K => bif keq k' k then b = a ∧ K τ else Unfit "kind" (.int k a) (.int k' b)
  | .tt, .tt, τ, K => K τ
  | .tt, .dc p _, τ, K => p ∧ K τ
  | .tt, .bl b, τ, K => b = true ∧ K τ
  | .ff, .ff, τ, K => K τ
  | .ff, .dc p _, τ, K => ¬ p ∧ K τ
  | .ff, .bl b, τ, K => b = false ∧ K τ
  | .bl a, .tt, τ, K => true = a ∧ K τ
  | .bl a, .ff, τ, K => false = a ∧ K τ
  | .bl a, .bl b, τ, K => b = a ∧ K τ
  | .bl a, .dc p d, τ, K => @decide p d = a ∧ K τ
  | .dc p _, .tt, τ, K => p ∧ K τ
  | .dc p _, .ff, τ, K => ¬ p ∧ K τ
  | .dc p _, .bl b, τ, K => (b = true ↔ p) ∧ K τ
  | .dc p _, .dc q _, τ, K => (q ↔ p) ∧ K τ
  | .str a, .str b, τ, K => b = a ∧ K τ
  | .ptr c o, .ptr c' o', τ, K => idK n0 n1 c c' τ (Unfit "place" (.ptr c o) (.ptr c' o')) fun τ => o' = o ∧ K τ
  | .elt c i sz o, .elt c' i' sz' o', τ, K => idK n0 n1 c c' τ (Unfit "place" (.elt c i sz o) (.elt c' i' sz' o')) fun τ => (i' = i ∧ sz' = sz ∧ o' = o) ∧ K τ
  | .glob g, .glob g', τ, K => g' = g ∧ K τ
  | .nilp, .nilp, τ, K => K τ
  | .sl c a k, .sl c' a' k', τ, K => idK n0 n1 c c' τ (Unfit "place" (.sl c a k) (.sl c' a' k')) fun τ => (a' = a ∧ k' = k) ∧ K τ
  | .sl c a k, .nils, τ, K => idNil n0 n1 c τ (Unfit "place" (.sl c a k) .nils) fun τ => (0 = a ∧ 0 = k) ∧ K τ
  | .sub c lo k0 sz a k, .sub c' lo' k0' sz' a' k', τ, K => idK n0 n1 c c' τ (Unfit "place" (.sl c a k) (.sl c' a' k')) fun τ => (lo' = lo ∧ k0' = k0 ∧ sz' = sz ∧ a' = a ∧ k' = k) ∧ K τ
  | .nils, .nils, τ, K => K τ
  | .mp c, .mp c', τ, K => idK n0 n1 c c' τ (Unfit "place" (.mp c) (.mp c')) K
  | .nilm, .nilm, τ, K => K τ
  | .fn f l, .fn g m, τ, K => f = g ∧ mtLR n0 n1 l m τ K
  | .nilf, .nilf, τ, K => K τ
  | .err g, .err g', τ, K => g' = g ∧ K τ
  | .ifc t v, .ifc t' v', τ, K => t' = t ∧ mtR n0 n1 v v' τ K
  | .nili, .nili, τ, K => K τ
  | .agg l, .agg m, τ, K => mtLR n0 n1 l m τ K
  | .tup l, .tup m, τ, K => mtLR n0 n1 l m τ K
  | .raw a, .raw b, τ, K => b = a ∧ K τ
  | p, v, _, _ => Unfit "another kind" p v
def mtLR (n0 n1 : Nat) : List SV → List SV → Tau → (Tau → Prop) → Prop
  | [], [], τ, K => K τ
  | p :: r, v :: s, τ, K => mtR n0 n1 p v τ fun τ => mtLR n0 n1 r s τ K
  | l, m, _, _ => Unfit "another length" (.tup l) (.tup m)
end
def mtRS : { f // f = @mtR } := by delta mtR; exact ⟨_, rfl⟩
def mt := mtRS.val
theorem mt_R : @mt = @mtR := mtRS.2
def mtLRS : { f // f = @mtLR } := by delta mtLR; exact ⟨_, rfl⟩
def mtL := mtLRS.val
theorem mtL_R : @mtL = @mtLR := mtLRS.2
structure Ag (n0 : Nat) (τ : Tau) (ρ ρt : Rho) : Prop where
  old : ∀ c, c < n0 → ρt c = ρ c
  new : ∀ c y, lk τ c = some y → ρt c = y.bind ρ
structure TauOk (n0 n1 : Nat) (τ : Tau) : Prop where
  rng : ∀ c y, lk τ c = some y → n0 ≤ c ∧ c < n1
def Ext (τ τ' : Tau) : Prop := ∀ c y, lk τ c = some y → lk τ' c = some y
theorem Ext.refl (τ : Tau) : Ext τ τ := fun _ _ h => h
theorem Ext.trans {a b c : Tau} (h : Ext a b) (k : Ext b c) : Ext a c := fun d y hd => k d y (h d y hd)
theorem Ag.sub {n0 : Nat} {τ τ' : Tau} {ρ ρt : Rho} (h : Ag n0 τ' ρ ρt) (he : Ext τ τ') : Ag n0 τ ρ ρt := ⟨h.old, fun c y hc => h.new c y (he c y hc)⟩
theorem ext_cons {τ : Tau} {c : Nat} {y : Option Nat} (h : lk τ c = none) : Ext τ ((c, y) :: τ) := fun d z hd => by
  rw [lk_cons]
  split
  · rename_i e; subst e; rw [h] at hd; cases hd
  · exact hd
def MtOk (n0 n1 : Nat) (τ : Tau) (K : Tau → Prop) (bd : Prop) (eq : Rho → Rho → Prop) : Prop :=
  ∃ τ', Ext τ τ' ∧ TauOk n0 n1 τ' ∧ K τ' ∧ bd ∧ ∀ ρ ρt, Ag n0 τ' ρ ρt → eq ρ ρt
theorem bltF {a b : Nat} (h : Nat.blt a b = false) : ¬ a < b := fun hc => by
  have : Nat.blt a b = true := by simpa [Nat.blt_eq] using hc
  rw [this] at h; cases h
theorem idK_ok {n0 n1 c c' : Nat} {τ : Tau} {z : Prop} {K : Tau → Prop} (hn : n0 ≤ n1) (hτ : TauOk n0 n1 τ) (h : idK n0 n1 c c' τ z K) : z ∨ MtOk n0 n1 τ K (c < n1) fun ρ ρt => ρt c = ρ c' := by
  unfold idK at h
  cases h1 : Nat.blt c n0 with
  | true =>
    rw [h1] at h
    have h1 : c < n0 := by simpa [Nat.blt_eq] using h1
    cases h2 : Nat.beq c c' with
    | false => rw [h2] at h; exact .inl h
    | true =>
      rw [h2] at h
      obtain rfl := beqT h2
      exact .inr ⟨τ, Ext.refl _, hτ, h, by omega, fun ρ ρt ha => ha.old c h1⟩
  | false =>
    rw [h1] at h
    have h1 : ¬ c < n0 := bltF h1
    simp only [cond_false] at h
    split at h
    · rename_i d hd
      cases h2 : Nat.beq d c' with
      | false => rw [h2] at h; exact .inl h
      | true =>
        rw [h2] at h
        obtain rfl := beqT h2
        exact .inr ⟨τ, Ext.refl _, hτ, h, (hτ.rng c _ hd).2, fun ρ ρt ha => ha.new c _ hd⟩
    · exact .inl h
    · rename_i hd
      cases h2 : Nat.blt c n1 with
      | false => rw [h2] at h; exact .inl h
      | true =>
        rw [h2] at h
        have h2 : c < n1 := by simpa [Nat.blt_eq] using h2
        refine .inr ⟨_, ext_cons hd, ⟨fun d y hy => ?_⟩, h, h2, fun ρ ρt ha => (ha.new c _ (by rw [lk_cons, if_pos rfl])).trans rfl⟩
        rw [lk_cons] at hy
        split at hy
        · rename_i e; subst e; exact ⟨by omega, h2⟩
        · exact hτ.rng d y hy
theorem idNil_ok {n0 n1 c : Nat} {τ : Tau} {z : Prop} {K : Tau → Prop} (hτ : TauOk n0 n1 τ) (h : idNil n0 n1 c τ z K) : z ∨ MtOk n0 n1 τ K (c < n1) fun ρ ρt => ρt c = none := by
  unfold idNil at h
  cases h1 : Nat.blt c n0 with
  | true => rw [h1] at h; exact .inl h
  | false =>
    rw [h1] at h
    have h1 : ¬ c < n0 := bltF h1
    simp only [cond_false] at h
    split at h
    · exact .inl h
    · rename_i hd
      exact .inr ⟨τ, Ext.refl _, hτ, h, (hτ.rng c _ hd).2, fun ρ ρt ha => ha.new c _ hd⟩
    · rename_i hd
      cases h2 : Nat.blt c n1 with
      | false => rw [h2] at h; exact .inl h
      | true =>
        rw [h2] at h
        have h2 : c < n1 := by simpa [Nat.blt_eq] using h2
        refine .inr ⟨_, ext_cons hd, ⟨fun d y hy => ?_⟩, h, h2, fun ρ ρt ha => (ha.new c _ (by rw [lk_cons, if_pos rfl])).trans rfl⟩
        rw [lk_cons] at hy
        split at hy
        · rename_i e; subst e; exact ⟨by omega, h2⟩
        · exact hτ.rng d y hy
theorem MtOk.now {n0 n1 : Nat} {τ : Tau} {K : Tau → Prop} {bd : Prop} {eq : Rho → Rho → Prop} (hτ : TauOk n0 n1 τ) (h : K τ) (hb : bd) (he : ∀ ρ ρt, eq ρ ρt) : MtOk n0 n1 τ K bd eq := ⟨τ, Ext.refl _, hτ, h, hb, fun ρ ρt _ => he ρ ρt⟩
theorem MtOk.id {n0 n1 : Nat} {τ : Tau} {K : Tau → Prop} {q : Prop} {bd bd' : Prop} {eq eq' : Rho → Rho → Prop} (h : MtOk n0 n1 τ (fun τ => q ∧ K τ) bd eq) (hb : bd → bd') (he : q → ∀ ρ ρt, eq ρ ρt → eq' ρ ρt) : MtOk n0 n1 τ K bd' eq' := by
  obtain ⟨τ', h1, h2, ⟨hq, h3⟩, h4, h5⟩ := h
  exact ⟨τ', h1, h2, h3, hb h4, fun ρ ρt ha => he hq ρ ρt (h5 ρ ρt ha)⟩
theorem MtOk.seq {n0 n1 : Nat} {τ : Tau} {L : Tau → (Tau → Prop) → Prop} {K : Tau → Prop} {bd bd2 : Prop} {eq eq2 : Rho → Rho → Prop} (h : MtOk n0 n1 τ (fun τ => L τ K) bd eq) (h2 : ∀ τ, TauOk n0 n1 τ → L τ K → MtOk n0 n1 τ K bd2 eq2) :
    MtOk n0 n1 τ K (bd ∧ bd2) fun ρ ρt => eq ρ ρt ∧ eq2 ρ ρt := by
  obtain ⟨τ1, a1, a2, a3, a4, a5⟩ := h
  obtain ⟨τ2, b1, b2, b3, b4, b5⟩ := h2 τ1 a2 a3
  exact ⟨τ2, a1.trans b1, b2, b3, ⟨a4, b4⟩, fun ρ ρt ha => ⟨a5 ρ ρt (ha.sub b1), b5 ρ ρt ha⟩⟩
theorem MtOk.mono {n0 n1 : Nat} {τ : Tau} {K : Tau → Prop} {bd bd' : Prop} {eq eq' : Rho → Rho → Prop} (h : MtOk n0 n1 τ K bd eq) (hb : bd → bd') (he : ∀ ρ ρt, eq ρ ρt → eq' ρ ρt) : MtOk n0 n1 τ K bd' eq' := by
  obtain ⟨τ', h1, h2, h3, h4, h5⟩ := h
  exact ⟨τ', h1, h2, h3, hb h4, fun ρ ρt ha => he ρ ρt (h5 ρ ρt ha)⟩
set_option maxHeartbeats 1000000 in
mutual
theorem mt_ok {Δ : Env0} {n0 n1 : Nat} (hn : n0 ≤ n1) : ∀ (p v : SV) (τ : Tau) (K : Tau → Prop), TauOk n0 n1 τ → mt n0 n1 p v τ K → MtOk n0 n1 τ K (p.bd n1) fun ρ ρt => p.den Δ ρt = v.den Δ ρ
  | .fn f l, v, τ, K, hτ, h => by
    cases v <;> (simp only [mt_R, mtL_R, mtR, mtLR] at h; (try simp only [← mt_R, ← mtL_R] at h)) <;> first | (exact h.no.elim) | skip
    obtain ⟨rfl, h⟩ := h
    exact (mtL_ok (Δ := Δ) hn l _ τ K hτ h).mono (fun hb => by simp only [SV.bd]; exact hb) fun ρ ρt he => by simp only [SV.den, he]
  | .agg l, v, τ, K, hτ, h => by
    cases v <;> (simp only [mt_R, mtL_R, mtR, mtLR] at h; (try simp only [← mt_R, ← mtL_R] at h)) <;> first | (exact h.no.elim) | skip
    exact (mtL_ok (Δ := Δ) hn l _ τ K hτ h).mono (fun hb => by simp only [SV.bd]; exact hb) fun ρ ρt he => by simp only [SV.den, he]
  | .tup l, v, τ, K, hτ, h => by
    cases v <;> (simp only [mt_R, mtL_R, mtR, mtLR] at h; (try simp only [← mt_R, ← mtL_R] at h)) <;> first | (exact h.no.elim) | skip
    exact (mtL_ok (Δ := Δ) hn l _ τ K hτ h).mono (fun hb => by simp only [SV.bd]; exact hb) fun ρ ρt he => by simp only [SV.den, he]
  | .ifc t u, v, τ, K, hτ, h => by
    cases v <;> (simp only [mt_R, mtL_R, mtR, mtLR] at h; (try simp only [← mt_R, ← mtL_R] at h)) <;> first | (exact h.no.elim) | skip
    obtain ⟨rfl, h⟩ := h
    exact (mt_ok (Δ := Δ) hn u _ τ K hτ h).mono (fun hb => by simp only [SV.bd]; exact hb) fun ρ ρt he => by simp only [SV.den, he]
  | .int k a, v, τ, K, hτ, h => by
    cases v <;> (simp only [mt_R, mtL_R, mtR, mtLR] at h; (try simp only [← mt_R, ← mtL_R] at h)) <;> first | (exact h.no.elim) | skip
    rename_i k' b
    cases hk : keq k' k with
    | false => rw [hk] at h; exact h.no.elim
    | true =>
      rw [hk] at h
      obtain rfl := keq_eq hk
      obtain ⟨rfl, h⟩ := h
      exact .now hτ h (by simp only [SV.bd]) fun ρ ρt => by simp only [SV.den]
  | .tt, v, τ, K, hτ, h => by
    cases v <;> (simp only [mt_R, mtL_R, mtR, mtLR] at h; (try simp only [← mt_R, ← mtL_R] at h)) <;> first | (exact h.no.elim) | skip
    · exact .now hτ h (by simp only [SV.bd]) fun ρ ρt => by simp only [SV.den]
    · exact .now hτ h.2 (by simp only [SV.bd]) fun ρ ρt => by simp [SV.den, h.1]
    · exact .now hτ h.2 (by simp only [SV.bd]) fun ρ ρt => by simp [SV.den, h.1]
  | .ff, v, τ, K, hτ, h => by
    cases v <;> (simp only [mt_R, mtL_R, mtR, mtLR] at h; (try simp only [← mt_R, ← mtL_R] at h)) <;> first | (exact h.no.elim) | skip
    · exact .now hτ h (by simp only [SV.bd]) fun ρ ρt => by simp only [SV.den]
    · exact .now hτ h.2 (by simp only [SV.bd]) fun ρ ρt => by simp [SV.den, h.1]
    · exact .now hτ h.2 (by simp only [SV.bd]) fun ρ ρt => by simp [SV.den, h.1]
  | .bl a, v, τ, K, hτ, h => by
    cases v <;> (simp only [mt_R, mtL_R, mtR, mtLR] at h; (try simp only [← mt_R, ← mtL_R] at h)) <;> first | (exact h.no.elim) | skip
    all_goals exact .now hτ h.2 (by simp only [SV.bd]) fun ρ ρt => by simp only [SV.den, h.1]
  | .dc p d, v, τ, K, hτ, h => by
    cases v <;> (simp only [mt_R, mtL_R, mtR, mtLR] at h; (try simp only [← mt_R, ← mtL_R] at h)) <;> first | (exact h.no.elim) | skip
    · exact .now hτ h.2 (by simp only [SV.bd]) fun ρ ρt => by simp [SV.den, h.1]
    · exact .now hτ h.2 (by simp only [SV.bd]) fun ρ ρt => by simp [SV.den, h.1]
    · exact .now hτ h.2 (by simp only [SV.bd]) fun ρ ρt => by simp only [SV.den]; congr 1; rw [Bool.eq_iff_iff]; simp [h.1]
    · exact .now hτ h.2 (by simp only [SV.bd]) fun ρ ρt => by simp only [SV.den]; congr 1; rw [Bool.eq_iff_iff]; simp [h.1]
  | .str a, v, τ, K, hτ, h => by
    cases v <;> (simp only [mt_R, mtL_R, mtR, mtLR] at h; (try simp only [← mt_R, ← mtL_R] at h)) <;> first | (exact h.no.elim) | skip
    exact .now hτ h.2 (by simp only [SV.bd]) fun ρ ρt => by simp only [SV.den, h.1]
  | .glob a, v, τ, K, hτ, h => by
    cases v <;> (simp only [mt_R, mtL_R, mtR, mtLR] at h; (try simp only [← mt_R, ← mtL_R] at h)) <;> first | (exact h.no.elim) | skip
    exact .now hτ h.2 (by simp only [SV.bd]) fun ρ ρt => by simp only [SV.den, h.1]
  | .err a, v, τ, K, hτ, h => by
    cases v <;> (simp only [mt_R, mtL_R, mtR, mtLR] at h; (try simp only [← mt_R, ← mtL_R] at h)) <;> first | (exact h.no.elim) | skip
    exact .now hτ h.2 (by simp only [SV.bd]) fun ρ ρt => by simp only [SV.den, h.1]
  | .raw a, v, τ, K, hτ, h => by
    cases v <;> (simp only [mt_R, mtL_R, mtR, mtLR] at h; (try simp only [← mt_R, ← mtL_R] at h)) <;> first | (exact h.no.elim) | skip
    exact .now hτ h.2 (by simp only [SV.bd]) fun ρ ρt => by simp only [SV.den, h.1]
  | .nilp, v, τ, K, hτ, h => by
    cases v <;> (simp only [mt_R, mtL_R, mtR, mtLR] at h; (try simp only [← mt_R, ← mtL_R] at h)) <;> first | (exact h.no.elim) | skip
    exact .now hτ h (by simp only [SV.bd]) fun ρ ρt => by simp only [SV.den]
  | .nils, v, τ, K, hτ, h => by
    cases v <;> (simp only [mt_R, mtL_R, mtR, mtLR] at h; (try simp only [← mt_R, ← mtL_R] at h)) <;> first | (exact h.no.elim) | skip
    exact .now hτ h (by simp only [SV.bd]) fun ρ ρt => by simp only [SV.den]
  | .nilm, v, τ, K, hτ, h => by
    cases v <;> (simp only [mt_R, mtL_R, mtR, mtLR] at h; (try simp only [← mt_R, ← mtL_R] at h)) <;> first | (exact h.no.elim) | skip
    exact .now hτ h (by simp only [SV.bd]) fun ρ ρt => by simp only [SV.den]
  | .nilf, v, τ, K, hτ, h => by
    cases v <;> (simp only [mt_R, mtL_R, mtR, mtLR] at h; (try simp only [← mt_R, ← mtL_R] at h)) <;> first | (exact h.no.elim) | skip
    exact .now hτ h (by simp only [SV.bd]) fun ρ ρt => by simp only [SV.den]
  | .nili, v, τ, K, hτ, h => by
    cases v <;> (simp only [mt_R, mtL_R, mtR, mtLR] at h; (try simp only [← mt_R, ← mtL_R] at h)) <;> first | (exact h.no.elim) | skip
    exact .now hτ h (by simp only [SV.bd]) fun ρ ρt => by simp only [SV.den]
  | .ptr c o, v, τ, K, hτ, h => by
    cases v <;> (simp only [mt_R, mtL_R, mtR, mtLR] at h; (try simp only [← mt_R, ← mtL_R] at h)) <;> first | (exact h.no.elim) | skip
    rcases idK_ok hn hτ h with h | h
    · exact h.no.elim
    · exact h.id (fun hb => by simpa only [SV.bd] using hb) fun hq ρ ρt he => by simp only [SV.den, he, hq]
  | .elt c i sz o, v, τ, K, hτ, h => by
    cases v <;> (simp only [mt_R, mtL_R, mtR, mtLR] at h; (try simp only [← mt_R, ← mtL_R] at h)) <;> first | (exact h.no.elim) | skip
    rcases idK_ok hn hτ h with h | h
    · exact h.no.elim
    · exact h.id (fun hb => by simpa only [SV.bd] using hb) fun hq ρ ρt he => by simp only [SV.den, he, hq.1, hq.2.1, hq.2.2]
  | .sl c a k, v, τ, K, hτ, h => by
    cases v <;> (simp only [mt_R, mtL_R, mtR, mtLR] at h; (try simp only [← mt_R, ← mtL_R] at h)) <;> first | (exact h.no.elim) | skip
    · rcases idK_ok hn hτ h with h | h
      · exact h.no.elim
      · exact h.id (fun hb => by simpa only [SV.bd] using hb) fun hq ρ ρt he => by simp only [SV.den, he, hq.1, hq.2]
    · rcases idNil_ok hτ h with h | h
      · exact h.no.elim
      · exact h.id (fun hb => by simpa only [SV.bd] using hb) fun hq ρ ρt he => by simp only [SV.den, he, ← hq.1, ← hq.2]
  | .sub c lo k0 sz a k, v, τ, K, hτ, h => by
    cases v <;> (simp only [mt_R, mtL_R, mtR, mtLR] at h; (try simp only [← mt_R, ← mtL_R] at h)) <;> first | (exact h.no.elim) | skip
    rcases idK_ok hn hτ h with h | h
    · exact h.no.elim
    · exact h.id (fun hb => by simpa only [SV.bd] using hb) fun hq ρ ρt he => by simp only [SV.den, he, hq.1, hq.2.1, hq.2.2.1, hq.2.2.2.1, hq.2.2.2.2]
  | .mp c, v, τ, K, hτ, h => by
    cases v <;> (simp only [mt_R, mtL_R, mtR, mtLR] at h; (try simp only [← mt_R, ← mtL_R] at h)) <;> first | (exact h.no.elim) | skip
    rcases idK_ok hn hτ h with h | h
    · exact h.no.elim
    · exact h.mono (fun hb => by simpa only [SV.bd] using hb) fun ρ ρt he => by simp only [SV.den, he]
theorem mtL_ok {Δ : Env0} {n0 n1 : Nat} (hn : n0 ≤ n1) : ∀ (p v : List SV) (τ : Tau) (K : Tau → Prop), TauOk n0 n1 τ → mtL n0 n1 p v τ K → MtOk n0 n1 τ K (SV.bdL n1 p) fun ρ ρt => SV.denL Δ ρt p = SV.denL Δ ρ v
  | [], [], τ, K, hτ, h => by (simp only [mt_R, mtL_R, mtR, mtLR] at h; (try simp only [← mt_R, ← mtL_R] at h)); exact .now hτ h (by simp only [SV.bdL]) fun ρ ρt => by simp only [SV.denL]
  | p :: r, v :: s, τ, K, hτ, h => by
    (simp only [mt_R, mtL_R, mtR, mtLR] at h; (try simp only [← mt_R, ← mtL_R] at h))
    have h1 := mt_ok (Δ := Δ) hn p v τ _ hτ h
    exact (MtOk.seq (L := fun τ K => mtL n0 n1 r s τ K) h1 fun τ hτ h => mtL_ok (Δ := Δ) hn r s τ K hτ h).mono (fun hb => by simp only [SV.bdL]; exact hb) fun ρ ρt he => by simp only [SV.denL, he.1, he.2]
  | [], _ :: _, τ, K, hτ, h => by (simp only [mt_R, mtL_R, mtR, mtLR] at h; (try simp only [← mt_R, ← mtL_R] at h)); exact h.no.elim
  | _ :: _, [], τ, K, hτ, h => by (simp only [mt_R, mtL_R, mtR, mtLR] at h; (try simp only [← mt_R, ← mtL_R] at h)); exact h.no.elim
end
end Go.Zz
namespace Go.Zz
open Go.Px Go.RowKit
set_option linter.unusedVariables false
set_option linter.unusedSimpArgs false
set_option linter.unusedSectionVars false
structure UnfitH (why : String) (c : Nat) (ch : Ch) (H : Hp) : Prop where
  no : False
def known (n0 : Nat) (τ : Tau) (c : Nat) : Option (Option Nat) := bif Nat.blt c n0 then some (some c) else lk τ c
def mtC (n0 n1 : Nat) (c : Nat) (ch : Ch) (d : Option Nat) (H : Hp) (τ : Tau) (K : Tau → Prop) : Prop :=
  match d with
  | some d => match lk H d with
    | some ch' => match ch, ch' with
      | .cells t vs, .cells t' vs' => bif Nat.beq t t' then mtL n0 n1 vs vs' τ K else UnfitH "type" c ch H
      | .cells t vs, _ => UnfitH "cells" c ch H
      | .hole Ψ vs, .hole Ψ' vs' => Ψ' = Ψ ∧ mtL n0 n1 vs vs' τ K
      | .hole Ψ vs, _ => UnfitH "hole" c ch H
      | ch, ch' => ch' = ch ∧ K τ
    | none => UnfitH "gone" c ch H
  | none => match ch with
    | .arr _ _ _ l k => (l = [] ∧ k = 0) ∧ K τ
    | _ => UnfitH "nil" c ch H
def passHR (n0 n1 : Nat) : Hp → Hp → Hp → Tau → (Hp → Tau → Prop) → Prop
  | [], acc, H, τ, K => K acc τ
  | (c, ch) :: r, acc, H, τ, K => match known n0 τ c with
    | some d => mtC n0 n1 c ch d H τ fun τ => passHR n0 n1 r acc H τ K
    | none => passHR n0 n1 r ((c, ch) :: acc) H τ K
def passHRS : { f // f = @passHR } := by delta passHR; exact ⟨_, rfl⟩
def passH := passHRS.val
theorem passH_R : @passH = @passHR := passHRS.2
def idPassR (n0 n1 : Nat) : Hp → Hp → Tau → (Tau → Prop) → Prop
  | [], H, τ, K => K τ
  | (c, ch) :: r, H, τ, K => match known n0 τ c with
    | some d => mtC n0 n1 c ch d H τ fun τ => idPassR n0 n1 r H τ K
    | none => bif Nat.blt c n1 then mtC n0 n1 c ch (some c) H ((c, some c) :: τ) fun τ => idPassR n0 n1 r H τ K else UnfitH "bound" c ch H
def idPassRS : { f // f = @idPassR } := by delta idPassR; exact ⟨_, rfl⟩
def idPass := idPassRS.val
theorem idPass_R : @idPass = @idPassR := idPassRS.2
def imgs (n0 : Nat) (τ : Tau) : Hp → List Nat
  | [] => []
  | (c, _) :: r => match known n0 τ c with
    | some (some d) => d :: imgs n0 τ r
    | _ => imgs n0 τ r
def ndB : List Nat → Bool
  | [] => true
  | x :: r => !memB r x && ndB r
def keys : Hp → List Nat
  | [] => []
  | (c, _) :: r => c :: keys r
def mtH (n0 n1 : Nat) (T H : Hp) (τ : Tau) (K : Prop) : Prop :=
  passH n0 n1 T [] H τ fun T1 τ => passH n0 n1 T1 [] H τ fun T2 τ => passH n0 n1 T2 [] H τ fun T3 τ => idPass n0 n1 T3 H τ fun τ =>
    bif ndB (imgs n0 τ T) && ndB (keys T) then K else UnfitH "two places that are one" 0 (.cells 0 []) H
def img (n0 : Nat) (τ : Tau) (c : Nat) : Option Nat := (known n0 τ c).bind id
section
variable {Γ : Ctx} {En : Ent} {V : Val} {nx n0 n1 : Nat} {H : Hp} {w : World}
structure EntOk (Γ : Ctx) (n0 n1 : Nat) (H : Hp) (τ : Tau) (c : Nat) (ch : Ch) : Prop where
  lt : c < n1
  bd : ch.bd n1
  kn : (known n0 τ c).isSome = true
  to : ∀ En V w Vt, Ag n0 τ V.ρ Vt.ρ → (∀ d ch', img n0 τ c = some d → lk H d = some ch' → ch'.ok Γ En V d w ∧ Vt.β c = V.β d) → (img n0 τ c = none → ∀ i, ¬ Vt.β c i) → ch.ok Γ En Vt c w
  im : ∀ d, img n0 τ c = some d → (lk H d).isSome = true
theorem known_ext {τ τ' : Tau} {c : Nat} {y : Option Nat} (h : known n0 τ c = some y) (he : Ext τ τ') : known n0 τ' c = some y := by
  unfold known at *
  cases h2 : Nat.blt c n0 with
  | true => rw [h2] at h; exact h
  | false => rw [h2] at h; exact he _ _ h
theorem EntOk.ext {τ τ' : Tau} {c : Nat} {ch : Ch} (h : EntOk Γ n0 n1 H τ c ch) (he : Ext τ τ') : EntOk Γ n0 n1 H τ' c ch := by
  obtain ⟨y, hy⟩ := Option.isSome_iff_exists.1 h.kn
  have e : img n0 τ' c = img n0 τ c := by unfold img; rw [hy, known_ext hy he]
  exact ⟨h.lt, h.bd, by rw [known_ext hy he]; rfl, fun En V w Vt ha hb hc => h.to En V w Vt (ha.sub he) (fun d ch' h1 h2 => hb d ch' (e.trans h1) h2) (fun h1 => hc (e.trans h1)), fun d hd => h.im d (e.symm.trans hd)⟩
theorem ag_img {τ : Tau} {ρ ρt : Rho} (h : Ag n0 τ ρ ρt) {c : Nat} {y : Option Nat} (hk : known n0 τ c = some y) : ρt c = y.bind ρ := by
  unfold known at hk
  cases h2 : Nat.blt c n0 with
  | true =>
    rw [h2] at hk
    simp only [cond_true, Option.some.injEq] at hk
    subst hk
    exact h.old c (by simpa [Nat.blt_eq] using h2)
  | false => rw [h2] at hk; exact h.new c y hk
theorem Ch.same {V V' : Val} {c d : Nat} {ch : Ch} (h : ch.ok Γ En V d w) (hρ : V'.ρ c = V.ρ d) (hβ : V'.β c = V.β d) (hd : ∀ t vs, ch = .cells t vs → SV.denL Γ.Δ V'.ρ vs = SV.denL Γ.Δ V.ρ vs) (hd2 : ∀ Ψ vs, ch = .hole Ψ vs → SV.denL Γ.Δ V'.ρ vs = SV.denL Γ.Δ V.ρ vs) : ch.ok Γ En V' c w := by
  cases ch with
  | cells t vs => have e := hd t vs rfl; simp only [Ch.ok, hρ, hβ, e] at *; exact h
  | hole Ψ vs => have e := hd2 Ψ vs rfl; simp only [Ch.ok, hρ, hβ, e] at *; exact h
  | _ => simp only [Ch.ok, hρ, hβ] at *; exact h
theorem mtC_ok (hn : n0 ≤ n1) {c : Nat} {ch : Ch} {d : Option Nat} {τ : Tau} {K : Tau → Prop} (hτ : TauOk n0 n1 τ) (hk : known n0 τ c = some d) (h : mtC n0 n1 c ch d H τ K) : ∃ τ', Ext τ τ' ∧ TauOk n0 n1 τ' ∧ K τ' ∧ EntOk Γ n0 n1 H τ' c ch := by
  have hlt : c < n1 := by
    unfold known at hk
    cases h2 : Nat.blt c n0 with
    | true => have : c < n0 := by simpa [Nat.blt_eq] using h2
              omega
    | false => rw [h2] at hk; exact (hτ.rng c _ hk).2
  unfold mtC at h
  split at h
  · rename_i d
    have himg : ∀ {τ'}, Ext τ τ' → img n0 τ' c = some d := fun he => by unfold img; rw [known_ext hk he]; rfl
    split at h
    · rename_i ch' hd
      have him : ∀ {τ'}, Ext τ τ' → ∀ e, img n0 τ' c = some e → (lk H e).isSome = true := fun he e h1 => by
        rw [himg he] at h1
        obtain rfl := Option.some.inj h1
        rw [hd]; rfl
      split at h
      · rename_i t vs t' vs'
        cases ht : Nat.beq t t' with
        | false => rw [ht] at h; exact h.no.elim
        | true =>
          rw [ht] at h
          obtain rfl := beqT ht
          obtain ⟨τ', h1, h2, h3, h4, h5⟩ := mtL_ok (Δ := Γ.Δ) hn vs vs' τ K hτ h
          refine ⟨τ', h1, h2, h3, hlt, h4, by rw [known_ext hk h1]; rfl, fun En V w Vt ha hb hc => ?_, him h1⟩
          obtain ⟨q1, q2⟩ := hb d _ (himg h1) hd
          obtain ⟨g, e1, e2, e3, e4⟩ := q1
          have hρ : Vt.ρ c = V.ρ d := ag_img ha (known_ext hk h1)
          have e := h5 _ _ ha
          exact ⟨g, hρ.trans e1, by rw [q2]; exact e2, by rw [e]; exact e3, by rw [e]; exact e4⟩
      · exact h.no.elim
      · rename_i Ψ vs Ψ' vs'
        obtain ⟨rfl, h⟩ := h
        obtain ⟨τ', h1, h2, h3, h4, h5⟩ := mtL_ok (Δ := Γ.Δ) hn vs vs' τ K hτ h
        refine ⟨τ', h1, h2, h3, hlt, h4, by rw [known_ext hk h1]; rfl, fun En V w Vt ha hb hc => ?_, him h1⟩
        obtain ⟨q1, q2⟩ := hb d _ (himg h1) hd
        have hρ : Vt.ρ c = V.ρ d := ag_img ha (known_ext hk h1)
        have e := h5 _ _ ha
        simp only [Ch.ok] at q1 ⊢
        rw [e, hρ, q2]; exact q1
      · exact h.no.elim
      · rename_i hne1 hne2 hne3 hne4
        obtain ⟨rfl, h⟩ := h
        refine ⟨τ, Ext.refl _, hτ, h, hlt, ?_, by rw [hk]; rfl, fun En V w Vt ha hb hc => ?_, him (Ext.refl _)⟩
        · cases ch' with
          | cells t vs => first | exact (hne1 t vs rfl).elim | exact (hne2 t vs rfl).elim | exact (hne2 t vs t vs rfl rfl).elim
          | hole t vs => first | exact (hne4 t vs rfl).elim | exact (hne3 t vs rfl).elim | exact (hne3 t vs t vs rfl rfl).elim | exact (hne4 t vs t vs rfl rfl).elim
          | _ => trivial
        · obtain ⟨q1, q2⟩ := hb d _ (himg (Ext.refl _)) hd
          exact Ch.same q1 (ag_img ha hk) q2 (fun t vs e => by first | exact (hne1 t vs e).elim | exact (hne2 t vs e).elim | exact (hne2 t vs t vs e e).elim) fun t vs e => by first | exact (hne4 t vs e).elim | exact (hne3 t vs e).elim | exact (hne3 t vs t vs e e).elim | exact (hne4 t vs t vs e e).elim
    · exact h.no.elim
  · have himg : img n0 τ c = none := by unfold img; rw [hk]; rfl
    split at h
    · rename_i α e t l k
      obtain ⟨⟨rfl, rfl⟩, h⟩ := h
      refine ⟨τ, Ext.refl _, hτ, h, hlt, trivial, by rw [hk]; rfl, fun En V w Vt ha hb hc => ?_, fun d hd => by rw [himg] at hd; cases hd⟩
      have hρ : Vt.ρ c = none := ag_img ha hk
      refine ⟨?_, fun i => ⟨fun hi => (hc himg i hi).elim, fun hi => ?_⟩⟩
      · rw [hρ]; exact World.ownsRow_nil w 0 t e.sz
      · rw [hρ] at hi; simp [Value.ownBlock] at hi
    · exact h.no.elim
theorem passH_ok (hn : n0 ≤ n1) : ∀ {T acc : Hp} {τ : Tau} {K : Hp → Tau → Prop}, TauOk n0 n1 τ → passH n0 n1 T acc H τ K → ∃ τ' acc', Ext τ τ' ∧ TauOk n0 n1 τ' ∧ K acc' τ' ∧ ∀ x ∈ T ++ acc, x ∈ acc' ∨ EntOk Γ n0 n1 H τ' x.1 x.2
  | [], acc, τ, K, hτ, h => ⟨τ, acc, Ext.refl _, hτ, h, fun x hx => .inl (by simpa using hx)⟩
  | (c, ch) :: r, acc, τ, K, hτ, h => by
    (simp only [passH_R, passHR] at h; (try simp only [← passH_R] at h))
    split at h
    · rename_i d hk
      obtain ⟨τ1, h1, h2, h3, h4⟩ := mtC_ok (Γ := Γ) hn hτ hk h
      obtain ⟨τ2, acc', g1, g2, g3, g4⟩ := passH_ok hn h2 h3
      refine ⟨τ2, acc', h1.trans g1, g2, g3, fun x hx => ?_⟩
      rcases List.mem_cons.1 hx with rfl | hx
      · exact .inr (h4.ext g1)
      · exact g4 x hx
    · obtain ⟨τ2, acc', g1, g2, g3, g4⟩ := passH_ok hn hτ h
      refine ⟨τ2, acc', g1, g2, g3, fun x hx => g4 x ?_⟩
      simp only [List.cons_append, List.mem_cons, List.mem_append] at hx ⊢
      rcases hx with hx | hx | hx
      · exact .inr (.inl hx)
      · exact .inl hx
      · exact .inr (.inr hx)
theorem idPass_ok (hn : n0 ≤ n1) : ∀ {T : Hp} {τ : Tau} {K : Tau → Prop}, TauOk n0 n1 τ → idPass n0 n1 T H τ K → ∃ τ', Ext τ τ' ∧ TauOk n0 n1 τ' ∧ K τ' ∧ ∀ x ∈ T, EntOk Γ n0 n1 H τ' x.1 x.2
  | [], τ, K, hτ, h => ⟨τ, Ext.refl _, hτ, h, fun x hx => by simp at hx⟩
  | (c, ch) :: r, τ, K, hτ, h => by
    (simp only [idPass_R, idPassR] at h; (try simp only [← idPass_R] at h))
    split at h
    · rename_i d hk
      obtain ⟨τ1, h1, h2, h3, h4⟩ := mtC_ok (Γ := Γ) hn hτ hk h
      obtain ⟨τ2, g1, g2, g3, g4⟩ := idPass_ok hn h2 h3
      refine ⟨τ2, h1.trans g1, g2, g3, fun x hx => ?_⟩
      rcases List.mem_cons.1 hx with rfl | hx
      · exact h4.ext g1
      · exact g4 x hx
    · rename_i hk
      cases hb : Nat.blt c n1 with
      | false => rw [hb] at h; exact h.no.elim
      | true =>
        rw [hb] at h
        have hb : c < n1 := by simpa [Nat.blt_eq] using hb
        have hb0 : Nat.blt c n0 = false := by
          unfold known at hk
          cases h2 : Nat.blt c n0 with
          | true => rw [h2] at hk; cases hk
          | false => rfl
        have hlk : lk τ c = none := by unfold known at hk; rw [hb0] at hk; exact hk
        have hτ' : TauOk n0 n1 ((c, some c) :: τ) := ⟨fun d y hy => by
          rw [lk_cons] at hy
          split at hy
          · rename_i e; subst e; have := bltF hb0; exact ⟨by omega, hb⟩
          · exact hτ.rng d y hy⟩
        have hk' : known n0 ((c, some c) :: τ) c = some (some c) := by unfold known; rw [hb0, cond_false, lk_cons, if_pos rfl]
        obtain ⟨τ1, h1, h2, h3, h4⟩ := mtC_ok (Γ := Γ) hn hτ' hk' h
        obtain ⟨τ2, g1, g2, g3, g4⟩ := idPass_ok hn h2 h3
        refine ⟨τ2, ((ext_cons hlk).trans h1).trans g1, g2, g3, fun x hx => ?_⟩
        rcases List.mem_cons.1 hx with rfl | hx
        · exact h4.ext g1
        · exact g4 x hx
theorem memB_iff {l : List Nat} {g : Nat} : memB l g = true ↔ g ∈ l := by
  induction l with
  | nil => simp [memB]
  | cons x r ih =>
    simp only [memB, Bool.or_eq_true, ih, List.mem_cons]
    constructor
    · rintro (h | h)
      · exact .inl (beqT h).symm
      · exact .inr h
    · rintro (rfl | h)
      · exact .inl (Nat.beq_refl _)
      · exact .inr h
theorem ndB_nd : ∀ {l : List Nat}, ndB l = true → l.Nodup
  | [], _ => List.nodup_nil
  | x :: r, h => by
    simp only [ndB, Bool.and_eq_true, Bool.not_eq_true'] at h
    rw [List.nodup_cons]
    refine ⟨fun hm => ?_, ndB_nd h.2⟩
    rw [memB_iff.2 hm] at h
    cases h.1
theorem imgs_mem {τ : Tau} : ∀ {T : Hp} {x : Nat × Ch} {d : Nat}, x ∈ T → img n0 τ x.1 = some d → d ∈ imgs n0 τ T
  | [], x, d, h, _ => by simp at h
  | (c, ch) :: r, x, d, h, hd => by
    simp only [imgs]
    rcases List.mem_cons.1 h with rfl | h
    · have hk : known n0 τ c = some (some d) := by
        unfold img at hd
        cases hq : known n0 τ c with
        | none => simp only [hq] at hd; cases hd
        | some y => simp only [hq, Option.bind_some, id] at hd; rw [hd]
      rw [hk]; simp
    · have := imgs_mem h hd
      split
      · exact List.mem_cons_of_mem _ this
      · exact this
theorem imgs_inj {τ : Tau} : ∀ {T : Hp} {x y : Nat × Ch} {d : Nat}, (imgs n0 τ T).Nodup → (keys T).Nodup → x ∈ T → y ∈ T → img n0 τ x.1 = some d → img n0 τ y.1 = some d → x.1 = y.1
  | [], x, y, d, _, _, h, _, _, _ => by simp at h
  | (c, ch) :: r, x, y, d, hnd, hkd, hx, hy, hdx, hdy => by
    simp only [keys, List.nodup_cons] at hkd
    simp only [imgs] at hnd
    have key : ∀ {z : Nat × Ch}, z ∈ r → img n0 τ z.1 = some d → img n0 τ c = some d → False := fun hz hdz hdc => by
      have hk : known n0 τ c = some (some d) := by
        unfold img at hdc
        cases hq : known n0 τ c with
        | none => simp only [hq] at hdc; cases hdc
        | some y => simp only [hq, Option.bind_some, id] at hdc; rw [hdc]
      rw [hk] at hnd
      simp only [List.nodup_cons] at hnd
      exact hnd.1 (imgs_mem hz hdz)
    have hnd' : (imgs n0 τ r).Nodup := by
      split at hnd
      · exact (List.nodup_cons.1 hnd).2
      · exact hnd
    rcases List.mem_cons.1 hx with rfl | hx <;> rcases List.mem_cons.1 hy with rfl | hy
    · rfl
    · exact (key hy hdy hdx).elim
    · exact (key hx hdx hdy).elim
    · exact imgs_inj hnd' hkd.2 hx hy hdx hdy
noncomputable def Val.img (V : Val) (n0 : Nat) (τ : Tau) : Val := ⟨fun c => (Zz.img n0 τ c).bind V.ρ, fun c => match Zz.img n0 τ c with | some d => V.β d | none => fun _ => False⟩
theorem ag_of (V : Val) {τ : Tau} (hτ : TauOk n0 n1 τ) : Ag n0 τ V.ρ (V.img n0 τ).ρ := by
  refine ⟨fun c hc => ?_, fun c y hy => ?_⟩
  · have : Nat.blt c n0 = true := by simpa [Nat.blt_eq] using hc
    simp [Val.img, img, known, this]
  · have h1 := (hτ.rng c y hy).1
    have : Nat.blt c n0 = false := by
      cases h2 : Nat.blt c n0 with
      | true => have : c < n0 := by simpa [Nat.blt_eq] using h2
                omega
      | false => rfl
    simp [Val.img, img, known, this, hy]
theorem mtH_ok (hn : n0 ≤ n1) {T : Hp} {τ : Tau} {K : Prop} (hτ : TauOk n0 n1 τ) (h : mtH n0 n1 T H τ K) :
    ∃ τ', Ext τ τ' ∧ TauOk n0 n1 τ' ∧ K ∧ ∀ En V nx w, HpOk Γ En V nx H w → HpOk Γ En (V.img n0 τ') n1 T w := by
  unfold mtH at h
  obtain ⟨τ1, T1, a1, a2, a3, a4⟩ := passH_ok (Γ := Γ) hn hτ h
  obtain ⟨τ2, T2, b1, b2, b3, b4⟩ := passH_ok (Γ := Γ) hn a2 a3
  obtain ⟨τ3, T3, c1, c2, c3, c4⟩ := passH_ok (Γ := Γ) hn b2 b3
  obtain ⟨τ4, d1, d2, d3, d4⟩ := idPass_ok (Γ := Γ) hn c2 c3
  cases hnd : ndB (imgs n0 τ4 T) && ndB (keys T) with
  | false => rw [hnd] at d3; exact d3.no.elim
  | true =>
    rw [hnd] at d3
    simp only [Bool.and_eq_true] at hnd
    have hi := ndB_nd hnd.1
    have hk := ndB_nd hnd.2
    have hall : ∀ x ∈ T, EntOk Γ n0 n1 H τ4 x.1 x.2 := fun x hx => by
      rcases a4 x (by simp [hx]) with h1 | h1
      · rcases b4 x (by simp [h1]) with h2 | h2
        · rcases c4 x (by simp [h2]) with h3 | h3
          · exact d4 x h3
          · exact h3.ext d1
        · exact h2.ext (c1.trans d1)
      · exact h1.ext ((b1.trans c1).trans d1)
    refine ⟨τ4, ((a1.trans b1).trans c1).trans d1, d2, d3, fun En V nx w hp => ?_⟩
    have hag := ag_of V d2
    have hent : ∀ c ch, lk T c = some ch → EntOk Γ n0 n1 H τ4 c ch := fun c ch hc => hall _ (lk_mem hc)
    have hβ : ∀ {c d}, img n0 τ4 c = some d → (V.img n0 τ4).β c = V.β d := fun {c d} hd => by simp [Val.img, hd]
    have hβn : ∀ {c}, img n0 τ4 c = none → ∀ i, ¬ (V.img n0 τ4).β c i := fun {c} hd i => by simp [Val.img, hd]
    refine ⟨⟨fun c ch hc => (hent c ch hc).to En V w _ hag (fun d ch' h1 h2 => ⟨hp.hr.ok d ch' h2, hβ h1⟩) hβn, hp.hr.keep, hp.hr.errs, hp.hr.eF⟩, fun c ch hc => ⟨(hent c ch hc).lt, (hent c ch hc).bd⟩, fun c c' hc hc' hne i h1 h2 => ?_, fun c hc i h1 => ?_⟩
    · obtain ⟨ch, hc⟩ := Option.isSome_iff_exists.1 hc
      obtain ⟨ch', hc'⟩ := Option.isSome_iff_exists.1 hc'
      cases hd : img n0 τ4 c with
      | none => exact hβn hd i h1
      | some d =>
        cases hd' : img n0 τ4 c' with
        | none => exact hβn hd' i h2
        | some d' =>
          rw [hβ hd] at h1
          rw [hβ hd'] at h2
          refine hp.apart d d' ((hent c ch hc).im d hd) ((hent c' ch' hc').im d' hd') (fun e => ?_) i h1 h2
          subst e
          exact hne (imgs_inj hi hk (lk_mem hc) (lk_mem hc') hd hd')
    · obtain ⟨ch, hc⟩ := Option.isSome_iff_exists.1 hc
      cases hd : img n0 τ4 c with
      | none => exact (hβn hd i h1).elim
      | some d =>
        rw [hβ hd] at h1
        exact hp.foot d ((hent c ch hc).im d hd) i h1
end
end Go.Zz
namespace Go.Zz
open Go.Px Go.RowKit
set_option linter.unusedVariables false
set_option linter.unusedSimpArgs false
set_option linter.unusedSectionVars false
structure Spec : Type 1 where
  args : List SV
  H : Hp
  n0 : Nat
  n1 : Nat
  X : Type
  cond : X → Prop
  ret : X → SV
  post : X → Hp
def entOf (V : Val) (w : World) (H : Hp) (n0 : Nat) : Ent := ⟨fun i => ∃ c, (lk H c).isSome = true ∧ V.β c i, w, n0, V.ρ, []⟩
def Does (Γ : Ctx) (f : FuncId) (S : Spec) : Prop :=
  S.n0 ≤ S.n1 ∧ SV.bdL S.n0 S.args ∧ HB S.n0 S.H ∧ ∀ V w, HpOk Γ (entOf V w S.H S.n0) V S.n0 S.H w → ∃ R : Value → World → Prop,
    ((enters Γ.P f ∧ Calls Γ.P f (SV.denL Γ.Δ V.ρ S.args).toArray w (Ret R)) ∨ (∃ v w', (callFunc f (SV.denL Γ.Δ V.ρ S.args).toArray).run Γ.P w = .ok (.value v) w' ∧ R v w')) ∧
    ∀ v w', R v w' → ∃ x V', S.cond x ∧ v = (S.ret x).den Γ.Δ V'.ρ ∧ (S.ret x).bd S.n1 ∧ (∀ d, d < S.n0 → V'.ρ d = V.ρ d) ∧ HpOk Γ (entOf V w S.H S.n0) V' S.n1 (S.post x) w'
def resS : List SV → SV
  | [v] => v
  | l => .tup l
def resKR (Γ : Ctx) (H : Hp) (env : Ev) : List ResultVar → (List SV → Prop) → Prop
  | [], K => K []
  | .tmp t :: r, K => match lk env t with
    | some v => kval v fun v => resKR Γ H env r fun l => K (v :: l)
    | none => Stuck "result: not known" (.ready t)
  | .cell a t :: r, K => match lk env a, lk Γ.tb t with
    | some (.ptr c off), some ti => match lk H c with
      | some (.cells _ vs) => cutK ti.agg vs off ti.sz (.ready a) fun v => resKR Γ H env r fun l => K (v :: l)
      | _ => Stuck "result: its variable" (.ready a)
    | _, _ => Stuck "result: its variable" (.ready a)
def resKRS : { f // f = @resKR } := by delta resKR; exact ⟨_, rfl⟩
def resK := resKRS.val
theorem resK_R : @resK = @resKR := resKRS.2
section
variable {Γ : Ctx} {n : Nat} {En : Ent} {V : Val} {a : Act} {w : World} {env : Ev} {nx : Nat} {H : Hp}
theorem res_ok (hΓ : Γ.Ok) (hs : StOk Γ n En V a w ⟨env, nx, H⟩) :
    ∀ {rs : List ResultVar} {K : List SV → Prop}, resK Γ H env rs K → ∃ l, K l ∧ SV.bdL nx l ∧ ∀ f : ResultVar → Sem Value, (∀ t, f (.tmp t) = pure (a.tmps.getD t undef)) → (∀ b t, f (.cell b t) = do loadVar t (← asAddr (a.tmps.getD b undef))) → (rs.mapM f).run Γ.P w = .ok (SV.denL Γ.Δ V.ρ l) w
  | [], K, h => ⟨[], h, by simp only [SV.bdL], fun f h1 h2 => by simp [SV.denL]⟩
  | .tmp t :: r, K, h => by
    (simp only [resK_R, resKR] at h; (try simp only [← resK_R] at h))
    split at h
    · rename_i v hv
      rw [kval_eq] at h
      obtain ⟨l, h3, h4, h5⟩ := res_ok hΓ hs h
      obtain ⟨e1, e2⟩ := hs.env t v hv
      refine ⟨v :: l, h3, by simp only [SV.bdL]; exact ⟨e2, h4⟩, fun f h1 h2 => ?_⟩
      have e3 : a.tmps.getD t undef = v.den Γ.Δ V.ρ := by simp only [Array.getD_eq_getD_getElem?, e1, Option.getD_some]
      simp only [List.mapM_cons, h1, e3, Sem.run_bind, Sem.run_pure, Result.andThen_ok, h5 f h1 h2, SV.denL]
    · exact h.no.elim
  | .cell b t :: r, K, h => by
    (simp only [resK_R, resKR] at h; (try simp only [← resK_R] at h))
    split at h
    · rename_i c off ti hb ht
      split at h
      · rename_i tb vs hc
        obtain ⟨v, q1, q2, q4, q3⟩ := run_loadVar (Δ := Γ.Δ) (ρ := V.ρ) (hΓ.tb t ti ht) (hs.hp.hb c _ hc).2 h
        obtain ⟨l, h3, h4, h5⟩ := res_ok hΓ hs q2
        refine ⟨v :: l, h3, by simp only [SV.bdL]; exact ⟨q1, h4⟩, fun f h1 h2 => ?_⟩
        obtain ⟨e1, _⟩ := hs.env b _ hb
        have e3 : a.tmps.getD b undef = (SV.ptr c off).den Γ.Δ V.ρ := by simp only [Array.getD_eq_getD_getElem?, e1, Option.getD_some]
        obtain ⟨A, hA, hcell⟩ := Ch.cells_at (hs.hp.hr.ok c _ hc)
        have e4 := q3 w (A.add off) fun j u hu => by rw [add_add]; exact hcell _ u hu
        simp only [List.mapM_cons, h2, e3, SV.den, asAddr, hA, sa, Option.getD_some, Sem.run_bind, Sem.run_pure, Result.andThen_ok, e4, h5 f h1 h2, SV.denL]
      · exact h.no.elim
    · exact h.no.elim
theorem results_ok (hΓ : Γ.Ok) (hs : StOk Γ n En V a w ⟨env, nx, H⟩) {fn : Func} {K : List SV → Prop} (h : resK Γ H env fn.results.toList K) : ∃ l, K l ∧ SV.bdL nx l ∧ (results fn a.tmps).run Γ.P w = .ok ((resS l).den Γ.Δ V.ρ) w := by
  unfold results
  rw [Array.mapM_eq_mapM_toList]
  obtain ⟨l, h3, h4, h5⟩ := res_ok hΓ hs h
  refine ⟨l, h3, h4, ?_⟩
  rw [Sem.run_bind, Sem.run_map, h5 _ (fun _ => rfl) (fun _ _ => rfl)]
  simp only [Result.andThen_ok, Sem.run_pure]
  congr 1
  match l with
  | [] => simp [resS, SV.denL, SV.den]
  | [v] => simp [resS, SV.denL, SV.den]
  | v :: u :: r => simp [resS, SV.denL, SV.den]
end
def argE : Nat → List SV → Ev
  | _, [] => []
  | k, v :: r => (k, v) :: argE (k + 1) r
def RetK (Γ : Ctx) (S : Spec) (rs : List ResultVar) : Exit → St → Prop
  | .normal, ⟨env, nx, H⟩ => resK Γ H env rs fun l => ∃ x, mt S.n0 S.n1 (S.ret x) (resS l) [] fun τ => mtH S.n0 S.n1 (S.post x) H τ (S.cond x)
  | .ret, ⟨env, nx, H⟩ => resK Γ H env rs fun l => ∃ x, mt S.n0 S.n1 (S.ret x) (resS l) [] fun τ => mtH S.n0 S.n1 (S.post x) H τ (S.cond x)
  | _, _ => Stuck "an exit" (.ready 0)
theorem argE_get {l : List SV} : ∀ {k t : Nat} {v : SV}, lk (argE k l) t = some v → k ≤ t ∧ l[t - k]? = some v := by
  induction l with
  | nil => intro k t v h; simp [argE, lk] at h
  | cons u r ih =>
    intro k t v h
    simp only [argE, lk_cons] at h
    split at h
    · rename_i e; subst e; simpa using h
    · obtain ⟨h1, h2⟩ := ih h
      refine ⟨by omega, ?_⟩
      rw [show t - k = t - (k + 1) + 1 by omega]
      simpa using h2
mutual
def SV.bdB (m : Nat) : SV → Bool
  | .ptr c _ => Nat.blt c m
  | .elt c _ _ _ => Nat.blt c m
  | .sl c _ _ => Nat.blt c m
  | .sub c _ _ _ _ _ => Nat.blt c m
  | .mp c => Nat.blt c m
  | .fn _ caps => SV.bdLB m caps
  | .ifc _ v => SV.bdB m v
  | .agg l => SV.bdLB m l
  | .tup l => SV.bdLB m l
  | _ => true
def SV.bdLB (m : Nat) : List SV → Bool
  | [] => true
  | x :: r => SV.bdB m x && SV.bdLB m r
end
mutual
theorem bdB_ok {m : Nat} : ∀ (v : SV), v.bdB m = true → v.bd m
  | .ptr c o, h | .elt c _ _ _, h | .sl c _ _, h | .sub c _ _ _ _ _, h | .mp c, h => by simp only [SV.bdB] at h; simp only [SV.bd]; simpa [Nat.blt_eq] using h
  | .fn _ l, h | .agg l, h | .tup l, h => by simp only [SV.bdB] at h; simp only [SV.bd]; exact bdLB_ok l h
  | .ifc _ v, h => by simp only [SV.bdB] at h; simp only [SV.bd]; exact bdB_ok v h
  | .int .., _ | .tt, _ | .ff, _ | .bl _, _ | .dc _ _, _ | .str _, _ | .glob _, _ | .nilp, _ | .nils, _ | .nilm, _ | .nilf, _ | .err _, _ | .nili, _ | .raw _, _ => by simp only [SV.bd]
theorem bdLB_ok {m : Nat} : ∀ (l : List SV), SV.bdLB m l = true → SV.bdL m l
  | [], _ => by simp only [SV.bdL]
  | x :: r, h => by simp only [SV.bdLB, Bool.and_eq_true] at h; simp only [SV.bdL]; exact ⟨bdB_ok x h.1, bdLB_ok r h.2⟩
end
def Ch.bdB (m : Nat) : Ch → Bool
  | .cells _ vs => SV.bdLB m vs
  | .hole _ vs => SV.bdLB m vs
  | _ => true
def hbB (m : Nat) : Hp → Bool
  | [] => true
  | (c, ch) :: r => Nat.blt c m && ch.bdB m && hbB m r
theorem hbB_ok {m : Nat} : ∀ {H : Hp}, hbB m H = true → HB m H
  | [], _ => fun c ch h => by simp [lk] at h
  | (s, e) :: r, h => fun c ch hc => by
    simp only [hbB, Bool.and_eq_true] at h
    rw [lk_cons] at hc
    split at hc
    · rename_i e1; subst e1
      obtain rfl := Option.some.inj hc
      refine ⟨by simpa [Nat.blt_eq] using h.1.1, ?_⟩
      cases e with
      | cells t vs => exact bdLB_ok vs h.1.2
      | hole t vs => exact bdLB_ok vs h.1.2
      | _ => trivial
    · exact hbB_ok h.2 c ch hc
def chkFn (S : Spec) (n : Nat) : Bool := Nat.ble S.n0 S.n1 && Nat.ble S.args.length n && SV.bdLB S.n0 S.args && hbB S.n0 S.H
def DoesC (Γ : Ctx) (f : FuncId) (S : Spec) : Prop :=
  S.n0 ≤ S.n1 ∧ SV.bdL S.n0 S.args ∧ HB S.n0 S.H ∧ enters Γ.P f ∧ ∀ V w, HpOk Γ (entOf V w S.H S.n0) V S.n0 S.H w → Calls Γ.P f (SV.denL Γ.Δ V.ρ S.args).toArray w (Ret fun v w' => ∃ x V', S.cond x ∧ v = (S.ret x).den Γ.Δ V'.ρ ∧ (S.ret x).bd S.n1 ∧ (∀ d, d < S.n0 → V'.ρ d = V.ρ d) ∧ HpOk Γ (entOf V w S.H S.n0) V' S.n1 (S.post x) w')
theorem DoesC.does {Γ : Ctx} {f : FuncId} {S : Spec} (h : DoesC Γ f S) : Does Γ f S := ⟨h.1, h.2.1, h.2.2.1, fun V w hp => ⟨_, .inl ⟨h.2.2.2.1, h.2.2.2.2 V w hp⟩, fun v w' h => h⟩⟩
theorem fn_calls {Γ : Ctx} (hΓ : Γ.Ok) {f : FuncId} {fn : Func} {c : Code} {S : Spec} (n n0 : Nat) (js : List Nat) (hf : Γ.P.funcs[f]? = some fn) (hb : fn.body = some c) (hnm : (fn.name == "runtime.NumGoroutine") = false) (hnt : fn.ntmps = n) (hn0 : S.n0 = n0) (hck : chkFn S n = true)
    (h : vc Γ n n0 js c ⟨argE 0 S.args, n0, S.H⟩ (RetK Γ S fn.results.toList)) : DoesC Γ f S := by
  subst hnt
  subst hn0
  simp only [chkFn, Bool.and_eq_true] at hck
  have hn := Nat.le_of_ble_eq_true hck.1.1.1
  have hle := Nat.le_of_ble_eq_true hck.1.1.2
  have hbd := bdLB_ok _ hck.1.2
  refine ⟨hn, hbd, hbB_ok hck.2, ⟨fn, hf, hnm, by rw [hb]; rfl⟩, fun V w hp => ?_⟩
  refine calls_of_wp hf hb ?_
  have hs : StOk Γ fn.ntmps (entOf V w S.H S.n0) V { tmps := (SV.denL Γ.Δ V.ρ S.args).toArray ++ Array.replicate (fn.ntmps - (SV.denL Γ.Δ V.ρ S.args).toArray.size) undef, defers := [] } w ⟨argE 0 S.args, S.n0, S.H⟩ := by
    refine ⟨rfl, by simp [denL_len]; omega, fun t v hv => ?_, hp, fun c hc => rfl, Nat.le_refl _⟩
    obtain ⟨_, h2⟩ := argE_get hv
    simp only [Nat.sub_zero] at h2
    refine ⟨?_, bdL_mem.1 hbd v (List.mem_of_getElem? h2)⟩
    have hlt : t < (SV.denL Γ.Δ V.ρ S.args).toArray.size := by simp [denL_len]; exact (List.getElem?_eq_some_iff.1 h2).1
    show ((SV.denL Γ.Δ V.ρ S.args).toArray ++ Array.replicate _ undef)[t]? = _
    rw [Array.getElem?_append_left hlt]
    simp [denL_get, h2]
  refine wp_mono (vc_ok hΓ (En := entOf V w S.H S.n0) rfl c h hs) fun e a w' hq => ?_
  obtain ⟨V', ⟨env, nx, H⟩, hs', hq⟩ := hq
  have fin : resK Γ H env fn.results.toList (fun l => ∃ x, mt S.n0 S.n1 (S.ret x) (resS l) [] fun τ => mtH S.n0 S.n1 (S.post x) H τ (S.cond x)) → bodyPost Γ.P fn (Ret fun v w' => ∃ x V', S.cond x ∧ v = (S.ret x).den Γ.Δ V'.ρ ∧ (S.ret x).bd S.n1 ∧ (∀ d, d < S.n0 → V'.ρ d = V.ρ d) ∧ HpOk Γ (entOf V w S.H S.n0) V' S.n1 (S.post x) w') .ret a w' := fun hq => by
    obtain ⟨l, ⟨x, h3⟩, h4, h5⟩ := results_ok hΓ hs' hq
    obtain ⟨τ1, e1, e2, e3, e4, e5⟩ := mt_ok (Δ := Γ.Δ) hn _ _ [] _ ⟨fun c y h => by simp [lk] at h⟩ h3
    obtain ⟨τ2, g1, g2, g3, g4⟩ := mtH_ok (Γ := Γ) hn e2 e3
    have hag := ag_of V' g2
    refine ⟨hs'.dfr, _, h5, _, rfl, x, V'.img S.n0 τ2, g3, ?_, e4, fun d hd => ?_, g4 _ _ _ _ hs'.hp⟩
    · exact (e5 _ _ (hag.sub g1)).symm
    · rw [hag.old d hd]
      exact hs'.old d hd
  cases e with
  | normal => exact fin hq
  | ret => exact fin hq
  | _ => exact (hq : Stuck _ _).no.elim
theorem fn_intro {Γ : Ctx} (hΓ : Γ.Ok) {f : FuncId} {fn : Func} {c : Code} {S : Spec} (n n0 : Nat) (js : List Nat) (hf : Γ.P.funcs[f]? = some fn) (hb : fn.body = some c) (hnm : (fn.name == "runtime.NumGoroutine") = false) (hnt : fn.ntmps = n) (hn0 : S.n0 = n0) (hck : chkFn S n = true)
    (h : vc Γ n n0 js c ⟨argE 0 S.args, n0, S.H⟩ (RetK Γ S fn.results.toList)) : Does Γ f S := (fn_calls hΓ n n0 js hf hb hnm hnt hn0 hck h).does
end Go.Zz
