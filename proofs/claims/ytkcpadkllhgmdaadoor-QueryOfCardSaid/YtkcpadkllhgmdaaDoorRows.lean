/-
  NARROWER THAN 'FOR EVERY INPUT', by the rows' own cells (each row's printed sentence says how): QueryOf: laid · QuadCells: laid · QuadLoose: laid.
  DERIVED. THE GIVEN ROWS OF THIS SEAT. 3 by the template 'for every input the law returns true; each argument reads behind the call as it read before'; 0 by the template 'total and deterministic' (their statements: YtkcpadkllhgmdaaDoorTotals.lean).
  GIVEN WITH THE SEED: the statements are not yours to turn. If you find one false, say at which input.
  Laid BY PROGRAM, IN A SANDBOX (cutbox-rows.mjs): the forced cells as the released guide's own fill.sh prints them over the translation 65b0bd0d940585db… (all of the seat's roots in one cut). By AI agents, Wed Nov 11 2026. No macro, syntax, notation, axiom, sorry.
-/
import Derived.Test.YtkcpadkllhgmdaaDoorChecked
import GoSem.Claim
import GoSem.ClaimJoined
import GoSem.ClaimMapViews
import Derived.JoinedTies
import Derived.KernelRfl
namespace Go.Proofs.YtkcpadkllhgmdaaDoor
/- THE CELL 'sum', in the pinned program and in every row, IS THE sha256 OF THE DUMP (.gsa) THAT YtkcpadkllhgmdaaDoorProg.lean LOADS. Nothing in Lean hashes anything: it is a label: what it is worth is what the hold of that sum in a sandbox is worth. -/
noncomputable def Tryd.pinned : Pinned := { name := "ytkcpadkllhgmdaadoor", sum := "65b0bd0d940585db621ef03f6af77b4955e503ef61eed34bddd1d16e31dcf188", checked := Tryd.checked }
namespace Rows
def none {H : Type} : Left H := { results := [], args := [] }

/- WHAT THE LISTED PACKAGE-LEVEL VARIABLES READ AS WHEN THE CALL BEGINS. Each datum BY PROGRAM (the guide's laid-datum.mjs) off the statement by which the dump's own 'gosem.cut.vars' lays the variable. In a bare row this is a premise. The card (YtkcpadkllhgmdaaDoorCards.lean) ties it to the program's text. -/
def laid_paddock_api_ErrRange {H : Type} : DataW H := .iface "*errors.errorString" (.ptr (.agg [.lit (.string [112, 97, 100, 100, 111, 99, 107, 58, 32, 114, 97, 110, 103, 101])]))
def laid_paddock_api_ErrFull {H : Type} : DataW H := .iface "*errors.errorString" (.ptr (.agg [.lit (.string [112, 97, 100, 100, 111, 99, 107, 58, 32, 102, 117, 108, 108])]))
def laid_paddock_api_ErrNone {H : Type} : DataW H := .iface "*errors.errorString" (.ptr (.agg [.lit (.string [112, 97, 100, 100, 111, 99, 107, 58, 32, 110, 111, 110, 101])]))
def laid_paddock_api_ErrExists {H : Type} : DataW H := .iface "*errors.errorString" (.ptr (.agg [.lit (.string [112, 97, 100, 100, 111, 99, 107, 58, 32, 101, 120, 105, 115, 116, 115])]))
def laid_paddock_api_ErrKind {H : Type} : DataW H := .iface "*errors.errorString" (.ptr (.agg [.lit (.string [112, 97, 100, 100, 111, 99, 107, 58, 32, 107, 105, 110, 100])]))
def laid_paddock_api_ErrState {H : Type} : DataW H := .iface "*errors.errorString" (.ptr (.agg [.lit (.string [112, 97, 100, 100, 111, 99, 107, 58, 32, 115, 116, 97, 116, 101])]))
def laid_paddock_api_ErrForm {H : Type} : DataW H := .iface "*errors.errorString" (.ptr (.agg [.lit (.string [112, 97, 100, 100, 111, 99, 107, 58, 32, 102, 111, 114, 109])]))
def laid_paddock_api_ErrBlocked {H : Type} : DataW H := .iface "*errors.errorString" (.ptr (.agg [.lit (.string [112, 97, 100, 100, 111, 99, 107, 58, 32, 98, 108, 111, 99, 107, 101, 100])]))
def laid_paddock_api_ErrPath {H : Type} : DataW H := .iface "*errors.errorString" (.ptr (.agg [.lit (.string [112, 97, 100, 100, 111, 99, 107, 58, 32, 112, 97, 116, 104])]))
def laid_paddock_api_ErrGoal {H : Type} : DataW H := .iface "*errors.errorString" (.ptr (.agg [.lit (.string [112, 97, 100, 100, 111, 99, 107, 58, 32, 103, 111, 97, 108])]))

/-- 'paddocklaw09.QueryOf': WHATEVER THE INPUT: true; the input reads as it did. -/
def queryOfSpec : ChangeSpec := { name := "queryOf", fn := fun _ => fun
  | [d1, d2, d3] => { results := [.lit (.bool true)], args := [d1, d2, d3] }
  | _ => none }
def queryOfRow : OpenClaim := { program := "ytkcpadkllhgmdaadoor", sum := "65b0bd0d940585db621ef03f6af77b4955e503ef61eed34bddd1d16e31dcf188", func := "paddock/paddocklaw09.QueryOf", spec := "queryOf", inPlace := ["internal/reflectlite.TypeOf"], unfollowed := true, recurses := true, named := ["paddock/api.ErrKind", "paddock/api.ErrRange", "paddock/api.ErrFull", "paddock/api.ErrNone", "paddock/api.ErrExists", "paddock/api.ErrState", "paddock/api.ErrForm", "paddock/api.ErrBlocked", "paddock/api.ErrPath", "paddock/api.ErrGoal"], plainKeys := false, apart := false, laid := [("paddock/api.ErrRange", laid_paddock_api_ErrRange), ("paddock/api.ErrFull", laid_paddock_api_ErrFull), ("paddock/api.ErrNone", laid_paddock_api_ErrNone), ("paddock/api.ErrExists", laid_paddock_api_ErrExists), ("paddock/api.ErrKind", laid_paddock_api_ErrKind), ("paddock/api.ErrState", laid_paddock_api_ErrState), ("paddock/api.ErrForm", laid_paddock_api_ErrForm), ("paddock/api.ErrBlocked", laid_paddock_api_ErrBlocked), ("paddock/api.ErrPath", laid_paddock_api_ErrPath), ("paddock/api.ErrGoal", laid_paddock_api_ErrGoal)] }
def QueryOfSaid : Prop := queryOfRow.holds Tryd.pinned (OpenSpec.ofChange queryOfSpec)

/-- ITS FALSE NEIGHBOUR: 'it returns false'. Refute it at one input. -/
def queryOfWrong : ChangeSpec := { name := "queryOf", fn := fun _ => fun
  | [d1, d2, d3] => { results := [.lit (.bool false)], args := [d1, d2, d3] }
  | _ => none }
def QueryOfWrongFalsely : Prop := queryOfRow.holds Tryd.pinned (OpenSpec.ofChange queryOfWrong)

/-- 'paddocklaw12.QuadCells': WHATEVER THE INPUT: true; the input reads as it did. -/
def quadCellsSpec : ChangeSpec := { name := "quadCells", fn := fun _ => fun
  | [d] => { results := [.lit (.bool true)], args := [d] }
  | _ => none }
def quadCellsRow : OpenClaim := { program := "ytkcpadkllhgmdaadoor", sum := "65b0bd0d940585db621ef03f6af77b4955e503ef61eed34bddd1d16e31dcf188", func := "paddock/paddocklaw12.QuadCells", spec := "quadCells", inPlace := ["internal/reflectlite.TypeOf"], unfollowed := true, recurses := true, named := ["paddock/api.ErrForm", "paddock/api.ErrRange", "paddock/api.ErrFull", "paddock/api.ErrNone", "paddock/api.ErrExists", "paddock/api.ErrKind", "paddock/api.ErrState", "paddock/api.ErrBlocked", "paddock/api.ErrPath", "paddock/api.ErrGoal"], plainKeys := false, apart := false, laid := [("paddock/api.ErrRange", laid_paddock_api_ErrRange), ("paddock/api.ErrFull", laid_paddock_api_ErrFull), ("paddock/api.ErrNone", laid_paddock_api_ErrNone), ("paddock/api.ErrExists", laid_paddock_api_ErrExists), ("paddock/api.ErrKind", laid_paddock_api_ErrKind), ("paddock/api.ErrState", laid_paddock_api_ErrState), ("paddock/api.ErrForm", laid_paddock_api_ErrForm), ("paddock/api.ErrBlocked", laid_paddock_api_ErrBlocked), ("paddock/api.ErrPath", laid_paddock_api_ErrPath), ("paddock/api.ErrGoal", laid_paddock_api_ErrGoal)] }
def QuadCellsSaid : Prop := quadCellsRow.holds Tryd.pinned (OpenSpec.ofChange quadCellsSpec)

/-- ITS FALSE NEIGHBOUR: 'it returns false'. Refute it at one input. -/
def quadCellsWrong : ChangeSpec := { name := "quadCells", fn := fun _ => fun
  | [d] => { results := [.lit (.bool false)], args := [d] }
  | _ => none }
def QuadCellsWrongFalsely : Prop := quadCellsRow.holds Tryd.pinned (OpenSpec.ofChange quadCellsWrong)

/-- 'paddocklaw12.QuadLoose': WHATEVER THE INPUT: true; the input reads as it did. -/
def quadLooseSpec : ChangeSpec := { name := "quadLoose", fn := fun _ => fun
  | [d] => { results := [.lit (.bool true)], args := [d] }
  | _ => none }
def quadLooseRow : OpenClaim := { program := "ytkcpadkllhgmdaadoor", sum := "65b0bd0d940585db621ef03f6af77b4955e503ef61eed34bddd1d16e31dcf188", func := "paddock/paddocklaw12.QuadLoose", spec := "quadLoose", inPlace := ["internal/reflectlite.TypeOf"], unfollowed := true, recurses := true, named := ["paddock/api.ErrForm", "paddock/api.ErrRange", "paddock/api.ErrFull", "paddock/api.ErrNone", "paddock/api.ErrExists", "paddock/api.ErrKind", "paddock/api.ErrState", "paddock/api.ErrBlocked", "paddock/api.ErrPath", "paddock/api.ErrGoal"], plainKeys := false, apart := false, laid := [("paddock/api.ErrRange", laid_paddock_api_ErrRange), ("paddock/api.ErrFull", laid_paddock_api_ErrFull), ("paddock/api.ErrNone", laid_paddock_api_ErrNone), ("paddock/api.ErrExists", laid_paddock_api_ErrExists), ("paddock/api.ErrKind", laid_paddock_api_ErrKind), ("paddock/api.ErrState", laid_paddock_api_ErrState), ("paddock/api.ErrForm", laid_paddock_api_ErrForm), ("paddock/api.ErrBlocked", laid_paddock_api_ErrBlocked), ("paddock/api.ErrPath", laid_paddock_api_ErrPath), ("paddock/api.ErrGoal", laid_paddock_api_ErrGoal)] }
def QuadLooseSaid : Prop := quadLooseRow.holds Tryd.pinned (OpenSpec.ofChange quadLooseSpec)

/-- ITS FALSE NEIGHBOUR: 'it returns false'. Refute it at one input. -/
def quadLooseWrong : ChangeSpec := { name := "quadLoose", fn := fun _ => fun
  | [d] => { results := [.lit (.bool false)], args := [d] }
  | _ => none }
def QuadLooseWrongFalsely : Prop := quadLooseRow.holds Tryd.pinned (OpenSpec.ofChange quadLooseWrong)

/- THE SECOND FORM. 'bulk': how many values and letters a reading holds, each counted each time it is reached (what is shared counts as often as it is met; a slice's spare places count too). A statement '..UptoSaid' is the law's where the arguments, and the package variables that the reading takes, are together of bulk at most 1048576: NARROWER than '..Said'. Prove '..Said' where nothing that the law and all that it calls make is longer than what came in: it says more and counts as full. Else prove '..UptoSaid'. A law counts once. -/
mutual
def uptoBulk {H : Type} : DataW H → Nat
  | .lit (.string bytes) => bytes.length + 1
  | .lit _ => 1
  | .nil => 1
  | .ptr d => uptoBulk d + 1
  | .slice elems spare => uptoBulkAll elems + uptoBulkAll spare + 1
  | .agg parts => uptoBulkAll parts + 1
  | .iface _ d => uptoBulk d + 1
  | .map entries => uptoBulkEntries entries + 1
  | .held _ => 1
def uptoBulkAll {H : Type} : List (DataW H) → Nat
  | [] => 0
  | d :: r => uptoBulk d + uptoBulkAll r
def uptoBulkEntries {H : Type} : List (Lit × DataW H) → Nat
  | [] => 0
  | x :: r => uptoBulkEntry x + uptoBulkEntries r
def uptoBulkEntry {H : Type} : Lit × DataW H → Nat
  | (.string bytes, d) => bytes.length + uptoBulk d + 1
  | (_, d) => uptoBulk d + 1
 end
def uptoSmall : (H : Type) → List (DataW H) → Bool := fun _ ds => decide (uptoBulkAll ds ≤ 1048576)
def OpenSpec.upto (s : _root_.Go.ChangeSpec) : _root_.Go.OpenSpec := { _root_.Go.OpenSpec.ofChange s with cond := some uptoSmall }

/-- 'paddocklaw09.QueryOf', WHERE WHAT IT READS IS OF BULK AT MOST 1048576: true; the input reads as it did. -/
def queryOfUptoRow : OpenClaim := { program := "ytkcpadkllhgmdaadoor", sum := "65b0bd0d940585db621ef03f6af77b4955e503ef61eed34bddd1d16e31dcf188", func := "paddock/paddocklaw09.QueryOf", spec := "queryOf", inPlace := ["internal/reflectlite.TypeOf"], unfollowed := true, recurses := true, named := ["paddock/api.ErrKind", "paddock/api.ErrRange", "paddock/api.ErrFull", "paddock/api.ErrNone", "paddock/api.ErrExists", "paddock/api.ErrState", "paddock/api.ErrForm", "paddock/api.ErrBlocked", "paddock/api.ErrPath", "paddock/api.ErrGoal"], plainKeys := false, apart := false, laid := [("paddock/api.ErrRange", laid_paddock_api_ErrRange), ("paddock/api.ErrFull", laid_paddock_api_ErrFull), ("paddock/api.ErrNone", laid_paddock_api_ErrNone), ("paddock/api.ErrExists", laid_paddock_api_ErrExists), ("paddock/api.ErrKind", laid_paddock_api_ErrKind), ("paddock/api.ErrState", laid_paddock_api_ErrState), ("paddock/api.ErrForm", laid_paddock_api_ErrForm), ("paddock/api.ErrBlocked", laid_paddock_api_ErrBlocked), ("paddock/api.ErrPath", laid_paddock_api_ErrPath), ("paddock/api.ErrGoal", laid_paddock_api_ErrGoal)], narrowed := true }
def QueryOfUptoSaid : Prop := queryOfUptoRow.holds Tryd.pinned (OpenSpec.upto queryOfSpec)

/-- 'paddocklaw12.QuadCells', WHERE WHAT IT READS IS OF BULK AT MOST 1048576: true; the input reads as it did. -/
def quadCellsUptoRow : OpenClaim := { program := "ytkcpadkllhgmdaadoor", sum := "65b0bd0d940585db621ef03f6af77b4955e503ef61eed34bddd1d16e31dcf188", func := "paddock/paddocklaw12.QuadCells", spec := "quadCells", inPlace := ["internal/reflectlite.TypeOf"], unfollowed := true, recurses := true, named := ["paddock/api.ErrForm", "paddock/api.ErrRange", "paddock/api.ErrFull", "paddock/api.ErrNone", "paddock/api.ErrExists", "paddock/api.ErrKind", "paddock/api.ErrState", "paddock/api.ErrBlocked", "paddock/api.ErrPath", "paddock/api.ErrGoal"], plainKeys := false, apart := false, laid := [("paddock/api.ErrRange", laid_paddock_api_ErrRange), ("paddock/api.ErrFull", laid_paddock_api_ErrFull), ("paddock/api.ErrNone", laid_paddock_api_ErrNone), ("paddock/api.ErrExists", laid_paddock_api_ErrExists), ("paddock/api.ErrKind", laid_paddock_api_ErrKind), ("paddock/api.ErrState", laid_paddock_api_ErrState), ("paddock/api.ErrForm", laid_paddock_api_ErrForm), ("paddock/api.ErrBlocked", laid_paddock_api_ErrBlocked), ("paddock/api.ErrPath", laid_paddock_api_ErrPath), ("paddock/api.ErrGoal", laid_paddock_api_ErrGoal)], narrowed := true }
def QuadCellsUptoSaid : Prop := quadCellsUptoRow.holds Tryd.pinned (OpenSpec.upto quadCellsSpec)

/-- 'paddocklaw12.QuadLoose', WHERE WHAT IT READS IS OF BULK AT MOST 1048576: true; the input reads as it did. -/
def quadLooseUptoRow : OpenClaim := { program := "ytkcpadkllhgmdaadoor", sum := "65b0bd0d940585db621ef03f6af77b4955e503ef61eed34bddd1d16e31dcf188", func := "paddock/paddocklaw12.QuadLoose", spec := "quadLoose", inPlace := ["internal/reflectlite.TypeOf"], unfollowed := true, recurses := true, named := ["paddock/api.ErrForm", "paddock/api.ErrRange", "paddock/api.ErrFull", "paddock/api.ErrNone", "paddock/api.ErrExists", "paddock/api.ErrKind", "paddock/api.ErrState", "paddock/api.ErrBlocked", "paddock/api.ErrPath", "paddock/api.ErrGoal"], plainKeys := false, apart := false, laid := [("paddock/api.ErrRange", laid_paddock_api_ErrRange), ("paddock/api.ErrFull", laid_paddock_api_ErrFull), ("paddock/api.ErrNone", laid_paddock_api_ErrNone), ("paddock/api.ErrExists", laid_paddock_api_ErrExists), ("paddock/api.ErrKind", laid_paddock_api_ErrKind), ("paddock/api.ErrState", laid_paddock_api_ErrState), ("paddock/api.ErrForm", laid_paddock_api_ErrForm), ("paddock/api.ErrBlocked", laid_paddock_api_ErrBlocked), ("paddock/api.ErrPath", laid_paddock_api_ErrPath), ("paddock/api.ErrGoal", laid_paddock_api_ErrGoal)], narrowed := true }
def QuadLooseUptoSaid : Prop := quadLooseUptoRow.holds Tryd.pinned (OpenSpec.upto quadLooseSpec)

end Rows
end Go.Proofs.YtkcpadkllhgmdaaDoor
