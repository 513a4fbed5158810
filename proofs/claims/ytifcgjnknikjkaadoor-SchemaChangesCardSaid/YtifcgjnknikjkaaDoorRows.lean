/-
  NARROWER THAN 'FOR EVERY INPUT', by the rows' own cells (each row's printed sentence says how): QueryOf: laid · QuadWalks: laid · SchemaWay: laid · SchemaChanges: laid · SchemaChecks: laid · SchemaRows: laid · SchemaAsks: laid · SchemaMoves: laid · SchemaTurns: laid.
  DERIVED. THE GIVEN ROWS OF THIS SEAT. 9 by the template 'for every input the law returns true; each argument reads behind the call as it read before'; 0 by the template 'total and deterministic' (their statements: YtifcgjnknikjkaaDoorTotals.lean).
  GIVEN WITH THE SEED: the statements are not yours to turn. If you find one false, say at which input.
  Laid BY PROGRAM, IN A SANDBOX (cutbox-rows.mjs): the forced cells as the released guide's own fill.sh prints them over the translation b3967ac7cce5f55e… (all of the seat's roots in one cut). By AI agents, Wed Nov 11 2026. No macro, syntax, notation, axiom, sorry.
-/
import Derived.Test.YtifcgjnknikjkaaDoorChecked
import GoSem.Claim
import GoSem.ClaimJoined
import GoSem.ClaimMapViews
import Derived.JoinedTies
import Derived.KernelRfl
namespace Go.Proofs.YtifcgjnknikjkaaDoor
/- THE CELL 'sum', in the pinned program and in every row, IS THE sha256 OF THE DUMP (.gsa) THAT YtifcgjnknikjkaaDoorProg.lean LOADS. Nothing in Lean hashes anything: it is a label: what it is worth is what the hold of that sum in a sandbox is worth. -/
noncomputable def Tryd.pinned : Pinned := { name := "ytifcgjnknikjkaadoor", sum := "b3967ac7cce5f55e73c4f5fc3ca0b5c6f8700f7ce86ee1cf21f4af35e80fcd2c", checked := Tryd.checked }
namespace Rows
def none {H : Type} : Left H := { results := [], args := [] }

/- WHAT THE LISTED PACKAGE-LEVEL VARIABLES READ AS WHEN THE CALL BEGINS. Each datum BY PROGRAM (the guide's laid-datum.mjs) off the statement by which the dump's own 'gosem.cut.vars' lays the variable. In a bare row this is a premise. The card (YtifcgjnknikjkaaDoorCards.lean) ties it to the program's text. -/
def laid_paddock_api_ErrRange {H : Type} : DataW H := .iface "*errors.errorString" (.ptr (.agg [.lit (.string [112, 97, 100, 100, 111, 99, 107, 58, 32, 114, 97, 110, 103, 101])]))
def laid_paddock_api_ErrFull {H : Type} : DataW H := .iface "*errors.errorString" (.ptr (.agg [.lit (.string [112, 97, 100, 100, 111, 99, 107, 58, 32, 102, 117, 108, 108])]))
def laid_paddock_api_ErrNone {H : Type} : DataW H := .iface "*errors.errorString" (.ptr (.agg [.lit (.string [112, 97, 100, 100, 111, 99, 107, 58, 32, 110, 111, 110, 101])]))
def laid_paddock_api_ErrExists {H : Type} : DataW H := .iface "*errors.errorString" (.ptr (.agg [.lit (.string [112, 97, 100, 100, 111, 99, 107, 58, 32, 101, 120, 105, 115, 116, 115])]))
def laid_paddock_api_ErrKind {H : Type} : DataW H := .iface "*errors.errorString" (.ptr (.agg [.lit (.string [112, 97, 100, 100, 111, 99, 107, 58, 32, 107, 105, 110, 100])]))
def laid_paddock_api_ErrState {H : Type} : DataW H := .iface "*errors.errorString" (.ptr (.agg [.lit (.string [112, 97, 100, 100, 111, 99, 107, 58, 32, 115, 116, 97, 116, 101])]))
def laid_paddock_api_ErrForm {H : Type} : DataW H := .iface "*errors.errorString" (.ptr (.agg [.lit (.string [112, 97, 100, 100, 111, 99, 107, 58, 32, 102, 111, 114, 109])]))
def laid_paddock_api_ErrBlocked {H : Type} : DataW H := .iface "*errors.errorString" (.ptr (.agg [.lit (.string [112, 97, 100, 100, 111, 99, 107, 58, 32, 98, 108, 111, 99, 107, 101, 100])]))
def laid_paddock_api_ErrPath {H : Type} : DataW H := .iface "*errors.errorString" (.ptr (.agg [.lit (.string [112, 97, 100, 100, 111, 99, 107, 58, 32, 112, 97, 116, 104])]))
def laid_paddock_api_ErrGoal {H : Type} : DataW H := .iface "*errors.errorString" (.ptr (.agg [.lit (.string [112, 97, 100, 100, 111, 99, 107, 58, 32, 103, 111, 97, 108])]))

/-- 'paddocklaw09.QueryOf': WHATEVER THE INPUT: true; the input reads as it did. -/
def queryOfSpec : ChangeSpec := { name := "queryOf", fn := fun _ => fun
  | [d1, d2, d3] => { results := [.lit (.bool true)], args := [d1, d2, d3] }
  | _ => none }
def queryOfRow : OpenClaim := { program := "ytifcgjnknikjkaadoor", sum := "b3967ac7cce5f55e73c4f5fc3ca0b5c6f8700f7ce86ee1cf21f4af35e80fcd2c", func := "paddock/paddocklaw09.QueryOf", spec := "queryOf", inPlace := ["internal/reflectlite.TypeOf"], unfollowed := true, recurses := true, named := ["paddock/api.ErrKind", "paddock/api.ErrRange", "paddock/api.ErrFull", "paddock/api.ErrNone", "paddock/api.ErrExists", "paddock/api.ErrState", "paddock/api.ErrForm", "paddock/api.ErrBlocked", "paddock/api.ErrPath", "paddock/api.ErrGoal"], plainKeys := false, apart := false, laid := [("paddock/api.ErrRange", laid_paddock_api_ErrRange), ("paddock/api.ErrFull", laid_paddock_api_ErrFull), ("paddock/api.ErrNone", laid_paddock_api_ErrNone), ("paddock/api.ErrExists", laid_paddock_api_ErrExists), ("paddock/api.ErrKind", laid_paddock_api_ErrKind), ("paddock/api.ErrState", laid_paddock_api_ErrState), ("paddock/api.ErrForm", laid_paddock_api_ErrForm), ("paddock/api.ErrBlocked", laid_paddock_api_ErrBlocked), ("paddock/api.ErrPath", laid_paddock_api_ErrPath), ("paddock/api.ErrGoal", laid_paddock_api_ErrGoal)] }
def QueryOfSaid : Prop := queryOfRow.holds Tryd.pinned (OpenSpec.ofChange queryOfSpec)

/-- ITS FALSE NEIGHBOUR: 'it returns false'. Refute it at one input. -/
def queryOfWrong : ChangeSpec := { name := "queryOf", fn := fun _ => fun
  | [d1, d2, d3] => { results := [.lit (.bool false)], args := [d1, d2, d3] }
  | _ => none }
def QueryOfWrongFalsely : Prop := queryOfRow.holds Tryd.pinned (OpenSpec.ofChange queryOfWrong)

/-- 'paddocklaw12.QuadWalks': WHATEVER THE INPUT: true; the input reads as it did. -/
def quadWalksSpec : ChangeSpec := { name := "quadWalks", fn := fun _ => fun
  | [d1, d2, d3] => { results := [.lit (.bool true)], args := [d1, d2, d3] }
  | _ => none }
def quadWalksRow : OpenClaim := { program := "ytifcgjnknikjkaadoor", sum := "b3967ac7cce5f55e73c4f5fc3ca0b5c6f8700f7ce86ee1cf21f4af35e80fcd2c", func := "paddock/paddocklaw12.QuadWalks", spec := "quadWalks", unfollowed := true, recurses := true, named := ["paddock/api.ErrForm", "paddock/api.ErrRange", "paddock/api.ErrNone"], plainKeys := false, apart := false, laid := [("paddock/api.ErrRange", laid_paddock_api_ErrRange), ("paddock/api.ErrNone", laid_paddock_api_ErrNone), ("paddock/api.ErrForm", laid_paddock_api_ErrForm)] }
def QuadWalksSaid : Prop := quadWalksRow.holds Tryd.pinned (OpenSpec.ofChange quadWalksSpec)

/-- ITS FALSE NEIGHBOUR: 'it returns false'. Refute it at one input. -/
def quadWalksWrong : ChangeSpec := { name := "quadWalks", fn := fun _ => fun
  | [d1, d2, d3] => { results := [.lit (.bool false)], args := [d1, d2, d3] }
  | _ => none }
def QuadWalksWrongFalsely : Prop := quadWalksRow.holds Tryd.pinned (OpenSpec.ofChange quadWalksWrong)

/-- 'paddocklaw06.SchemaWay': WHATEVER THE INPUT: true; the input reads as it did. -/
def schemaWaySpec : ChangeSpec := { name := "schemaWay", fn := fun _ => fun
  | [d] => { results := [.lit (.bool true)], args := [d] }
  | _ => none }
def schemaWayRow : OpenClaim := { program := "ytifcgjnknikjkaadoor", sum := "b3967ac7cce5f55e73c4f5fc3ca0b5c6f8700f7ce86ee1cf21f4af35e80fcd2c", func := "paddock/paddocklaw06.SchemaWay", spec := "schemaWay", unfollowed := true, recurses := true, named := ["paddock/api.ErrExists", "paddock/api.ErrKind", "paddock/api.ErrRange"], plainKeys := false, apart := false, laid := [("paddock/api.ErrRange", laid_paddock_api_ErrRange), ("paddock/api.ErrExists", laid_paddock_api_ErrExists), ("paddock/api.ErrKind", laid_paddock_api_ErrKind)] }
def SchemaWaySaid : Prop := schemaWayRow.holds Tryd.pinned (OpenSpec.ofChange schemaWaySpec)

/-- ITS FALSE NEIGHBOUR: 'it returns false'. Refute it at one input. -/
def schemaWayWrong : ChangeSpec := { name := "schemaWay", fn := fun _ => fun
  | [d] => { results := [.lit (.bool false)], args := [d] }
  | _ => none }
def SchemaWayWrongFalsely : Prop := schemaWayRow.holds Tryd.pinned (OpenSpec.ofChange schemaWayWrong)

/-- 'paddocklaw06.SchemaChanges': WHATEVER THE INPUT: true; the input reads as it did. -/
def schemaChangesSpec : ChangeSpec := { name := "schemaChanges", fn := fun _ => fun
  | [d1, d2] => { results := [.lit (.bool true)], args := [d1, d2] }
  | _ => none }
def schemaChangesRow : OpenClaim := { program := "ytifcgjnknikjkaadoor", sum := "b3967ac7cce5f55e73c4f5fc3ca0b5c6f8700f7ce86ee1cf21f4af35e80fcd2c", func := "paddock/paddocklaw06.SchemaChanges", spec := "schemaChanges", unfollowed := true, recurses := true, named := ["paddock/api.ErrExists", "paddock/api.ErrKind", "paddock/api.ErrRange"], plainKeys := false, apart := false, laid := [("paddock/api.ErrRange", laid_paddock_api_ErrRange), ("paddock/api.ErrExists", laid_paddock_api_ErrExists), ("paddock/api.ErrKind", laid_paddock_api_ErrKind)] }
def SchemaChangesSaid : Prop := schemaChangesRow.holds Tryd.pinned (OpenSpec.ofChange schemaChangesSpec)

/-- ITS FALSE NEIGHBOUR: 'it returns false'. Refute it at one input. -/
def schemaChangesWrong : ChangeSpec := { name := "schemaChanges", fn := fun _ => fun
  | [d1, d2] => { results := [.lit (.bool false)], args := [d1, d2] }
  | _ => none }
def SchemaChangesWrongFalsely : Prop := schemaChangesRow.holds Tryd.pinned (OpenSpec.ofChange schemaChangesWrong)

/-- 'paddocklaw06.SchemaChecks': WHATEVER THE INPUT: true; the input reads as it did. -/
def schemaChecksSpec : ChangeSpec := { name := "schemaChecks", fn := fun _ => fun
  | [d] => { results := [.lit (.bool true)], args := [d] }
  | _ => none }
def schemaChecksRow : OpenClaim := { program := "ytifcgjnknikjkaadoor", sum := "b3967ac7cce5f55e73c4f5fc3ca0b5c6f8700f7ce86ee1cf21f4af35e80fcd2c", func := "paddock/paddocklaw06.SchemaChecks", spec := "schemaChecks", inPlace := ["internal/reflectlite.TypeOf"], unfollowed := true, recurses := true, named := ["paddock/api.ErrExists", "paddock/api.ErrKind", "paddock/api.ErrRange", "paddock/api.ErrFull", "paddock/api.ErrNone", "paddock/api.ErrState", "paddock/api.ErrForm", "paddock/api.ErrBlocked", "paddock/api.ErrPath", "paddock/api.ErrGoal"], plainKeys := false, apart := false, laid := [("paddock/api.ErrRange", laid_paddock_api_ErrRange), ("paddock/api.ErrFull", laid_paddock_api_ErrFull), ("paddock/api.ErrNone", laid_paddock_api_ErrNone), ("paddock/api.ErrExists", laid_paddock_api_ErrExists), ("paddock/api.ErrKind", laid_paddock_api_ErrKind), ("paddock/api.ErrState", laid_paddock_api_ErrState), ("paddock/api.ErrForm", laid_paddock_api_ErrForm), ("paddock/api.ErrBlocked", laid_paddock_api_ErrBlocked), ("paddock/api.ErrPath", laid_paddock_api_ErrPath), ("paddock/api.ErrGoal", laid_paddock_api_ErrGoal)] }
def SchemaChecksSaid : Prop := schemaChecksRow.holds Tryd.pinned (OpenSpec.ofChange schemaChecksSpec)

/-- ITS FALSE NEIGHBOUR: 'it returns false'. Refute it at one input. -/
def schemaChecksWrong : ChangeSpec := { name := "schemaChecks", fn := fun _ => fun
  | [d] => { results := [.lit (.bool false)], args := [d] }
  | _ => none }
def SchemaChecksWrongFalsely : Prop := schemaChecksRow.holds Tryd.pinned (OpenSpec.ofChange schemaChecksWrong)

/-- 'paddocklaw06.SchemaRows': WHATEVER THE INPUT: true; the input reads as it did. -/
def schemaRowsSpec : ChangeSpec := { name := "schemaRows", fn := fun _ => fun
  | [d] => { results := [.lit (.bool true)], args := [d] }
  | _ => none }
def schemaRowsRow : OpenClaim := { program := "ytifcgjnknikjkaadoor", sum := "b3967ac7cce5f55e73c4f5fc3ca0b5c6f8700f7ce86ee1cf21f4af35e80fcd2c", func := "paddock/paddocklaw06.SchemaRows", spec := "schemaRows", inPlace := ["internal/reflectlite.TypeOf"], unfollowed := true, recurses := true, named := ["paddock/api.ErrExists", "paddock/api.ErrKind", "paddock/api.ErrRange", "paddock/api.ErrFull", "paddock/api.ErrNone", "paddock/api.ErrState", "paddock/api.ErrForm", "paddock/api.ErrBlocked", "paddock/api.ErrPath", "paddock/api.ErrGoal"], plainKeys := false, apart := false, laid := [("paddock/api.ErrRange", laid_paddock_api_ErrRange), ("paddock/api.ErrFull", laid_paddock_api_ErrFull), ("paddock/api.ErrNone", laid_paddock_api_ErrNone), ("paddock/api.ErrExists", laid_paddock_api_ErrExists), ("paddock/api.ErrKind", laid_paddock_api_ErrKind), ("paddock/api.ErrState", laid_paddock_api_ErrState), ("paddock/api.ErrForm", laid_paddock_api_ErrForm), ("paddock/api.ErrBlocked", laid_paddock_api_ErrBlocked), ("paddock/api.ErrPath", laid_paddock_api_ErrPath), ("paddock/api.ErrGoal", laid_paddock_api_ErrGoal)] }
def SchemaRowsSaid : Prop := schemaRowsRow.holds Tryd.pinned (OpenSpec.ofChange schemaRowsSpec)

/-- ITS FALSE NEIGHBOUR: 'it returns false'. Refute it at one input. -/
def schemaRowsWrong : ChangeSpec := { name := "schemaRows", fn := fun _ => fun
  | [d] => { results := [.lit (.bool false)], args := [d] }
  | _ => none }
def SchemaRowsWrongFalsely : Prop := schemaRowsRow.holds Tryd.pinned (OpenSpec.ofChange schemaRowsWrong)

/-- 'paddocklaw06.SchemaAsks': WHATEVER THE INPUT: true; the input reads as it did. -/
def schemaAsksSpec : ChangeSpec := { name := "schemaAsks", fn := fun _ => fun
  | [d1, d2] => { results := [.lit (.bool true)], args := [d1, d2] }
  | _ => none }
def schemaAsksRow : OpenClaim := { program := "ytifcgjnknikjkaadoor", sum := "b3967ac7cce5f55e73c4f5fc3ca0b5c6f8700f7ce86ee1cf21f4af35e80fcd2c", func := "paddock/paddocklaw06.SchemaAsks", spec := "schemaAsks", unfollowed := true, recurses := true, named := ["paddock/api.ErrExists", "paddock/api.ErrKind", "paddock/api.ErrRange"], plainKeys := false, apart := false, laid := [("paddock/api.ErrRange", laid_paddock_api_ErrRange), ("paddock/api.ErrExists", laid_paddock_api_ErrExists), ("paddock/api.ErrKind", laid_paddock_api_ErrKind)] }
def SchemaAsksSaid : Prop := schemaAsksRow.holds Tryd.pinned (OpenSpec.ofChange schemaAsksSpec)

/-- ITS FALSE NEIGHBOUR: 'it returns false'. Refute it at one input. -/
def schemaAsksWrong : ChangeSpec := { name := "schemaAsks", fn := fun _ => fun
  | [d1, d2] => { results := [.lit (.bool false)], args := [d1, d2] }
  | _ => none }
def SchemaAsksWrongFalsely : Prop := schemaAsksRow.holds Tryd.pinned (OpenSpec.ofChange schemaAsksWrong)

/-- 'paddocklaw06.SchemaMoves': WHATEVER THE INPUT: true; the input reads as it did. -/
def schemaMovesSpec : ChangeSpec := { name := "schemaMoves", fn := fun _ => fun
  | [d1, d2, d3] => { results := [.lit (.bool true)], args := [d1, d2, d3] }
  | _ => none }
def schemaMovesRow : OpenClaim := { program := "ytifcgjnknikjkaadoor", sum := "b3967ac7cce5f55e73c4f5fc3ca0b5c6f8700f7ce86ee1cf21f4af35e80fcd2c", func := "paddock/paddocklaw06.SchemaMoves", spec := "schemaMoves", inPlace := ["internal/reflectlite.TypeOf"], unfollowed := true, recurses := true, named := ["paddock/api.ErrExists", "paddock/api.ErrKind", "paddock/api.ErrRange", "paddock/api.ErrFull", "paddock/api.ErrNone", "paddock/api.ErrState", "paddock/api.ErrForm", "paddock/api.ErrBlocked", "paddock/api.ErrPath", "paddock/api.ErrGoal"], plainKeys := false, apart := false, laid := [("paddock/api.ErrRange", laid_paddock_api_ErrRange), ("paddock/api.ErrFull", laid_paddock_api_ErrFull), ("paddock/api.ErrNone", laid_paddock_api_ErrNone), ("paddock/api.ErrExists", laid_paddock_api_ErrExists), ("paddock/api.ErrKind", laid_paddock_api_ErrKind), ("paddock/api.ErrState", laid_paddock_api_ErrState), ("paddock/api.ErrForm", laid_paddock_api_ErrForm), ("paddock/api.ErrBlocked", laid_paddock_api_ErrBlocked), ("paddock/api.ErrPath", laid_paddock_api_ErrPath), ("paddock/api.ErrGoal", laid_paddock_api_ErrGoal)] }
def SchemaMovesSaid : Prop := schemaMovesRow.holds Tryd.pinned (OpenSpec.ofChange schemaMovesSpec)

/-- ITS FALSE NEIGHBOUR: 'it returns false'. Refute it at one input. -/
def schemaMovesWrong : ChangeSpec := { name := "schemaMoves", fn := fun _ => fun
  | [d1, d2, d3] => { results := [.lit (.bool false)], args := [d1, d2, d3] }
  | _ => none }
def SchemaMovesWrongFalsely : Prop := schemaMovesRow.holds Tryd.pinned (OpenSpec.ofChange schemaMovesWrong)

/-- 'paddocklaw06.SchemaTurns': WHATEVER THE INPUT: true; the input reads as it did. -/
def schemaTurnsSpec : ChangeSpec := { name := "schemaTurns", fn := fun _ => fun
  | [d1, d2] => { results := [.lit (.bool true)], args := [d1, d2] }
  | _ => none }
def schemaTurnsRow : OpenClaim := { program := "ytifcgjnknikjkaadoor", sum := "b3967ac7cce5f55e73c4f5fc3ca0b5c6f8700f7ce86ee1cf21f4af35e80fcd2c", func := "paddock/paddocklaw06.SchemaTurns", spec := "schemaTurns", unfollowed := true, recurses := true, named := ["paddock/api.ErrExists", "paddock/api.ErrKind", "paddock/api.ErrRange"], plainKeys := false, apart := false, laid := [("paddock/api.ErrRange", laid_paddock_api_ErrRange), ("paddock/api.ErrExists", laid_paddock_api_ErrExists), ("paddock/api.ErrKind", laid_paddock_api_ErrKind)] }
def SchemaTurnsSaid : Prop := schemaTurnsRow.holds Tryd.pinned (OpenSpec.ofChange schemaTurnsSpec)

/-- ITS FALSE NEIGHBOUR: 'it returns false'. Refute it at one input. -/
def schemaTurnsWrong : ChangeSpec := { name := "schemaTurns", fn := fun _ => fun
  | [d1, d2] => { results := [.lit (.bool false)], args := [d1, d2] }
  | _ => none }
def SchemaTurnsWrongFalsely : Prop := schemaTurnsRow.holds Tryd.pinned (OpenSpec.ofChange schemaTurnsWrong)

/- THE SECOND FORM. 'bulk': how many values and letters a reading holds, each counted each time it is reached (what is shared counts as often as it is met; a slice's spare places count too). A statement '..UptoSaid' is the law's where the arguments, and the package variables that the reading takes, are together of bulk at most 1048576: NARROWER than '..Said'. Prove '..Said' where nothing that the law and all that it calls make is longer than what came in: it says more and counts as full. Else prove '..UptoSaid'. A law counts once. -/
mutual
def uptoBulk {H : Type} : DataW H → Nat
  | .lit (.string bytes) => bytes.length + 1
  | .lit _ => 1
  | .nil => 1
  | .ptr d => uptoBulk d + 1
  | .slice elems spare => uptoBulkAll elems + uptoBulkAll spare + 1
  | .agg parts => uptoBulkAll parts + 1
  | .iface _ d => uptoBulk d + 1
  | .map entries => uptoBulkEntries entries + 1
  | .held _ => 1
def uptoBulkAll {H : Type} : List (DataW H) → Nat
  | [] => 0
  | d :: r => uptoBulk d + uptoBulkAll r
def uptoBulkEntries {H : Type} : List (Lit × DataW H) → Nat
  | [] => 0
  | x :: r => uptoBulkEntry x + uptoBulkEntries r
def uptoBulkEntry {H : Type} : Lit × DataW H → Nat
  | (.string bytes, d) => bytes.length + uptoBulk d + 1
  | (_, d) => uptoBulk d + 1
 end
def uptoSmall : (H : Type) → List (DataW H) → Bool := fun _ ds => decide (uptoBulkAll ds ≤ 1048576)
def OpenSpec.upto (s : _root_.Go.ChangeSpec) : _root_.Go.OpenSpec := { _root_.Go.OpenSpec.ofChange s with cond := some uptoSmall }

/-- 'paddocklaw09.QueryOf', WHERE WHAT IT READS IS OF BULK AT MOST 1048576: true; the input reads as it did. -/
def queryOfUptoRow : OpenClaim := { program := "ytifcgjnknikjkaadoor", sum := "b3967ac7cce5f55e73c4f5fc3ca0b5c6f8700f7ce86ee1cf21f4af35e80fcd2c", func := "paddock/paddocklaw09.QueryOf", spec := "queryOf", inPlace := ["internal/reflectlite.TypeOf"], unfollowed := true, recurses := true, named := ["paddock/api.ErrKind", "paddock/api.ErrRange", "paddock/api.ErrFull", "paddock/api.ErrNone", "paddock/api.ErrExists", "paddock/api.ErrState", "paddock/api.ErrForm", "paddock/api.ErrBlocked", "paddock/api.ErrPath", "paddock/api.ErrGoal"], plainKeys := false, apart := false, laid := [("paddock/api.ErrRange", laid_paddock_api_ErrRange), ("paddock/api.ErrFull", laid_paddock_api_ErrFull), ("paddock/api.ErrNone", laid_paddock_api_ErrNone), ("paddock/api.ErrExists", laid_paddock_api_ErrExists), ("paddock/api.ErrKind", laid_paddock_api_ErrKind), ("paddock/api.ErrState", laid_paddock_api_ErrState), ("paddock/api.ErrForm", laid_paddock_api_ErrForm), ("paddock/api.ErrBlocked", laid_paddock_api_ErrBlocked), ("paddock/api.ErrPath", laid_paddock_api_ErrPath), ("paddock/api.ErrGoal", laid_paddock_api_ErrGoal)], narrowed := true }
def QueryOfUptoSaid : Prop := queryOfUptoRow.holds Tryd.pinned (OpenSpec.upto queryOfSpec)

/-- 'paddocklaw12.QuadWalks', WHERE WHAT IT READS IS OF BULK AT MOST 1048576: true; the input reads as it did. -/
def quadWalksUptoRow : OpenClaim := { program := "ytifcgjnknikjkaadoor", sum := "b3967ac7cce5f55e73c4f5fc3ca0b5c6f8700f7ce86ee1cf21f4af35e80fcd2c", func := "paddock/paddocklaw12.QuadWalks", spec := "quadWalks", unfollowed := true, recurses := true, named := ["paddock/api.ErrForm", "paddock/api.ErrRange", "paddock/api.ErrNone"], plainKeys := false, apart := false, laid := [("paddock/api.ErrRange", laid_paddock_api_ErrRange), ("paddock/api.ErrNone", laid_paddock_api_ErrNone), ("paddock/api.ErrForm", laid_paddock_api_ErrForm)], narrowed := true }
def QuadWalksUptoSaid : Prop := quadWalksUptoRow.holds Tryd.pinned (OpenSpec.upto quadWalksSpec)

/-- 'paddocklaw06.SchemaWay', WHERE WHAT IT READS IS OF BULK AT MOST 1048576: true; the input reads as it did. -/
def schemaWayUptoRow : OpenClaim := { program := "ytifcgjnknikjkaadoor", sum := "b3967ac7cce5f55e73c4f5fc3ca0b5c6f8700f7ce86ee1cf21f4af35e80fcd2c", func := "paddock/paddocklaw06.SchemaWay", spec := "schemaWay", unfollowed := true, recurses := true, named := ["paddock/api.ErrExists", "paddock/api.ErrKind", "paddock/api.ErrRange"], plainKeys := false, apart := false, laid := [("paddock/api.ErrRange", laid_paddock_api_ErrRange), ("paddock/api.ErrExists", laid_paddock_api_ErrExists), ("paddock/api.ErrKind", laid_paddock_api_ErrKind)], narrowed := true }
def SchemaWayUptoSaid : Prop := schemaWayUptoRow.holds Tryd.pinned (OpenSpec.upto schemaWaySpec)

/-- 'paddocklaw06.SchemaChanges', WHERE WHAT IT READS IS OF BULK AT MOST 1048576: true; the input reads as it did. -/
def schemaChangesUptoRow : OpenClaim := { program := "ytifcgjnknikjkaadoor", sum := "b3967ac7cce5f55e73c4f5fc3ca0b5c6f8700f7ce86ee1cf21f4af35e80fcd2c", func := "paddock/paddocklaw06.SchemaChanges", spec := "schemaChanges", unfollowed := true, recurses := true, named := ["paddock/api.ErrExists", "paddock/api.ErrKind", "paddock/api.ErrRange"], plainKeys := false, apart := false, laid := [("paddock/api.ErrRange", laid_paddock_api_ErrRange), ("paddock/api.ErrExists", laid_paddock_api_ErrExists), ("paddock/api.ErrKind", laid_paddock_api_ErrKind)], narrowed := true }
def SchemaChangesUptoSaid : Prop := schemaChangesUptoRow.holds Tryd.pinned (OpenSpec.upto schemaChangesSpec)

/-- 'paddocklaw06.SchemaChecks', WHERE WHAT IT READS IS OF BULK AT MOST 1048576: true; the input reads as it did. -/
def schemaChecksUptoRow : OpenClaim := { program := "ytifcgjnknikjkaadoor", sum := "b3967ac7cce5f55e73c4f5fc3ca0b5c6f8700f7ce86ee1cf21f4af35e80fcd2c", func := "paddock/paddocklaw06.SchemaChecks", spec := "schemaChecks", inPlace := ["internal/reflectlite.TypeOf"], unfollowed := true, recurses := true, named := ["paddock/api.ErrExists", "paddock/api.ErrKind", "paddock/api.ErrRange", "paddock/api.ErrFull", "paddock/api.ErrNone", "paddock/api.ErrState", "paddock/api.ErrForm", "paddock/api.ErrBlocked", "paddock/api.ErrPath", "paddock/api.ErrGoal"], plainKeys := false, apart := false, laid := [("paddock/api.ErrRange", laid_paddock_api_ErrRange), ("paddock/api.ErrFull", laid_paddock_api_ErrFull), ("paddock/api.ErrNone", laid_paddock_api_ErrNone), ("paddock/api.ErrExists", laid_paddock_api_ErrExists), ("paddock/api.ErrKind", laid_paddock_api_ErrKind), ("paddock/api.ErrState", laid_paddock_api_ErrState), ("paddock/api.ErrForm", laid_paddock_api_ErrForm), ("paddock/api.ErrBlocked", laid_paddock_api_ErrBlocked), ("paddock/api.ErrPath", laid_paddock_api_ErrPath), ("paddock/api.ErrGoal", laid_paddock_api_ErrGoal)], narrowed := true }
def SchemaChecksUptoSaid : Prop := schemaChecksUptoRow.holds Tryd.pinned (OpenSpec.upto schemaChecksSpec)

/-- 'paddocklaw06.SchemaRows', WHERE WHAT IT READS IS OF BULK AT MOST 1048576: true; the input reads as it did. -/
def schemaRowsUptoRow : OpenClaim := { program := "ytifcgjnknikjkaadoor", sum := "b3967ac7cce5f55e73c4f5fc3ca0b5c6f8700f7ce86ee1cf21f4af35e80fcd2c", func := "paddock/paddocklaw06.SchemaRows", spec := "schemaRows", inPlace := ["internal/reflectlite.TypeOf"], unfollowed := true, recurses := true, named := ["paddock/api.ErrExists", "paddock/api.ErrKind", "paddock/api.ErrRange", "paddock/api.ErrFull", "paddock/api.ErrNone", "paddock/api.ErrState", "paddock/api.ErrForm", "paddock/api.ErrBlocked", "paddock/api.ErrPath", "paddock/api.ErrGoal"], plainKeys := false, apart := false, laid := [("paddock/api.ErrRange", laid_paddock_api_ErrRange), ("paddock/api.ErrFull", laid_paddock_api_ErrFull), ("paddock/api.ErrNone", laid_paddock_api_ErrNone), ("paddock/api.ErrExists", laid_paddock_api_ErrExists), ("paddock/api.ErrKind", laid_paddock_api_ErrKind), ("paddock/api.ErrState", laid_paddock_api_ErrState), ("paddock/api.ErrForm", laid_paddock_api_ErrForm), ("paddock/api.ErrBlocked", laid_paddock_api_ErrBlocked), ("paddock/api.ErrPath", laid_paddock_api_ErrPath), ("paddock/api.ErrGoal", laid_paddock_api_ErrGoal)], narrowed := true }
def SchemaRowsUptoSaid : Prop := schemaRowsUptoRow.holds Tryd.pinned (OpenSpec.upto schemaRowsSpec)

/-- 'paddocklaw06.SchemaAsks', WHERE WHAT IT READS IS OF BULK AT MOST 1048576: true; the input reads as it did. -/
def schemaAsksUptoRow : OpenClaim := { program := "ytifcgjnknikjkaadoor", sum := "b3967ac7cce5f55e73c4f5fc3ca0b5c6f8700f7ce86ee1cf21f4af35e80fcd2c", func := "paddock/paddocklaw06.SchemaAsks", spec := "schemaAsks", unfollowed := true, recurses := true, named := ["paddock/api.ErrExists", "paddock/api.ErrKind", "paddock/api.ErrRange"], plainKeys := false, apart := false, laid := [("paddock/api.ErrRange", laid_paddock_api_ErrRange), ("paddock/api.ErrExists", laid_paddock_api_ErrExists), ("paddock/api.ErrKind", laid_paddock_api_ErrKind)], narrowed := true }
def SchemaAsksUptoSaid : Prop := schemaAsksUptoRow.holds Tryd.pinned (OpenSpec.upto schemaAsksSpec)

/-- 'paddocklaw06.SchemaMoves', WHERE WHAT IT READS IS OF BULK AT MOST 1048576: true; the input reads as it did. -/
def schemaMovesUptoRow : OpenClaim := { program := "ytifcgjnknikjkaadoor", sum := "b3967ac7cce5f55e73c4f5fc3ca0b5c6f8700f7ce86ee1cf21f4af35e80fcd2c", func := "paddock/paddocklaw06.SchemaMoves", spec := "schemaMoves", inPlace := ["internal/reflectlite.TypeOf"], unfollowed := true, recurses := true, named := ["paddock/api.ErrExists", "paddock/api.ErrKind", "paddock/api.ErrRange", "paddock/api.ErrFull", "paddock/api.ErrNone", "paddock/api.ErrState", "paddock/api.ErrForm", "paddock/api.ErrBlocked", "paddock/api.ErrPath", "paddock/api.ErrGoal"], plainKeys := false, apart := false, laid := [("paddock/api.ErrRange", laid_paddock_api_ErrRange), ("paddock/api.ErrFull", laid_paddock_api_ErrFull), ("paddock/api.ErrNone", laid_paddock_api_ErrNone), ("paddock/api.ErrExists", laid_paddock_api_ErrExists), ("paddock/api.ErrKind", laid_paddock_api_ErrKind), ("paddock/api.ErrState", laid_paddock_api_ErrState), ("paddock/api.ErrForm", laid_paddock_api_ErrForm), ("paddock/api.ErrBlocked", laid_paddock_api_ErrBlocked), ("paddock/api.ErrPath", laid_paddock_api_ErrPath), ("paddock/api.ErrGoal", laid_paddock_api_ErrGoal)], narrowed := true }
def SchemaMovesUptoSaid : Prop := schemaMovesUptoRow.holds Tryd.pinned (OpenSpec.upto schemaMovesSpec)

/-- 'paddocklaw06.SchemaTurns', WHERE WHAT IT READS IS OF BULK AT MOST 1048576: true; the input reads as it did. -/
def schemaTurnsUptoRow : OpenClaim := { program := "ytifcgjnknikjkaadoor", sum := "b3967ac7cce5f55e73c4f5fc3ca0b5c6f8700f7ce86ee1cf21f4af35e80fcd2c", func := "paddock/paddocklaw06.SchemaTurns", spec := "schemaTurns", unfollowed := true, recurses := true, named := ["paddock/api.ErrExists", "paddock/api.ErrKind", "paddock/api.ErrRange"], plainKeys := false, apart := false, laid := [("paddock/api.ErrRange", laid_paddock_api_ErrRange), ("paddock/api.ErrExists", laid_paddock_api_ErrExists), ("paddock/api.ErrKind", laid_paddock_api_ErrKind)], narrowed := true }
def SchemaTurnsUptoSaid : Prop := schemaTurnsUptoRow.holds Tryd.pinned (OpenSpec.upto schemaTurnsSpec)

end Rows
end Go.Proofs.YtifcgjnknikjkaaDoor
