/-
  NARROWER THAN 'FOR EVERY INPUT', by the rows' own cells (each row's printed sentence says how): AxisTurned: laid · AxisSides: laid · AxisOrders: laid · AxisPlays: laid · AxisSweeps: laid · QuadAgain: laid · QuadAll: laid.
  DERIVED. THE GIVEN ROWS OF THIS SEAT. 7 by the template 'for every input the law returns true; each argument reads behind the call as it read before'; 0 by the template 'total and deterministic' (their statements: YtpojafdllcioiaaDoorTotals.lean).
  GIVEN WITH THE SEED: the statements are not yours to turn. If you find one false, say at which input.
  Laid BY PROGRAM, IN A SANDBOX (cutbox-rows.mjs): the forced cells as the released guide's own fill.sh prints them over the translation 13d2c4ebff89e1c5… (all of the seat's roots in one cut). By AI agents, Wed Nov 11 2026. No macro, syntax, notation, axiom, sorry.
-/
import Derived.Test.YtpojafdllcioiaaDoorChecked
import GoSem.Claim
import GoSem.ClaimJoined
import GoSem.ClaimMapViews
import Derived.JoinedTies
import Derived.KernelRfl
namespace Go.Proofs.YtpojafdllcioiaaDoor
/- THE CELL 'sum', in the pinned program and in every row, IS THE sha256 OF THE DUMP (.gsa) THAT YtpojafdllcioiaaDoorProg.lean LOADS. Nothing in Lean hashes anything: it is a label: what it is worth is what the hold of that sum in a sandbox is worth. -/
noncomputable def Tryd.pinned : Pinned := { name := "ytpojafdllcioiaadoor", sum := "13d2c4ebff89e1c5934af247a702ffd012e2cd0f65a71a74b4df4d84d90ac83d", checked := Tryd.checked }
namespace Rows
def none {H : Type} : Left H := { results := [], args := [] }

/- WHAT THE LISTED PACKAGE-LEVEL VARIABLES READ AS WHEN THE CALL BEGINS. Each datum BY PROGRAM (the guide's laid-datum.mjs) off the statement by which the dump's own 'gosem.cut.vars' lays the variable. In a bare row this is a premise. The card (YtpojafdllcioiaaDoorCards.lean) ties it to the program's text. -/
def laid_paddock_api_ErrRange {H : Type} : DataW H := .iface "*errors.errorString" (.ptr (.agg [.lit (.string [112, 97, 100, 100, 111, 99, 107, 58, 32, 114, 97, 110, 103, 101])]))
def laid_paddock_api_ErrNone {H : Type} : DataW H := .iface "*errors.errorString" (.ptr (.agg [.lit (.string [112, 97, 100, 100, 111, 99, 107, 58, 32, 110, 111, 110, 101])]))
def laid_paddock_api_ErrForm {H : Type} : DataW H := .iface "*errors.errorString" (.ptr (.agg [.lit (.string [112, 97, 100, 100, 111, 99, 107, 58, 32, 102, 111, 114, 109])]))
def laid_paddock_api_ErrFull {H : Type} : DataW H := .iface "*errors.errorString" (.ptr (.agg [.lit (.string [112, 97, 100, 100, 111, 99, 107, 58, 32, 102, 117, 108, 108])]))
def laid_paddock_api_ErrExists {H : Type} : DataW H := .iface "*errors.errorString" (.ptr (.agg [.lit (.string [112, 97, 100, 100, 111, 99, 107, 58, 32, 101, 120, 105, 115, 116, 115])]))
def laid_paddock_api_ErrKind {H : Type} : DataW H := .iface "*errors.errorString" (.ptr (.agg [.lit (.string [112, 97, 100, 100, 111, 99, 107, 58, 32, 107, 105, 110, 100])]))
def laid_paddock_api_ErrState {H : Type} : DataW H := .iface "*errors.errorString" (.ptr (.agg [.lit (.string [112, 97, 100, 100, 111, 99, 107, 58, 32, 115, 116, 97, 116, 101])]))
def laid_paddock_api_ErrBlocked {H : Type} : DataW H := .iface "*errors.errorString" (.ptr (.agg [.lit (.string [112, 97, 100, 100, 111, 99, 107, 58, 32, 98, 108, 111, 99, 107, 101, 100])]))
def laid_paddock_api_ErrPath {H : Type} : DataW H := .iface "*errors.errorString" (.ptr (.agg [.lit (.string [112, 97, 100, 100, 111, 99, 107, 58, 32, 112, 97, 116, 104])]))
def laid_paddock_api_ErrGoal {H : Type} : DataW H := .iface "*errors.errorString" (.ptr (.agg [.lit (.string [112, 97, 100, 100, 111, 99, 107, 58, 32, 103, 111, 97, 108])]))

/-- 'paddocklaw11.AxisTurned': WHATEVER THE INPUT: true; the input reads as it did. -/
def axisTurnedSpec : ChangeSpec := { name := "axisTurned", fn := fun _ => fun
  | [d] => { results := [.lit (.bool true)], args := [d] }
  | _ => none }
def axisTurnedRow : OpenClaim := { program := "ytpojafdllcioiaadoor", sum := "13d2c4ebff89e1c5934af247a702ffd012e2cd0f65a71a74b4df4d84d90ac83d", func := "paddock/paddocklaw11.AxisTurned", spec := "axisTurned", unfollowed := true, recurses := true, named := ["paddock/api.ErrRange", "paddock/api.ErrNone", "paddock/api.ErrForm"], plainKeys := false, apart := false, laid := [("paddock/api.ErrRange", laid_paddock_api_ErrRange), ("paddock/api.ErrNone", laid_paddock_api_ErrNone), ("paddock/api.ErrForm", laid_paddock_api_ErrForm)] }
def AxisTurnedSaid : Prop := axisTurnedRow.holds Tryd.pinned (OpenSpec.ofChange axisTurnedSpec)

/-- ITS FALSE NEIGHBOUR: 'it returns false'. Refute it at one input. -/
def axisTurnedWrong : ChangeSpec := { name := "axisTurned", fn := fun _ => fun
  | [d] => { results := [.lit (.bool false)], args := [d] }
  | _ => none }
def AxisTurnedWrongFalsely : Prop := axisTurnedRow.holds Tryd.pinned (OpenSpec.ofChange axisTurnedWrong)

/-- 'paddocklaw11.AxisSides': WHATEVER THE INPUT: true; the input reads as it did. -/
def axisSidesSpec : ChangeSpec := { name := "axisSides", fn := fun _ => fun
  | [d] => { results := [.lit (.bool true)], args := [d] }
  | _ => none }
def axisSidesRow : OpenClaim := { program := "ytpojafdllcioiaadoor", sum := "13d2c4ebff89e1c5934af247a702ffd012e2cd0f65a71a74b4df4d84d90ac83d", func := "paddock/paddocklaw11.AxisSides", spec := "axisSides", unfollowed := true, recurses := true, named := ["paddock/api.ErrRange", "paddock/api.ErrNone", "paddock/api.ErrForm"], plainKeys := false, apart := false, laid := [("paddock/api.ErrRange", laid_paddock_api_ErrRange), ("paddock/api.ErrNone", laid_paddock_api_ErrNone), ("paddock/api.ErrForm", laid_paddock_api_ErrForm)] }
def AxisSidesSaid : Prop := axisSidesRow.holds Tryd.pinned (OpenSpec.ofChange axisSidesSpec)

/-- ITS FALSE NEIGHBOUR: 'it returns false'. Refute it at one input. -/
def axisSidesWrong : ChangeSpec := { name := "axisSides", fn := fun _ => fun
  | [d] => { results := [.lit (.bool false)], args := [d] }
  | _ => none }
def AxisSidesWrongFalsely : Prop := axisSidesRow.holds Tryd.pinned (OpenSpec.ofChange axisSidesWrong)

/-- 'paddocklaw11.AxisOrders': WHATEVER THE INPUT: true; the input reads as it did. -/
def axisOrdersSpec : ChangeSpec := { name := "axisOrders", fn := fun _ => fun
  | [d1, d2, d3] => { results := [.lit (.bool true)], args := [d1, d2, d3] }
  | _ => none }
def axisOrdersRow : OpenClaim := { program := "ytpojafdllcioiaadoor", sum := "13d2c4ebff89e1c5934af247a702ffd012e2cd0f65a71a74b4df4d84d90ac83d", func := "paddock/paddocklaw11.AxisOrders", spec := "axisOrders", unfollowed := true, recurses := true, named := ["paddock/api.ErrRange", "paddock/api.ErrNone", "paddock/api.ErrForm"], plainKeys := false, apart := false, laid := [("paddock/api.ErrRange", laid_paddock_api_ErrRange), ("paddock/api.ErrNone", laid_paddock_api_ErrNone), ("paddock/api.ErrForm", laid_paddock_api_ErrForm)] }
def AxisOrdersSaid : Prop := axisOrdersRow.holds Tryd.pinned (OpenSpec.ofChange axisOrdersSpec)

/-- ITS FALSE NEIGHBOUR: 'it returns false'. Refute it at one input. -/
def axisOrdersWrong : ChangeSpec := { name := "axisOrders", fn := fun _ => fun
  | [d1, d2, d3] => { results := [.lit (.bool false)], args := [d1, d2, d3] }
  | _ => none }
def AxisOrdersWrongFalsely : Prop := axisOrdersRow.holds Tryd.pinned (OpenSpec.ofChange axisOrdersWrong)

/-- 'paddocklaw11.AxisPlays': WHATEVER THE INPUT: true; the input reads as it did. -/
def axisPlaysSpec : ChangeSpec := { name := "axisPlays", fn := fun _ => fun
  | [d] => { results := [.lit (.bool true)], args := [d] }
  | _ => none }
def axisPlaysRow : OpenClaim := { program := "ytpojafdllcioiaadoor", sum := "13d2c4ebff89e1c5934af247a702ffd012e2cd0f65a71a74b4df4d84d90ac83d", func := "paddock/paddocklaw11.AxisPlays", spec := "axisPlays", inPlace := ["internal/reflectlite.TypeOf"], unfollowed := true, recurses := true, named := ["paddock/api.ErrRange", "paddock/api.ErrNone", "paddock/api.ErrFull", "paddock/api.ErrExists", "paddock/api.ErrKind", "paddock/api.ErrState", "paddock/api.ErrForm", "paddock/api.ErrBlocked", "paddock/api.ErrPath", "paddock/api.ErrGoal"], plainKeys := false, apart := false, laid := [("paddock/api.ErrRange", laid_paddock_api_ErrRange), ("paddock/api.ErrFull", laid_paddock_api_ErrFull), ("paddock/api.ErrNone", laid_paddock_api_ErrNone), ("paddock/api.ErrExists", laid_paddock_api_ErrExists), ("paddock/api.ErrKind", laid_paddock_api_ErrKind), ("paddock/api.ErrState", laid_paddock_api_ErrState), ("paddock/api.ErrForm", laid_paddock_api_ErrForm), ("paddock/api.ErrBlocked", laid_paddock_api_ErrBlocked), ("paddock/api.ErrPath", laid_paddock_api_ErrPath), ("paddock/api.ErrGoal", laid_paddock_api_ErrGoal)] }
def AxisPlaysSaid : Prop := axisPlaysRow.holds Tryd.pinned (OpenSpec.ofChange axisPlaysSpec)

/-- ITS FALSE NEIGHBOUR: 'it returns false'. Refute it at one input. -/
def axisPlaysWrong : ChangeSpec := { name := "axisPlays", fn := fun _ => fun
  | [d] => { results := [.lit (.bool false)], args := [d] }
  | _ => none }
def AxisPlaysWrongFalsely : Prop := axisPlaysRow.holds Tryd.pinned (OpenSpec.ofChange axisPlaysWrong)

/-- 'paddocklaw11.AxisSweeps': WHATEVER THE INPUT: true; the input reads as it did. -/
def axisSweepsSpec : ChangeSpec := { name := "axisSweeps", fn := fun _ => fun
  | [d] => { results := [.lit (.bool true)], args := [d] }
  | _ => none }
def axisSweepsRow : OpenClaim := { program := "ytpojafdllcioiaadoor", sum := "13d2c4ebff89e1c5934af247a702ffd012e2cd0f65a71a74b4df4d84d90ac83d", func := "paddock/paddocklaw11.AxisSweeps", spec := "axisSweeps", inPlace := ["internal/reflectlite.TypeOf"], unfollowed := true, recurses := true, named := ["paddock/api.ErrRange", "paddock/api.ErrNone", "paddock/api.ErrForm", "paddock/api.ErrFull", "paddock/api.ErrExists", "paddock/api.ErrKind", "paddock/api.ErrState", "paddock/api.ErrBlocked", "paddock/api.ErrPath", "paddock/api.ErrGoal"], plainKeys := false, apart := false, laid := [("paddock/api.ErrRange", laid_paddock_api_ErrRange), ("paddock/api.ErrFull", laid_paddock_api_ErrFull), ("paddock/api.ErrNone", laid_paddock_api_ErrNone), ("paddock/api.ErrExists", laid_paddock_api_ErrExists), ("paddock/api.ErrKind", laid_paddock_api_ErrKind), ("paddock/api.ErrState", laid_paddock_api_ErrState), ("paddock/api.ErrForm", laid_paddock_api_ErrForm), ("paddock/api.ErrBlocked", laid_paddock_api_ErrBlocked), ("paddock/api.ErrPath", laid_paddock_api_ErrPath), ("paddock/api.ErrGoal", laid_paddock_api_ErrGoal)] }
def AxisSweepsSaid : Prop := axisSweepsRow.holds Tryd.pinned (OpenSpec.ofChange axisSweepsSpec)

/-- ITS FALSE NEIGHBOUR: 'it returns false'. Refute it at one input. -/
def axisSweepsWrong : ChangeSpec := { name := "axisSweeps", fn := fun _ => fun
  | [d] => { results := [.lit (.bool false)], args := [d] }
  | _ => none }
def AxisSweepsWrongFalsely : Prop := axisSweepsRow.holds Tryd.pinned (OpenSpec.ofChange axisSweepsWrong)

/-- 'paddocklaw12.QuadAgain': WHATEVER THE INPUT: true; the input reads as it did. -/
def quadAgainSpec : ChangeSpec := { name := "quadAgain", fn := fun _ => fun
  | [d1, d2] => { results := [.lit (.bool true)], args := [d1, d2] }
  | _ => none }
def quadAgainRow : OpenClaim := { program := "ytpojafdllcioiaadoor", sum := "13d2c4ebff89e1c5934af247a702ffd012e2cd0f65a71a74b4df4d84d90ac83d", func := "paddock/paddocklaw12.QuadAgain", spec := "quadAgain", unfollowed := true, recurses := true, named := ["paddock/api.ErrForm", "paddock/api.ErrRange", "paddock/api.ErrNone"], plainKeys := false, apart := false, laid := [("paddock/api.ErrRange", laid_paddock_api_ErrRange), ("paddock/api.ErrNone", laid_paddock_api_ErrNone), ("paddock/api.ErrForm", laid_paddock_api_ErrForm)] }
def QuadAgainSaid : Prop := quadAgainRow.holds Tryd.pinned (OpenSpec.ofChange quadAgainSpec)

/-- ITS FALSE NEIGHBOUR: 'it returns false'. Refute it at one input. -/
def quadAgainWrong : ChangeSpec := { name := "quadAgain", fn := fun _ => fun
  | [d1, d2] => { results := [.lit (.bool false)], args := [d1, d2] }
  | _ => none }
def QuadAgainWrongFalsely : Prop := quadAgainRow.holds Tryd.pinned (OpenSpec.ofChange quadAgainWrong)

/-- 'paddocklaw12.QuadAll': WHATEVER THE INPUT: true; the input reads as it did. -/
def quadAllSpec : ChangeSpec := { name := "quadAll", fn := fun _ => fun
  | [d] => { results := [.lit (.bool true)], args := [d] }
  | _ => none }
def quadAllRow : OpenClaim := { program := "ytpojafdllcioiaadoor", sum := "13d2c4ebff89e1c5934af247a702ffd012e2cd0f65a71a74b4df4d84d90ac83d", func := "paddock/paddocklaw12.QuadAll", spec := "quadAll", unfollowed := true, recurses := true, named := ["paddock/api.ErrForm", "paddock/api.ErrRange", "paddock/api.ErrNone"], plainKeys := false, apart := false, laid := [("paddock/api.ErrRange", laid_paddock_api_ErrRange), ("paddock/api.ErrNone", laid_paddock_api_ErrNone), ("paddock/api.ErrForm", laid_paddock_api_ErrForm)] }
def QuadAllSaid : Prop := quadAllRow.holds Tryd.pinned (OpenSpec.ofChange quadAllSpec)

/-- ITS FALSE NEIGHBOUR: 'it returns false'. Refute it at one input. -/
def quadAllWrong : ChangeSpec := { name := "quadAll", fn := fun _ => fun
  | [d] => { results := [.lit (.bool false)], args := [d] }
  | _ => none }
def QuadAllWrongFalsely : Prop := quadAllRow.holds Tryd.pinned (OpenSpec.ofChange quadAllWrong)

/- THE SECOND FORM. 'bulk': how many values and letters a reading holds, each counted each time it is reached (what is shared counts as often as it is met; a slice's spare places count too). A statement '..UptoSaid' is the law's where the arguments, and the package variables that the reading takes, are together of bulk at most 1048576: NARROWER than '..Said'. Prove '..Said' where nothing that the law and all that it calls make is longer than what came in: it says more and counts as full. Else prove '..UptoSaid'. A law counts once. -/
mutual
def uptoBulk {H : Type} : DataW H → Nat
  | .lit (.string bytes) => bytes.length + 1
  | .lit _ => 1
  | .nil => 1
  | .ptr d => uptoBulk d + 1
  | .slice elems spare => uptoBulkAll elems + uptoBulkAll spare + 1
  | .agg parts => uptoBulkAll parts + 1
  | .iface _ d => uptoBulk d + 1
  | .map entries => uptoBulkEntries entries + 1
  | .held _ => 1
def uptoBulkAll {H : Type} : List (DataW H) → Nat
  | [] => 0
  | d :: r => uptoBulk d + uptoBulkAll r
def uptoBulkEntries {H : Type} : List (Lit × DataW H) → Nat
  | [] => 0
  | x :: r => uptoBulkEntry x + uptoBulkEntries r
def uptoBulkEntry {H : Type} : Lit × DataW H → Nat
  | (.string bytes, d) => bytes.length + uptoBulk d + 1
  | (_, d) => uptoBulk d + 1
 end
def uptoSmall : (H : Type) → List (DataW H) → Bool := fun _ ds => decide (uptoBulkAll ds ≤ 1048576)
def OpenSpec.upto (s : _root_.Go.ChangeSpec) : _root_.Go.OpenSpec := { _root_.Go.OpenSpec.ofChange s with cond := some uptoSmall }

/-- 'paddocklaw11.AxisTurned', WHERE WHAT IT READS IS OF BULK AT MOST 1048576: true; the input reads as it did. -/
def axisTurnedUptoRow : OpenClaim := { program := "ytpojafdllcioiaadoor", sum := "13d2c4ebff89e1c5934af247a702ffd012e2cd0f65a71a74b4df4d84d90ac83d", func := "paddock/paddocklaw11.AxisTurned", spec := "axisTurned", unfollowed := true, recurses := true, named := ["paddock/api.ErrRange", "paddock/api.ErrNone", "paddock/api.ErrForm"], plainKeys := false, apart := false, laid := [("paddock/api.ErrRange", laid_paddock_api_ErrRange), ("paddock/api.ErrNone", laid_paddock_api_ErrNone), ("paddock/api.ErrForm", laid_paddock_api_ErrForm)], narrowed := true }
def AxisTurnedUptoSaid : Prop := axisTurnedUptoRow.holds Tryd.pinned (OpenSpec.upto axisTurnedSpec)

/-- 'paddocklaw11.AxisSides', WHERE WHAT IT READS IS OF BULK AT MOST 1048576: true; the input reads as it did. -/
def axisSidesUptoRow : OpenClaim := { program := "ytpojafdllcioiaadoor", sum := "13d2c4ebff89e1c5934af247a702ffd012e2cd0f65a71a74b4df4d84d90ac83d", func := "paddock/paddocklaw11.AxisSides", spec := "axisSides", unfollowed := true, recurses := true, named := ["paddock/api.ErrRange", "paddock/api.ErrNone", "paddock/api.ErrForm"], plainKeys := false, apart := false, laid := [("paddock/api.ErrRange", laid_paddock_api_ErrRange), ("paddock/api.ErrNone", laid_paddock_api_ErrNone), ("paddock/api.ErrForm", laid_paddock_api_ErrForm)], narrowed := true }
def AxisSidesUptoSaid : Prop := axisSidesUptoRow.holds Tryd.pinned (OpenSpec.upto axisSidesSpec)

/-- 'paddocklaw11.AxisOrders', WHERE WHAT IT READS IS OF BULK AT MOST 1048576: true; the input reads as it did. -/
def axisOrdersUptoRow : OpenClaim := { program := "ytpojafdllcioiaadoor", sum := "13d2c4ebff89e1c5934af247a702ffd012e2cd0f65a71a74b4df4d84d90ac83d", func := "paddock/paddocklaw11.AxisOrders", spec := "axisOrders", unfollowed := true, recurses := true, named := ["paddock/api.ErrRange", "paddock/api.ErrNone", "paddock/api.ErrForm"], plainKeys := false, apart := false, laid := [("paddock/api.ErrRange", laid_paddock_api_ErrRange), ("paddock/api.ErrNone", laid_paddock_api_ErrNone), ("paddock/api.ErrForm", laid_paddock_api_ErrForm)], narrowed := true }
def AxisOrdersUptoSaid : Prop := axisOrdersUptoRow.holds Tryd.pinned (OpenSpec.upto axisOrdersSpec)

/-- 'paddocklaw11.AxisPlays', WHERE WHAT IT READS IS OF BULK AT MOST 1048576: true; the input reads as it did. -/
def axisPlaysUptoRow : OpenClaim := { program := "ytpojafdllcioiaadoor", sum := "13d2c4ebff89e1c5934af247a702ffd012e2cd0f65a71a74b4df4d84d90ac83d", func := "paddock/paddocklaw11.AxisPlays", spec := "axisPlays", inPlace := ["internal/reflectlite.TypeOf"], unfollowed := true, recurses := true, named := ["paddock/api.ErrRange", "paddock/api.ErrNone", "paddock/api.ErrFull", "paddock/api.ErrExists", "paddock/api.ErrKind", "paddock/api.ErrState", "paddock/api.ErrForm", "paddock/api.ErrBlocked", "paddock/api.ErrPath", "paddock/api.ErrGoal"], plainKeys := false, apart := false, laid := [("paddock/api.ErrRange", laid_paddock_api_ErrRange), ("paddock/api.ErrFull", laid_paddock_api_ErrFull), ("paddock/api.ErrNone", laid_paddock_api_ErrNone), ("paddock/api.ErrExists", laid_paddock_api_ErrExists), ("paddock/api.ErrKind", laid_paddock_api_ErrKind), ("paddock/api.ErrState", laid_paddock_api_ErrState), ("paddock/api.ErrForm", laid_paddock_api_ErrForm), ("paddock/api.ErrBlocked", laid_paddock_api_ErrBlocked), ("paddock/api.ErrPath", laid_paddock_api_ErrPath), ("paddock/api.ErrGoal", laid_paddock_api_ErrGoal)], narrowed := true }
def AxisPlaysUptoSaid : Prop := axisPlaysUptoRow.holds Tryd.pinned (OpenSpec.upto axisPlaysSpec)

/-- 'paddocklaw11.AxisSweeps', WHERE WHAT IT READS IS OF BULK AT MOST 1048576: true; the input reads as it did. -/
def axisSweepsUptoRow : OpenClaim := { program := "ytpojafdllcioiaadoor", sum := "13d2c4ebff89e1c5934af247a702ffd012e2cd0f65a71a74b4df4d84d90ac83d", func := "paddock/paddocklaw11.AxisSweeps", spec := "axisSweeps", inPlace := ["internal/reflectlite.TypeOf"], unfollowed := true, recurses := true, named := ["paddock/api.ErrRange", "paddock/api.ErrNone", "paddock/api.ErrForm", "paddock/api.ErrFull", "paddock/api.ErrExists", "paddock/api.ErrKind", "paddock/api.ErrState", "paddock/api.ErrBlocked", "paddock/api.ErrPath", "paddock/api.ErrGoal"], plainKeys := false, apart := false, laid := [("paddock/api.ErrRange", laid_paddock_api_ErrRange), ("paddock/api.ErrFull", laid_paddock_api_ErrFull), ("paddock/api.ErrNone", laid_paddock_api_ErrNone), ("paddock/api.ErrExists", laid_paddock_api_ErrExists), ("paddock/api.ErrKind", laid_paddock_api_ErrKind), ("paddock/api.ErrState", laid_paddock_api_ErrState), ("paddock/api.ErrForm", laid_paddock_api_ErrForm), ("paddock/api.ErrBlocked", laid_paddock_api_ErrBlocked), ("paddock/api.ErrPath", laid_paddock_api_ErrPath), ("paddock/api.ErrGoal", laid_paddock_api_ErrGoal)], narrowed := true }
def AxisSweepsUptoSaid : Prop := axisSweepsUptoRow.holds Tryd.pinned (OpenSpec.upto axisSweepsSpec)

/-- 'paddocklaw12.QuadAgain', WHERE WHAT IT READS IS OF BULK AT MOST 1048576: true; the input reads as it did. -/
def quadAgainUptoRow : OpenClaim := { program := "ytpojafdllcioiaadoor", sum := "13d2c4ebff89e1c5934af247a702ffd012e2cd0f65a71a74b4df4d84d90ac83d", func := "paddock/paddocklaw12.QuadAgain", spec := "quadAgain", unfollowed := true, recurses := true, named := ["paddock/api.ErrForm", "paddock/api.ErrRange", "paddock/api.ErrNone"], plainKeys := false, apart := false, laid := [("paddock/api.ErrRange", laid_paddock_api_ErrRange), ("paddock/api.ErrNone", laid_paddock_api_ErrNone), ("paddock/api.ErrForm", laid_paddock_api_ErrForm)], narrowed := true }
def QuadAgainUptoSaid : Prop := quadAgainUptoRow.holds Tryd.pinned (OpenSpec.upto quadAgainSpec)

/-- 'paddocklaw12.QuadAll', WHERE WHAT IT READS IS OF BULK AT MOST 1048576: true; the input reads as it did. -/
def quadAllUptoRow : OpenClaim := { program := "ytpojafdllcioiaadoor", sum := "13d2c4ebff89e1c5934af247a702ffd012e2cd0f65a71a74b4df4d84d90ac83d", func := "paddock/paddocklaw12.QuadAll", spec := "quadAll", unfollowed := true, recurses := true, named := ["paddock/api.ErrForm", "paddock/api.ErrRange", "paddock/api.ErrNone"], plainKeys := false, apart := false, laid := [("paddock/api.ErrRange", laid_paddock_api_ErrRange), ("paddock/api.ErrNone", laid_paddock_api_ErrNone), ("paddock/api.ErrForm", laid_paddock_api_ErrForm)], narrowed := true }
def QuadAllUptoSaid : Prop := quadAllUptoRow.holds Tryd.pinned (OpenSpec.upto quadAllSpec)

end Rows
end Go.Proofs.YtpojafdllcioiaaDoor
