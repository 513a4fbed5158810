/-
  NARROWER THAN 'FOR EVERY INPUT', by the rows' own cells (each row's printed sentence says how): TablesOrders: laid · TablesLimits: laid · TablesApart: laid · TablesIn: laid · TablesTurns: laid · TablesPlays: laid · QueryNarrows: laid · QueryHalves: laid · QueryBoth: laid · QueryAnswers: laid.
  DERIVED. THE GIVEN ROWS OF THIS SEAT. 10 by the template 'for every input the law returns true; each argument reads behind the call as it read before'; 0 by the template 'total and deterministic' (their statements: YtcnbngiplfoomaaGreatDoorTotals.lean).
  GIVEN WITH THE SEED: the statements are not yours to turn. If you find one false, say at which input.
  Laid BY PROGRAM, IN A SANDBOX (cutbox-rows.mjs): the forced cells as the released guide's own fill.sh prints them over the translation 5532a9e37d29bf64… (all of the seat's roots in one cut). By AI agents, Wed Nov 11 2026. No macro, syntax, notation, axiom, sorry.
-/
import Derived.Test.YtcnbngiplfoomaaGreatDoorChecked
import GoSem.Claim
import GoSem.ClaimJoined
import GoSem.ClaimMapViews
import Derived.JoinedTies
import Derived.KernelRfl
namespace Go.Proofs.YtcnbngiplfoomaaGreatDoor
/- THE CELL 'sum', in the pinned program and in every row, IS THE sha256 OF THE DUMP (.gsa) THAT YtcnbngiplfoomaaGreatDoorProg.lean LOADS. Nothing in Lean hashes anything: it is a label: what it is worth is what the hold of that sum in a sandbox is worth. -/
noncomputable def Tryz.pinned : Pinned := { name := "ytcnbngiplfoomaagreatdoor", sum := "5532a9e37d29bf649ebd6476acf50db1272147a901865a8fbeaf892425ad1203", checked := Tryz.checked }
namespace Rows
def none {H : Type} : Left H := { results := [], args := [] }

/- WHAT THE LISTED PACKAGE-LEVEL VARIABLES READ AS WHEN THE CALL BEGINS. Each datum BY PROGRAM (the guide's laid-datum.mjs) off the statement by which the dump's own 'gosem.cut.vars' lays the variable. In a bare row this is a premise. The card (YtcnbngiplfoomaaGreatDoorCards.lean) ties it to the program's text. -/
def laid_math_bits_deBruijn64tab {H : Type} : DataW H := .agg [.lit (.int .u8 0), .lit (.int .u8 1), .lit (.int .u8 56), .lit (.int .u8 2), .lit (.int .u8 57), .lit (.int .u8 49), .lit (.int .u8 28), .lit (.int .u8 3), .lit (.int .u8 61), .lit (.int .u8 58), .lit (.int .u8 42), .lit (.int .u8 50), .lit (.int .u8 38), .lit (.int .u8 29), .lit (.int .u8 17), .lit (.int .u8 4), .lit (.int .u8 62), .lit (.int .u8 47), .lit (.int .u8 59), .lit (.int .u8 36), .lit (.int .u8 45), .lit (.int .u8 43), .lit (.int .u8 51), .lit (.int .u8 22), .lit (.int .u8 53), .lit (.int .u8 39), .lit (.int .u8 33), .lit (.int .u8 30), .lit (.int .u8 24), .lit (.int .u8 18), .lit (.int .u8 12), .lit (.int .u8 5), .lit (.int .u8 63), .lit (.int .u8 55), .lit (.int .u8 48), .lit (.int .u8 27), .lit (.int .u8 60), .lit (.int .u8 41), .lit (.int .u8 37), .lit (.int .u8 16), .lit (.int .u8 46), .lit (.int .u8 35), .lit (.int .u8 44), .lit (.int .u8 21), .lit (.int .u8 52), .lit (.int .u8 32), .lit (.int .u8 23), .lit (.int .u8 11), .lit (.int .u8 54), .lit (.int .u8 26), .lit (.int .u8 40), .lit (.int .u8 15), .lit (.int .u8 34), .lit (.int .u8 20), .lit (.int .u8 31), .lit (.int .u8 10), .lit (.int .u8 25), .lit (.int .u8 14), .lit (.int .u8 19), .lit (.int .u8 9), .lit (.int .u8 13), .lit (.int .u8 8), .lit (.int .u8 7), .lit (.int .u8 6)]
def laid_paddock_api_ErrRange {H : Type} : DataW H := .iface "*errors.errorString" (.ptr (.agg [.lit (.string [112, 97, 100, 100, 111, 99, 107, 58, 32, 114, 97, 110, 103, 101])]))
def laid_paddock_api_ErrFull {H : Type} : DataW H := .iface "*errors.errorString" (.ptr (.agg [.lit (.string [112, 97, 100, 100, 111, 99, 107, 58, 32, 102, 117, 108, 108])]))
def laid_paddock_api_ErrNone {H : Type} : DataW H := .iface "*errors.errorString" (.ptr (.agg [.lit (.string [112, 97, 100, 100, 111, 99, 107, 58, 32, 110, 111, 110, 101])]))
def laid_paddock_api_ErrExists {H : Type} : DataW H := .iface "*errors.errorString" (.ptr (.agg [.lit (.string [112, 97, 100, 100, 111, 99, 107, 58, 32, 101, 120, 105, 115, 116, 115])]))
def laid_paddock_api_ErrKind {H : Type} : DataW H := .iface "*errors.errorString" (.ptr (.agg [.lit (.string [112, 97, 100, 100, 111, 99, 107, 58, 32, 107, 105, 110, 100])]))
def laid_paddock_api_ErrForm {H : Type} : DataW H := .iface "*errors.errorString" (.ptr (.agg [.lit (.string [112, 97, 100, 100, 111, 99, 107, 58, 32, 102, 111, 114, 109])]))
def laid_paddock_api_ErrState {H : Type} : DataW H := .iface "*errors.errorString" (.ptr (.agg [.lit (.string [112, 97, 100, 100, 111, 99, 107, 58, 32, 115, 116, 97, 116, 101])]))
def laid_paddock_api_ErrBlocked {H : Type} : DataW H := .iface "*errors.errorString" (.ptr (.agg [.lit (.string [112, 97, 100, 100, 111, 99, 107, 58, 32, 98, 108, 111, 99, 107, 101, 100])]))
def laid_paddock_api_ErrPath {H : Type} : DataW H := .iface "*errors.errorString" (.ptr (.agg [.lit (.string [112, 97, 100, 100, 111, 99, 107, 58, 32, 112, 97, 116, 104])]))
def laid_paddock_api_ErrGoal {H : Type} : DataW H := .iface "*errors.errorString" (.ptr (.agg [.lit (.string [112, 97, 100, 100, 111, 99, 107, 58, 32, 103, 111, 97, 108])]))

/-- 'paddocklaw08.TablesOrders': WHATEVER THE INPUT: true; the input reads as it did. -/
def tablesOrdersSpec : ChangeSpec := { name := "tablesOrders", fn := fun _ => fun
  | [d1, d2] => { results := [.lit (.bool true)], args := [d1, d2] }
  | _ => none }
def tablesOrdersRow : OpenClaim := { program := "ytcnbngiplfoomaagreatdoor", sum := "5532a9e37d29bf649ebd6476acf50db1272147a901865a8fbeaf892425ad1203", func := "paddock/paddocklaw08.TablesOrders", spec := "tablesOrders", unfollowed := true, recurses := true, named := ["paddock/api.ErrExists", "paddock/api.ErrForm", "paddock/api.ErrFull", "paddock/api.ErrKind", "paddock/api.ErrRange", "math/bits.deBruijn64tab", "paddock/api.ErrNone"], plainKeys := false, apart := false, laid := [("math/bits.deBruijn64tab", laid_math_bits_deBruijn64tab), ("paddock/api.ErrRange", laid_paddock_api_ErrRange), ("paddock/api.ErrFull", laid_paddock_api_ErrFull), ("paddock/api.ErrNone", laid_paddock_api_ErrNone), ("paddock/api.ErrExists", laid_paddock_api_ErrExists), ("paddock/api.ErrKind", laid_paddock_api_ErrKind), ("paddock/api.ErrForm", laid_paddock_api_ErrForm)] }
def TablesOrdersSaid : Prop := tablesOrdersRow.holds Tryz.pinned (OpenSpec.ofChange tablesOrdersSpec)

/-- ITS FALSE NEIGHBOUR: 'it returns false'. Refute it at one input. -/
def tablesOrdersWrong : ChangeSpec := { name := "tablesOrders", fn := fun _ => fun
  | [d1, d2] => { results := [.lit (.bool false)], args := [d1, d2] }
  | _ => none }
def TablesOrdersWrongFalsely : Prop := tablesOrdersRow.holds Tryz.pinned (OpenSpec.ofChange tablesOrdersWrong)

/-- 'paddocklaw08.TablesLimits': WHATEVER THE INPUT: true; the input reads as it did. -/
def tablesLimitsSpec : ChangeSpec := { name := "tablesLimits", fn := fun _ => fun
  | [d] => { results := [.lit (.bool true)], args := [d] }
  | _ => none }
def tablesLimitsRow : OpenClaim := { program := "ytcnbngiplfoomaagreatdoor", sum := "5532a9e37d29bf649ebd6476acf50db1272147a901865a8fbeaf892425ad1203", func := "paddock/paddocklaw08.TablesLimits", spec := "tablesLimits", inPlace := ["internal/reflectlite.TypeOf"], unfollowed := true, recurses := true, named := ["paddock/api.ErrExists", "paddock/api.ErrForm", "paddock/api.ErrFull", "paddock/api.ErrKind", "paddock/api.ErrRange", "math/bits.deBruijn64tab", "paddock/api.ErrNone", "paddock/api.ErrState", "paddock/api.ErrBlocked", "paddock/api.ErrPath", "paddock/api.ErrGoal"], plainKeys := false, apart := false, laid := [("math/bits.deBruijn64tab", laid_math_bits_deBruijn64tab), ("paddock/api.ErrRange", laid_paddock_api_ErrRange), ("paddock/api.ErrFull", laid_paddock_api_ErrFull), ("paddock/api.ErrNone", laid_paddock_api_ErrNone), ("paddock/api.ErrExists", laid_paddock_api_ErrExists), ("paddock/api.ErrKind", laid_paddock_api_ErrKind), ("paddock/api.ErrState", laid_paddock_api_ErrState), ("paddock/api.ErrForm", laid_paddock_api_ErrForm), ("paddock/api.ErrBlocked", laid_paddock_api_ErrBlocked), ("paddock/api.ErrPath", laid_paddock_api_ErrPath), ("paddock/api.ErrGoal", laid_paddock_api_ErrGoal)] }
def TablesLimitsSaid : Prop := tablesLimitsRow.holds Tryz.pinned (OpenSpec.ofChange tablesLimitsSpec)

/-- ITS FALSE NEIGHBOUR: 'it returns false'. Refute it at one input. -/
def tablesLimitsWrong : ChangeSpec := { name := "tablesLimits", fn := fun _ => fun
  | [d] => { results := [.lit (.bool false)], args := [d] }
  | _ => none }
def TablesLimitsWrongFalsely : Prop := tablesLimitsRow.holds Tryz.pinned (OpenSpec.ofChange tablesLimitsWrong)

/-- 'paddocklaw08.TablesApart': WHATEVER THE INPUT: true; the input reads as it did. -/
def tablesApartSpec : ChangeSpec := { name := "tablesApart", fn := fun _ => fun
  | [d1, d2] => { results := [.lit (.bool true)], args := [d1, d2] }
  | _ => none }
def tablesApartRow : OpenClaim := { program := "ytcnbngiplfoomaagreatdoor", sum := "5532a9e37d29bf649ebd6476acf50db1272147a901865a8fbeaf892425ad1203", func := "paddock/paddocklaw08.TablesApart", spec := "tablesApart", unfollowed := true, recurses := true, named := ["paddock/api.ErrExists", "paddock/api.ErrForm", "paddock/api.ErrFull", "paddock/api.ErrKind", "paddock/api.ErrRange", "math/bits.deBruijn64tab", "paddock/api.ErrNone"], plainKeys := false, apart := false, laid := [("math/bits.deBruijn64tab", laid_math_bits_deBruijn64tab), ("paddock/api.ErrRange", laid_paddock_api_ErrRange), ("paddock/api.ErrFull", laid_paddock_api_ErrFull), ("paddock/api.ErrNone", laid_paddock_api_ErrNone), ("paddock/api.ErrExists", laid_paddock_api_ErrExists), ("paddock/api.ErrKind", laid_paddock_api_ErrKind), ("paddock/api.ErrForm", laid_paddock_api_ErrForm)] }
def TablesApartSaid : Prop := tablesApartRow.holds Tryz.pinned (OpenSpec.ofChange tablesApartSpec)

/-- ITS FALSE NEIGHBOUR: 'it returns false'. Refute it at one input. -/
def tablesApartWrong : ChangeSpec := { name := "tablesApart", fn := fun _ => fun
  | [d1, d2] => { results := [.lit (.bool false)], args := [d1, d2] }
  | _ => none }
def TablesApartWrongFalsely : Prop := tablesApartRow.holds Tryz.pinned (OpenSpec.ofChange tablesApartWrong)

/-- 'paddocklaw08.TablesIn': WHATEVER THE INPUT: true; the input reads as it did. -/
def tablesInSpec : ChangeSpec := { name := "tablesIn", fn := fun _ => fun
  | [d] => { results := [.lit (.bool true)], args := [d] }
  | _ => none }
def tablesInRow : OpenClaim := { program := "ytcnbngiplfoomaagreatdoor", sum := "5532a9e37d29bf649ebd6476acf50db1272147a901865a8fbeaf892425ad1203", func := "paddock/paddocklaw08.TablesIn", spec := "tablesIn", inPlace := ["internal/reflectlite.TypeOf"], unfollowed := true, recurses := true, named := ["paddock/api.ErrExists", "paddock/api.ErrForm", "paddock/api.ErrFull", "paddock/api.ErrKind", "paddock/api.ErrRange", "math/bits.deBruijn64tab", "paddock/api.ErrNone", "paddock/api.ErrState", "paddock/api.ErrBlocked", "paddock/api.ErrPath", "paddock/api.ErrGoal"], plainKeys := false, apart := false, laid := [("math/bits.deBruijn64tab", laid_math_bits_deBruijn64tab), ("paddock/api.ErrRange", laid_paddock_api_ErrRange), ("paddock/api.ErrFull", laid_paddock_api_ErrFull), ("paddock/api.ErrNone", laid_paddock_api_ErrNone), ("paddock/api.ErrExists", laid_paddock_api_ErrExists), ("paddock/api.ErrKind", laid_paddock_api_ErrKind), ("paddock/api.ErrState", laid_paddock_api_ErrState), ("paddock/api.ErrForm", laid_paddock_api_ErrForm), ("paddock/api.ErrBlocked", laid_paddock_api_ErrBlocked), ("paddock/api.ErrPath", laid_paddock_api_ErrPath), ("paddock/api.ErrGoal", laid_paddock_api_ErrGoal)] }
def TablesInSaid : Prop := tablesInRow.holds Tryz.pinned (OpenSpec.ofChange tablesInSpec)

/-- ITS FALSE NEIGHBOUR: 'it returns false'. Refute it at one input. -/
def tablesInWrong : ChangeSpec := { name := "tablesIn", fn := fun _ => fun
  | [d] => { results := [.lit (.bool false)], args := [d] }
  | _ => none }
def TablesInWrongFalsely : Prop := tablesInRow.holds Tryz.pinned (OpenSpec.ofChange tablesInWrong)

/-- 'paddocklaw08.TablesTurns': WHATEVER THE INPUT: true; the input reads as it did. -/
def tablesTurnsSpec : ChangeSpec := { name := "tablesTurns", fn := fun _ => fun
  | [d1, d2, d3] => { results := [.lit (.bool true)], args := [d1, d2, d3] }
  | _ => none }
def tablesTurnsRow : OpenClaim := { program := "ytcnbngiplfoomaagreatdoor", sum := "5532a9e37d29bf649ebd6476acf50db1272147a901865a8fbeaf892425ad1203", func := "paddock/paddocklaw08.TablesTurns", spec := "tablesTurns", unfollowed := true, recurses := true, named := ["paddock/api.ErrExists", "paddock/api.ErrForm", "paddock/api.ErrFull", "paddock/api.ErrKind", "paddock/api.ErrRange", "math/bits.deBruijn64tab", "paddock/api.ErrNone"], plainKeys := false, apart := false, laid := [("math/bits.deBruijn64tab", laid_math_bits_deBruijn64tab), ("paddock/api.ErrRange", laid_paddock_api_ErrRange), ("paddock/api.ErrFull", laid_paddock_api_ErrFull), ("paddock/api.ErrNone", laid_paddock_api_ErrNone), ("paddock/api.ErrExists", laid_paddock_api_ErrExists), ("paddock/api.ErrKind", laid_paddock_api_ErrKind), ("paddock/api.ErrForm", laid_paddock_api_ErrForm)] }
def TablesTurnsSaid : Prop := tablesTurnsRow.holds Tryz.pinned (OpenSpec.ofChange tablesTurnsSpec)

/-- ITS FALSE NEIGHBOUR: 'it returns false'. Refute it at one input. -/
def tablesTurnsWrong : ChangeSpec := { name := "tablesTurns", fn := fun _ => fun
  | [d1, d2, d3] => { results := [.lit (.bool false)], args := [d1, d2, d3] }
  | _ => none }
def TablesTurnsWrongFalsely : Prop := tablesTurnsRow.holds Tryz.pinned (OpenSpec.ofChange tablesTurnsWrong)

/-- 'paddocklaw08.TablesPlays': WHATEVER THE INPUT: true; the input reads as it did. -/
def tablesPlaysSpec : ChangeSpec := { name := "tablesPlays", fn := fun _ => fun
  | [d] => { results := [.lit (.bool true)], args := [d] }
  | _ => none }
def tablesPlaysRow : OpenClaim := { program := "ytcnbngiplfoomaagreatdoor", sum := "5532a9e37d29bf649ebd6476acf50db1272147a901865a8fbeaf892425ad1203", func := "paddock/paddocklaw08.TablesPlays", spec := "tablesPlays", inPlace := ["internal/reflectlite.TypeOf"], unfollowed := true, recurses := true, named := ["paddock/api.ErrExists", "paddock/api.ErrForm", "paddock/api.ErrFull", "paddock/api.ErrKind", "paddock/api.ErrRange", "math/bits.deBruijn64tab", "paddock/api.ErrNone", "paddock/api.ErrState", "paddock/api.ErrBlocked", "paddock/api.ErrPath", "paddock/api.ErrGoal"], plainKeys := false, apart := false, laid := [("math/bits.deBruijn64tab", laid_math_bits_deBruijn64tab), ("paddock/api.ErrRange", laid_paddock_api_ErrRange), ("paddock/api.ErrFull", laid_paddock_api_ErrFull), ("paddock/api.ErrNone", laid_paddock_api_ErrNone), ("paddock/api.ErrExists", laid_paddock_api_ErrExists), ("paddock/api.ErrKind", laid_paddock_api_ErrKind), ("paddock/api.ErrState", laid_paddock_api_ErrState), ("paddock/api.ErrForm", laid_paddock_api_ErrForm), ("paddock/api.ErrBlocked", laid_paddock_api_ErrBlocked), ("paddock/api.ErrPath", laid_paddock_api_ErrPath), ("paddock/api.ErrGoal", laid_paddock_api_ErrGoal)] }
def TablesPlaysSaid : Prop := tablesPlaysRow.holds Tryz.pinned (OpenSpec.ofChange tablesPlaysSpec)

/-- ITS FALSE NEIGHBOUR: 'it returns false'. Refute it at one input. -/
def tablesPlaysWrong : ChangeSpec := { name := "tablesPlays", fn := fun _ => fun
  | [d] => { results := [.lit (.bool false)], args := [d] }
  | _ => none }
def TablesPlaysWrongFalsely : Prop := tablesPlaysRow.holds Tryz.pinned (OpenSpec.ofChange tablesPlaysWrong)

/-- 'paddocklaw09.QueryNarrows': WHATEVER THE INPUT: true; the input reads as it did. -/
def queryNarrowsSpec : ChangeSpec := { name := "queryNarrows", fn := fun _ => fun
  | [d1, d2, d3] => { results := [.lit (.bool true)], args := [d1, d2, d3] }
  | _ => none }
def queryNarrowsRow : OpenClaim := { program := "ytcnbngiplfoomaagreatdoor", sum := "5532a9e37d29bf649ebd6476acf50db1272147a901865a8fbeaf892425ad1203", func := "paddock/paddocklaw09.QueryNarrows", spec := "queryNarrows", unfollowed := true, recurses := true, named := ["paddock/api.ErrKind", "paddock/api.ErrExists", "paddock/api.ErrForm", "paddock/api.ErrFull", "paddock/api.ErrRange", "math/bits.deBruijn64tab"], plainKeys := false, apart := false, laid := [("math/bits.deBruijn64tab", laid_math_bits_deBruijn64tab), ("paddock/api.ErrRange", laid_paddock_api_ErrRange), ("paddock/api.ErrFull", laid_paddock_api_ErrFull), ("paddock/api.ErrExists", laid_paddock_api_ErrExists), ("paddock/api.ErrKind", laid_paddock_api_ErrKind), ("paddock/api.ErrForm", laid_paddock_api_ErrForm)] }
def QueryNarrowsSaid : Prop := queryNarrowsRow.holds Tryz.pinned (OpenSpec.ofChange queryNarrowsSpec)

/-- ITS FALSE NEIGHBOUR: 'it returns false'. Refute it at one input. -/
def queryNarrowsWrong : ChangeSpec := { name := "queryNarrows", fn := fun _ => fun
  | [d1, d2, d3] => { results := [.lit (.bool false)], args := [d1, d2, d3] }
  | _ => none }
def QueryNarrowsWrongFalsely : Prop := queryNarrowsRow.holds Tryz.pinned (OpenSpec.ofChange queryNarrowsWrong)

/-- 'paddocklaw09.QueryHalves': WHATEVER THE INPUT: true; the input reads as it did. -/
def queryHalvesSpec : ChangeSpec := { name := "queryHalves", fn := fun _ => fun
  | [d1, d2] => { results := [.lit (.bool true)], args := [d1, d2] }
  | _ => none }
def queryHalvesRow : OpenClaim := { program := "ytcnbngiplfoomaagreatdoor", sum := "5532a9e37d29bf649ebd6476acf50db1272147a901865a8fbeaf892425ad1203", func := "paddock/paddocklaw09.QueryHalves", spec := "queryHalves", unfollowed := true, recurses := true, named := ["paddock/api.ErrKind", "paddock/api.ErrExists", "paddock/api.ErrForm", "paddock/api.ErrFull", "paddock/api.ErrRange", "math/bits.deBruijn64tab"], plainKeys := false, apart := false, laid := [("math/bits.deBruijn64tab", laid_math_bits_deBruijn64tab), ("paddock/api.ErrRange", laid_paddock_api_ErrRange), ("paddock/api.ErrFull", laid_paddock_api_ErrFull), ("paddock/api.ErrExists", laid_paddock_api_ErrExists), ("paddock/api.ErrKind", laid_paddock_api_ErrKind), ("paddock/api.ErrForm", laid_paddock_api_ErrForm)] }
def QueryHalvesSaid : Prop := queryHalvesRow.holds Tryz.pinned (OpenSpec.ofChange queryHalvesSpec)

/-- ITS FALSE NEIGHBOUR: 'it returns false'. Refute it at one input. -/
def queryHalvesWrong : ChangeSpec := { name := "queryHalves", fn := fun _ => fun
  | [d1, d2] => { results := [.lit (.bool false)], args := [d1, d2] }
  | _ => none }
def QueryHalvesWrongFalsely : Prop := queryHalvesRow.holds Tryz.pinned (OpenSpec.ofChange queryHalvesWrong)

/-- 'paddocklaw09.QueryBoth': WHATEVER THE INPUT: true; the input reads as it did. -/
def queryBothSpec : ChangeSpec := { name := "queryBoth", fn := fun _ => fun
  | [d1, d2, d3] => { results := [.lit (.bool true)], args := [d1, d2, d3] }
  | _ => none }
def queryBothRow : OpenClaim := { program := "ytcnbngiplfoomaagreatdoor", sum := "5532a9e37d29bf649ebd6476acf50db1272147a901865a8fbeaf892425ad1203", func := "paddock/paddocklaw09.QueryBoth", spec := "queryBoth", unfollowed := true, recurses := true, named := ["paddock/api.ErrKind", "paddock/api.ErrExists", "paddock/api.ErrForm", "paddock/api.ErrFull", "paddock/api.ErrRange", "math/bits.deBruijn64tab", "paddock/api.ErrNone"], plainKeys := false, apart := false, laid := [("math/bits.deBruijn64tab", laid_math_bits_deBruijn64tab), ("paddock/api.ErrRange", laid_paddock_api_ErrRange), ("paddock/api.ErrFull", laid_paddock_api_ErrFull), ("paddock/api.ErrNone", laid_paddock_api_ErrNone), ("paddock/api.ErrExists", laid_paddock_api_ErrExists), ("paddock/api.ErrKind", laid_paddock_api_ErrKind), ("paddock/api.ErrForm", laid_paddock_api_ErrForm)] }
def QueryBothSaid : Prop := queryBothRow.holds Tryz.pinned (OpenSpec.ofChange queryBothSpec)

/-- ITS FALSE NEIGHBOUR: 'it returns false'. Refute it at one input. -/
def queryBothWrong : ChangeSpec := { name := "queryBoth", fn := fun _ => fun
  | [d1, d2, d3] => { results := [.lit (.bool false)], args := [d1, d2, d3] }
  | _ => none }
def QueryBothWrongFalsely : Prop := queryBothRow.holds Tryz.pinned (OpenSpec.ofChange queryBothWrong)

/-- 'paddocklaw09.QueryAnswers': WHATEVER THE INPUT: true; the input reads as it did. -/
def queryAnswersSpec : ChangeSpec := { name := "queryAnswers", fn := fun _ => fun
  | [d] => { results := [.lit (.bool true)], args := [d] }
  | _ => none }
def queryAnswersRow : OpenClaim := { program := "ytcnbngiplfoomaagreatdoor", sum := "5532a9e37d29bf649ebd6476acf50db1272147a901865a8fbeaf892425ad1203", func := "paddock/paddocklaw09.QueryAnswers", spec := "queryAnswers", unfollowed := true, recurses := true, named := ["paddock/api.ErrKind", "paddock/api.ErrExists", "paddock/api.ErrForm", "paddock/api.ErrFull", "paddock/api.ErrRange", "math/bits.deBruijn64tab", "paddock/api.ErrNone"], plainKeys := false, apart := false, laid := [("math/bits.deBruijn64tab", laid_math_bits_deBruijn64tab), ("paddock/api.ErrRange", laid_paddock_api_ErrRange), ("paddock/api.ErrFull", laid_paddock_api_ErrFull), ("paddock/api.ErrNone", laid_paddock_api_ErrNone), ("paddock/api.ErrExists", laid_paddock_api_ErrExists), ("paddock/api.ErrKind", laid_paddock_api_ErrKind), ("paddock/api.ErrForm", laid_paddock_api_ErrForm)] }
def QueryAnswersSaid : Prop := queryAnswersRow.holds Tryz.pinned (OpenSpec.ofChange queryAnswersSpec)

/-- ITS FALSE NEIGHBOUR: 'it returns false'. Refute it at one input. -/
def queryAnswersWrong : ChangeSpec := { name := "queryAnswers", fn := fun _ => fun
  | [d] => { results := [.lit (.bool false)], args := [d] }
  | _ => none }
def QueryAnswersWrongFalsely : Prop := queryAnswersRow.holds Tryz.pinned (OpenSpec.ofChange queryAnswersWrong)

/- THE SECOND FORM. 'bulk': how many values and letters a reading holds, each counted each time it is reached (what is shared counts as often as it is met; a slice's spare places count too). A statement '..UptoSaid' is the law's where the arguments, and the package variables that the reading takes, are together of bulk at most 1048576: NARROWER than '..Said'. Prove '..Said' where nothing that the law and all that it calls make is longer than what came in: it says more and counts as full. Else prove '..UptoSaid'. A law counts once. -/
mutual
def uptoBulk {H : Type} : DataW H → Nat
  | .lit (.string bytes) => bytes.length + 1
  | .lit _ => 1
  | .nil => 1
  | .ptr d => uptoBulk d + 1
  | .slice elems spare => uptoBulkAll elems + uptoBulkAll spare + 1
  | .agg parts => uptoBulkAll parts + 1
  | .iface _ d => uptoBulk d + 1
  | .map entries => uptoBulkEntries entries + 1
  | .held _ => 1
def uptoBulkAll {H : Type} : List (DataW H) → Nat
  | [] => 0
  | d :: r => uptoBulk d + uptoBulkAll r
def uptoBulkEntries {H : Type} : List (Lit × DataW H) → Nat
  | [] => 0
  | x :: r => uptoBulkEntry x + uptoBulkEntries r
def uptoBulkEntry {H : Type} : Lit × DataW H → Nat
  | (.string bytes, d) => bytes.length + uptoBulk d + 1
  | (_, d) => uptoBulk d + 1
 end
def uptoSmall : (H : Type) → List (DataW H) → Bool := fun _ ds => decide (uptoBulkAll ds ≤ 1048576)
def OpenSpec.upto (s : _root_.Go.ChangeSpec) : _root_.Go.OpenSpec := { _root_.Go.OpenSpec.ofChange s with cond := some uptoSmall }

/-- 'paddocklaw08.TablesOrders', WHERE WHAT IT READS IS OF BULK AT MOST 1048576: true; the input reads as it did. -/
def tablesOrdersUptoRow : OpenClaim := { program := "ytcnbngiplfoomaagreatdoor", sum := "5532a9e37d29bf649ebd6476acf50db1272147a901865a8fbeaf892425ad1203", func := "paddock/paddocklaw08.TablesOrders", spec := "tablesOrders", unfollowed := true, recurses := true, named := ["paddock/api.ErrExists", "paddock/api.ErrForm", "paddock/api.ErrFull", "paddock/api.ErrKind", "paddock/api.ErrRange", "math/bits.deBruijn64tab", "paddock/api.ErrNone"], plainKeys := false, apart := false, laid := [("math/bits.deBruijn64tab", laid_math_bits_deBruijn64tab), ("paddock/api.ErrRange", laid_paddock_api_ErrRange), ("paddock/api.ErrFull", laid_paddock_api_ErrFull), ("paddock/api.ErrNone", laid_paddock_api_ErrNone), ("paddock/api.ErrExists", laid_paddock_api_ErrExists), ("paddock/api.ErrKind", laid_paddock_api_ErrKind), ("paddock/api.ErrForm", laid_paddock_api_ErrForm)], narrowed := true }
def TablesOrdersUptoSaid : Prop := tablesOrdersUptoRow.holds Tryz.pinned (OpenSpec.upto tablesOrdersSpec)

/-- 'paddocklaw08.TablesLimits', WHERE WHAT IT READS IS OF BULK AT MOST 1048576: true; the input reads as it did. -/
def tablesLimitsUptoRow : OpenClaim := { program := "ytcnbngiplfoomaagreatdoor", sum := "5532a9e37d29bf649ebd6476acf50db1272147a901865a8fbeaf892425ad1203", func := "paddock/paddocklaw08.TablesLimits", spec := "tablesLimits", inPlace := ["internal/reflectlite.TypeOf"], unfollowed := true, recurses := true, named := ["paddock/api.ErrExists", "paddock/api.ErrForm", "paddock/api.ErrFull", "paddock/api.ErrKind", "paddock/api.ErrRange", "math/bits.deBruijn64tab", "paddock/api.ErrNone", "paddock/api.ErrState", "paddock/api.ErrBlocked", "paddock/api.ErrPath", "paddock/api.ErrGoal"], plainKeys := false, apart := false, laid := [("math/bits.deBruijn64tab", laid_math_bits_deBruijn64tab), ("paddock/api.ErrRange", laid_paddock_api_ErrRange), ("paddock/api.ErrFull", laid_paddock_api_ErrFull), ("paddock/api.ErrNone", laid_paddock_api_ErrNone), ("paddock/api.ErrExists", laid_paddock_api_ErrExists), ("paddock/api.ErrKind", laid_paddock_api_ErrKind), ("paddock/api.ErrState", laid_paddock_api_ErrState), ("paddock/api.ErrForm", laid_paddock_api_ErrForm), ("paddock/api.ErrBlocked", laid_paddock_api_ErrBlocked), ("paddock/api.ErrPath", laid_paddock_api_ErrPath), ("paddock/api.ErrGoal", laid_paddock_api_ErrGoal)], narrowed := true }
def TablesLimitsUptoSaid : Prop := tablesLimitsUptoRow.holds Tryz.pinned (OpenSpec.upto tablesLimitsSpec)

/-- 'paddocklaw08.TablesApart', WHERE WHAT IT READS IS OF BULK AT MOST 1048576: true; the input reads as it did. -/
def tablesApartUptoRow : OpenClaim := { program := "ytcnbngiplfoomaagreatdoor", sum := "5532a9e37d29bf649ebd6476acf50db1272147a901865a8fbeaf892425ad1203", func := "paddock/paddocklaw08.TablesApart", spec := "tablesApart", unfollowed := true, recurses := true, named := ["paddock/api.ErrExists", "paddock/api.ErrForm", "paddock/api.ErrFull", "paddock/api.ErrKind", "paddock/api.ErrRange", "math/bits.deBruijn64tab", "paddock/api.ErrNone"], plainKeys := false, apart := false, laid := [("math/bits.deBruijn64tab", laid_math_bits_deBruijn64tab), ("paddock/api.ErrRange", laid_paddock_api_ErrRange), ("paddock/api.ErrFull", laid_paddock_api_ErrFull), ("paddock/api.ErrNone", laid_paddock_api_ErrNone), ("paddock/api.ErrExists", laid_paddock_api_ErrExists), ("paddock/api.ErrKind", laid_paddock_api_ErrKind), ("paddock/api.ErrForm", laid_paddock_api_ErrForm)], narrowed := true }
def TablesApartUptoSaid : Prop := tablesApartUptoRow.holds Tryz.pinned (OpenSpec.upto tablesApartSpec)

/-- 'paddocklaw08.TablesIn', WHERE WHAT IT READS IS OF BULK AT MOST 1048576: true; the input reads as it did. -/
def tablesInUptoRow : OpenClaim := { program := "ytcnbngiplfoomaagreatdoor", sum := "5532a9e37d29bf649ebd6476acf50db1272147a901865a8fbeaf892425ad1203", func := "paddock/paddocklaw08.TablesIn", spec := "tablesIn", inPlace := ["internal/reflectlite.TypeOf"], unfollowed := true, recurses := true, named := ["paddock/api.ErrExists", "paddock/api.ErrForm", "paddock/api.ErrFull", "paddock/api.ErrKind", "paddock/api.ErrRange", "math/bits.deBruijn64tab", "paddock/api.ErrNone", "paddock/api.ErrState", "paddock/api.ErrBlocked", "paddock/api.ErrPath", "paddock/api.ErrGoal"], plainKeys := false, apart := false, laid := [("math/bits.deBruijn64tab", laid_math_bits_deBruijn64tab), ("paddock/api.ErrRange", laid_paddock_api_ErrRange), ("paddock/api.ErrFull", laid_paddock_api_ErrFull), ("paddock/api.ErrNone", laid_paddock_api_ErrNone), ("paddock/api.ErrExists", laid_paddock_api_ErrExists), ("paddock/api.ErrKind", laid_paddock_api_ErrKind), ("paddock/api.ErrState", laid_paddock_api_ErrState), ("paddock/api.ErrForm", laid_paddock_api_ErrForm), ("paddock/api.ErrBlocked", laid_paddock_api_ErrBlocked), ("paddock/api.ErrPath", laid_paddock_api_ErrPath), ("paddock/api.ErrGoal", laid_paddock_api_ErrGoal)], narrowed := true }
def TablesInUptoSaid : Prop := tablesInUptoRow.holds Tryz.pinned (OpenSpec.upto tablesInSpec)

/-- 'paddocklaw08.TablesTurns', WHERE WHAT IT READS IS OF BULK AT MOST 1048576: true; the input reads as it did. -/
def tablesTurnsUptoRow : OpenClaim := { program := "ytcnbngiplfoomaagreatdoor", sum := "5532a9e37d29bf649ebd6476acf50db1272147a901865a8fbeaf892425ad1203", func := "paddock/paddocklaw08.TablesTurns", spec := "tablesTurns", unfollowed := true, recurses := true, named := ["paddock/api.ErrExists", "paddock/api.ErrForm", "paddock/api.ErrFull", "paddock/api.ErrKind", "paddock/api.ErrRange", "math/bits.deBruijn64tab", "paddock/api.ErrNone"], plainKeys := false, apart := false, laid := [("math/bits.deBruijn64tab", laid_math_bits_deBruijn64tab), ("paddock/api.ErrRange", laid_paddock_api_ErrRange), ("paddock/api.ErrFull", laid_paddock_api_ErrFull), ("paddock/api.ErrNone", laid_paddock_api_ErrNone), ("paddock/api.ErrExists", laid_paddock_api_ErrExists), ("paddock/api.ErrKind", laid_paddock_api_ErrKind), ("paddock/api.ErrForm", laid_paddock_api_ErrForm)], narrowed := true }
def TablesTurnsUptoSaid : Prop := tablesTurnsUptoRow.holds Tryz.pinned (OpenSpec.upto tablesTurnsSpec)

/-- 'paddocklaw08.TablesPlays', WHERE WHAT IT READS IS OF BULK AT MOST 1048576: true; the input reads as it did. -/
def tablesPlaysUptoRow : OpenClaim := { program := "ytcnbngiplfoomaagreatdoor", sum := "5532a9e37d29bf649ebd6476acf50db1272147a901865a8fbeaf892425ad1203", func := "paddock/paddocklaw08.TablesPlays", spec := "tablesPlays", inPlace := ["internal/reflectlite.TypeOf"], unfollowed := true, recurses := true, named := ["paddock/api.ErrExists", "paddock/api.ErrForm", "paddock/api.ErrFull", "paddock/api.ErrKind", "paddock/api.ErrRange", "math/bits.deBruijn64tab", "paddock/api.ErrNone", "paddock/api.ErrState", "paddock/api.ErrBlocked", "paddock/api.ErrPath", "paddock/api.ErrGoal"], plainKeys := false, apart := false, laid := [("math/bits.deBruijn64tab", laid_math_bits_deBruijn64tab), ("paddock/api.ErrRange", laid_paddock_api_ErrRange), ("paddock/api.ErrFull", laid_paddock_api_ErrFull), ("paddock/api.ErrNone", laid_paddock_api_ErrNone), ("paddock/api.ErrExists", laid_paddock_api_ErrExists), ("paddock/api.ErrKind", laid_paddock_api_ErrKind), ("paddock/api.ErrState", laid_paddock_api_ErrState), ("paddock/api.ErrForm", laid_paddock_api_ErrForm), ("paddock/api.ErrBlocked", laid_paddock_api_ErrBlocked), ("paddock/api.ErrPath", laid_paddock_api_ErrPath), ("paddock/api.ErrGoal", laid_paddock_api_ErrGoal)], narrowed := true }
def TablesPlaysUptoSaid : Prop := tablesPlaysUptoRow.holds Tryz.pinned (OpenSpec.upto tablesPlaysSpec)

/-- 'paddocklaw09.QueryNarrows', WHERE WHAT IT READS IS OF BULK AT MOST 1048576: true; the input reads as it did. -/
def queryNarrowsUptoRow : OpenClaim := { program := "ytcnbngiplfoomaagreatdoor", sum := "5532a9e37d29bf649ebd6476acf50db1272147a901865a8fbeaf892425ad1203", func := "paddock/paddocklaw09.QueryNarrows", spec := "queryNarrows", unfollowed := true, recurses := true, named := ["paddock/api.ErrKind", "paddock/api.ErrExists", "paddock/api.ErrForm", "paddock/api.ErrFull", "paddock/api.ErrRange", "math/bits.deBruijn64tab"], plainKeys := false, apart := false, laid := [("math/bits.deBruijn64tab", laid_math_bits_deBruijn64tab), ("paddock/api.ErrRange", laid_paddock_api_ErrRange), ("paddock/api.ErrFull", laid_paddock_api_ErrFull), ("paddock/api.ErrExists", laid_paddock_api_ErrExists), ("paddock/api.ErrKind", laid_paddock_api_ErrKind), ("paddock/api.ErrForm", laid_paddock_api_ErrForm)], narrowed := true }
def QueryNarrowsUptoSaid : Prop := queryNarrowsUptoRow.holds Tryz.pinned (OpenSpec.upto queryNarrowsSpec)

/-- 'paddocklaw09.QueryHalves', WHERE WHAT IT READS IS OF BULK AT MOST 1048576: true; the input reads as it did. -/
def queryHalvesUptoRow : OpenClaim := { program := "ytcnbngiplfoomaagreatdoor", sum := "5532a9e37d29bf649ebd6476acf50db1272147a901865a8fbeaf892425ad1203", func := "paddock/paddocklaw09.QueryHalves", spec := "queryHalves", unfollowed := true, recurses := true, named := ["paddock/api.ErrKind", "paddock/api.ErrExists", "paddock/api.ErrForm", "paddock/api.ErrFull", "paddock/api.ErrRange", "math/bits.deBruijn64tab"], plainKeys := false, apart := false, laid := [("math/bits.deBruijn64tab", laid_math_bits_deBruijn64tab), ("paddock/api.ErrRange", laid_paddock_api_ErrRange), ("paddock/api.ErrFull", laid_paddock_api_ErrFull), ("paddock/api.ErrExists", laid_paddock_api_ErrExists), ("paddock/api.ErrKind", laid_paddock_api_ErrKind), ("paddock/api.ErrForm", laid_paddock_api_ErrForm)], narrowed := true }
def QueryHalvesUptoSaid : Prop := queryHalvesUptoRow.holds Tryz.pinned (OpenSpec.upto queryHalvesSpec)

/-- 'paddocklaw09.QueryBoth', WHERE WHAT IT READS IS OF BULK AT MOST 1048576: true; the input reads as it did. -/
def queryBothUptoRow : OpenClaim := { program := "ytcnbngiplfoomaagreatdoor", sum := "5532a9e37d29bf649ebd6476acf50db1272147a901865a8fbeaf892425ad1203", func := "paddock/paddocklaw09.QueryBoth", spec := "queryBoth", unfollowed := true, recurses := true, named := ["paddock/api.ErrKind", "paddock/api.ErrExists", "paddock/api.ErrForm", "paddock/api.ErrFull", "paddock/api.ErrRange", "math/bits.deBruijn64tab", "paddock/api.ErrNone"], plainKeys := false, apart := false, laid := [("math/bits.deBruijn64tab", laid_math_bits_deBruijn64tab), ("paddock/api.ErrRange", laid_paddock_api_ErrRange), ("paddock/api.ErrFull", laid_paddock_api_ErrFull), ("paddock/api.ErrNone", laid_paddock_api_ErrNone), ("paddock/api.ErrExists", laid_paddock_api_ErrExists), ("paddock/api.ErrKind", laid_paddock_api_ErrKind), ("paddock/api.ErrForm", laid_paddock_api_ErrForm)], narrowed := true }
def QueryBothUptoSaid : Prop := queryBothUptoRow.holds Tryz.pinned (OpenSpec.upto queryBothSpec)

/-- 'paddocklaw09.QueryAnswers', WHERE WHAT IT READS IS OF BULK AT MOST 1048576: true; the input reads as it did. -/
def queryAnswersUptoRow : OpenClaim := { program := "ytcnbngiplfoomaagreatdoor", sum := "5532a9e37d29bf649ebd6476acf50db1272147a901865a8fbeaf892425ad1203", func := "paddock/paddocklaw09.QueryAnswers", spec := "queryAnswers", unfollowed := true, recurses := true, named := ["paddock/api.ErrKind", "paddock/api.ErrExists", "paddock/api.ErrForm", "paddock/api.ErrFull", "paddock/api.ErrRange", "math/bits.deBruijn64tab", "paddock/api.ErrNone"], plainKeys := false, apart := false, laid := [("math/bits.deBruijn64tab", laid_math_bits_deBruijn64tab), ("paddock/api.ErrRange", laid_paddock_api_ErrRange), ("paddock/api.ErrFull", laid_paddock_api_ErrFull), ("paddock/api.ErrNone", laid_paddock_api_ErrNone), ("paddock/api.ErrExists", laid_paddock_api_ErrExists), ("paddock/api.ErrKind", laid_paddock_api_ErrKind), ("paddock/api.ErrForm", laid_paddock_api_ErrForm)], narrowed := true }
def QueryAnswersUptoSaid : Prop := queryAnswersUptoRow.holds Tryz.pinned (OpenSpec.upto queryAnswersSpec)

end Rows
end Go.Proofs.YtcnbngiplfoomaaGreatDoor
