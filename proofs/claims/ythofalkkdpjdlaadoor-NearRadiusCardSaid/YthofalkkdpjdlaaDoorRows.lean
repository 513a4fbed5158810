/-
  NARROWER THAN 'FOR EVERY INPUT', by the rows' own cells (each row's printed sentence says how): QuadWalks: laid · NearGrows: laid · NearMoved: laid · NearFirst: laid · NearRadius: laid · NearNearest: laid · NearClosest: laid.
  DERIVED. THE GIVEN ROWS OF THIS SEAT. 7 by the template 'for every input the law returns true; each argument reads behind the call as it read before'; 0 by the template 'total and deterministic' (their statements: YthofalkkdpjdlaaDoorTotals.lean).
  GIVEN WITH THE SEED: the statements are not yours to turn. If you find one false, say at which input.
  Laid BY PROGRAM, IN A SANDBOX (cutbox-rows.mjs): the forced cells as the released guide's own fill.sh prints them over the translation 6e39122f28be5a20… (all of the seat's roots in one cut). By AI agents, Wed Nov 11 2026. No macro, syntax, notation, axiom, sorry.
-/
import Derived.Test.YthofalkkdpjdlaaDoorChecked
import GoSem.Claim
import GoSem.ClaimJoined
import GoSem.ClaimMapViews
import Derived.JoinedTies
import Derived.KernelRfl
namespace Go.Proofs.YthofalkkdpjdlaaDoor
/- THE CELL 'sum', in the pinned program and in every row, IS THE sha256 OF THE DUMP (.gsa) THAT YthofalkkdpjdlaaDoorProg.lean LOADS. Nothing in Lean hashes anything: it is a label: what it is worth is what the hold of that sum in a sandbox is worth. -/
noncomputable def Tryd.pinned : Pinned := { name := "ythofalkkdpjdlaadoor", sum := "6e39122f28be5a2044e5b9e84c56e52212d8a4a993bc5efa97bb9724d443c0d0", checked := Tryd.checked }
namespace Rows
def none {H : Type} : Left H := { results := [], args := [] }

/- WHAT THE LISTED PACKAGE-LEVEL VARIABLES READ AS WHEN THE CALL BEGINS. Each datum BY PROGRAM (the guide's laid-datum.mjs) off the statement by which the dump's own 'gosem.cut.vars' lays the variable. In a bare row this is a premise. The card (YthofalkkdpjdlaaDoorCards.lean) ties it to the program's text. -/
def laid_paddock_api_ErrRange {H : Type} : DataW H := .iface "*errors.errorString" (.ptr (.agg [.lit (.string [112, 97, 100, 100, 111, 99, 107, 58, 32, 114, 97, 110, 103, 101])]))
def laid_paddock_api_ErrNone {H : Type} : DataW H := .iface "*errors.errorString" (.ptr (.agg [.lit (.string [112, 97, 100, 100, 111, 99, 107, 58, 32, 110, 111, 110, 101])]))
def laid_paddock_api_ErrForm {H : Type} : DataW H := .iface "*errors.errorString" (.ptr (.agg [.lit (.string [112, 97, 100, 100, 111, 99, 107, 58, 32, 102, 111, 114, 109])]))
def laid_paddock_api_ErrFull {H : Type} : DataW H := .iface "*errors.errorString" (.ptr (.agg [.lit (.string [112, 97, 100, 100, 111, 99, 107, 58, 32, 102, 117, 108, 108])]))
def laid_paddock_api_ErrExists {H : Type} : DataW H := .iface "*errors.errorString" (.ptr (.agg [.lit (.string [112, 97, 100, 100, 111, 99, 107, 58, 32, 101, 120, 105, 115, 116, 115])]))
def laid_paddock_api_ErrKind {H : Type} : DataW H := .iface "*errors.errorString" (.ptr (.agg [.lit (.string [112, 97, 100, 100, 111, 99, 107, 58, 32, 107, 105, 110, 100])]))
def laid_paddock_api_ErrState {H : Type} : DataW H := .iface "*errors.errorString" (.ptr (.agg [.lit (.string [112, 97, 100, 100, 111, 99, 107, 58, 32, 115, 116, 97, 116, 101])]))
def laid_paddock_api_ErrBlocked {H : Type} : DataW H := .iface "*errors.errorString" (.ptr (.agg [.lit (.string [112, 97, 100, 100, 111, 99, 107, 58, 32, 98, 108, 111, 99, 107, 101, 100])]))
def laid_paddock_api_ErrPath {H : Type} : DataW H := .iface "*errors.errorString" (.ptr (.agg [.lit (.string [112, 97, 100, 100, 111, 99, 107, 58, 32, 112, 97, 116, 104])]))
def laid_paddock_api_ErrGoal {H : Type} : DataW H := .iface "*errors.errorString" (.ptr (.agg [.lit (.string [112, 97, 100, 100, 111, 99, 107, 58, 32, 103, 111, 97, 108])]))

/-- 'paddocklaw12.QuadWalks': WHATEVER THE INPUT: true; the input reads as it did. -/
def quadWalksSpec : ChangeSpec := { name := "quadWalks", fn := fun _ => fun
  | [d1, d2, d3] => { results := [.lit (.bool true)], args := [d1, d2, d3] }
  | _ => none }
def quadWalksRow : OpenClaim := { program := "ythofalkkdpjdlaadoor", sum := "6e39122f28be5a2044e5b9e84c56e52212d8a4a993bc5efa97bb9724d443c0d0", func := "paddock/paddocklaw12.QuadWalks", spec := "quadWalks", unfollowed := true, recurses := true, named := ["paddock/api.ErrForm", "paddock/api.ErrRange", "paddock/api.ErrNone"], plainKeys := false, apart := false, laid := [("paddock/api.ErrRange", laid_paddock_api_ErrRange), ("paddock/api.ErrNone", laid_paddock_api_ErrNone), ("paddock/api.ErrForm", laid_paddock_api_ErrForm)] }
def QuadWalksSaid : Prop := quadWalksRow.holds Tryd.pinned (OpenSpec.ofChange quadWalksSpec)

/-- ITS FALSE NEIGHBOUR: 'it returns false'. Refute it at one input. -/
def quadWalksWrong : ChangeSpec := { name := "quadWalks", fn := fun _ => fun
  | [d1, d2, d3] => { results := [.lit (.bool false)], args := [d1, d2, d3] }
  | _ => none }
def QuadWalksWrongFalsely : Prop := quadWalksRow.holds Tryd.pinned (OpenSpec.ofChange quadWalksWrong)

/-- 'paddocklaw13.NearGrows': WHATEVER THE INPUT: true; the input reads as it did. -/
def nearGrowsSpec : ChangeSpec := { name := "nearGrows", fn := fun _ => fun
  | [d1, d2, d3] => { results := [.lit (.bool true)], args := [d1, d2, d3] }
  | _ => none }
def nearGrowsRow : OpenClaim := { program := "ythofalkkdpjdlaadoor", sum := "6e39122f28be5a2044e5b9e84c56e52212d8a4a993bc5efa97bb9724d443c0d0", func := "paddock/paddocklaw13.NearGrows", spec := "nearGrows", inPlace := ["slices.overlaps[paddock/near.found]"], unfollowed := true, recurses := true, named := ["paddock/api.ErrForm", "paddock/api.ErrRange", "paddock/api.ErrNone"], plainKeys := false, apart := false, laid := [("paddock/api.ErrRange", laid_paddock_api_ErrRange), ("paddock/api.ErrNone", laid_paddock_api_ErrNone), ("paddock/api.ErrForm", laid_paddock_api_ErrForm)] }
def NearGrowsSaid : Prop := nearGrowsRow.holds Tryd.pinned (OpenSpec.ofChange nearGrowsSpec)

/-- ITS FALSE NEIGHBOUR: 'it returns false'. Refute it at one input. -/
def nearGrowsWrong : ChangeSpec := { name := "nearGrows", fn := fun _ => fun
  | [d1, d2, d3] => { results := [.lit (.bool false)], args := [d1, d2, d3] }
  | _ => none }
def NearGrowsWrongFalsely : Prop := nearGrowsRow.holds Tryd.pinned (OpenSpec.ofChange nearGrowsWrong)

/-- 'paddocklaw13.NearMoved': WHATEVER THE INPUT: true; the input reads as it did. -/
def nearMovedSpec : ChangeSpec := { name := "nearMoved", fn := fun _ => fun
  | [d1, d2, d3] => { results := [.lit (.bool true)], args := [d1, d2, d3] }
  | _ => none }
def nearMovedRow : OpenClaim := { program := "ythofalkkdpjdlaadoor", sum := "6e39122f28be5a2044e5b9e84c56e52212d8a4a993bc5efa97bb9724d443c0d0", func := "paddock/paddocklaw13.NearMoved", spec := "nearMoved", inPlace := ["slices.overlaps[paddock/near.found]"], unfollowed := true, recurses := true, named := ["paddock/api.ErrForm", "paddock/api.ErrRange", "paddock/api.ErrNone"], plainKeys := false, apart := false, laid := [("paddock/api.ErrRange", laid_paddock_api_ErrRange), ("paddock/api.ErrNone", laid_paddock_api_ErrNone), ("paddock/api.ErrForm", laid_paddock_api_ErrForm)] }
def NearMovedSaid : Prop := nearMovedRow.holds Tryd.pinned (OpenSpec.ofChange nearMovedSpec)

/-- ITS FALSE NEIGHBOUR: 'it returns false'. Refute it at one input. -/
def nearMovedWrong : ChangeSpec := { name := "nearMoved", fn := fun _ => fun
  | [d1, d2, d3] => { results := [.lit (.bool false)], args := [d1, d2, d3] }
  | _ => none }
def NearMovedWrongFalsely : Prop := nearMovedRow.holds Tryd.pinned (OpenSpec.ofChange nearMovedWrong)

/-- 'paddocklaw13.NearFirst': WHATEVER THE INPUT: true; the input reads as it did. -/
def nearFirstSpec : ChangeSpec := { name := "nearFirst", fn := fun _ => fun
  | [d1, d2, d3] => { results := [.lit (.bool true)], args := [d1, d2, d3] }
  | _ => none }
def nearFirstRow : OpenClaim := { program := "ythofalkkdpjdlaadoor", sum := "6e39122f28be5a2044e5b9e84c56e52212d8a4a993bc5efa97bb9724d443c0d0", func := "paddock/paddocklaw13.NearFirst", spec := "nearFirst", inPlace := ["slices.overlaps[paddock/near.found]"], unfollowed := true, recurses := true, named := ["paddock/api.ErrForm", "paddock/api.ErrRange", "paddock/api.ErrNone"], plainKeys := false, apart := false, laid := [("paddock/api.ErrRange", laid_paddock_api_ErrRange), ("paddock/api.ErrNone", laid_paddock_api_ErrNone), ("paddock/api.ErrForm", laid_paddock_api_ErrForm)] }
def NearFirstSaid : Prop := nearFirstRow.holds Tryd.pinned (OpenSpec.ofChange nearFirstSpec)

/-- ITS FALSE NEIGHBOUR: 'it returns false'. Refute it at one input. -/
def nearFirstWrong : ChangeSpec := { name := "nearFirst", fn := fun _ => fun
  | [d1, d2, d3] => { results := [.lit (.bool false)], args := [d1, d2, d3] }
  | _ => none }
def NearFirstWrongFalsely : Prop := nearFirstRow.holds Tryd.pinned (OpenSpec.ofChange nearFirstWrong)

/-- 'paddocklaw13.NearRadius': WHATEVER THE INPUT: true; the input reads as it did. -/
def nearRadiusSpec : ChangeSpec := { name := "nearRadius", fn := fun _ => fun
  | [d1, d2, d3] => { results := [.lit (.bool true)], args := [d1, d2, d3] }
  | _ => none }
def nearRadiusRow : OpenClaim := { program := "ythofalkkdpjdlaadoor", sum := "6e39122f28be5a2044e5b9e84c56e52212d8a4a993bc5efa97bb9724d443c0d0", func := "paddock/paddocklaw13.NearRadius", spec := "nearRadius", inPlace := ["slices.overlaps[paddock/near.found]", "internal/reflectlite.TypeOf"], unfollowed := true, recurses := true, named := ["paddock/api.ErrForm", "paddock/api.ErrRange", "paddock/api.ErrNone", "paddock/api.ErrFull", "paddock/api.ErrExists", "paddock/api.ErrKind", "paddock/api.ErrState", "paddock/api.ErrBlocked", "paddock/api.ErrPath", "paddock/api.ErrGoal"], plainKeys := false, apart := false, laid := [("paddock/api.ErrRange", laid_paddock_api_ErrRange), ("paddock/api.ErrFull", laid_paddock_api_ErrFull), ("paddock/api.ErrNone", laid_paddock_api_ErrNone), ("paddock/api.ErrExists", laid_paddock_api_ErrExists), ("paddock/api.ErrKind", laid_paddock_api_ErrKind), ("paddock/api.ErrState", laid_paddock_api_ErrState), ("paddock/api.ErrForm", laid_paddock_api_ErrForm), ("paddock/api.ErrBlocked", laid_paddock_api_ErrBlocked), ("paddock/api.ErrPath", laid_paddock_api_ErrPath), ("paddock/api.ErrGoal", laid_paddock_api_ErrGoal)] }
def NearRadiusSaid : Prop := nearRadiusRow.holds Tryd.pinned (OpenSpec.ofChange nearRadiusSpec)

/-- ITS FALSE NEIGHBOUR: 'it returns false'. Refute it at one input. -/
def nearRadiusWrong : ChangeSpec := { name := "nearRadius", fn := fun _ => fun
  | [d1, d2, d3] => { results := [.lit (.bool false)], args := [d1, d2, d3] }
  | _ => none }
def NearRadiusWrongFalsely : Prop := nearRadiusRow.holds Tryd.pinned (OpenSpec.ofChange nearRadiusWrong)

/-- 'paddocklaw13.NearNearest': WHATEVER THE INPUT: true; the input reads as it did. -/
def nearNearestSpec : ChangeSpec := { name := "nearNearest", fn := fun _ => fun
  | [d1, d2, d3] => { results := [.lit (.bool true)], args := [d1, d2, d3] }
  | _ => none }
def nearNearestRow : OpenClaim := { program := "ythofalkkdpjdlaadoor", sum := "6e39122f28be5a2044e5b9e84c56e52212d8a4a993bc5efa97bb9724d443c0d0", func := "paddock/paddocklaw13.NearNearest", spec := "nearNearest", inPlace := ["slices.overlaps[paddock/near.found]", "internal/reflectlite.TypeOf"], unfollowed := true, recurses := true, named := ["paddock/api.ErrForm", "paddock/api.ErrRange", "paddock/api.ErrNone", "paddock/api.ErrFull", "paddock/api.ErrExists", "paddock/api.ErrKind", "paddock/api.ErrState", "paddock/api.ErrBlocked", "paddock/api.ErrPath", "paddock/api.ErrGoal"], plainKeys := false, apart := false, laid := [("paddock/api.ErrRange", laid_paddock_api_ErrRange), ("paddock/api.ErrFull", laid_paddock_api_ErrFull), ("paddock/api.ErrNone", laid_paddock_api_ErrNone), ("paddock/api.ErrExists", laid_paddock_api_ErrExists), ("paddock/api.ErrKind", laid_paddock_api_ErrKind), ("paddock/api.ErrState", laid_paddock_api_ErrState), ("paddock/api.ErrForm", laid_paddock_api_ErrForm), ("paddock/api.ErrBlocked", laid_paddock_api_ErrBlocked), ("paddock/api.ErrPath", laid_paddock_api_ErrPath), ("paddock/api.ErrGoal", laid_paddock_api_ErrGoal)] }
def NearNearestSaid : Prop := nearNearestRow.holds Tryd.pinned (OpenSpec.ofChange nearNearestSpec)

/-- ITS FALSE NEIGHBOUR: 'it returns false'. Refute it at one input. -/
def nearNearestWrong : ChangeSpec := { name := "nearNearest", fn := fun _ => fun
  | [d1, d2, d3] => { results := [.lit (.bool false)], args := [d1, d2, d3] }
  | _ => none }
def NearNearestWrongFalsely : Prop := nearNearestRow.holds Tryd.pinned (OpenSpec.ofChange nearNearestWrong)

/-- 'paddocklaw13.NearClosest': WHATEVER THE INPUT: true; the input reads as it did. -/
def nearClosestSpec : ChangeSpec := { name := "nearClosest", fn := fun _ => fun
  | [d1, d2, d3] => { results := [.lit (.bool true)], args := [d1, d2, d3] }
  | _ => none }
def nearClosestRow : OpenClaim := { program := "ythofalkkdpjdlaadoor", sum := "6e39122f28be5a2044e5b9e84c56e52212d8a4a993bc5efa97bb9724d443c0d0", func := "paddock/paddocklaw13.NearClosest", spec := "nearClosest", inPlace := ["slices.overlaps[paddock/near.found]", "internal/reflectlite.TypeOf"], unfollowed := true, recurses := true, named := ["paddock/api.ErrForm", "paddock/api.ErrRange", "paddock/api.ErrNone", "paddock/api.ErrFull", "paddock/api.ErrExists", "paddock/api.ErrKind", "paddock/api.ErrState", "paddock/api.ErrBlocked", "paddock/api.ErrPath", "paddock/api.ErrGoal"], plainKeys := false, apart := false, laid := [("paddock/api.ErrRange", laid_paddock_api_ErrRange), ("paddock/api.ErrFull", laid_paddock_api_ErrFull), ("paddock/api.ErrNone", laid_paddock_api_ErrNone), ("paddock/api.ErrExists", laid_paddock_api_ErrExists), ("paddock/api.ErrKind", laid_paddock_api_ErrKind), ("paddock/api.ErrState", laid_paddock_api_ErrState), ("paddock/api.ErrForm", laid_paddock_api_ErrForm), ("paddock/api.ErrBlocked", laid_paddock_api_ErrBlocked), ("paddock/api.ErrPath", laid_paddock_api_ErrPath), ("paddock/api.ErrGoal", laid_paddock_api_ErrGoal)] }
def NearClosestSaid : Prop := nearClosestRow.holds Tryd.pinned (OpenSpec.ofChange nearClosestSpec)

/-- ITS FALSE NEIGHBOUR: 'it returns false'. Refute it at one input. -/
def nearClosestWrong : ChangeSpec := { name := "nearClosest", fn := fun _ => fun
  | [d1, d2, d3] => { results := [.lit (.bool false)], args := [d1, d2, d3] }
  | _ => none }
def NearClosestWrongFalsely : Prop := nearClosestRow.holds Tryd.pinned (OpenSpec.ofChange nearClosestWrong)

/- THE SECOND FORM. 'bulk': how many values and letters a reading holds, each counted each time it is reached (what is shared counts as often as it is met; a slice's spare places count too). A statement '..UptoSaid' is the law's where the arguments, and the package variables that the reading takes, are together of bulk at most 1048576: NARROWER than '..Said'. Prove '..Said' where nothing that the law and all that it calls make is longer than what came in: it says more and counts as full. Else prove '..UptoSaid'. A law counts once. -/
mutual
def uptoBulk {H : Type} : DataW H → Nat
  | .lit (.string bytes) => bytes.length + 1
  | .lit _ => 1
  | .nil => 1
  | .ptr d => uptoBulk d + 1
  | .slice elems spare => uptoBulkAll elems + uptoBulkAll spare + 1
  | .agg parts => uptoBulkAll parts + 1
  | .iface _ d => uptoBulk d + 1
  | .map entries => uptoBulkEntries entries + 1
  | .held _ => 1
def uptoBulkAll {H : Type} : List (DataW H) → Nat
  | [] => 0
  | d :: r => uptoBulk d + uptoBulkAll r
def uptoBulkEntries {H : Type} : List (Lit × DataW H) → Nat
  | [] => 0
  | x :: r => uptoBulkEntry x + uptoBulkEntries r
def uptoBulkEntry {H : Type} : Lit × DataW H → Nat
  | (.string bytes, d) => bytes.length + uptoBulk d + 1
  | (_, d) => uptoBulk d + 1
 end
def uptoSmall : (H : Type) → List (DataW H) → Bool := fun _ ds => decide (uptoBulkAll ds ≤ 1048576)
def OpenSpec.upto (s : _root_.Go.ChangeSpec) : _root_.Go.OpenSpec := { _root_.Go.OpenSpec.ofChange s with cond := some uptoSmall }

/-- 'paddocklaw12.QuadWalks', WHERE WHAT IT READS IS OF BULK AT MOST 1048576: true; the input reads as it did. -/
def quadWalksUptoRow : OpenClaim := { program := "ythofalkkdpjdlaadoor", sum := "6e39122f28be5a2044e5b9e84c56e52212d8a4a993bc5efa97bb9724d443c0d0", func := "paddock/paddocklaw12.QuadWalks", spec := "quadWalks", unfollowed := true, recurses := true, named := ["paddock/api.ErrForm", "paddock/api.ErrRange", "paddock/api.ErrNone"], plainKeys := false, apart := false, laid := [("paddock/api.ErrRange", laid_paddock_api_ErrRange), ("paddock/api.ErrNone", laid_paddock_api_ErrNone), ("paddock/api.ErrForm", laid_paddock_api_ErrForm)], narrowed := true }
def QuadWalksUptoSaid : Prop := quadWalksUptoRow.holds Tryd.pinned (OpenSpec.upto quadWalksSpec)

/-- 'paddocklaw13.NearGrows', WHERE WHAT IT READS IS OF BULK AT MOST 1048576: true; the input reads as it did. -/
def nearGrowsUptoRow : OpenClaim := { program := "ythofalkkdpjdlaadoor", sum := "6e39122f28be5a2044e5b9e84c56e52212d8a4a993bc5efa97bb9724d443c0d0", func := "paddock/paddocklaw13.NearGrows", spec := "nearGrows", inPlace := ["slices.overlaps[paddock/near.found]"], unfollowed := true, recurses := true, named := ["paddock/api.ErrForm", "paddock/api.ErrRange", "paddock/api.ErrNone"], plainKeys := false, apart := false, laid := [("paddock/api.ErrRange", laid_paddock_api_ErrRange), ("paddock/api.ErrNone", laid_paddock_api_ErrNone), ("paddock/api.ErrForm", laid_paddock_api_ErrForm)], narrowed := true }
def NearGrowsUptoSaid : Prop := nearGrowsUptoRow.holds Tryd.pinned (OpenSpec.upto nearGrowsSpec)

/-- 'paddocklaw13.NearMoved', WHERE WHAT IT READS IS OF BULK AT MOST 1048576: true; the input reads as it did. -/
def nearMovedUptoRow : OpenClaim := { program := "ythofalkkdpjdlaadoor", sum := "6e39122f28be5a2044e5b9e84c56e52212d8a4a993bc5efa97bb9724d443c0d0", func := "paddock/paddocklaw13.NearMoved", spec := "nearMoved", inPlace := ["slices.overlaps[paddock/near.found]"], unfollowed := true, recurses := true, named := ["paddock/api.ErrForm", "paddock/api.ErrRange", "paddock/api.ErrNone"], plainKeys := false, apart := false, laid := [("paddock/api.ErrRange", laid_paddock_api_ErrRange), ("paddock/api.ErrNone", laid_paddock_api_ErrNone), ("paddock/api.ErrForm", laid_paddock_api_ErrForm)], narrowed := true }
def NearMovedUptoSaid : Prop := nearMovedUptoRow.holds Tryd.pinned (OpenSpec.upto nearMovedSpec)

/-- 'paddocklaw13.NearFirst', WHERE WHAT IT READS IS OF BULK AT MOST 1048576: true; the input reads as it did. -/
def nearFirstUptoRow : OpenClaim := { program := "ythofalkkdpjdlaadoor", sum := "6e39122f28be5a2044e5b9e84c56e52212d8a4a993bc5efa97bb9724d443c0d0", func := "paddock/paddocklaw13.NearFirst", spec := "nearFirst", inPlace := ["slices.overlaps[paddock/near.found]"], unfollowed := true, recurses := true, named := ["paddock/api.ErrForm", "paddock/api.ErrRange", "paddock/api.ErrNone"], plainKeys := false, apart := false, laid := [("paddock/api.ErrRange", laid_paddock_api_ErrRange), ("paddock/api.ErrNone", laid_paddock_api_ErrNone), ("paddock/api.ErrForm", laid_paddock_api_ErrForm)], narrowed := true }
def NearFirstUptoSaid : Prop := nearFirstUptoRow.holds Tryd.pinned (OpenSpec.upto nearFirstSpec)

/-- 'paddocklaw13.NearRadius', WHERE WHAT IT READS IS OF BULK AT MOST 1048576: true; the input reads as it did. -/
def nearRadiusUptoRow : OpenClaim := { program := "ythofalkkdpjdlaadoor", sum := "6e39122f28be5a2044e5b9e84c56e52212d8a4a993bc5efa97bb9724d443c0d0", func := "paddock/paddocklaw13.NearRadius", spec := "nearRadius", inPlace := ["slices.overlaps[paddock/near.found]", "internal/reflectlite.TypeOf"], unfollowed := true, recurses := true, named := ["paddock/api.ErrForm", "paddock/api.ErrRange", "paddock/api.ErrNone", "paddock/api.ErrFull", "paddock/api.ErrExists", "paddock/api.ErrKind", "paddock/api.ErrState", "paddock/api.ErrBlocked", "paddock/api.ErrPath", "paddock/api.ErrGoal"], plainKeys := false, apart := false, laid := [("paddock/api.ErrRange", laid_paddock_api_ErrRange), ("paddock/api.ErrFull", laid_paddock_api_ErrFull), ("paddock/api.ErrNone", laid_paddock_api_ErrNone), ("paddock/api.ErrExists", laid_paddock_api_ErrExists), ("paddock/api.ErrKind", laid_paddock_api_ErrKind), ("paddock/api.ErrState", laid_paddock_api_ErrState), ("paddock/api.ErrForm", laid_paddock_api_ErrForm), ("paddock/api.ErrBlocked", laid_paddock_api_ErrBlocked), ("paddock/api.ErrPath", laid_paddock_api_ErrPath), ("paddock/api.ErrGoal", laid_paddock_api_ErrGoal)], narrowed := true }
def NearRadiusUptoSaid : Prop := nearRadiusUptoRow.holds Tryd.pinned (OpenSpec.upto nearRadiusSpec)

/-- 'paddocklaw13.NearNearest', WHERE WHAT IT READS IS OF BULK AT MOST 1048576: true; the input reads as it did. -/
def nearNearestUptoRow : OpenClaim := { program := "ythofalkkdpjdlaadoor", sum := "6e39122f28be5a2044e5b9e84c56e52212d8a4a993bc5efa97bb9724d443c0d0", func := "paddock/paddocklaw13.NearNearest", spec := "nearNearest", inPlace := ["slices.overlaps[paddock/near.found]", "internal/reflectlite.TypeOf"], unfollowed := true, recurses := true, named := ["paddock/api.ErrForm", "paddock/api.ErrRange", "paddock/api.ErrNone", "paddock/api.ErrFull", "paddock/api.ErrExists", "paddock/api.ErrKind", "paddock/api.ErrState", "paddock/api.ErrBlocked", "paddock/api.ErrPath", "paddock/api.ErrGoal"], plainKeys := false, apart := false, laid := [("paddock/api.ErrRange", laid_paddock_api_ErrRange), ("paddock/api.ErrFull", laid_paddock_api_ErrFull), ("paddock/api.ErrNone", laid_paddock_api_ErrNone), ("paddock/api.ErrExists", laid_paddock_api_ErrExists), ("paddock/api.ErrKind", laid_paddock_api_ErrKind), ("paddock/api.ErrState", laid_paddock_api_ErrState), ("paddock/api.ErrForm", laid_paddock_api_ErrForm), ("paddock/api.ErrBlocked", laid_paddock_api_ErrBlocked), ("paddock/api.ErrPath", laid_paddock_api_ErrPath), ("paddock/api.ErrGoal", laid_paddock_api_ErrGoal)], narrowed := true }
def NearNearestUptoSaid : Prop := nearNearestUptoRow.holds Tryd.pinned (OpenSpec.upto nearNearestSpec)

/-- 'paddocklaw13.NearClosest', WHERE WHAT IT READS IS OF BULK AT MOST 1048576: true; the input reads as it did. -/
def nearClosestUptoRow : OpenClaim := { program := "ythofalkkdpjdlaadoor", sum := "6e39122f28be5a2044e5b9e84c56e52212d8a4a993bc5efa97bb9724d443c0d0", func := "paddock/paddocklaw13.NearClosest", spec := "nearClosest", inPlace := ["slices.overlaps[paddock/near.found]", "internal/reflectlite.TypeOf"], unfollowed := true, recurses := true, named := ["paddock/api.ErrForm", "paddock/api.ErrRange", "paddock/api.ErrNone", "paddock/api.ErrFull", "paddock/api.ErrExists", "paddock/api.ErrKind", "paddock/api.ErrState", "paddock/api.ErrBlocked", "paddock/api.ErrPath", "paddock/api.ErrGoal"], plainKeys := false, apart := false, laid := [("paddock/api.ErrRange", laid_paddock_api_ErrRange), ("paddock/api.ErrFull", laid_paddock_api_ErrFull), ("paddock/api.ErrNone", laid_paddock_api_ErrNone), ("paddock/api.ErrExists", laid_paddock_api_ErrExists), ("paddock/api.ErrKind", laid_paddock_api_ErrKind), ("paddock/api.ErrState", laid_paddock_api_ErrState), ("paddock/api.ErrForm", laid_paddock_api_ErrForm), ("paddock/api.ErrBlocked", laid_paddock_api_ErrBlocked), ("paddock/api.ErrPath", laid_paddock_api_ErrPath), ("paddock/api.ErrGoal", laid_paddock_api_ErrGoal)], narrowed := true }
def NearClosestUptoSaid : Prop := nearClosestUptoRow.holds Tryd.pinned (OpenSpec.upto nearClosestSpec)

end Rows
end Go.Proofs.YthofalkkdpjdlaaDoor
