/-
  No cell of these rows narrows 'for every input' (looked for: loops, veiled, ifaces, maps, wideKeys, modest, calm, conditions, laid).
  DERIVED. THE GIVEN ROWS OF THIS SEAT. 9 by the template 'for every input the law returns true; each argument reads behind the call as it read before'; 0 by the template 'total and deterministic' (their statements: YtllopoaojchcmaaTotals.lean).
  GIVEN WITH THE SEED: the statements are not yours to turn. If you find one false, say at which input.
  Laid BY PROGRAM, IN A SANDBOX (cutbox-rows.mjs): the forced cells as the released guide's own fill.sh prints them over the translation f475936605941d55… (all of the seat's roots in one cut). By AI agents, Wed Nov 11 2026. No macro, syntax, notation, axiom, sorry.
-/
import Derived.Test.YtllopoaojchcmaaChecked
import GoSem.Claim
import GoSem.ClaimJoined
import GoSem.ClaimMapViews
import Derived.JoinedTies
import Derived.KernelRfl
namespace Go.Proofs.Ytllopoaojchcmaa
/- THE CELL 'sum', in the pinned program and in every row, IS THE sha256 OF THE DUMP (.gsa) THAT YtllopoaojchcmaaProg.lean LOADS. Nothing in Lean hashes anything: it is a label: what it is worth is what the hold of that sum in a sandbox is worth. -/
noncomputable def Try.pinned : Pinned := { name := "ytllopoaojchcmaa", sum := "f475936605941d55f477dc7efbacfa6020a233d872a1ca3aec564db508971e94", checked := Try.checked }
namespace Rows
def none {H : Type} : Left H := { results := [], args := [] }

/-- 'paddocklaw02.OrderHandles': WHATEVER THE INPUT: true; the input reads as it did. -/
def orderHandlesSpec : ChangeSpec := { name := "orderHandles", fn := fun _ => fun
  | [d] => { results := [.lit (.bool true)], args := [d] }
  | _ => none }
def orderHandlesRow : OpenClaim := { program := "ytllopoaojchcmaa", sum := "f475936605941d55f477dc7efbacfa6020a233d872a1ca3aec564db508971e94", func := "paddock/paddocklaw02.OrderHandles", spec := "orderHandles", inPlace := ["slices.overlaps[int]"], unfollowed := true, recurses := true, apart := false }
def OrderHandlesSaid : Prop := orderHandlesRow.holds Try.pinned (OpenSpec.ofChange orderHandlesSpec)

/-- ITS FALSE NEIGHBOUR: 'it returns false'. Refute it at one input. -/
def orderHandlesWrong : ChangeSpec := { name := "orderHandles", fn := fun _ => fun
  | [d] => { results := [.lit (.bool false)], args := [d] }
  | _ => none }
def OrderHandlesWrongFalsely : Prop := orderHandlesRow.holds Try.pinned (OpenSpec.ofChange orderHandlesWrong)

/-- 'paddocklaw02.OrderLess': WHATEVER THE INPUT: true; the input reads as it did. -/
def orderLessSpec : ChangeSpec := { name := "orderLess", fn := fun _ => fun
  | [d1, d2] => { results := [.lit (.bool true)], args := [d1, d2] }
  | _ => none }
def orderLessRow : OpenClaim := { program := "ytllopoaojchcmaa", sum := "f475936605941d55f477dc7efbacfa6020a233d872a1ca3aec564db508971e94", func := "paddock/paddocklaw02.OrderLess", spec := "orderLess", inPlace := ["slices.overlaps[int]"], unfollowed := true, recurses := true, apart := false }
def OrderLessSaid : Prop := orderLessRow.holds Try.pinned (OpenSpec.ofChange orderLessSpec)

/-- ITS FALSE NEIGHBOUR: 'it returns false'. Refute it at one input. -/
def orderLessWrong : ChangeSpec := { name := "orderLess", fn := fun _ => fun
  | [d1, d2] => { results := [.lit (.bool false)], args := [d1, d2] }
  | _ => none }
def OrderLessWrongFalsely : Prop := orderLessRow.holds Try.pinned (OpenSpec.ofChange orderLessWrong)

/-- 'paddocklaw02.OrderPairs': WHATEVER THE INPUT: true; the input reads as it did. -/
def orderPairsSpec : ChangeSpec := { name := "orderPairs", fn := fun _ => fun
  | [d] => { results := [.lit (.bool true)], args := [d] }
  | _ => none }
def orderPairsRow : OpenClaim := { program := "ytllopoaojchcmaa", sum := "f475936605941d55f477dc7efbacfa6020a233d872a1ca3aec564db508971e94", func := "paddock/paddocklaw02.OrderPairs", spec := "orderPairs", inPlace := ["slices.overlaps[int]"], unfollowed := true, recurses := true, apart := false }
def OrderPairsSaid : Prop := orderPairsRow.holds Try.pinned (OpenSpec.ofChange orderPairsSpec)

/-- ITS FALSE NEIGHBOUR: 'it returns false'. Refute it at one input. -/
def orderPairsWrong : ChangeSpec := { name := "orderPairs", fn := fun _ => fun
  | [d] => { results := [.lit (.bool false)], args := [d] }
  | _ => none }
def OrderPairsWrongFalsely : Prop := orderPairsRow.holds Try.pinned (OpenSpec.ofChange orderPairsWrong)

/-- 'paddocklaw02.OrderFinds': WHATEVER THE INPUT: true; the input reads as it did. -/
def orderFindsSpec : ChangeSpec := { name := "orderFinds", fn := fun _ => fun
  | [d1, d2] => { results := [.lit (.bool true)], args := [d1, d2] }
  | _ => none }
def orderFindsRow : OpenClaim := { program := "ytllopoaojchcmaa", sum := "f475936605941d55f477dc7efbacfa6020a233d872a1ca3aec564db508971e94", func := "paddock/paddocklaw02.OrderFinds", spec := "orderFinds", inPlace := ["slices.overlaps[int]"], unfollowed := true, recurses := true, apart := false }
def OrderFindsSaid : Prop := orderFindsRow.holds Try.pinned (OpenSpec.ofChange orderFindsSpec)

/-- ITS FALSE NEIGHBOUR: 'it returns false'. Refute it at one input. -/
def orderFindsWrong : ChangeSpec := { name := "orderFinds", fn := fun _ => fun
  | [d1, d2] => { results := [.lit (.bool false)], args := [d1, d2] }
  | _ => none }
def OrderFindsWrongFalsely : Prop := orderFindsRow.holds Try.pinned (OpenSpec.ofChange orderFindsWrong)

/-- 'paddocklaw02.OrderMerges': WHATEVER THE INPUT: true; the input reads as it did. -/
def orderMergesSpec : ChangeSpec := { name := "orderMerges", fn := fun _ => fun
  | [d1, d2] => { results := [.lit (.bool true)], args := [d1, d2] }
  | _ => none }
def orderMergesRow : OpenClaim := { program := "ytllopoaojchcmaa", sum := "f475936605941d55f477dc7efbacfa6020a233d872a1ca3aec564db508971e94", func := "paddock/paddocklaw02.OrderMerges", spec := "orderMerges", inPlace := ["slices.overlaps[int]"], unfollowed := true, recurses := true, apart := false }
def OrderMergesSaid : Prop := orderMergesRow.holds Try.pinned (OpenSpec.ofChange orderMergesSpec)

/-- ITS FALSE NEIGHBOUR: 'it returns false'. Refute it at one input. -/
def orderMergesWrong : ChangeSpec := { name := "orderMerges", fn := fun _ => fun
  | [d1, d2] => { results := [.lit (.bool false)], args := [d1, d2] }
  | _ => none }
def OrderMergesWrongFalsely : Prop := orderMergesRow.holds Try.pinned (OpenSpec.ofChange orderMergesWrong)

/-- 'paddocklaw02.OrderInts': WHATEVER THE INPUT: true; the input reads as it did. -/
def orderIntsSpec : ChangeSpec := { name := "orderInts", fn := fun _ => fun
  | [d1, d2] => { results := [.lit (.bool true)], args := [d1, d2] }
  | _ => none }
def orderIntsRow : OpenClaim := { program := "ytllopoaojchcmaa", sum := "f475936605941d55f477dc7efbacfa6020a233d872a1ca3aec564db508971e94", func := "paddock/paddocklaw02.OrderInts", spec := "orderInts", inPlace := ["slices.overlaps[int]"], unfollowed := true, recurses := true, apart := false }
def OrderIntsSaid : Prop := orderIntsRow.holds Try.pinned (OpenSpec.ofChange orderIntsSpec)

/-- ITS FALSE NEIGHBOUR: 'it returns false'. Refute it at one input. -/
def orderIntsWrong : ChangeSpec := { name := "orderInts", fn := fun _ => fun
  | [d1, d2] => { results := [.lit (.bool false)], args := [d1, d2] }
  | _ => none }
def OrderIntsWrongFalsely : Prop := orderIntsRow.holds Try.pinned (OpenSpec.ofChange orderIntsWrong)

/-- 'paddocklaw02.OrderTotal': WHATEVER THE INPUT: true; the input reads as it did. -/
def orderTotalSpec : ChangeSpec := { name := "orderTotal", fn := fun _ => fun
  | [d1, d2, d3] => { results := [.lit (.bool true)], args := [d1, d2, d3] }
  | _ => none }
def orderTotalRow : OpenClaim := { program := "ytllopoaojchcmaa", sum := "f475936605941d55f477dc7efbacfa6020a233d872a1ca3aec564db508971e94", func := "paddock/paddocklaw02.OrderTotal", spec := "orderTotal", inPlace := ["slices.overlaps[int]"], unfollowed := true, recurses := true, apart := false }
def OrderTotalSaid : Prop := orderTotalRow.holds Try.pinned (OpenSpec.ofChange orderTotalSpec)

/-- ITS FALSE NEIGHBOUR: 'it returns false'. Refute it at one input. -/
def orderTotalWrong : ChangeSpec := { name := "orderTotal", fn := fun _ => fun
  | [d1, d2, d3] => { results := [.lit (.bool false)], args := [d1, d2, d3] }
  | _ => none }
def OrderTotalWrongFalsely : Prop := orderTotalRow.holds Try.pinned (OpenSpec.ofChange orderTotalWrong)

/-- 'paddocklaw02.OrderCounts': WHATEVER THE INPUT: true; the input reads as it did. -/
def orderCountsSpec : ChangeSpec := { name := "orderCounts", fn := fun _ => fun
  | [d1, d2] => { results := [.lit (.bool true)], args := [d1, d2] }
  | _ => none }
def orderCountsRow : OpenClaim := { program := "ytllopoaojchcmaa", sum := "f475936605941d55f477dc7efbacfa6020a233d872a1ca3aec564db508971e94", func := "paddock/paddocklaw02.OrderCounts", spec := "orderCounts", inPlace := ["slices.overlaps[int]"], unfollowed := true, recurses := true, apart := false }
def OrderCountsSaid : Prop := orderCountsRow.holds Try.pinned (OpenSpec.ofChange orderCountsSpec)

/-- ITS FALSE NEIGHBOUR: 'it returns false'. Refute it at one input. -/
def orderCountsWrong : ChangeSpec := { name := "orderCounts", fn := fun _ => fun
  | [d1, d2] => { results := [.lit (.bool false)], args := [d1, d2] }
  | _ => none }
def OrderCountsWrongFalsely : Prop := orderCountsRow.holds Try.pinned (OpenSpec.ofChange orderCountsWrong)

/-- 'paddocklaw02.OrderAllPairs': WHATEVER THE INPUT: true; the input reads as it did. -/
def orderAllPairsSpec : ChangeSpec := { name := "orderAllPairs", fn := fun _ => fun
  | [d] => { results := [.lit (.bool true)], args := [d] }
  | _ => none }
def orderAllPairsRow : OpenClaim := { program := "ytllopoaojchcmaa", sum := "f475936605941d55f477dc7efbacfa6020a233d872a1ca3aec564db508971e94", func := "paddock/paddocklaw02.OrderAllPairs", spec := "orderAllPairs", inPlace := ["slices.overlaps[int]"], unfollowed := true, recurses := true, apart := false }
def OrderAllPairsSaid : Prop := orderAllPairsRow.holds Try.pinned (OpenSpec.ofChange orderAllPairsSpec)

/-- ITS FALSE NEIGHBOUR: 'it returns false'. Refute it at one input. -/
def orderAllPairsWrong : ChangeSpec := { name := "orderAllPairs", fn := fun _ => fun
  | [d] => { results := [.lit (.bool false)], args := [d] }
  | _ => none }
def OrderAllPairsWrongFalsely : Prop := orderAllPairsRow.holds Try.pinned (OpenSpec.ofChange orderAllPairsWrong)

/- THE SECOND FORM. 'bulk': how many values and letters a reading holds, each counted each time it is reached (what is shared counts as often as it is met; a slice's spare places count too). A statement '..UptoSaid' is the law's where the arguments, and the package variables that the reading takes, are together of bulk at most 1048576: NARROWER than '..Said'. Prove '..Said' where nothing that the law and all that it calls make is longer than what came in: it says more and counts as full. Else prove '..UptoSaid'. A law counts once. -/
mutual
def uptoBulk {H : Type} : DataW H → Nat
  | .lit (.string bytes) => bytes.length + 1
  | .lit _ => 1
  | .nil => 1
  | .ptr d => uptoBulk d + 1
  | .slice elems spare => uptoBulkAll elems + uptoBulkAll spare + 1
  | .agg parts => uptoBulkAll parts + 1
  | .iface _ d => uptoBulk d + 1
  | .map entries => uptoBulkEntries entries + 1
  | .held _ => 1
def uptoBulkAll {H : Type} : List (DataW H) → Nat
  | [] => 0
  | d :: r => uptoBulk d + uptoBulkAll r
def uptoBulkEntries {H : Type} : List (Lit × DataW H) → Nat
  | [] => 0
  | x :: r => uptoBulkEntry x + uptoBulkEntries r
def uptoBulkEntry {H : Type} : Lit × DataW H → Nat
  | (.string bytes, d) => bytes.length + uptoBulk d + 1
  | (_, d) => uptoBulk d + 1
 end
def uptoSmall : (H : Type) → List (DataW H) → Bool := fun _ ds => decide (uptoBulkAll ds ≤ 1048576)
def OpenSpec.upto (s : _root_.Go.ChangeSpec) : _root_.Go.OpenSpec := { _root_.Go.OpenSpec.ofChange s with cond := some uptoSmall }

/-- 'paddocklaw02.OrderHandles', WHERE WHAT IT READS IS OF BULK AT MOST 1048576: true; the input reads as it did. -/
def orderHandlesUptoRow : OpenClaim := { program := "ytllopoaojchcmaa", sum := "f475936605941d55f477dc7efbacfa6020a233d872a1ca3aec564db508971e94", func := "paddock/paddocklaw02.OrderHandles", spec := "orderHandles", inPlace := ["slices.overlaps[int]"], unfollowed := true, recurses := true, apart := false, narrowed := true }
def OrderHandlesUptoSaid : Prop := orderHandlesUptoRow.holds Try.pinned (OpenSpec.upto orderHandlesSpec)

/-- 'paddocklaw02.OrderLess', WHERE WHAT IT READS IS OF BULK AT MOST 1048576: true; the input reads as it did. -/
def orderLessUptoRow : OpenClaim := { program := "ytllopoaojchcmaa", sum := "f475936605941d55f477dc7efbacfa6020a233d872a1ca3aec564db508971e94", func := "paddock/paddocklaw02.OrderLess", spec := "orderLess", inPlace := ["slices.overlaps[int]"], unfollowed := true, recurses := true, apart := false, narrowed := true }
def OrderLessUptoSaid : Prop := orderLessUptoRow.holds Try.pinned (OpenSpec.upto orderLessSpec)

/-- 'paddocklaw02.OrderPairs', WHERE WHAT IT READS IS OF BULK AT MOST 1048576: true; the input reads as it did. -/
def orderPairsUptoRow : OpenClaim := { program := "ytllopoaojchcmaa", sum := "f475936605941d55f477dc7efbacfa6020a233d872a1ca3aec564db508971e94", func := "paddock/paddocklaw02.OrderPairs", spec := "orderPairs", inPlace := ["slices.overlaps[int]"], unfollowed := true, recurses := true, apart := false, narrowed := true }
def OrderPairsUptoSaid : Prop := orderPairsUptoRow.holds Try.pinned (OpenSpec.upto orderPairsSpec)

/-- 'paddocklaw02.OrderFinds', WHERE WHAT IT READS IS OF BULK AT MOST 1048576: true; the input reads as it did. -/
def orderFindsUptoRow : OpenClaim := { program := "ytllopoaojchcmaa", sum := "f475936605941d55f477dc7efbacfa6020a233d872a1ca3aec564db508971e94", func := "paddock/paddocklaw02.OrderFinds", spec := "orderFinds", inPlace := ["slices.overlaps[int]"], unfollowed := true, recurses := true, apart := false, narrowed := true }
def OrderFindsUptoSaid : Prop := orderFindsUptoRow.holds Try.pinned (OpenSpec.upto orderFindsSpec)

/-- 'paddocklaw02.OrderMerges', WHERE WHAT IT READS IS OF BULK AT MOST 1048576: true; the input reads as it did. -/
def orderMergesUptoRow : OpenClaim := { program := "ytllopoaojchcmaa", sum := "f475936605941d55f477dc7efbacfa6020a233d872a1ca3aec564db508971e94", func := "paddock/paddocklaw02.OrderMerges", spec := "orderMerges", inPlace := ["slices.overlaps[int]"], unfollowed := true, recurses := true, apart := false, narrowed := true }
def OrderMergesUptoSaid : Prop := orderMergesUptoRow.holds Try.pinned (OpenSpec.upto orderMergesSpec)

/-- 'paddocklaw02.OrderInts', WHERE WHAT IT READS IS OF BULK AT MOST 1048576: true; the input reads as it did. -/
def orderIntsUptoRow : OpenClaim := { program := "ytllopoaojchcmaa", sum := "f475936605941d55f477dc7efbacfa6020a233d872a1ca3aec564db508971e94", func := "paddock/paddocklaw02.OrderInts", spec := "orderInts", inPlace := ["slices.overlaps[int]"], unfollowed := true, recurses := true, apart := false, narrowed := true }
def OrderIntsUptoSaid : Prop := orderIntsUptoRow.holds Try.pinned (OpenSpec.upto orderIntsSpec)

/-- 'paddocklaw02.OrderTotal', WHERE WHAT IT READS IS OF BULK AT MOST 1048576: true; the input reads as it did. -/
def orderTotalUptoRow : OpenClaim := { program := "ytllopoaojchcmaa", sum := "f475936605941d55f477dc7efbacfa6020a233d872a1ca3aec564db508971e94", func := "paddock/paddocklaw02.OrderTotal", spec := "orderTotal", inPlace := ["slices.overlaps[int]"], unfollowed := true, recurses := true, apart := false, narrowed := true }
def OrderTotalUptoSaid : Prop := orderTotalUptoRow.holds Try.pinned (OpenSpec.upto orderTotalSpec)

/-- 'paddocklaw02.OrderCounts', WHERE WHAT IT READS IS OF BULK AT MOST 1048576: true; the input reads as it did. -/
def orderCountsUptoRow : OpenClaim := { program := "ytllopoaojchcmaa", sum := "f475936605941d55f477dc7efbacfa6020a233d872a1ca3aec564db508971e94", func := "paddock/paddocklaw02.OrderCounts", spec := "orderCounts", inPlace := ["slices.overlaps[int]"], unfollowed := true, recurses := true, apart := false, narrowed := true }
def OrderCountsUptoSaid : Prop := orderCountsUptoRow.holds Try.pinned (OpenSpec.upto orderCountsSpec)

/-- 'paddocklaw02.OrderAllPairs', WHERE WHAT IT READS IS OF BULK AT MOST 1048576: true; the input reads as it did. -/
def orderAllPairsUptoRow : OpenClaim := { program := "ytllopoaojchcmaa", sum := "f475936605941d55f477dc7efbacfa6020a233d872a1ca3aec564db508971e94", func := "paddock/paddocklaw02.OrderAllPairs", spec := "orderAllPairs", inPlace := ["slices.overlaps[int]"], unfollowed := true, recurses := true, apart := false, narrowed := true }
def OrderAllPairsUptoSaid : Prop := orderAllPairsUptoRow.holds Try.pinned (OpenSpec.upto orderAllPairsSpec)

end Rows
end Go.Proofs.Ytllopoaojchcmaa
