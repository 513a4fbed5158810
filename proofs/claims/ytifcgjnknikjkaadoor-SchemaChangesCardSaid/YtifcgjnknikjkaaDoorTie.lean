/-
  DERIVED. GIVEN WITH THE SEED: THE PROGRAM's TIES (one call each: nine closed facts by the kernel) AND EACH ROW's TIE, after the 31st guide's Derived/Test/Toyas{Tie, Card}.lean. No idea stands in it: it is a product of the set-up. Laid BY PROGRAM, IN A SANDBOX (cutbox-door.mjs). By AI agents, Wed Nov 11 2026. No macro, syntax, notation, axiom, sorry.
-/
import Derived.Test.YtifcgjnknikjkaaDoorRows
import Derived.LaidByTextLater
import Derived.SevenTiedAt
import Derived.LaidSub
import Derived.LaidOnce
namespace Go.Proofs.YtifcgjnknikjkaaDoor
open Go
set_option maxRecDepth 100000
theorem seatTie1 : Tryd.prog.laidByTextLater [("paddock/api.ErrRange", Rows.laid_paddock_api_ErrRange), ("paddock/api.ErrFull", Rows.laid_paddock_api_ErrFull), ("paddock/api.ErrNone", Rows.laid_paddock_api_ErrNone), ("paddock/api.ErrExists", Rows.laid_paddock_api_ErrExists), ("paddock/api.ErrKind", Rows.laid_paddock_api_ErrKind), ("paddock/api.ErrState", Rows.laid_paddock_api_ErrState), ("paddock/api.ErrForm", Rows.laid_paddock_api_ErrForm), ("paddock/api.ErrBlocked", Rows.laid_paddock_api_ErrBlocked), ("paddock/api.ErrPath", Rows.laid_paddock_api_ErrPath), ("paddock/api.ErrGoal", Rows.laid_paddock_api_ErrGoal)] [.sentinel, .sentinel, .sentinel, .sentinel, .sentinel, .sentinel, .sentinel, .sentinel, .sentinel, .sentinel] true :=
  Program.laidByTextLater_by_one 199 8 2 (by kernel_rfl) (by kernel_rfl) (by kernel_rfl) (by kernel_rfl) (by kernel_rfl) (by kernel_rfl) (fun _ _ => by kernel_rfl)
theorem noOwnUnsafe : Tryd.pinned.checked.prog.headLifts.contains "ownunsafe" = false := by kernel_rfl
theorem tie : Tryd.prog.laidByTextLater [("paddock/api.ErrRange", Rows.laid_paddock_api_ErrRange), ("paddock/api.ErrFull", Rows.laid_paddock_api_ErrFull), ("paddock/api.ErrNone", Rows.laid_paddock_api_ErrNone), ("paddock/api.ErrExists", Rows.laid_paddock_api_ErrExists), ("paddock/api.ErrKind", Rows.laid_paddock_api_ErrKind), ("paddock/api.ErrState", Rows.laid_paddock_api_ErrState), ("paddock/api.ErrForm", Rows.laid_paddock_api_ErrForm), ("paddock/api.ErrBlocked", Rows.laid_paddock_api_ErrBlocked), ("paddock/api.ErrPath", Rows.laid_paddock_api_ErrPath), ("paddock/api.ErrGoal", Rows.laid_paddock_api_ErrGoal)] [.sentinel, .sentinel, .sentinel, .sentinel, .sentinel, .sentinel, .sentinel, .sentinel, .sentinel, .sentinel] true :=
  Program.laidByTextLater.sub seatTie1 ["paddock/api.ErrRange", "paddock/api.ErrFull", "paddock/api.ErrNone", "paddock/api.ErrExists", "paddock/api.ErrKind", "paddock/api.ErrState", "paddock/api.ErrForm", "paddock/api.ErrBlocked", "paddock/api.ErrPath", "paddock/api.ErrGoal"] (by kernel_rfl) (by kernel_rfl)
theorem queryOf_row_tie : Rows.queryOfRow.laidByTextAt .later Tryd.pinned [.sentinel, .sentinel, .sentinel, .sentinel, .sentinel, .sentinel, .sentinel, .sentinel, .sentinel, .sentinel] true :=
  OpenClaim.laidByTextAt_later rfl rfl tie noOwnUnsafe
theorem schemaChecks_row_tie : Rows.schemaChecksRow.laidByTextAt .later Tryd.pinned [.sentinel, .sentinel, .sentinel, .sentinel, .sentinel, .sentinel, .sentinel, .sentinel, .sentinel, .sentinel] true :=
  OpenClaim.laidByTextAt_later rfl rfl tie noOwnUnsafe
theorem schemaRows_row_tie : Rows.schemaRowsRow.laidByTextAt .later Tryd.pinned [.sentinel, .sentinel, .sentinel, .sentinel, .sentinel, .sentinel, .sentinel, .sentinel, .sentinel, .sentinel] true :=
  OpenClaim.laidByTextAt_later rfl rfl tie noOwnUnsafe
theorem schemaMoves_row_tie : Rows.schemaMovesRow.laidByTextAt .later Tryd.pinned [.sentinel, .sentinel, .sentinel, .sentinel, .sentinel, .sentinel, .sentinel, .sentinel, .sentinel, .sentinel] true :=
  OpenClaim.laidByTextAt_later rfl rfl tie noOwnUnsafe
theorem tie2 : Tryd.prog.laidByTextLater [("paddock/api.ErrRange", Rows.laid_paddock_api_ErrRange), ("paddock/api.ErrNone", Rows.laid_paddock_api_ErrNone), ("paddock/api.ErrForm", Rows.laid_paddock_api_ErrForm)] [.sentinel, .sentinel, .sentinel] true :=
  Program.laidByTextLater.sub seatTie1 ["paddock/api.ErrRange", "paddock/api.ErrNone", "paddock/api.ErrForm"] (by kernel_rfl) (by kernel_rfl)
theorem quadWalks_row_tie : Rows.quadWalksRow.laidByTextAt .later Tryd.pinned [.sentinel, .sentinel, .sentinel] true :=
  OpenClaim.laidByTextAt_later rfl rfl tie2 noOwnUnsafe
theorem tie3 : Tryd.prog.laidByTextLater [("paddock/api.ErrRange", Rows.laid_paddock_api_ErrRange), ("paddock/api.ErrExists", Rows.laid_paddock_api_ErrExists), ("paddock/api.ErrKind", Rows.laid_paddock_api_ErrKind)] [.sentinel, .sentinel, .sentinel] true :=
  Program.laidByTextLater.sub seatTie1 ["paddock/api.ErrRange", "paddock/api.ErrExists", "paddock/api.ErrKind"] (by kernel_rfl) (by kernel_rfl)
theorem schemaWay_row_tie : Rows.schemaWayRow.laidByTextAt .later Tryd.pinned [.sentinel, .sentinel, .sentinel] true :=
  OpenClaim.laidByTextAt_later rfl rfl tie3 noOwnUnsafe
theorem schemaChanges_row_tie : Rows.schemaChangesRow.laidByTextAt .later Tryd.pinned [.sentinel, .sentinel, .sentinel] true :=
  OpenClaim.laidByTextAt_later rfl rfl tie3 noOwnUnsafe
theorem schemaAsks_row_tie : Rows.schemaAsksRow.laidByTextAt .later Tryd.pinned [.sentinel, .sentinel, .sentinel] true :=
  OpenClaim.laidByTextAt_later rfl rfl tie3 noOwnUnsafe
theorem schemaTurns_row_tie : Rows.schemaTurnsRow.laidByTextAt .later Tryd.pinned [.sentinel, .sentinel, .sentinel] true :=
  OpenClaim.laidByTextAt_later rfl rfl tie3 noOwnUnsafe
theorem queryOfUpto_row_tie : Rows.queryOfUptoRow.laidByTextAt .later Tryd.pinned [.sentinel, .sentinel, .sentinel, .sentinel, .sentinel, .sentinel, .sentinel, .sentinel, .sentinel, .sentinel] true :=
  OpenClaim.laidByTextAt_later rfl rfl tie noOwnUnsafe
theorem quadWalksUpto_row_tie : Rows.quadWalksUptoRow.laidByTextAt .later Tryd.pinned [.sentinel, .sentinel, .sentinel] true :=
  OpenClaim.laidByTextAt_later rfl rfl tie2 noOwnUnsafe
theorem schemaWayUpto_row_tie : Rows.schemaWayUptoRow.laidByTextAt .later Tryd.pinned [.sentinel, .sentinel, .sentinel] true :=
  OpenClaim.laidByTextAt_later rfl rfl tie3 noOwnUnsafe
theorem schemaChangesUpto_row_tie : Rows.schemaChangesUptoRow.laidByTextAt .later Tryd.pinned [.sentinel, .sentinel, .sentinel] true :=
  OpenClaim.laidByTextAt_later rfl rfl tie3 noOwnUnsafe
theorem schemaChecksUpto_row_tie : Rows.schemaChecksUptoRow.laidByTextAt .later Tryd.pinned [.sentinel, .sentinel, .sentinel, .sentinel, .sentinel, .sentinel, .sentinel, .sentinel, .sentinel, .sentinel] true :=
  OpenClaim.laidByTextAt_later rfl rfl tie noOwnUnsafe
theorem schemaRowsUpto_row_tie : Rows.schemaRowsUptoRow.laidByTextAt .later Tryd.pinned [.sentinel, .sentinel, .sentinel, .sentinel, .sentinel, .sentinel, .sentinel, .sentinel, .sentinel, .sentinel] true :=
  OpenClaim.laidByTextAt_later rfl rfl tie noOwnUnsafe
theorem schemaAsksUpto_row_tie : Rows.schemaAsksUptoRow.laidByTextAt .later Tryd.pinned [.sentinel, .sentinel, .sentinel] true :=
  OpenClaim.laidByTextAt_later rfl rfl tie3 noOwnUnsafe
theorem schemaMovesUpto_row_tie : Rows.schemaMovesUptoRow.laidByTextAt .later Tryd.pinned [.sentinel, .sentinel, .sentinel, .sentinel, .sentinel, .sentinel, .sentinel, .sentinel, .sentinel, .sentinel] true :=
  OpenClaim.laidByTextAt_later rfl rfl tie noOwnUnsafe
theorem schemaTurnsUpto_row_tie : Rows.schemaTurnsUptoRow.laidByTextAt .later Tryd.pinned [.sentinel, .sentinel, .sentinel] true :=
  OpenClaim.laidByTextAt_later rfl rfl tie3 noOwnUnsafe
end Go.Proofs.YtifcgjnknikjkaaDoor
