/-
  DERIVED. GIVEN WITH THE SEED: THE PROGRAM's TIES (one call each: nine closed facts by the kernel) AND EACH ROW's TIE, after the 31st guide's Derived/Test/Toyas{Tie, Card}.lean. No idea stands in it: it is a product of the set-up. Laid BY PROGRAM, IN A SANDBOX (cutbox-door.mjs). By AI agents, Wed Nov 11 2026. No macro, syntax, notation, axiom, sorry.
-/
import Derived.Test.YtcnbngiplfoomaaGreatDoorRows
import Derived.LaidByTextLater
import Derived.SevenTiedAt
import Derived.LaidSub
import Derived.LaidOnce
namespace Go.Proofs.YtcnbngiplfoomaaGreatDoor
open Go
set_option maxRecDepth 100000
theorem seatTie1 : Tryz.prog.laidByTextLater [("math/bits.deBruijn64tab", Rows.laid_math_bits_deBruijn64tab), ("paddock/api.ErrRange", Rows.laid_paddock_api_ErrRange), ("paddock/api.ErrFull", Rows.laid_paddock_api_ErrFull), ("paddock/api.ErrNone", Rows.laid_paddock_api_ErrNone), ("paddock/api.ErrExists", Rows.laid_paddock_api_ErrExists), ("paddock/api.ErrKind", Rows.laid_paddock_api_ErrKind), ("paddock/api.ErrState", Rows.laid_paddock_api_ErrState), ("paddock/api.ErrForm", Rows.laid_paddock_api_ErrForm), ("paddock/api.ErrBlocked", Rows.laid_paddock_api_ErrBlocked), ("paddock/api.ErrPath", Rows.laid_paddock_api_ErrPath), ("paddock/api.ErrGoal", Rows.laid_paddock_api_ErrGoal)] [.data, .sentinel, .sentinel, .sentinel, .sentinel, .sentinel, .sentinel, .sentinel, .sentinel, .sentinel, .sentinel] true :=
  Program.laidByTextLater_by_one 204 8 65 (by kernel_rfl) (by kernel_rfl) (by kernel_rfl) (by kernel_rfl) (by kernel_rfl) (by kernel_rfl) (fun _ _ => by kernel_rfl)
theorem noOwnUnsafe : Tryz.pinned.checked.prog.headLifts.contains "ownunsafe" = false := by kernel_rfl
theorem tie : Tryz.prog.laidByTextLater [("math/bits.deBruijn64tab", Rows.laid_math_bits_deBruijn64tab), ("paddock/api.ErrRange", Rows.laid_paddock_api_ErrRange), ("paddock/api.ErrFull", Rows.laid_paddock_api_ErrFull), ("paddock/api.ErrNone", Rows.laid_paddock_api_ErrNone), ("paddock/api.ErrExists", Rows.laid_paddock_api_ErrExists), ("paddock/api.ErrKind", Rows.laid_paddock_api_ErrKind), ("paddock/api.ErrForm", Rows.laid_paddock_api_ErrForm)] [.data, .sentinel, .sentinel, .sentinel, .sentinel, .sentinel, .sentinel] true :=
  Program.laidByTextLater.sub seatTie1 ["math/bits.deBruijn64tab", "paddock/api.ErrRange", "paddock/api.ErrFull", "paddock/api.ErrNone", "paddock/api.ErrExists", "paddock/api.ErrKind", "paddock/api.ErrForm"] (by kernel_rfl) (by kernel_rfl)
theorem tablesOrders_row_tie : Rows.tablesOrdersRow.laidByTextAt .later Tryz.pinned [.data, .sentinel, .sentinel, .sentinel, .sentinel, .sentinel, .sentinel] true :=
  OpenClaim.laidByTextAt_later rfl rfl tie noOwnUnsafe
theorem tablesApart_row_tie : Rows.tablesApartRow.laidByTextAt .later Tryz.pinned [.data, .sentinel, .sentinel, .sentinel, .sentinel, .sentinel, .sentinel] true :=
  OpenClaim.laidByTextAt_later rfl rfl tie noOwnUnsafe
theorem tablesTurns_row_tie : Rows.tablesTurnsRow.laidByTextAt .later Tryz.pinned [.data, .sentinel, .sentinel, .sentinel, .sentinel, .sentinel, .sentinel] true :=
  OpenClaim.laidByTextAt_later rfl rfl tie noOwnUnsafe
theorem queryBoth_row_tie : Rows.queryBothRow.laidByTextAt .later Tryz.pinned [.data, .sentinel, .sentinel, .sentinel, .sentinel, .sentinel, .sentinel] true :=
  OpenClaim.laidByTextAt_later rfl rfl tie noOwnUnsafe
theorem queryAnswers_row_tie : Rows.queryAnswersRow.laidByTextAt .later Tryz.pinned [.data, .sentinel, .sentinel, .sentinel, .sentinel, .sentinel, .sentinel] true :=
  OpenClaim.laidByTextAt_later rfl rfl tie noOwnUnsafe
theorem tie2 : Tryz.prog.laidByTextLater [("math/bits.deBruijn64tab", Rows.laid_math_bits_deBruijn64tab), ("paddock/api.ErrRange", Rows.laid_paddock_api_ErrRange), ("paddock/api.ErrFull", Rows.laid_paddock_api_ErrFull), ("paddock/api.ErrNone", Rows.laid_paddock_api_ErrNone), ("paddock/api.ErrExists", Rows.laid_paddock_api_ErrExists), ("paddock/api.ErrKind", Rows.laid_paddock_api_ErrKind), ("paddock/api.ErrState", Rows.laid_paddock_api_ErrState), ("paddock/api.ErrForm", Rows.laid_paddock_api_ErrForm), ("paddock/api.ErrBlocked", Rows.laid_paddock_api_ErrBlocked), ("paddock/api.ErrPath", Rows.laid_paddock_api_ErrPath), ("paddock/api.ErrGoal", Rows.laid_paddock_api_ErrGoal)] [.data, .sentinel, .sentinel, .sentinel, .sentinel, .sentinel, .sentinel, .sentinel, .sentinel, .sentinel, .sentinel] true :=
  Program.laidByTextLater.sub seatTie1 ["math/bits.deBruijn64tab", "paddock/api.ErrRange", "paddock/api.ErrFull", "paddock/api.ErrNone", "paddock/api.ErrExists", "paddock/api.ErrKind", "paddock/api.ErrState", "paddock/api.ErrForm", "paddock/api.ErrBlocked", "paddock/api.ErrPath", "paddock/api.ErrGoal"] (by kernel_rfl) (by kernel_rfl)
theorem tablesLimits_row_tie : Rows.tablesLimitsRow.laidByTextAt .later Tryz.pinned [.data, .sentinel, .sentinel, .sentinel, .sentinel, .sentinel, .sentinel, .sentinel, .sentinel, .sentinel, .sentinel] true :=
  OpenClaim.laidByTextAt_later rfl rfl tie2 noOwnUnsafe
theorem tablesIn_row_tie : Rows.tablesInRow.laidByTextAt .later Tryz.pinned [.data, .sentinel, .sentinel, .sentinel, .sentinel, .sentinel, .sentinel, .sentinel, .sentinel, .sentinel, .sentinel] true :=
  OpenClaim.laidByTextAt_later rfl rfl tie2 noOwnUnsafe
theorem tablesPlays_row_tie : Rows.tablesPlaysRow.laidByTextAt .later Tryz.pinned [.data, .sentinel, .sentinel, .sentinel, .sentinel, .sentinel, .sentinel, .sentinel, .sentinel, .sentinel, .sentinel] true :=
  OpenClaim.laidByTextAt_later rfl rfl tie2 noOwnUnsafe
theorem tie3 : Tryz.prog.laidByTextLater [("math/bits.deBruijn64tab", Rows.laid_math_bits_deBruijn64tab), ("paddock/api.ErrRange", Rows.laid_paddock_api_ErrRange), ("paddock/api.ErrFull", Rows.laid_paddock_api_ErrFull), ("paddock/api.ErrExists", Rows.laid_paddock_api_ErrExists), ("paddock/api.ErrKind", Rows.laid_paddock_api_ErrKind), ("paddock/api.ErrForm", Rows.laid_paddock_api_ErrForm)] [.data, .sentinel, .sentinel, .sentinel, .sentinel, .sentinel] true :=
  Program.laidByTextLater.sub seatTie1 ["math/bits.deBruijn64tab", "paddock/api.ErrRange", "paddock/api.ErrFull", "paddock/api.ErrExists", "paddock/api.ErrKind", "paddock/api.ErrForm"] (by kernel_rfl) (by kernel_rfl)
theorem queryNarrows_row_tie : Rows.queryNarrowsRow.laidByTextAt .later Tryz.pinned [.data, .sentinel, .sentinel, .sentinel, .sentinel, .sentinel] true :=
  OpenClaim.laidByTextAt_later rfl rfl tie3 noOwnUnsafe
theorem queryHalves_row_tie : Rows.queryHalvesRow.laidByTextAt .later Tryz.pinned [.data, .sentinel, .sentinel, .sentinel, .sentinel, .sentinel] true :=
  OpenClaim.laidByTextAt_later rfl rfl tie3 noOwnUnsafe
theorem tablesOrdersUpto_row_tie : Rows.tablesOrdersUptoRow.laidByTextAt .later Tryz.pinned [.data, .sentinel, .sentinel, .sentinel, .sentinel, .sentinel, .sentinel] true :=
  OpenClaim.laidByTextAt_later rfl rfl tie noOwnUnsafe
theorem tablesLimitsUpto_row_tie : Rows.tablesLimitsUptoRow.laidByTextAt .later Tryz.pinned [.data, .sentinel, .sentinel, .sentinel, .sentinel, .sentinel, .sentinel, .sentinel, .sentinel, .sentinel, .sentinel] true :=
  OpenClaim.laidByTextAt_later rfl rfl tie2 noOwnUnsafe
theorem tablesApartUpto_row_tie : Rows.tablesApartUptoRow.laidByTextAt .later Tryz.pinned [.data, .sentinel, .sentinel, .sentinel, .sentinel, .sentinel, .sentinel] true :=
  OpenClaim.laidByTextAt_later rfl rfl tie noOwnUnsafe
theorem tablesInUpto_row_tie : Rows.tablesInUptoRow.laidByTextAt .later Tryz.pinned [.data, .sentinel, .sentinel, .sentinel, .sentinel, .sentinel, .sentinel, .sentinel, .sentinel, .sentinel, .sentinel] true :=
  OpenClaim.laidByTextAt_later rfl rfl tie2 noOwnUnsafe
theorem tablesTurnsUpto_row_tie : Rows.tablesTurnsUptoRow.laidByTextAt .later Tryz.pinned [.data, .sentinel, .sentinel, .sentinel, .sentinel, .sentinel, .sentinel] true :=
  OpenClaim.laidByTextAt_later rfl rfl tie noOwnUnsafe
theorem tablesPlaysUpto_row_tie : Rows.tablesPlaysUptoRow.laidByTextAt .later Tryz.pinned [.data, .sentinel, .sentinel, .sentinel, .sentinel, .sentinel, .sentinel, .sentinel, .sentinel, .sentinel, .sentinel] true :=
  OpenClaim.laidByTextAt_later rfl rfl tie2 noOwnUnsafe
theorem queryNarrowsUpto_row_tie : Rows.queryNarrowsUptoRow.laidByTextAt .later Tryz.pinned [.data, .sentinel, .sentinel, .sentinel, .sentinel, .sentinel] true :=
  OpenClaim.laidByTextAt_later rfl rfl tie3 noOwnUnsafe
theorem queryHalvesUpto_row_tie : Rows.queryHalvesUptoRow.laidByTextAt .later Tryz.pinned [.data, .sentinel, .sentinel, .sentinel, .sentinel, .sentinel] true :=
  OpenClaim.laidByTextAt_later rfl rfl tie3 noOwnUnsafe
theorem queryBothUpto_row_tie : Rows.queryBothUptoRow.laidByTextAt .later Tryz.pinned [.data, .sentinel, .sentinel, .sentinel, .sentinel, .sentinel, .sentinel] true :=
  OpenClaim.laidByTextAt_later rfl rfl tie noOwnUnsafe
theorem queryAnswersUpto_row_tie : Rows.queryAnswersUptoRow.laidByTextAt .later Tryz.pinned [.data, .sentinel, .sentinel, .sentinel, .sentinel, .sentinel, .sentinel] true :=
  OpenClaim.laidByTextAt_later rfl rfl tie noOwnUnsafe
end Go.Proofs.YtcnbngiplfoomaaGreatDoor
