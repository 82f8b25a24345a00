/-
  DERIVED. GIVEN WITH THE SEED: THE PROGRAM's TIES (one call each: nine closed facts by the kernel) AND EACH ROW's TIE, after the 31st guide's Derived/Test/Toyas{Tie, Card}.lean. No idea stands in it: it is a product of the set-up. Laid BY PROGRAM, IN A SANDBOX (cutbox-door.mjs). By AI agents, Wed Nov 11 2026. No macro, syntax, notation, axiom, sorry.
-/
import Derived.Test.YtlffcinkijlaiaaDoorRows
import Derived.LaidByTextLater
import Derived.SevenTiedAt
import Derived.LaidSub
import Derived.LaidOnce
namespace Go.Proofs.YtlffcinkijlaiaaDoor
open Go
set_option maxRecDepth 100000
theorem seatTie1 : Tryd.prog.laidByTextLater [("tableau/api.ErrArg", Rows.laid_tableau_api_ErrArg), ("tableau/api.ErrShort", Rows.laid_tableau_api_ErrShort), ("tableau/api.ErrBytes", Rows.laid_tableau_api_ErrBytes), ("tableau/api.ErrBig", Rows.laid_tableau_api_ErrBig), ("tableau/api.ErrObject", Rows.laid_tableau_api_ErrObject), ("tableau/api.ErrMethod", Rows.laid_tableau_api_ErrMethod), ("tableau/api.ErrFormat", Rows.laid_tableau_api_ErrFormat), ("tableau/api.ErrStride", Rows.laid_tableau_api_ErrStride), ("tableau/api.ErrFile", Rows.laid_tableau_api_ErrFile), ("tableau/api.ErrRole", Rows.laid_tableau_api_ErrRole), ("tableau/api.ErrPlace", Rows.laid_tableau_api_ErrPlace), ("tableau/api.ErrState", Rows.laid_tableau_api_ErrState), ("tableau/api.ErrSerial", Rows.laid_tableau_api_ErrSerial), ("tableau/api.ErrFull", Rows.laid_tableau_api_ErrFull), ("tableau/api.ErrGone", Rows.laid_tableau_api_ErrGone), ("tableau/api.ErrSheet", Rows.laid_tableau_api_ErrSheet)] [.sentinel, .sentinel, .sentinel, .sentinel, .sentinel, .sentinel, .sentinel, .sentinel, .sentinel, .sentinel, .sentinel, .sentinel, .sentinel, .sentinel, .sentinel, .sentinel] true :=
  Program.laidByTextLater_by_one 313 8 2 (by kernel_rfl) (by kernel_rfl) (by kernel_rfl) (by kernel_rfl) (by kernel_rfl) (by kernel_rfl) (fun _ _ => by kernel_rfl)
theorem noOwnUnsafe : Tryd.pinned.checked.prog.headLifts.contains "ownunsafe" = false := by kernel_rfl
theorem tie : Tryd.prog.laidByTextLater [("tableau/api.ErrArg", Rows.laid_tableau_api_ErrArg), ("tableau/api.ErrBig", Rows.laid_tableau_api_ErrBig), ("tableau/api.ErrObject", Rows.laid_tableau_api_ErrObject), ("tableau/api.ErrRole", Rows.laid_tableau_api_ErrRole), ("tableau/api.ErrPlace", Rows.laid_tableau_api_ErrPlace)] [.sentinel, .sentinel, .sentinel, .sentinel, .sentinel] true :=
  Program.laidByTextLater.sub seatTie1 ["tableau/api.ErrArg", "tableau/api.ErrBig", "tableau/api.ErrObject", "tableau/api.ErrRole", "tableau/api.ErrPlace"] (by kernel_rfl) (by kernel_rfl)
theorem forestDesyncs_row_tie : Rows.forestDesyncsRow.laidByTextAt .later Tryd.pinned [.sentinel, .sentinel, .sentinel, .sentinel, .sentinel] true :=
  OpenClaim.laidByTextAt_later rfl rfl tie noOwnUnsafe
theorem forestSyncs_row_tie : Rows.forestSyncsRow.laidByTextAt .later Tryd.pinned [.sentinel, .sentinel, .sentinel, .sentinel, .sentinel] true :=
  OpenClaim.laidByTextAt_later rfl rfl tie noOwnUnsafe
theorem forestDrops_row_tie : Rows.forestDropsRow.laidByTextAt .later Tryd.pinned [.sentinel, .sentinel, .sentinel, .sentinel, .sentinel] true :=
  OpenClaim.laidByTextAt_later rfl rfl tie noOwnUnsafe
theorem forestPlaces_row_tie : Rows.forestPlacesRow.laidByTextAt .later Tryd.pinned [.sentinel, .sentinel, .sentinel, .sentinel, .sentinel] true :=
  OpenClaim.laidByTextAt_later rfl rfl tie noOwnUnsafe
theorem tie2 : Tryd.prog.laidByTextLater [("tableau/api.ErrArg", Rows.laid_tableau_api_ErrArg), ("tableau/api.ErrShort", Rows.laid_tableau_api_ErrShort), ("tableau/api.ErrBytes", Rows.laid_tableau_api_ErrBytes), ("tableau/api.ErrBig", Rows.laid_tableau_api_ErrBig), ("tableau/api.ErrObject", Rows.laid_tableau_api_ErrObject), ("tableau/api.ErrMethod", Rows.laid_tableau_api_ErrMethod), ("tableau/api.ErrFormat", Rows.laid_tableau_api_ErrFormat), ("tableau/api.ErrStride", Rows.laid_tableau_api_ErrStride), ("tableau/api.ErrFile", Rows.laid_tableau_api_ErrFile), ("tableau/api.ErrRole", Rows.laid_tableau_api_ErrRole), ("tableau/api.ErrPlace", Rows.laid_tableau_api_ErrPlace), ("tableau/api.ErrState", Rows.laid_tableau_api_ErrState), ("tableau/api.ErrSerial", Rows.laid_tableau_api_ErrSerial), ("tableau/api.ErrFull", Rows.laid_tableau_api_ErrFull), ("tableau/api.ErrGone", Rows.laid_tableau_api_ErrGone), ("tableau/api.ErrSheet", Rows.laid_tableau_api_ErrSheet)] [.sentinel, .sentinel, .sentinel, .sentinel, .sentinel, .sentinel, .sentinel, .sentinel, .sentinel, .sentinel, .sentinel, .sentinel, .sentinel, .sentinel, .sentinel, .sentinel] true :=
  Program.laidByTextLater.sub seatTie1 ["tableau/api.ErrArg", "tableau/api.ErrShort", "tableau/api.ErrBytes", "tableau/api.ErrBig", "tableau/api.ErrObject", "tableau/api.ErrMethod", "tableau/api.ErrFormat", "tableau/api.ErrStride", "tableau/api.ErrFile", "tableau/api.ErrRole", "tableau/api.ErrPlace", "tableau/api.ErrState", "tableau/api.ErrSerial", "tableau/api.ErrFull", "tableau/api.ErrGone", "tableau/api.ErrSheet"] (by kernel_rfl) (by kernel_rfl)
theorem forestRoles_row_tie : Rows.forestRolesRow.laidByTextAt .later Tryd.pinned [.sentinel, .sentinel, .sentinel, .sentinel, .sentinel, .sentinel, .sentinel, .sentinel, .sentinel, .sentinel, .sentinel, .sentinel, .sentinel, .sentinel, .sentinel, .sentinel] true :=
  OpenClaim.laidByTextAt_later rfl rfl tie2 noOwnUnsafe
theorem poolPlays_row_tie : Rows.poolPlaysRow.laidByTextAt .later Tryd.pinned [.sentinel, .sentinel, .sentinel, .sentinel, .sentinel, .sentinel, .sentinel, .sentinel, .sentinel, .sentinel, .sentinel, .sentinel, .sentinel, .sentinel, .sentinel, .sentinel] true :=
  OpenClaim.laidByTextAt_later rfl rfl tie2 noOwnUnsafe
theorem forestDesyncsUpto_row_tie : Rows.forestDesyncsUptoRow.laidByTextAt .later Tryd.pinned [.sentinel, .sentinel, .sentinel, .sentinel, .sentinel] true :=
  OpenClaim.laidByTextAt_later rfl rfl tie noOwnUnsafe
theorem forestRolesUpto_row_tie : Rows.forestRolesUptoRow.laidByTextAt .later Tryd.pinned [.sentinel, .sentinel, .sentinel, .sentinel, .sentinel, .sentinel, .sentinel, .sentinel, .sentinel, .sentinel, .sentinel, .sentinel, .sentinel, .sentinel, .sentinel, .sentinel] true :=
  OpenClaim.laidByTextAt_later rfl rfl tie2 noOwnUnsafe
theorem poolPlaysUpto_row_tie : Rows.poolPlaysUptoRow.laidByTextAt .later Tryd.pinned [.sentinel, .sentinel, .sentinel, .sentinel, .sentinel, .sentinel, .sentinel, .sentinel, .sentinel, .sentinel, .sentinel, .sentinel, .sentinel, .sentinel, .sentinel, .sentinel] true :=
  OpenClaim.laidByTextAt_later rfl rfl tie2 noOwnUnsafe
theorem forestSyncsUpto_row_tie : Rows.forestSyncsUptoRow.laidByTextAt .later Tryd.pinned [.sentinel, .sentinel, .sentinel, .sentinel, .sentinel] true :=
  OpenClaim.laidByTextAt_later rfl rfl tie noOwnUnsafe
theorem forestDropsUpto_row_tie : Rows.forestDropsUptoRow.laidByTextAt .later Tryd.pinned [.sentinel, .sentinel, .sentinel, .sentinel, .sentinel] true :=
  OpenClaim.laidByTextAt_later rfl rfl tie noOwnUnsafe
theorem forestPlacesUpto_row_tie : Rows.forestPlacesUptoRow.laidByTextAt .later Tryd.pinned [.sentinel, .sentinel, .sentinel, .sentinel, .sentinel] true :=
  OpenClaim.laidByTextAt_later rfl rfl tie noOwnUnsafe
end Go.Proofs.YtlffcinkijlaiaaDoor
