/-
  DERIVED. GIVEN WITH THE SEED: THE PROGRAM's TIES (one call each: nine closed facts by the kernel) AND EACH ROW's TIE, after the 31st guide's Derived/Test/Toyas{Tie, Card}.lean. No idea stands in it: it is a product of the set-up. Laid BY PROGRAM, IN A SANDBOX (cutbox-door.mjs). By AI agents, Wed Nov 11 2026. No macro, syntax, notation, axiom, sorry.
-/
import Derived.Test.YtmoghgmbpkpcfaaGreatDoorRows
import Derived.LaidByTextLater
import Derived.SevenTiedAt
import Derived.LaidSub
import Derived.LaidOnce
namespace Go.Proofs.YtmoghgmbpkpcfaaGreatDoor
open Go
set_option maxRecDepth 100000
theorem seatTie1 : Tryz.prog.laidByTextLater [("errors.errorType", Rows.laid_errors_errorType), ("postrider/nums.errWidth", Rows.laid_postrider_nums_errWidth), ("postrider/nums.errNum", Rows.laid_postrider_nums_errNum), ("postrider/nums.errShort", Rows.laid_postrider_nums_errShort), ("postrider/head.errMajor", Rows.laid_postrider_head_errMajor), ("postrider/head.errNum", Rows.laid_postrider_head_errNum), ("postrider/head.errShort", Rows.laid_postrider_head_errShort), ("postrider/head.errForm", Rows.laid_postrider_head_errForm), ("postrider/head.rooms", Rows.laid_postrider_head_rooms)] [.handle, .sentinel, .sentinel, .sentinel, .sentinel, .sentinel, .sentinel, .sentinel, .data] true :=
  Program.laidByTextLater_by_one 159 8 16 (by kernel_rfl) (by kernel_rfl) (by kernel_rfl) (by kernel_rfl) (by kernel_rfl) (by kernel_rfl) (fun _ _ => by kernel_rfl)
theorem noOwnUnsafe : Tryz.pinned.checked.prog.headLifts.contains "ownunsafe" = false := by kernel_rfl
theorem tie : Tryz.prog.laidByTextLater [("errors.errorType", Rows.laid_errors_errorType), ("postrider/nums.errWidth", Rows.laid_postrider_nums_errWidth), ("postrider/nums.errNum", Rows.laid_postrider_nums_errNum), ("postrider/nums.errShort", Rows.laid_postrider_nums_errShort), ("postrider/head.errMajor", Rows.laid_postrider_head_errMajor), ("postrider/head.errNum", Rows.laid_postrider_head_errNum), ("postrider/head.errShort", Rows.laid_postrider_head_errShort), ("postrider/head.errForm", Rows.laid_postrider_head_errForm), ("postrider/head.rooms", Rows.laid_postrider_head_rooms)] [.handle, .sentinel, .sentinel, .sentinel, .sentinel, .sentinel, .sentinel, .sentinel, .data] true :=
  Program.laidByTextLater.sub seatTie1 ["errors.errorType", "postrider/nums.errWidth", "postrider/nums.errNum", "postrider/nums.errShort", "postrider/head.errMajor", "postrider/head.errNum", "postrider/head.errShort", "postrider/head.errForm", "postrider/head.rooms"] (by kernel_rfl) (by kernel_rfl)
theorem itemCodes_row_tie : Rows.itemCodesRow.laidByTextAt .later Tryz.pinned [.handle, .sentinel, .sentinel, .sentinel, .sentinel, .sentinel, .sentinel, .sentinel, .data] true :=
  OpenClaim.laidByTextAt_later rfl rfl tie noOwnUnsafe
theorem itemCodesUpto_row_tie : Rows.itemCodesUptoRow.laidByTextAt .later Tryz.pinned [.handle, .sentinel, .sentinel, .sentinel, .sentinel, .sentinel, .sentinel, .sentinel, .data] true :=
  OpenClaim.laidByTextAt_later rfl rfl tie noOwnUnsafe
end Go.Proofs.YtmoghgmbpkpcfaaGreatDoor
