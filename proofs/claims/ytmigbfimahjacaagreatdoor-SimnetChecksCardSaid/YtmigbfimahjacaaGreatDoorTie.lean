/-
  DERIVED. GIVEN WITH THE SEED: THE PROGRAM's TIES (one call each: nine closed facts by the kernel) AND EACH ROW's TIE, after the 31st guide's Derived/Test/Toyas{Tie, Card}.lean. No idea stands in it: it is a product of the set-up. Laid BY PROGRAM, IN A SANDBOX (cutbox-door.mjs). By AI agents, Wed Nov 11 2026. No macro, syntax, notation, axiom, sorry.
-/
import Derived.Test.YtmigbfimahjacaaGreatDoorRows
import Derived.LaidByTextLater
import Derived.SevenTiedAt
import Derived.LaidSub
import Derived.LaidOnce
namespace Go.Proofs.YtmigbfimahjacaaGreatDoor
open Go
set_option maxRecDepth 100000
theorem seatTie1 : Tryz.prog.laidByTextLater [("arenanet/input.inputs", Rows.laid_arenanet_input_inputs), ("arenanet/compile.effects", Rows.laid_arenanet_compile_effects), ("arenanet/vm.effects", Rows.laid_arenanet_vm_effects)] [.data, .data, .data] true :=
  Program.laidByTextLater_by_one 102 8 109 (by kernel_rfl) (by kernel_rfl) (by kernel_rfl) (by kernel_rfl) (by kernel_rfl) (by kernel_rfl) (fun _ _ => by kernel_rfl)
theorem noOwnUnsafe : Tryz.pinned.checked.prog.headLifts.contains "ownunsafe" = false := by kernel_rfl
theorem tie : Tryz.prog.laidByTextLater [("arenanet/input.inputs", Rows.laid_arenanet_input_inputs), ("arenanet/compile.effects", Rows.laid_arenanet_compile_effects), ("arenanet/vm.effects", Rows.laid_arenanet_vm_effects)] [.data, .data, .data] true :=
  Program.laidByTextLater.sub seatTie1 ["arenanet/input.inputs", "arenanet/compile.effects", "arenanet/vm.effects"] (by kernel_rfl) (by kernel_rfl)
theorem simnetChecks_row_tie : Rows.simnetChecksRow.laidByTextAt .later Tryz.pinned [.data, .data, .data] true :=
  OpenClaim.laidByTextAt_later rfl rfl tie noOwnUnsafe
theorem simnetChecksUpto_row_tie : Rows.simnetChecksUptoRow.laidByTextAt .later Tryz.pinned [.data, .data, .data] true :=
  OpenClaim.laidByTextAt_later rfl rfl tie noOwnUnsafe
end Go.Proofs.YtmigbfimahjacaaGreatDoor
