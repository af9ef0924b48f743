/- Closed facts of the program that the row asks, one by one: part 1. -/
import Derived.Test.YtmigbfimahjacaaGreatDoorRows
import Derived.JoinedOf
import Derived.KernelRfl
set_option linter.unusedSimpArgs false
set_option linter.unusedVariables false
section
set_option maxRecDepth 100000
namespace Go.Proofs.YtmigbfimahjacaaGreatDoor.K
theorem k1 : (Rows.simnetChecksRow.wf (OpenSpec.ofChange Rows.simnetChecksSpec) && laidOutB Tryz.pinned.checked.prog && mapsRowed Tryz.pinned.checked.prog) = true := by kernel_rfl
theorem k24 : Tryz.pinned.checked.prog.stopsHeard = true := by kernel_rfl
end Go.Proofs.YtmigbfimahjacaaGreatDoor.K
end
