/- Closed facts of the program that the row asks, one by one: part 2. -/
import Derived.Test.YtmigbfimahjacaaGreatDoorRows
import Derived.JoinedOf
import Derived.KernelRfl
set_option linter.unusedSimpArgs false
set_option linter.unusedVariables false
section
set_option maxRecDepth 100000
namespace Go.Proofs.YtmigbfimahjacaaGreatDoor.K
theorem k10 : (Rows.simnetChecksRow.inPlace == Tryz.pinned.checked.prog.inPlace 3) = true := by kernel_rfl
theorem k25 : Tryz.pinned.checked.prog.mayEnter = true := by kernel_rfl
end Go.Proofs.YtmigbfimahjacaaGreatDoor.K
end
