/- Closed facts of the program that the row asks, one by one: part 3. -/
import Derived.Test.YtmigbfimahjacaaGreatDoorRows
import Derived.JoinedOf
import Derived.KernelRfl
set_option linter.unusedSimpArgs false
set_option linter.unusedVariables false
section
set_option maxRecDepth 100000
namespace Go.Proofs.YtmigbfimahjacaaGreatDoor.K
theorem k11 : (Rows.simnetChecksRow.unfollowed == Tryz.pinned.checked.prog.unfollowed 3) = true := by kernel_rfl
theorem k12 : (Rows.simnetChecksRow.recurses == Tryz.pinned.checked.prog.recurses 3) = true := by kernel_rfl
end Go.Proofs.YtmigbfimahjacaaGreatDoor.K
end
