/- Closed facts of the program that the row asks, one by one: part 3. -/
import Derived.Test.YtlllpifkcpijiaaGreatDoorRows
import Derived.JoinedOf
import Derived.KernelRfl
set_option linter.unusedSimpArgs false
set_option linter.unusedVariables false
section
set_option maxRecDepth 100000
namespace Go.Proofs.YtlllpifkcpijiaaGreatDoor.K
theorem k11 : (Rows.auditBoundRow.unfollowed == Tryz.pinned.checked.prog.unfollowed 3) = true := by kernel_rfl
theorem k12 : (Rows.auditBoundRow.recurses == Tryz.pinned.checked.prog.recurses 3) = true := by kernel_rfl
end Go.Proofs.YtlllpifkcpijiaaGreatDoor.K
end
