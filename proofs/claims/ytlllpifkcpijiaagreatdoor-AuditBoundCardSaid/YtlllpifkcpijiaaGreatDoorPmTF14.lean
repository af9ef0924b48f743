/- The closed facts of the program that the row asks, together. -/
import Derived.Test.YtlllpifkcpijiaaGreatDoorPmTF14a
import Derived.Test.YtlllpifkcpijiaaGreatDoorPmTF14b
import Derived.Test.YtlllpifkcpijiaaGreatDoorPmTF14c
import Derived.Test.YtlllpifkcpijiaaGreatDoorPmTF14d
set_option linter.unusedSimpArgs false
set_option linter.unusedVariables false
section
set_option maxRecDepth 100000
namespace Go.Proofs.YtlllpifkcpijiaaGreatDoor.K
theorem closed : joinedFacts Tryz.pinned.checked.prog 3 Tryz.f3 Rows.auditBoundSpec Rows.auditBoundRow = true := by
  unfold joinedFacts
  rw [k1, k10, k11, k12, k13, k24, k25]
  kernel_rfl
end Go.Proofs.YtlllpifkcpijiaaGreatDoor.K
end
