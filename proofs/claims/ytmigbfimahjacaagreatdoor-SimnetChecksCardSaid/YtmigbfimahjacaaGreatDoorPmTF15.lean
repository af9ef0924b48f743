/- The closed facts of the program that the row asks, together. -/
import Derived.Test.YtmigbfimahjacaaGreatDoorPmTF15a
import Derived.Test.YtmigbfimahjacaaGreatDoorPmTF15b
import Derived.Test.YtmigbfimahjacaaGreatDoorPmTF15c
import Derived.Test.YtmigbfimahjacaaGreatDoorPmTF15d
set_option linter.unusedSimpArgs false
set_option linter.unusedVariables false
section
set_option maxRecDepth 100000
namespace Go.Proofs.YtmigbfimahjacaaGreatDoor.K
theorem closed : joinedFacts Tryz.pinned.checked.prog 3 Tryz.f3 Rows.simnetChecksSpec Rows.simnetChecksRow = true := by
  unfold joinedFacts
  rw [k1, k10, k11, k12, k13, k24, k25]
  kernel_rfl
end Go.Proofs.YtmigbfimahjacaaGreatDoor.K
end
