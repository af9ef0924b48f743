/- Chapter 15: both Verify, the law of operands. -/
import Derived.Test.YtjdbkncfebebnaaDoorPmN4
set_option linter.unusedSimpArgs false
set_option linter.unusedVariables false
section SN10
namespace Go.Pm
open F Gr
theorem lives15 : Z base15 (.call 127 [] []) = some (.ret (.bool true) []) := Z_of (n := 4000) (by kernel_rfl)
end Go.Pm
end SN10
