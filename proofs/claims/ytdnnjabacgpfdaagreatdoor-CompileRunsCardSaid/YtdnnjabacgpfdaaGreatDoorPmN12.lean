/- Chapter 15: Depth of the program and of the reference. -/
import Derived.Test.YtdnnjabacgpfdaaGreatDoorPmN9
set_option linter.unusedSimpArgs false
set_option linter.unusedVariables false
section SN12
namespace Go.Pm
open F Gr
section
variable {d : D} {c : Cd} {e0 e1 e2 : Int}
set_option maxHeartbeats 4000000 in
end
end Go.Pm
end SN12
