/- Calls of the example, with their results: by the kernel, part 10. Printed by mkch.py. -/
import Derived.Test.YtmigbfimahjacaaGreatDoorPmXec
import Derived.KernelRfl
import Derived.Test.YtmigbfimahjacaaGreatDoorPmXe5
set_option linter.unusedSimpArgs false
set_option linter.unusedVariables false
section
set_option maxRecDepth 100000
namespace Go.Pm
open F
theorem quZ:xe29.ok prX:=qaK (kn_cons qtO kn_nil) 2000 (by kernel_rfl)
theorem qu0:xe30.ok prX:=qaK (kn_cons qtM (kn_cons qtN (kn_cons quZ kn_nil))) 2000 (by kernel_rfl)
theorem qu1:xe31.ok prX:=qaK kn_nil 2000 (by kernel_rfl)
theorem qu2:xe32.ok prX:=qaK (kn_cons qu1 kn_nil) 2000 (by kernel_rfl)
end Go.Pm
end
section
set_option maxRecDepth 100000
namespace Go.Pm
open F
theorem quz:xe33.ok prX:=qaK kn_nil 2000 (by kernel_rfl)
theorem quA:xe34.ok prX:=qaK (kn_cons qu2 (kn_cons quz kn_nil)) 2000 (by kernel_rfl)
end Go.Pm
end
section
set_option maxRecDepth 100000
namespace Go.Pm
open F
theorem quQ:xe35.ok prX:=qaK (kn_cons quA kn_nil) 2000 (by kernel_rfl)
end Go.Pm
end
section
set_option maxRecDepth 100000
namespace Go.Pm
open F
theorem qtT:xe36.ok prX:=qaK (kn_cons quQ kn_nil) 2000 (by kernel_rfl)
theorem qtU:xe37.ok prX:=qaK kn_nil 2000 (by kernel_rfl)
theorem qtV:xe38.ok prX:=qaK kn_nil 2000 (by kernel_rfl)
end Go.Pm
end
section
set_option maxRecDepth 100000
namespace Go.Pm
open F
theorem quR:xe39.ok prX:=qaK (kn_cons qtV kn_nil) 2000 (by kernel_rfl)
theorem quS:xe40.ok prX:=qaK (kn_cons qtT (kn_cons qtU (kn_cons quR kn_nil))) 2000 (by kernel_rfl)
end Go.Pm
end
