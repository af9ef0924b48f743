/- Calls of the example, with their results: by the kernel, part 5. Printed by mkch.py. -/
import Derived.Test.YtmigbfimahjacaaGreatDoorPmXec
import Derived.KernelRfl
set_option linter.unusedSimpArgs false
set_option linter.unusedVariables false
section
set_option maxRecDepth 100000
namespace Go.Pm
open F
theorem qum:xe16.ok prX:=qaK (kn_cons qtu kn_nil) 2000 (by kernel_rfl)
theorem qun:xe17.ok prX:=qaK kn_nil 2000 (by kernel_rfl)
theorem qup:xe18.ok prX:=qaK kn_nil 2000 (by kernel_rfl)
theorem quq:xe19.ok prX:=qaK (kn_cons qum (kn_cons qun (kn_cons qup kn_nil))) 2000 (by kernel_rfl)
theorem qur:xe20.ok prX:=qaK kn_nil 2000 (by kernel_rfl)
end Go.Pm
end
section
set_option maxRecDepth 100000
namespace Go.Pm
open F
theorem quT:xe21.ok prX:=qaK kn_nil 2000 (by kernel_rfl)
theorem quU:xe22.ok prX:=qaK kn_nil 2000 (by kernel_rfl)
end Go.Pm
end
section
set_option maxRecDepth 100000
namespace Go.Pm
open F
theorem qtK:xe23.ok prX:=qaK (kn_cons quU kn_nil) 2000 (by kernel_rfl)
theorem qtL:xe24.ok prX:=qaK kn_nil 2000 (by kernel_rfl)
end Go.Pm
end
section
set_option maxRecDepth 100000
namespace Go.Pm
open F
theorem qus:xe25.ok prX:=qaK (kn_cons qur (kn_cons quT (kn_cons qtK (kn_cons qtL kn_nil)))) 2000 (by kernel_rfl)
end Go.Pm
end
section
set_option maxRecDepth 100000
namespace Go.Pm
open F
theorem qtM:xe26.ok prX:=qaK (kn_cons qus kn_nil) 2000 (by kernel_rfl)
theorem qtN:xe27.ok prX:=qaK kn_nil 2000 (by kernel_rfl)
theorem qtO:xe28.ok prX:=qaK kn_nil 2000 (by kernel_rfl)
end Go.Pm
end
