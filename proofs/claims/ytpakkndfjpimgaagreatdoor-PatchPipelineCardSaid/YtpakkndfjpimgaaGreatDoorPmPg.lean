/- Chapter 17's law PatchPipeline, over the whole table. -/
import Derived.Test.YtpakkndfjpimgaaGreatDoorPmMd
import Derived.KernelRfl
set_option linter.unusedSimpArgs false
set_option linter.unusedVariables false
namespace Go.Pm
section
open F
theorem qqj:Sub qad prog17p:=fun f pf h=>by
 unfold qad at h
 split at h<;>first | (cases h; rfl) | cases h
theorem qqk:Sub qaN prog17p:=fun f pf h=>by
 unfold qaN at h
 split at h<;>first | (cases h; rfl) | cases h
theorem qvw:Sub tP prog17p:=fun f pf h=>by
 unfold tP at h
 split at h<;>first | (cases h; rfl) | cases h
theorem qvx:Sub tS prog17p:=fun f pf h=>by
 unfold tS at h
 split at h<;>first | (cases h; rfl) | cases h
theorem qvy:Sub tB prog17p:=fun f pf h=>by
 unfold tB at h
 split at h<;>first | (cases h; rfl) | cases h
theorem qvz:Sub tH prog17p:=fun f pf h=>by
 unfold tH at h
 split at h<;>first | (cases h; rfl) | cases h
theorem qoQ:Z prog17p (.call 321 [] [])=some (.ret (.bool true) []):=qmh (n:=3000) (by kernel_rfl)
theorem pipe17_Z{v:D}{xs:List Int}(hv:RowV v xs)(hx : ∀ x∈xs,I64 x):Z prog17p (.call 336 [.dat v] [])=some (.ret (.bool true) []):=
 qiY qqj qqk qvw qvx qvy qvz rfl rfl rfl rfl rfl rfl rfl rfl rfl rfl rfl rfl rfl rfl rfl rfl rfl
  (fun hw {B} hB=>qrq (prog:=prog17p) rfl rfl (ws:=[0,hw]) (f:=true) (by simp) hB) qoQ hv hx
end
end Go.Pm
