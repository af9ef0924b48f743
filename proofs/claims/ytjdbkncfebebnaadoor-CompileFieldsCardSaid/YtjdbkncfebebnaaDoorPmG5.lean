/- Chapter 13's generator: whole programs. -/
import Derived.Test.YtjdbkncfebebnaaDoorPmG1
set_option linter.unusedSimpArgs false
set_option linter.unusedVariables false
section SG5
namespace Go.Pm
open F
def Hd.ss : Hd -> Ss
 | .none => .nil
 | .some _ b => b
structure Hd.fine (h : Hd) : Prop where
 fine : h.ss.fine
 size : h.ss.fo.size <= 2000
structure Hd.gen (h : Hd) : Prop extends h.fine where
 f : h.f = false
 dp : h.ss.dp <= 2
 edp : h.ss.edp <= 3
 gsize : h.ss.fo.size <= 1260
theorem hd_ks_ss (h : Hd) : h.ks = h.ss.fo := by cases h <;> rfl
abbrev z12 : Ob := .cells [.int 0, .int 0, .str ⟨#[]⟩, .dat (.lit (.slice none 0 0)), .int 0, .int 0, .str ⟨#[]⟩, .dat (.lit (.slice none 0 0)), .int 0, .int 0, .str ⟨#[]⟩, .dat (.lit (.slice none 0 0))]
end Go.Pm
end SG5
