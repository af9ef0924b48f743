/- Chapter 15: Verify of the reference; Depth of the program. Chapter 15: both Verify, the law of operands. -/
import Derived.Test.YtdnnjabacgpfdaaGreatDoorPmN6
set_option linter.unusedSimpArgs false
set_option linter.unusedVariables false
section SN9
namespace Go.Pm
open F Gr
def hFr (to : D) (x : Int) (k : Nat) : Fr := [(0, .dat to), (1, .int x), (5, .int k)]
set_option maxHeartbeats 4000000
def w0Fr (n i : Nat) : Fr := [(1, .ptr 0 0), (3, .int n), (4, .int i)]
def w1Fr (n : Nat) (i : Int) : Fr := [(1, .ptr 0 0), (3, .int n), (6, .int i)]
def w2Fr (n : Nat) (acc i : Int) : Fr := [(1, .ptr 0 0), (3, .int n), (7, .int acc), (8, .int i)]
end Go.Pm
end SN9
section SN10
namespace Go.Pm
open F Gr
section
variable {d : D} {c : Cd} {e0 e1 e2 : Int}
def EndsW (d : D) (e0 e1 e2 : Int) (n : Nat) (z : Option Res) (v : Int) : Prop := (v = 14 /\ ∃ σ, z = some (.out .ret [(2, .int 14)] σ)) \/ z = some (.out (.exit 4) (w2Fr n v 3 ++ [(48, .bool false)]) (vS d e0 e1 e2))
end
theorem lives15 : Z base15 (.call 127 [] []) = some (.ret (.bool true) []) := Z_of (n := 4000) (by kernel_rfl)
theorem around15 {n m : Int} (h1 : I64 n) (hm : 1 <= m) : Z base15 (.call 17 [.int n, .int m] []) = some (.ret (.int (around n m)) []) := by
 refine Z_call (pf := F17) rfl rfl ?_
 unfold around
 have hm0 : ¬ m = 0 := by omega
 by_cases h : n < 0
 · have w1 : IntKind.i64.wrap (n + 1) = n + 1 := wrap64 _ (by unfold I64 at h1; omega)
   have w2 : IntKind.i64.wrap (0 - (n + 1)) = -(n + 1) := by rw [wrap64 _ (by unfold I64 at h1; omega)]; omega
   have w3 : IntKind.i64.wrap (-(n + 1)) = -(n + 1) := wrap64 _ (by unfold I64 at h1; omega)
   simp [F17, h, w1, w2, w3, hm0]
 · simp [F17, h, hm0]
end Go.Pm
end SN10
