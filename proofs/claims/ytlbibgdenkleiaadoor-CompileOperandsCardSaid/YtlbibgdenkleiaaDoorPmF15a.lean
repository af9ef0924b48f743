/- The abstract machine's program, printed by Gen.lean off the dump. -/
import Derived.Test.YtlbibgdenkleiaaDoorPmA
import Derived.Test.YtlbibgdenkleiaaDoorPmF16
set_option linter.unusedSimpArgs false
set_option linter.unusedVariables false
section SF15a
namespace Go.Pm.F
/-- The package variable of package compile: what each opcode pops and pushes. -/
def effRows15 : List (List Int) := [[0,0],[0,1],[0,1],[1,0],[1,1],[2,0],[0,1],[0,1],[0,1],[2,1],[2,1],[2,1],[2,1],[1,1],[2,1],[2,1],[2,1],[1,1],[0,0],[1,0],[2,0],[0,0]]
def G_arenanet_compile_effects : List D := effRows15.flatten.map fun n => .lit (.int .i64 n)
@[simp] def F116l0x : PC := (.seq (.seq (.region none [⟨some 33, .mov (.t 13), none, []⟩,
 ⟨some 34, .bin .lss (.t 33) (.c (.int .i64 4)), none, []⟩] [12, 13, 34])
 (.cond (.t 34)
 (.skip)
 (.exit 0)))
 (.seq (.block 1 (.seq (.region (some []) [⟨some 37, .mov (.t 12), none, []⟩,
 ⟨some 38, .mov (.t 13), none, []⟩,
 ⟨some 39, .indexAddr 4 (.t 37) (.t 38), none, []⟩,
 ⟨some 40, .load true 4 (.t 39), none, []⟩,
 ⟨some 41, .call 125 [(.t 40)], none, []⟩,
 ⟨some 42, .mov (.t 12), none, []⟩,
 ⟨some 43, .mov (.t 13), none, []⟩,
 ⟨some 44, .indexAddr 4 (.t 42) (.t 43), none, []⟩,
 ⟨some 45, .load true 4 (.t 44), none, [4]⟩,
 ⟨some 46, .call 126 [(.t 45)], none, []⟩,
 ⟨some 47, .bin .neq (.t 41) (.t 46), none, []⟩] [12, 13, 47] [9])
 (.cond (.t 47)
 (.seq (.region none [⟨some 8, .mov (.c (.bool false)), none, []⟩] [8])
 (.ret))
 (.skip))))
 (.region none [⟨some 35, .mov (.t 13), none, []⟩,
 ⟨some 36, .bin .add (.t 35) (.c (.int .i64 1)), none, []⟩,
 ⟨some 13, .mov (.t 36), none, []⟩] [12, 13])))
def F116l0 : PC := F116l0x
theorem run_F116l0 (C : Task → Option Res) (k : Nat) (fr : Fr) (σ : S) : run C k F116l0 fr σ = run C k F116l0x fr σ := rfl
/-- arenanet/arenanetlaw15.CompileVerify -/
def F116 : PFun := ⟨4, [.tmp 8],
 .seq (.region none [⟨some 8, .mov (.c (.bool false)), none, []⟩] [0, 1, 2, 3])
 (.seq (.region none [⟨some 14, .mov (.t 0), none, []⟩,
 ⟨some 15, .call 121 [(.t 14)], none, []⟩,
 ⟨some 9, .alloc [(.lit (.slice none 0 0)), (.lit (.int .i64 0)), (.lit (.int .i64 0)), (.lit (.int .i64 0))], none, []⟩,
 ⟨none, .store 4 (.t 9) (.t 15), none, []⟩] [1, 2, 3, 9])
 (.seq (.region none [⟨some 17, .mov (.t 1), none, []⟩,
 ⟨some 18, .call 123 [(.t 17)], none, []⟩,
 ⟨some 19, .call 122 [(.t 18)], none, []⟩,
 ⟨some 16, .mov (.t 19), none, []⟩,
 ⟨some 20, .extract (.t 16) 0, none, []⟩,
 ⟨some 21, .extract (.t 16) 1, none, []⟩,
 ⟨some 10, .alloc [(.lit (.slice none 0 0)), (.lit (.int .i64 0)), (.lit (.int .i64 0)), (.lit (.int .i64 0))], none, []⟩,
 ⟨none, .store 4 (.t 10) (.t 20), none, []⟩,
 ⟨some 11, .mov (.t 21), none, []⟩] [2, 3, 9, 10])
 (.seq (.region (some []) [⟨some 22, .load true 4 (.t 9), none, [5, 9]⟩,
 ⟨some 23, .load true 4 (.t 10), none, [5, 9]⟩,
 ⟨some 24, .load true 4 (.t 9), none, []⟩,
 ⟨some 25, .mov (.t 2), none, []⟩,
 ⟨some 26, .mov (.t 3), none, []⟩,
 ⟨some 27, .call 124 [(.t 24), (.t 25), (.t 26)], none, []⟩,
 ⟨some 28, .load true 4 (.t 10), none, [5]⟩,
 ⟨some 29, .mov (.t 2), none, []⟩,
 ⟨some 30, .mov (.t 3), none, []⟩,
 ⟨some 31, .call 124 [(.t 28), (.t 29), (.t 30)], none, []⟩,
 ⟨some 32, .bslice 4 [(.lit (.slice none 0 0)), (.lit (.int .i64 0)), (.lit (.int .i64 0)), (.lit (.int .i64 0)), (.lit (.slice none 0 0)), (.lit (.int .i64 0)), (.lit (.int .i64 0)), (.lit (.int .i64 0)), (.lit (.slice none 0 0)), (.lit (.int .i64 0)), (.lit (.int .i64 0)), (.lit (.int .i64 0)), (.lit (.slice none 0 0)), (.lit (.int .i64 0)), (.lit (.int .i64 0)), (.lit (.int .i64 0))] [(0, 4, (.t 22)), (4, 4, (.t 23)), (8, 4, (.t 27)), (12, 4, (.t 31))], none, []⟩,
 ⟨some 12, .mov (.t 32), none, []⟩] [12] [9])
 (.seq (.seq (.region none [⟨some 13, .mov (.c (.int .i64 0)), none, []⟩] [12, 13])
 (.block 0 (.loop F116l0)))
 (.seq (.region none [⟨some 48, .call 127 [], none, []⟩,
 ⟨some 8, .mov (.t 48), none, []⟩] [8])
 (.ret)))))), false, false, false⟩
@[simp] def F117l0x : PC := (.seq (.seq (.region none [⟨some 30, .mov (.t 10), none, []⟩,
 ⟨some 31, .bin .lss (.t 30) (.c (.int .i64 3)), none, []⟩] [1, 9, 10, 31])
 (.cond (.t 31)
 (.skip)
 (.exit 0)))
 (.seq (.block 1 (.seq (.region none [⟨some 34, .build [(.lit (.int .i64 0)), (.lit (.int .i64 0))] [(0, 1, (.c (.int .i64 1))), (1, 1, (.c (.int .i64 1)))], none, []⟩,
 ⟨some 35, .build [(.lit (.int .i64 0)), (.lit (.int .i64 0))] [(0, 1, (.c (.int .i64 1))), (1, 1, (.c (.int .i64 2)))], none, []⟩,
 ⟨some 36, .mov (.t 9), none, []⟩,
 ⟨some 37, .mov (.t 10), none, []⟩,
 ⟨some 38, .indexAddr 2 (.t 36) (.t 37), none, []⟩,
 ⟨some 39, .load true 2 (.t 38), none, []⟩,
 ⟨some 40, .build [(.lit (.int .i64 0)), (.lit (.int .i64 0))] [(0, 1, (.c (.int .i64 21)))], none, []⟩,
 ⟨some 41, .bslice 4 [(.lit (.int .i64 0)), (.lit (.int .i64 0)), (.lit (.int .i64 0)), (.lit (.int .i64 0)), (.lit (.int .i64 0)), (.lit (.int .i64 0)), (.lit (.int .i64 0)), (.lit (.int .i64 0))] [(0, 2, (.t 34)), (2, 2, (.t 35)), (4, 2, (.t 39)), (6, 2, (.t 40))], none, []⟩,
 ⟨some 42, .build [(.lit (.int .i64 0)), (.lit (.int .i64 0)), (.lit (.int .i64 0))] [(0, 1, (.c (.int .i64 0))), (1, 1, (.c (.int .i64 (-1)))), (2, 1, (.c (.int .i64 3)))], none, []⟩,
 ⟨some 43, .build [(.lit (.slice none 0 0)), (.lit (.int .i64 0)), (.lit (.int .i64 0)), (.lit (.int .i64 0))] [(0, 1, (.t 41)), (1, 3, (.t 42))], none, []⟩,
 ⟨some 11, .alloc [(.lit (.slice none 0 0)), (.lit (.int .i64 0)), (.lit (.int .i64 0)), (.lit (.int .i64 0))], none, []⟩,
 ⟨none, .store 4 (.t 11) (.t 43), none, []⟩] [1, 9, 10, 11])
 (.seq (.seq (.region (some []) [⟨some 44, .load true 4 (.t 11), none, []⟩,
 ⟨some 45, .call 125 [(.t 44)], none, []⟩,
 ⟨some 46, .load true 4 (.t 11), none, [1]⟩,
 ⟨some 47, .call 126 [(.t 46)], none, []⟩,
 ⟨some 48, .bin .neq (.t 45) (.t 47), none, []⟩] [1, 9, 10, 11, 48] [3])
 (.cond (.t 48)
 (.seq (.region none [⟨some 6, .mov (.c (.bool false)), none, []⟩] [6])
 (.ret))
 (.skip)))
 (.seq (.region none [⟨some 49, .mov (.t 1), none, []⟩,
 ⟨some 50, .fieldAddr 1 (.t 11), none, []⟩,
 ⟨some 51, .indexAddrA 3 1 (.t 50) (.c (.int .i64 1)), none, []⟩,
 ⟨none, .store 1 (.t 51) (.t 49), none, []⟩] [1, 9, 10, 11])
 (.seq (.region (some []) [⟨some 52, .load true 4 (.t 11), none, []⟩,
 ⟨some 53, .call 125 [(.t 52)], none, []⟩,
 ⟨some 54, .load true 4 (.t 11), none, [1]⟩,
 ⟨some 55, .call 126 [(.t 54)], none, []⟩,
 ⟨some 56, .bin .neq (.t 53) (.t 55), none, []⟩] [1, 9, 10, 56] [3])
 (.cond (.t 56)
 (.seq (.region none [⟨some 6, .mov (.c (.bool false)), none, []⟩] [6])
 (.ret))
 (.skip)))))))
 (.region none [⟨some 32, .mov (.t 10), none, []⟩,
 ⟨some 33, .bin .add (.t 32) (.c (.int .i64 1)), none, []⟩,
 ⟨some 10, .mov (.t 33), none, []⟩] [1, 9, 10])))
def F117l0 : PC := F117l0x
theorem run_F117l0 (C : Task → Option Res) (k : Nat) (fr : Fr) (σ : S) : run C k F117l0 fr σ = run C k F117l0x fr σ := rfl
/-- arenanet/arenanetlaw15.CompileOperands -/
def F117 : PFun := ⟨3, [.tmp 6],
 .seq (.region none [⟨some 3, .box (.t 0), none, []⟩,
 ⟨some 6, .mov (.c (.bool false)), none, []⟩] [1, 2, 3])
 (.seq (.region none [⟨some 12, .mov (.t 2), none, []⟩,
 ⟨some 13, .call 17 [(.t 12), (.c (.int .i64 21))], none, []⟩,
 ⟨some 14, .bin .add (.c (.int .i64 1)) (.t 13), none, []⟩,
 ⟨some 7, .mov (.t 14), none, []⟩] [1, 2, 3, 7])
 (.seq (.region none [⟨some 15, .bslice 15 [(.lit (.int .i64 0)), (.lit (.int .i64 0)), (.lit (.int .i64 0)), (.lit (.int .i64 0)), (.lit (.int .i64 0)), (.lit (.int .i64 0)), (.lit (.int .i64 0)), (.lit (.int .i64 0)), (.lit (.int .i64 0)), (.lit (.int .i64 0)), (.lit (.int .i64 0)), (.lit (.int .i64 0)), (.lit (.int .i64 0)), (.lit (.int .i64 0)), (.lit (.int .i64 0))] [(0, 1, (.c (.int .i64 (-1)))), (1, 1, (.c (.int .i64 0))), (2, 1, (.c (.int .i64 1))), (3, 1, (.c (.int .i64 2))), (4, 1, (.c (.int .i64 3))), (5, 1, (.c (.int .i64 5))), (6, 1, (.c (.int .i64 6))), (7, 1, (.c (.int .i64 7))), (8, 1, (.c (.int .i64 8))), (9, 1, (.c (.int .i64 15))), (10, 1, (.c (.int .i64 16))), (11, 1, (.c (.int .i64 2147483647))), (12, 1, (.c (.int .i64 2147483648))), (13, 1, (.c (.int .i64 (-2147483647)))), (14, 1, (.c (.int .i64 (-2147483648))))], none, []⟩,
 ⟨some 16, .mov (.t 2), none, []⟩,
 ⟨some 17, .bin .quo (.t 16) (.c (.int .i64 21)), none, []⟩,
 ⟨some 18, .call 17 [(.t 17), (.c (.int .i64 15))], none, []⟩,
 ⟨some 19, .indexAddr 1 (.t 15) (.t 18), none, []⟩,
 ⟨some 20, .load false 1 (.t 19), none, []⟩,
 ⟨some 8, .mov (.t 20), none, []⟩] [1, 3, 7, 8])
 (.seq (.region none [⟨some 21, .load true 2 (.t 3), none, []⟩,
 ⟨some 22, .mov (.t 7), none, []⟩,
 ⟨some 23, .fieldAddr 1 (.t 3), none, []⟩,
 ⟨some 24, .load false 1 (.t 23), none, []⟩,
 ⟨some 25, .build [(.lit (.int .i64 0)), (.lit (.int .i64 0))] [(0, 1, (.t 22)), (1, 1, (.t 24))], none, []⟩,
 ⟨some 26, .mov (.t 7), none, []⟩,
 ⟨some 27, .mov (.t 8), none, []⟩,
 ⟨some 28, .build [(.lit (.int .i64 0)), (.lit (.int .i64 0))] [(0, 1, (.t 26)), (1, 1, (.t 27))], none, []⟩,
 ⟨some 29, .bslice 3 [(.lit (.int .i64 0)), (.lit (.int .i64 0)), (.lit (.int .i64 0)), (.lit (.int .i64 0)), (.lit (.int .i64 0)), (.lit (.int .i64 0))] [(0, 2, (.t 21)), (2, 2, (.t 25)), (4, 2, (.t 28))], none, []⟩,
 ⟨some 9, .mov (.t 29), none, []⟩] [1, 9])
 (.seq (.seq (.region none [⟨some 10, .mov (.c (.int .i64 0)), none, []⟩] [1, 9, 10])
 (.block 0 (.loop F117l0)))
 (.seq (.region none [⟨some 57, .call 127 [], none, []⟩,
 ⟨some 6, .mov (.t 57), none, []⟩] [6])
 (.ret)))))), false, false, false⟩
@[simp] def F118l1x : PC := (.seq (.seq (.region none [⟨some 32, .mov (.t 11), none, []⟩,
 ⟨some 33, .bin .lss (.t 32) (.c (.int .i64 4)), none, []⟩] [2, 9, 10, 11, 33])
 (.cond (.t 33)
 (.skip)
 (.exit 2)))
 (.seq (.block 3 (.seq (.region (some []) [⟨some 36, .mov (.t 9), none, []⟩,
 ⟨some 37, .mov (.t 10), none, []⟩,
 ⟨some 38, .indexAddr 4 (.t 36) (.t 37), none, []⟩,
 ⟨some 39, .load true 4 (.t 38), none, []⟩,
 ⟨some 40, .mov (.t 11), none, []⟩,
 ⟨some 41, .call 128 [(.t 39), (.t 40)], none, []⟩,
 ⟨some 42, .mov (.t 9), none, []⟩,
 ⟨some 43, .mov (.t 10), none, []⟩,
 ⟨some 44, .indexAddr 4 (.t 42) (.t 43), none, []⟩,
 ⟨some 45, .load true 4 (.t 44), none, [5]⟩,
 ⟨some 46, .mov (.t 11), none, []⟩,
 ⟨some 47, .call 129 [(.t 45), (.t 46)], none, []⟩,
 ⟨some 48, .bin .neq (.t 41) (.t 47), none, []⟩] [2, 9, 10, 11, 48] [11])
 (.cond (.t 48)
 (.seq (.region none [⟨some 6, .mov (.c (.bool false)), none, []⟩] [6])
 (.ret))
 (.skip))))
 (.region none [⟨some 34, .mov (.t 11), none, []⟩,
 ⟨some 35, .bin .add (.t 34) (.c (.int .i64 1)), none, []⟩,
 ⟨some 11, .mov (.t 35), none, []⟩] [2, 9, 10, 11])))
def F118l1 : PC := F118l1x
theorem run_F118l1 (C : Task → Option Res) (k : Nat) (fr : Fr) (σ : S) : run C k F118l1 fr σ = run C k F118l1x fr σ := rfl
@[simp] def F118l0x : PC := (.seq (.seq (.region none [⟨some 22, .mov (.t 10), none, []⟩,
 ⟨some 23, .bin .lss (.t 22) (.c (.int .i64 2)), none, []⟩] [2, 9, 10, 23])
 (.cond (.t 23)
 (.skip)
 (.exit 0)))
 (.seq (.block 1 (.seq (.seq (.region none [⟨some 26, .mov (.t 9), none, []⟩,
 ⟨some 27, .mov (.t 10), none, []⟩,
 ⟨some 28, .indexAddr 4 (.t 26) (.t 27), none, []⟩,
 ⟨some 29, .load true 4 (.t 28), none, []⟩,
 ⟨some 30, .call 126 [(.t 29)], none, []⟩,
 ⟨some 31, .bin .neq (.t 30) (.c (.int .i64 0)), none, []⟩] [2, 9, 10, 31])
 (.cond (.t 31)
 (.exit 1)
 (.skip)))
 (.seq (.seq (.region none [⟨some 11, .mov (.c (.int .i64 (-1))), none, []⟩] [2, 9, 10, 11])
 (.block 2 (.loop F118l1)))
 (.seq (.region (some []) [⟨some 49, .mov (.t 9), none, []⟩,
 ⟨some 50, .mov (.t 10), none, []⟩,
 ⟨some 51, .indexAddr 4 (.t 49) (.t 50), none, []⟩,
 ⟨some 52, .load true 4 (.t 51), none, []⟩,
 ⟨some 53, .mov (.t 2), none, []⟩,
 ⟨some 54, .call 128 [(.t 52), (.t 53)], none, []⟩,
 ⟨some 55, .mov (.t 9), none, []⟩,
 ⟨some 56, .mov (.t 10), none, []⟩,
 ⟨some 57, .indexAddr 4 (.t 55) (.t 56), none, []⟩,
 ⟨some 58, .load true 4 (.t 57), none, [5]⟩,
 ⟨some 59, .mov (.t 2), none, []⟩,
 ⟨some 60, .call 129 [(.t 58), (.t 59)], none, []⟩,
 ⟨some 61, .bin .neq (.t 54) (.t 60), none, []⟩] [2, 9, 10, 61] [11])
 (.cond (.t 61)
 (.seq (.region none [⟨some 6, .mov (.c (.bool false)), none, []⟩] [6])
 (.ret))
 (.skip))))))
 (.region none [⟨some 24, .mov (.t 10), none, []⟩,
 ⟨some 25, .bin .add (.t 24) (.c (.int .i64 1)), none, []⟩,
 ⟨some 10, .mov (.t 25), none, []⟩] [2, 9, 10])))
def F118l0 : PC := F118l0x
theorem run_F118l0 (C : Task → Option Res) (k : Nat) (fr : Fr) (σ : S) : run C k F118l0 fr σ = run C k F118l0x fr σ := rfl
/-- arenanet/arenanetlaw15.CompileDepths -/
def F118 : PFun := ⟨3, [.tmp 6],
 .seq (.region none [⟨some 6, .mov (.c (.bool false)), none, []⟩] [0, 1, 2])
 (.seq (.region none [⟨some 13, .mov (.t 1), none, []⟩,
 ⟨some 14, .call 123 [(.t 13)], none, []⟩,
 ⟨some 15, .call 122 [(.t 14)], none, []⟩,
 ⟨some 12, .mov (.t 15), none, []⟩,
 ⟨some 16, .extract (.t 12) 0, none, []⟩,
 ⟨some 17, .extract (.t 12) 1, none, []⟩,
 ⟨some 7, .alloc [(.lit (.slice none 0 0)), (.lit (.int .i64 0)), (.lit (.int .i64 0)), (.lit (.int .i64 0))], none, []⟩,
 ⟨none, .store 4 (.t 7) (.t 16), none, []⟩,
 ⟨some 8, .mov (.t 17), none, []⟩] [0, 2, 7])
 (.seq (.region (some []) [⟨some 18, .mov (.t 0), none, []⟩,
 ⟨some 19, .call 121 [(.t 18)], none, []⟩,
 ⟨some 20, .load true 4 (.t 7), none, [1]⟩,
 ⟨some 21, .bslice 2 [(.lit (.slice none 0 0)), (.lit (.int .i64 0)), (.lit (.int .i64 0)), (.lit (.int .i64 0)), (.lit (.slice none 0 0)), (.lit (.int .i64 0)), (.lit (.int .i64 0)), (.lit (.int .i64 0))] [(0, 4, (.t 19)), (4, 4, (.t 20))], none, []⟩,
 ⟨some 9, .mov (.t 21), none, []⟩] [2, 9])
 (.seq (.seq (.region none [⟨some 10, .mov (.c (.int .i64 0)), none, []⟩] [2, 9, 10])
 (.block 0 (.loop F118l0)))
 (.seq (.region none [⟨some 62, .call 127 [], none, []⟩,
 ⟨some 6, .mov (.t 62), none, []⟩] [6])
 (.ret))))), false, false, false⟩
@[simp] def F119l0x : PC := (.seq (.seq (.region none [⟨some 19, .mov (.t 8), none, []⟩,
 ⟨some 20, .mov (.t 5), none, []⟩,
 ⟨some 21, .bin .lss (.t 19) (.t 20), none, []⟩] [5, 6, 7, 8, 21])
 (.cond (.t 21)
 (.skip)
 (.exit 0)))
 (.seq (.block 1 (.region none [⟨some 24, .fieldAddr 3 (.t 7), none, []⟩,
 ⟨some 25, .load false 1 (.t 24), none, []⟩,
 ⟨some 26, .mov (.t 8), none, []⟩,
 ⟨some 27, .build [(.lit (.int .i64 0)), (.lit (.int .i64 0)), (.lit (.string ⟨#[]⟩)), (.lit (.slice none 0 0))] [(0, 1, (.c (.int .i64 8))), (1, 1, (.t 26))], none, []⟩,
 ⟨some 28, .bslice 1 [(.lit (.int .i64 0)), (.lit (.int .i64 0)), (.lit (.string ⟨#[]⟩)), (.lit (.slice none 0 0))] [(0, 4, (.t 27))], none, []⟩,
 ⟨some 29, .build [(.lit (.int .i64 0)), (.lit (.int .i64 0)), (.lit (.string ⟨#[]⟩)), (.lit (.slice none 0 0))] [(0, 1, (.c (.int .i64 1))), (2, 1, (.c (.string ⟨#[118]⟩))), (3, 1, (.t 28))], none, []⟩,
 ⟨some 30, .bslice 1 [(.lit (.int .i64 0)), (.lit (.int .i64 0)), (.lit (.string ⟨#[]⟩)), (.lit (.slice none 0 0))] [(0, 4, (.t 29))], none, []⟩,
 ⟨some 31, .append 4 56 (.t 25) (.t 30), none, []⟩,
 ⟨some 32, .fieldAddr 3 (.t 7), none, []⟩,
 ⟨none, .store 1 (.t 32) (.t 31), none, []⟩] [5, 6, 7, 8]))
 (.region none [⟨some 22, .mov (.t 8), none, []⟩,
 ⟨some 23, .bin .add (.t 22) (.c (.int .i64 1)), none, []⟩,
 ⟨some 8, .mov (.t 23), none, []⟩] [5, 6, 7, 8])))
def F119l0 : PC := F119l0x
theorem run_F119l0 (C : Task → Option Res) (k : Nat) (fr : Fr) (σ : S) : run C k F119l0 fr σ = run C k F119l0x fr σ := rfl
/-- arenanet/arenanetlaw15.CompileLimits -/
def F119 : PFun := ⟨2, [.tmp 4],
 .seq (.region none [⟨some 4, .mov (.c (.bool false)), none, []⟩] [0, 1])
 (.seq (.region none [⟨some 13, .mov (.t 0), none, []⟩,
 ⟨some 14, .call 17 [(.t 13), (.c (.int .i64 231))], none, []⟩,
 ⟨some 5, .mov (.t 14), none, []⟩] [1, 5])
 (.seq (.region none [⟨some 15, .mov (.t 1), none, []⟩,
 ⟨some 16, .call 17 [(.t 15), (.c (.int .i64 9))], none, []⟩,
 ⟨some 17, .bin .add (.c (.int .i64 12)) (.t 16), none, []⟩,
 ⟨some 6, .mov (.t 17), none, []⟩] [5, 6])
 (.seq (.region none [⟨some 18, .build [(.lit (.int .i64 0)), (.lit (.int .i64 0)), (.lit (.string ⟨#[]⟩)), (.lit (.slice none 0 0))] [(0, 1, (.c (.int .i64 7)))], none, []⟩,
 ⟨some 7, .alloc [(.lit (.int .i64 0)), (.lit (.int .i64 0)), (.lit (.string ⟨#[]⟩)), (.lit (.slice none 0 0))], none, []⟩,
 ⟨none, .store 4 (.t 7) (.t 18), none, []⟩] [5, 6, 7])
 (.seq (.seq (.region none [⟨some 8, .mov (.c (.int .i64 0)), none, []⟩] [5, 6, 7, 8])
 (.block 0 (.loop F119l0)))
 (.seq (.region (some []) [⟨some 33, .fieldAddr 3 (.t 7), none, []⟩,
 ⟨some 34, .load false 1 (.t 33), none, [4]⟩,
 ⟨some 35, .mov (.t 6), none, []⟩,
 ⟨some 36, .bin .sub (.t 35) (.c (.int .i64 1)), none, []⟩,
 ⟨some 37, .call 130 [(.t 36)], none, []⟩,
 ⟨some 38, .bslice 1 [(.lit (.int .i64 0)), (.lit (.int .i64 0)), (.lit (.string ⟨#[]⟩)), (.lit (.slice none 0 0))] [(0, 4, (.t 37))], none, []⟩,
 ⟨some 39, .build [(.lit (.int .i64 0)), (.lit (.int .i64 0)), (.lit (.string ⟨#[]⟩)), (.lit (.slice none 0 0))] [(0, 1, (.c (.int .i64 1))), (2, 1, (.c (.string ⟨#[118]⟩))), (3, 1, (.t 38))], none, []⟩,
 ⟨some 40, .bslice 1 [(.lit (.int .i64 0)), (.lit (.int .i64 0)), (.lit (.string ⟨#[]⟩)), (.lit (.slice none 0 0))] [(0, 4, (.t 39))], none, []⟩,
 ⟨some 41, .append 4 56 (.t 34) (.t 40), none, []⟩,
 ⟨some 42, .fieldAddr 3 (.t 7), none, []⟩,
 ⟨none, .store 1 (.t 42) (.t 41), none, []⟩] [5, 6, 7] [4])
 (.seq (.region none [⟨some 43, .build [(.lit (.int .i64 0)), (.lit (.int .i64 0)), (.lit (.string ⟨#[]⟩)), (.lit (.slice none 0 0))] [], none, []⟩,
 ⟨some 44, .load true 4 (.t 7), none, []⟩,
 ⟨some 45, .build [(.lit (.int .i64 0)), (.lit (.int .i64 0)), (.lit (.string ⟨#[]⟩)), (.lit (.slice none 0 0))] [], none, []⟩,
 ⟨some 46, .build [(.lit (.int .i64 0)), (.lit (.int .i64 0)), (.lit (.string ⟨#[]⟩)), (.lit (.slice none 0 0)), (.lit (.int .i64 0)), (.lit (.int .i64 0)), (.lit (.string ⟨#[]⟩)), (.lit (.slice none 0 0)), (.lit (.int .i64 0)), (.lit (.int .i64 0)), (.lit (.string ⟨#[]⟩)), (.lit (.slice none 0 0))] [(0, 4, (.t 43)), (4, 4, (.t 44)), (8, 4, (.t 45))], none, []⟩,
 ⟨some 47, .build [(.lit (.int .i64 0)), (.lit (.int .i64 0)), (.lit (.string ⟨#[]⟩)), (.lit (.slice none 0 0)), (.lit (.int .i64 0)), (.lit (.int .i64 0)), (.lit (.string ⟨#[]⟩)), (.lit (.slice none 0 0)), (.lit (.int .i64 0)), (.lit (.int .i64 0)), (.lit (.string ⟨#[]⟩)), (.lit (.slice none 0 0))] [(0, 12, (.t 46))], none, []⟩,
 ⟨some 9, .alloc [(.lit (.int .i64 0)), (.lit (.int .i64 0)), (.lit (.string ⟨#[]⟩)), (.lit (.slice none 0 0)), (.lit (.int .i64 0)), (.lit (.int .i64 0)), (.lit (.string ⟨#[]⟩)), (.lit (.slice none 0 0)), (.lit (.int .i64 0)), (.lit (.int .i64 0)), (.lit (.string ⟨#[]⟩)), (.lit (.slice none 0 0))], none, []⟩,
 ⟨none, .store 12 (.t 9) (.t 47), none, []⟩] [5, 6, 9])
 (.seq (.region none [⟨some 49, .load true 12 (.t 9), none, []⟩,
 ⟨some 50, .call 131 [(.t 49)], none, []⟩,
 ⟨some 48, .mov (.t 50), none, []⟩,
 ⟨some 51, .extract (.t 48) 0, none, []⟩,
 ⟨some 52, .extract (.t 48) 1, none, []⟩,
 ⟨some 10, .alloc [(.lit (.slice none 0 0)), (.lit (.int .i64 0)), (.lit (.int .i64 0)), (.lit (.int .i64 0))], none, []⟩,
 ⟨none, .store 4 (.t 10) (.t 51), none, []⟩,
 ⟨some 11, .mov (.t 52), none, []⟩] [5, 6, 10, 11])
 (.seq (.region none [⟨some 53, .mov (.t 5), none, []⟩,
 ⟨some 54, .bin .mul (.c (.int .i64 2)) (.t 53), none, []⟩,
 ⟨some 55, .mov (.t 6), none, []⟩,
 ⟨some 56, .bin .mul (.c (.int .i64 2)) (.t 55), none, []⟩,
 ⟨some 57, .bin .add (.t 54) (.t 56), none, []⟩,
 ⟨some 58, .bin .add (.t 57) (.c (.int .i64 1)), none, []⟩,
 ⟨some 12, .mov (.t 58), none, []⟩] [6, 10, 11, 12])
 (.seq (.seq (.region none [⟨some 59, .mov (.t 12), none, []⟩,
 ⟨some 60, .bin .gtr (.t 59) (.c (.int .i64 400)), none, []⟩] [6, 10, 11, 12, 60])
 (.cond (.t 60)
 (.seq (.region none [⟨some 61, .mov (.t 11), none, []⟩,
 ⟨some 62, .bin .eql (.t 61) (.c (.int .i64 2)), none, []⟩,
 ⟨some 63, .mov (.t 62), none, []⟩,
 ⟨some 64, .fieldAddr 0 (.t 10), some (63, true), []⟩,
 ⟨some 65, .load false 1 (.t 64), some (63, true), []⟩,
 ⟨some 66, .len .sl (.t 65), some (63, true), []⟩,
 ⟨some 67, .bin .eql (.t 66) (.c (.int .i64 0)), some (63, true), []⟩,
 ⟨some 68, .pick (.t 63) (.t 67) (.c (.bool false)), none, []⟩,
 ⟨some 69, .mov (.t 68), none, []⟩,
 ⟨some 70, .call 127 [], some (69, true), []⟩,
 ⟨some 71, .pick (.t 69) (.t 70) (.c (.bool false)), none, []⟩,
 ⟨some 4, .mov (.t 71), none, []⟩] [4])
 (.ret))
 (.skip)))
 (.seq (.seq (.region none [⟨some 72, .mov (.t 6), none, []⟩,
 ⟨some 73, .bin .gtr (.t 72) (.c (.int .i64 16)), none, []⟩] [6, 10, 11, 12, 73])
 (.cond (.t 73)
 (.seq (.region none [⟨some 74, .mov (.t 11), none, []⟩,
 ⟨some 75, .bin .eql (.t 74) (.c (.int .i64 15)), none, []⟩,
 ⟨some 76, .mov (.t 75), none, []⟩,
 ⟨some 77, .fieldAddr 0 (.t 10), some (76, true), []⟩,
 ⟨some 78, .load false 1 (.t 77), some (76, true), []⟩,
 ⟨some 79, .len .sl (.t 78), some (76, true), []⟩,
 ⟨some 80, .bin .eql (.t 79) (.c (.int .i64 0)), some (76, true), []⟩,
 ⟨some 81, .pick (.t 76) (.t 80) (.c (.bool false)), none, []⟩,
 ⟨some 82, .mov (.t 81), none, []⟩,
 ⟨some 83, .fieldAddr 1 (.t 10), some (82, true), []⟩,
 ⟨some 84, .load true 3 (.t 83), some (82, true), []⟩,
 ⟨some 85, .build [(.lit (.int .i64 0)), (.lit (.int .i64 0)), (.lit (.int .i64 0))] [], some (82, true), []⟩,
 ⟨some 86, .eqa false [.i, .i, .i] (.t 84) (.t 85), some (82, true), []⟩,
 ⟨some 87, .pick (.t 82) (.t 86) (.c (.bool false)), none, []⟩,
 ⟨some 88, .mov (.t 87), none, []⟩,
 ⟨some 89, .call 127 [], some (88, true), []⟩,
 ⟨some 90, .pick (.t 88) (.t 89) (.c (.bool false)), none, []⟩,
 ⟨some 4, .mov (.t 90), none, []⟩] [4])
 (.ret))
 (.skip)))
 (.seq (.region none [⟨some 91, .mov (.t 11), none, []⟩,
 ⟨some 92, .bin .eql (.t 91) (.c (.int .i64 0)), none, []⟩,
 ⟨some 93, .mov (.t 92), none, []⟩,
 ⟨some 94, .fieldAddr 0 (.t 10), some (93, true), []⟩,
 ⟨some 95, .load false 1 (.t 94), some (93, true), []⟩,
 ⟨some 96, .len .sl (.t 95), some (93, true), []⟩,
 ⟨some 97, .mov (.t 12), some (93, true), []⟩,
 ⟨some 98, .bin .eql (.t 96) (.t 97), some (93, true), []⟩,
 ⟨some 99, .pick (.t 93) (.t 98) (.c (.bool false)), none, []⟩,
 ⟨some 100, .mov (.t 99), none, []⟩,
 ⟨some 101, .load true 4 (.t 10), some (100, true), []⟩,
 ⟨some 102, .call 128 [(.t 101), (.c (.int .i64 1))], some (100, true), []⟩,
 ⟨some 103, .mov (.t 6), some (100, true), []⟩,
 ⟨some 104, .bin .eql (.t 102) (.t 103), some (100, true), []⟩,
 ⟨some 105, .pick (.t 100) (.t 104) (.c (.bool false)), none, []⟩,
 ⟨some 106, .mov (.t 105), none, []⟩,
 ⟨some 107, .load true 4 (.t 10), some (106, true), []⟩,
 ⟨some 108, .call 125 [(.t 107)], some (106, true), []⟩,
 ⟨some 109, .bin .eql (.t 108) (.c (.int .i64 0)), some (106, true), []⟩,
 ⟨some 110, .pick (.t 106) (.t 109) (.c (.bool false)), none, []⟩,
 ⟨some 111, .mov (.t 110), none, []⟩,
 ⟨some 112, .call 127 [], some (111, true), []⟩,
 ⟨some 113, .pick (.t 111) (.t 112) (.c (.bool false)), none, []⟩,
 ⟨some 4, .mov (.t 113), none, []⟩] [4])
 (.ret)))))))))))), false, false, false⟩
/-- arenanet/arenanetlaw15.CompileFields -/
def F120 : PFun := ⟨3, [.tmp 6],
 .seq (.region none [⟨some 6, .mov (.c (.bool false)), none, []⟩] [0, 1, 2])
 (.seq (.region none [⟨some 20, .bslice 6 [(.lit (.string ⟨#[]⟩)), (.lit (.string ⟨#[]⟩)), (.lit (.string ⟨#[]⟩)), (.lit (.string ⟨#[]⟩)), (.lit (.string ⟨#[]⟩)), (.lit (.string ⟨#[]⟩))] [(0, 1, (.c (.string ⟨#[120]⟩))), (1, 1, (.c (.string ⟨#[121]⟩))), (2, 1, (.c (.string ⟨#[118, 120]⟩))), (3, 1, (.c (.string ⟨#[118, 121]⟩))), (4, 1, (.c (.string ⟨#[97]⟩))), (5, 1, (.c (.string ⟨#[98]⟩)))], none, []⟩,
 ⟨some 21, .mov (.t 0), none, []⟩,
 ⟨some 22, .call 17 [(.t 21), (.c (.int .i64 6))], none, []⟩,
 ⟨some 23, .indexAddr 1 (.t 20) (.t 22), none, []⟩,
 ⟨some 24, .load false 1 (.t 23), none, []⟩,
 ⟨some 7, .mov (.t 24), none, []⟩] [1, 2, 7])
 (.seq (.region none [⟨some 25, .mov (.t 1), none, []⟩,
 ⟨some 26, .call 17 [(.t 25), (.c (.int .i64 1000))], none, []⟩,
 ⟨some 27, .call 20 [(.t 26)], none, []⟩,
 ⟨some 8, .mov (.t 27), none, []⟩] [2, 7, 8])
 (.seq (.region none [⟨some 28, .mov (.t 2), none, []⟩,
 ⟨some 29, .call 17 [(.t 28), (.c (.int .i64 1000))], none, []⟩,
 ⟨some 30, .call 20 [(.t 29)], none, []⟩,
 ⟨some 9, .mov (.t 30), none, []⟩] [7, 8, 9])
 (.seq (.region none [⟨some 32, .mov (.t 7), none, []⟩,
 ⟨some 33, .bin .add (.c (.string ⟨#[111, 110, 32, 104, 105, 116, 32, 123, 32]⟩)) (.t 32), none, []⟩,
 ⟨some 34, .bin .add (.t 33) (.c (.string ⟨#[91]⟩)), none, []⟩,
 ⟨some 35, .mov (.t 8), none, []⟩,
 ⟨some 36, .bin .add (.t 34) (.t 35), none, []⟩,
 ⟨some 37, .bin .add (.t 36) (.c (.string ⟨#[93, 32, 61, 32]⟩)), none, []⟩,
 ⟨some 38, .mov (.t 7), none, []⟩,
 ⟨some 39, .bin .add (.t 37) (.t 38), none, []⟩,
 ⟨some 40, .bin .add (.t 39) (.c (.string ⟨#[91]⟩)), none, []⟩,
 ⟨some 41, .mov (.t 9), none, []⟩,
 ⟨some 42, .bin .add (.t 40) (.t 41), none, []⟩,
 ⟨some 43, .bin .add (.t 42) (.c (.string ⟨#[93, 59, 32, 105, 102, 32]⟩)), none, []⟩,
 ⟨some 44, .mov (.t 8), none, []⟩,
 ⟨some 45, .bin .add (.t 43) (.t 44), none, []⟩,
 ⟨some 46, .bin .add (.t 45) (.c (.string ⟨#[32, 62, 32]⟩)), none, []⟩,
 ⟨some 47, .mov (.t 9), none, []⟩,
 ⟨some 48, .bin .add (.t 46) (.t 47), none, []⟩,
 ⟨some 49, .bin .add (.t 48) (.c (.string ⟨#[32, 123, 32, 115, 116, 111, 112, 59, 32, 125, 32, 125]⟩)), none, []⟩,
 ⟨some 50, .call 132 [(.t 49)], none, []⟩,
 ⟨some 31, .mov (.t 50), none, []⟩,
 ⟨some 51, .extract (.t 31) 0, none, []⟩,
 ⟨some 52, .extract (.t 31) 1, none, []⟩,
 ⟨some 53, .extract (.t 31) 2, none, []⟩,
 ⟨some 10, .alloc [(.lit (.int .i64 0)), (.lit (.int .i64 0)), (.lit (.string ⟨#[]⟩)), (.lit (.slice none 0 0)), (.lit (.int .i64 0)), (.lit (.int .i64 0)), (.lit (.string ⟨#[]⟩)), (.lit (.slice none 0 0)), (.lit (.int .i64 0)), (.lit (.int .i64 0)), (.lit (.string ⟨#[]⟩)), (.lit (.slice none 0 0))], none, []⟩,
 ⟨none, .store 12 (.t 10) (.t 51), none, []⟩,
 ⟨some 11, .mov (.t 52), none, []⟩,
 ⟨some 12, .mov (.t 53), none, []⟩] [7, 8, 9, 10, 12])
 (.seq (.region none [⟨some 55, .mov (.t 7), none, []⟩,
 ⟨some 56, .bin .add (.c (.string ⟨#[111, 110, 32, 104, 105, 116, 32, 123, 32]⟩)) (.t 55), none, []⟩,
 ⟨some 57, .bin .add (.t 56) (.c (.string ⟨#[91]⟩)), none, []⟩,
 ⟨some 58, .mov (.t 8), none, []⟩,
 ⟨some 59, .bin .add (.t 57) (.t 58), none, []⟩,
 ⟨some 60, .bin .add (.t 59) (.c (.string ⟨#[93, 32, 61, 32]⟩)), none, []⟩,
 ⟨some 61, .mov (.t 7), none, []⟩,
 ⟨some 62, .bin .add (.t 60) (.t 61), none, []⟩,
 ⟨some 63, .bin .add (.t 62) (.c (.string ⟨#[91]⟩)), none, []⟩,
 ⟨some 64, .mov (.t 9), none, []⟩,
 ⟨some 65, .bin .add (.t 63) (.t 64), none, []⟩,
 ⟨some 66, .bin .add (.t 65) (.c (.string ⟨#[93, 59, 32, 105, 102, 32]⟩)), none, []⟩,
 ⟨some 67, .mov (.t 9), none, []⟩,
 ⟨some 68, .bin .add (.t 66) (.t 67), none, []⟩,
 ⟨some 69, .bin .add (.t 68) (.c (.string ⟨#[32, 60, 32]⟩)), none, []⟩,
 ⟨some 70, .mov (.t 8), none, []⟩,
 ⟨some 71, .bin .add (.t 69) (.t 70), none, []⟩,
 ⟨some 72, .bin .add (.t 71) (.c (.string ⟨#[32, 123, 32, 115, 116, 111, 112, 59, 32, 125, 32, 125]⟩)), none, []⟩,
 ⟨some 73, .call 132 [(.t 72)], none, []⟩,
 ⟨some 54, .mov (.t 73), none, []⟩,
 ⟨some 74, .extract (.t 54) 0, none, []⟩,
 ⟨some 75, .extract (.t 54) 1, none, []⟩,
 ⟨some 76, .extract (.t 54) 2, none, []⟩,
 ⟨some 13, .alloc [(.lit (.int .i64 0)), (.lit (.int .i64 0)), (.lit (.string ⟨#[]⟩)), (.lit (.slice none 0 0)), (.lit (.int .i64 0)), (.lit (.int .i64 0)), (.lit (.string ⟨#[]⟩)), (.lit (.slice none 0 0)), (.lit (.int .i64 0)), (.lit (.int .i64 0)), (.lit (.string ⟨#[]⟩)), (.lit (.slice none 0 0))], none, []⟩,
 ⟨none, .store 12 (.t 13) (.t 74), none, []⟩,
 ⟨some 14, .mov (.t 75), none, []⟩,
 ⟨some 15, .mov (.t 76), none, []⟩] [7, 10, 12, 13, 15])
 (.seq (.region none [⟨some 78, .load true 12 (.t 10), none, []⟩,
 ⟨some 79, .call 131 [(.t 78)], none, []⟩,
 ⟨some 77, .mov (.t 79), none, []⟩,
 ⟨some 80, .extract (.t 77) 0, none, []⟩,
 ⟨some 81, .extract (.t 77) 1, none, []⟩,
 ⟨some 16, .alloc [(.lit (.slice none 0 0)), (.lit (.int .i64 0)), (.lit (.int .i64 0)), (.lit (.int .i64 0))], none, []⟩,
 ⟨none, .store 4 (.t 16) (.t 80), none, []⟩,
 ⟨some 17, .mov (.t 81), none, []⟩] [7, 12, 13, 15, 16, 17])
 (.seq (.region none [⟨some 83, .load true 12 (.t 13), none, []⟩,
 ⟨some 84, .call 131 [(.t 83)], none, []⟩,
 ⟨some 82, .mov (.t 84), none, []⟩,
 ⟨some 85, .extract (.t 82) 0, none, []⟩,
 ⟨some 86, .extract (.t 82) 1, none, []⟩,
 ⟨some 18, .alloc [(.lit (.slice none 0 0)), (.lit (.int .i64 0)), (.lit (.int .i64 0)), (.lit (.int .i64 0))], none, []⟩,
 ⟨none, .store 4 (.t 18) (.t 85), none, []⟩,
 ⟨some 19, .mov (.t 86), none, []⟩] [7, 12, 15, 16, 17, 18, 19])
 (.seq (.seq (.region none [⟨some 87, .mov (.t 12), none, []⟩,
 ⟨some 88, .bin .neq (.t 87) (.c (.int .i64 0)), none, []⟩,
 ⟨some 89, .mov (.t 88), none, []⟩,
 ⟨some 90, .mov (.t 15), some (89, false), []⟩,
 ⟨some 91, .bin .neq (.t 90) (.c (.int .i64 0)), some (89, false), []⟩,
 ⟨some 92, .pick (.t 89) (.c (.bool true)) (.t 91), none, []⟩,
 ⟨some 93, .mov (.t 92), none, []⟩,
 ⟨some 94, .mov (.t 17), some (93, false), []⟩,
 ⟨some 95, .bin .neq (.t 94) (.c (.int .i64 0)), some (93, false), []⟩,
 ⟨some 96, .pick (.t 93) (.c (.bool true)) (.t 95), none, []⟩,
 ⟨some 97, .mov (.t 96), none, []⟩,
 ⟨some 98, .mov (.t 19), some (97, false), []⟩,
 ⟨some 99, .bin .neq (.t 98) (.c (.int .i64 0)), some (97, false), []⟩,
 ⟨some 100, .pick (.t 97) (.c (.bool true)) (.t 99), none, []⟩,
 ⟨some 101, .mov (.t 100), none, []⟩,
 ⟨some 102, .fieldAddr 0 (.t 16), some (101, false), []⟩,
 ⟨some 103, .load false 1 (.t 102), some (101, false), []⟩,
 ⟨some 104, .len .sl (.t 103), some (101, false), []⟩,
 ⟨some 105, .bin .lss (.t 104) (.c (.int .i64 4)), some (101, false), []⟩,
 ⟨some 106, .pick (.t 101) (.c (.bool true)) (.t 105), none, []⟩] [7, 16, 18, 106])
 (.cond (.t 106)
 (.seq (.region none [⟨some 6, .mov (.c (.bool false)), none, []⟩] [6])
 (.ret))
 (.skip)))
 (.seq (.region (some []) [⟨some 107, .load true 4 (.t 16), none, []⟩,
 ⟨some 108, .load true 4 (.t 18), none, []⟩,
 ⟨some 109, .call 133 [(.t 107), (.t 108)], none, []⟩,
 ⟨some 110, .mov (.t 109), none, []⟩,
 ⟨some 111, .fieldAddr 0 (.t 16), some (110, true), []⟩,
 ⟨some 112, .load false 1 (.t 111), some (110, true), [9]⟩,
 ⟨some 113, .indexAddr 2 (.t 112) (.c (.int .i64 2)), some (110, true), []⟩,
 ⟨some 114, .load true 2 (.t 113), some (110, true), [9]⟩,
 ⟨some 115, .mov (.t 7), some (110, true), []⟩,
 ⟨some 116, .call 134 [(.t 115)], some (110, true), []⟩,
 ⟨some 117, .build [(.lit (.int .i64 0)), (.lit (.int .i64 0))] [(0, 1, (.c (.int .i64 4))), (1, 1, (.t 116))], some (110, true), []⟩,
 ⟨some 118, .eqa false [.i, .i] (.t 114) (.t 117), some (110, true), []⟩,
 ⟨some 119, .pick (.t 110) (.t 118) (.c (.bool false)), none, []⟩,
 ⟨some 120, .mov (.t 119), none, []⟩,
 ⟨some 121, .fieldAddr 0 (.t 16), some (120, true), []⟩,
 ⟨some 122, .load false 1 (.t 121), some (120, true), [19]⟩,
 ⟨some 123, .indexAddr 2 (.t 122) (.c (.int .i64 3)), some (120, true), []⟩,
 ⟨some 124, .load true 2 (.t 123), some (120, true), [19]⟩,
 ⟨some 125, .mov (.t 7), some (120, true), []⟩,
 ⟨some 126, .call 134 [(.t 125)], some (120, true), []⟩,
 ⟨some 127, .build [(.lit (.int .i64 0)), (.lit (.int .i64 0))] [(0, 1, (.c (.int .i64 5))), (1, 1, (.t 126))], some (120, true), []⟩,
 ⟨some 128, .eqa false [.i, .i] (.t 124) (.t 127), some (120, true), []⟩,
 ⟨some 129, .pick (.t 120) (.t 128) (.c (.bool false)), none, []⟩,
 ⟨some 130, .mov (.t 129), none, []⟩,
 ⟨some 131, .call 127 [], some (130, true), []⟩,
 ⟨some 132, .pick (.t 130) (.t 131) (.c (.bool false)), none, []⟩,
 ⟨some 6, .mov (.t 132), none, []⟩] [6] [2, 9, 19, 24])
 (.ret)))))))))), false, false, false⟩
@[simp] def F121l0x : PC := (.seq (.seq (.region none [⟨some 11, .mov (.t 4), none, []⟩,
 ⟨some 12, .mov (.t 0), none, []⟩,
 ⟨some 13, .len .sl (.t 12), none, []⟩,
 ⟨some 14, .bin .lss (.t 11) (.t 13), none, []⟩,
 ⟨some 15, .mov (.t 14), none, []⟩,
 ⟨some 16, .mov (.t 4), some (15, true), []⟩,
 ⟨some 17, .bin .lss (.t 16) (.c (.int .i64 24)), some (15, true), []⟩,
 ⟨some 18, .pick (.t 15) (.t 17) (.c (.bool false)), none, []⟩] [0, 2, 3, 4, 18])
 (.cond (.t 18)
 (.skip)
 (.exit 0)))
 (.seq (.block 1 (.seq (.region none [⟨some 21, .mov (.t 0), none, []⟩,
 ⟨some 22, .mov (.t 4), none, []⟩,
 ⟨some 23, .indexAddr 1 (.t 21) (.t 22), none, []⟩,
 ⟨some 24, .load false 1 (.t 23), none, []⟩,
 ⟨some 25, .call 17 [(.t 24), (.c (.int .i64 10000000))], none, []⟩,
 ⟨some 5, .mov (.t 25), none, []⟩] [0, 2, 3, 4, 5])
 (.seq (.region none [⟨some 26, .mov (.t 5), none, []⟩,
 ⟨some 27, .bin .rem (.t 26) (.c (.int .i64 21)), none, []⟩,
 ⟨some 28, .bin .add (.c (.int .i64 1)) (.t 27), none, []⟩,
 ⟨some 29, .build [(.lit (.int .i64 0)), (.lit (.int .i64 0))] [(0, 1, (.t 28))], none, []⟩,
 ⟨some 6, .alloc [(.lit (.int .i64 0)), (.lit (.int .i64 0))], none, []⟩,
 ⟨none, .store 2 (.t 6) (.t 29), none, []⟩] [0, 2, 3, 4, 5, 6])
 (.seq (.seq (.region none [⟨some 30, .fieldAddr 0 (.t 6), none, []⟩,
 ⟨some 31, .load false 1 (.t 30), none, []⟩] [0, 2, 3, 4, 5, 6, 31])
 (.block 2 (.seq (.seq (.region none [⟨some 33, .bin .eql (.t 31) (.c (.int .i64 1)), none, []⟩,
 ⟨some 32, .mov (.t 33), none, []⟩] [0, 2, 3, 4, 5, 6, 31, 32])
 (.cond (.t 32)
 (.skip)
 (.seq (.region none [⟨some 34, .bin .eql (.t 31) (.c (.int .i64 2)), none, []⟩,
 ⟨some 32, .mov (.t 34), none, []⟩] [0, 2, 3, 4, 5, 6, 31, 32])
 (.cond (.t 32)
 (.skip)
 (.seq (.region none [⟨some 35, .bin .eql (.t 31) (.c (.int .i64 3)), none, []⟩,
 ⟨some 32, .mov (.t 35), none, []⟩] [0, 2, 3, 4, 5, 6, 31, 32])
 (.cond (.t 32)
 (.skip)
 (.seq (.region none [⟨some 36, .bin .eql (.t 31) (.c (.int .i64 4)), none, []⟩,
 ⟨some 32, .mov (.t 36), none, []⟩] [0, 2, 3, 4, 5, 6, 31, 32])
 (.cond (.t 32)
 (.skip)
 (.region none [⟨some 37, .bin .eql (.t 31) (.c (.int .i64 5)), none, []⟩,
 ⟨some 32, .mov (.t 37), none, []⟩] [0, 2, 3, 4, 5, 6, 31, 32])))))))))
 (.cond (.t 32)
 (.region none [⟨some 38, .mov (.t 5), none, []⟩,
 ⟨some 39, .bin .quo (.t 38) (.c (.int .i64 21)), none, []⟩,
 ⟨some 40, .bin .rem (.t 39) (.c (.int .i64 6)), none, []⟩,
 ⟨some 41, .fieldAddr 1 (.t 6), none, []⟩,
 ⟨none, .store 1 (.t 41) (.t 40), none, []⟩] [0, 2, 3, 4, 5, 6])
 (.seq (.seq (.region none [⟨some 43, .bin .eql (.t 31) (.c (.int .i64 18)), none, []⟩,
 ⟨some 42, .mov (.t 43), none, []⟩] [0, 2, 3, 4, 5, 6, 31, 42])
 (.cond (.t 42)
 (.skip)
 (.region none [⟨some 44, .bin .eql (.t 31) (.c (.int .i64 19)), none, []⟩,
 ⟨some 42, .mov (.t 44), none, []⟩] [0, 2, 3, 4, 5, 6, 42])))
 (.cond (.t 42)
 (.region none [⟨some 45, .mov (.t 5), none, []⟩,
 ⟨some 46, .bin .quo (.t 45) (.c (.int .i64 21)), none, []⟩,
 ⟨some 47, .mov (.t 0), none, []⟩,
 ⟨some 48, .len .sl (.t 47), none, []⟩,
 ⟨some 49, .min [(.t 48), (.c (.int .i64 24))], none, []⟩,
 ⟨some 50, .bin .rem (.t 46) (.t 49), none, []⟩,
 ⟨some 51, .fieldAddr 1 (.t 6), none, []⟩,
 ⟨none, .store 1 (.t 51) (.t 50), none, []⟩] [0, 2, 3, 4, 5, 6])
 (.skip)))))))
 (.seq (.seq (.region none [⟨some 52, .mov (.t 5), none, []⟩,
 ⟨some 53, .bin .quo (.t 52) (.c (.int .i64 21)), none, []⟩,
 ⟨some 54, .bin .rem (.t 53) (.c (.int .i64 37)), none, []⟩,
 ⟨some 55, .bin .eql (.t 54) (.c (.int .i64 36)), none, []⟩] [0, 2, 3, 4, 5, 6, 55])
 (.cond (.t 55)
 (.region none [⟨some 56, .mov (.t 5), none, []⟩,
 ⟨some 57, .bin .quo (.t 56) (.c (.int .i64 777)), none, []⟩,
 ⟨some 58, .bin .rem (.t 57) (.c (.int .i64 30)), none, []⟩,
 ⟨some 59, .bin .sub (.t 58) (.c (.int .i64 3)), none, []⟩,
 ⟨some 60, .fieldAddr 1 (.t 6), none, []⟩,
 ⟨none, .store 1 (.t 60) (.t 59), none, []⟩] [0, 2, 3, 4, 5, 6])
 (.skip)))
 (.seq (.seq (.region none [⟨some 61, .mov (.t 5), none, []⟩,
 ⟨some 62, .bin .quo (.t 61) (.c (.int .i64 21)), none, []⟩,
 ⟨some 63, .bin .rem (.t 62) (.c (.int .i64 41)), none, []⟩,
 ⟨some 64, .bin .eql (.t 63) (.c (.int .i64 40)), none, []⟩] [0, 2, 3, 4, 5, 6, 64])
 (.cond (.t 64)
 (.region none [⟨some 65, .mov (.t 5), none, []⟩,
 ⟨some 66, .bin .quo (.t 65) (.c (.int .i64 861)), none, []⟩,
 ⟨some 67, .bin .rem (.t 66) (.c (.int .i64 25)), none, []⟩,
 ⟨some 68, .fieldAddr 0 (.t 6), none, []⟩,
 ⟨none, .store 1 (.t 68) (.t 67), none, []⟩] [0, 2, 3, 4, 6])
 (.skip)))
 (.region none [⟨some 69, .fieldAddr 0 (.t 3), none, []⟩,
 ⟨some 70, .load false 1 (.t 69), none, []⟩,
 ⟨some 71, .load true 2 (.t 6), none, []⟩,
 ⟨some 72, .bslice 1 [(.lit (.int .i64 0)), (.lit (.int .i64 0))] [(0, 2, (.t 71))], none, []⟩,
 ⟨some 73, .append 2 16 (.t 70) (.t 72), none, []⟩,
 ⟨some 74, .fieldAddr 0 (.t 3), none, []⟩,
 ⟨none, .store 1 (.t 74) (.t 73), none, []⟩] [0, 2, 3, 4])))))))
 (.region none [⟨some 19, .mov (.t 4), none, []⟩,
 ⟨some 20, .bin .add (.t 19) (.c (.int .i64 1)), none, []⟩,
 ⟨some 4, .mov (.t 20), none, []⟩] [0, 2, 3, 4])))
def F121l0 : PC := F121l0x
theorem run_F121l0 (C : Task → Option Res) (k : Nat) (fr : Fr) (σ : S) : run C k F121l0 fr σ = run C k F121l0x fr σ := rfl
@[simp] def F121l1x : PC := (.seq (.seq (.region none [⟨some 75, .mov (.t 7), none, []⟩,
 ⟨some 76, .bin .lss (.t 75) (.c (.int .i64 3)), none, []⟩,
 ⟨some 77, .mov (.t 76), none, []⟩,
 ⟨some 78, .fieldAddr 0 (.t 3), some (77, true), []⟩,
 ⟨some 79, .load false 1 (.t 78), some (77, true), []⟩,
 ⟨some 80, .len .sl (.t 79), some (77, true), []⟩,
 ⟨some 81, .bin .gtr (.t 80) (.c (.int .i64 0)), some (77, true), []⟩,
 ⟨some 82, .pick (.t 77) (.t 81) (.c (.bool false)), none, []⟩] [0, 2, 3, 7, 82])
 (.cond (.t 82)
 (.skip)
 (.exit 3)))
 (.seq (.block 4 (.seq (.region none [⟨some 85, .mov (.t 0), none, []⟩,
 ⟨some 86, .mov (.t 7), none, []⟩,
 ⟨some 87, .mov (.t 0), none, []⟩,
 ⟨some 88, .len .sl (.t 87), none, []⟩,
 ⟨some 89, .bin .rem (.t 86) (.t 88), none, []⟩,
 ⟨some 90, .indexAddr 1 (.t 85) (.t 89), none, []⟩,
 ⟨some 91, .load false 1 (.t 90), none, []⟩,
 ⟨some 92, .call 17 [(.t 91), (.c (.int .i64 1000))], none, []⟩,
 ⟨some 8, .mov (.t 92), none, []⟩] [0, 2, 3, 7, 8])
 (.seq (.region none [⟨some 93, .mov (.t 7), none, []⟩,
 ⟨some 94, .mov (.t 8), none, []⟩,
 ⟨some 95, .bin .quo (.t 94) (.c (.int .i64 7)), none, []⟩,
 ⟨some 96, .fieldAddr 0 (.t 3), none, []⟩,
 ⟨some 97, .load false 1 (.t 96), none, []⟩,
 ⟨some 98, .len .sl (.t 97), none, []⟩,
 ⟨some 99, .bin .add (.t 98) (.c (.int .i64 2)), none, []⟩,
 ⟨some 100, .bin .rem (.t 95) (.t 99), none, []⟩,
 ⟨some 101, .bin .sub (.t 100) (.c (.int .i64 1)), none, []⟩,
 ⟨some 102, .fieldAddr 1 (.t 3), none, []⟩,
 ⟨some 103, .indexAddrA 3 1 (.t 102) (.t 93), none, []⟩,
 ⟨none, .store 1 (.t 103) (.t 101), none, []⟩] [0, 2, 3, 7, 8])
 (.seq (.region none [⟨some 104, .mov (.t 8), none, []⟩,
 ⟨some 105, .bin .rem (.t 104) (.c (.int .i64 7)), none, []⟩,
 ⟨some 106, .bin .lss (.t 105) (.c (.int .i64 3)), none, []⟩] [0, 2, 3, 7, 106])
 (.cond (.t 106)
 (.region none [⟨some 107, .mov (.t 7), none, []⟩,
 ⟨some 108, .mov (.t 7), none, []⟩,
 ⟨some 109, .fieldAddr 0 (.t 3), none, []⟩,
 ⟨some 110, .load false 1 (.t 109), none, []⟩,
 ⟨some 111, .len .sl (.t 110), none, []⟩,
 ⟨some 112, .bin .sub (.t 111) (.c (.int .i64 1)), none, []⟩,
 ⟨some 113, .min [(.t 108), (.t 112)], none, []⟩,
 ⟨some 114, .fieldAddr 1 (.t 3), none, []⟩,
 ⟨some 115, .indexAddrA 3 1 (.t 114) (.t 107), none, []⟩,
 ⟨none, .store 1 (.t 115) (.t 113), none, []⟩] [0, 2, 3, 7])
 (.skip))))))
 (.region none [⟨some 83, .mov (.t 7), none, []⟩,
 ⟨some 84, .bin .add (.t 83) (.c (.int .i64 1)), none, []⟩,
 ⟨some 7, .mov (.t 84), none, []⟩] [0, 2, 3, 7])))
def F121l1 : PC := F121l1x
theorem run_F121l1 (C : Task → Option Res) (k : Nat) (fr : Fr) (σ : S) : run C k F121l1 fr σ = run C k F121l1x fr σ := rfl
/-- arenanet/arenanetref15.Raw -/
def F121 : PFun := ⟨1, [.cell 2 true 4],
 .seq (.region none [⟨some 2, .alloc [(.lit (.slice none 0 0)), (.lit (.int .i64 0)), (.lit (.int .i64 0)), (.lit (.int .i64 0))], none, []⟩] [0, 2])
 (.seq (.region none [⟨some 9, .build [(.lit (.int .i64 0)), (.lit (.int .i64 0)), (.lit (.int .i64 0))] [(0, 1, (.c (.int .i64 (-1)))), (1, 1, (.c (.int .i64 (-1)))), (2, 1, (.c (.int .i64 (-1))))], none, []⟩,
 ⟨some 10, .build [(.lit (.slice none 0 0)), (.lit (.int .i64 0)), (.lit (.int .i64 0)), (.lit (.int .i64 0))] [(1, 3, (.t 9))], none, []⟩,
 ⟨some 3, .alloc [(.lit (.slice none 0 0)), (.lit (.int .i64 0)), (.lit (.int .i64 0)), (.lit (.int .i64 0))], none, []⟩,
 ⟨none, .store 4 (.t 3) (.t 10), none, []⟩] [0, 2, 3])
 (.seq (.seq (.region none [⟨some 4, .mov (.c (.int .i64 0)), none, []⟩] [0, 2, 3, 4])
 (.block 0 (.loop F121l0)))
 (.seq (.seq (.region none [⟨some 7, .mov (.c (.int .i64 0)), none, []⟩] [0, 2, 3, 7])
 (.block 3 (.loop F121l1)))
 (.seq (.region none [⟨some 116, .load true 4 (.t 3), none, []⟩,
 ⟨none, .store 4 (.t 2) (.t 116), none, []⟩] [2])
 (.ret))))), false, false, false⟩
@[simp] def F122l0x : PC := (.seq (.seq (.region none [⟨some 12, .mov (.t 6), none, []⟩,
 ⟨some 13, .bin .lss (.t 12) (.c (.int .i64 3)), none, []⟩] [1, 2, 4, 5, 6, 13])
 (.cond (.t 13)
 (.skip)
 (.exit 0)))
 (.seq (.block 1 (.seq (.seq (.region none [⟨some 16, .mov (.t 6), none, []⟩,
 ⟨some 17, .fieldAddr 0 (.t 1), none, []⟩,
 ⟨some 18, .indexAddrA 3 4 (.t 17) (.t 16), none, []⟩,
 ⟨some 19, .fieldAddr 0 (.t 18), none, []⟩,
 ⟨some 20, .load false 1 (.t 19), none, []⟩,
 ⟨some 21, .bin .eql (.t 20) (.c (.int .i64 0)), none, []⟩] [1, 2, 4, 5, 6, 21])
 (.cond (.t 21)
 (.exit 1)
 (.skip)))
 (.seq (.region none [⟨some 22, .mov (.t 6), none, []⟩,
 ⟨some 23, .fieldAddr 0 (.t 5), none, []⟩,
 ⟨some 24, .load false 1 (.t 23), none, []⟩,
 ⟨some 25, .len .sl (.t 24), none, []⟩,
 ⟨some 26, .fieldAddr 1 (.t 5), none, []⟩,
 ⟨some 27, .indexAddrA 3 1 (.t 26) (.t 22), none, []⟩,
 ⟨none, .store 1 (.t 27) (.t 25), none, []⟩] [1, 2, 4, 5, 6])
 (.seq (.region (some []) [⟨some 28, .fieldAddr 0 (.t 5), none, []⟩,
 ⟨some 29, .load false 1 (.t 28), none, [10]⟩,
 ⟨some 30, .mov (.t 6), none, []⟩,
 ⟨some 31, .fieldAddr 0 (.t 1), none, []⟩,
 ⟨some 32, .indexAddrA 3 4 (.t 31) (.t 30), none, []⟩,
 ⟨some 33, .load true 4 (.t 32), none, []⟩,
 ⟨some 34, .mov (.t 4), none, []⟩,
 ⟨some 35, .fieldAddr 0 (.t 5), none, []⟩,
 ⟨some 36, .load false 1 (.t 35), none, []⟩,
 ⟨some 37, .len .sl (.t 36), none, []⟩,
 ⟨some 38, .call 135 [(.t 33), (.t 34), (.t 37)], none, []⟩,
 ⟨some 39, .append 2 16 (.t 29) (.t 38), none, []⟩,
 ⟨some 40, .fieldAddr 0 (.t 5), none, []⟩,
 ⟨none, .store 1 (.t 40) (.t 39), none, []⟩] [1, 2, 4, 5, 6] [10])
 (.region none [⟨some 41, .fieldAddr 0 (.t 5), none, []⟩,
 ⟨some 42, .load false 1 (.t 41), none, []⟩,
 ⟨some 43, .build [(.lit (.int .i64 0)), (.lit (.int .i64 0))] [(0, 1, (.c (.int .i64 21)))], none, []⟩,
 ⟨some 44, .bslice 1 [(.lit (.int .i64 0)), (.lit (.int .i64 0))] [(0, 2, (.t 43))], none, []⟩,
 ⟨some 45, .append 2 16 (.t 42) (.t 44), none, []⟩,
 ⟨some 46, .fieldAddr 0 (.t 5), none, []⟩,
 ⟨none, .store 1 (.t 46) (.t 45), none, []⟩] [1, 2, 4, 5, 6])))))
 (.region none [⟨some 14, .mov (.t 6), none, []⟩,
 ⟨some 15, .bin .add (.t 14) (.c (.int .i64 1)), none, []⟩,
 ⟨some 6, .mov (.t 15), none, []⟩] [1, 2, 4, 5, 6])))
def F122l0 : PC := F122l0x
theorem run_F122l0 (C : Task → Option Res) (k : Nat) (fr : Fr) (σ : S) : run C k F122l0 fr σ = run C k F122l0x fr σ := rfl
@[simp] def F122l1x : PC := (.seq (.seq (.region none [⟨some 52, .mov (.t 7), none, []⟩,
 ⟨some 53, .bin .lss (.t 52) (.c (.int .i64 3)), none, []⟩] [2, 5, 7, 53])
 (.cond (.t 53)
 (.skip)
 (.exit 2)))
 (.seq (.block 3 (.seq (.region none [⟨some 56, .load true 4 (.t 5), none, []⟩,
 ⟨some 57, .mov (.t 7), none, []⟩,
 ⟨some 58, .call 129 [(.t 56), (.t 57)], none, []⟩,
 ⟨some 59, .bin .gtr (.t 58) (.c (.int .i64 16)), none, []⟩] [2, 5, 7, 59])
 (.cond (.t 59)
 (.seq (.region none [⟨some 60, .build [(.lit (.slice none 0 0)), (.lit (.int .i64 0)), (.lit (.int .i64 0)), (.lit (.int .i64 0))] [], none, []⟩,
 ⟨none, .store 4 (.t 2) (.t 60), none, []⟩,
 ⟨some 3, .mov (.c (.int .i64 15)), none, []⟩] [2, 3])
 (.ret))
 (.skip))))
 (.region none [⟨some 54, .mov (.t 7), none, []⟩,
 ⟨some 55, .bin .add (.t 54) (.c (.int .i64 1)), none, []⟩,
 ⟨some 7, .mov (.t 55), none, []⟩] [2, 5, 7])))
def F122l1 : PC := F122l1x
theorem run_F122l1 (C : Task → Option Res) (k : Nat) (fr : Fr) (σ : S) : run C k F122l1 fr σ = run C k F122l1x fr σ := rfl
/-- arenanet/arenanetref15.Compile -/
def F122 : PFun := ⟨1, [.cell 2 true 4, .tmp 3],
 .seq (.region none [⟨some 1, .box (.t 0), none, []⟩,
 ⟨some 2, .alloc [(.lit (.slice none 0 0)), (.lit (.int .i64 0)), (.lit (.int .i64 0)), (.lit (.int .i64 0))], none, []⟩,
 ⟨some 3, .mov (.c (.int .i64 0)), none, []⟩] [1, 2])
 (.seq (.region none [⟨some 8, .load true 12 (.t 1), none, []⟩,
 ⟨some 9, .call 16 [(.t 8)], none, []⟩,
 ⟨some 4, .mov (.t 9), none, []⟩] [1, 2, 4])
 (.seq (.region none [⟨some 10, .build [(.lit (.int .i64 0)), (.lit (.int .i64 0)), (.lit (.int .i64 0))] [(0, 1, (.c (.int .i64 (-1)))), (1, 1, (.c (.int .i64 (-1)))), (2, 1, (.c (.int .i64 (-1))))], none, []⟩,
 ⟨some 11, .build [(.lit (.slice none 0 0)), (.lit (.int .i64 0)), (.lit (.int .i64 0)), (.lit (.int .i64 0))] [(1, 3, (.t 10))], none, []⟩,
 ⟨some 5, .alloc [(.lit (.slice none 0 0)), (.lit (.int .i64 0)), (.lit (.int .i64 0)), (.lit (.int .i64 0))], none, []⟩,
 ⟨none, .store 4 (.t 5) (.t 11), none, []⟩] [1, 2, 4, 5])
 (.seq (.seq (.region none [⟨some 6, .mov (.c (.int .i64 0)), none, []⟩] [1, 2, 4, 5, 6])
 (.block 0 (.loop F122l0)))
 (.seq (.seq (.region none [⟨some 47, .fieldAddr 0 (.t 5), none, []⟩,
 ⟨some 48, .load false 1 (.t 47), none, []⟩,
 ⟨some 49, .len .sl (.t 48), none, []⟩,
 ⟨some 50, .bin .gtr (.t 49) (.c (.int .i64 400)), none, []⟩] [2, 5, 50])
 (.cond (.t 50)
 (.seq (.region none [⟨some 51, .build [(.lit (.slice none 0 0)), (.lit (.int .i64 0)), (.lit (.int .i64 0)), (.lit (.int .i64 0))] [], none, []⟩,
 ⟨none, .store 4 (.t 2) (.t 51), none, []⟩,
 ⟨some 3, .mov (.c (.int .i64 2)), none, []⟩] [2, 3])
 (.ret))
 (.skip)))
 (.seq (.seq (.region none [⟨some 7, .mov (.c (.int .i64 0)), none, []⟩] [2, 5, 7])
 (.block 2 (.loop F122l1)))
 (.seq (.region none [⟨some 61, .load true 4 (.t 5), none, []⟩,
 ⟨none, .store 4 (.t 2) (.t 61), none, []⟩,
 ⟨some 3, .mov (.c (.int .i64 0)), none, []⟩] [2, 3])
 (.ret))))))), false, false, false⟩
@[simp] def F123l0x : PC := (.seq (.seq (.region none [⟨some 10, .mov (.t 5), none, []⟩,
 ⟨some 11, .bin .lss (.t 10) (.c (.int .i64 3)), none, []⟩] [2, 3, 4, 5, 11])
 (.cond (.t 11)
 (.skip)
 (.exit 0)))
 (.seq (.block 1 (.seq (.region none [⟨some 14, .mov (.t 3), none, []⟩,
 ⟨some 15, .call 136 [(.t 14), (.c (.int .i64 4))], none, []⟩,
 ⟨some 16, .bin .gtr (.t 15) (.c (.int .i64 0)), none, []⟩] [2, 3, 4, 5, 16])
 (.cond (.t 16)
 (.region none [⟨some 17, .mov (.t 5), none, []⟩,
 ⟨some 18, .mov (.t 3), none, []⟩,
 ⟨some 19, .call 137 [(.t 18), (.c (.int .i64 2)), (.c (.int .i64 3))], none, []⟩,
 ⟨some 20, .fieldAddr 0 (.t 4), none, []⟩,
 ⟨some 21, .indexAddrA 3 4 (.t 20) (.t 17), none, []⟩,
 ⟨none, .store 4 (.t 21) (.t 19), none, []⟩] [2, 3, 4, 5])
 (.skip))))
 (.region none [⟨some 12, .mov (.t 5), none, []⟩,
 ⟨some 13, .bin .add (.t 12) (.c (.int .i64 1)), none, []⟩,
 ⟨some 5, .mov (.t 13), none, []⟩] [2, 3, 4, 5])))
def F123l0 : PC := F123l0x
theorem run_F123l0 (C : Task → Option Res) (k : Nat) (fr : Fr) (σ : S) : run C k F123l0 fr σ = run C k F123l0x fr σ := rfl
/-- arenanet/arenanetref13.Program -/
def F123 : PFun := ⟨1, [.cell 2 true 12],
 .seq (.region none [⟨some 2, .alloc [(.lit (.int .i64 0)), (.lit (.int .i64 0)), (.lit (.string ⟨#[]⟩)), (.lit (.slice none 0 0)), (.lit (.int .i64 0)), (.lit (.int .i64 0)), (.lit (.string ⟨#[]⟩)), (.lit (.slice none 0 0)), (.lit (.int .i64 0)), (.lit (.int .i64 0)), (.lit (.string ⟨#[]⟩)), (.lit (.slice none 0 0))], none, []⟩] [0, 2])
 (.seq (.region none [⟨some 6, .mov (.t 0), none, []⟩,
 ⟨some 7, .call 23 [(.t 6), (.c (.int .i64 60))], none, []⟩,
 ⟨some 8, .build [(.lit (.slice none 0 0)), (.lit (.int .i64 0))] [(0, 1, (.t 7))], none, []⟩,
 ⟨some 9, .box (.t 8), none, []⟩,
 ⟨some 3, .mov (.t 9), none, []⟩] [2, 3])
 (.seq (.region none [⟨some 4, .alloc [(.lit (.int .i64 0)), (.lit (.int .i64 0)), (.lit (.string ⟨#[]⟩)), (.lit (.slice none 0 0)), (.lit (.int .i64 0)), (.lit (.int .i64 0)), (.lit (.string ⟨#[]⟩)), (.lit (.slice none 0 0)), (.lit (.int .i64 0)), (.lit (.int .i64 0)), (.lit (.string ⟨#[]⟩)), (.lit (.slice none 0 0))], none, []⟩] [2, 3, 4])
 (.seq (.seq (.region none [⟨some 5, .mov (.c (.int .i64 0)), none, []⟩] [2, 3, 4, 5])
 (.block 0 (.loop F123l0)))
 (.seq (.region none [⟨some 22, .load true 12 (.t 4), none, []⟩,
 ⟨none, .store 12 (.t 2) (.t 22), none, []⟩] [2])
 (.ret))))), false, false, false⟩
/-- arenanet/arenanetref15.Bent -/
def F124 : PFun := ⟨3, [.cell 6 true 4],
 .seq (.region none [⟨some 3, .box (.t 0), none, []⟩,
 ⟨some 6, .alloc [(.lit (.slice none 0 0)), (.lit (.int .i64 0)), (.lit (.int .i64 0)), (.lit (.int .i64 0))], none, []⟩] [1, 2, 3, 6])
 (.seq (.region none [⟨some 9, .bslice 0 [] [], none, []⟩,
 ⟨some 10, .fieldAddr 0 (.t 3), none, []⟩,
 ⟨some 11, .load false 1 (.t 10), none, []⟩,
 ⟨some 12, .appendO 2 16 (.t 9) (.t 11), none, []⟩,
 ⟨some 13, .fieldAddr 0 (.t 3), none, []⟩,
 ⟨none, .store 1 (.t 13) (.t 12), none, []⟩] [1, 2, 3, 6])
 (.seq (.region none [⟨some 14, .mov (.t 2), none, []⟩,
 ⟨some 15, .call 17 [(.t 14), (.c (.int .i64 1000000))], none, []⟩,
 ⟨some 7, .mov (.t 15), none, []⟩] [1, 3, 6, 7])
 (.seq (.seq (.region none [⟨some 16, .fieldAddr 0 (.t 3), none, []⟩,
 ⟨some 17, .load false 1 (.t 16), none, []⟩,
 ⟨some 18, .len .sl (.t 17), none, []⟩,
 ⟨some 19, .bin .eql (.t 18) (.c (.int .i64 0)), none, []⟩,
 ⟨some 20, .mov (.t 19), none, []⟩,
 ⟨some 21, .mov (.t 1), some (20, false), []⟩,
 ⟨some 22, .call 17 [(.t 21), (.c (.int .i64 9))], some (20, false), []⟩,
 ⟨some 23, .bin .eql (.t 22) (.c (.int .i64 8)), some (20, false), []⟩,
 ⟨some 24, .pick (.t 20) (.c (.bool true)) (.t 23), none, []⟩] [1, 3, 6, 7, 24])
 (.cond (.t 24)
 (.seq (.region none [⟨some 25, .mov (.t 7), none, []⟩,
 ⟨some 26, .bin .rem (.t 25) (.c (.int .i64 3)), none, []⟩,
 ⟨some 27, .mov (.t 7), none, []⟩,
 ⟨some 28, .bin .quo (.t 27) (.c (.int .i64 3)), none, []⟩,
 ⟨some 29, .fieldAddr 0 (.t 3), none, []⟩,
 ⟨some 30, .load false 1 (.t 29), none, []⟩,
 ⟨some 31, .len .sl (.t 30), none, []⟩,
 ⟨some 32, .bin .add (.t 31) (.c (.int .i64 3)), none, []⟩,
 ⟨some 33, .bin .rem (.t 28) (.t 32), none, []⟩,
 ⟨some 34, .bin .sub (.t 33) (.c (.int .i64 2)), none, []⟩,
 ⟨some 35, .fieldAddr 1 (.t 3), none, []⟩,
 ⟨some 36, .indexAddrA 3 1 (.t 35) (.t 26), none, []⟩,
 ⟨none, .store 1 (.t 36) (.t 34), none, []⟩] [3, 6])
 (.seq (.region none [⟨some 37, .load true 4 (.t 3), none, []⟩,
 ⟨none, .store 4 (.t 6) (.t 37), none, []⟩] [6])
 (.ret)))
 (.skip)))
 (.seq (.region none [⟨some 38, .mov (.t 1), none, []⟩,
 ⟨some 39, .bin .quo (.t 38) (.c (.int .i64 9)), none, []⟩,
 ⟨some 40, .fieldAddr 0 (.t 3), none, []⟩,
 ⟨some 41, .load false 1 (.t 40), none, []⟩,
 ⟨some 42, .len .sl (.t 41), none, []⟩,
 ⟨some 43, .call 17 [(.t 39), (.t 42)], none, []⟩,
 ⟨some 8, .mov (.t 43), none, []⟩] [1, 3, 6, 7, 8])
 (.seq (.seq (.region none [⟨some 44, .mov (.t 1), none, []⟩,
 ⟨some 45, .call 17 [(.t 44), (.c (.int .i64 9))], none, []⟩] [3, 6, 7, 8, 45])
 (.block 0 (.seq (.seq (.region none [⟨some 52, .bin .eql (.t 45) (.c (.int .i64 0)), none, []⟩,
 ⟨some 51, .mov (.t 52), none, []⟩] [3, 6, 7, 8, 45, 51])
 (.cond (.t 51)
 (.skip)
 (.seq (.region none [⟨some 53, .bin .eql (.t 45) (.c (.int .i64 1)), none, []⟩,
 ⟨some 51, .mov (.t 53), none, []⟩] [3, 6, 7, 8, 45, 51])
 (.cond (.t 51)
 (.skip)
 (.seq (.region none [⟨some 54, .bin .eql (.t 45) (.c (.int .i64 2)), none, []⟩,
 ⟨some 51, .mov (.t 54), none, []⟩] [3, 6, 7, 8, 45, 51])
 (.cond (.t 51)
 (.skip)
 (.region none [⟨some 55, .bin .eql (.t 45) (.c (.int .i64 3)), none, []⟩,
 ⟨some 51, .mov (.t 55), none, []⟩] [3, 6, 7, 8, 45, 51])))))))
 (.cond (.t 51)
 (.region (some []) [⟨some 56, .fieldAddr 0 (.t 3), none, []⟩,
 ⟨some 57, .load false 1 (.t 56), none, []⟩,
 ⟨some 58, .mov (.t 8), none, []⟩,
 ⟨some 59, .mov (.t 7), none, []⟩,
 ⟨some 60, .fieldAddr 0 (.t 3), none, []⟩,
 ⟨some 61, .load false 1 (.t 60), none, []⟩,
 ⟨some 62, .len .sl (.t 61), none, []⟩,
 ⟨some 63, .bin .add (.t 62) (.c (.int .i64 2)), none, []⟩,
 ⟨some 64, .bin .rem (.t 59) (.t 63), none, []⟩,
 ⟨some 65, .bin .sub (.t 64) (.c (.int .i64 1)), none, []⟩,
 ⟨some 66, .indexAddr 2 (.t 57) (.t 58), none, []⟩,
 ⟨some 67, .fieldAddr 1 (.t 66), none, []⟩,
 ⟨none, .store 1 (.t 67) (.t 65), none, []⟩] [3, 6])
 (.seq (.seq (.region none [⟨some 69, .bin .eql (.t 45) (.c (.int .i64 4)), none, []⟩,
 ⟨some 68, .mov (.t 69), none, []⟩] [3, 6, 7, 8, 45, 68])
 (.cond (.t 68)
 (.skip)
 (.region none [⟨some 70, .bin .eql (.t 45) (.c (.int .i64 5)), none, []⟩,
 ⟨some 68, .mov (.t 70), none, []⟩] [3, 6, 7, 8, 45, 68])))
 (.cond (.t 68)
 (.region none [⟨some 71, .fieldAddr 0 (.t 3), none, []⟩,
 ⟨some 72, .load false 1 (.t 71), none, []⟩,
 ⟨some 73, .mov (.t 8), none, []⟩,
 ⟨some 74, .mov (.t 7), none, []⟩,
 ⟨some 75, .bin .rem (.t 74) (.c (.int .i64 23)), none, []⟩,
 ⟨some 76, .indexAddr 2 (.t 72) (.t 73), none, []⟩,
 ⟨some 77, .fieldAddr 0 (.t 76), none, []⟩,
 ⟨none, .store 1 (.t 77) (.t 75), none, []⟩] [3, 6])
 (.seq (.region none [⟨some 79, .bin .eql (.t 45) (.c (.int .i64 6)), none, []⟩,
 ⟨some 78, .mov (.t 79), none, []⟩] [3, 6, 7, 8, 78])
 (.cond (.t 78)
 (.region none [⟨some 80, .fieldAddr 0 (.t 3), none, []⟩,
 ⟨some 81, .load false 1 (.t 80), none, []⟩,
 ⟨some 82, .mov (.t 8), none, []⟩,
 ⟨some 83, .mov (.t 7), none, []⟩,
 ⟨some 84, .bin .rem (.t 83) (.c (.int .i64 21)), none, []⟩,
 ⟨some 85, .bin .add (.c (.int .i64 1)) (.t 84), none, []⟩,
 ⟨some 86, .build [(.lit (.int .i64 0)), (.lit (.int .i64 0))] [(0, 1, (.t 85))], none, []⟩,
 ⟨some 87, .indexAddr 2 (.t 81) (.t 82), none, []⟩,
 ⟨none, .store 2 (.t 87) (.t 86), none, []⟩] [3, 6])
 (.region none [⟨some 46, .fieldAddr 0 (.t 3), none, []⟩,
 ⟨some 47, .load false 1 (.t 46), none, []⟩,
 ⟨some 48, .mov (.t 8), none, []⟩,
 ⟨some 49, .cut 2 (.t 47) none (some (.t 48)), none, []⟩,
 ⟨some 50, .fieldAddr 0 (.t 3), none, []⟩,
 ⟨none, .store 1 (.t 50) (.t 49), none, []⟩] [3, 6])))))))))
 (.seq (.region none [⟨some 88, .load true 4 (.t 3), none, []⟩,
 ⟨none, .store 4 (.t 6) (.t 88), none, []⟩] [6])
 (.ret))))))), false, false, false⟩
@[simp] def F125l0x : PC := (.seq (.region none [⟨some 19, .bin .lss (.t 18) (.t 17), none, []⟩] [1, 16, 17, 18, 19])
 (.seq (.cond (.t 19)
 (.skip)
 (.exit 0))
 (.seq (.block 1 (.seq (.region none [⟨some 20, .indexAddr 2 (.t 16) (.t 18), none, []⟩,
 ⟨some 21, .load true 2 (.t 20), none, []⟩,
 ⟨some 4, .alloc [(.lit (.int .i64 0)), (.lit (.int .i64 0))], none, []⟩,
 ⟨none, .store 2 (.t 4) (.t 21), none, []⟩] [1, 4, 16, 17, 18])
 (.seq (.region none [⟨some 22, .load true 2 (.t 4), none, []⟩,
 ⟨some 23, .fieldAddr 0 (.t 1), none, []⟩,
 ⟨some 24, .load false 1 (.t 23), none, []⟩,
 ⟨some 25, .len .sl (.t 24), none, []⟩,
 ⟨some 26, .call 138 [(.t 22), (.t 25)], none, []⟩,
 ⟨some 27, .un .not (.t 26), none, []⟩] [1, 16, 17, 18, 27])
 (.cond (.t 27)
 (.seq (.region none [⟨some 2, .mov (.c (.int .i64 14)), none, []⟩] [2])
 (.ret))
 (.skip)))))
 (.region none [⟨some 28, .bin .add (.t 18) (.c (.int .i64 1)), none, []⟩,
 ⟨some 18, .mov (.t 28), none, []⟩] [1, 16, 17, 18]))))
def F125l0 : PC := F125l0x
theorem run_F125l0 (C : Task → Option Res) (k : Nat) (fr : Fr) (σ : S) : run C k F125l0 fr σ = run C k F125l0x fr σ := rfl
@[simp] def F125l1x : PC := (.seq (.region none [⟨some 32, .bin .lss (.t 31) (.c (.int .i64 3)), none, []⟩] [1, 30, 31, 32])
 (.seq (.cond (.t 32)
 (.skip)
 (.exit 2))
 (.seq (.block 3 (.seq (.region none [⟨some 33, .indexA false 3 1 (.t 30) (.t 31), none, []⟩,
 ⟨some 6, .mov (.t 33), none, []⟩] [1, 6, 30, 31])
 (.seq (.region none [⟨some 34, .mov (.t 6), none, []⟩,
 ⟨some 35, .bin .lss (.t 34) (.c (.int .i64 (-1))), none, []⟩,
 ⟨some 36, .mov (.t 35), none, []⟩,
 ⟨some 37, .mov (.t 6), some (36, false), []⟩,
 ⟨some 38, .fieldAddr 0 (.t 1), some (36, false), []⟩,
 ⟨some 39, .load false 1 (.t 38), some (36, false), []⟩,
 ⟨some 40, .len .sl (.t 39), some (36, false), []⟩,
 ⟨some 41, .bin .geq (.t 37) (.t 40), some (36, false), []⟩,
 ⟨some 42, .pick (.t 36) (.c (.bool true)) (.t 41), none, []⟩] [1, 30, 31, 42])
 (.cond (.t 42)
 (.seq (.region none [⟨some 2, .mov (.c (.int .i64 14)), none, []⟩] [2])
 (.ret))
 (.skip)))))
 (.region none [⟨some 43, .bin .add (.t 31) (.c (.int .i64 1)), none, []⟩,
 ⟨some 31, .mov (.t 43), none, []⟩] [1, 30, 31]))))
def F125l1 : PC := F125l1x
theorem run_F125l1 (C : Task → Option Res) (k : Nat) (fr : Fr) (σ : S) : run C k F125l1 fr σ = run C k F125l1x fr σ := rfl
@[simp] def F125l2x : PC := (.seq (.region none [⟨some 47, .bin .lss (.t 46) (.c (.int .i64 3)), none, []⟩] [1, 7, 45, 46, 47])
 (.seq (.cond (.t 47)
 (.skip)
 (.exit 4))
 (.seq (.block 5 (.seq (.region none [⟨some 48, .indexA false 3 1 (.t 45) (.t 46), none, []⟩,
 ⟨some 9, .mov (.t 48), none, []⟩] [1, 7, 9, 45, 46])
 (.seq (.seq (.region none [⟨some 49, .mov (.t 9), none, []⟩,
 ⟨some 50, .bin .lss (.t 49) (.c (.int .i64 0)), none, []⟩] [1, 7, 9, 45, 46, 50])
 (.cond (.t 50)
 (.exit 5)
 (.skip)))
 (.seq (.region none [⟨some 51, .load true 4 (.t 1), none, []⟩,
 ⟨some 52, .mov (.t 9), none, []⟩,
 ⟨some 53, .call 139 [(.t 51), (.t 52)], none, []⟩,
 ⟨some 10, .alloc [(.lit (.bool false)), (.lit (.bool false)), (.lit (.int .i64 0))], none, []⟩,
 ⟨none, .store 3 (.t 10) (.t 53), none, []⟩] [1, 7, 10, 45, 46])
 (.seq (.seq (.region none [⟨some 54, .fieldAddr 0 (.t 10), none, []⟩,
 ⟨some 55, .load false 1 (.t 54), none, []⟩] [1, 7, 10, 45, 46, 55])
 (.cond (.t 55)
 (.seq (.region none [⟨some 2, .mov (.c (.int .i64 14)), none, []⟩] [2])
 (.ret))
 (.skip)))
 (.seq (.region none [⟨some 56, .load true 3 (.t 10), none, []⟩,
 ⟨some 57, .call 140 [(.t 56)], none, []⟩,
 ⟨some 58, .un .not (.t 57), none, []⟩] [1, 7, 45, 46, 58])
 (.cond (.t 58)
 (.region none [⟨some 7, .mov (.c (.int .i64 15)), none, []⟩] [1, 7, 45, 46])
 (.skip))))))))
 (.region none [⟨some 59, .bin .add (.t 46) (.c (.int .i64 1)), none, []⟩,
 ⟨some 46, .mov (.t 59), none, []⟩] [1, 7, 45, 46]))))
def F125l2 : PC := F125l2x
theorem run_F125l2 (C : Task → Option Res) (k : Nat) (fr : Fr) (σ : S) : run C k F125l2 fr σ = run C k F125l2x fr σ := rfl
/-- arenanet/compile.Verify -/
def F125 : PFun := ⟨1, [.tmp 2],
 .seq (.region none [⟨some 1, .box (.t 0), none, []⟩,
 ⟨some 2, .mov (.c (.int .i64 0)), none, []⟩] [1])
 (.seq (.seq (.region none [⟨some 11, .fieldAddr 0 (.t 1), none, []⟩,
 ⟨some 12, .load false 1 (.t 11), none, []⟩,
 ⟨some 13, .len .sl (.t 12), none, []⟩,
 ⟨some 14, .bin .gtr (.t 13) (.c (.int .i64 400)), none, []⟩] [1, 14])
 (.cond (.t 14)
 (.seq (.region none [⟨some 2, .mov (.c (.int .i64 2)), none, []⟩] [2])
 (.ret))
 (.skip)))
 (.seq (.seq (.region none [⟨some 15, .fieldAddr 0 (.t 1), none, []⟩,
 ⟨some 16, .load false 1 (.t 15), none, []⟩,
 ⟨some 17, .len .sl (.t 16), none, []⟩,
 ⟨some 18, .mov (.c (.int .i64 0)), none, []⟩] [1, 16, 17, 18])
 (.block 0 (.loop F125l0)))
 (.seq (.seq (.region none [⟨some 29, .fieldAddr 1 (.t 1), none, []⟩,
 ⟨some 30, .load true 3 (.t 29), none, []⟩,
 ⟨some 31, .mov (.c (.int .i64 0)), none, []⟩] [1, 30, 31])
 (.block 2 (.loop F125l1)))
 (.seq (.region none [⟨some 7, .mov (.c (.int .i64 0)), none, []⟩] [1, 7])
 (.seq (.seq (.region none [⟨some 44, .fieldAddr 1 (.t 1), none, []⟩,
 ⟨some 45, .load true 3 (.t 44), none, []⟩,
 ⟨some 46, .mov (.c (.int .i64 0)), none, []⟩] [1, 7, 45, 46])
 (.block 4 (.loop F125l2)))
 (.seq (.region none [⟨some 60, .mov (.t 7), none, []⟩,
 ⟨some 2, .mov (.t 60), none, []⟩] [2])
 (.ret))))))), false, false, false⟩
@[simp] def F126l0x : PC := (.seq (.seq (.region none [⟨some 16, .mov (.t 4), none, []⟩,
 ⟨some 17, .mov (.t 3), none, []⟩,
 ⟨some 18, .bin .lss (.t 16) (.t 17), none, []⟩] [1, 3, 4, 18])
 (.cond (.t 18)
 (.skip)
 (.exit 0)))
 (.seq (.block 1 (.seq (.region none [⟨some 21, .fieldAddr 0 (.t 1), none, []⟩,
 ⟨some 22, .load false 1 (.t 21), none, []⟩,
 ⟨some 23, .mov (.t 4), none, []⟩,
 ⟨some 24, .indexAddr 2 (.t 22) (.t 23), none, []⟩,
 ⟨some 25, .load true 2 (.t 24), none, []⟩,
 ⟨some 26, .mov (.t 3), none, []⟩,
 ⟨some 27, .call 141 [(.t 25), (.t 26)], none, []⟩,
 ⟨some 5, .mov (.t 27), none, []⟩] [1, 3, 4, 5])
 (.seq (.region none [⟨some 28, .mov (.t 5), none, []⟩,
 ⟨some 29, .un .not (.t 28), none, []⟩] [1, 3, 4, 29])
 (.cond (.t 29)
 (.seq (.region none [⟨some 2, .mov (.c (.int .i64 14)), none, []⟩] [2])
 (.ret))
 (.skip)))))
 (.region none [⟨some 19, .mov (.t 4), none, []⟩,
 ⟨some 20, .bin .add (.t 19) (.c (.int .i64 1)), none, []⟩,
 ⟨some 4, .mov (.t 20), none, []⟩] [1, 3, 4])))
def F126l0 : PC := F126l0x
theorem run_F126l0 (C : Task → Option Res) (k : Nat) (fr : Fr) (σ : S) : run C k F126l0 fr σ = run C k F126l0x fr σ := rfl
@[simp] def F126l1x : PC := (.seq (.seq (.region none [⟨some 30, .mov (.t 6), none, []⟩,
 ⟨some 31, .bin .lss (.t 30) (.c (.int .i64 3)), none, []⟩] [1, 3, 6, 31])
 (.cond (.t 31)
 (.skip)
 (.exit 2)))
 (.seq (.block 3 (.seq (.region none [⟨some 34, .mov (.t 6), none, []⟩,
 ⟨some 35, .fieldAddr 1 (.t 1), none, []⟩,
 ⟨some 36, .indexAddrA 3 1 (.t 35) (.t 34), none, []⟩,
 ⟨some 37, .load false 1 (.t 36), none, []⟩,
 ⟨some 38, .bin .lss (.t 37) (.c (.int .i64 (-1))), none, []⟩,
 ⟨some 39, .mov (.t 38), none, []⟩,
 ⟨some 40, .mov (.t 6), some (39, false), []⟩,
 ⟨some 41, .fieldAddr 1 (.t 1), some (39, false), []⟩,
 ⟨some 42, .indexAddrA 3 1 (.t 41) (.t 40), some (39, false), []⟩,
 ⟨some 43, .load false 1 (.t 42), some (39, false), []⟩,
 ⟨some 44, .mov (.t 3), some (39, false), []⟩,
 ⟨some 45, .bin .geq (.t 43) (.t 44), some (39, false), []⟩,
 ⟨some 46, .pick (.t 39) (.c (.bool true)) (.t 45), none, []⟩] [1, 3, 6, 46])
 (.cond (.t 46)
 (.seq (.region none [⟨some 2, .mov (.c (.int .i64 14)), none, []⟩] [2])
 (.ret))
 (.skip))))
 (.region none [⟨some 32, .mov (.t 6), none, []⟩,
 ⟨some 33, .bin .add (.t 32) (.c (.int .i64 1)), none, []⟩,
 ⟨some 6, .mov (.t 33), none, []⟩] [1, 3, 6])))
def F126l1 : PC := F126l1x
theorem run_F126l1 (C : Task → Option Res) (k : Nat) (fr : Fr) (σ : S) : run C k F126l1 fr σ = run C k F126l1x fr σ := rfl
@[simp] def F126l2x : PC := (.seq (.seq (.region none [⟨some 47, .mov (.t 8), none, []⟩,
 ⟨some 48, .bin .lss (.t 47) (.c (.int .i64 3)), none, []⟩] [1, 3, 7, 8, 48])
 (.cond (.t 48)
 (.skip)
 (.exit 4)))
 (.seq (.block 5 (.seq (.region (some []) [⟨some 52, .load true 4 (.t 1), none, []⟩,
 ⟨some 53, .mov (.t 8), none, []⟩,
 ⟨some 54, .fieldAddr 1 (.t 1), none, []⟩,
 ⟨some 55, .indexAddrA 3 1 (.t 54) (.t 53), none, []⟩,
 ⟨some 56, .load false 1 (.t 55), none, []⟩,
 ⟨some 57, .call 142 [(.t 52), (.t 56)], none, []⟩,
 ⟨some 51, .mov (.t 57), none, []⟩,
 ⟨some 58, .extract (.t 51) 0, none, []⟩,
 ⟨some 59, .extract (.t 51) 1, none, []⟩,
 ⟨some 9, .mov (.t 58), none, []⟩,
 ⟨some 10, .mov (.t 59), none, []⟩] [1, 3, 7, 8, 9, 10] [5])
 (.seq (.seq (.region none [⟨some 60, .mov (.t 3), none, []⟩,
 ⟨some 61, .bin .gtr (.t 60) (.c (.int .i64 0)), none, []⟩,
 ⟨some 62, .mov (.t 61), none, []⟩,
 ⟨some 63, .mov (.t 8), some (62, true), []⟩,
 ⟨some 64, .fieldAddr 1 (.t 1), some (62, true), []⟩,
 ⟨some 65, .indexAddrA 3 1 (.t 64) (.t 63), some (62, true), []⟩,
 ⟨some 66, .load false 1 (.t 65), some (62, true), []⟩,
 ⟨some 67, .bin .geq (.t 66) (.c (.int .i64 0)), some (62, true), []⟩,
 ⟨some 68, .pick (.t 62) (.t 67) (.c (.bool false)), none, []⟩,
 ⟨some 69, .mov (.t 68), none, []⟩,
 ⟨some 70, .mov (.t 9), some (69, true), []⟩,
 ⟨some 71, .mov (.t 3), some (69, true), []⟩,
 ⟨some 72, .bin .sub (.t 71) (.c (.int .i64 1)), some (69, true), []⟩,
 ⟨some 73, .indexAddr 1 (.t 70) (.t 72), some (69, true), []⟩,
 ⟨some 74, .load false 1 (.t 73), some (69, true), []⟩,
 ⟨some 75, .bin .geq (.t 74) (.c (.int .i64 0)), some (69, true), []⟩,
 ⟨some 76, .pick (.t 69) (.t 75) (.c (.bool false)), none, []⟩,
 ⟨some 77, .mov (.t 76), none, []⟩,
 ⟨some 78, .load true 4 (.t 1), some (77, true), []⟩,
 ⟨some 79, .mov (.t 3), some (77, true), []⟩,
 ⟨some 80, .bin .sub (.t 79) (.c (.int .i64 1)), some (77, true), []⟩,
 ⟨some 81, .call 144 [(.t 78), (.t 80)], some (77, true), []⟩,
 ⟨some 82, .mov (.t 3), some (77, true), []⟩,
 ⟨some 83, .call 143 [(.t 81), (.t 82)], some (77, true), []⟩,
 ⟨some 84, .pick (.t 77) (.t 83) (.c (.bool false)), none, []⟩] [1, 3, 7, 8, 10, 84])
 (.cond (.t 84)
 (.seq (.region none [⟨some 2, .mov (.c (.int .i64 14)), none, []⟩] [2])
 (.ret))
 (.skip)))
 (.seq (.region none [⟨some 85, .mov (.t 10), none, []⟩,
 ⟨some 86, .un .not (.t 85), none, []⟩,
 ⟨some 87, .mov (.t 86), none, []⟩,
 ⟨some 88, .load true 4 (.t 1), some (87, false), []⟩,
 ⟨some 89, .mov (.t 8), some (87, false), []⟩,
 ⟨some 90, .call 129 [(.t 88), (.t 89)], some (87, false), []⟩,
 ⟨some 91, .bin .gtr (.t 90) (.c (.int .i64 16)), some (87, false), []⟩,
 ⟨some 92, .pick (.t 87) (.c (.bool true)) (.t 91), none, []⟩] [1, 3, 7, 8, 92])
 (.cond (.t 92)
 (.region none [⟨some 7, .mov (.c (.int .i64 15)), none, []⟩] [1, 3, 7, 8])
 (.skip))))))
 (.region none [⟨some 49, .mov (.t 8), none, []⟩,
 ⟨some 50, .bin .add (.t 49) (.c (.int .i64 1)), none, []⟩,
 ⟨some 8, .mov (.t 50), none, []⟩] [1, 3, 7, 8])))
def F126l2 : PC := F126l2x
theorem run_F126l2 (C : Task → Option Res) (k : Nat) (fr : Fr) (σ : S) : run C k F126l2 fr σ = run C k F126l2x fr σ := rfl
/-- arenanet/arenanetref15.Verify -/
def F126 : PFun := ⟨1, [.tmp 2],
 .seq (.region none [⟨some 1, .box (.t 0), none, []⟩,
 ⟨some 2, .mov (.c (.int .i64 0)), none, []⟩] [1])
 (.seq (.region none [⟨some 11, .fieldAddr 0 (.t 1), none, []⟩,
 ⟨some 12, .load false 1 (.t 11), none, []⟩,
 ⟨some 13, .len .sl (.t 12), none, []⟩,
 ⟨some 3, .mov (.t 13), none, []⟩] [1, 3])
 (.seq (.seq (.region none [⟨some 14, .mov (.t 3), none, []⟩,
 ⟨some 15, .bin .gtr (.t 14) (.c (.int .i64 400)), none, []⟩] [1, 3, 15])
 (.cond (.t 15)
 (.seq (.region none [⟨some 2, .mov (.c (.int .i64 2)), none, []⟩] [2])
 (.ret))
 (.skip)))
 (.seq (.seq (.region none [⟨some 4, .mov (.c (.int .i64 0)), none, []⟩] [1, 3, 4])
 (.block 0 (.loop F126l0)))
 (.seq (.seq (.region none [⟨some 6, .mov (.c (.int .i64 0)), none, []⟩] [1, 3, 6])
 (.block 2 (.loop F126l1)))
 (.seq (.region none [⟨some 7, .mov (.c (.int .i64 0)), none, []⟩] [1, 3, 7])
 (.seq (.seq (.region none [⟨some 8, .mov (.c (.int .i64 0)), none, []⟩] [1, 3, 7, 8])
 (.block 4 (.loop F126l2)))
 (.seq (.region none [⟨some 93, .mov (.t 7), none, []⟩,
 ⟨some 2, .mov (.t 93), none, []⟩] [2])
 (.ret)))))))), false, false, false⟩
/-- arenanet/arenanetlaw15.lives -/
def F127 : PFun := ⟨0, [.tmp 0],
 .seq (.region none [⟨some 0, .mov (.c (.bool false)), none, []⟩] [])
 (.seq (.region none [⟨some 8, .call 132 [(.c (.string ⟨#[111, 110, 32, 116, 105, 99, 107, 32, 123, 32, 125, 32, 111, 110, 32, 97, 99, 116, 32, 123, 32, 97, 49, 32, 61, 32, 49, 32, 43, 32, 50, 59, 32, 125]⟩))], none, []⟩,
 ⟨some 7, .mov (.t 8), none, []⟩,
 ⟨some 9, .extract (.t 7) 0, none, []⟩,
 ⟨some 10, .extract (.t 7) 1, none, []⟩,
 ⟨some 11, .extract (.t 7) 2, none, []⟩,
 ⟨some 1, .alloc [(.lit (.int .i64 0)), (.lit (.int .i64 0)), (.lit (.string ⟨#[]⟩)), (.lit (.slice none 0 0)), (.lit (.int .i64 0)), (.lit (.int .i64 0)), (.lit (.string ⟨#[]⟩)), (.lit (.slice none 0 0)), (.lit (.int .i64 0)), (.lit (.int .i64 0)), (.lit (.string ⟨#[]⟩)), (.lit (.slice none 0 0))], none, []⟩,
 ⟨none, .store 12 (.t 1) (.t 9), none, []⟩,
 ⟨some 2, .mov (.t 10), none, []⟩,
 ⟨some 3, .mov (.t 11), none, []⟩] [1, 3])
 (.seq (.region none [⟨some 13, .load true 12 (.t 1), none, []⟩,
 ⟨some 14, .call 131 [(.t 13)], none, []⟩,
 ⟨some 12, .mov (.t 14), none, []⟩,
 ⟨some 15, .extract (.t 12) 0, none, []⟩,
 ⟨some 16, .extract (.t 12) 1, none, []⟩,
 ⟨some 4, .alloc [(.lit (.slice none 0 0)), (.lit (.int .i64 0)), (.lit (.int .i64 0)), (.lit (.int .i64 0))], none, []⟩,
 ⟨none, .store 4 (.t 4) (.t 15), none, []⟩,
 ⟨some 5, .mov (.t 16), none, []⟩] [3, 4, 5])
 (.seq (.region none [⟨some 17, .build [(.lit (.int .i64 0)), (.lit (.int .i64 0))] [(0, 1, (.c (.int .i64 1))), (1, 1, (.c (.int .i64 1)))], none, []⟩,
 ⟨some 18, .build [(.lit (.int .i64 0)), (.lit (.int .i64 0))] [(0, 1, (.c (.int .i64 1))), (1, 1, (.c (.int .i64 2)))], none, []⟩,
 ⟨some 19, .build [(.lit (.int .i64 0)), (.lit (.int .i64 0))] [(0, 1, (.c (.int .i64 9)))], none, []⟩,
 ⟨some 20, .build [(.lit (.int .i64 0)), (.lit (.int .i64 0))] [(0, 1, (.c (.int .i64 3)))], none, []⟩,
 ⟨some 21, .build [(.lit (.int .i64 0)), (.lit (.int .i64 0))] [(0, 1, (.c (.int .i64 21)))], none, []⟩,
 ⟨some 22, .build [(.lit (.int .i64 0)), (.lit (.int .i64 0))] [(0, 1, (.c (.int .i64 21)))], none, []⟩,
 ⟨some 23, .bslice 6 [(.lit (.int .i64 0)), (.lit (.int .i64 0)), (.lit (.int .i64 0)), (.lit (.int .i64 0)), (.lit (.int .i64 0)), (.lit (.int .i64 0)), (.lit (.int .i64 0)), (.lit (.int .i64 0)), (.lit (.int .i64 0)), (.lit (.int .i64 0)), (.lit (.int .i64 0)), (.lit (.int .i64 0))] [(0, 2, (.t 17)), (2, 2, (.t 18)), (4, 2, (.t 19)), (6, 2, (.t 20)), (8, 2, (.t 21)), (10, 2, (.t 22))], none, []⟩,
 ⟨some 24, .build [(.lit (.int .i64 0)), (.lit (.int .i64 0)), (.lit (.int .i64 0))] [(0, 1, (.c (.int .i64 0))), (1, 1, (.c (.int .i64 5))), (2, 1, (.c (.int .i64 (-1))))], none, []⟩,
 ⟨some 25, .build [(.lit (.slice none 0 0)), (.lit (.int .i64 0)), (.lit (.int .i64 0)), (.lit (.int .i64 0))] [(0, 1, (.t 23)), (1, 3, (.t 24))], none, []⟩,
 ⟨some 6, .alloc [(.lit (.slice none 0 0)), (.lit (.int .i64 0)), (.lit (.int .i64 0)), (.lit (.int .i64 0))], none, []⟩,
 ⟨none, .store 4 (.t 6) (.t 25), none, []⟩] [3, 4, 5, 6])
 (.seq (.region none [⟨some 26, .mov (.t 3), none, []⟩,
 ⟨some 27, .bin .eql (.t 26) (.c (.int .i64 0)), none, []⟩,
 ⟨some 28, .mov (.t 27), none, []⟩,
 ⟨some 29, .mov (.t 5), some (28, true), []⟩,
 ⟨some 30, .bin .eql (.t 29) (.c (.int .i64 0)), some (28, true), []⟩,
 ⟨some 31, .pick (.t 28) (.t 30) (.c (.bool false)), none, []⟩,
 ⟨some 32, .mov (.t 31), none, []⟩,
 ⟨some 33, .load true 4 (.t 4), some (32, true), []⟩,
 ⟨some 34, .load true 4 (.t 6), some (32, true), []⟩,
 ⟨some 35, .call 133 [(.t 33), (.t 34)], some (32, true), []⟩,
 ⟨some 36, .pick (.t 32) (.t 35) (.c (.bool false)), none, []⟩,
 ⟨some 37, .mov (.t 36), none, []⟩,
 ⟨some 38, .load true 4 (.t 4), some (37, true), []⟩,
 ⟨some 39, .call 125 [(.t 38)], some (37, true), []⟩,
 ⟨some 40, .bin .eql (.t 39) (.c (.int .i64 0)), some (37, true), []⟩,
 ⟨some 41, .pick (.t 37) (.t 40) (.c (.bool false)), none, []⟩,
 ⟨some 42, .mov (.t 41), none, []⟩,
 ⟨some 43, .load true 4 (.t 4), some (42, true), []⟩,
 ⟨some 44, .call 128 [(.t 43), (.c (.int .i64 0))], some (42, true), []⟩,
 ⟨some 45, .bin .eql (.t 44) (.c (.int .i64 2)), some (42, true), []⟩,
 ⟨some 46, .pick (.t 42) (.t 45) (.c (.bool false)), none, []⟩,
 ⟨some 47, .mov (.t 46), none, []⟩,
 ⟨some 48, .load true 4 (.t 4), some (47, true), []⟩,
 ⟨some 49, .call 128 [(.t 48), (.c (.int .i64 2))], some (47, true), []⟩,
 ⟨some 50, .bin .eql (.t 49) (.c (.int .i64 0)), some (47, true), []⟩,
 ⟨some 51, .pick (.t 47) (.t 50) (.c (.bool false)), none, []⟩,
 ⟨some 0, .mov (.t 51), none, []⟩] [0])
 (.ret))))), false, false, false⟩
/-- arenanet/compile.Depth -/
def F128 : PFun := ⟨2, [.tmp 4],
 .seq (.region none [⟨some 2, .box (.t 0), none, []⟩,
 ⟨some 4, .mov (.c (.int .i64 0)), none, []⟩] [1, 2])
 (.seq (.seq (.region none [⟨some 5, .mov (.t 1), none, []⟩,
 ⟨some 6, .bin .lss (.t 5) (.c (.int .i64 0)), none, []⟩,
 ⟨some 7, .mov (.t 6), none, []⟩,
 ⟨some 8, .mov (.t 1), some (7, false), []⟩,
 ⟨some 9, .bin .geq (.t 8) (.c (.int .i64 3)), some (7, false), []⟩,
 ⟨some 10, .pick (.t 7) (.c (.bool true)) (.t 9), none, []⟩,
 ⟨some 11, .mov (.t 10), none, []⟩,
 ⟨some 12, .mov (.t 1), some (11, false), []⟩,
 ⟨some 13, .fieldAddr 1 (.t 2), some (11, false), []⟩,
 ⟨some 14, .indexAddrA 3 1 (.t 13) (.t 12), some (11, false), []⟩,
 ⟨some 15, .load false 1 (.t 14), some (11, false), []⟩,
 ⟨some 16, .bin .lss (.t 15) (.c (.int .i64 0)), some (11, false), []⟩,
 ⟨some 17, .pick (.t 11) (.c (.bool true)) (.t 16), none, []⟩,
 ⟨some 18, .mov (.t 17), none, []⟩,
 ⟨some 19, .load true 4 (.t 2), some (18, false), []⟩,
 ⟨some 20, .call 125 [(.t 19)], some (18, false), []⟩,
 ⟨some 21, .bin .neq (.t 20) (.c (.int .i64 0)), some (18, false), []⟩,
 ⟨some 22, .pick (.t 18) (.c (.bool true)) (.t 21), none, []⟩] [1, 2, 22])
 (.cond (.t 22)
 (.seq (.region none [⟨some 4, .mov (.c (.int .i64 0)), none, []⟩] [4])
 (.ret))
 (.skip)))
 (.seq (.region (some []) [⟨some 23, .load true 4 (.t 2), none, []⟩,
 ⟨some 24, .mov (.t 1), none, []⟩,
 ⟨some 25, .fieldAddr 1 (.t 2), none, []⟩,
 ⟨some 26, .indexAddrA 3 1 (.t 25) (.t 24), none, []⟩,
 ⟨some 27, .load false 1 (.t 26), none, []⟩,
 ⟨some 28, .call 139 [(.t 23), (.t 27)], none, []⟩,
 ⟨some 29, .field false 2 1 (.t 28), none, []⟩,
 ⟨some 4, .mov (.t 29), none, []⟩] [4] [5])
 (.ret))), false, false, false⟩
@[simp] def F129l0x : PC := (.seq (.seq (.region none [⟨some 25, .mov (.t 8), none, []⟩,
 ⟨some 26, .mov (.t 5), none, []⟩,
 ⟨some 27, .len .sl (.t 26), none, []⟩,
 ⟨some 28, .bin .lss (.t 25) (.t 27), none, []⟩] [2, 5, 7, 8, 28])
 (.cond (.t 28)
 (.skip)
 (.exit 0)))
 (.seq (.block 1 (.seq (.region none [⟨some 31, .mov (.t 5), none, []⟩,
 ⟨some 32, .mov (.t 8), none, []⟩,
 ⟨some 33, .indexAddr 1 (.t 31) (.t 32), none, []⟩,
 ⟨some 34, .load false 1 (.t 33), none, []⟩,
 ⟨some 35, .bin .geq (.t 34) (.c (.int .i64 0)), none, []⟩] [2, 5, 7, 8, 35])
 (.cond (.t 35)
 (.seq (.region none [⟨some 36, .fieldAddr 0 (.t 2), none, []⟩,
 ⟨some 37, .load false 1 (.t 36), none, []⟩,
 ⟨some 38, .mov (.t 8), none, []⟩,
 ⟨some 39, .indexAddr 2 (.t 37) (.t 38), none, []⟩,
 ⟨some 40, .fieldAddr 0 (.t 39), none, []⟩,
 ⟨some 41, .load false 1 (.t 40), none, []⟩,
 ⟨some 9, .mov (.t 41), none, []⟩] [2, 5, 7, 8, 9])
 (.region (some []) [⟨some 42, .mov (.t 7), none, []⟩,
 ⟨some 43, .mov (.t 5), none, []⟩,
 ⟨some 44, .mov (.t 8), none, []⟩,
 ⟨some 45, .indexAddr 1 (.t 43) (.t 44), none, []⟩,
 ⟨some 46, .load false 1 (.t 45), none, [10, 13]⟩,
 ⟨some 47, .mov (.t 5), none, []⟩,
 ⟨some 48, .mov (.t 8), none, []⟩,
 ⟨some 49, .indexAddr 1 (.t 47) (.t 48), none, []⟩,
 ⟨some 50, .load false 1 (.t 49), none, [10, 13]⟩,
 ⟨some 51, .mov (.t 9), none, []⟩,
 ⟨some 52, .call 145 [(.t 51)], none, []⟩,
 ⟨some 53, .bin .sub (.t 50) (.t 52), none, []⟩,
 ⟨some 54, .mov (.t 9), none, []⟩,
 ⟨some 55, .call 146 [(.t 54)], none, []⟩,
 ⟨some 56, .bin .add (.t 53) (.t 55), none, []⟩,
 ⟨some 57, .max [(.t 42), (.t 46), (.t 56)], none, []⟩,
 ⟨some 7, .mov (.t 57), none, []⟩] [2, 5, 7, 8] [13]))
 (.skip))))
 (.region none [⟨some 29, .mov (.t 8), none, []⟩,
 ⟨some 30, .bin .add (.t 29) (.c (.int .i64 1)), none, []⟩,
 ⟨some 8, .mov (.t 30), none, []⟩] [2, 5, 7, 8])))
def F129l0 : PC := F129l0x
theorem run_F129l0 (C : Task → Option Res) (k : Nat) (fr : Fr) (σ : S) : run C k F129l0 fr σ = run C k F129l0x fr σ := rfl
/-- arenanet/arenanetref15.Depth -/
def F129 : PFun := ⟨2, [.tmp 4],
 .seq (.region none [⟨some 2, .box (.t 0), none, []⟩,
 ⟨some 4, .mov (.c (.int .i64 0)), none, []⟩] [1, 2])
 (.seq (.seq (.region none [⟨some 10, .mov (.t 1), none, []⟩,
 ⟨some 11, .bin .lss (.t 10) (.c (.int .i64 0)), none, []⟩,
 ⟨some 12, .mov (.t 11), none, []⟩,
 ⟨some 13, .mov (.t 1), some (12, false), []⟩,
 ⟨some 14, .bin .gtr (.t 13) (.c (.int .i64 2)), some (12, false), []⟩,
 ⟨some 15, .pick (.t 12) (.c (.bool true)) (.t 14), none, []⟩] [1, 2, 15])
 (.cond (.t 15)
 (.seq (.region none [⟨some 4, .mov (.c (.int .i64 0)), none, []⟩] [4])
 (.ret))
 (.skip)))
 (.seq (.region (some []) [⟨some 17, .load true 4 (.t 2), none, []⟩,
 ⟨some 18, .mov (.t 1), none, []⟩,
 ⟨some 19, .fieldAddr 1 (.t 2), none, []⟩,
 ⟨some 20, .indexAddrA 3 1 (.t 19) (.t 18), none, []⟩,
 ⟨some 21, .load false 1 (.t 20), none, []⟩,
 ⟨some 22, .call 142 [(.t 17), (.t 21)], none, []⟩,
 ⟨some 16, .mov (.t 22), none, []⟩,
 ⟨some 23, .extract (.t 16) 0, none, []⟩,
 ⟨some 24, .extract (.t 16) 1, none, []⟩,
 ⟨some 5, .mov (.t 23), none, []⟩,
 ⟨some 6, .mov (.t 24), none, []⟩] [2, 5] [5])
 (.seq (.region none [⟨some 7, .mov (.c (.int .i64 0)), none, []⟩] [2, 5, 7])
 (.seq (.seq (.region none [⟨some 8, .mov (.c (.int .i64 0)), none, []⟩] [2, 5, 7, 8])
 (.block 0 (.loop F129l0)))
 (.seq (.region none [⟨some 58, .mov (.t 7), none, []⟩,
 ⟨some 4, .mov (.t 58), none, []⟩] [4])
 (.ret)))))), false, false, false⟩
@[simp] def F130l0x : PC := (.seq (.seq (.region none [⟨some 7, .mov (.t 4), none, []⟩,
 ⟨some 8, .mov (.t 0), none, []⟩,
 ⟨some 9, .bin .lss (.t 7) (.t 8), none, []⟩] [0, 2, 3, 4, 9])
 (.cond (.t 9)
 (.skip)
 (.exit 0)))
 (.seq (.block 1 (.region none [⟨some 12, .mov (.t 4), none, []⟩,
 ⟨some 13, .build [(.lit (.int .i64 0)), (.lit (.int .i64 0)), (.lit (.string ⟨#[]⟩)), (.lit (.slice none 0 0))] [(0, 1, (.c (.int .i64 8))), (1, 1, (.t 12))], none, []⟩,
 ⟨some 14, .load true 4 (.t 3), none, []⟩,
 ⟨some 15, .bslice 2 [(.lit (.int .i64 0)), (.lit (.int .i64 0)), (.lit (.string ⟨#[]⟩)), (.lit (.slice none 0 0)), (.lit (.int .i64 0)), (.lit (.int .i64 0)), (.lit (.string ⟨#[]⟩)), (.lit (.slice none 0 0))] [(0, 4, (.t 13)), (4, 4, (.t 14))], none, []⟩,
 ⟨some 16, .build [(.lit (.int .i64 0)), (.lit (.int .i64 0)), (.lit (.string ⟨#[]⟩)), (.lit (.slice none 0 0))] [(0, 1, (.c (.int .i64 14))), (2, 1, (.c (.string ⟨#[43]⟩))), (3, 1, (.t 15))], none, []⟩,
 ⟨none, .store 4 (.t 3) (.t 16), none, []⟩] [0, 2, 3, 4]))
 (.region none [⟨some 10, .mov (.t 4), none, []⟩,
 ⟨some 11, .bin .add (.t 10) (.c (.int .i64 1)), none, []⟩,
 ⟨some 4, .mov (.t 11), none, []⟩] [0, 2, 3, 4])))
def F130l0 : PC := F130l0x
theorem run_F130l0 (C : Task → Option Res) (k : Nat) (fr : Fr) (σ : S) : run C k F130l0 fr σ = run C k F130l0x fr σ := rfl
/-- arenanet/arenanetlaw15.nested -/
def F130 : PFun := ⟨1, [.cell 2 true 4],
 .seq (.region none [⟨some 2, .alloc [(.lit (.int .i64 0)), (.lit (.int .i64 0)), (.lit (.string ⟨#[]⟩)), (.lit (.slice none 0 0))], none, []⟩] [0, 2])
 (.seq (.region none [⟨some 5, .mov (.t 0), none, []⟩,
 ⟨some 6, .build [(.lit (.int .i64 0)), (.lit (.int .i64 0)), (.lit (.string ⟨#[]⟩)), (.lit (.slice none 0 0))] [(0, 1, (.c (.int .i64 8))), (1, 1, (.t 5))], none, []⟩,
 ⟨some 3, .alloc [(.lit (.int .i64 0)), (.lit (.int .i64 0)), (.lit (.string ⟨#[]⟩)), (.lit (.slice none 0 0))], none, []⟩,
 ⟨none, .store 4 (.t 3) (.t 6), none, []⟩] [0, 2, 3])
 (.seq (.seq (.region none [⟨some 4, .mov (.c (.int .i64 0)), none, []⟩] [0, 2, 3, 4])
 (.block 0 (.loop F130l0)))
 (.seq (.region none [⟨some 17, .load true 4 (.t 3), none, []⟩,
 ⟨none, .store 4 (.t 2) (.t 17), none, []⟩] [2])
 (.ret)))), false, false, false⟩
@[simp] def F131l0x : PC := (.seq (.region none [⟨some 20, .bin .lss (.t 19) (.t 18), none, []⟩] [1, 2, 4, 17, 18, 19, 20])
 (.seq (.cond (.t 20)
 (.skip)
 (.exit 0))
 (.seq (.block 1 (.seq (.region none [⟨some 21, .mov (.t 19), none, []⟩,
 ⟨some 22, .indexAddr 1 (.t 17) (.t 19), none, []⟩,
 ⟨some 23, .load false 1 (.t 22), none, []⟩,
 ⟨some 5, .mov (.t 21), none, []⟩,
 ⟨some 6, .mov (.t 23), none, []⟩] [1, 2, 4, 5, 6, 17, 18, 19])
 (.region none [⟨some 24, .mov (.t 4), none, []⟩,
 ⟨some 25, .nilchk (.t 24), none, []⟩,
 ⟨some 26, .fieldAddr 0 (.t 25), none, []⟩,
 ⟨some 27, .fieldAddr 1 (.t 26), none, []⟩,
 ⟨some 28, .load false 1 (.t 27), none, []⟩,
 ⟨some 29, .mov (.t 6), none, []⟩,
 ⟨some 30, .mov (.t 5), none, []⟩,
 ⟨none, .mapset .s (.t 28) (.t 29) (.t 30), none, []⟩] [1, 2, 4, 17, 18, 19])))
 (.region none [⟨some 31, .bin .add (.t 19) (.c (.int .i64 1)), none, []⟩,
 ⟨some 19, .mov (.t 31), none, []⟩] [1, 2, 4, 17, 18, 19]))))
def F131l0 : PC := F131l0x
theorem run_F131l0 (C : Task → Option Res) (k : Nat) (fr : Fr) (σ : S) : run C k F131l0 fr σ = run C k F131l0x fr σ := rfl
@[simp] def F131l1x : PC := (.seq (.region none [⟨some 35, .bin .lss (.t 34) (.c (.int .i64 3)), none, []⟩] [2, 4, 33, 34, 35])
 (.seq (.cond (.t 35)
 (.skip)
 (.exit 2))
 (.seq (.block 3 (.seq (.region none [⟨some 36, .mov (.t 34), none, []⟩,
 ⟨some 37, .indexA true 3 4 (.t 33) (.t 34), none, []⟩,
 ⟨some 8, .alloc [(.lit (.int .i64 0)), (.lit (.int .i64 0)), (.lit (.string ⟨#[]⟩)), (.lit (.slice none 0 0))], none, []⟩,
 ⟨some 7, .mov (.t 36), none, []⟩,
 ⟨none, .store 4 (.t 8) (.t 37), none, []⟩] [2, 4, 7, 8, 33, 34])
 (.seq (.region none [⟨some 38, .mov (.t 4), none, []⟩,
 ⟨some 39, .mov (.t 7), none, []⟩,
 ⟨some 40, .nilchk (.t 38), none, []⟩,
 ⟨some 41, .fieldAddr 2 (.t 40), none, []⟩,
 ⟨some 42, .indexAddrA 3 1 (.t 41) (.t 39), none, []⟩,
 ⟨none, .store 1 (.t 42) (.c (.int .i64 (-1))), none, []⟩] [2, 4, 7, 8, 33, 34])
 (.seq (.region none [⟨some 43, .fieldAddr 0 (.t 8), none, []⟩,
 ⟨some 44, .load false 1 (.t 43), none, []⟩,
 ⟨some 45, .bin .neq (.t 44) (.c (.int .i64 0)), none, []⟩] [2, 4, 7, 8, 33, 34, 45])
 (.cond (.t 45)
 (.seq (.region (some []) [⟨some 46, .mov (.t 4), none, []⟩,
 ⟨some 47, .mov (.t 7), none, []⟩,
 ⟨some 48, .mov (.t 4), none, []⟩,
 ⟨some 49, .nilchk (.t 48), none, []⟩,
 ⟨some 50, .fieldAddr 0 (.t 49), none, []⟩,
 ⟨some 51, .fieldAddr 0 (.t 50), none, []⟩,
 ⟨some 52, .load false 1 (.t 51), none, []⟩,
 ⟨some 53, .len .sl (.t 52), none, []⟩,
 ⟨some 54, .nilchk (.t 46), none, []⟩,
 ⟨some 55, .fieldAddr 2 (.t 54), none, []⟩,
 ⟨some 56, .indexAddrA 3 1 (.t 55) (.t 47), none, []⟩,
 ⟨none, .store 1 (.t 56) (.t 53), none, []⟩] [2, 4, 8, 33, 34])
 (.seq (.region (some []) [⟨some 57, .mov (.t 4), none, []⟩,
 ⟨some 58, .nilchk (.t 57), none, []⟩,
 ⟨some 59, .fieldAddr 0 (.t 58), none, []⟩,
 ⟨some 60, .load true 4 (.t 8), none, []⟩,
 ⟨some 61, .call 147 [(.t 59), (.t 60)], none, []⟩] [2, 4, 33, 34] [4])
 (.region none [⟨some 62, .mov (.t 4), none, []⟩,
 ⟨some 63, .nilchk (.t 62), none, []⟩,
 ⟨some 64, .fieldAddr 0 (.t 63), none, []⟩,
 ⟨some 65, .call 148 [(.t 64), (.c (.int .i64 21)), (.c (.int .i64 0))], none, []⟩] [2, 4, 33, 34])))
 (.skip))))))
 (.region none [⟨some 66, .bin .add (.t 34) (.c (.int .i64 1)), none, []⟩,
 ⟨some 34, .mov (.t 66), none, []⟩] [2, 4, 33, 34]))))
def F131l1 : PC := F131l1x
theorem run_F131l1 (C : Task → Option Res) (k : Nat) (fr : Fr) (σ : S) : run C k F131l1 fr σ = run C k F131l1x fr σ := rfl
@[simp] def F131l2x : PC := (.seq (.region none [⟨some 88, .bin .lss (.t 87) (.c (.int .i64 3)), none, []⟩] [2, 9, 86, 87, 88])
 (.seq (.cond (.t 88)
 (.skip)
 (.exit 4))
 (.seq (.block 5 (.seq (.region none [⟨some 89, .indexA false 3 1 (.t 86) (.t 87), none, []⟩,
 ⟨some 11, .mov (.t 89), none, []⟩] [2, 9, 11, 86, 87])
 (.seq (.region none [⟨some 90, .mov (.t 11), none, []⟩,
 ⟨some 91, .bin .geq (.t 90) (.c (.int .i64 0)), none, []⟩,
 ⟨some 92, .mov (.t 91), none, []⟩,
 ⟨some 93, .load true 4 (.t 9), some (92, true), []⟩,
 ⟨some 94, .mov (.t 11), some (92, true), []⟩,
 ⟨some 95, .call 139 [(.t 93), (.t 94)], some (92, true), []⟩,
 ⟨some 96, .call 140 [(.t 95)], some (92, true), []⟩,
 ⟨some 97, .un .not (.t 96), some (92, true), []⟩,
 ⟨some 98, .pick (.t 92) (.t 97) (.c (.bool false)), none, []⟩] [2, 9, 86, 87, 98])
 (.cond (.t 98)
 (.seq (.region none [⟨some 99, .build [(.lit (.slice none 0 0)), (.lit (.int .i64 0)), (.lit (.int .i64 0)), (.lit (.int .i64 0))] [], none, []⟩,
 ⟨none, .store 4 (.t 2) (.t 99), none, []⟩,
 ⟨some 3, .mov (.c (.int .i64 15)), none, []⟩] [2, 3])
 (.ret))
 (.skip)))))
 (.region none [⟨some 100, .bin .add (.t 87) (.c (.int .i64 1)), none, []⟩,
 ⟨some 87, .mov (.t 100), none, []⟩] [2, 9, 86, 87]))))
def F131l2 : PC := F131l2x
theorem run_F131l2 (C : Task → Option Res) (k : Nat) (fr : Fr) (σ : S) : run C k F131l2 fr σ = run C k F131l2x fr σ := rfl
/-- arenanet/compile.Compile -/
def F131 : PFun := ⟨1, [.cell 2 true 4, .tmp 3],
 .seq (.region none [⟨some 1, .box (.t 0), none, []⟩,
 ⟨some 2, .alloc [(.lit (.slice none 0 0)), (.lit (.int .i64 0)), (.lit (.int .i64 0)), (.lit (.int .i64 0))], none, []⟩,
 ⟨some 3, .mov (.c (.int .i64 0)), none, []⟩] [1, 2])
 (.seq (.region none [⟨some 12, .mkmap, none, []⟩,
 ⟨some 13, .build [(.lit (.slice none 0 0)), (.lit (.map none))] [(1, 1, (.t 12))], none, []⟩,
 ⟨some 14, .build [(.lit (.slice none 0 0)), (.lit (.map none)), (.lit (.int .i64 0)), (.lit (.int .i64 0)), (.lit (.int .i64 0))] [(0, 2, (.t 13))], none, []⟩,
 ⟨some 15, .box (.t 14), none, []⟩,
 ⟨some 4, .mov (.t 15), none, []⟩] [1, 2, 4])
 (.seq (.seq (.region none [⟨some 16, .load true 12 (.t 1), none, []⟩,
 ⟨some 17, .call 15 [(.t 16)], none, []⟩,
 ⟨some 18, .len .sl (.t 17), none, []⟩,
 ⟨some 19, .mov (.c (.int .i64 0)), none, []⟩] [1, 2, 4, 17, 18, 19])
 (.block 0 (.loop F131l0)))
 (.seq (.seq (.region none [⟨some 32, .fieldAddr 0 (.t 1), none, []⟩,
 ⟨some 33, .load true 12 (.t 32), none, []⟩,
 ⟨some 34, .mov (.c (.int .i64 0)), none, []⟩] [2, 4, 33, 34])
 (.block 2 (.loop F131l1)))
 (.seq (.seq (.region none [⟨some 67, .mov (.t 4), none, []⟩,
 ⟨some 68, .nilchk (.t 67), none, []⟩,
 ⟨some 69, .fieldAddr 0 (.t 68), none, []⟩,
 ⟨some 70, .fieldAddr 0 (.t 69), none, []⟩,
 ⟨some 71, .load false 1 (.t 70), none, []⟩,
 ⟨some 72, .len .sl (.t 71), none, []⟩,
 ⟨some 73, .bin .gtr (.t 72) (.c (.int .i64 400)), none, []⟩] [2, 4, 73])
 (.cond (.t 73)
 (.seq (.region none [⟨some 74, .build [(.lit (.slice none 0 0)), (.lit (.int .i64 0)), (.lit (.int .i64 0)), (.lit (.int .i64 0))] [], none, []⟩,
 ⟨none, .store 4 (.t 2) (.t 74), none, []⟩,
 ⟨some 3, .mov (.c (.int .i64 2)), none, []⟩] [2, 3])
 (.ret))
 (.skip)))
 (.seq (.region (some [(111, [(.lit (.slice none 0 0)), (.lit (.int .i64 0)), (.lit (.int .i64 0)), (.lit (.int .i64 0))])]) [⟨some 75, .mov (.t 4), none, []⟩,
 ⟨some 76, .nilchk (.t 75), none, []⟩,
 ⟨some 77, .fieldAddr 0 (.t 76), none, []⟩,
 ⟨some 78, .fieldAddr 0 (.t 77), none, []⟩,
 ⟨some 79, .load false 1 (.t 78), none, []⟩,
 ⟨some 80, .mov (.t 4), none, []⟩,
 ⟨some 81, .nilchk (.t 80), none, []⟩,
 ⟨some 82, .fieldAddr 2 (.t 81), none, []⟩,
 ⟨some 83, .load true 3 (.t 82), none, []⟩,
 ⟨some 84, .build [(.lit (.slice none 0 0)), (.lit (.int .i64 0)), (.lit (.int .i64 0)), (.lit (.int .i64 0))] [(0, 1, (.t 79)), (1, 3, (.t 83))], none, []⟩,
 ⟨some 9, .fill 111, none, []⟩,
 ⟨none, .store 4 (.t 9) (.t 84), none, []⟩] [2, 9])
 (.seq (.seq (.region none [⟨some 85, .fieldAddr 1 (.t 9), none, []⟩,
 ⟨some 86, .load true 3 (.t 85), none, []⟩,
 ⟨some 87, .mov (.c (.int .i64 0)), none, []⟩] [2, 9, 86, 87])
 (.block 4 (.loop F131l2)))
 (.seq (.region none [⟨some 101, .load true 4 (.t 9), none, []⟩,
 ⟨none, .store 4 (.t 2) (.t 101), none, []⟩,
 ⟨some 3, .mov (.c (.int .i64 0)), none, []⟩] [2, 3])
 (.ret)))))))), false, false, false⟩
@[simp] def F20l0x : PC := (.seq (.seq (.region none [⟨some 10, .mov (.t 5), none, []⟩,
 ⟨some 11, .bin .neq (.t 10) (.c (.int .i64 0)), none, []⟩] [0, 3, 4, 5, 11])
 (.cond (.t 11)
 (.skip)
 (.exit 0)))
 (.seq (.block 1 (.seq (.region none [⟨some 14, .mov (.t 5), none, []⟩,
 ⟨some 15, .bin .rem (.t 14) (.c (.int .i64 10)), none, []⟩,
 ⟨some 6, .mov (.t 15), none, []⟩] [0, 3, 4, 5, 6])
 (.seq (.seq (.region none [⟨some 16, .mov (.t 6), none, []⟩,
 ⟨some 17, .bin .lss (.t 16) (.c (.int .i64 0)), none, []⟩] [0, 3, 4, 5, 6, 17])
 (.cond (.t 17)
 (.region none [⟨some 18, .mov (.t 6), none, []⟩,
 ⟨some 19, .un .neg (.t 18), none, []⟩,
 ⟨some 6, .mov (.t 19), none, []⟩] [0, 3, 4, 5, 6])
 (.skip)))
 (.region none [⟨some 20, .mov (.t 3), none, []⟩,
 ⟨some 21, .mov (.t 6), none, []⟩,
 ⟨some 22, .mov (.t 6), none, []⟩,
 ⟨some 23, .bin .add (.t 22) (.c (.int .i64 1)), none, []⟩,
 ⟨some 24, .sliceS (.t 20) (some (.t 21)) (some (.t 23)), none, []⟩,
 ⟨some 25, .mov (.t 4), none, []⟩,
 ⟨some 26, .bin .add (.t 24) (.t 25), none, []⟩,
 ⟨some 4, .mov (.t 26), none, []⟩] [0, 3, 4, 5]))))
 (.region none [⟨some 12, .mov (.t 5), none, []⟩,
 ⟨some 13, .bin .quo (.t 12) (.c (.int .i64 10)), none, []⟩,
 ⟨some 5, .mov (.t 13), none, []⟩] [0, 3, 4, 5])))
def F20l0 : PC := F20l0x
theorem run_F20l0 (C : Task → Option Res) (k : Nat) (fr : Fr) (σ : S) : run C k F20l0 fr σ = run C k F20l0x fr σ := rfl
/-- arenanet/arenanetref01.Decimal -/
def F20 : PFun := ⟨1, [.tmp 2],
 .seq (.region none [⟨some 2, .mov (.c (.string ⟨#[]⟩)), none, []⟩] [0])
 (.seq (.seq (.region none [⟨some 7, .mov (.t 0), none, []⟩,
 ⟨some 8, .bin .eql (.t 7) (.c (.int .i64 0)), none, []⟩] [0, 8])
 (.cond (.t 8)
 (.seq (.region none [⟨some 2, .mov (.c (.string ⟨#[48]⟩)), none, []⟩] [2])
 (.ret))
 (.skip)))
 (.seq (.region none [⟨some 3, .mov (.c (.string ⟨#[48, 49, 50, 51, 52, 53, 54, 55, 56, 57]⟩)), none, []⟩] [0, 3])
 (.seq (.region none [⟨some 4, .mov (.c (.string ⟨#[]⟩)), none, []⟩] [0, 3, 4])
 (.seq (.seq (.region none [⟨some 9, .mov (.t 0), none, []⟩,
 ⟨some 5, .mov (.t 9), none, []⟩] [0, 3, 4, 5])
 (.block 0 (.loop F20l0)))
 (.seq (.seq (.region none [⟨some 27, .mov (.t 0), none, []⟩,
 ⟨some 28, .bin .lss (.t 27) (.c (.int .i64 0)), none, []⟩] [4, 28])
 (.cond (.t 28)
 (.seq (.region none [⟨some 29, .mov (.t 4), none, []⟩,
 ⟨some 30, .bin .add (.c (.string ⟨#[45]⟩)) (.t 29), none, []⟩,
 ⟨some 2, .mov (.t 30), none, []⟩] [2])
 (.ret))
 (.skip)))
 (.seq (.region none [⟨some 31, .mov (.t 4), none, []⟩,
 ⟨some 2, .mov (.t 31), none, []⟩] [2])
 (.ret))))))), false, false, false⟩
@[simp] def F132l1x : PC := (.seq (.seq (.region none [⟨some 43, .mov (.t 8), none, []⟩,
 ⟨some 44, .bin .lss (.t 43) (.c (.int .i64 3)), none, []⟩] [2, 5, 6, 7, 8, 44])
 (.cond (.t 44)
 (.skip)
 (.exit 2)))
 (.seq (.block 3 (.seq (.region none [⟨some 47, .mov (.t 5), none, []⟩,
 ⟨some 48, .call 151 [(.t 47)], none, []⟩,
 ⟨some 49, .call 152 [], none, []⟩,
 ⟨some 50, .mov (.t 8), none, []⟩,
 ⟨some 51, .indexAddr 1 (.t 49) (.t 50), none, []⟩,
 ⟨some 52, .load false 1 (.t 51), none, []⟩,
 ⟨some 53, .bin .eql (.t 48) (.t 52), none, []⟩] [2, 5, 6, 7, 8, 53])
 (.cond (.t 53)
 (.region none [⟨some 54, .mov (.t 8), none, []⟩,
 ⟨some 7, .mov (.t 54), none, []⟩] [2, 5, 6, 7, 8])
 (.skip))))
 (.region none [⟨some 45, .mov (.t 8), none, []⟩,
 ⟨some 46, .bin .add (.t 45) (.c (.int .i64 1)), none, []⟩,
 ⟨some 8, .mov (.t 46), none, []⟩] [2, 5, 6, 7, 8])))
def F132l1 : PC := F132l1x
theorem run_F132l1 (C : Task → Option Res) (k : Nat) (fr : Fr) (σ : S) : run C k F132l1 fr σ = run C k F132l1x fr σ := rfl
@[simp] def F132l0x : PC := (.seq (.seq (.region (some []) [⟨some 17, .mov (.t 5), none, []⟩,
 ⟨some 18, .nilchk (.t 17), none, []⟩,
 ⟨some 19, .fieldAddr 3 (.t 18), none, []⟩,
 ⟨some 20, .load false 1 (.t 19), none, []⟩,
 ⟨some 21, .bin .eql (.t 20) (.c (.int .i64 0)), none, []⟩,
 ⟨some 22, .mov (.t 21), none, []⟩,
 ⟨some 23, .mov (.t 5), some (22, true), []⟩,
 ⟨some 24, .nilchk (.t 23), some (22, true), []⟩,
 ⟨some 25, .fieldAddr 0 (.t 24), some (22, true), []⟩,
 ⟨some 26, .load false 1 (.t 25), some (22, true), []⟩,
 ⟨some 27, .mov (.t 5), some (22, true), []⟩,
 ⟨some 28, .nilchk (.t 27), some (22, true), []⟩,
 ⟨some 29, .fieldAddr 1 (.t 28), some (22, true), []⟩,
 ⟨some 30, .load false 1 (.t 29), some (22, true), []⟩,
 ⟨some 31, .indexAddr 3 (.t 26) (.t 30), some (22, true), []⟩,
 ⟨some 32, .fieldAddr 1 (.t 31), some (22, true), []⟩,
 ⟨some 33, .load false 1 (.t 32), some (22, true), []⟩,
 ⟨some 34, .bin .neq (.t 33) (.c (.string ⟨#[]⟩)), some (22, true), []⟩,
 ⟨some 35, .pick (.t 22) (.t 34) (.c (.bool false)), none, []⟩] [2, 5, 6, 35])
 (.cond (.t 35)
 (.skip)
 (.exit 0)))
 (.block 1 (.seq (.region none [⟨some 36, .mov (.t 5), none, []⟩,
 ⟨some 37, .call 150 [(.t 36), (.c (.string ⟨#[111, 110]⟩))], none, []⟩] [2, 5, 6])
 (.seq (.seq (.region none [⟨some 38, .mov (.t 5), none, []⟩,
 ⟨some 39, .nilchk (.t 38), none, []⟩,
 ⟨some 40, .fieldAddr 3 (.t 39), none, []⟩,
 ⟨some 41, .load false 1 (.t 40), none, []⟩,
 ⟨some 42, .bin .neq (.t 41) (.c (.int .i64 0)), none, []⟩] [2, 5, 6, 42])
 (.cond (.t 42)
 (.exit 0)
 (.skip)))
 (.seq (.region none [⟨some 7, .mov (.c (.int .i64 (-1))), none, []⟩] [2, 5, 6, 7])
 (.seq (.seq (.region none [⟨some 8, .mov (.c (.int .i64 0)), none, []⟩] [2, 5, 6, 7, 8])
 (.block 2 (.loop F132l1)))
 (.seq (.seq (.region none [⟨some 55, .mov (.t 7), none, []⟩,
 ⟨some 56, .bin .lss (.t 55) (.c (.int .i64 0)), none, []⟩] [2, 5, 6, 7, 56])
 (.cond (.t 56)
 (.seq (.region none [⟨some 57, .mov (.t 5), none, []⟩,
 ⟨some 58, .call 153 [(.t 57), (.c (.int .i64 12))], none, []⟩] [2, 5, 6])
 (.exit 0))
 (.skip)))
 (.seq (.seq (.region none [⟨some 59, .mov (.t 7), none, []⟩,
 ⟨some 60, .fieldAddr 0 (.t 6), none, []⟩,
 ⟨some 61, .indexAddrA 3 4 (.t 60) (.t 59), none, []⟩,
 ⟨some 62, .fieldAddr 0 (.t 61), none, []⟩,
 ⟨some 63, .load false 1 (.t 62), none, []⟩,
 ⟨some 64, .bin .neq (.t 63) (.c (.int .i64 0)), none, []⟩] [2, 5, 6, 7, 64])
 (.cond (.t 64)
 (.seq (.region none [⟨some 65, .mov (.t 5), none, []⟩,
 ⟨some 66, .call 153 [(.t 65), (.c (.int .i64 4))], none, []⟩] [2, 5, 6])
 (.exit 0))
 (.skip)))
 (.seq (.region none [⟨some 67, .mov (.t 5), none, []⟩,
 ⟨some 68, .call 154 [(.t 67)], none, []⟩] [2, 5, 6, 7])
 (.region none [⟨some 69, .mov (.t 7), none, []⟩,
 ⟨some 70, .mov (.t 5), none, []⟩,
 ⟨some 71, .call 155 [(.t 70), (.c (.int .i64 1))], none, []⟩,
 ⟨some 72, .fieldAddr 0 (.t 6), none, []⟩,
 ⟨some 73, .indexAddrA 3 4 (.t 72) (.t 69), none, []⟩,
 ⟨none, .store 4 (.t 73) (.t 71), none, []⟩] [2, 5, 6]))))))))))
def F132l0 : PC := F132l0x
theorem run_F132l0 (C : Task → Option Res) (k : Nat) (fr : Fr) (σ : S) : run C k F132l0 fr σ = run C k F132l0x fr σ := rfl
/-- arenanet/arenanetref13.Parse -/
def F132 : PFun := ⟨1, [.cell 2 true 12, .tmp 3, .tmp 4],
 .seq (.region none [⟨some 2, .alloc [(.lit (.int .i64 0)), (.lit (.int .i64 0)), (.lit (.string ⟨#[]⟩)), (.lit (.slice none 0 0)), (.lit (.int .i64 0)), (.lit (.int .i64 0)), (.lit (.string ⟨#[]⟩)), (.lit (.slice none 0 0)), (.lit (.int .i64 0)), (.lit (.int .i64 0)), (.lit (.string ⟨#[]⟩)), (.lit (.slice none 0 0))], none, []⟩,
 ⟨some 3, .mov (.c (.int .i64 0)), none, []⟩,
 ⟨some 4, .mov (.c (.int .i64 0)), none, []⟩] [0, 2])
 (.seq (.seq (.region none [⟨some 9, .mov (.t 0), none, []⟩,
 ⟨some 10, .len .str (.t 9), none, []⟩,
 ⟨some 11, .bin .gtr (.t 10) (.c (.int .i64 2000)), none, []⟩] [0, 2, 11])
 (.cond (.t 11)
 (.seq (.region none [⟨some 12, .build [(.lit (.int .i64 0)), (.lit (.int .i64 0)), (.lit (.string ⟨#[]⟩)), (.lit (.slice none 0 0)), (.lit (.int .i64 0)), (.lit (.int .i64 0)), (.lit (.string ⟨#[]⟩)), (.lit (.slice none 0 0)), (.lit (.int .i64 0)), (.lit (.int .i64 0)), (.lit (.string ⟨#[]⟩)), (.lit (.slice none 0 0))] [], none, []⟩,
 ⟨none, .store 12 (.t 2) (.t 12), none, []⟩,
 ⟨some 3, .mov (.c (.int .i64 2000)), none, []⟩,
 ⟨some 4, .mov (.c (.int .i64 2)), none, []⟩] [2, 3, 4])
 (.ret))
 (.skip)))
 (.seq (.region none [⟨some 13, .mov (.t 0), none, []⟩,
 ⟨some 14, .call 149 [(.t 13)], none, []⟩,
 ⟨some 15, .build [(.lit (.slice none 0 0)), (.lit (.int .i64 0)), (.lit (.int .i64 0)), (.lit (.int .i64 0))] [(0, 1, (.t 14))], none, []⟩,
 ⟨some 16, .box (.t 15), none, []⟩,
 ⟨some 5, .mov (.t 16), none, []⟩] [2, 5])
 (.seq (.region none [⟨some 6, .alloc [(.lit (.int .i64 0)), (.lit (.int .i64 0)), (.lit (.string ⟨#[]⟩)), (.lit (.slice none 0 0)), (.lit (.int .i64 0)), (.lit (.int .i64 0)), (.lit (.string ⟨#[]⟩)), (.lit (.slice none 0 0)), (.lit (.int .i64 0)), (.lit (.int .i64 0)), (.lit (.string ⟨#[]⟩)), (.lit (.slice none 0 0))], none, []⟩] [2, 5, 6])
 (.seq (.block 0 (.loop F132l0))
 (.seq (.seq (.region none [⟨some 74, .mov (.t 5), none, []⟩,
 ⟨some 75, .nilchk (.t 74), none, []⟩,
 ⟨some 76, .fieldAddr 3 (.t 75), none, []⟩,
 ⟨some 77, .load false 1 (.t 76), none, []⟩,
 ⟨some 78, .bin .neq (.t 77) (.c (.int .i64 0)), none, []⟩] [2, 5, 6, 78])
 (.cond (.t 78)
 (.seq (.region (some []) [⟨some 79, .build [(.lit (.int .i64 0)), (.lit (.int .i64 0)), (.lit (.string ⟨#[]⟩)), (.lit (.slice none 0 0)), (.lit (.int .i64 0)), (.lit (.int .i64 0)), (.lit (.string ⟨#[]⟩)), (.lit (.slice none 0 0)), (.lit (.int .i64 0)), (.lit (.int .i64 0)), (.lit (.string ⟨#[]⟩)), (.lit (.slice none 0 0))] [], none, []⟩,
 ⟨some 80, .mov (.t 5), none, []⟩,
 ⟨some 81, .nilchk (.t 80), none, []⟩,
 ⟨some 82, .fieldAddr 2 (.t 81), none, []⟩,
 ⟨some 83, .load false 1 (.t 82), none, [9]⟩,
 ⟨some 84, .mov (.t 5), none, []⟩,
 ⟨some 85, .nilchk (.t 84), none, []⟩,
 ⟨some 86, .fieldAddr 3 (.t 85), none, []⟩,
 ⟨some 87, .load false 1 (.t 86), none, [9]⟩,
 ⟨none, .store 12 (.t 2) (.t 79), none, []⟩,
 ⟨some 3, .mov (.t 83), none, []⟩,
 ⟨some 4, .mov (.t 87), none, []⟩] [2, 3, 4])
 (.ret))
 (.skip)))
 (.seq (.region none [⟨some 88, .load true 12 (.t 6), none, []⟩,
 ⟨none, .store 12 (.t 2) (.t 88), none, []⟩,
 ⟨some 3, .mov (.c (.int .i64 0)), none, []⟩,
 ⟨some 4, .mov (.c (.int .i64 0)), none, []⟩] [2, 3, 4])
 (.ret))))))), false, false, false⟩
@[simp] def F133l0x : PC := (.seq (.seq (.region none [⟨some 20, .mov (.t 5), none, []⟩,
 ⟨some 21, .fieldAddr 0 (.t 2), none, []⟩,
 ⟨some 22, .load false 1 (.t 21), none, []⟩,
 ⟨some 23, .len .sl (.t 22), none, []⟩,
 ⟨some 24, .bin .lss (.t 20) (.t 23), none, []⟩] [2, 3, 5, 24])
 (.cond (.t 24)
 (.skip)
 (.exit 0)))
 (.seq (.block 1 (.seq (.region (some []) [⟨some 27, .fieldAddr 0 (.t 2), none, []⟩,
 ⟨some 28, .load false 1 (.t 27), none, []⟩,
 ⟨some 29, .mov (.t 5), none, []⟩,
 ⟨some 30, .indexAddr 2 (.t 28) (.t 29), none, []⟩,
 ⟨some 31, .load true 2 (.t 30), none, []⟩,
 ⟨some 32, .fieldAddr 0 (.t 3), none, []⟩,
 ⟨some 33, .load false 1 (.t 32), none, []⟩,
 ⟨some 34, .mov (.t 5), none, []⟩,
 ⟨some 35, .indexAddr 2 (.t 33) (.t 34), none, []⟩,
 ⟨some 36, .load true 2 (.t 35), none, []⟩,
 ⟨some 37, .eqa true [.i, .i] (.t 31) (.t 36), none, []⟩] [2, 3, 5, 37])
 (.cond (.t 37)
 (.seq (.region none [⟨some 4, .mov (.c (.bool false)), none, []⟩] [4])
 (.ret))
 (.skip))))
 (.region none [⟨some 25, .mov (.t 5), none, []⟩,
 ⟨some 26, .bin .add (.t 25) (.c (.int .i64 1)), none, []⟩,
 ⟨some 5, .mov (.t 26), none, []⟩] [2, 3, 5])))
def F133l0 : PC := F133l0x
theorem run_F133l0 (C : Task → Option Res) (k : Nat) (fr : Fr) (σ : S) : run C k F133l0 fr σ = run C k F133l0x fr σ := rfl
/-- arenanet/arenanetref15.Same -/
def F133 : PFun := ⟨2, [.tmp 4],
 .seq (.region none [⟨some 2, .box (.t 0), none, []⟩,
 ⟨some 3, .box (.t 1), none, []⟩,
 ⟨some 4, .mov (.c (.bool false)), none, []⟩] [2, 3])
 (.seq (.seq (.region none [⟨some 6, .fieldAddr 1 (.t 2), none, []⟩,
 ⟨some 7, .load true 3 (.t 6), none, []⟩,
 ⟨some 8, .fieldAddr 1 (.t 3), none, []⟩,
 ⟨some 9, .load true 3 (.t 8), none, []⟩,
 ⟨some 10, .eqa true [.i, .i, .i] (.t 7) (.t 9), none, []⟩,
 ⟨some 11, .mov (.t 10), none, []⟩,
 ⟨some 12, .fieldAddr 0 (.t 2), some (11, false), []⟩,
 ⟨some 13, .load false 1 (.t 12), some (11, false), []⟩,
 ⟨some 14, .len .sl (.t 13), some (11, false), []⟩,
 ⟨some 15, .fieldAddr 0 (.t 3), some (11, false), []⟩,
 ⟨some 16, .load false 1 (.t 15), some (11, false), []⟩,
 ⟨some 17, .len .sl (.t 16), some (11, false), []⟩,
 ⟨some 18, .bin .neq (.t 14) (.t 17), some (11, false), []⟩,
 ⟨some 19, .pick (.t 11) (.c (.bool true)) (.t 18), none, []⟩] [2, 3, 19])
 (.cond (.t 19)
 (.seq (.region none [⟨some 4, .mov (.c (.bool false)), none, []⟩] [4])
 (.ret))
 (.skip)))
 (.seq (.seq (.region none [⟨some 5, .mov (.c (.int .i64 0)), none, []⟩] [2, 3, 5])
 (.block 0 (.loop F133l0)))
 (.seq (.region none [⟨some 4, .mov (.c (.bool true)), none, []⟩] [4])
 (.ret)))), false, false, false⟩
/-- arenanet/layout.Field -/
def F134 : PFun := ⟨1, [.tmp 2],
 .seq (.region none [⟨some 2, .mov (.c (.int .i64 0)), none, []⟩] [0])
 (.seq (.region none [⟨some 6, .mkmap, none, []⟩,
 ⟨none, .mapset .s (.t 6) (.c (.string ⟨#[120]⟩)) (.c (.int .i64 0)), none, []⟩,
 ⟨none, .mapset .s (.t 6) (.c (.string ⟨#[121]⟩)) (.c (.int .i64 1)), none, []⟩,
 ⟨none, .mapset .s (.t 6) (.c (.string ⟨#[118, 120]⟩)) (.c (.int .i64 2)), none, []⟩,
 ⟨none, .mapset .s (.t 6) (.c (.string ⟨#[118, 121]⟩)) (.c (.int .i64 3)), none, []⟩,
 ⟨none, .mapset .s (.t 6) (.c (.string ⟨#[97]⟩)) (.c (.int .i64 4)), none, []⟩,
 ⟨none, .mapset .s (.t 6) (.c (.string ⟨#[98]⟩)) (.c (.int .i64 5)), none, []⟩,
 ⟨none, .mapset .s (.t 6) (.c (.string ⟨#[104, 105, 116]⟩)) (.c (.int .i64 6)), none, []⟩,
 ⟨none, .mapset .s (.t 6) (.c (.string ⟨#[115, 116, 105, 108, 108]⟩)) (.c (.int .i64 7)), none, []⟩,
 ⟨some 7, .mov (.t 6), none, []⟩,
 ⟨some 3, .mov (.t 7), none, []⟩] [0, 3])
 (.seq (.seq (.region none [⟨some 9, .mov (.t 3), none, []⟩,
 ⟨some 10, .mov (.t 0), none, []⟩,
 ⟨some 11, .lookup .s (.lit (.int .i64 0)) (.t 9) (.t 10) true, none, []⟩,
 ⟨some 8, .mov (.t 11), none, []⟩,
 ⟨some 12, .extract (.t 8) 0, none, []⟩,
 ⟨some 13, .extract (.t 8) 1, none, []⟩,
 ⟨some 4, .mov (.t 12), none, []⟩,
 ⟨some 5, .mov (.t 13), none, []⟩] [4, 5])
 (.seq (.region none [⟨some 14, .mov (.t 5), none, []⟩] [4, 14])
 (.cond (.t 14)
 (.seq (.region none [⟨some 15, .mov (.t 4), none, []⟩,
 ⟨some 2, .mov (.t 15), none, []⟩] [2])
 (.ret))
 (.skip))))
 (.seq (.region none [⟨some 2, .mov (.c (.int .i64 (-1))), none, []⟩] [2])
 (.ret)))), false, false, false⟩
@[simp] def F16l0x : PC := (.seq (.seq (.region none [⟨some 5, .mov (.t 4), none, []⟩,
 ⟨some 6, .bin .lss (.t 5) (.c (.int .i64 3)), none, []⟩] [1, 3, 4, 6])
 (.cond (.t 6)
 (.skip)
 (.exit 0)))
 (.seq (.block 1 (.region none [⟨some 9, .mov (.t 4), none, []⟩,
 ⟨some 10, .fieldAddr 0 (.t 1), none, []⟩,
 ⟨some 11, .indexAddrA 3 4 (.t 10) (.t 9), none, []⟩,
 ⟨some 12, .load true 4 (.t 11), none, []⟩,
 ⟨some 13, .mov (.t 3), none, []⟩,
 ⟨some 14, .call 33 [(.t 12), (.t 13)], none, []⟩,
 ⟨some 3, .mov (.t 14), none, []⟩] [1, 3, 4]))
 (.region none [⟨some 7, .mov (.t 4), none, []⟩,
 ⟨some 8, .bin .add (.t 7) (.c (.int .i64 1)), none, []⟩,
 ⟨some 4, .mov (.t 8), none, []⟩] [1, 3, 4])))
def F16l0 : PC := F16l0x
theorem run_F16l0 (C : Task → Option Res) (k : Nat) (fr : Fr) (σ : S) : run C k F16l0 fr σ = run C k F16l0x fr σ := rfl
/-- arenanet/arenanetref14.Variables -/
def F16 : PFun := ⟨1, [.tmp 2],
 .seq (.region none [⟨some 1, .box (.t 0), none, []⟩,
 ⟨some 2, .mov (.c (.slice none 0 0)), none, []⟩] [1])
 (.seq (.region none [⟨some 3, .mov (.c (.slice none 0 0)), none, []⟩] [1, 3])
 (.seq (.seq (.region none [⟨some 4, .mov (.c (.int .i64 0)), none, []⟩] [1, 3, 4])
 (.block 0 (.loop F16l0)))
 (.seq (.region none [⟨some 15, .mov (.t 3), none, []⟩,
 ⟨some 2, .mov (.t 15), none, []⟩] [2])
 (.ret)))), false, false, false⟩
/-- arenanet/arenanetref15.Code -/
def F135 : PFun := ⟨3, [.tmp 6],
 .seq (.region none [⟨some 3, .box (.t 0), none, []⟩,
 ⟨some 6, .mov (.c (.slice none 0 0)), none, []⟩] [1, 2, 3])
 (.seq (.seq (.region none [⟨some 12, .fieldAddr 0 (.t 3), none, []⟩,
 ⟨some 13, .load false 1 (.t 12), none, []⟩] [1, 2, 3, 13])
 (.block 0 (.seq (.seq (.region none [⟨some 15, .bin .eql (.t 13) (.c (.int .i64 8)), none, []⟩,
 ⟨some 14, .mov (.t 15), none, []⟩] [1, 2, 3, 13, 14])
 (.cond (.t 14)
 (.skip)
 (.region none [⟨some 16, .bin .eql (.t 13) (.c (.int .i64 9)), none, []⟩,
 ⟨some 14, .mov (.t 16), none, []⟩] [1, 2, 3, 13, 14])))
 (.cond (.t 14)
 (.seq (.region none [⟨some 17, .fieldAddr 1 (.t 3), none, []⟩,
 ⟨some 18, .load false 1 (.t 17), none, []⟩,
 ⟨some 19, .build [(.lit (.int .i64 0)), (.lit (.int .i64 0))] [(0, 1, (.c (.int .i64 1))), (1, 1, (.t 18))], none, []⟩,
 ⟨some 20, .bslice 1 [(.lit (.int .i64 0)), (.lit (.int .i64 0))] [(0, 2, (.t 19))], none, []⟩,
 ⟨some 6, .mov (.t 20), none, []⟩] [6])
 (.ret))
 (.seq (.region none [⟨some 22, .bin .eql (.t 13) (.c (.int .i64 10)), none, []⟩,
 ⟨some 21, .mov (.t 22), none, []⟩] [1, 2, 3, 13, 21])
 (.cond (.t 21)
 (.seq (.region none [⟨some 23, .mov (.t 1), none, []⟩,
 ⟨some 24, .fieldAddr 2 (.t 3), none, []⟩,
 ⟨some 25, .load false 1 (.t 24), none, []⟩,
 ⟨some 26, .call 156 [(.t 23), (.t 25)], none, []⟩,
 ⟨some 27, .build [(.lit (.int .i64 0)), (.lit (.int .i64 0))] [(0, 1, (.c (.int .i64 2))), (1, 1, (.t 26))], none, []⟩,
 ⟨some 28, .bslice 1 [(.lit (.int .i64 0)), (.lit (.int .i64 0))] [(0, 2, (.t 27))], none, []⟩,
 ⟨some 6, .mov (.t 28), none, []⟩] [6])
 (.ret))
 (.seq (.region none [⟨some 30, .bin .eql (.t 13) (.c (.int .i64 12)), none, []⟩,
 ⟨some 29, .mov (.t 30), none, []⟩] [1, 2, 3, 13, 29])
 (.cond (.t 29)
 (.seq (.region none [⟨some 31, .fieldAddr 2 (.t 3), none, []⟩,
 ⟨some 32, .load false 1 (.t 31), none, []⟩,
 ⟨some 33, .call 157 [(.t 32)], none, []⟩,
 ⟨some 34, .build [(.lit (.int .i64 0)), (.lit (.int .i64 0))] [(0, 1, (.t 33))], none, []⟩,
 ⟨some 35, .bslice 1 [(.lit (.int .i64 0)), (.lit (.int .i64 0))] [(0, 2, (.t 34))], none, []⟩,
 ⟨some 6, .mov (.t 35), none, []⟩] [6])
 (.ret))
 (.seq (.region none [⟨some 37, .bin .eql (.t 13) (.c (.int .i64 14)), none, []⟩,
 ⟨some 36, .mov (.t 37), none, []⟩] [1, 2, 3, 13, 36])
 (.cond (.t 36)
 (.seq (.region none [⟨some 38, .load true 4 (.t 3), none, []⟩,
 ⟨some 39, .mov (.t 1), none, []⟩,
 ⟨some 40, .mov (.t 2), none, []⟩,
 ⟨some 41, .call 158 [(.t 38), (.t 39), (.t 40)], none, []⟩,
 ⟨some 6, .mov (.t 41), none, []⟩] [6])
 (.ret))
 (.seq (.region none [⟨some 43, .bin .eql (.t 13) (.c (.int .i64 3)), none, []⟩,
 ⟨some 42, .mov (.t 43), none, []⟩] [1, 2, 3, 13, 42])
 (.cond (.t 42)
 (.seq (.region (some []) [⟨some 44, .fieldAddr 3 (.t 3), none, []⟩,
 ⟨some 45, .load false 1 (.t 44), none, []⟩,
 ⟨some 46, .indexAddr 4 (.t 45) (.c (.int .i64 0)), none, []⟩,
 ⟨some 47, .load true 4 (.t 46), none, []⟩,
 ⟨some 48, .fieldAddr 3 (.t 3), none, []⟩,
 ⟨some 49, .load false 1 (.t 48), none, []⟩,
 ⟨some 50, .slice 4 (.t 49) (some (.c (.int .i64 1))) (some (.c (.int .i64 2))), none, []⟩,
 ⟨some 51, .fieldAddr 3 (.t 3), none, []⟩,
 ⟨some 52, .load false 1 (.t 51), none, []⟩,
 ⟨some 53, .slice 4 (.t 52) (some (.c (.int .i64 2))) (some (.c (.int .i64 3))), none, []⟩,
 ⟨some 54, .mov (.t 1), none, []⟩,
 ⟨some 55, .mov (.t 2), none, []⟩,
 ⟨some 56, .call 159 [(.t 47), (.t 50), (.c (.int .i64 0)), (.t 53), (.c (.int .i64 0)), (.t 54), (.t 55)], none, []⟩,
 ⟨some 6, .mov (.t 56), none, []⟩] [6] [12])
 (.ret))
 (.seq (.region none [⟨some 58, .bin .eql (.t 13) (.c (.int .i64 6)), none, []⟩,
 ⟨some 57, .mov (.t 58), none, []⟩] [1, 2, 3, 13, 57])
 (.cond (.t 57)
 (.seq (.region none [⟨some 59, .build [(.lit (.int .i64 0)), (.lit (.int .i64 0))] [(0, 1, (.c (.int .i64 21)))], none, []⟩,
 ⟨some 60, .bslice 1 [(.lit (.int .i64 0)), (.lit (.int .i64 0))] [(0, 2, (.t 59))], none, []⟩,
 ⟨some 6, .mov (.t 60), none, []⟩] [6])
 (.ret))
 (.seq (.region none [⟨some 62, .bin .eql (.t 13) (.c (.int .i64 4)), none, []⟩,
 ⟨some 61, .mov (.t 62), none, []⟩] [1, 2, 3, 61])
 (.cond (.t 61)
 (.seq (.region none [⟨some 63, .fieldAddr 3 (.t 3), none, []⟩,
 ⟨some 64, .load false 1 (.t 63), none, []⟩,
 ⟨some 65, .indexAddr 4 (.t 64) (.c (.int .i64 0)), none, []⟩,
 ⟨some 66, .load true 4 (.t 65), none, []⟩,
 ⟨some 67, .mov (.t 1), none, []⟩,
 ⟨some 68, .mov (.t 2), none, []⟩,
 ⟨some 69, .call 135 [(.t 66), (.t 67), (.t 68)], none, []⟩,
 ⟨some 7, .mov (.t 69), none, []⟩] [1, 2, 3, 7])
 (.seq (.region none [⟨some 70, .fieldAddr 3 (.t 3), none, []⟩,
 ⟨some 71, .load false 1 (.t 70), none, []⟩,
 ⟨some 72, .indexAddr 4 (.t 71) (.c (.int .i64 1)), none, []⟩,
 ⟨some 73, .load true 4 (.t 72), none, []⟩,
 ⟨some 74, .mov (.t 1), none, []⟩,
 ⟨some 75, .mov (.t 2), none, []⟩,
 ⟨some 76, .mov (.t 7), none, []⟩,
 ⟨some 77, .len .sl (.t 76), none, []⟩,
 ⟨some 78, .bin .add (.t 75) (.t 77), none, []⟩,
 ⟨some 79, .bin .add (.t 78) (.c (.int .i64 1)), none, []⟩,
 ⟨some 80, .call 135 [(.t 73), (.t 74), (.t 79)], none, []⟩,
 ⟨some 8, .mov (.t 80), none, []⟩] [2, 7, 8])
 (.seq (.region none [⟨some 81, .mov (.t 2), none, []⟩,
 ⟨some 82, .mov (.t 7), none, []⟩,
 ⟨some 83, .len .sl (.t 82), none, []⟩,
 ⟨some 84, .bin .add (.t 81) (.t 83), none, []⟩,
 ⟨some 85, .bin .add (.t 84) (.c (.int .i64 1)), none, []⟩,
 ⟨some 86, .mov (.t 8), none, []⟩,
 ⟨some 87, .len .sl (.t 86), none, []⟩,
 ⟨some 88, .bin .add (.t 85) (.t 87), none, []⟩,
 ⟨some 89, .bin .add (.t 88) (.c (.int .i64 1)), none, []⟩,
 ⟨some 9, .mov (.t 89), none, []⟩] [2, 7, 8, 9])
 (.seq (.region none [⟨some 90, .mov (.t 7), none, []⟩,
 ⟨some 91, .mov (.t 9), none, []⟩,
 ⟨some 92, .build [(.lit (.int .i64 0)), (.lit (.int .i64 0))] [(0, 1, (.c (.int .i64 19))), (1, 1, (.t 91))], none, []⟩,
 ⟨some 93, .bslice 1 [(.lit (.int .i64 0)), (.lit (.int .i64 0))] [(0, 2, (.t 92))], none, []⟩,
 ⟨some 94, .append 2 16 (.t 90) (.t 93), none, []⟩,
 ⟨some 10, .mov (.t 94), none, []⟩] [2, 8, 10])
 (.seq (.region none [⟨some 95, .mov (.t 10), none, []⟩,
 ⟨some 96, .mov (.t 8), none, []⟩,
 ⟨some 97, .append 2 16 (.t 95) (.t 96), none, []⟩,
 ⟨some 10, .mov (.t 97), none, []⟩] [2, 10])
 (.seq (.region none [⟨some 98, .mov (.t 10), none, []⟩,
 ⟨some 99, .mov (.t 2), none, []⟩,
 ⟨some 100, .build [(.lit (.int .i64 0)), (.lit (.int .i64 0))] [(0, 1, (.c (.int .i64 18))), (1, 1, (.t 99))], none, []⟩,
 ⟨some 101, .bslice 1 [(.lit (.int .i64 0)), (.lit (.int .i64 0))] [(0, 2, (.t 100))], none, []⟩,
 ⟨some 102, .append 2 16 (.t 98) (.t 101), none, []⟩,
 ⟨some 6, .mov (.t 102), none, []⟩] [6])
 (.ret)))))))
 (.skip)))))))))))))))))
 (.seq (.region none [⟨some 103, .fieldAddr 3 (.t 3), none, []⟩,
 ⟨some 104, .load false 1 (.t 103), none, []⟩,
 ⟨some 105, .mov (.t 1), none, []⟩,
 ⟨some 106, .mov (.t 2), none, []⟩,
 ⟨some 107, .call 160 [(.t 104), (.t 105), (.t 106)], none, []⟩,
 ⟨some 11, .mov (.t 107), none, []⟩] [1, 3, 11])
 (.seq (.seq (.region none [⟨some 108, .fieldAddr 0 (.t 3), none, []⟩,
 ⟨some 109, .load false 1 (.t 108), none, []⟩] [1, 3, 11, 109])
 (.block 1 (.seq (.region none [⟨some 111, .bin .eql (.t 109) (.c (.int .i64 11)), none, []⟩,
 ⟨some 110, .mov (.t 111), none, []⟩] [1, 3, 11, 109, 110])
 (.cond (.t 110)
 (.region none [⟨some 112, .mov (.t 11), none, []⟩,
 ⟨some 113, .fieldAddr 2 (.t 3), none, []⟩,
 ⟨some 114, .load false 1 (.t 113), none, []⟩,
 ⟨some 115, .call 161 [(.t 114)], none, []⟩,
 ⟨some 116, .build [(.lit (.int .i64 0)), (.lit (.int .i64 0))] [(0, 1, (.c (.int .i64 4))), (1, 1, (.t 115))], none, []⟩,
 ⟨some 117, .bslice 1 [(.lit (.int .i64 0)), (.lit (.int .i64 0))] [(0, 2, (.t 116))], none, []⟩,
 ⟨some 118, .append 2 16 (.t 112) (.t 117), none, []⟩,
 ⟨some 11, .mov (.t 118), none, []⟩] [11])
 (.seq (.region none [⟨some 120, .bin .eql (.t 109) (.c (.int .i64 2)), none, []⟩,
 ⟨some 119, .mov (.t 120), none, []⟩] [1, 3, 11, 109, 119])
 (.cond (.t 119)
 (.region none [⟨some 121, .mov (.t 11), none, []⟩,
 ⟨some 122, .fieldAddr 2 (.t 3), none, []⟩,
 ⟨some 123, .load false 1 (.t 122), none, []⟩,
 ⟨some 124, .call 161 [(.t 123)], none, []⟩,
 ⟨some 125, .build [(.lit (.int .i64 0)), (.lit (.int .i64 0))] [(0, 1, (.c (.int .i64 5))), (1, 1, (.t 124))], none, []⟩,
 ⟨some 126, .bslice 1 [(.lit (.int .i64 0)), (.lit (.int .i64 0))] [(0, 2, (.t 125))], none, []⟩,
 ⟨some 127, .append 2 16 (.t 121) (.t 126), none, []⟩,
 ⟨some 11, .mov (.t 127), none, []⟩] [11])
 (.seq (.region none [⟨some 129, .bin .eql (.t 109) (.c (.int .i64 13)), none, []⟩,
 ⟨some 128, .mov (.t 129), none, []⟩] [1, 3, 11, 109, 128])
 (.cond (.t 128)
 (.seq (.region none [⟨some 130, .fieldAddr 2 (.t 3), none, []⟩,
 ⟨some 131, .load false 1 (.t 130), none, []⟩,
 ⟨some 132, .bin .eql (.t 131) (.c (.string ⟨#[45]⟩)), none, []⟩] [11, 132])
 (.cond (.t 132)
 (.region none [⟨some 133, .mov (.t 11), none, []⟩,
 ⟨some 134, .build [(.lit (.int .i64 0)), (.lit (.int .i64 0))] [(0, 1, (.c (.int .i64 13)))], none, []⟩,
 ⟨some 135, .bslice 1 [(.lit (.int .i64 0)), (.lit (.int .i64 0))] [(0, 2, (.t 134))], none, []⟩,
 ⟨some 136, .append 2 16 (.t 133) (.t 135), none, []⟩,
 ⟨some 11, .mov (.t 136), none, []⟩] [11])
 (.region none [⟨some 137, .mov (.t 11), none, []⟩,
 ⟨some 138, .build [(.lit (.int .i64 0)), (.lit (.int .i64 0))] [(0, 1, (.c (.int .i64 17)))], none, []⟩,
 ⟨some 139, .bslice 1 [(.lit (.int .i64 0)), (.lit (.int .i64 0))] [(0, 2, (.t 138))], none, []⟩,
 ⟨some 140, .append 2 16 (.t 137) (.t 139), none, []⟩,
 ⟨some 11, .mov (.t 140), none, []⟩] [11])))
 (.seq (.region none [⟨some 142, .bin .eql (.t 109) (.c (.int .i64 1)), none, []⟩,
 ⟨some 141, .mov (.t 142), none, []⟩] [1, 3, 11, 109, 141])
 (.cond (.t 141)
 (.region none [⟨some 143, .mov (.t 11), none, []⟩,
 ⟨some 144, .mov (.t 1), none, []⟩,
 ⟨some 145, .fieldAddr 2 (.t 3), none, []⟩,
 ⟨some 146, .load false 1 (.t 145), none, []⟩,
 ⟨some 147, .call 156 [(.t 144), (.t 146)], none, []⟩,
 ⟨some 148, .build [(.lit (.int .i64 0)), (.lit (.int .i64 0))] [(0, 1, (.c (.int .i64 3))), (1, 1, (.t 147))], none, []⟩,
 ⟨some 149, .bslice 1 [(.lit (.int .i64 0)), (.lit (.int .i64 0))] [(0, 2, (.t 148))], none, []⟩,
 ⟨some 150, .append 2 16 (.t 143) (.t 149), none, []⟩,
 ⟨some 11, .mov (.t 150), none, []⟩] [11])
 (.seq (.region none [⟨some 152, .bin .eql (.t 109) (.c (.int .i64 5)), none, []⟩,
 ⟨some 151, .mov (.t 152), none, []⟩] [11, 151])
 (.cond (.t 151)
 (.region none [⟨some 153, .mov (.t 11), none, []⟩,
 ⟨some 154, .build [(.lit (.int .i64 0)), (.lit (.int .i64 0))] [(0, 1, (.c (.int .i64 20)))], none, []⟩,
 ⟨some 155, .bslice 1 [(.lit (.int .i64 0)), (.lit (.int .i64 0))] [(0, 2, (.t 154))], none, []⟩,
 ⟨some 156, .append 2 16 (.t 153) (.t 155), none, []⟩,
 ⟨some 11, .mov (.t 156), none, []⟩] [11])
 (.skip)))))))))))))
 (.seq (.region none [⟨some 157, .mov (.t 11), none, []⟩,
 ⟨some 6, .mov (.t 157), none, []⟩] [6])
 (.ret))))), true, false, false⟩
/-- arenanet/arenanetref01.Ints -/
def F23 : PFun := ⟨2, [.tmp 4],
 .seq (.region none [⟨some 4, .mov (.c (.slice none 0 0)), none, []⟩] [0, 1])
 (.seq (.region none [⟨some 5, .mov (.c (.slice none 0 0)), none, []⟩] [0, 1, 5])
 (.seq (.region none [⟨some 6, .mov (.t 5), none, []⟩,
 ⟨some 7, .mov (.t 0), none, []⟩,
 ⟨some 8, .mov (.t 0), none, []⟩,
 ⟨some 9, .len .sl (.t 8), none, []⟩,
 ⟨some 10, .mov (.t 1), none, []⟩,
 ⟨some 11, .min [(.t 9), (.t 10)], none, []⟩,
 ⟨some 12, .slice 1 (.t 7) none (some (.t 11)), none, []⟩,
 ⟨some 13, .append 1 8 (.t 6) (.t 12), none, []⟩,
 ⟨some 4, .mov (.t 13), none, []⟩] [4])
 (.ret))), false, false, false⟩
/-- (*arenanet/arenanetref13.G).pick -/
def F136 : PFun := ⟨2, [.tmp 4],
 .seq (.region none [⟨some 4, .mov (.c (.int .i64 0)), none, []⟩] [0, 1])
 (.seq (.seq (.region (some []) [⟨some 6, .mov (.t 0), none, []⟩,
 ⟨some 7, .nilchk (.t 6), none, []⟩,
 ⟨some 8, .fieldAddr 1 (.t 7), none, []⟩,
 ⟨some 9, .load false 1 (.t 8), none, []⟩,
 ⟨some 10, .mov (.t 0), none, []⟩,
 ⟨some 11, .nilchk (.t 10), none, []⟩,
 ⟨some 12, .fieldAddr 0 (.t 11), none, []⟩,
 ⟨some 13, .load false 1 (.t 12), none, []⟩,
 ⟨some 14, .len .sl (.t 13), none, []⟩,
 ⟨some 15, .bin .geq (.t 9) (.t 14), none, []⟩] [0, 1, 15])
 (.cond (.t 15)
 (.seq (.region none [⟨some 4, .mov (.c (.int .i64 0)), none, []⟩] [4])
 (.ret))
 (.skip)))
 (.seq (.region (some []) [⟨some 16, .mov (.t 0), none, []⟩,
 ⟨some 17, .nilchk (.t 16), none, []⟩,
 ⟨some 18, .fieldAddr 0 (.t 17), none, []⟩,
 ⟨some 19, .load false 1 (.t 18), none, []⟩,
 ⟨some 20, .mov (.t 0), none, []⟩,
 ⟨some 21, .nilchk (.t 20), none, []⟩,
 ⟨some 22, .fieldAddr 1 (.t 21), none, []⟩,
 ⟨some 23, .load false 1 (.t 22), none, []⟩,
 ⟨some 24, .indexAddr 1 (.t 19) (.t 23), none, []⟩,
 ⟨some 25, .load false 1 (.t 24), none, []⟩,
 ⟨some 26, .call 17 [(.t 25), (.c (.int .i64 1000000))], none, []⟩,
 ⟨some 5, .mov (.t 26), none, []⟩] [0, 1, 5] [10])
 (.seq (.region none [⟨some 27, .mov (.t 0), none, []⟩,
 ⟨some 28, .nilchk (.t 27), none, []⟩,
 ⟨some 29, .fieldAddr 1 (.t 28), none, []⟩,
 ⟨some 30, .load false 1 (.t 29), none, []⟩,
 ⟨some 31, .bin .add (.t 30) (.c (.int .i64 1)), none, []⟩,
 ⟨some 32, .nilchk (.t 27), none, []⟩,
 ⟨some 33, .fieldAddr 1 (.t 32), none, []⟩,
 ⟨none, .store 1 (.t 33) (.t 31), none, []⟩] [1, 5])
 (.seq (.region none [⟨some 34, .mov (.t 5), none, []⟩,
 ⟨some 35, .mov (.t 1), none, []⟩,
 ⟨some 36, .bin .rem (.t 34) (.t 35), none, []⟩,
 ⟨some 4, .mov (.t 36), none, []⟩] [4])
 (.ret))))), false, false, false⟩
@[simp] def F137l0x : PC := (.seq (.seq (.region none [⟨some 14, .mov (.t 8), none, []⟩,
 ⟨some 15, .bin .gtr (.t 14) (.c (.int .i64 0)), none, []⟩] [0, 1, 6, 7, 8, 15])
 (.cond (.t 15)
 (.skip)
 (.exit 0)))
 (.seq (.block 1 (.region (some []) [⟨some 18, .fieldAddr 3 (.t 7), none, []⟩,
 ⟨some 19, .load false 1 (.t 18), none, [4]⟩,
 ⟨some 20, .mov (.t 0), none, []⟩,
 ⟨some 21, .mov (.t 1), none, []⟩,
 ⟨some 22, .call 162 [(.t 20), (.t 21)], none, []⟩,
 ⟨some 23, .bslice 1 [(.lit (.int .i64 0)), (.lit (.int .i64 0)), (.lit (.string ⟨#[]⟩)), (.lit (.slice none 0 0))] [(0, 4, (.t 22))], none, []⟩,
 ⟨some 24, .append 4 56 (.t 19) (.t 23), none, []⟩,
 ⟨some 25, .fieldAddr 3 (.t 7), none, []⟩,
 ⟨none, .store 1 (.t 25) (.t 24), none, []⟩] [0, 1, 6, 7, 8] [4]))
 (.region none [⟨some 16, .mov (.t 8), none, []⟩,
 ⟨some 17, .bin .sub (.t 16) (.c (.int .i64 1)), none, []⟩,
 ⟨some 8, .mov (.t 17), none, []⟩] [0, 1, 6, 7, 8])))
def F137l0 : PC := F137l0x
theorem run_F137l0 (C : Task → Option Res) (k : Nat) (fr : Fr) (σ : S) : run C k F137l0 fr σ = run C k F137l0x fr σ := rfl
/-- (*arenanet/arenanetref13.G).block -/
def F137 : PFun := ⟨3, [.cell 6 true 4],
 .seq (.region none [⟨some 6, .alloc [(.lit (.int .i64 0)), (.lit (.int .i64 0)), (.lit (.string ⟨#[]⟩)), (.lit (.slice none 0 0))], none, []⟩] [0, 1, 2, 6])
 (.seq (.region none [⟨some 9, .build [(.lit (.int .i64 0)), (.lit (.int .i64 0)), (.lit (.string ⟨#[]⟩)), (.lit (.slice none 0 0))] [(0, 1, (.c (.int .i64 7)))], none, []⟩,
 ⟨some 7, .alloc [(.lit (.int .i64 0)), (.lit (.int .i64 0)), (.lit (.string ⟨#[]⟩)), (.lit (.slice none 0 0))], none, []⟩,
 ⟨none, .store 4 (.t 7) (.t 9), none, []⟩] [0, 1, 2, 6, 7])
 (.seq (.seq (.region none [⟨some 10, .mov (.t 0), none, []⟩,
 ⟨some 11, .mov (.t 2), none, []⟩,
 ⟨some 12, .bin .add (.t 11) (.c (.int .i64 1)), none, []⟩,
 ⟨some 13, .call 136 [(.t 10), (.t 12)], none, []⟩,
 ⟨some 8, .mov (.t 13), none, []⟩] [0, 1, 6, 7, 8])
 (.block 0 (.loop F137l0)))
 (.seq (.region none [⟨some 26, .load true 4 (.t 7), none, []⟩,
 ⟨none, .store 4 (.t 6) (.t 26), none, []⟩] [6])
 (.ret)))), false, false, false⟩
/-- arenanet/compile.valid -/
def F138 : PFun := ⟨2, [.tmp 4],
 .seq (.region none [⟨some 2, .box (.t 0), none, []⟩,
 ⟨some 4, .mov (.c (.bool false)), none, []⟩] [1, 2])
 (.seq (.seq (.region none [⟨some 7, .fieldAddr 0 (.t 2), none, []⟩,
 ⟨some 8, .load false 1 (.t 7), none, []⟩,
 ⟨some 9, .call 163 [(.t 8)], none, []⟩,
 ⟨some 10, .un .not (.t 9), none, []⟩] [1, 2, 10])
 (.cond (.t 10)
 (.seq (.region none [⟨some 4, .mov (.c (.bool false)), none, []⟩] [4])
 (.ret))
 (.skip)))
 (.seq (.region none [⟨some 5, .mov (.c (.int .i64 0)), none, []⟩,
 ⟨some 6, .mov (.c (.int .i64 0)), none, []⟩] [1, 2, 5, 6])
 (.seq (.seq (.region none [⟨some 11, .fieldAddr 0 (.t 2), none, []⟩,
 ⟨some 12, .load false 1 (.t 11), none, []⟩] [1, 2, 5, 6, 12])
 (.block 0 (.seq (.region none [⟨some 14, .bin .eql (.t 12) (.c (.int .i64 1)), none, []⟩,
 ⟨some 13, .mov (.t 14), none, []⟩] [1, 2, 5, 6, 12, 13])
 (.cond (.t 13)
 (.region none [⟨some 5, .mov (.c (.int .i64 (-2147483647))), none, []⟩,
 ⟨some 6, .mov (.c (.int .i64 2147483647)), none, []⟩] [2, 5, 6])
 (.seq (.seq (.region none [⟨some 16, .bin .eql (.t 12) (.c (.int .i64 2)), none, []⟩,
 ⟨some 15, .mov (.t 16), none, []⟩] [1, 2, 5, 6, 12, 15])
 (.cond (.t 15)
 (.skip)
 (.region none [⟨some 17, .bin .eql (.t 12) (.c (.int .i64 3)), none, []⟩,
 ⟨some 15, .mov (.t 17), none, []⟩] [1, 2, 5, 6, 12, 15])))
 (.cond (.t 15)
 (.region none [⟨some 6, .mov (.c (.int .i64 15)), none, []⟩] [2, 5, 6])
 (.seq (.region none [⟨some 19, .bin .eql (.t 12) (.c (.int .i64 4)), none, []⟩,
 ⟨some 18, .mov (.t 19), none, []⟩] [1, 2, 5, 6, 12, 18])
 (.cond (.t 18)
 (.region none [⟨some 6, .mov (.c (.int .i64 7)), none, []⟩] [2, 5, 6])
 (.seq (.region none [⟨some 21, .bin .eql (.t 12) (.c (.int .i64 5)), none, []⟩,
 ⟨some 20, .mov (.t 21), none, []⟩] [1, 2, 5, 6, 12, 20])
 (.cond (.t 20)
 (.region none [⟨some 6, .mov (.c (.int .i64 5)), none, []⟩] [2, 5, 6])
 (.seq (.seq (.region none [⟨some 23, .bin .eql (.t 12) (.c (.int .i64 18)), none, []⟩,
 ⟨some 22, .mov (.t 23), none, []⟩] [1, 2, 5, 6, 12, 22])
 (.cond (.t 22)
 (.skip)
 (.region none [⟨some 24, .bin .eql (.t 12) (.c (.int .i64 19)), none, []⟩,
 ⟨some 22, .mov (.t 24), none, []⟩] [1, 2, 5, 6, 22])))
 (.cond (.t 22)
 (.region none [⟨some 25, .mov (.t 1), none, []⟩,
 ⟨some 26, .bin .sub (.t 25) (.c (.int .i64 1)), none, []⟩,
 ⟨some 6, .mov (.t 26), none, []⟩] [2, 5, 6])
 (.skip)))))))))))))
 (.seq (.region none [⟨some 27, .mov (.t 5), none, []⟩,
 ⟨some 28, .fieldAddr 1 (.t 2), none, []⟩,
 ⟨some 29, .load false 1 (.t 28), none, []⟩,
 ⟨some 30, .bin .leq (.t 27) (.t 29), none, []⟩,
 ⟨some 31, .mov (.t 30), none, []⟩,
 ⟨some 32, .fieldAddr 1 (.t 2), some (31, true), []⟩,
 ⟨some 33, .load false 1 (.t 32), some (31, true), []⟩,
 ⟨some 34, .mov (.t 6), some (31, true), []⟩,
 ⟨some 35, .bin .leq (.t 33) (.t 34), some (31, true), []⟩,
 ⟨some 36, .pick (.t 31) (.t 35) (.c (.bool false)), none, []⟩,
 ⟨some 4, .mov (.t 36), none, []⟩] [4])
 (.ret))))), false, false, false⟩
@[simp] def F139l1x : PC := (.seq (.region none [⟨some 71, .bin .lss (.t 70) (.t 69), none, []⟩] [2, 4, 5, 6, 7, 10, 68, 69, 70, 71])
 (.seq (.cond (.t 71)
 (.skip)
 (.exit 2))
 (.seq (.block 3 (.seq (.region none [⟨some 72, .indexAddr 1 (.t 68) (.t 70), none, []⟩,
 ⟨some 73, .load false 1 (.t 72), none, []⟩,
 ⟨some 12, .mov (.t 73), none, []⟩] [2, 4, 5, 6, 7, 10, 12, 68, 69, 70])
 (.block 4 (.seq (.region none [⟨some 75, .mov (.t 12), none, []⟩,
 ⟨some 76, .fieldAddr 0 (.t 2), none, []⟩,
 ⟨some 77, .load false 1 (.t 76), none, []⟩,
 ⟨some 78, .len .sl (.t 77), none, []⟩,
 ⟨some 79, .bin .eql (.t 75) (.t 78), none, []⟩,
 ⟨some 74, .mov (.t 79), none, []⟩] [2, 4, 5, 6, 7, 10, 12, 68, 69, 70, 74])
 (.cond (.t 74)
 (.region none [⟨some 80, .fieldAddr 0 (.t 5), none, []⟩,
 ⟨none, .store 1 (.t 80) (.c (.bool true)), none, []⟩] [2, 4, 5, 6, 7, 10, 68, 69, 70])
 (.seq (.region none [⟨some 82, .mov (.t 6), none, []⟩,
 ⟨some 83, .mov (.t 12), none, []⟩,
 ⟨some 84, .indexAddr 1 (.t 82) (.t 83), none, []⟩,
 ⟨some 85, .load false 1 (.t 84), none, []⟩,
 ⟨some 86, .bin .eql (.t 85) (.c (.int .i64 0)), none, []⟩,
 ⟨some 81, .mov (.t 86), none, []⟩] [2, 4, 5, 6, 7, 10, 12, 68, 69, 70, 81])
 (.cond (.t 81)
 (.seq (.region none [⟨some 87, .mov (.t 6), none, []⟩,
 ⟨some 88, .mov (.t 12), none, []⟩,
 ⟨some 89, .mov (.t 10), none, []⟩,
 ⟨some 90, .max [(.t 89), (.c (.int .i64 0))], none, []⟩,
 ⟨some 91, .bin .add (.t 90) (.c (.int .i64 1)), none, []⟩,
 ⟨some 92, .indexAddr 1 (.t 87) (.t 88), none, []⟩,
 ⟨none, .store 1 (.t 92) (.t 91), none, []⟩] [2, 4, 5, 6, 7, 10, 12, 68, 69, 70])
 (.region none [⟨some 93, .mov (.t 7), none, []⟩,
 ⟨some 94, .mov (.t 12), none, []⟩,
 ⟨some 95, .bsliceO 1 1 [(.lit (.int .i64 0))] [(0, 1, (.t 94))], none, []⟩,
 ⟨some 96, .appendO 1 8 (.t 93) (.t 95), none, []⟩,
 ⟨some 7, .mov (.t 96), none, []⟩] [2, 4, 5, 6, 7, 10, 68, 69, 70]))
 (.seq (.region none [⟨some 98, .mov (.t 6), none, []⟩,
 ⟨some 99, .mov (.t 12), none, []⟩,
 ⟨some 100, .indexAddr 1 (.t 98) (.t 99), none, []⟩,
 ⟨some 101, .load false 1 (.t 100), none, []⟩,
 ⟨some 102, .mov (.t 10), none, []⟩,
 ⟨some 103, .bin .add (.t 102) (.c (.int .i64 1)), none, []⟩,
 ⟨some 104, .bin .neq (.t 101) (.t 103), none, []⟩,
 ⟨some 97, .mov (.t 104), none, []⟩] [2, 4, 5, 6, 7, 10, 68, 69, 70, 97])
 (.cond (.t 97)
 (.region none [⟨some 105, .fieldAddr 1 (.t 5), none, []⟩,
 ⟨none, .store 1 (.t 105) (.c (.bool true)), none, []⟩] [2, 4, 5, 6, 7, 10, 68, 69, 70])
 (.skip))))))))))
 (.region none [⟨some 106, .bin .add (.t 70) (.c (.int .i64 1)), none, []⟩,
 ⟨some 70, .mov (.t 106), none, []⟩] [2, 4, 5, 6, 7, 10, 68, 69, 70]))))
def F139l1 : PC := F139l1x
theorem run_F139l1 (C : Task → Option Res) (k : Nat) (fr : Fr) (σ : S) : run C k F139l1 fr σ = run C k F139l1x fr σ := rfl
@[simp] def F139l0x : PC := (.seq (.seq (.region none [⟨some 22, .mov (.t 7), none, []⟩,
 ⟨some 23, .len .sl (.t 22), none, []⟩,
 ⟨some 24, .bin .gtr (.t 23) (.c (.int .i64 0)), none, []⟩] [2, 4, 5, 6, 7, 24])
 (.cond (.t 24)
 (.skip)
 (.exit 0)))
 (.block 1 (.seq (.region none [⟨some 25, .mov (.t 7), none, []⟩,
 ⟨some 26, .mov (.t 7), none, []⟩,
 ⟨some 27, .len .sl (.t 26), none, []⟩,
 ⟨some 28, .bin .sub (.t 27) (.c (.int .i64 1)), none, []⟩,
 ⟨some 29, .indexAddr 1 (.t 25) (.t 28), none, []⟩,
 ⟨some 30, .load false 1 (.t 29), none, []⟩,
 ⟨some 8, .mov (.t 30), none, []⟩] [2, 4, 5, 6, 7, 8])
 (.seq (.region none [⟨some 31, .mov (.t 7), none, []⟩,
 ⟨some 32, .mov (.t 7), none, []⟩,
 ⟨some 33, .len .sl (.t 32), none, []⟩,
 ⟨some 34, .bin .sub (.t 33) (.c (.int .i64 1)), none, []⟩,
 ⟨some 35, .cut 1 (.t 31) none (some (.t 34)), none, []⟩,
 ⟨some 7, .mov (.t 35), none, []⟩] [2, 4, 5, 6, 7, 8])
 (.seq (.region none [⟨some 36, .fieldAddr 0 (.t 2), none, []⟩,
 ⟨some 37, .load false 1 (.t 36), none, []⟩,
 ⟨some 38, .mov (.t 8), none, []⟩,
 ⟨some 39, .indexAddr 2 (.t 37) (.t 38), none, []⟩,
 ⟨some 40, .fieldAddr 0 (.t 39), none, []⟩,
 ⟨some 41, .load false 1 (.t 40), none, []⟩,
 ⟨some 42, .indexAddrA 22 2 (.g G_arenanet_compile_effects) (.t 41), none, []⟩,
 ⟨some 43, .load true 2 (.t 42), none, []⟩,
 ⟨some 9, .alloc [(.lit (.int .i64 0)), (.lit (.int .i64 0))], none, []⟩,
 ⟨none, .store 2 (.t 9) (.t 43), none, []⟩] [2, 4, 5, 6, 7, 8, 9])
 (.seq (.region none [⟨some 44, .mov (.t 6), none, []⟩,
 ⟨some 45, .mov (.t 8), none, []⟩,
 ⟨some 46, .indexAddr 1 (.t 44) (.t 45), none, []⟩,
 ⟨some 47, .load false 1 (.t 46), none, []⟩,
 ⟨some 48, .bin .sub (.t 47) (.c (.int .i64 1)), none, []⟩,
 ⟨some 10, .mov (.t 48), none, []⟩] [2, 4, 5, 6, 7, 8, 9, 10])
 (.seq (.seq (.region none [⟨some 49, .mov (.t 10), none, []⟩,
 ⟨some 50, .fieldAddr 0 (.t 9), none, []⟩,
 ⟨some 51, .load false 1 (.t 50), none, []⟩,
 ⟨some 52, .bin .lss (.t 49) (.t 51), none, []⟩] [2, 4, 5, 6, 7, 8, 9, 10, 52])
 (.cond (.t 52)
 (.region none [⟨some 53, .fieldAddr 1 (.t 5), none, []⟩,
 ⟨none, .store 1 (.t 53) (.c (.bool true)), none, []⟩] [2, 4, 5, 6, 7, 8, 9, 10])
 (.skip)))
 (.seq (.region none [⟨some 54, .mov (.t 10), none, []⟩,
 ⟨some 55, .fieldAddr 1 (.t 9), none, []⟩,
 ⟨some 56, .load false 1 (.t 55), none, []⟩,
 ⟨some 57, .fieldAddr 0 (.t 9), none, []⟩,
 ⟨some 58, .load false 1 (.t 57), none, []⟩,
 ⟨some 59, .bin .sub (.t 56) (.t 58), none, []⟩,
 ⟨some 60, .bin .add (.t 54) (.t 59), none, []⟩,
 ⟨some 10, .mov (.t 60), none, []⟩] [2, 4, 5, 6, 7, 8, 10])
 (.seq (.region none [⟨some 61, .fieldAddr 2 (.t 5), none, []⟩,
 ⟨some 62, .load false 1 (.t 61), none, []⟩,
 ⟨some 63, .mov (.t 10), none, []⟩,
 ⟨some 64, .max [(.t 62), (.t 63)], none, []⟩,
 ⟨some 65, .fieldAddr 2 (.t 5), none, []⟩,
 ⟨none, .store 1 (.t 65) (.t 64), none, []⟩] [2, 4, 5, 6, 7, 8, 10])
 (.seq (.region none [⟨some 66, .load true 4 (.t 2), none, []⟩,
 ⟨some 67, .mov (.t 8), none, []⟩,
 ⟨some 68, .call 164 [(.t 66), (.t 67)], none, []⟩,
 ⟨some 69, .len .sl (.t 68), none, []⟩,
 ⟨some 70, .mov (.c (.int .i64 0)), none, []⟩] [2, 4, 5, 6, 7, 10, 68, 69, 70])
 (.block 2 (.loop F139l1))))))))))))
def F139l0 : PC := F139l0x
theorem run_F139l0 (C : Task → Option Res) (k : Nat) (fr : Fr) (σ : S) : run C k F139l0 fr σ = run C k F139l0x fr σ := rfl
/-- arenanet/compile.newAnalysis -/
def F139 : PFun := ⟨2, [.cell 4 true 3],
 .seq (.region none [⟨some 2, .box (.t 0), none, []⟩,
 ⟨some 4, .alloc [(.lit (.bool false)), (.lit (.bool false)), (.lit (.int .i64 0))], none, []⟩] [1, 2, 4])
 (.seq (.region none [⟨some 5, .alloc [(.lit (.bool false)), (.lit (.bool false)), (.lit (.int .i64 0))], none, []⟩] [1, 2, 4, 5])
 (.seq (.region none [⟨some 13, .fieldAddr 0 (.t 2), none, []⟩,
 ⟨some 14, .load false 1 (.t 13), none, []⟩,
 ⟨some 15, .len .sl (.t 14), none, []⟩,
 ⟨some 16, .mkslice false [(.lit (.int .i64 0))] 8 (.t 15) (.t 15), none, []⟩,
 ⟨some 6, .mov (.t 16), none, []⟩] [1, 2, 4, 5, 6])
 (.seq (.region none [⟨some 17, .mov (.t 6), none, []⟩,
 ⟨some 18, .mov (.t 1), none, []⟩,
 ⟨some 19, .indexAddr 1 (.t 17) (.t 18), none, []⟩,
 ⟨none, .store 1 (.t 19) (.c (.int .i64 1)), none, []⟩] [1, 2, 4, 5, 6])
 (.seq (.seq (.region none [⟨some 20, .mov (.t 1), none, []⟩,
 ⟨some 21, .bsliceO 1 1 [(.lit (.int .i64 0))] [(0, 1, (.t 20))], none, []⟩,
 ⟨some 7, .mov (.t 21), none, []⟩] [2, 4, 5, 6, 7])
 (.block 0 (.loop F139l0)))
 (.seq (.region none [⟨some 107, .load true 3 (.t 5), none, []⟩,
 ⟨none, .store 3 (.t 4) (.t 107), none, []⟩] [4])
 (.ret)))))), false, false, false⟩
/-- (arenanet/compile.analysis).safe -/
def F140 : PFun := ⟨1, [.tmp 2],
 .seq (.region none [⟨some 1, .box (.t 0), none, []⟩,
 ⟨some 2, .mov (.c (.bool false)), none, []⟩] [1])
 (.seq (.region none [⟨some 3, .fieldAddr 1 (.t 1), none, []⟩,
 ⟨some 4, .load false 1 (.t 3), none, []⟩,
 ⟨some 5, .un .not (.t 4), none, []⟩,
 ⟨some 6, .mov (.t 5), none, []⟩,
 ⟨some 7, .fieldAddr 2 (.t 1), some (6, true), []⟩,
 ⟨some 8, .load false 1 (.t 7), some (6, true), []⟩,
 ⟨some 9, .bin .leq (.t 8) (.c (.int .i64 16)), some (6, true), []⟩,
 ⟨some 10, .pick (.t 6) (.t 9) (.c (.bool false)), none, []⟩,
 ⟨some 2, .mov (.t 10), none, []⟩] [2])
 (.ret)), false, false, false⟩
/-- arenanet/arenanetref15.operand -/
def F141 : PFun := ⟨2, [.tmp 4],
 .seq (.region none [⟨some 2, .box (.t 0), none, []⟩,
 ⟨some 4, .mov (.c (.bool false)), none, []⟩] [1, 2])
 (.seq (.seq (.region none [⟨some 5, .fieldAddr 0 (.t 2), none, []⟩,
 ⟨some 6, .load false 1 (.t 5), none, []⟩] [1, 2, 6])
 (.block 0 (.seq (.region none [⟨some 8, .bin .eql (.t 6) (.c (.int .i64 1)), none, []⟩,
 ⟨some 7, .mov (.t 8), none, []⟩] [1, 2, 6, 7])
 (.cond (.t 7)
 (.seq (.region none [⟨some 9, .fieldAddr 1 (.t 2), none, []⟩,
 ⟨some 10, .load false 1 (.t 9), none, []⟩,
 ⟨some 11, .bin .gtr (.t 10) (.c (.int .i64 (-2147483648))), none, []⟩,
 ⟨some 12, .mov (.t 11), none, []⟩,
 ⟨some 13, .fieldAddr 1 (.t 2), some (12, true), []⟩,
 ⟨some 14, .load false 1 (.t 13), some (12, true), []⟩,
 ⟨some 15, .bin .lss (.t 14) (.c (.int .i64 2147483648)), some (12, true), []⟩,
 ⟨some 16, .pick (.t 12) (.t 15) (.c (.bool false)), none, []⟩,
 ⟨some 4, .mov (.t 16), none, []⟩] [4])
 (.ret))
 (.seq (.seq (.region none [⟨some 18, .bin .eql (.t 6) (.c (.int .i64 2)), none, []⟩,
 ⟨some 17, .mov (.t 18), none, []⟩] [1, 2, 6, 17])
 (.cond (.t 17)
 (.skip)
 (.region none [⟨some 19, .bin .eql (.t 6) (.c (.int .i64 3)), none, []⟩,
 ⟨some 17, .mov (.t 19), none, []⟩] [1, 2, 6, 17])))
 (.cond (.t 17)
 (.seq (.region none [⟨some 20, .fieldAddr 1 (.t 2), none, []⟩,
 ⟨some 21, .load false 1 (.t 20), none, []⟩,
 ⟨some 22, .bin .geq (.t 21) (.c (.int .i64 0)), none, []⟩,
 ⟨some 23, .mov (.t 22), none, []⟩,
 ⟨some 24, .fieldAddr 1 (.t 2), some (23, true), []⟩,
 ⟨some 25, .load false 1 (.t 24), some (23, true), []⟩,
 ⟨some 26, .bin .lss (.t 25) (.c (.int .i64 16)), some (23, true), []⟩,
 ⟨some 27, .pick (.t 23) (.t 26) (.c (.bool false)), none, []⟩,
 ⟨some 4, .mov (.t 27), none, []⟩] [4])
 (.ret))
 (.seq (.region none [⟨some 29, .bin .eql (.t 6) (.c (.int .i64 4)), none, []⟩,
 ⟨some 28, .mov (.t 29), none, []⟩] [1, 2, 6, 28])
 (.cond (.t 28)
 (.seq (.region none [⟨some 30, .fieldAddr 1 (.t 2), none, []⟩,
 ⟨some 31, .load false 1 (.t 30), none, []⟩,
 ⟨some 32, .bin .geq (.t 31) (.c (.int .i64 0)), none, []⟩,
 ⟨some 33, .mov (.t 32), none, []⟩,
 ⟨some 34, .fieldAddr 1 (.t 2), some (33, true), []⟩,
 ⟨some 35, .load false 1 (.t 34), some (33, true), []⟩,
 ⟨some 36, .bin .lss (.t 35) (.c (.int .i64 8)), some (33, true), []⟩,
 ⟨some 37, .pick (.t 33) (.t 36) (.c (.bool false)), none, []⟩,
 ⟨some 4, .mov (.t 37), none, []⟩] [4])
 (.ret))
 (.seq (.region none [⟨some 39, .bin .eql (.t 6) (.c (.int .i64 5)), none, []⟩,
 ⟨some 38, .mov (.t 39), none, []⟩] [1, 2, 6, 38])
 (.cond (.t 38)
 (.seq (.region none [⟨some 40, .fieldAddr 1 (.t 2), none, []⟩,
 ⟨some 41, .load false 1 (.t 40), none, []⟩,
 ⟨some 42, .bin .geq (.t 41) (.c (.int .i64 0)), none, []⟩,
 ⟨some 43, .mov (.t 42), none, []⟩,
 ⟨some 44, .fieldAddr 1 (.t 2), some (43, true), []⟩,
 ⟨some 45, .load false 1 (.t 44), some (43, true), []⟩,
 ⟨some 46, .bin .lss (.t 45) (.c (.int .i64 6)), some (43, true), []⟩,
 ⟨some 47, .pick (.t 43) (.t 46) (.c (.bool false)), none, []⟩,
 ⟨some 4, .mov (.t 47), none, []⟩] [4])
 (.ret))
 (.seq (.seq (.region none [⟨some 49, .bin .eql (.t 6) (.c (.int .i64 18)), none, []⟩,
 ⟨some 48, .mov (.t 49), none, []⟩] [1, 2, 6, 48])
 (.cond (.t 48)
 (.skip)
 (.region none [⟨some 50, .bin .eql (.t 6) (.c (.int .i64 19)), none, []⟩,
 ⟨some 48, .mov (.t 50), none, []⟩] [1, 2, 48])))
 (.cond (.t 48)
 (.seq (.region none [⟨some 51, .fieldAddr 1 (.t 2), none, []⟩,
 ⟨some 52, .load false 1 (.t 51), none, []⟩,
 ⟨some 53, .bin .geq (.t 52) (.c (.int .i64 0)), none, []⟩,
 ⟨some 54, .mov (.t 53), none, []⟩,
 ⟨some 55, .fieldAddr 1 (.t 2), some (54, true), []⟩,
 ⟨some 56, .load false 1 (.t 55), some (54, true), []⟩,
 ⟨some 57, .mov (.t 1), some (54, true), []⟩,
 ⟨some 58, .bin .lss (.t 56) (.t 57), some (54, true), []⟩,
 ⟨some 59, .pick (.t 54) (.t 58) (.c (.bool false)), none, []⟩,
 ⟨some 4, .mov (.t 59), none, []⟩] [4])
 (.ret))
 (.skip)))))))))))))
 (.seq (.region none [⟨some 60, .fieldAddr 0 (.t 2), none, []⟩,
 ⟨some 61, .load false 1 (.t 60), none, []⟩,
 ⟨some 62, .call 145 [(.t 61)], none, []⟩,
 ⟨some 63, .bin .geq (.t 62) (.c (.int .i64 0)), none, []⟩,
 ⟨some 64, .mov (.t 63), none, []⟩,
 ⟨some 65, .fieldAddr 1 (.t 2), some (64, true), []⟩,
 ⟨some 66, .load false 1 (.t 65), some (64, true), []⟩,
 ⟨some 67, .bin .eql (.t 66) (.c (.int .i64 0)), some (64, true), []⟩,
 ⟨some 68, .pick (.t 64) (.t 67) (.c (.bool false)), none, []⟩,
 ⟨some 4, .mov (.t 68), none, []⟩] [4])
 (.ret))), false, false, false⟩
@[simp] def F142l0x : PC := (.seq (.seq (.region none [⟨some 18, .mov (.t 7), none, []⟩,
 ⟨some 19, .mov (.t 6), none, []⟩,
 ⟨some 20, .len .sl (.t 19), none, []⟩,
 ⟨some 21, .bin .lss (.t 18) (.t 20), none, []⟩] [1, 2, 6, 7, 21])
 (.cond (.t 21)
 (.skip)
 (.exit 0)))
 (.seq (.block 1 (.region none [⟨some 24, .mov (.t 6), none, []⟩,
 ⟨some 25, .mov (.t 7), none, []⟩,
 ⟨some 26, .indexAddr 1 (.t 24) (.t 25), none, []⟩,
 ⟨none, .store 1 (.t 26) (.c (.int .i64 (-1))), none, []⟩] [1, 2, 6, 7]))
 (.region none [⟨some 22, .mov (.t 7), none, []⟩,
 ⟨some 23, .bin .add (.t 22) (.c (.int .i64 1)), none, []⟩,
 ⟨some 7, .mov (.t 23), none, []⟩] [1, 2, 6, 7])))
def F142l0 : PC := F142l0x
theorem run_F142l0 (C : Task → Option Res) (k : Nat) (fr : Fr) (σ : S) : run C k F142l0 fr σ = run C k F142l0x fr σ := rfl
@[simp] def F142l3x : PC := (.seq (.seq (.region none [⟨some 71, .mov (.t 13), none, []⟩,
 ⟨some 72, .mov (.t 12), none, []⟩,
 ⟨some 73, .len .sl (.t 72), none, []⟩,
 ⟨some 74, .bin .lss (.t 71) (.t 73), none, []⟩] [2, 6, 8, 9, 10, 11, 12, 13, 74])
 (.cond (.t 74)
 (.skip)
 (.exit 6)))
 (.seq (.block 7 (.seq (.seq (.region none [⟨some 77, .mov (.t 12), none, []⟩,
 ⟨some 78, .mov (.t 13), none, []⟩,
 ⟨some 79, .indexAddr 1 (.t 77) (.t 78), none, []⟩,
 ⟨some 80, .load false 1 (.t 79), none, []⟩,
 ⟨some 81, .mov (.t 6), none, []⟩,
 ⟨some 82, .len .sl (.t 81), none, []⟩,
 ⟨some 83, .bin .geq (.t 80) (.t 82), none, []⟩] [2, 6, 8, 9, 10, 11, 12, 13, 83])
 (.cond (.t 83)
 (.exit 7)
 (.skip)))
 (.seq (.region none [⟨some 84, .mov (.t 6), none, []⟩,
 ⟨some 85, .mov (.t 12), none, []⟩,
 ⟨some 86, .mov (.t 13), none, []⟩,
 ⟨some 87, .indexAddr 1 (.t 85) (.t 86), none, []⟩,
 ⟨some 88, .load false 1 (.t 87), none, []⟩,
 ⟨some 89, .indexAddr 1 (.t 84) (.t 88), none, []⟩,
 ⟨some 90, .load false 1 (.t 89), none, []⟩,
 ⟨some 91, .bin .lss (.t 90) (.c (.int .i64 0)), none, []⟩] [2, 6, 8, 9, 10, 11, 12, 13, 91])
 (.cond (.t 91)
 (.seq (.region none [⟨some 92, .mov (.t 6), none, []⟩,
 ⟨some 93, .mov (.t 12), none, []⟩,
 ⟨some 94, .mov (.t 13), none, []⟩,
 ⟨some 95, .indexAddr 1 (.t 93) (.t 94), none, []⟩,
 ⟨some 96, .load false 1 (.t 95), none, []⟩,
 ⟨some 97, .mov (.t 11), none, []⟩,
 ⟨some 98, .indexAddr 1 (.t 92) (.t 96), none, []⟩,
 ⟨none, .store 1 (.t 98) (.t 97), none, []⟩] [2, 6, 8, 10, 11, 12, 13])
 (.region none [⟨some 9, .mov (.c (.bool true)), none, []⟩] [2, 6, 8, 9, 10, 11, 12, 13]))
 (.seq (.region none [⟨some 99, .mov (.t 6), none, []⟩,
 ⟨some 100, .mov (.t 12), none, []⟩,
 ⟨some 101, .mov (.t 13), none, []⟩,
 ⟨some 102, .indexAddr 1 (.t 100) (.t 101), none, []⟩,
 ⟨some 103, .load false 1 (.t 102), none, []⟩,
 ⟨some 104, .indexAddr 1 (.t 99) (.t 103), none, []⟩,
 ⟨some 105, .load false 1 (.t 104), none, []⟩,
 ⟨some 106, .mov (.t 11), none, []⟩,
 ⟨some 107, .bin .neq (.t 105) (.t 106), none, []⟩] [2, 6, 8, 9, 10, 11, 12, 13, 107])
 (.cond (.t 107)
 (.region none [⟨some 8, .mov (.c (.bool false)), none, []⟩] [2, 6, 8, 9, 10, 11, 12, 13])
 (.skip)))))))
 (.region none [⟨some 75, .mov (.t 13), none, []⟩,
 ⟨some 76, .bin .add (.t 75) (.c (.int .i64 1)), none, []⟩,
 ⟨some 13, .mov (.t 76), none, []⟩] [2, 6, 8, 9, 10, 11, 12, 13])))
def F142l3 : PC := F142l3x
theorem run_F142l3 (C : Task → Option Res) (k : Nat) (fr : Fr) (σ : S) : run C k F142l3 fr σ = run C k F142l3x fr σ := rfl
@[simp] def F142l2x : PC := (.seq (.seq (.region none [⟨some 34, .mov (.t 10), none, []⟩,
 ⟨some 35, .mov (.t 6), none, []⟩,
 ⟨some 36, .len .sl (.t 35), none, []⟩,
 ⟨some 37, .bin .lss (.t 34) (.t 36), none, []⟩] [2, 6, 8, 9, 10, 37])
 (.cond (.t 37)
 (.skip)
 (.exit 4)))
 (.seq (.block 5 (.seq (.seq (.region none [⟨some 40, .mov (.t 6), none, []⟩,
 ⟨some 41, .mov (.t 10), none, []⟩,
 ⟨some 42, .indexAddr 1 (.t 40) (.t 41), none, []⟩,
 ⟨some 43, .load false 1 (.t 42), none, []⟩,
 ⟨some 44, .bin .lss (.t 43) (.c (.int .i64 0)), none, []⟩] [2, 6, 8, 9, 10, 44])
 (.cond (.t 44)
 (.exit 5)
 (.skip)))
 (.seq (.region (some []) [⟨some 45, .mov (.t 6), none, []⟩,
 ⟨some 46, .mov (.t 10), none, []⟩,
 ⟨some 47, .indexAddr 1 (.t 45) (.t 46), none, []⟩,
 ⟨some 48, .load false 1 (.t 47), none, [10]⟩,
 ⟨some 49, .fieldAddr 0 (.t 2), none, []⟩,
 ⟨some 50, .load false 1 (.t 49), none, []⟩,
 ⟨some 51, .mov (.t 10), none, []⟩,
 ⟨some 52, .indexAddr 2 (.t 50) (.t 51), none, []⟩,
 ⟨some 53, .fieldAddr 0 (.t 52), none, []⟩,
 ⟨some 54, .load false 1 (.t 53), none, []⟩,
 ⟨some 55, .call 145 [(.t 54)], none, []⟩,
 ⟨some 56, .bin .sub (.t 48) (.t 55), none, []⟩,
 ⟨some 11, .mov (.t 56), none, []⟩] [2, 6, 8, 9, 10, 11] [10])
 (.seq (.seq (.region none [⟨some 57, .mov (.t 11), none, []⟩,
 ⟨some 58, .bin .lss (.t 57) (.c (.int .i64 0)), none, []⟩] [2, 6, 8, 9, 10, 11, 58])
 (.cond (.t 58)
 (.seq (.region none [⟨some 8, .mov (.c (.bool false)), none, []⟩] [2, 6, 8, 9, 10])
 (.region none [⟨some 11, .mov (.c (.int .i64 0)), none, []⟩] [2, 6, 8, 9, 10, 11]))
 (.skip)))
 (.seq (.region none [⟨some 59, .mov (.t 11), none, []⟩,
 ⟨some 60, .fieldAddr 0 (.t 2), none, []⟩,
 ⟨some 61, .load false 1 (.t 60), none, []⟩,
 ⟨some 62, .mov (.t 10), none, []⟩,
 ⟨some 63, .indexAddr 2 (.t 61) (.t 62), none, []⟩,
 ⟨some 64, .fieldAddr 0 (.t 63), none, []⟩,
 ⟨some 65, .load false 1 (.t 64), none, []⟩,
 ⟨some 66, .call 146 [(.t 65)], none, []⟩,
 ⟨some 67, .bin .add (.t 59) (.t 66), none, []⟩,
 ⟨some 11, .mov (.t 67), none, []⟩] [2, 6, 8, 9, 10, 11])
 (.seq (.region none [⟨some 68, .load true 4 (.t 2), none, []⟩,
 ⟨some 69, .mov (.t 10), none, []⟩,
 ⟨some 70, .call 144 [(.t 68), (.t 69)], none, []⟩,
 ⟨some 12, .mov (.t 70), none, []⟩] [2, 6, 8, 9, 10, 11, 12])
 (.seq (.region none [⟨some 13, .mov (.c (.int .i64 0)), none, []⟩] [2, 6, 8, 9, 10, 11, 12, 13])
 (.block 6 (.loop F142l3)))))))))
 (.region none [⟨some 38, .mov (.t 10), none, []⟩,
 ⟨some 39, .bin .add (.t 38) (.c (.int .i64 1)), none, []⟩,
 ⟨some 10, .mov (.t 39), none, []⟩] [2, 6, 8, 9, 10])))
def F142l2 : PC := F142l2x
theorem run_F142l2 (C : Task → Option Res) (k : Nat) (fr : Fr) (σ : S) : run C k F142l2 fr σ = run C k F142l2x fr σ := rfl
@[simp] def F142l1x : PC := (.seq (.seq (.region none [⟨some 33, .mov (.t 9), none, []⟩] [2, 6, 8, 33])
 (.cond (.t 33)
 (.skip)
 (.exit 2)))
 (.block 3 (.seq (.region none [⟨some 9, .mov (.c (.bool false)), none, []⟩] [2, 6, 8, 9])
 (.seq (.region none [⟨some 10, .mov (.c (.int .i64 0)), none, []⟩] [2, 6, 8, 9, 10])
 (.block 4 (.loop F142l2))))))
def F142l1 : PC := F142l1x
theorem run_F142l1 (C : Task → Option Res) (k : Nat) (fr : Fr) (σ : S) : run C k F142l1 fr σ = run C k F142l1x fr σ := rfl
/-- arenanet/arenanetref15.Depths -/
def F142 : PFun := ⟨2, [.tmp 4, .tmp 5],
 .seq (.region none [⟨some 2, .box (.t 0), none, []⟩,
 ⟨some 4, .mov (.c (.slice none 0 0)), none, []⟩,
 ⟨some 5, .mov (.c (.bool false)), none, []⟩] [1, 2])
 (.seq (.region none [⟨some 14, .fieldAddr 0 (.t 2), none, []⟩,
 ⟨some 15, .load false 1 (.t 14), none, []⟩,
 ⟨some 16, .len .sl (.t 15), none, []⟩,
 ⟨some 17, .mkslice false [(.lit (.int .i64 0))] 8 (.t 16) (.t 16), none, []⟩,
 ⟨some 6, .mov (.t 17), none, []⟩] [1, 2, 6])
 (.seq (.seq (.region none [⟨some 7, .mov (.c (.int .i64 0)), none, []⟩] [1, 2, 6, 7])
 (.block 0 (.loop F142l0)))
 (.seq (.seq (.region none [⟨some 27, .mov (.t 1), none, []⟩,
 ⟨some 28, .bin .lss (.t 27) (.c (.int .i64 0)), none, []⟩] [1, 2, 6, 28])
 (.cond (.t 28)
 (.seq (.region none [⟨some 29, .mov (.t 6), none, []⟩,
 ⟨some 4, .mov (.t 29), none, []⟩,
 ⟨some 5, .mov (.c (.bool true)), none, []⟩] [4, 5])
 (.ret))
 (.skip)))
 (.seq (.region none [⟨some 30, .mov (.t 6), none, []⟩,
 ⟨some 31, .mov (.t 1), none, []⟩,
 ⟨some 32, .indexAddr 1 (.t 30) (.t 31), none, []⟩,
 ⟨none, .store 1 (.t 32) (.c (.int .i64 0)), none, []⟩] [2, 6])
 (.seq (.region none [⟨some 8, .mov (.c (.bool true)), none, []⟩] [2, 6, 8])
 (.seq (.seq (.region none [⟨some 9, .mov (.c (.bool true)), none, []⟩] [2, 6, 8, 9])
 (.block 2 (.loop F142l1)))
 (.seq (.region none [⟨some 108, .mov (.t 6), none, []⟩,
 ⟨some 109, .mov (.t 8), none, []⟩,
 ⟨some 4, .mov (.t 108), none, []⟩,
 ⟨some 5, .mov (.t 109), none, []⟩] [4, 5])
 (.ret)))))))), false, false, false⟩
@[simp] def F143l0x : PC := (.seq (.seq (.region none [⟨some 6, .mov (.t 5), none, []⟩,
 ⟨some 7, .mov (.t 0), none, []⟩,
 ⟨some 8, .len .sl (.t 7), none, []⟩,
 ⟨some 9, .bin .lss (.t 6) (.t 8), none, []⟩] [0, 1, 5, 9])
 (.cond (.t 9)
 (.skip)
 (.exit 0)))
 (.seq (.block 1 (.seq (.region none [⟨some 12, .mov (.t 0), none, []⟩,
 ⟨some 13, .mov (.t 5), none, []⟩,
 ⟨some 14, .indexAddr 1 (.t 12) (.t 13), none, []⟩,
 ⟨some 15, .load false 1 (.t 14), none, []⟩,
 ⟨some 16, .mov (.t 1), none, []⟩,
 ⟨some 17, .bin .eql (.t 15) (.t 16), none, []⟩] [0, 1, 5, 17])
 (.cond (.t 17)
 (.seq (.region none [⟨some 4, .mov (.c (.bool true)), none, []⟩] [4])
 (.ret))
 (.skip))))
 (.region none [⟨some 10, .mov (.t 5), none, []⟩,
 ⟨some 11, .bin .add (.t 10) (.c (.int .i64 1)), none, []⟩,
 ⟨some 5, .mov (.t 11), none, []⟩] [0, 1, 5])))
def F143l0 : PC := F143l0x
theorem run_F143l0 (C : Task → Option Res) (k : Nat) (fr : Fr) (σ : S) : run C k F143l0 fr σ = run C k F143l0x fr σ := rfl
/-- arenanet/arenanetref01.Has -/
def F143 : PFun := ⟨2, [.tmp 4],
 .seq (.region none [⟨some 4, .mov (.c (.bool false)), none, []⟩] [0, 1])
 (.seq (.seq (.region none [⟨some 5, .mov (.c (.int .i64 0)), none, []⟩] [0, 1, 5])
 (.block 0 (.loop F143l0)))
 (.seq (.region none [⟨some 4, .mov (.c (.bool false)), none, []⟩] [4])
 (.ret))), false, false, false⟩
/-- arenanet/arenanetref15.next -/
def F144 : PFun := ⟨2, [.tmp 4],
 .seq (.region none [⟨some 2, .box (.t 0), none, []⟩,
 ⟨some 4, .mov (.c (.slice none 0 0)), none, []⟩] [1, 2])
 (.seq (.seq (.region none [⟨some 5, .fieldAddr 0 (.t 2), none, []⟩,
 ⟨some 6, .load false 1 (.t 5), none, []⟩,
 ⟨some 7, .mov (.t 1), none, []⟩,
 ⟨some 8, .indexAddr 2 (.t 6) (.t 7), none, []⟩,
 ⟨some 9, .fieldAddr 0 (.t 8), none, []⟩,
 ⟨some 10, .load false 1 (.t 9), none, []⟩] [1, 2, 10])
 (.block 0 (.seq (.region none [⟨some 12, .bin .eql (.t 10) (.c (.int .i64 21)), none, []⟩,
 ⟨some 11, .mov (.t 12), none, []⟩] [1, 2, 10, 11])
 (.cond (.t 11)
 (.seq (.region none [⟨some 4, .mov (.c (.slice none 0 0)), none, []⟩] [4])
 (.ret))
 (.seq (.region none [⟨some 14, .bin .eql (.t 10) (.c (.int .i64 18)), none, []⟩,
 ⟨some 13, .mov (.t 14), none, []⟩] [1, 2, 10, 13])
 (.cond (.t 13)
 (.seq (.region none [⟨some 15, .fieldAddr 0 (.t 2), none, []⟩,
 ⟨some 16, .load false 1 (.t 15), none, []⟩,
 ⟨some 17, .mov (.t 1), none, []⟩,
 ⟨some 18, .indexAddr 2 (.t 16) (.t 17), none, []⟩,
 ⟨some 19, .fieldAddr 1 (.t 18), none, []⟩,
 ⟨some 20, .load false 1 (.t 19), none, []⟩,
 ⟨some 21, .bslice 1 [(.lit (.int .i64 0))] [(0, 1, (.t 20))], none, []⟩,
 ⟨some 4, .mov (.t 21), none, []⟩] [4])
 (.ret))
 (.seq (.region none [⟨some 23, .bin .eql (.t 10) (.c (.int .i64 19)), none, []⟩,
 ⟨some 22, .mov (.t 23), none, []⟩] [1, 2, 22])
 (.cond (.t 22)
 (.seq (.region none [⟨some 24, .mov (.t 1), none, []⟩,
 ⟨some 25, .bin .add (.t 24) (.c (.int .i64 1)), none, []⟩,
 ⟨some 26, .fieldAddr 0 (.t 2), none, []⟩,
 ⟨some 27, .load false 1 (.t 26), none, []⟩,
 ⟨some 28, .mov (.t 1), none, []⟩,
 ⟨some 29, .indexAddr 2 (.t 27) (.t 28), none, []⟩,
 ⟨some 30, .fieldAddr 1 (.t 29), none, []⟩,
 ⟨some 31, .load false 1 (.t 30), none, []⟩,
 ⟨some 32, .bslice 2 [(.lit (.int .i64 0)), (.lit (.int .i64 0))] [(0, 1, (.t 25)), (1, 1, (.t 31))], none, []⟩,
 ⟨some 4, .mov (.t 32), none, []⟩] [4])
 (.ret))
 (.skip)))))))))
 (.seq (.region none [⟨some 33, .mov (.t 1), none, []⟩,
 ⟨some 34, .bin .add (.t 33) (.c (.int .i64 1)), none, []⟩,
 ⟨some 35, .bslice 1 [(.lit (.int .i64 0))] [(0, 1, (.t 34))], none, []⟩,
 ⟨some 4, .mov (.t 35), none, []⟩] [4])
 (.ret))), false, false, false⟩
/-- arenanet/arenanetref15.pops -/
def F145 : PFun := ⟨1, [.tmp 2],
 .seq (.region none [⟨some 2, .mov (.c (.int .i64 0)), none, []⟩] [0])
 (.seq (.seq (.region none [⟨some 3, .mov (.t 0), none, []⟩] [3])
 (.block 0 (.seq (.seq (.region none [⟨some 5, .bin .eql (.t 3) (.c (.int .i64 1)), none, []⟩,
 ⟨some 4, .mov (.t 5), none, []⟩] [3, 4])
 (.cond (.t 4)
 (.skip)
 (.seq (.region none [⟨some 6, .bin .eql (.t 3) (.c (.int .i64 2)), none, []⟩,
 ⟨some 4, .mov (.t 6), none, []⟩] [3, 4])
 (.cond (.t 4)
 (.skip)
 (.seq (.region none [⟨some 7, .bin .eql (.t 3) (.c (.int .i64 6)), none, []⟩,
 ⟨some 4, .mov (.t 7), none, []⟩] [3, 4])
 (.cond (.t 4)
 (.skip)
 (.seq (.region none [⟨some 8, .bin .eql (.t 3) (.c (.int .i64 7)), none, []⟩,
 ⟨some 4, .mov (.t 8), none, []⟩] [3, 4])
 (.cond (.t 4)
 (.skip)
 (.seq (.region none [⟨some 9, .bin .eql (.t 3) (.c (.int .i64 8)), none, []⟩,
 ⟨some 4, .mov (.t 9), none, []⟩] [3, 4])
 (.cond (.t 4)
 (.skip)
 (.seq (.region none [⟨some 10, .bin .eql (.t 3) (.c (.int .i64 18)), none, []⟩,
 ⟨some 4, .mov (.t 10), none, []⟩] [3, 4])
 (.cond (.t 4)
 (.skip)
 (.region none [⟨some 11, .bin .eql (.t 3) (.c (.int .i64 21)), none, []⟩,
 ⟨some 4, .mov (.t 11), none, []⟩] [3, 4])))))))))))))
 (.cond (.t 4)
 (.seq (.region none [⟨some 2, .mov (.c (.int .i64 0)), none, []⟩] [2])
 (.ret))
 (.seq (.seq (.region none [⟨some 13, .bin .eql (.t 3) (.c (.int .i64 3)), none, []⟩,
 ⟨some 12, .mov (.t 13), none, []⟩] [3, 12])
 (.cond (.t 12)
 (.skip)
 (.seq (.region none [⟨some 14, .bin .eql (.t 3) (.c (.int .i64 19)), none, []⟩,
 ⟨some 12, .mov (.t 14), none, []⟩] [3, 12])
 (.cond (.t 12)
 (.skip)
 (.seq (.region none [⟨some 15, .bin .eql (.t 3) (.c (.int .i64 4)), none, []⟩,
 ⟨some 12, .mov (.t 15), none, []⟩] [3, 12])
 (.cond (.t 12)
 (.skip)
 (.seq (.region none [⟨some 16, .bin .eql (.t 3) (.c (.int .i64 13)), none, []⟩,
 ⟨some 12, .mov (.t 16), none, []⟩] [3, 12])
 (.cond (.t 12)
 (.skip)
 (.region none [⟨some 17, .bin .eql (.t 3) (.c (.int .i64 17)), none, []⟩,
 ⟨some 12, .mov (.t 17), none, []⟩] [3, 12])))))))))
 (.cond (.t 12)
 (.seq (.region none [⟨some 2, .mov (.c (.int .i64 1)), none, []⟩] [2])
 (.ret))
 (.seq (.seq (.region none [⟨some 19, .bin .eql (.t 3) (.c (.int .i64 9)), none, []⟩,
 ⟨some 18, .mov (.t 19), none, []⟩] [3, 18])
 (.cond (.t 18)
 (.skip)
 (.seq (.region none [⟨some 20, .bin .eql (.t 3) (.c (.int .i64 10)), none, []⟩,
 ⟨some 18, .mov (.t 20), none, []⟩] [3, 18])
 (.cond (.t 18)
 (.skip)
 (.seq (.region none [⟨some 21, .bin .eql (.t 3) (.c (.int .i64 11)), none, []⟩,
 ⟨some 18, .mov (.t 21), none, []⟩] [3, 18])
 (.cond (.t 18)
 (.skip)
 (.seq (.region none [⟨some 22, .bin .eql (.t 3) (.c (.int .i64 12)), none, []⟩,
 ⟨some 18, .mov (.t 22), none, []⟩] [3, 18])
 (.cond (.t 18)
 (.skip)
 (.seq (.region none [⟨some 23, .bin .eql (.t 3) (.c (.int .i64 14)), none, []⟩,
 ⟨some 18, .mov (.t 23), none, []⟩] [3, 18])
 (.cond (.t 18)
 (.skip)
 (.seq (.region none [⟨some 24, .bin .eql (.t 3) (.c (.int .i64 15)), none, []⟩,
 ⟨some 18, .mov (.t 24), none, []⟩] [3, 18])
 (.cond (.t 18)
 (.skip)
 (.seq (.region none [⟨some 25, .bin .eql (.t 3) (.c (.int .i64 16)), none, []⟩,
 ⟨some 18, .mov (.t 25), none, []⟩] [3, 18])
 (.cond (.t 18)
 (.skip)
 (.seq (.region none [⟨some 26, .bin .eql (.t 3) (.c (.int .i64 5)), none, []⟩,
 ⟨some 18, .mov (.t 26), none, []⟩] [3, 18])
 (.cond (.t 18)
 (.skip)
 (.region none [⟨some 27, .bin .eql (.t 3) (.c (.int .i64 20)), none, []⟩,
 ⟨some 18, .mov (.t 27), none, []⟩] [18])))))))))))))))))
 (.cond (.t 18)
 (.seq (.region none [⟨some 2, .mov (.c (.int .i64 2)), none, []⟩] [2])
 (.ret))
 (.skip)))))))))
 (.seq (.region none [⟨some 2, .mov (.c (.int .i64 (-1))), none, []⟩] [2])
 (.ret))), false, false, false⟩
/-- arenanet/arenanetref15.pushes -/
def F146 : PFun := ⟨1, [.tmp 2],
 .seq (.region none [⟨some 2, .mov (.c (.int .i64 0)), none, []⟩] [0])
 (.seq (.seq (.region none [⟨some 3, .mov (.t 0), none, []⟩] [3])
 (.block 0 (.seq (.seq (.region none [⟨some 5, .bin .eql (.t 3) (.c (.int .i64 3)), none, []⟩,
 ⟨some 4, .mov (.t 5), none, []⟩] [3, 4])
 (.cond (.t 4)
 (.skip)
 (.seq (.region none [⟨some 6, .bin .eql (.t 3) (.c (.int .i64 19)), none, []⟩,
 ⟨some 4, .mov (.t 6), none, []⟩] [3, 4])
 (.cond (.t 4)
 (.skip)
 (.seq (.region none [⟨some 7, .bin .eql (.t 3) (.c (.int .i64 5)), none, []⟩,
 ⟨some 4, .mov (.t 7), none, []⟩] [3, 4])
 (.cond (.t 4)
 (.skip)
 (.seq (.region none [⟨some 8, .bin .eql (.t 3) (.c (.int .i64 20)), none, []⟩,
 ⟨some 4, .mov (.t 8), none, []⟩] [3, 4])
 (.cond (.t 4)
 (.skip)
 (.seq (.region none [⟨some 9, .bin .eql (.t 3) (.c (.int .i64 18)), none, []⟩,
 ⟨some 4, .mov (.t 9), none, []⟩] [3, 4])
 (.cond (.t 4)
 (.skip)
 (.region none [⟨some 10, .bin .eql (.t 3) (.c (.int .i64 21)), none, []⟩,
 ⟨some 4, .mov (.t 10), none, []⟩] [4])))))))))))
 (.cond (.t 4)
 (.seq (.region none [⟨some 2, .mov (.c (.int .i64 0)), none, []⟩] [2])
 (.ret))
 (.skip)))))
 (.seq (.region none [⟨some 2, .mov (.c (.int .i64 1)), none, []⟩] [2])
 (.ret))), false, false, false⟩
@[simp] def F15a0x : PC := (.region none [⟨some 7, .alloc [(.lit (.int .i64 0)), (.lit (.int .i64 0)), (.lit (.string ⟨#[]⟩)), (.lit (.slice none 0 0))], none, []⟩,
 ⟨none, .store 4 (.t 7) (.t 18), none, []⟩] [3, 4, 7])
def F15a0 : PC := F15a0x
theorem run_F15a0 (C : Task → Option Res) (k : Nat) (fr : Fr) (σ : S) : run C k F15a0 fr σ = run C k F15a0x fr σ := rfl
@[simp] def F15b0x : PC := (.block 3 (.seq (.seq (.region none [⟨some 19, .fieldAddr 0 (.t 7), none, []⟩,
 ⟨some 20, .load false 1 (.t 19), none, []⟩,
 ⟨some 21, .bin .neq (.t 20) (.c (.int .i64 1)), none, []⟩,
 ⟨some 22, .mov (.t 21), none, []⟩,
 ⟨some 23, .fieldAddr 0 (.t 7), some (22, true), []⟩,
 ⟨some 24, .load false 1 (.t 23), some (22, true), []⟩,
 ⟨some 25, .bin .neq (.t 24) (.c (.int .i64 10)), some (22, true), []⟩,
 ⟨some 26, .pick (.t 22) (.t 25) (.c (.bool false)), none, []⟩] [3, 4, 7, 26])
 (.cond (.t 26)
 (.exit 3)
 (.skip)))
 (.seq (.region none [⟨some 28, .load false 1 (.t 4), none, []⟩,
 ⟨some 29, .fieldAddr 2 (.t 7), none, []⟩,
 ⟨some 30, .load false 1 (.t 29), none, []⟩,
 ⟨some 31, .lookup .s (.lit (.int .i64 0)) (.t 28) (.t 30) true, none, []⟩,
 ⟨some 27, .mov (.t 31), none, []⟩,
 ⟨some 32, .extract (.t 27) 0, none, []⟩,
 ⟨some 33, .extract (.t 27) 1, none, []⟩,
 ⟨some 8, .mov (.t 32), none, []⟩,
 ⟨some 9, .mov (.t 33), none, []⟩] [3, 4, 7, 9])
 (.seq (.region none [⟨some 34, .mov (.t 9), none, []⟩,
 ⟨some 35, .un .not (.t 34), none, []⟩] [3, 4, 7, 35])
 (.cond (.t 35)
 (.seq (.region none [⟨some 36, .load false 1 (.t 4), none, []⟩,
 ⟨some 37, .fieldAddr 2 (.t 7), none, []⟩,
 ⟨some 38, .load false 1 (.t 37), none, []⟩,
 ⟨some 39, .load false 1 (.t 3), none, []⟩,
 ⟨some 40, .len .sl (.t 39), none, []⟩,
 ⟨none, .mapset .s (.t 36) (.t 38) (.t 40), none, []⟩] [3, 7])
 (.region none [⟨some 41, .load false 1 (.t 3), none, []⟩,
 ⟨some 42, .fieldAddr 2 (.t 7), none, []⟩,
 ⟨some 43, .load false 1 (.t 42), none, []⟩,
 ⟨some 44, .bslice 1 [(.lit (.string ⟨#[]⟩))] [(0, 1, (.t 43))], none, []⟩,
 ⟨some 45, .append 1 16 (.t 41) (.t 44), none, []⟩,
 ⟨none, .store 1 (.t 3) (.t 45), none, []⟩] []))
 (.skip))))))
def F15b0 : PC := F15b0x
theorem run_F15b0 (C : Task → Option Res) (k : Nat) (fr : Fr) (σ : S) : run C k F15b0 fr σ = run C k F15b0x fr σ := rfl
@[simp] def F15l0x : PC := (.seq (.region none [⟨some 14, .bin .lss (.t 13) (.c (.int .i64 3)), none, []⟩] [3, 4, 12, 13, 14])
 (.seq (.cond (.t 14)
 (.skip)
 (.exit 0))
 (.seq (.block 1 (.seq (.region none [⟨some 15, .indexA true 3 4 (.t 12) (.t 13), none, []⟩,
 ⟨some 6, .alloc [(.lit (.int .i64 0)), (.lit (.int .i64 0)), (.lit (.string ⟨#[]⟩)), (.lit (.slice none 0 0))], none, []⟩,
 ⟨none, .store 4 (.t 6) (.t 15), none, []⟩] [3, 4, 6, 12, 13])
 (.seq (.region none [⟨some 16, .load true 4 (.t 6), none, []⟩,
 ⟨some 17, .call 32 [(.t 16)], none, []⟩] [3, 4, 12, 13, 17])
 (.block 2 (.range (.t 17) [18] F15a0 F15b0)))))
 (.region none [⟨some 46, .bin .add (.t 13) (.c (.int .i64 1)), none, []⟩,
 ⟨some 13, .mov (.t 46), none, []⟩] [3, 4, 12, 13]))))
def F15l0 : PC := F15l0x
theorem run_F15l0 (C : Task → Option Res) (k : Nat) (fr : Fr) (σ : S) : run C k F15l0 fr σ = run C k F15l0x fr σ := rfl
theorem flat_F15a0 : F15a0.flat = true := rfl
theorem flat_F15b0 : F15b0.flat = true := rfl
/-- arenanet/typecheck.Variables -/
def F15 : PFun := ⟨1, [.tmp 2],
 .seq (.region none [⟨some 1, .box (.t 0), none, []⟩,
 ⟨some 2, .mov (.c (.slice none 0 0)), none, []⟩] [1])
 (.seq (.region none [⟨some 3, .alloc [(.lit (.slice none 0 0))], none, []⟩] [1, 3])
 (.seq (.region none [⟨some 10, .mkmap, none, []⟩,
 ⟨some 4, .alloc [(.lit (.map none))], none, []⟩,
 ⟨none, .store 1 (.t 4) (.t 10), none, []⟩] [1, 3, 4])
 (.seq (.seq (.region none [⟨some 11, .fieldAddr 0 (.t 1), none, []⟩,
 ⟨some 12, .load true 12 (.t 11), none, []⟩,
 ⟨some 13, .mov (.c (.int .i64 0)), none, []⟩] [3, 4, 12, 13])
 (.block 0 (.loop F15l0)))
 (.seq (.region none [⟨some 47, .load false 1 (.t 3), none, []⟩,
 ⟨some 2, .mov (.t 47), none, []⟩] [2])
 (.ret))))), false, false, false⟩
/-- (*arenanet/compile.translator).translate -/
def F147 : PFun := ⟨2, [],
 .seq (.region none [⟨some 3, .box (.t 1), none, []⟩] [0, 3])
 (.seq (.region none [⟨some 4, .fieldAddr 0 (.t 3), none, []⟩,
 ⟨some 5, .load false 1 (.t 4), none, []⟩] [0, 3, 5])
 (.block 0 (.seq (.seq (.region none [⟨some 10, .bin .eql (.t 5) (.c (.int .i64 8)), none, []⟩,
 ⟨some 9, .mov (.t 10), none, []⟩] [0, 3, 5, 9])
 (.cond (.t 9)
 (.skip)
 (.region none [⟨some 11, .bin .eql (.t 5) (.c (.int .i64 9)), none, []⟩,
 ⟨some 9, .mov (.t 11), none, []⟩] [0, 3, 5, 9])))
 (.cond (.t 9)
 (.region none [⟨some 12, .mov (.t 0), none, []⟩,
 ⟨some 13, .fieldAddr 1 (.t 3), none, []⟩,
 ⟨some 14, .load false 1 (.t 13), none, []⟩,
 ⟨some 15, .call 148 [(.t 12), (.c (.int .i64 1)), (.t 14)], none, []⟩] [])
 (.seq (.region none [⟨some 17, .bin .eql (.t 5) (.c (.int .i64 10)), none, []⟩,
 ⟨some 16, .mov (.t 17), none, []⟩] [0, 3, 5, 16])
 (.cond (.t 16)
 (.region (some []) [⟨some 18, .mov (.t 0), none, []⟩,
 ⟨some 19, .mov (.t 0), none, []⟩,
 ⟨some 20, .nilchk (.t 19), none, []⟩,
 ⟨some 21, .fieldAddr 1 (.t 20), none, []⟩,
 ⟨some 22, .load false 1 (.t 21), none, []⟩,
 ⟨some 23, .fieldAddr 2 (.t 3), none, []⟩,
 ⟨some 24, .load false 1 (.t 23), none, []⟩,
 ⟨some 25, .lookup .s (.lit (.int .i64 0)) (.t 22) (.t 24) false, none, []⟩,
 ⟨some 26, .call 148 [(.t 18), (.c (.int .i64 2)), (.t 25)], none, []⟩] [] [8])
 (.seq (.region none [⟨some 28, .bin .eql (.t 5) (.c (.int .i64 11)), none, []⟩,
 ⟨some 27, .mov (.t 28), none, []⟩] [0, 3, 5, 27])
 (.cond (.t 27)
 (.seq (.region none [⟨some 29, .mov (.t 0), none, []⟩,
 ⟨some 30, .load true 4 (.t 3), none, []⟩,
 ⟨some 31, .call 165 [(.t 29), (.t 30), (.c (.int .i64 0))], none, []⟩] [0, 3])
 (.region none [⟨some 32, .mov (.t 0), none, []⟩,
 ⟨some 33, .fieldAddr 2 (.t 3), none, []⟩,
 ⟨some 34, .load false 1 (.t 33), none, []⟩,
 ⟨some 35, .call 134 [(.t 34)], none, []⟩,
 ⟨some 36, .call 148 [(.t 32), (.c (.int .i64 4)), (.t 35)], none, []⟩] []))
 (.seq (.region none [⟨some 38, .bin .eql (.t 5) (.c (.int .i64 12)), none, []⟩,
 ⟨some 37, .mov (.t 38), none, []⟩] [0, 3, 5, 37])
 (.cond (.t 37)
 (.region none [⟨some 39, .mov (.t 0), none, []⟩,
 ⟨some 40, .load true 4 (.t 3), none, []⟩,
 ⟨some 41, .call 166 [(.t 39), (.t 40)], none, []⟩] [])
 (.seq (.region none [⟨some 43, .bin .eql (.t 5) (.c (.int .i64 13)), none, []⟩,
 ⟨some 42, .mov (.t 43), none, []⟩] [0, 3, 5, 42])
 (.cond (.t 42)
 (.region none [⟨some 44, .mov (.t 0), none, []⟩,
 ⟨some 45, .load true 4 (.t 3), none, []⟩,
 ⟨some 46, .call 167 [(.t 44), (.t 45)], none, []⟩] [])
 (.seq (.region none [⟨some 48, .bin .eql (.t 5) (.c (.int .i64 14)), none, []⟩,
 ⟨some 47, .mov (.t 48), none, []⟩] [0, 3, 47])
 (.cond (.t 47)
 (.region none [⟨some 49, .mov (.t 0), none, []⟩,
 ⟨some 50, .load true 4 (.t 3), none, []⟩,
 ⟨some 51, .call 168 [(.t 49), (.t 50)], none, []⟩] [])
 (.region none [⟨some 6, .mov (.t 0), none, []⟩,
 ⟨some 7, .load true 4 (.t 3), none, []⟩,
 ⟨some 8, .call 169 [(.t 6), (.t 7)], none, []⟩] []))))))))))))))), false, false, false⟩
/-- (*arenanet/compile.translator).emit -/
def F148 : PFun := ⟨3, [.tmp 6],
 .seq (.region none [⟨some 6, .mov (.c (.int .i64 0)), none, []⟩] [0, 1, 2])
 (.seq (.region none [⟨some 7, .mov (.t 0), none, []⟩,
 ⟨some 8, .mov (.t 0), none, []⟩,
 ⟨some 9, .nilchk (.t 8), none, []⟩,
 ⟨some 10, .fieldAddr 0 (.t 9), none, []⟩,
 ⟨some 11, .load false 1 (.t 10), none, []⟩,
 ⟨some 12, .mov (.t 1), none, []⟩,
 ⟨some 13, .mov (.t 2), none, []⟩,
 ⟨some 14, .build [(.lit (.int .i64 0)), (.lit (.int .i64 0))] [(0, 1, (.t 12)), (1, 1, (.t 13))], none, []⟩,
 ⟨some 15, .bsliceO 1 2 [(.lit (.int .i64 0)), (.lit (.int .i64 0))] [(0, 2, (.t 14))], none, []⟩,
 ⟨some 16, .appendO 2 16 (.t 11) (.t 15), none, []⟩,
 ⟨some 17, .nilchk (.t 7), none, []⟩,
 ⟨some 18, .fieldAddr 0 (.t 17), none, []⟩,
 ⟨none, .store 1 (.t 18) (.t 16), none, []⟩] [0])
 (.seq (.region none [⟨some 19, .mov (.t 0), none, []⟩,
 ⟨some 20, .nilchk (.t 19), none, []⟩,
 ⟨some 21, .fieldAddr 0 (.t 20), none, []⟩,
 ⟨some 22, .load false 1 (.t 21), none, []⟩,
 ⟨some 23, .len .sl (.t 22), none, []⟩,
 ⟨some 24, .bin .sub (.t 23) (.c (.int .i64 1)), none, []⟩,
 ⟨some 6, .mov (.t 24), none, []⟩] [6])
 (.ret))), false, false, false⟩
@[simp] def F149l0x : PC := (.seq (.seq (.region none [⟨some 8, .mov (.t 4), none, []⟩,
 ⟨some 9, .mov (.t 0), none, []⟩,
 ⟨some 10, .len .str (.t 9), none, []⟩,
 ⟨some 11, .bin .lss (.t 8) (.t 10), none, []⟩] [0, 3, 4, 11])
 (.cond (.t 11)
 (.skip)
 (.exit 0)))
 (.block 1 (.seq (.region none [⟨some 12, .mov (.t 0), none, []⟩,
 ⟨some 13, .mov (.t 4), none, []⟩,
 ⟨some 14, .call 171 [(.t 12), (.t 13)], none, []⟩,
 ⟨some 5, .alloc [(.lit (.int .i64 0)), (.lit (.string ⟨#[]⟩)), (.lit (.int .i64 0))], none, []⟩,
 ⟨none, .store 3 (.t 5) (.t 14), none, []⟩] [0, 3, 4, 5])
 (.seq (.region none [⟨some 15, .mov (.t 3), none, []⟩,
 ⟨some 16, .load true 3 (.t 5), none, []⟩,
 ⟨some 17, .bslice 1 [(.lit (.int .i64 0)), (.lit (.string ⟨#[]⟩)), (.lit (.int .i64 0))] [(0, 3, (.t 16))], none, []⟩,
 ⟨some 18, .append 3 32 (.t 15) (.t 17), none, []⟩,
 ⟨some 3, .mov (.t 18), none, []⟩] [0, 3, 4, 5])
 (.region none [⟨some 19, .mov (.t 0), none, []⟩,
 ⟨some 20, .mov (.t 4), none, []⟩,
 ⟨some 21, .fieldAddr 1 (.t 5), none, []⟩,
 ⟨some 22, .load false 1 (.t 21), none, []⟩,
 ⟨some 23, .len .str (.t 22), none, []⟩,
 ⟨some 24, .bin .add (.t 20) (.t 23), none, []⟩,
 ⟨some 25, .call 170 [(.t 19), (.t 24)], none, []⟩,
 ⟨some 4, .mov (.t 25), none, []⟩] [0, 3, 4])))))
def F149l0 : PC := F149l0x
theorem run_F149l0 (C : Task → Option Res) (k : Nat) (fr : Fr) (σ : S) : run C k F149l0 fr σ = run C k F149l0x fr σ := rfl
/-- arenanet/arenanetref13.Tokens -/
def F149 : PFun := ⟨1, [.tmp 2],
 .seq (.region none [⟨some 2, .mov (.c (.slice none 0 0)), none, []⟩] [0])
 (.seq (.region none [⟨some 3, .mov (.c (.slice none 0 0)), none, []⟩] [0, 3])
 (.seq (.region none [⟨some 6, .mov (.t 0), none, []⟩,
 ⟨some 7, .call 170 [(.t 6), (.c (.int .i64 0))], none, []⟩,
 ⟨some 4, .mov (.t 7), none, []⟩] [0, 3, 4])
 (.seq (.block 0 (.loop F149l0))
 (.seq (.region none [⟨some 26, .mov (.t 3), none, []⟩,
 ⟨some 27, .mov (.t 0), none, []⟩,
 ⟨some 28, .len .str (.t 27), none, []⟩,
 ⟨some 29, .build [(.lit (.int .i64 0)), (.lit (.string ⟨#[]⟩)), (.lit (.int .i64 0))] [(0, 1, (.t 28))], none, []⟩,
 ⟨some 30, .bslice 1 [(.lit (.int .i64 0)), (.lit (.string ⟨#[]⟩)), (.lit (.int .i64 0))] [(0, 3, (.t 29))], none, []⟩,
 ⟨some 31, .append 3 32 (.t 26) (.t 30), none, []⟩,
 ⟨some 2, .mov (.t 31), none, []⟩] [2])
 (.ret))))), false, false, false⟩
end Go.Pm.F
end SF15a
