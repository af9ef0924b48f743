/- The abstract machine's program, printed by Gen.lean off the dump. -/
import Derived.Test.YtlbibgdenkleiaaDoorPmA
set_option linter.unusedSimpArgs false
set_option linter.unusedVariables false
section SF16
namespace Go.Pm.F
/-- The package variable of package vm: what each opcode pops, pushes, knows. -/
def effRows : List (List Int) := [[0,0,0],[0,1,0],[0,1,16],[1,0,16],[1,1,8],[2,0,8],[0,1,0],[0,1,0],[0,1,0],[2,1,0],[2,1,0],[2,1,0],[2,1,0],[1,1,0],[2,1,0],[2,1,0],[2,1,0],[1,1,0],[0,0,0],[1,0,0],[2,0,0],[0,0,0]]
def G_arenanet_vm_effects : List D := effRows.flatten.map fun n => .lit (.int .i64 n)
def F40l0 : PC := (.seq (.seq (.region none [⟨some 36, .mov (.t 13), none, []⟩,
     ⟨some 37, .mov (.t 12), none, []⟩,
     ⟨some 38, .bin .leq (.t 36) (.t 37), none, []⟩] [9, 10, 11, 12, 13, 38])
   (.cond (.t 38)
    (.skip)
    (.exit 0)))
   (.seq (.block 1 (.seq (.seq (.region none [⟨some 41, .mov (.t 10), none, []⟩,
     ⟨some 42, .call 51 [(.t 41), (.c (.int .i64 8))], none, []⟩,
     ⟨some 43, .mov (.t 12), none, []⟩,
     ⟨some 44, .mov (.t 13), none, []⟩,
     ⟨some 45, .bin .sub (.t 43) (.t 44), none, []⟩,
     ⟨some 46, .bin .neq (.t 42) (.t 45), none, []⟩] [9, 10, 11, 12, 13, 46])
   (.cond (.t 46)
    (.seq (.region none [⟨some 8, .mov (.c (.bool false)), none, []⟩] [8])
    (.ret))
    (.skip)))
   (.seq (.region none [⟨some 48, .mov (.t 10), none, []⟩,
     ⟨some 49, .mkif 0 (.t 48), none, []⟩,
     ⟨some 50, .load true 16 (.t 9), none, []⟩,
     ⟨some 51, .load true 4 (.t 11), none, []⟩,
     ⟨some 52, .call 52 [(.t 49), (.t 50), (.t 51)], none, []⟩,
     ⟨some 47, .mov (.t 52), none, []⟩,
     ⟨some 53, .extract (.t 47) 0, none, []⟩,
     ⟨some 54, .extract (.t 47) 1, none, []⟩,
     ⟨some 55, .extract (.t 47) 2, none, []⟩,
     ⟨some 15, .alloc [(.lit (.int .i64 0)), (.lit (.int .i64 0)), (.lit (.int .i64 0)), (.lit (.int .i64 0))], none, []⟩,
     ⟨some 14, .mov (.t 53), none, []⟩,
     ⟨none, .store 4 (.t 15) (.t 54), none, []⟩,
     ⟨some 16, .mov (.t 55), none, []⟩] [9, 10, 11, 12, 13, 14])
   (.seq (.region none [⟨some 56, .mov (.t 14), none, []⟩] [9, 10, 11, 12, 13, 56])
   (.cond (.t 56)
    (.seq (.region none [⟨some 57, .call 50 [], none, []⟩,
      ⟨some 8, .mov (.t 57), none, []⟩] [8])
    (.ret))
    (.skip))))))
   (.region none [⟨some 39, .mov (.t 13), none, []⟩,
     ⟨some 40, .bin .add (.t 39) (.c (.int .i64 1)), none, []⟩,
     ⟨some 13, .mov (.t 40), none, []⟩] [9, 10, 11, 12, 13])))
theorem run_F40l0 (C : Task → Option Res) (k : Nat) (fr : Fr) (σ : S) : run C k F40l0 fr σ = run C k (.seq (.seq (.region none [⟨some 36, .mov (.t 13), none, []⟩,
     ⟨some 37, .mov (.t 12), none, []⟩,
     ⟨some 38, .bin .leq (.t 36) (.t 37), none, []⟩] [9, 10, 11, 12, 13, 38])
   (.cond (.t 38)
    (.skip)
    (.exit 0)))
   (.seq (.block 1 (.seq (.seq (.region none [⟨some 41, .mov (.t 10), none, []⟩,
     ⟨some 42, .call 51 [(.t 41), (.c (.int .i64 8))], none, []⟩,
     ⟨some 43, .mov (.t 12), none, []⟩,
     ⟨some 44, .mov (.t 13), none, []⟩,
     ⟨some 45, .bin .sub (.t 43) (.t 44), none, []⟩,
     ⟨some 46, .bin .neq (.t 42) (.t 45), none, []⟩] [9, 10, 11, 12, 13, 46])
   (.cond (.t 46)
    (.seq (.region none [⟨some 8, .mov (.c (.bool false)), none, []⟩] [8])
    (.ret))
    (.skip)))
   (.seq (.region none [⟨some 48, .mov (.t 10), none, []⟩,
     ⟨some 49, .mkif 0 (.t 48), none, []⟩,
     ⟨some 50, .load true 16 (.t 9), none, []⟩,
     ⟨some 51, .load true 4 (.t 11), none, []⟩,
     ⟨some 52, .call 52 [(.t 49), (.t 50), (.t 51)], none, []⟩,
     ⟨some 47, .mov (.t 52), none, []⟩,
     ⟨some 53, .extract (.t 47) 0, none, []⟩,
     ⟨some 54, .extract (.t 47) 1, none, []⟩,
     ⟨some 55, .extract (.t 47) 2, none, []⟩,
     ⟨some 15, .alloc [(.lit (.int .i64 0)), (.lit (.int .i64 0)), (.lit (.int .i64 0)), (.lit (.int .i64 0))], none, []⟩,
     ⟨some 14, .mov (.t 53), none, []⟩,
     ⟨none, .store 4 (.t 15) (.t 54), none, []⟩,
     ⟨some 16, .mov (.t 55), none, []⟩] [9, 10, 11, 12, 13, 14])
   (.seq (.region none [⟨some 56, .mov (.t 14), none, []⟩] [9, 10, 11, 12, 13, 56])
   (.cond (.t 56)
    (.seq (.region none [⟨some 57, .call 50 [], none, []⟩,
      ⟨some 8, .mov (.t 57), none, []⟩] [8])
    (.ret))
    (.skip))))))
   (.region none [⟨some 39, .mov (.t 13), none, []⟩,
     ⟨some 40, .bin .add (.t 39) (.c (.int .i64 1)), none, []⟩,
     ⟨some 13, .mov (.t 40), none, []⟩] [9, 10, 11, 12, 13]))) fr σ := rfl
/-- arenanet/arenanetlaw16.VmFuel -/
def F40 : PFun := ⟨4, [.tmp 8],
  .seq (.region none [⟨some 8, .mov (.c (.bool false)), none, []⟩] [0, 1, 2, 3])
  (.seq (.region none [⟨some 17, .mov (.t 0), none, []⟩,
    ⟨some 18, .call 45 [(.t 17)], none, []⟩,
    ⟨some 9, .alloc [(.lit (.int .i64 0)), (.lit (.slice none 0 0)), (.lit (.int .i64 0)), (.lit (.int .i64 0)), (.lit (.int .i64 0)), (.lit (.int .i64 0)), (.lit (.slice none 0 0)), (.lit (.slice none 0 0)), (.lit (.int .i64 0)), (.lit (.int .i64 0)), (.lit (.int .i64 0)), (.lit (.int .i64 0)), (.lit (.int .i64 0)), (.lit (.int .i64 0)), (.lit (.int .i64 0)), (.lit (.int .i64 0))], none, []⟩,
    ⟨none, .store 16 (.t 9) (.t 18), none, []⟩] [1, 2, 3, 9])
  (.seq (.region none [⟨some 19, .load true 16 (.t 9), none, []⟩,
    ⟨some 20, .mov (.t 2), none, []⟩,
    ⟨some 21, .call 47 [(.t 19), (.t 20)], none, []⟩,
    ⟨some 22, .call 46 [(.t 21)], none, []⟩,
    ⟨some 10, .mov (.t 22), none, []⟩] [1, 3, 9, 10])
  (.seq (.region none [⟨some 23, .mov (.t 1), none, []⟩,
    ⟨some 24, .call 48 [(.t 23)], none, []⟩,
    ⟨some 11, .alloc [(.lit (.slice none 0 0)), (.lit (.int .i64 0)), (.lit (.int .i64 0)), (.lit (.int .i64 0))], none, []⟩,
    ⟨none, .store 4 (.t 11) (.t 24), none, []⟩] [3, 9, 10, 11])
  (.seq (.seq (.region none [⟨some 25, .mov (.t 10), none, []⟩,
    ⟨some 26, .isnil true false (.t 25), none, []⟩] [3, 9, 10, 11, 26])
  (.cond (.t 26)
   (.seq (.region none [⟨some 8, .mov (.c (.bool false)), none, []⟩] [8])
   (.ret))
   (.skip)))
  (.seq (.region none [⟨some 27, .mov (.t 3), none, []⟩,
    ⟨some 28, .call 17 [(.t 27), (.c (.int .i64 80))], none, []⟩,
    ⟨some 12, .mov (.t 28), none, []⟩] [9, 10, 11, 12])
  (.seq (.seq (.region none [⟨some 29, .mov (.t 10), none, []⟩,
    ⟨some 30, .mkif 0 (.t 29), none, []⟩,
    ⟨some 31, .load true 4 (.t 11), none, []⟩,
    ⟨some 32, .mov (.t 12), none, []⟩,
    ⟨some 33, .call 49 [(.t 30), (.t 31), (.c (.int .i64 2)), (.c (.int .i64 0)), (.c (.int .i64 0)), (.t 32)], none, []⟩,
    ⟨some 34, .un .not (.t 33), none, []⟩] [9, 10, 11, 12, 34])
  (.cond (.t 34)
   (.seq (.region none [⟨some 35, .call 50 [], none, []⟩,
     ⟨some 8, .mov (.t 35), none, []⟩] [8])
   (.ret))
   (.skip)))
  (.seq (.seq (.region none [⟨some 13, .mov (.c (.int .i64 0)), none, []⟩] [9, 10, 11, 12, 13])
  (.block 0 (.loop F40l0)))
  (.seq (.region none [⟨some 8, .mov (.c (.bool false)), none, []⟩] [8])
  (.ret))))))))), false, false, false⟩
def F41l0 : PC := (.seq (.seq (.region none [⟨some 44, .mov (.t 9), none, []⟩,
     ⟨some 45, .mov (.t 8), none, []⟩,
     ⟨some 46, .len .sl (.t 45), none, []⟩,
     ⟨some 47, .bin .lss (.t 44) (.t 46), none, []⟩] [5, 6, 7, 8, 9, 47])
   (.cond (.t 47)
    (.skip)
    (.exit 0)))
   (.seq (.block 1 (.seq (.region none [⟨some 50, .mov (.t 8), none, []⟩,
     ⟨some 51, .mov (.t 9), none, []⟩,
     ⟨some 52, .indexAddr 1 (.t 50) (.t 51), none, []⟩,
     ⟨some 53, .load false 1 (.t 52), none, []⟩,
     ⟨some 54, .mov (.t 5), none, []⟩,
     ⟨some 55, .mov (.t 6), none, []⟩,
     ⟨some 56, .call 54 [(.t 53), (.t 54), (.t 55)], none, []⟩,
     ⟨some 10, .mov (.t 56), none, []⟩] [5, 6, 7, 8, 9, 10])
   (.seq (.region none [⟨some 57, .mov (.t 10), none, []⟩,
     ⟨some 58, .bin .gtr (.t 57) (.c (.int .i64 2147483647)), none, []⟩,
     ⟨some 59, .mov (.t 58), none, []⟩,
     ⟨some 60, .mov (.t 10), some (59, false), []⟩,
     ⟨some 61, .bin .lss (.t 60) (.c (.int .i64 (-2147483647))), some (59, false), []⟩,
     ⟨some 62, .pick (.t 59) (.c (.bool true)) (.t 61), none, []⟩] [5, 6, 7, 8, 9, 62])
   (.cond (.t 62)
    (.seq (.region none [⟨some 4, .mov (.c (.bool false)), none, []⟩] [4])
    (.ret))
    (.skip)))))
   (.region none [⟨some 48, .mov (.t 9), none, []⟩,
     ⟨some 49, .bin .add (.t 48) (.c (.int .i64 1)), none, []⟩,
     ⟨some 9, .mov (.t 49), none, []⟩] [5, 6, 7, 8, 9])))
theorem run_F41l0 (C : Task → Option Res) (k : Nat) (fr : Fr) (σ : S) : run C k F41l0 fr σ = run C k (.seq (.seq (.region none [⟨some 44, .mov (.t 9), none, []⟩,
     ⟨some 45, .mov (.t 8), none, []⟩,
     ⟨some 46, .len .sl (.t 45), none, []⟩,
     ⟨some 47, .bin .lss (.t 44) (.t 46), none, []⟩] [5, 6, 7, 8, 9, 47])
   (.cond (.t 47)
    (.skip)
    (.exit 0)))
   (.seq (.block 1 (.seq (.region none [⟨some 50, .mov (.t 8), none, []⟩,
     ⟨some 51, .mov (.t 9), none, []⟩,
     ⟨some 52, .indexAddr 1 (.t 50) (.t 51), none, []⟩,
     ⟨some 53, .load false 1 (.t 52), none, []⟩,
     ⟨some 54, .mov (.t 5), none, []⟩,
     ⟨some 55, .mov (.t 6), none, []⟩,
     ⟨some 56, .call 54 [(.t 53), (.t 54), (.t 55)], none, []⟩,
     ⟨some 10, .mov (.t 56), none, []⟩] [5, 6, 7, 8, 9, 10])
   (.seq (.region none [⟨some 57, .mov (.t 10), none, []⟩,
     ⟨some 58, .bin .gtr (.t 57) (.c (.int .i64 2147483647)), none, []⟩,
     ⟨some 59, .mov (.t 58), none, []⟩,
     ⟨some 60, .mov (.t 10), some (59, false), []⟩,
     ⟨some 61, .bin .lss (.t 60) (.c (.int .i64 (-2147483647))), some (59, false), []⟩,
     ⟨some 62, .pick (.t 59) (.c (.bool true)) (.t 61), none, []⟩] [5, 6, 7, 8, 9, 62])
   (.cond (.t 62)
    (.seq (.region none [⟨some 4, .mov (.c (.bool false)), none, []⟩] [4])
    (.ret))
    (.skip)))))
   (.region none [⟨some 48, .mov (.t 9), none, []⟩,
     ⟨some 49, .bin .add (.t 48) (.c (.int .i64 1)), none, []⟩,
     ⟨some 9, .mov (.t 49), none, []⟩] [5, 6, 7, 8, 9]))) fr σ := rfl
/-- arenanet/arenanetlaw16.VmSaturates -/
def F41 : PFun := ⟨2, [.tmp 4],
  .seq (.region none [⟨some 4, .mov (.c (.bool false)), none, []⟩] [0, 1])
  (.seq (.region none [⟨some 12, .mov (.t 0), none, []⟩,
    ⟨some 13, .call 53 [(.t 12), (.c (.int .i64 2147483647))], none, []⟩,
    ⟨some 5, .mov (.t 13), none, []⟩] [1, 5])
  (.seq (.region none [⟨some 14, .mov (.t 1), none, []⟩,
    ⟨some 15, .call 53 [(.t 14), (.c (.int .i64 2147483647))], none, []⟩,
    ⟨some 6, .mov (.t 15), none, []⟩] [5, 6])
  (.seq (.region none [⟨some 16, .mov (.t 5), none, []⟩,
    ⟨some 17, .mov (.t 6), none, []⟩,
    ⟨some 18, .call 54 [(.c (.int .i64 9)), (.t 16), (.t 17)], none, []⟩,
    ⟨some 7, .mov (.t 18), none, []⟩] [5, 6, 7])
  (.seq (.seq (.region none [⟨some 19, .mov (.t 7), none, []⟩,
    ⟨some 20, .mov (.t 6), none, []⟩,
    ⟨some 21, .mov (.t 5), none, []⟩,
    ⟨some 22, .call 54 [(.c (.int .i64 9)), (.t 20), (.t 21)], none, []⟩,
    ⟨some 23, .bin .neq (.t 19) (.t 22), none, []⟩,
    ⟨some 24, .mov (.t 23), none, []⟩,
    ⟨some 25, .mov (.t 5), some (24, false), []⟩,
    ⟨some 26, .mov (.t 6), some (24, false), []⟩,
    ⟨some 27, .call 54 [(.c (.int .i64 11)), (.t 25), (.t 26)], some (24, false), []⟩,
    ⟨some 28, .mov (.t 6), some (24, false), []⟩,
    ⟨some 29, .mov (.t 5), some (24, false), []⟩,
    ⟨some 30, .call 54 [(.c (.int .i64 11)), (.t 28), (.t 29)], some (24, false), []⟩,
    ⟨some 31, .bin .neq (.t 27) (.t 30), some (24, false), []⟩,
    ⟨some 32, .pick (.t 24) (.c (.bool true)) (.t 31), none, []⟩,
    ⟨some 33, .mov (.t 32), none, []⟩,
    ⟨some 34, .mov (.t 5), some (33, false), []⟩,
    ⟨some 35, .mov (.t 6), some (33, false), []⟩,
    ⟨some 36, .call 54 [(.c (.int .i64 10)), (.t 34), (.t 35)], some (33, false), []⟩,
    ⟨some 37, .mov (.t 6), some (33, false), []⟩,
    ⟨some 38, .mov (.t 5), some (33, false), []⟩,
    ⟨some 39, .call 54 [(.c (.int .i64 10)), (.t 37), (.t 38)], some (33, false), []⟩,
    ⟨some 40, .call 54 [(.c (.int .i64 13)), (.t 39), (.c (.int .i64 0))], some (33, false), []⟩,
    ⟨some 41, .bin .neq (.t 36) (.t 40), some (33, false), []⟩,
    ⟨some 42, .pick (.t 33) (.c (.bool true)) (.t 41), none, []⟩] [5, 6, 7, 42])
  (.cond (.t 42)
   (.seq (.region none [⟨some 4, .mov (.c (.bool false)), none, []⟩] [4])
   (.ret))
   (.skip)))
  (.seq (.region none [⟨some 43, .bslice 5 [(.lit (.int .i64 0)), (.lit (.int .i64 0)), (.lit (.int .i64 0)), (.lit (.int .i64 0)), (.lit (.int .i64 0))] [(0, 1, (.c (.int .i64 9))), (1, 1, (.c (.int .i64 10))), (2, 1, (.c (.int .i64 11))), (3, 1, (.c (.int .i64 12))), (4, 1, (.c (.int .i64 13)))], none, []⟩,
    ⟨some 8, .mov (.t 43), none, []⟩] [5, 6, 7, 8])
  (.seq (.seq (.region none [⟨some 9, .mov (.c (.int .i64 0)), none, []⟩] [5, 6, 7, 8, 9])
  (.block 0 (.loop F41l0)))
  (.seq (.region none [⟨some 63, .mov (.t 7), none, []⟩,
    ⟨some 64, .mov (.t 5), none, []⟩,
    ⟨some 65, .mov (.t 6), none, []⟩,
    ⟨some 66, .bin .add (.t 64) (.t 65), none, []⟩,
    ⟨some 67, .bin .eql (.t 63) (.t 66), none, []⟩,
    ⟨some 11, .mov (.t 67), none, []⟩] [5, 6, 7, 11])
  (.seq (.region none [⟨some 68, .mov (.t 11), none, []⟩,
    ⟨some 69, .un .not (.t 68), none, []⟩,
    ⟨some 70, .mov (.t 69), none, []⟩,
    ⟨some 71, .mov (.t 7), some (70, false), []⟩,
    ⟨some 72, .mov (.t 6), some (70, false), []⟩,
    ⟨some 73, .call 54 [(.c (.int .i64 10)), (.t 71), (.t 72)], some (70, false), []⟩,
    ⟨some 74, .mov (.t 5), some (70, false), []⟩,
    ⟨some 75, .bin .eql (.t 73) (.t 74), some (70, false), []⟩,
    ⟨some 76, .pick (.t 70) (.c (.bool true)) (.t 75), none, []⟩,
    ⟨some 77, .mov (.t 76), none, []⟩,
    ⟨some 78, .mov (.t 11), some (77, true), []⟩,
    ⟨some 79, .mov (.t 78), some (77, true), []⟩,
    ⟨some 80, .mov (.t 7), some (79, false), []⟩,
    ⟨some 81, .bin .eql (.t 80) (.c (.int .i64 2147483647)), some (79, false), []⟩,
    ⟨some 82, .pick (.t 79) (.c (.bool true)) (.t 81), some (77, true), []⟩,
    ⟨some 83, .mov (.t 82), some (77, true), []⟩,
    ⟨some 84, .mov (.t 7), some (83, false), []⟩,
    ⟨some 85, .bin .eql (.t 84) (.c (.int .i64 (-2147483647))), some (83, false), []⟩,
    ⟨some 86, .pick (.t 83) (.c (.bool true)) (.t 85), some (77, true), []⟩,
    ⟨some 87, .pick (.t 77) (.t 86) (.c (.bool false)), none, []⟩,
    ⟨some 88, .mov (.t 87), none, []⟩,
    ⟨some 89, .mov (.t 5), some (88, true), []⟩,
    ⟨some 90, .call 54 [(.c (.int .i64 12)), (.t 89), (.c (.int .i64 0))], some (88, true), []⟩,
    ⟨some 91, .bin .eql (.t 90) (.c (.int .i64 0)), some (88, true), []⟩,
    ⟨some 92, .pick (.t 88) (.t 91) (.c (.bool false)), none, []⟩,
    ⟨some 93, .mov (.t 92), none, []⟩,
    ⟨some 94, .call 50 [], some (93, true), []⟩,
    ⟨some 95, .pick (.t 93) (.t 94) (.c (.bool false)), none, []⟩,
    ⟨some 4, .mov (.t 95), none, []⟩] [4])
  (.ret))))))))), false, false, false⟩
def F42l1 : PC := (.seq (.seq (.region none [⟨some 69, .mov (.t 15), none, []⟩,
      ⟨some 70, .bin .lss (.t 69) (.c (.int .i64 3)), none, []⟩] [1, 7, 8, 9, 10, 11, 12, 13, 14, 15, 70])
    (.cond (.t 70)
     (.skip)
     (.exit 2)))
    (.seq (.block 3 (.seq (.region none [⟨some 74, .mov (.t 8), none, []⟩,
      ⟨some 75, .mkif 0 (.t 74), none, []⟩,
      ⟨some 76, .load true 16 (.t 7), none, []⟩,
      ⟨some 77, .load true 4 (.t 13), none, []⟩,
      ⟨some 78, .call 52 [(.t 75), (.t 76), (.t 77)], none, []⟩,
      ⟨some 73, .mov (.t 78), none, []⟩,
      ⟨some 79, .extract (.t 73) 0, none, []⟩,
      ⟨some 80, .extract (.t 73) 1, none, []⟩,
      ⟨some 81, .extract (.t 73) 2, none, []⟩,
      ⟨some 17, .alloc [(.lit (.int .i64 0)), (.lit (.int .i64 0)), (.lit (.int .i64 0)), (.lit (.int .i64 0))], none, []⟩,
      ⟨some 16, .mov (.t 79), none, []⟩,
      ⟨none, .store 4 (.t 17) (.t 80), none, []⟩,
      ⟨some 18, .mov (.t 81), none, []⟩] [1, 7, 8, 9, 10, 11, 12, 13, 14, 15, 17, 18])
    (.seq (.region none [⟨some 83, .mov (.t 9), none, []⟩,
      ⟨some 84, .mkif 0 (.t 83), none, []⟩,
      ⟨some 85, .load true 16 (.t 7), none, []⟩,
      ⟨some 86, .load true 4 (.t 13), none, []⟩,
      ⟨some 87, .call 52 [(.t 84), (.t 85), (.t 86)], none, []⟩,
      ⟨some 82, .mov (.t 87), none, []⟩,
      ⟨some 88, .extract (.t 82) 0, none, []⟩,
      ⟨some 89, .extract (.t 82) 1, none, []⟩,
      ⟨some 90, .extract (.t 82) 2, none, []⟩,
      ⟨some 20, .alloc [(.lit (.int .i64 0)), (.lit (.int .i64 0)), (.lit (.int .i64 0)), (.lit (.int .i64 0))], none, []⟩,
      ⟨some 19, .mov (.t 88), none, []⟩,
      ⟨none, .store 4 (.t 20) (.t 89), none, []⟩,
      ⟨some 21, .mov (.t 90), none, []⟩] [1, 7, 8, 9, 10, 11, 12, 13, 14, 15, 17, 18, 20, 21])
    (.seq (.region none [⟨some 91, .mov (.t 18), none, []⟩,
      ⟨some 92, .mov (.t 15), none, []⟩,
      ⟨some 93, .bin .eql (.t 92) (.c (.int .i64 2)), none, []⟩,
      ⟨some 94, .mov (.t 93), none, []⟩,
      ⟨some 95, .mov (.t 11), some (94, true), []⟩,
      ⟨some 96, .bin .lss (.t 95) (.c (.int .i64 40)), some (94, true), []⟩,
      ⟨some 97, .pick (.t 94) (.t 96) (.c (.bool false)), none, []⟩,
      ⟨some 98, .eqb true (.t 91) (.t 97), none, []⟩,
      ⟨some 99, .mov (.t 98), none, []⟩,
      ⟨some 100, .mov (.t 21), some (99, false), []⟩,
      ⟨some 101, .mov (.t 18), some (99, false), []⟩,
      ⟨some 102, .eqb true (.t 100) (.t 101), some (99, false), []⟩,
      ⟨some 103, .pick (.t 99) (.c (.bool true)) (.t 102), none, []⟩,
      ⟨some 104, .mov (.t 103), none, []⟩,
      ⟨some 105, .load true 4 (.t 17), some (104, false), []⟩,
      ⟨some 106, .load true 4 (.t 20), some (104, false), []⟩,
      ⟨some 107, .eqa true [.i, .i, .i, .i] (.t 105) (.t 106), some (104, false), []⟩,
      ⟨some 108, .pick (.t 104) (.c (.bool true)) (.t 107), none, []⟩,
      ⟨some 109, .mov (.t 108), none, []⟩,
      ⟨some 110, .mov (.t 18), some (109, false), []⟩,
      ⟨some 111, .mov (.t 110), some (109, false), []⟩,
      ⟨some 112, .load true 4 (.t 17), some (111, true), []⟩,
      ⟨some 113, .mov (.t 11), some (111, true), []⟩,
      ⟨some 114, .mov (.t 12), some (111, true), []⟩,
      ⟨some 115, .mov (.t 11), some (111, true), []⟩,
      ⟨some 116, .build [(.lit (.int .i64 0)), (.lit (.int .i64 0)), (.lit (.int .i64 0)), (.lit (.int .i64 0))] [(1, 1, (.t 113)), (2, 1, (.t 114)), (3, 1, (.t 115))], some (111, true), []⟩,
      ⟨some 117, .eqa true [.i, .i, .i, .i] (.t 112) (.t 116), some (111, true), []⟩,
      ⟨some 118, .pick (.t 111) (.t 117) (.c (.bool false)), some (109, false), []⟩,
      ⟨some 119, .pick (.t 109) (.c (.bool true)) (.t 118), none, []⟩] [1, 7, 8, 9, 10, 11, 12, 13, 14, 15, 119])
    (.cond (.t 119)
     (.seq (.region none [⟨some 6, .mov (.c (.bool false)), none, []⟩] [6])
     (.ret))
     (.skip))))))
    (.region none [⟨some 71, .mov (.t 15), none, []⟩,
      ⟨some 72, .bin .add (.t 71) (.c (.int .i64 1)), none, []⟩,
      ⟨some 15, .mov (.t 72), none, []⟩] [1, 7, 8, 9, 10, 11, 12, 13, 14, 15])))
theorem run_F42l1 (C : Task → Option Res) (k : Nat) (fr : Fr) (σ : S) : run C k F42l1 fr σ = run C k (.seq (.seq (.region none [⟨some 69, .mov (.t 15), none, []⟩,
      ⟨some 70, .bin .lss (.t 69) (.c (.int .i64 3)), none, []⟩] [1, 7, 8, 9, 10, 11, 12, 13, 14, 15, 70])
    (.cond (.t 70)
     (.skip)
     (.exit 2)))
    (.seq (.block 3 (.seq (.region none [⟨some 74, .mov (.t 8), none, []⟩,
      ⟨some 75, .mkif 0 (.t 74), none, []⟩,
      ⟨some 76, .load true 16 (.t 7), none, []⟩,
      ⟨some 77, .load true 4 (.t 13), none, []⟩,
      ⟨some 78, .call 52 [(.t 75), (.t 76), (.t 77)], none, []⟩,
      ⟨some 73, .mov (.t 78), none, []⟩,
      ⟨some 79, .extract (.t 73) 0, none, []⟩,
      ⟨some 80, .extract (.t 73) 1, none, []⟩,
      ⟨some 81, .extract (.t 73) 2, none, []⟩,
      ⟨some 17, .alloc [(.lit (.int .i64 0)), (.lit (.int .i64 0)), (.lit (.int .i64 0)), (.lit (.int .i64 0))], none, []⟩,
      ⟨some 16, .mov (.t 79), none, []⟩,
      ⟨none, .store 4 (.t 17) (.t 80), none, []⟩,
      ⟨some 18, .mov (.t 81), none, []⟩] [1, 7, 8, 9, 10, 11, 12, 13, 14, 15, 17, 18])
    (.seq (.region none [⟨some 83, .mov (.t 9), none, []⟩,
      ⟨some 84, .mkif 0 (.t 83), none, []⟩,
      ⟨some 85, .load true 16 (.t 7), none, []⟩,
      ⟨some 86, .load true 4 (.t 13), none, []⟩,
      ⟨some 87, .call 52 [(.t 84), (.t 85), (.t 86)], none, []⟩,
      ⟨some 82, .mov (.t 87), none, []⟩,
      ⟨some 88, .extract (.t 82) 0, none, []⟩,
      ⟨some 89, .extract (.t 82) 1, none, []⟩,
      ⟨some 90, .extract (.t 82) 2, none, []⟩,
      ⟨some 20, .alloc [(.lit (.int .i64 0)), (.lit (.int .i64 0)), (.lit (.int .i64 0)), (.lit (.int .i64 0))], none, []⟩,
      ⟨some 19, .mov (.t 88), none, []⟩,
      ⟨none, .store 4 (.t 20) (.t 89), none, []⟩,
      ⟨some 21, .mov (.t 90), none, []⟩] [1, 7, 8, 9, 10, 11, 12, 13, 14, 15, 17, 18, 20, 21])
    (.seq (.region none [⟨some 91, .mov (.t 18), none, []⟩,
      ⟨some 92, .mov (.t 15), none, []⟩,
      ⟨some 93, .bin .eql (.t 92) (.c (.int .i64 2)), none, []⟩,
      ⟨some 94, .mov (.t 93), none, []⟩,
      ⟨some 95, .mov (.t 11), some (94, true), []⟩,
      ⟨some 96, .bin .lss (.t 95) (.c (.int .i64 40)), some (94, true), []⟩,
      ⟨some 97, .pick (.t 94) (.t 96) (.c (.bool false)), none, []⟩,
      ⟨some 98, .eqb true (.t 91) (.t 97), none, []⟩,
      ⟨some 99, .mov (.t 98), none, []⟩,
      ⟨some 100, .mov (.t 21), some (99, false), []⟩,
      ⟨some 101, .mov (.t 18), some (99, false), []⟩,
      ⟨some 102, .eqb true (.t 100) (.t 101), some (99, false), []⟩,
      ⟨some 103, .pick (.t 99) (.c (.bool true)) (.t 102), none, []⟩,
      ⟨some 104, .mov (.t 103), none, []⟩,
      ⟨some 105, .load true 4 (.t 17), some (104, false), []⟩,
      ⟨some 106, .load true 4 (.t 20), some (104, false), []⟩,
      ⟨some 107, .eqa true [.i, .i, .i, .i] (.t 105) (.t 106), some (104, false), []⟩,
      ⟨some 108, .pick (.t 104) (.c (.bool true)) (.t 107), none, []⟩,
      ⟨some 109, .mov (.t 108), none, []⟩,
      ⟨some 110, .mov (.t 18), some (109, false), []⟩,
      ⟨some 111, .mov (.t 110), some (109, false), []⟩,
      ⟨some 112, .load true 4 (.t 17), some (111, true), []⟩,
      ⟨some 113, .mov (.t 11), some (111, true), []⟩,
      ⟨some 114, .mov (.t 12), some (111, true), []⟩,
      ⟨some 115, .mov (.t 11), some (111, true), []⟩,
      ⟨some 116, .build [(.lit (.int .i64 0)), (.lit (.int .i64 0)), (.lit (.int .i64 0)), (.lit (.int .i64 0))] [(1, 1, (.t 113)), (2, 1, (.t 114)), (3, 1, (.t 115))], some (111, true), []⟩,
      ⟨some 117, .eqa true [.i, .i, .i, .i] (.t 112) (.t 116), some (111, true), []⟩,
      ⟨some 118, .pick (.t 111) (.t 117) (.c (.bool false)), some (109, false), []⟩,
      ⟨some 119, .pick (.t 109) (.c (.bool true)) (.t 118), none, []⟩] [1, 7, 8, 9, 10, 11, 12, 13, 14, 15, 119])
    (.cond (.t 119)
     (.seq (.region none [⟨some 6, .mov (.c (.bool false)), none, []⟩] [6])
     (.ret))
     (.skip))))))
    (.region none [⟨some 71, .mov (.t 15), none, []⟩,
      ⟨some 72, .bin .add (.t 71) (.c (.int .i64 1)), none, []⟩,
      ⟨some 15, .mov (.t 72), none, []⟩] [1, 7, 8, 9, 10, 11, 12, 13, 14, 15]))) fr σ := rfl
def F42l0 : PC := (.seq (.seq (.region none [⟨some 38, .mov (.t 11), none, []⟩,
     ⟨some 39, .mov (.t 10), none, []⟩,
     ⟨some 40, .bin .lss (.t 38) (.t 39), none, []⟩] [1, 7, 8, 9, 10, 11, 40])
   (.cond (.t 40)
    (.skip)
    (.exit 0)))
   (.seq (.block 1 (.seq (.region none [⟨some 12, .mov (.c (.int .i64 0)), none, []⟩] [1, 7, 8, 9, 10, 11, 12])
   (.seq (.seq (.region none [⟨some 43, .mov (.t 11), none, []⟩,
     ⟨some 44, .mov (.t 1), none, []⟩,
     ⟨some 45, .len .sl (.t 44), none, []⟩,
     ⟨some 46, .bin .lss (.t 43) (.t 45), none, []⟩] [1, 7, 8, 9, 10, 11, 12, 46])
   (.cond (.t 46)
    (.region none [⟨some 47, .mov (.t 1), none, []⟩,
      ⟨some 48, .mov (.t 11), none, []⟩,
      ⟨some 49, .indexAddr 1 (.t 47) (.t 48), none, []⟩,
      ⟨some 50, .load false 1 (.t 49), none, []⟩,
      ⟨some 51, .call 53 [(.t 50), (.c (.int .i64 2147483647))], none, []⟩,
      ⟨some 12, .mov (.t 51), none, []⟩] [1, 7, 8, 9, 10, 11, 12])
    (.skip)))
   (.seq (.region none [⟨some 52, .mov (.t 12), none, []⟩,
     ⟨some 53, .build [(.lit (.int .i64 0)), (.lit (.int .i64 0))] [(0, 1, (.c (.int .i64 1))), (1, 1, (.t 52))], none, []⟩,
     ⟨some 54, .mov (.t 11), none, []⟩,
     ⟨some 55, .build [(.lit (.int .i64 0)), (.lit (.int .i64 0))] [(0, 1, (.c (.int .i64 1))), (1, 1, (.t 54))], none, []⟩,
     ⟨some 56, .build [(.lit (.int .i64 0)), (.lit (.int .i64 0))] [(0, 1, (.c (.int .i64 20)))], none, []⟩,
     ⟨some 57, .bslice 3 [(.lit (.int .i64 0)), (.lit (.int .i64 0)), (.lit (.int .i64 0)), (.lit (.int .i64 0)), (.lit (.int .i64 0)), (.lit (.int .i64 0))] [(0, 2, (.t 53)), (2, 2, (.t 55)), (4, 2, (.t 56))], none, []⟩,
     ⟨some 58, .build [(.lit (.slice none 0 0)), (.lit (.int .i64 0)), (.lit (.int .i64 0)), (.lit (.int .i64 0))] [(0, 1, (.t 57))], none, []⟩,
     ⟨some 13, .alloc [(.lit (.slice none 0 0)), (.lit (.int .i64 0)), (.lit (.int .i64 0)), (.lit (.int .i64 0))], none, []⟩,
     ⟨none, .store 4 (.t 13) (.t 58), none, []⟩] [1, 7, 8, 9, 10, 11, 12, 13])
   (.seq (.region none [⟨some 59, .mov (.t 8), none, []⟩,
     ⟨some 60, .call 51 [(.t 59), (.c (.int .i64 12))], none, []⟩,
     ⟨some 14, .mov (.t 60), none, []⟩] [1, 7, 8, 9, 10, 11, 12, 13, 14])
   (.seq (.region none [⟨some 61, .mov (.t 8), none, []⟩,
     ⟨some 62, .mkif 0 (.t 61), none, []⟩,
     ⟨some 63, .load true 4 (.t 13), none, []⟩,
     ⟨some 64, .call 49 [(.t 62), (.t 63), (.c (.int .i64 0)), (.c (.int .i64 0)), (.c (.int .i64 0)), (.c (.int .i64 3))], none, []⟩] [1, 7, 8, 9, 10, 11, 12, 13, 14])
   (.seq (.region none [⟨some 65, .mov (.t 9), none, []⟩,
     ⟨some 66, .mkif 0 (.t 65), none, []⟩,
     ⟨some 67, .load true 4 (.t 13), none, []⟩,
     ⟨some 68, .call 49 [(.t 66), (.t 67), (.c (.int .i64 0)), (.c (.int .i64 0)), (.c (.int .i64 0)), (.c (.int .i64 3))], none, []⟩] [1, 7, 8, 9, 10, 11, 12, 13, 14])
   (.seq (.seq (.region none [⟨some 15, .mov (.c (.int .i64 0)), none, []⟩] [1, 7, 8, 9, 10, 11, 12, 13, 14, 15])
   (.block 2 (.loop F42l1)))
   (.seq (.region none [⟨some 120, .mov (.t 11), none, []⟩,
     ⟨some 121, .bin .geq (.t 120) (.c (.int .i64 40)), none, []⟩,
     ⟨some 122, .mov (.t 121), none, []⟩,
     ⟨some 123, .mov (.t 8), some (122, true), []⟩,
     ⟨some 124, .call 51 [(.t 123), (.c (.int .i64 12))], some (122, true), []⟩,
     ⟨some 125, .mov (.t 14), some (122, true), []⟩,
     ⟨some 126, .bin .neq (.t 124) (.t 125), some (122, true), []⟩,
     ⟨some 127, .pick (.t 122) (.t 126) (.c (.bool false)), none, []⟩] [1, 7, 8, 9, 10, 11, 127])
   (.cond (.t 127)
    (.seq (.region none [⟨some 6, .mov (.c (.bool false)), none, []⟩] [6])
    (.ret))
    (.skip)))))))))))
   (.region none [⟨some 41, .mov (.t 11), none, []⟩,
     ⟨some 42, .bin .add (.t 41) (.c (.int .i64 1)), none, []⟩,
     ⟨some 11, .mov (.t 42), none, []⟩] [1, 7, 8, 9, 10, 11])))
theorem run_F42l0 (C : Task → Option Res) (k : Nat) (fr : Fr) (σ : S) : run C k F42l0 fr σ = run C k (.seq (.seq (.region none [⟨some 38, .mov (.t 11), none, []⟩,
     ⟨some 39, .mov (.t 10), none, []⟩,
     ⟨some 40, .bin .lss (.t 38) (.t 39), none, []⟩] [1, 7, 8, 9, 10, 11, 40])
   (.cond (.t 40)
    (.skip)
    (.exit 0)))
   (.seq (.block 1 (.seq (.region none [⟨some 12, .mov (.c (.int .i64 0)), none, []⟩] [1, 7, 8, 9, 10, 11, 12])
   (.seq (.seq (.region none [⟨some 43, .mov (.t 11), none, []⟩,
     ⟨some 44, .mov (.t 1), none, []⟩,
     ⟨some 45, .len .sl (.t 44), none, []⟩,
     ⟨some 46, .bin .lss (.t 43) (.t 45), none, []⟩] [1, 7, 8, 9, 10, 11, 12, 46])
   (.cond (.t 46)
    (.region none [⟨some 47, .mov (.t 1), none, []⟩,
      ⟨some 48, .mov (.t 11), none, []⟩,
      ⟨some 49, .indexAddr 1 (.t 47) (.t 48), none, []⟩,
      ⟨some 50, .load false 1 (.t 49), none, []⟩,
      ⟨some 51, .call 53 [(.t 50), (.c (.int .i64 2147483647))], none, []⟩,
      ⟨some 12, .mov (.t 51), none, []⟩] [1, 7, 8, 9, 10, 11, 12])
    (.skip)))
   (.seq (.region none [⟨some 52, .mov (.t 12), none, []⟩,
     ⟨some 53, .build [(.lit (.int .i64 0)), (.lit (.int .i64 0))] [(0, 1, (.c (.int .i64 1))), (1, 1, (.t 52))], none, []⟩,
     ⟨some 54, .mov (.t 11), none, []⟩,
     ⟨some 55, .build [(.lit (.int .i64 0)), (.lit (.int .i64 0))] [(0, 1, (.c (.int .i64 1))), (1, 1, (.t 54))], none, []⟩,
     ⟨some 56, .build [(.lit (.int .i64 0)), (.lit (.int .i64 0))] [(0, 1, (.c (.int .i64 20)))], none, []⟩,
     ⟨some 57, .bslice 3 [(.lit (.int .i64 0)), (.lit (.int .i64 0)), (.lit (.int .i64 0)), (.lit (.int .i64 0)), (.lit (.int .i64 0)), (.lit (.int .i64 0))] [(0, 2, (.t 53)), (2, 2, (.t 55)), (4, 2, (.t 56))], none, []⟩,
     ⟨some 58, .build [(.lit (.slice none 0 0)), (.lit (.int .i64 0)), (.lit (.int .i64 0)), (.lit (.int .i64 0))] [(0, 1, (.t 57))], none, []⟩,
     ⟨some 13, .alloc [(.lit (.slice none 0 0)), (.lit (.int .i64 0)), (.lit (.int .i64 0)), (.lit (.int .i64 0))], none, []⟩,
     ⟨none, .store 4 (.t 13) (.t 58), none, []⟩] [1, 7, 8, 9, 10, 11, 12, 13])
   (.seq (.region none [⟨some 59, .mov (.t 8), none, []⟩,
     ⟨some 60, .call 51 [(.t 59), (.c (.int .i64 12))], none, []⟩,
     ⟨some 14, .mov (.t 60), none, []⟩] [1, 7, 8, 9, 10, 11, 12, 13, 14])
   (.seq (.region none [⟨some 61, .mov (.t 8), none, []⟩,
     ⟨some 62, .mkif 0 (.t 61), none, []⟩,
     ⟨some 63, .load true 4 (.t 13), none, []⟩,
     ⟨some 64, .call 49 [(.t 62), (.t 63), (.c (.int .i64 0)), (.c (.int .i64 0)), (.c (.int .i64 0)), (.c (.int .i64 3))], none, []⟩] [1, 7, 8, 9, 10, 11, 12, 13, 14])
   (.seq (.region none [⟨some 65, .mov (.t 9), none, []⟩,
     ⟨some 66, .mkif 0 (.t 65), none, []⟩,
     ⟨some 67, .load true 4 (.t 13), none, []⟩,
     ⟨some 68, .call 49 [(.t 66), (.t 67), (.c (.int .i64 0)), (.c (.int .i64 0)), (.c (.int .i64 0)), (.c (.int .i64 3))], none, []⟩] [1, 7, 8, 9, 10, 11, 12, 13, 14])
   (.seq (.seq (.region none [⟨some 15, .mov (.c (.int .i64 0)), none, []⟩] [1, 7, 8, 9, 10, 11, 12, 13, 14, 15])
   (.block 2 (.loop F42l1)))
   (.seq (.region none [⟨some 120, .mov (.t 11), none, []⟩,
     ⟨some 121, .bin .geq (.t 120) (.c (.int .i64 40)), none, []⟩,
     ⟨some 122, .mov (.t 121), none, []⟩,
     ⟨some 123, .mov (.t 8), some (122, true), []⟩,
     ⟨some 124, .call 51 [(.t 123), (.c (.int .i64 12))], some (122, true), []⟩,
     ⟨some 125, .mov (.t 14), some (122, true), []⟩,
     ⟨some 126, .bin .neq (.t 124) (.t 125), some (122, true), []⟩,
     ⟨some 127, .pick (.t 122) (.t 126) (.c (.bool false)), none, []⟩] [1, 7, 8, 9, 10, 11, 127])
   (.cond (.t 127)
    (.seq (.region none [⟨some 6, .mov (.c (.bool false)), none, []⟩] [6])
    (.ret))
    (.skip)))))))))))
   (.region none [⟨some 41, .mov (.t 11), none, []⟩,
     ⟨some 42, .bin .add (.t 41) (.c (.int .i64 1)), none, []⟩,
     ⟨some 11, .mov (.t 42), none, []⟩] [1, 7, 8, 9, 10, 11]))) fr σ := rfl
/-- arenanet/arenanetlaw16.VmEffects -/
def F42 : PFun := ⟨3, [.tmp 6],
  .seq (.region none [⟨some 6, .mov (.c (.bool false)), none, []⟩] [0, 1, 2])
  (.seq (.region none [⟨some 22, .mov (.t 0), none, []⟩,
    ⟨some 23, .call 45 [(.t 22)], none, []⟩,
    ⟨some 7, .alloc [(.lit (.int .i64 0)), (.lit (.slice none 0 0)), (.lit (.int .i64 0)), (.lit (.int .i64 0)), (.lit (.int .i64 0)), (.lit (.int .i64 0)), (.lit (.slice none 0 0)), (.lit (.slice none 0 0)), (.lit (.int .i64 0)), (.lit (.int .i64 0)), (.lit (.int .i64 0)), (.lit (.int .i64 0)), (.lit (.int .i64 0)), (.lit (.int .i64 0)), (.lit (.int .i64 0)), (.lit (.int .i64 0))], none, []⟩,
    ⟨none, .store 16 (.t 7) (.t 23), none, []⟩] [1, 2, 7])
  (.seq (.region none [⟨some 24, .load true 16 (.t 7), none, []⟩,
    ⟨some 25, .call 55 [(.t 24)], none, []⟩,
    ⟨some 26, .call 46 [(.t 25)], none, []⟩,
    ⟨some 8, .mov (.t 26), none, []⟩] [1, 2, 7, 8])
  (.seq (.region none [⟨some 27, .load true 16 (.t 7), none, []⟩,
    ⟨some 28, .call 55 [(.t 27)], none, []⟩,
    ⟨some 29, .call 46 [(.t 28)], none, []⟩,
    ⟨some 9, .mov (.t 29), none, []⟩] [1, 2, 7, 8, 9])
  (.seq (.seq (.region none [⟨some 30, .mov (.t 8), none, []⟩,
    ⟨some 31, .isnil true false (.t 30), none, []⟩,
    ⟨some 32, .mov (.t 31), none, []⟩,
    ⟨some 33, .mov (.t 9), some (32, false), []⟩,
    ⟨some 34, .isnil true false (.t 33), some (32, false), []⟩,
    ⟨some 35, .pick (.t 32) (.c (.bool true)) (.t 34), none, []⟩] [1, 2, 7, 8, 9, 35])
  (.cond (.t 35)
   (.seq (.region none [⟨some 6, .mov (.c (.bool false)), none, []⟩] [6])
   (.ret))
   (.skip)))
  (.seq (.region none [⟨some 36, .mov (.t 2), none, []⟩,
    ⟨some 37, .call 17 [(.t 36), (.c (.int .i64 50))], none, []⟩,
    ⟨some 10, .mov (.t 37), none, []⟩] [1, 7, 8, 9, 10])
  (.seq (.seq (.region none [⟨some 11, .mov (.c (.int .i64 0)), none, []⟩] [1, 7, 8, 9, 10, 11])
  (.block 0 (.loop F42l0)))
  (.seq (.region none [⟨some 128, .mov (.t 8), none, []⟩,
    ⟨some 129, .call 51 [(.t 128), (.c (.int .i64 11))], none, []⟩,
    ⟨some 130, .mov (.t 10), none, []⟩,
    ⟨some 131, .min [(.t 130), (.c (.int .i64 40))], none, []⟩,
    ⟨some 132, .bin .eql (.t 129) (.t 131), none, []⟩,
    ⟨some 133, .mov (.t 132), none, []⟩,
    ⟨some 134, .mov (.t 8), some (133, true), []⟩,
    ⟨some 135, .call 51 [(.t 134), (.c (.int .i64 12))], some (133, true), []⟩,
    ⟨some 136, .mov (.t 9), some (133, true), []⟩,
    ⟨some 137, .call 51 [(.t 136), (.c (.int .i64 12))], some (133, true), []⟩,
    ⟨some 138, .bin .eql (.t 135) (.t 137), some (133, true), []⟩,
    ⟨some 139, .pick (.t 133) (.t 138) (.c (.bool false)), none, []⟩,
    ⟨some 140, .mov (.t 139), none, []⟩,
    ⟨some 141, .call 50 [], some (140, true), []⟩,
    ⟨some 142, .pick (.t 140) (.t 141) (.c (.bool false)), none, []⟩,
    ⟨some 6, .mov (.t 142), none, []⟩] [6])
  (.ret)))))))), false, false, false⟩
def F43l0 : PC := (.seq (.seq (.region none [⟨some 62, .mov (.t 18), none, []⟩,
     ⟨some 63, .bin .lss (.t 62) (.c (.int .i64 40)), none, []⟩] [11, 12, 13, 14, 18, 63])
   (.cond (.t 63)
    (.skip)
    (.exit 0)))
   (.seq (.block 1 (.seq (.region none [⟨some 67, .mov (.t 13), none, []⟩,
     ⟨some 68, .load true 16 (.t 11), none, []⟩,
     ⟨some 69, .load true 4 (.t 12), none, []⟩,
     ⟨some 70, .call 57 [(.t 67), (.t 68), (.t 69)], none, []⟩,
     ⟨some 66, .mov (.t 70), none, []⟩,
     ⟨some 71, .extract (.t 66) 0, none, []⟩,
     ⟨some 72, .extract (.t 66) 1, none, []⟩,
     ⟨some 73, .extract (.t 66) 2, none, []⟩,
     ⟨some 74, .extract (.t 66) 3, none, []⟩,
     ⟨some 21, .alloc [(.lit (.int .i64 0)), (.lit (.int .i64 0)), (.lit (.int .i64 0)), (.lit (.int .i64 0))], none, []⟩,
     ⟨some 19, .mov (.t 71), none, []⟩,
     ⟨some 20, .mov (.t 72), none, []⟩,
     ⟨none, .store 4 (.t 21) (.t 73), none, []⟩,
     ⟨some 22, .mov (.t 74), none, []⟩] [11, 12, 14, 18, 19, 20, 21, 22])
   (.seq (.region none [⟨some 75, .mov (.t 19), none, []⟩,
     ⟨some 13, .mov (.t 75), none, []⟩] [11, 12, 13, 14, 18, 20, 21, 22])
   (.seq (.region none [⟨some 77, .mov (.t 14), none, []⟩,
     ⟨some 78, .mkif 0 (.t 77), none, []⟩,
     ⟨some 79, .load true 16 (.t 11), none, []⟩,
     ⟨some 80, .load true 4 (.t 12), none, []⟩,
     ⟨some 81, .call 52 [(.t 78), (.t 79), (.t 80)], none, []⟩,
     ⟨some 76, .mov (.t 81), none, []⟩,
     ⟨some 82, .extract (.t 76) 0, none, []⟩,
     ⟨some 83, .extract (.t 76) 1, none, []⟩,
     ⟨some 84, .extract (.t 76) 2, none, []⟩,
     ⟨some 24, .alloc [(.lit (.int .i64 0)), (.lit (.int .i64 0)), (.lit (.int .i64 0)), (.lit (.int .i64 0))], none, []⟩,
     ⟨some 23, .mov (.t 82), none, []⟩,
     ⟨none, .store 4 (.t 24) (.t 83), none, []⟩,
     ⟨some 25, .mov (.t 84), none, []⟩] [11, 12, 13, 14, 18, 20, 21, 22, 23, 24, 25])
   (.seq (.seq (.region none [⟨some 85, .mov (.t 23), none, []⟩,
     ⟨some 86, .mov (.t 20), none, []⟩,
     ⟨some 87, .eqb true (.t 85) (.t 86), none, []⟩,
     ⟨some 88, .mov (.t 87), none, []⟩,
     ⟨some 89, .load true 4 (.t 24), some (88, false), []⟩,
     ⟨some 90, .load true 4 (.t 21), some (88, false), []⟩,
     ⟨some 91, .eqa true [.i, .i, .i, .i] (.t 89) (.t 90), some (88, false), []⟩,
     ⟨some 92, .pick (.t 88) (.c (.bool true)) (.t 91), none, []⟩,
     ⟨some 93, .mov (.t 92), none, []⟩,
     ⟨some 94, .mov (.t 25), some (93, false), []⟩,
     ⟨some 95, .mov (.t 22), some (93, false), []⟩,
     ⟨some 96, .eqb true (.t 94) (.t 95), some (93, false), []⟩,
     ⟨some 97, .pick (.t 93) (.c (.bool true)) (.t 96), none, []⟩,
     ⟨some 98, .mov (.t 97), none, []⟩,
     ⟨some 99, .mov (.t 14), some (98, false), []⟩,
     ⟨some 100, .call 59 [(.t 99)], some (98, false), []⟩,
     ⟨some 101, .mov (.t 13), some (98, false), []⟩,
     ⟨some 102, .call 58 [(.t 100), (.t 101)], some (98, false), []⟩,
     ⟨some 103, .un .not (.t 102), some (98, false), []⟩,
     ⟨some 104, .pick (.t 98) (.c (.bool true)) (.t 103), none, []⟩] [11, 12, 13, 14, 18, 20, 104])
   (.cond (.t 104)
    (.seq (.region none [⟨some 10, .mov (.c (.bool false)), none, []⟩] [10])
    (.ret))
    (.skip)))
   (.seq (.region none [⟨some 105, .mov (.t 20), none, []⟩,
     ⟨some 106, .mov (.t 105), none, []⟩,
     ⟨some 107, .mov (.t 18), some (106, true), []⟩,
     ⟨some 108, .bin .gtr (.t 107) (.c (.int .i64 3)), some (106, true), []⟩,
     ⟨some 109, .pick (.t 106) (.t 108) (.c (.bool false)), none, []⟩] [11, 12, 13, 14, 18, 109])
   (.cond (.t 109)
    (.exit 0)
    (.skip))))))))
   (.region none [⟨some 64, .mov (.t 18), none, []⟩,
     ⟨some 65, .bin .add (.t 64) (.c (.int .i64 1)), none, []⟩,
     ⟨some 18, .mov (.t 65), none, []⟩] [11, 12, 13, 14, 18])))
theorem run_F43l0 (C : Task → Option Res) (k : Nat) (fr : Fr) (σ : S) : run C k F43l0 fr σ = run C k (.seq (.seq (.region none [⟨some 62, .mov (.t 18), none, []⟩,
     ⟨some 63, .bin .lss (.t 62) (.c (.int .i64 40)), none, []⟩] [11, 12, 13, 14, 18, 63])
   (.cond (.t 63)
    (.skip)
    (.exit 0)))
   (.seq (.block 1 (.seq (.region none [⟨some 67, .mov (.t 13), none, []⟩,
     ⟨some 68, .load true 16 (.t 11), none, []⟩,
     ⟨some 69, .load true 4 (.t 12), none, []⟩,
     ⟨some 70, .call 57 [(.t 67), (.t 68), (.t 69)], none, []⟩,
     ⟨some 66, .mov (.t 70), none, []⟩,
     ⟨some 71, .extract (.t 66) 0, none, []⟩,
     ⟨some 72, .extract (.t 66) 1, none, []⟩,
     ⟨some 73, .extract (.t 66) 2, none, []⟩,
     ⟨some 74, .extract (.t 66) 3, none, []⟩,
     ⟨some 21, .alloc [(.lit (.int .i64 0)), (.lit (.int .i64 0)), (.lit (.int .i64 0)), (.lit (.int .i64 0))], none, []⟩,
     ⟨some 19, .mov (.t 71), none, []⟩,
     ⟨some 20, .mov (.t 72), none, []⟩,
     ⟨none, .store 4 (.t 21) (.t 73), none, []⟩,
     ⟨some 22, .mov (.t 74), none, []⟩] [11, 12, 14, 18, 19, 20, 21, 22])
   (.seq (.region none [⟨some 75, .mov (.t 19), none, []⟩,
     ⟨some 13, .mov (.t 75), none, []⟩] [11, 12, 13, 14, 18, 20, 21, 22])
   (.seq (.region none [⟨some 77, .mov (.t 14), none, []⟩,
     ⟨some 78, .mkif 0 (.t 77), none, []⟩,
     ⟨some 79, .load true 16 (.t 11), none, []⟩,
     ⟨some 80, .load true 4 (.t 12), none, []⟩,
     ⟨some 81, .call 52 [(.t 78), (.t 79), (.t 80)], none, []⟩,
     ⟨some 76, .mov (.t 81), none, []⟩,
     ⟨some 82, .extract (.t 76) 0, none, []⟩,
     ⟨some 83, .extract (.t 76) 1, none, []⟩,
     ⟨some 84, .extract (.t 76) 2, none, []⟩,
     ⟨some 24, .alloc [(.lit (.int .i64 0)), (.lit (.int .i64 0)), (.lit (.int .i64 0)), (.lit (.int .i64 0))], none, []⟩,
     ⟨some 23, .mov (.t 82), none, []⟩,
     ⟨none, .store 4 (.t 24) (.t 83), none, []⟩,
     ⟨some 25, .mov (.t 84), none, []⟩] [11, 12, 13, 14, 18, 20, 21, 22, 23, 24, 25])
   (.seq (.seq (.region none [⟨some 85, .mov (.t 23), none, []⟩,
     ⟨some 86, .mov (.t 20), none, []⟩,
     ⟨some 87, .eqb true (.t 85) (.t 86), none, []⟩,
     ⟨some 88, .mov (.t 87), none, []⟩,
     ⟨some 89, .load true 4 (.t 24), some (88, false), []⟩,
     ⟨some 90, .load true 4 (.t 21), some (88, false), []⟩,
     ⟨some 91, .eqa true [.i, .i, .i, .i] (.t 89) (.t 90), some (88, false), []⟩,
     ⟨some 92, .pick (.t 88) (.c (.bool true)) (.t 91), none, []⟩,
     ⟨some 93, .mov (.t 92), none, []⟩,
     ⟨some 94, .mov (.t 25), some (93, false), []⟩,
     ⟨some 95, .mov (.t 22), some (93, false), []⟩,
     ⟨some 96, .eqb true (.t 94) (.t 95), some (93, false), []⟩,
     ⟨some 97, .pick (.t 93) (.c (.bool true)) (.t 96), none, []⟩,
     ⟨some 98, .mov (.t 97), none, []⟩,
     ⟨some 99, .mov (.t 14), some (98, false), []⟩,
     ⟨some 100, .call 59 [(.t 99)], some (98, false), []⟩,
     ⟨some 101, .mov (.t 13), some (98, false), []⟩,
     ⟨some 102, .call 58 [(.t 100), (.t 101)], some (98, false), []⟩,
     ⟨some 103, .un .not (.t 102), some (98, false), []⟩,
     ⟨some 104, .pick (.t 98) (.c (.bool true)) (.t 103), none, []⟩] [11, 12, 13, 14, 18, 20, 104])
   (.cond (.t 104)
    (.seq (.region none [⟨some 10, .mov (.c (.bool false)), none, []⟩] [10])
    (.ret))
    (.skip)))
   (.seq (.region none [⟨some 105, .mov (.t 20), none, []⟩,
     ⟨some 106, .mov (.t 105), none, []⟩,
     ⟨some 107, .mov (.t 18), some (106, true), []⟩,
     ⟨some 108, .bin .gtr (.t 107) (.c (.int .i64 3)), some (106, true), []⟩,
     ⟨some 109, .pick (.t 106) (.t 108) (.c (.bool false)), none, []⟩] [11, 12, 13, 14, 18, 109])
   (.cond (.t 109)
    (.exit 0)
    (.skip))))))))
   (.region none [⟨some 64, .mov (.t 18), none, []⟩,
     ⟨some 65, .bin .add (.t 64) (.c (.int .i64 1)), none, []⟩,
     ⟨some 18, .mov (.t 65), none, []⟩] [11, 12, 13, 14, 18]))) fr σ := rfl
/-- arenanet/arenanetlaw16.VmSteps -/
def F43 : PFun := ⟨5, [.tmp 10],
  .seq (.region none [⟨some 10, .mov (.c (.bool false)), none, []⟩] [0, 1, 2, 3, 4])
  (.seq (.region none [⟨some 26, .mov (.t 0), none, []⟩,
    ⟨some 27, .call 45 [(.t 26)], none, []⟩,
    ⟨some 11, .alloc [(.lit (.int .i64 0)), (.lit (.slice none 0 0)), (.lit (.int .i64 0)), (.lit (.int .i64 0)), (.lit (.int .i64 0)), (.lit (.int .i64 0)), (.lit (.slice none 0 0)), (.lit (.slice none 0 0)), (.lit (.int .i64 0)), (.lit (.int .i64 0)), (.lit (.int .i64 0)), (.lit (.int .i64 0)), (.lit (.int .i64 0)), (.lit (.int .i64 0)), (.lit (.int .i64 0)), (.lit (.int .i64 0))], none, []⟩,
    ⟨none, .store 16 (.t 11) (.t 27), none, []⟩] [1, 2, 3, 4, 11])
  (.seq (.region none [⟨some 28, .mov (.t 1), none, []⟩,
    ⟨some 29, .call 48 [(.t 28)], none, []⟩,
    ⟨some 12, .alloc [(.lit (.slice none 0 0)), (.lit (.int .i64 0)), (.lit (.int .i64 0)), (.lit (.int .i64 0))], none, []⟩,
    ⟨none, .store 4 (.t 12) (.t 29), none, []⟩] [2, 3, 4, 11, 12])
  (.seq (.region none [⟨some 30, .load true 16 (.t 11), none, []⟩,
    ⟨some 31, .mov (.t 2), none, []⟩,
    ⟨some 32, .call 47 [(.t 30), (.t 31)], none, []⟩,
    ⟨some 13, .mov (.t 32), none, []⟩] [3, 4, 11, 12, 13])
  (.seq (.region none [⟨some 33, .mov (.t 13), none, []⟩,
    ⟨some 34, .call 46 [(.t 33)], none, []⟩,
    ⟨some 14, .mov (.t 34), none, []⟩] [3, 4, 11, 12, 13, 14])
  (.seq (.seq (.region none [⟨some 35, .mov (.t 14), none, []⟩,
    ⟨some 36, .isnil true false (.t 35), none, []⟩] [3, 4, 11, 12, 13, 14, 36])
  (.cond (.t 36)
   (.seq (.region none [⟨some 10, .mov (.c (.bool false)), none, []⟩] [10])
   (.ret))
   (.skip)))
  (.seq (.region none [⟨some 37, .mov (.t 3), none, []⟩,
    ⟨some 38, .call 17 [(.t 37), (.c (.int .i64 6))], none, []⟩,
    ⟨some 39, .bin .sub (.t 38) (.c (.int .i64 1)), none, []⟩,
    ⟨some 15, .mov (.t 39), none, []⟩] [3, 4, 11, 12, 13, 14, 15])
  (.seq (.region (some []) [⟨some 41, .mov (.t 13), none, []⟩,
    ⟨some 42, .load true 4 (.t 12), none, [4]⟩,
    ⟨some 43, .mov (.t 15), none, []⟩,
    ⟨some 44, .mov (.t 4), none, []⟩,
    ⟨some 45, .call 17 [(.t 44), (.c (.int .i64 30))], none, []⟩,
    ⟨some 46, .call 56 [(.t 41), (.t 42), (.t 43), (.c (.int .i64 2)), (.c (.int .i64 7)), (.t 45)], none, []⟩,
    ⟨some 40, .mov (.t 46), none, []⟩,
    ⟨some 47, .extract (.t 40) 0, none, []⟩,
    ⟨some 48, .extract (.t 40) 1, none, []⟩,
    ⟨some 16, .mov (.t 47), none, []⟩,
    ⟨some 17, .mov (.t 48), none, []⟩] [3, 4, 11, 12, 13, 14, 15, 16, 17] [4, 5])
  (.seq (.seq (.region none [⟨some 49, .mov (.t 3), none, []⟩,
    ⟨some 50, .bin .rem (.t 49) (.c (.int .i64 3)), none, []⟩,
    ⟨some 51, .bin .neq (.t 50) (.c (.int .i64 0)), none, []⟩] [4, 11, 12, 13, 14, 15, 16, 17, 51])
  (.cond (.t 51)
   (.seq (.region none [⟨some 52, .mov (.t 16), none, []⟩,
     ⟨some 13, .mov (.t 52), none, []⟩] [4, 11, 12, 13, 14, 15, 17])
   (.seq (.region (some []) [⟨some 53, .mov (.t 14), none, []⟩,
     ⟨some 54, .mkif 0 (.t 53), none, []⟩,
     ⟨some 55, .load true 4 (.t 12), none, [5]⟩,
     ⟨some 56, .mov (.t 15), none, []⟩,
     ⟨some 57, .mov (.t 4), none, []⟩,
     ⟨some 58, .call 17 [(.t 57), (.c (.int .i64 30))], none, []⟩,
     ⟨some 59, .call 49 [(.t 54), (.t 55), (.t 56), (.c (.int .i64 2)), (.c (.int .i64 7)), (.t 58)], none, []⟩,
     ⟨some 60, .mov (.t 17), none, []⟩,
     ⟨some 61, .eqb true (.t 59) (.t 60), none, []⟩] [11, 12, 13, 14, 61])
   (.cond (.t 61)
    (.seq (.region none [⟨some 10, .mov (.c (.bool false)), none, []⟩] [10])
    (.ret))
    (.skip))))
   (.skip)))
  (.seq (.seq (.region none [⟨some 18, .mov (.c (.int .i64 0)), none, []⟩] [11, 12, 13, 14, 18])
  (.block 0 (.loop F43l0)))
  (.seq (.region none [⟨some 110, .call 50 [], none, []⟩,
    ⟨some 10, .mov (.t 110), none, []⟩] [10])
  (.ret))))))))))), false, false, false⟩
def F44l1 : PC := (.seq (.seq (.region none [⟨some 52, .mov (.t 17), none, []⟩,
      ⟨some 53, .mov (.t 15), none, []⟩,
      ⟨some 54, .len .sl (.t 53), none, []⟩,
      ⟨some 55, .bin .lss (.t 52) (.t 54), none, []⟩] [7, 8, 9, 10, 11, 14, 15, 16, 17, 55])
    (.cond (.t 55)
     (.skip)
     (.exit 2)))
    (.seq (.block 3 (.seq (.region none [⟨some 58, .mov (.t 17), none, []⟩,
      ⟨some 59, .bin .eql (.t 58) (.c (.int .i64 6)), none, []⟩,
      ⟨some 60, .mov (.t 59), none, []⟩,
      ⟨some 61, .mov (.t 17), some (60, false), []⟩,
      ⟨some 62, .bin .eql (.t 61) (.c (.int .i64 7)), some (60, false), []⟩,
      ⟨some 63, .pick (.t 60) (.c (.bool true)) (.t 62), none, []⟩,
      ⟨some 64, .mov (.t 63), none, []⟩,
      ⟨some 65, .mov (.t 17), some (64, false), []⟩,
      ⟨some 66, .bin .eql (.t 65) (.c (.int .i64 8)), some (64, false), []⟩,
      ⟨some 67, .pick (.t 64) (.c (.bool true)) (.t 66), none, []⟩,
      ⟨some 18, .mov (.t 67), none, []⟩] [7, 8, 9, 10, 11, 14, 15, 16, 17, 18])
    (.seq (.region none [⟨some 68, .mov (.t 17), none, []⟩,
      ⟨some 69, .bin .eql (.t 68) (.c (.int .i64 11)), none, []⟩,
      ⟨some 70, .mov (.t 69), none, []⟩,
      ⟨some 71, .mov (.t 17), some (70, false), []⟩,
      ⟨some 72, .bin .eql (.t 71) (.c (.int .i64 12)), some (70, false), []⟩,
      ⟨some 73, .pick (.t 70) (.c (.bool true)) (.t 72), none, []⟩,
      ⟨some 19, .mov (.t 73), none, []⟩] [7, 8, 9, 10, 11, 14, 15, 16, 17, 18, 19])
    (.seq (.seq (.region (some []) [⟨some 74, .mov (.t 15), none, []⟩,
      ⟨some 75, .mov (.t 17), none, []⟩,
      ⟨some 76, .indexAddr 1 (.t 74) (.t 75), none, []⟩,
      ⟨some 77, .load false 1 (.t 76), none, []⟩,
      ⟨some 78, .mov (.t 11), none, []⟩,
      ⟨some 79, .mov (.t 17), none, []⟩,
      ⟨some 80, .indexAddr 1 (.t 78) (.t 79), none, []⟩,
      ⟨some 81, .load false 1 (.t 80), none, []⟩,
      ⟨some 82, .bin .eql (.t 77) (.t 81), none, []⟩,
      ⟨some 83, .mov (.t 82), none, []⟩,
      ⟨some 84, .mov (.t 18), some (83, false), []⟩,
      ⟨some 85, .pick (.t 83) (.c (.bool true)) (.t 84), none, []⟩,
      ⟨some 86, .mov (.t 85), none, []⟩,
      ⟨some 87, .mov (.t 19), some (86, false), []⟩,
      ⟨some 88, .mov (.t 87), some (86, false), []⟩,
      ⟨some 89, .mov (.t 14), some (88, true), []⟩,
      ⟨some 90, .pick (.t 88) (.t 89) (.c (.bool false)), some (86, false), []⟩,
      ⟨some 91, .pick (.t 86) (.c (.bool true)) (.t 90), none, []⟩] [7, 8, 9, 10, 11, 14, 15, 16, 17, 91])
    (.cond (.t 91)
     (.exit 3)
     (.skip)))
    (.seq (.region none [⟨some 92, .mov (.t 16), none, []⟩,
      ⟨some 93, .bin .add (.t 92) (.c (.int .i64 1)), none, []⟩,
      ⟨some 16, .mov (.t 93), none, []⟩] [7, 8, 9, 10, 11, 14, 15, 16, 17])
    (.seq (.region none [⟨some 94, .mov (.t 17), none, []⟩,
      ⟨some 95, .bin .lss (.t 94) (.c (.int .i64 16)), none, []⟩,
      ⟨some 96, .mov (.t 95), none, []⟩,
      ⟨some 97, .mov (.t 17), some (96, false), []⟩,
      ⟨some 98, .bin .geq (.t 97) (.c (.int .i64 48)), some (96, false), []⟩,
      ⟨some 99, .mov (.t 98), some (96, false), []⟩,
      ⟨some 100, .mov (.t 17), some (99, true), []⟩,
      ⟨some 101, .fieldAddr 0 (.t 7), some (99, true), []⟩,
      ⟨some 102, .load false 1 (.t 101), some (99, true), []⟩,
      ⟨some 103, .bin .mul (.c (.int .i64 4)) (.t 102), some (99, true), []⟩,
      ⟨some 104, .bin .add (.c (.int .i64 48)) (.t 103), some (99, true), []⟩,
      ⟨some 105, .bin .lss (.t 100) (.t 104), some (99, true), []⟩,
      ⟨some 106, .pick (.t 99) (.t 105) (.c (.bool false)), some (96, false), []⟩,
      ⟨some 107, .pick (.t 96) (.c (.bool true)) (.t 106), none, []⟩] [7, 8, 9, 10, 11, 14, 15, 16, 17, 107])
    (.cond (.t 107)
     (.seq (.region none [⟨some 6, .mov (.c (.bool false)), none, []⟩] [6])
     (.ret))
     (.skip))))))))
    (.region none [⟨some 56, .mov (.t 17), none, []⟩,
      ⟨some 57, .bin .add (.t 56) (.c (.int .i64 1)), none, []⟩,
      ⟨some 17, .mov (.t 57), none, []⟩] [7, 8, 9, 10, 11, 14, 15, 16, 17])))
theorem run_F44l1 (C : Task → Option Res) (k : Nat) (fr : Fr) (σ : S) : run C k F44l1 fr σ = run C k (.seq (.seq (.region none [⟨some 52, .mov (.t 17), none, []⟩,
      ⟨some 53, .mov (.t 15), none, []⟩,
      ⟨some 54, .len .sl (.t 53), none, []⟩,
      ⟨some 55, .bin .lss (.t 52) (.t 54), none, []⟩] [7, 8, 9, 10, 11, 14, 15, 16, 17, 55])
    (.cond (.t 55)
     (.skip)
     (.exit 2)))
    (.seq (.block 3 (.seq (.region none [⟨some 58, .mov (.t 17), none, []⟩,
      ⟨some 59, .bin .eql (.t 58) (.c (.int .i64 6)), none, []⟩,
      ⟨some 60, .mov (.t 59), none, []⟩,
      ⟨some 61, .mov (.t 17), some (60, false), []⟩,
      ⟨some 62, .bin .eql (.t 61) (.c (.int .i64 7)), some (60, false), []⟩,
      ⟨some 63, .pick (.t 60) (.c (.bool true)) (.t 62), none, []⟩,
      ⟨some 64, .mov (.t 63), none, []⟩,
      ⟨some 65, .mov (.t 17), some (64, false), []⟩,
      ⟨some 66, .bin .eql (.t 65) (.c (.int .i64 8)), some (64, false), []⟩,
      ⟨some 67, .pick (.t 64) (.c (.bool true)) (.t 66), none, []⟩,
      ⟨some 18, .mov (.t 67), none, []⟩] [7, 8, 9, 10, 11, 14, 15, 16, 17, 18])
    (.seq (.region none [⟨some 68, .mov (.t 17), none, []⟩,
      ⟨some 69, .bin .eql (.t 68) (.c (.int .i64 11)), none, []⟩,
      ⟨some 70, .mov (.t 69), none, []⟩,
      ⟨some 71, .mov (.t 17), some (70, false), []⟩,
      ⟨some 72, .bin .eql (.t 71) (.c (.int .i64 12)), some (70, false), []⟩,
      ⟨some 73, .pick (.t 70) (.c (.bool true)) (.t 72), none, []⟩,
      ⟨some 19, .mov (.t 73), none, []⟩] [7, 8, 9, 10, 11, 14, 15, 16, 17, 18, 19])
    (.seq (.seq (.region (some []) [⟨some 74, .mov (.t 15), none, []⟩,
      ⟨some 75, .mov (.t 17), none, []⟩,
      ⟨some 76, .indexAddr 1 (.t 74) (.t 75), none, []⟩,
      ⟨some 77, .load false 1 (.t 76), none, []⟩,
      ⟨some 78, .mov (.t 11), none, []⟩,
      ⟨some 79, .mov (.t 17), none, []⟩,
      ⟨some 80, .indexAddr 1 (.t 78) (.t 79), none, []⟩,
      ⟨some 81, .load false 1 (.t 80), none, []⟩,
      ⟨some 82, .bin .eql (.t 77) (.t 81), none, []⟩,
      ⟨some 83, .mov (.t 82), none, []⟩,
      ⟨some 84, .mov (.t 18), some (83, false), []⟩,
      ⟨some 85, .pick (.t 83) (.c (.bool true)) (.t 84), none, []⟩,
      ⟨some 86, .mov (.t 85), none, []⟩,
      ⟨some 87, .mov (.t 19), some (86, false), []⟩,
      ⟨some 88, .mov (.t 87), some (86, false), []⟩,
      ⟨some 89, .mov (.t 14), some (88, true), []⟩,
      ⟨some 90, .pick (.t 88) (.t 89) (.c (.bool false)), some (86, false), []⟩,
      ⟨some 91, .pick (.t 86) (.c (.bool true)) (.t 90), none, []⟩] [7, 8, 9, 10, 11, 14, 15, 16, 17, 91])
    (.cond (.t 91)
     (.exit 3)
     (.skip)))
    (.seq (.region none [⟨some 92, .mov (.t 16), none, []⟩,
      ⟨some 93, .bin .add (.t 92) (.c (.int .i64 1)), none, []⟩,
      ⟨some 16, .mov (.t 93), none, []⟩] [7, 8, 9, 10, 11, 14, 15, 16, 17])
    (.seq (.region none [⟨some 94, .mov (.t 17), none, []⟩,
      ⟨some 95, .bin .lss (.t 94) (.c (.int .i64 16)), none, []⟩,
      ⟨some 96, .mov (.t 95), none, []⟩,
      ⟨some 97, .mov (.t 17), some (96, false), []⟩,
      ⟨some 98, .bin .geq (.t 97) (.c (.int .i64 48)), some (96, false), []⟩,
      ⟨some 99, .mov (.t 98), some (96, false), []⟩,
      ⟨some 100, .mov (.t 17), some (99, true), []⟩,
      ⟨some 101, .fieldAddr 0 (.t 7), some (99, true), []⟩,
      ⟨some 102, .load false 1 (.t 101), some (99, true), []⟩,
      ⟨some 103, .bin .mul (.c (.int .i64 4)) (.t 102), some (99, true), []⟩,
      ⟨some 104, .bin .add (.c (.int .i64 48)) (.t 103), some (99, true), []⟩,
      ⟨some 105, .bin .lss (.t 100) (.t 104), some (99, true), []⟩,
      ⟨some 106, .pick (.t 99) (.t 105) (.c (.bool false)), some (96, false), []⟩,
      ⟨some 107, .pick (.t 96) (.c (.bool true)) (.t 106), none, []⟩] [7, 8, 9, 10, 11, 14, 15, 16, 17, 107])
    (.cond (.t 107)
     (.seq (.region none [⟨some 6, .mov (.c (.bool false)), none, []⟩] [6])
     (.ret))
     (.skip))))))))
    (.region none [⟨some 56, .mov (.t 17), none, []⟩,
      ⟨some 57, .bin .add (.t 56) (.c (.int .i64 1)), none, []⟩,
      ⟨some 17, .mov (.t 57), none, []⟩] [7, 8, 9, 10, 11, 14, 15, 16, 17]))) fr σ := rfl
def F44l0 : PC := (.seq (.seq (.region none [⟨some 30, .mov (.t 10), none, []⟩,
     ⟨some 31, .bin .lss (.t 30) (.c (.int .i64 20)), none, []⟩] [7, 8, 9, 10, 31])
   (.cond (.t 31)
    (.skip)
    (.exit 0)))
   (.seq (.block 1 (.seq (.region none [⟨some 34, .mov (.t 8), none, []⟩,
     ⟨some 35, .call 59 [(.t 34)], none, []⟩,
     ⟨some 11, .mov (.t 35), none, []⟩] [7, 8, 9, 10, 11])
   (.seq (.region none [⟨some 37, .mov (.t 8), none, []⟩,
     ⟨some 38, .mkif 0 (.t 37), none, []⟩,
     ⟨some 39, .load true 16 (.t 7), none, []⟩,
     ⟨some 40, .load true 4 (.t 9), none, []⟩,
     ⟨some 41, .call 52 [(.t 38), (.t 39), (.t 40)], none, []⟩,
     ⟨some 36, .mov (.t 41), none, []⟩,
     ⟨some 42, .extract (.t 36) 0, none, []⟩,
     ⟨some 43, .extract (.t 36) 1, none, []⟩,
     ⟨some 44, .extract (.t 36) 2, none, []⟩,
     ⟨some 13, .alloc [(.lit (.int .i64 0)), (.lit (.int .i64 0)), (.lit (.int .i64 0)), (.lit (.int .i64 0))], none, []⟩,
     ⟨some 12, .mov (.t 42), none, []⟩,
     ⟨none, .store 4 (.t 13) (.t 43), none, []⟩,
     ⟨some 14, .mov (.t 44), none, []⟩] [7, 8, 9, 10, 11, 14])
   (.seq (.region none [⟨some 45, .mov (.t 8), none, []⟩,
     ⟨some 46, .call 59 [(.t 45)], none, []⟩,
     ⟨some 15, .mov (.t 46), none, []⟩] [7, 8, 9, 10, 11, 14, 15])
   (.seq (.seq (.region none [⟨some 47, .mov (.t 15), none, []⟩,
     ⟨some 48, .len .sl (.t 47), none, []⟩,
     ⟨some 49, .mov (.t 11), none, []⟩,
     ⟨some 50, .len .sl (.t 49), none, []⟩,
     ⟨some 51, .bin .neq (.t 48) (.t 50), none, []⟩] [7, 8, 9, 10, 11, 14, 15, 51])
   (.cond (.t 51)
    (.seq (.region none [⟨some 6, .mov (.c (.bool false)), none, []⟩] [6])
    (.ret))
    (.skip)))
   (.seq (.region none [⟨some 16, .mov (.c (.int .i64 0)), none, []⟩] [7, 8, 9, 10, 11, 14, 15, 16])
   (.seq (.seq (.region none [⟨some 17, .mov (.c (.int .i64 0)), none, []⟩] [7, 8, 9, 10, 11, 14, 15, 16, 17])
   (.block 2 (.loop F44l1)))
   (.seq (.region none [⟨some 108, .mov (.t 16), none, []⟩,
     ⟨some 109, .bin .gtr (.t 108) (.c (.int .i64 1)), none, []⟩] [7, 8, 9, 10, 109])
   (.cond (.t 109)
    (.seq (.region none [⟨some 6, .mov (.c (.bool false)), none, []⟩] [6])
    (.ret))
    (.skip))))))))))
   (.region none [⟨some 32, .mov (.t 10), none, []⟩,
     ⟨some 33, .bin .add (.t 32) (.c (.int .i64 1)), none, []⟩,
     ⟨some 10, .mov (.t 33), none, []⟩] [7, 8, 9, 10])))
theorem run_F44l0 (C : Task → Option Res) (k : Nat) (fr : Fr) (σ : S) : run C k F44l0 fr σ = run C k (.seq (.seq (.region none [⟨some 30, .mov (.t 10), none, []⟩,
     ⟨some 31, .bin .lss (.t 30) (.c (.int .i64 20)), none, []⟩] [7, 8, 9, 10, 31])
   (.cond (.t 31)
    (.skip)
    (.exit 0)))
   (.seq (.block 1 (.seq (.region none [⟨some 34, .mov (.t 8), none, []⟩,
     ⟨some 35, .call 59 [(.t 34)], none, []⟩,
     ⟨some 11, .mov (.t 35), none, []⟩] [7, 8, 9, 10, 11])
   (.seq (.region none [⟨some 37, .mov (.t 8), none, []⟩,
     ⟨some 38, .mkif 0 (.t 37), none, []⟩,
     ⟨some 39, .load true 16 (.t 7), none, []⟩,
     ⟨some 40, .load true 4 (.t 9), none, []⟩,
     ⟨some 41, .call 52 [(.t 38), (.t 39), (.t 40)], none, []⟩,
     ⟨some 36, .mov (.t 41), none, []⟩,
     ⟨some 42, .extract (.t 36) 0, none, []⟩,
     ⟨some 43, .extract (.t 36) 1, none, []⟩,
     ⟨some 44, .extract (.t 36) 2, none, []⟩,
     ⟨some 13, .alloc [(.lit (.int .i64 0)), (.lit (.int .i64 0)), (.lit (.int .i64 0)), (.lit (.int .i64 0))], none, []⟩,
     ⟨some 12, .mov (.t 42), none, []⟩,
     ⟨none, .store 4 (.t 13) (.t 43), none, []⟩,
     ⟨some 14, .mov (.t 44), none, []⟩] [7, 8, 9, 10, 11, 14])
   (.seq (.region none [⟨some 45, .mov (.t 8), none, []⟩,
     ⟨some 46, .call 59 [(.t 45)], none, []⟩,
     ⟨some 15, .mov (.t 46), none, []⟩] [7, 8, 9, 10, 11, 14, 15])
   (.seq (.seq (.region none [⟨some 47, .mov (.t 15), none, []⟩,
     ⟨some 48, .len .sl (.t 47), none, []⟩,
     ⟨some 49, .mov (.t 11), none, []⟩,
     ⟨some 50, .len .sl (.t 49), none, []⟩,
     ⟨some 51, .bin .neq (.t 48) (.t 50), none, []⟩] [7, 8, 9, 10, 11, 14, 15, 51])
   (.cond (.t 51)
    (.seq (.region none [⟨some 6, .mov (.c (.bool false)), none, []⟩] [6])
    (.ret))
    (.skip)))
   (.seq (.region none [⟨some 16, .mov (.c (.int .i64 0)), none, []⟩] [7, 8, 9, 10, 11, 14, 15, 16])
   (.seq (.seq (.region none [⟨some 17, .mov (.c (.int .i64 0)), none, []⟩] [7, 8, 9, 10, 11, 14, 15, 16, 17])
   (.block 2 (.loop F44l1)))
   (.seq (.region none [⟨some 108, .mov (.t 16), none, []⟩,
     ⟨some 109, .bin .gtr (.t 108) (.c (.int .i64 1)), none, []⟩] [7, 8, 9, 10, 109])
   (.cond (.t 109)
    (.seq (.region none [⟨some 6, .mov (.c (.bool false)), none, []⟩] [6])
    (.ret))
    (.skip))))))))))
   (.region none [⟨some 32, .mov (.t 10), none, []⟩,
     ⟨some 33, .bin .add (.t 32) (.c (.int .i64 1)), none, []⟩,
     ⟨some 10, .mov (.t 33), none, []⟩] [7, 8, 9, 10]))) fr σ := rfl
/-- arenanet/arenanetlaw16.VmLocal -/
def F44 : PFun := ⟨3, [.tmp 6],
  .seq (.region none [⟨some 6, .mov (.c (.bool false)), none, []⟩] [0, 1, 2])
  (.seq (.region none [⟨some 20, .mov (.t 0), none, []⟩,
    ⟨some 21, .call 45 [(.t 20)], none, []⟩,
    ⟨some 7, .alloc [(.lit (.int .i64 0)), (.lit (.slice none 0 0)), (.lit (.int .i64 0)), (.lit (.int .i64 0)), (.lit (.int .i64 0)), (.lit (.int .i64 0)), (.lit (.slice none 0 0)), (.lit (.slice none 0 0)), (.lit (.int .i64 0)), (.lit (.int .i64 0)), (.lit (.int .i64 0)), (.lit (.int .i64 0)), (.lit (.int .i64 0)), (.lit (.int .i64 0)), (.lit (.int .i64 0)), (.lit (.int .i64 0))], none, []⟩,
    ⟨none, .store 16 (.t 7) (.t 21), none, []⟩] [1, 2, 7])
  (.seq (.region none [⟨some 22, .load true 16 (.t 7), none, []⟩,
    ⟨some 23, .mov (.t 2), none, []⟩,
    ⟨some 24, .call 47 [(.t 22), (.t 23)], none, []⟩,
    ⟨some 25, .call 46 [(.t 24)], none, []⟩,
    ⟨some 8, .mov (.t 25), none, []⟩] [1, 7, 8])
  (.seq (.region none [⟨some 26, .mov (.t 1), none, []⟩,
    ⟨some 27, .call 48 [(.t 26)], none, []⟩,
    ⟨some 9, .alloc [(.lit (.slice none 0 0)), (.lit (.int .i64 0)), (.lit (.int .i64 0)), (.lit (.int .i64 0))], none, []⟩,
    ⟨none, .store 4 (.t 9) (.t 27), none, []⟩] [7, 8, 9])
  (.seq (.seq (.region none [⟨some 28, .mov (.t 8), none, []⟩,
    ⟨some 29, .isnil true false (.t 28), none, []⟩] [7, 8, 9, 29])
  (.cond (.t 29)
   (.seq (.region none [⟨some 6, .mov (.c (.bool false)), none, []⟩] [6])
   (.ret))
   (.skip)))
  (.seq (.seq (.region none [⟨some 10, .mov (.c (.int .i64 0)), none, []⟩] [7, 8, 9, 10])
  (.block 0 (.loop F44l0)))
  (.seq (.region none [⟨some 110, .call 50 [], none, []⟩,
    ⟨some 6, .mov (.t 110), none, []⟩] [6])
  (.ret))))))), false, false, false⟩
def F45l0 : PC := (.seq (.seq (.region none [⟨some 11, .mov (.t 4), none, []⟩,
     ⟨some 12, .bin .lss (.t 11) (.c (.int .i64 24)), none, []⟩] [0, 2, 3, 4, 12])
   (.cond (.t 12)
    (.skip)
    (.exit 0)))
   (.seq (.block 1 (.seq (.region none [⟨some 5, .mov (.c (.int .i64 0)), none, []⟩] [0, 2, 3, 4, 5])
   (.seq (.seq (.region none [⟨some 15, .mov (.t 4), none, []⟩,
     ⟨some 16, .mov (.t 0), none, []⟩,
     ⟨some 17, .len .sl (.t 16), none, []⟩,
     ⟨some 18, .bin .lss (.t 15) (.t 17), none, []⟩] [0, 2, 3, 4, 5, 18])
   (.cond (.t 18)
    (.region none [⟨some 19, .mov (.t 0), none, []⟩,
      ⟨some 20, .mov (.t 4), none, []⟩,
      ⟨some 21, .indexAddr 1 (.t 19) (.t 20), none, []⟩,
      ⟨some 22, .load false 1 (.t 21), none, []⟩,
      ⟨some 23, .call 17 [(.t 22), (.c (.int .i64 1000000))], none, []⟩,
      ⟨some 5, .mov (.t 23), none, []⟩] [0, 2, 3, 4, 5])
    (.skip)))
   (.region none [⟨some 24, .mov (.t 3), none, []⟩,
     ⟨some 25, .mov (.t 5), none, []⟩,
     ⟨some 26, .bslice 1 [(.lit (.int .i64 0))] [(0, 1, (.t 25))], none, []⟩,
     ⟨some 27, .append 1 8 (.t 24) (.t 26), none, []⟩,
     ⟨some 3, .mov (.t 27), none, []⟩] [0, 2, 3, 4]))))
   (.region none [⟨some 13, .mov (.t 4), none, []⟩,
     ⟨some 14, .bin .add (.t 13) (.c (.int .i64 1)), none, []⟩,
     ⟨some 4, .mov (.t 14), none, []⟩] [0, 2, 3, 4])))
theorem run_F45l0 (C : Task → Option Res) (k : Nat) (fr : Fr) (σ : S) : run C k F45l0 fr σ = run C k (.seq (.seq (.region none [⟨some 11, .mov (.t 4), none, []⟩,
     ⟨some 12, .bin .lss (.t 11) (.c (.int .i64 24)), none, []⟩] [0, 2, 3, 4, 12])
   (.cond (.t 12)
    (.skip)
    (.exit 0)))
   (.seq (.block 1 (.seq (.region none [⟨some 5, .mov (.c (.int .i64 0)), none, []⟩] [0, 2, 3, 4, 5])
   (.seq (.seq (.region none [⟨some 15, .mov (.t 4), none, []⟩,
     ⟨some 16, .mov (.t 0), none, []⟩,
     ⟨some 17, .len .sl (.t 16), none, []⟩,
     ⟨some 18, .bin .lss (.t 15) (.t 17), none, []⟩] [0, 2, 3, 4, 5, 18])
   (.cond (.t 18)
    (.region none [⟨some 19, .mov (.t 0), none, []⟩,
      ⟨some 20, .mov (.t 4), none, []⟩,
      ⟨some 21, .indexAddr 1 (.t 19) (.t 20), none, []⟩,
      ⟨some 22, .load false 1 (.t 21), none, []⟩,
      ⟨some 23, .call 17 [(.t 22), (.c (.int .i64 1000000))], none, []⟩,
      ⟨some 5, .mov (.t 23), none, []⟩] [0, 2, 3, 4, 5])
    (.skip)))
   (.region none [⟨some 24, .mov (.t 3), none, []⟩,
     ⟨some 25, .mov (.t 5), none, []⟩,
     ⟨some 26, .bslice 1 [(.lit (.int .i64 0))] [(0, 1, (.t 25))], none, []⟩,
     ⟨some 27, .append 1 8 (.t 24) (.t 26), none, []⟩,
     ⟨some 3, .mov (.t 27), none, []⟩] [0, 2, 3, 4]))))
   (.region none [⟨some 13, .mov (.t 4), none, []⟩,
     ⟨some 14, .bin .add (.t 13) (.c (.int .i64 1)), none, []⟩,
     ⟨some 4, .mov (.t 14), none, []⟩] [0, 2, 3, 4]))) fr σ := rfl
def F45l1 : PC := (.seq (.seq (.region (some []) [⟨some 92, .mov (.t 7), none, []⟩,
     ⟨some 93, .fieldAddr 0 (.t 6), none, []⟩,
     ⟨some 94, .load false 1 (.t 93), none, []⟩,
     ⟨some 95, .mov (.t 3), none, []⟩,
     ⟨some 96, .indexAddr 1 (.t 95) (.c (.int .i64 3)), none, []⟩,
     ⟨some 97, .load false 1 (.t 96), none, []⟩,
     ⟨some 98, .bin .quo (.t 97) (.c (.int .i64 3)), none, []⟩,
     ⟨some 99, .bin .rem (.t 98) (.c (.int .i64 3)), none, []⟩,
     ⟨some 100, .bin .add (.t 94) (.t 99), none, []⟩,
     ⟨some 101, .bin .lss (.t 92) (.t 100), none, []⟩] [2, 3, 6, 7, 101])
   (.cond (.t 101)
    (.skip)
    (.exit 2)))
   (.seq (.block 3 (.seq (.region none [⟨some 104, .mov (.t 3), none, []⟩,
     ⟨some 105, .mov (.t 7), none, []⟩,
     ⟨some 106, .bin .mul (.c (.int .i64 2)) (.t 105), none, []⟩,
     ⟨some 107, .bin .add (.c (.int .i64 4)) (.t 106), none, []⟩,
     ⟨some 108, .indexAddr 1 (.t 104) (.t 107), none, []⟩,
     ⟨some 109, .load false 1 (.t 108), none, []⟩,
     ⟨some 8, .mov (.t 109), none, []⟩] [2, 3, 6, 7, 8])
   (.seq (.region none [⟨some 110, .mov (.t 3), none, []⟩,
     ⟨some 111, .mov (.t 7), none, []⟩,
     ⟨some 112, .bin .mul (.c (.int .i64 2)) (.t 111), none, []⟩,
     ⟨some 113, .bin .add (.c (.int .i64 5)) (.t 112), none, []⟩,
     ⟨some 114, .indexAddr 1 (.t 110) (.t 113), none, []⟩,
     ⟨some 115, .load false 1 (.t 114), none, []⟩,
     ⟨some 9, .mov (.t 115), none, []⟩] [2, 3, 6, 7, 8, 9])
   (.seq (.region none [⟨some 116, .mov (.t 8), none, []⟩,
     ⟨some 117, .call 60 [(.t 116)], none, []⟩,
     ⟨some 118, .mov (.t 9), none, []⟩,
     ⟨some 119, .bin .rem (.t 118) (.c (.int .i64 50)), none, []⟩,
     ⟨some 120, .mov (.t 8), none, []⟩,
     ⟨some 121, .bin .rem (.t 120) (.c (.int .i64 7)), none, []⟩,
     ⟨some 122, .build [(.lit (.int .i64 0)), (.lit (.slice none 0 0)), (.lit (.int .i64 0)), (.lit (.int .i64 0)), (.lit (.int .i64 0)), (.lit (.int .i64 0)), (.lit (.int .i64 0)), (.lit (.int .i64 0)), (.lit (.int .i64 0))] [(0, 2, (.t 117)), (7, 1, (.t 119)), (8, 1, (.t 121))], none, []⟩,
     ⟨some 10, .alloc [(.lit (.int .i64 0)), (.lit (.slice none 0 0)), (.lit (.int .i64 0)), (.lit (.int .i64 0)), (.lit (.int .i64 0)), (.lit (.int .i64 0)), (.lit (.int .i64 0)), (.lit (.int .i64 0)), (.lit (.int .i64 0))], none, []⟩,
     ⟨none, .store 9 (.t 10) (.t 122), none, []⟩] [2, 3, 6, 7, 8, 9, 10])
   (.seq (.region none [⟨some 123, .mov (.t 8), none, []⟩,
     ⟨some 124, .bin .quo (.t 123) (.c (.int .i64 1000)), none, []⟩,
     ⟨some 125, .bin .rem (.t 124) (.c (.int .i64 13)), none, []⟩,
     ⟨some 126, .bin .sub (.t 125) (.c (.int .i64 6)), none, []⟩,
     ⟨some 127, .bin .mul (.t 126) (.c (.int .i64 900)), none, []⟩,
     ⟨some 128, .mov (.t 9), none, []⟩,
     ⟨some 129, .bin .quo (.t 128) (.c (.int .i64 50)), none, []⟩,
     ⟨some 130, .bin .rem (.t 129) (.c (.int .i64 11)), none, []⟩,
     ⟨some 131, .bin .sub (.t 130) (.c (.int .i64 5)), none, []⟩,
     ⟨some 132, .bin .mul (.t 131) (.c (.int .i64 800)), none, []⟩,
     ⟨some 133, .build [(.lit (.int .i64 0)), (.lit (.int .i64 0))] [(0, 1, (.t 127)), (1, 1, (.t 132))], none, []⟩,
     ⟨some 134, .mov (.t 9), none, []⟩,
     ⟨some 135, .bin .quo (.t 134) (.c (.int .i64 550)), none, []⟩,
     ⟨some 136, .bin .rem (.t 135) (.c (.int .i64 9)), none, []⟩,
     ⟨some 137, .bin .sub (.t 136) (.c (.int .i64 4)), none, []⟩,
     ⟨some 138, .bin .mul (.t 137) (.c (.int .i64 300)), none, []⟩,
     ⟨some 139, .mov (.t 8), none, []⟩,
     ⟨some 140, .bin .quo (.t 139) (.c (.int .i64 13000)), none, []⟩,
     ⟨some 141, .bin .rem (.t 140) (.c (.int .i64 9)), none, []⟩,
     ⟨some 142, .bin .sub (.t 141) (.c (.int .i64 4)), none, []⟩,
     ⟨some 143, .bin .mul (.t 142) (.c (.int .i64 300)), none, []⟩,
     ⟨some 144, .build [(.lit (.int .i64 0)), (.lit (.int .i64 0))] [(0, 1, (.t 138)), (1, 1, (.t 143))], none, []⟩,
     ⟨some 145, .bslice 5 [(.lit (.int .i64 0)), (.lit (.int .i64 0)), (.lit (.int .i64 0)), (.lit (.int .i64 0)), (.lit (.int .i64 0))] [(0, 1, (.c (.int .i64 1024))), (1, 1, (.c (.int .i64 1024))), (2, 1, (.c (.int .i64 512))), (3, 1, (.c (.int .i64 2048))), (4, 1, (.c (.int .i64 0)))], none, []⟩,
     ⟨some 146, .mov (.t 9), none, []⟩,
     ⟨some 147, .bin .quo (.t 146) (.c (.int .i64 5000)), none, []⟩,
     ⟨some 148, .bin .rem (.t 147) (.c (.int .i64 5)), none, []⟩,
     ⟨some 149, .indexAddr 1 (.t 145) (.t 148), none, []⟩,
     ⟨some 150, .load false 1 (.t 149), none, []⟩,
     ⟨some 151, .build [(.lit (.int .i64 0)), (.lit (.int .i64 0)), (.lit (.int .i64 0)), (.lit (.int .i64 0)), (.lit (.int .i64 0))] [(0, 2, (.t 133)), (2, 2, (.t 144)), (4, 1, (.t 150))], none, []⟩,
     ⟨some 152, .fieldAddr 2 (.t 10), none, []⟩,
     ⟨none, .store 5 (.t 152) (.t 151), none, []⟩] [2, 3, 6, 7, 10])
   (.region none [⟨some 153, .fieldAddr 1 (.t 6), none, []⟩,
     ⟨some 154, .load false 1 (.t 153), none, []⟩,
     ⟨some 155, .load true 9 (.t 10), none, []⟩,
     ⟨some 156, .bslice 1 [(.lit (.int .i64 0)), (.lit (.slice none 0 0)), (.lit (.int .i64 0)), (.lit (.int .i64 0)), (.lit (.int .i64 0)), (.lit (.int .i64 0)), (.lit (.int .i64 0)), (.lit (.int .i64 0)), (.lit (.int .i64 0))] [(0, 9, (.t 155))], none, []⟩,
     ⟨some 157, .append 9 88 (.t 154) (.t 156), none, []⟩,
     ⟨some 158, .fieldAddr 1 (.t 6), none, []⟩,
     ⟨none, .store 1 (.t 158) (.t 157), none, []⟩] [2, 3, 6, 7]))))))
   (.region none [⟨some 102, .mov (.t 7), none, []⟩,
     ⟨some 103, .bin .add (.t 102) (.c (.int .i64 1)), none, []⟩,
     ⟨some 7, .mov (.t 103), none, []⟩] [2, 3, 6, 7])))
theorem run_F45l1 (C : Task → Option Res) (k : Nat) (fr : Fr) (σ : S) : run C k F45l1 fr σ = run C k (.seq (.seq (.region (some []) [⟨some 92, .mov (.t 7), none, []⟩,
     ⟨some 93, .fieldAddr 0 (.t 6), none, []⟩,
     ⟨some 94, .load false 1 (.t 93), none, []⟩,
     ⟨some 95, .mov (.t 3), none, []⟩,
     ⟨some 96, .indexAddr 1 (.t 95) (.c (.int .i64 3)), none, []⟩,
     ⟨some 97, .load false 1 (.t 96), none, []⟩,
     ⟨some 98, .bin .quo (.t 97) (.c (.int .i64 3)), none, []⟩,
     ⟨some 99, .bin .rem (.t 98) (.c (.int .i64 3)), none, []⟩,
     ⟨some 100, .bin .add (.t 94) (.t 99), none, []⟩,
     ⟨some 101, .bin .lss (.t 92) (.t 100), none, []⟩] [2, 3, 6, 7, 101])
   (.cond (.t 101)
    (.skip)
    (.exit 2)))
   (.seq (.block 3 (.seq (.region none [⟨some 104, .mov (.t 3), none, []⟩,
     ⟨some 105, .mov (.t 7), none, []⟩,
     ⟨some 106, .bin .mul (.c (.int .i64 2)) (.t 105), none, []⟩,
     ⟨some 107, .bin .add (.c (.int .i64 4)) (.t 106), none, []⟩,
     ⟨some 108, .indexAddr 1 (.t 104) (.t 107), none, []⟩,
     ⟨some 109, .load false 1 (.t 108), none, []⟩,
     ⟨some 8, .mov (.t 109), none, []⟩] [2, 3, 6, 7, 8])
   (.seq (.region none [⟨some 110, .mov (.t 3), none, []⟩,
     ⟨some 111, .mov (.t 7), none, []⟩,
     ⟨some 112, .bin .mul (.c (.int .i64 2)) (.t 111), none, []⟩,
     ⟨some 113, .bin .add (.c (.int .i64 5)) (.t 112), none, []⟩,
     ⟨some 114, .indexAddr 1 (.t 110) (.t 113), none, []⟩,
     ⟨some 115, .load false 1 (.t 114), none, []⟩,
     ⟨some 9, .mov (.t 115), none, []⟩] [2, 3, 6, 7, 8, 9])
   (.seq (.region none [⟨some 116, .mov (.t 8), none, []⟩,
     ⟨some 117, .call 60 [(.t 116)], none, []⟩,
     ⟨some 118, .mov (.t 9), none, []⟩,
     ⟨some 119, .bin .rem (.t 118) (.c (.int .i64 50)), none, []⟩,
     ⟨some 120, .mov (.t 8), none, []⟩,
     ⟨some 121, .bin .rem (.t 120) (.c (.int .i64 7)), none, []⟩,
     ⟨some 122, .build [(.lit (.int .i64 0)), (.lit (.slice none 0 0)), (.lit (.int .i64 0)), (.lit (.int .i64 0)), (.lit (.int .i64 0)), (.lit (.int .i64 0)), (.lit (.int .i64 0)), (.lit (.int .i64 0)), (.lit (.int .i64 0))] [(0, 2, (.t 117)), (7, 1, (.t 119)), (8, 1, (.t 121))], none, []⟩,
     ⟨some 10, .alloc [(.lit (.int .i64 0)), (.lit (.slice none 0 0)), (.lit (.int .i64 0)), (.lit (.int .i64 0)), (.lit (.int .i64 0)), (.lit (.int .i64 0)), (.lit (.int .i64 0)), (.lit (.int .i64 0)), (.lit (.int .i64 0))], none, []⟩,
     ⟨none, .store 9 (.t 10) (.t 122), none, []⟩] [2, 3, 6, 7, 8, 9, 10])
   (.seq (.region none [⟨some 123, .mov (.t 8), none, []⟩,
     ⟨some 124, .bin .quo (.t 123) (.c (.int .i64 1000)), none, []⟩,
     ⟨some 125, .bin .rem (.t 124) (.c (.int .i64 13)), none, []⟩,
     ⟨some 126, .bin .sub (.t 125) (.c (.int .i64 6)), none, []⟩,
     ⟨some 127, .bin .mul (.t 126) (.c (.int .i64 900)), none, []⟩,
     ⟨some 128, .mov (.t 9), none, []⟩,
     ⟨some 129, .bin .quo (.t 128) (.c (.int .i64 50)), none, []⟩,
     ⟨some 130, .bin .rem (.t 129) (.c (.int .i64 11)), none, []⟩,
     ⟨some 131, .bin .sub (.t 130) (.c (.int .i64 5)), none, []⟩,
     ⟨some 132, .bin .mul (.t 131) (.c (.int .i64 800)), none, []⟩,
     ⟨some 133, .build [(.lit (.int .i64 0)), (.lit (.int .i64 0))] [(0, 1, (.t 127)), (1, 1, (.t 132))], none, []⟩,
     ⟨some 134, .mov (.t 9), none, []⟩,
     ⟨some 135, .bin .quo (.t 134) (.c (.int .i64 550)), none, []⟩,
     ⟨some 136, .bin .rem (.t 135) (.c (.int .i64 9)), none, []⟩,
     ⟨some 137, .bin .sub (.t 136) (.c (.int .i64 4)), none, []⟩,
     ⟨some 138, .bin .mul (.t 137) (.c (.int .i64 300)), none, []⟩,
     ⟨some 139, .mov (.t 8), none, []⟩,
     ⟨some 140, .bin .quo (.t 139) (.c (.int .i64 13000)), none, []⟩,
     ⟨some 141, .bin .rem (.t 140) (.c (.int .i64 9)), none, []⟩,
     ⟨some 142, .bin .sub (.t 141) (.c (.int .i64 4)), none, []⟩,
     ⟨some 143, .bin .mul (.t 142) (.c (.int .i64 300)), none, []⟩,
     ⟨some 144, .build [(.lit (.int .i64 0)), (.lit (.int .i64 0))] [(0, 1, (.t 138)), (1, 1, (.t 143))], none, []⟩,
     ⟨some 145, .bslice 5 [(.lit (.int .i64 0)), (.lit (.int .i64 0)), (.lit (.int .i64 0)), (.lit (.int .i64 0)), (.lit (.int .i64 0))] [(0, 1, (.c (.int .i64 1024))), (1, 1, (.c (.int .i64 1024))), (2, 1, (.c (.int .i64 512))), (3, 1, (.c (.int .i64 2048))), (4, 1, (.c (.int .i64 0)))], none, []⟩,
     ⟨some 146, .mov (.t 9), none, []⟩,
     ⟨some 147, .bin .quo (.t 146) (.c (.int .i64 5000)), none, []⟩,
     ⟨some 148, .bin .rem (.t 147) (.c (.int .i64 5)), none, []⟩,
     ⟨some 149, .indexAddr 1 (.t 145) (.t 148), none, []⟩,
     ⟨some 150, .load false 1 (.t 149), none, []⟩,
     ⟨some 151, .build [(.lit (.int .i64 0)), (.lit (.int .i64 0)), (.lit (.int .i64 0)), (.lit (.int .i64 0)), (.lit (.int .i64 0))] [(0, 2, (.t 133)), (2, 2, (.t 144)), (4, 1, (.t 150))], none, []⟩,
     ⟨some 152, .fieldAddr 2 (.t 10), none, []⟩,
     ⟨none, .store 5 (.t 152) (.t 151), none, []⟩] [2, 3, 6, 7, 10])
   (.region none [⟨some 153, .fieldAddr 1 (.t 6), none, []⟩,
     ⟨some 154, .load false 1 (.t 153), none, []⟩,
     ⟨some 155, .load true 9 (.t 10), none, []⟩,
     ⟨some 156, .bslice 1 [(.lit (.int .i64 0)), (.lit (.slice none 0 0)), (.lit (.int .i64 0)), (.lit (.int .i64 0)), (.lit (.int .i64 0)), (.lit (.int .i64 0)), (.lit (.int .i64 0)), (.lit (.int .i64 0)), (.lit (.int .i64 0))] [(0, 9, (.t 155))], none, []⟩,
     ⟨some 157, .append 9 88 (.t 154) (.t 156), none, []⟩,
     ⟨some 158, .fieldAddr 1 (.t 6), none, []⟩,
     ⟨none, .store 1 (.t 158) (.t 157), none, []⟩] [2, 3, 6, 7]))))))
   (.region none [⟨some 102, .mov (.t 7), none, []⟩,
     ⟨some 103, .bin .add (.t 102) (.c (.int .i64 1)), none, []⟩,
     ⟨some 7, .mov (.t 103), none, []⟩] [2, 3, 6, 7]))) fr σ := rfl
/-- arenanet/arenanetref12.Setup -/
def F45 : PFun := ⟨1, [.cell 2 true 16],
  .seq (.region none [⟨some 2, .alloc [(.lit (.int .i64 0)), (.lit (.slice none 0 0)), (.lit (.int .i64 0)), (.lit (.int .i64 0)), (.lit (.int .i64 0)), (.lit (.int .i64 0)), (.lit (.slice none 0 0)), (.lit (.slice none 0 0)), (.lit (.int .i64 0)), (.lit (.int .i64 0)), (.lit (.int .i64 0)), (.lit (.int .i64 0)), (.lit (.int .i64 0)), (.lit (.int .i64 0)), (.lit (.int .i64 0)), (.lit (.int .i64 0))], none, []⟩] [0, 2])
  (.seq (.region none [⟨some 3, .mov (.c (.slice none 0 0)), none, []⟩] [0, 2, 3])
  (.seq (.seq (.region none [⟨some 4, .mov (.c (.int .i64 0)), none, []⟩] [0, 2, 3, 4])
  (.block 0 (.loop F45l0)))
  (.seq (.region (some [(166, [(.lit (.int .i64 0)), (.lit (.slice none 0 0)), (.lit (.int .i64 0)), (.lit (.int .i64 0)), (.lit (.int .i64 0)), (.lit (.int .i64 0)), (.lit (.slice none 0 0)), (.lit (.slice none 0 0)), (.lit (.int .i64 0)), (.lit (.int .i64 0)), (.lit (.int .i64 0)), (.lit (.int .i64 0)), (.lit (.int .i64 0)), (.lit (.int .i64 0)), (.lit (.int .i64 0)), (.lit (.int .i64 0))])]) [⟨some 28, .mov (.t 3), none, []⟩,
    ⟨some 29, .indexAddr 1 (.t 28) (.c (.int .i64 0)), none, []⟩,
    ⟨some 30, .load false 1 (.t 29), none, []⟩,
    ⟨some 31, .bin .rem (.t 30) (.c (.int .i64 3)), none, []⟩,
    ⟨some 32, .bin .add (.c (.int .i64 1)) (.t 31), none, []⟩,
    ⟨some 33, .build [(.lit (.int .i64 0)), (.lit (.int .i64 0)), (.lit (.int .i64 0)), (.lit (.int .i64 0))] [(0, 1, (.c (.int .i64 (-12000)))), (1, 1, (.c (.int .i64 (-9000)))), (2, 1, (.c (.int .i64 12000))), (3, 1, (.c (.int .i64 9000)))], none, []⟩,
    ⟨some 34, .mov (.t 3), none, []⟩,
    ⟨some 35, .indexAddr 1 (.t 34) (.c (.int .i64 1)), none, []⟩,
    ⟨some 36, .load false 1 (.t 35), none, []⟩,
    ⟨some 37, .bin .rem (.t 36) (.c (.int .i64 9)), none, []⟩,
    ⟨some 38, .bin .mul (.t 37) (.c (.int .i64 1000)), none, []⟩,
    ⟨some 39, .bin .add (.c (.int .i64 4000)) (.t 38), none, []⟩,
    ⟨some 40, .mov (.t 3), none, []⟩,
    ⟨some 41, .indexAddr 1 (.t 40) (.c (.int .i64 1)), none, []⟩,
    ⟨some 42, .load false 1 (.t 41), none, []⟩,
    ⟨some 43, .bin .quo (.t 42) (.c (.int .i64 9)), none, []⟩,
    ⟨some 44, .bin .rem (.t 43) (.c (.int .i64 5)), none, []⟩,
    ⟨some 45, .bin .mul (.t 44) (.c (.int .i64 100)), none, []⟩,
    ⟨some 46, .mov (.t 3), none, []⟩,
    ⟨some 47, .indexAddr 1 (.t 46) (.c (.int .i64 2)), none, []⟩,
    ⟨some 48, .load false 1 (.t 47), none, []⟩,
    ⟨some 49, .bin .rem (.t 48) (.c (.int .i64 4)), none, []⟩,
    ⟨some 50, .bin .mul (.t 49) (.c (.int .i64 100)), none, []⟩,
    ⟨some 51, .mov (.t 3), none, []⟩,
    ⟨some 52, .indexAddr 1 (.t 51) (.c (.int .i64 2)), none, []⟩,
    ⟨some 53, .load false 1 (.t 52), none, []⟩,
    ⟨some 54, .bin .quo (.t 53) (.c (.int .i64 4)), none, []⟩,
    ⟨some 55, .bin .rem (.t 54) (.c (.int .i64 3)), none, []⟩,
    ⟨some 56, .bin .mul (.t 55) (.c (.int .i64 512)), none, []⟩,
    ⟨some 57, .mov (.t 3), none, []⟩,
    ⟨some 58, .indexAddr 1 (.t 57) (.c (.int .i64 2)), none, []⟩,
    ⟨some 59, .load false 1 (.t 58), none, []⟩,
    ⟨some 60, .bin .quo (.t 59) (.c (.int .i64 12)), none, []⟩,
    ⟨some 61, .bin .rem (.t 60) (.c (.int .i64 3)), none, []⟩,
    ⟨some 62, .bin .add (.c (.int .i64 1)) (.t 61), none, []⟩,
    ⟨some 63, .build [(.lit (.int .i64 0)), (.lit (.slice none 0 0)), (.lit (.int .i64 0)), (.lit (.int .i64 0)), (.lit (.int .i64 0)), (.lit (.int .i64 0)), (.lit (.slice none 0 0)), (.lit (.slice none 0 0)), (.lit (.int .i64 0)), (.lit (.int .i64 0)), (.lit (.int .i64 0)), (.lit (.int .i64 0)), (.lit (.int .i64 0)), (.lit (.int .i64 0)), (.lit (.int .i64 0)), (.lit (.int .i64 0))] [(0, 1, (.t 32)), (2, 4, (.t 33)), (8, 1, (.t 39)), (11, 1, (.t 45)), (12, 1, (.t 50)), (13, 1, (.t 56)), (14, 1, (.t 62)), (15, 1, (.c (.int .i64 60)))], none, []⟩,
    ⟨some 6, .fill 166, none, []⟩,
    ⟨none, .store 16 (.t 6) (.t 63), none, []⟩] [2, 3, 6])
  (.seq (.region none [⟨some 64, .mov (.t 3), none, []⟩,
    ⟨some 65, .indexAddr 1 (.t 64) (.c (.int .i64 2)), none, []⟩,
    ⟨some 66, .load false 1 (.t 65), none, []⟩,
    ⟨some 67, .bin .quo (.t 66) (.c (.int .i64 36)), none, []⟩,
    ⟨some 68, .bin .rem (.t 67) (.c (.int .i64 3)), none, []⟩,
    ⟨some 69, .un .neg (.t 68), none, []⟩,
    ⟨some 70, .bin .mul (.t 69) (.c (.int .i64 40)), none, []⟩,
    ⟨some 71, .build [(.lit (.int .i64 0)), (.lit (.int .i64 0))] [(0, 1, (.c (.int .i64 0))), (1, 1, (.t 70))], none, []⟩,
    ⟨some 72, .fieldAddr 9 (.t 6), none, []⟩,
    ⟨none, .store 2 (.t 72) (.t 71), none, []⟩] [2, 3, 6])
  (.seq (.region none [⟨some 73, .build [(.lit (.int .i64 0)), (.lit (.int .i64 0)), (.lit (.int .i64 0)), (.lit (.int .i64 0))] [(0, 1, (.c (.int .i64 (-12000)))), (1, 1, (.c (.int .i64 (-9000)))), (2, 1, (.c (.int .i64 (-1)))), (3, 1, (.c (.int .i64 9000)))], none, []⟩,
    ⟨some 74, .build [(.lit (.int .i64 0)), (.lit (.int .i64 0)), (.lit (.int .i64 0)), (.lit (.int .i64 0))] [(0, 1, (.c (.int .i64 0))), (1, 1, (.c (.int .i64 0))), (2, 1, (.c (.int .i64 12000))), (3, 1, (.c (.int .i64 9000)))], none, []⟩,
    ⟨some 75, .build [(.lit (.int .i64 0)), (.lit (.int .i64 0)), (.lit (.int .i64 0)), (.lit (.int .i64 0))] [(0, 1, (.c (.int .i64 0))), (1, 1, (.c (.int .i64 (-9000)))), (2, 1, (.c (.int .i64 12000))), (3, 1, (.c (.int .i64 (-1))))], none, []⟩,
    ⟨some 76, .bslice 3 [(.lit (.int .i64 0)), (.lit (.int .i64 0)), (.lit (.int .i64 0)), (.lit (.int .i64 0)), (.lit (.int .i64 0)), (.lit (.int .i64 0)), (.lit (.int .i64 0)), (.lit (.int .i64 0)), (.lit (.int .i64 0)), (.lit (.int .i64 0)), (.lit (.int .i64 0)), (.lit (.int .i64 0))] [(0, 4, (.t 73)), (4, 4, (.t 74)), (8, 4, (.t 75))], none, []⟩,
    ⟨some 77, .fieldAddr 6 (.t 6), none, []⟩,
    ⟨none, .store 1 (.t 77) (.t 76), none, []⟩] [2, 3, 6])
  (.seq (.region none [⟨some 78, .bslice 0 [] [], none, []⟩,
    ⟨some 79, .build [(.lit (.int .i64 0)), (.lit (.int .i64 0))] [(0, 1, (.c (.int .i64 0))), (1, 1, (.c (.int .i64 1)))], none, []⟩,
    ⟨some 80, .bslice 1 [(.lit (.int .i64 0)), (.lit (.int .i64 0))] [(0, 2, (.t 79))], none, []⟩,
    ⟨some 81, .build [(.lit (.int .i64 0)), (.lit (.int .i64 0))] [(0, 1, (.c (.int .i64 0))), (1, 1, (.c (.int .i64 2)))], none, []⟩,
    ⟨some 82, .build [(.lit (.int .i64 0)), (.lit (.int .i64 0))] [(0, 1, (.c (.int .i64 1))), (1, 1, (.c (.int .i64 2)))], none, []⟩,
    ⟨some 83, .bslice 2 [(.lit (.int .i64 0)), (.lit (.int .i64 0)), (.lit (.int .i64 0)), (.lit (.int .i64 0))] [(0, 2, (.t 81)), (2, 2, (.t 82))], none, []⟩,
    ⟨some 84, .bslice 3 [(.lit (.slice none 0 0)), (.lit (.slice none 0 0)), (.lit (.slice none 0 0))] [(0, 1, (.t 78)), (1, 1, (.t 80)), (2, 1, (.t 83))], none, []⟩,
    ⟨some 85, .mov (.t 3), none, []⟩,
    ⟨some 86, .indexAddr 1 (.t 85) (.c (.int .i64 3)), none, []⟩,
    ⟨some 87, .load false 1 (.t 86), none, []⟩,
    ⟨some 88, .bin .rem (.t 87) (.c (.int .i64 3)), none, []⟩,
    ⟨some 89, .indexAddr 1 (.t 84) (.t 88), none, []⟩,
    ⟨some 90, .load false 1 (.t 89), none, []⟩,
    ⟨some 91, .fieldAddr 7 (.t 6), none, []⟩,
    ⟨none, .store 1 (.t 91) (.t 90), none, []⟩] [2, 3, 6])
  (.seq (.seq (.region none [⟨some 7, .mov (.c (.int .i64 0)), none, []⟩] [2, 3, 6, 7])
  (.block 2 (.loop F45l1)))
  (.seq (.region none [⟨some 159, .load true 16 (.t 6), none, []⟩,
    ⟨none, .store 16 (.t 2) (.t 159), none, []⟩] [2])
  (.ret))))))))), false, false, false⟩
def F46l0 : PC := (.seq (.region none [⟨some 13, .bin .lss (.t 12) (.t 11), none, []⟩] [0, 3, 11, 12, 13])
   (.seq (.cond (.t 13)
    (.skip)
    (.exit 0))
   (.seq (.block 1 (.seq (.region none [⟨some 14, .mov (.t 12), none, []⟩,
     ⟨some 4, .mov (.t 14), none, []⟩] [0, 3, 4, 11, 12])
   (.region (some []) [⟨some 15, .mov (.t 3), none, []⟩,
     ⟨some 16, .nilchk (.t 15), none, []⟩,
     ⟨some 17, .fieldAddr 0 (.t 16), none, []⟩,
     ⟨some 18, .load false 1 (.t 17), none, []⟩,
     ⟨some 19, .mov (.t 4), none, []⟩,
     ⟨some 20, .mov (.t 0), none, []⟩,
     ⟨some 21, .mov (.t 4), none, []⟩,
     ⟨some 22, .indexAddr 1 (.t 20) (.t 21), none, []⟩,
     ⟨some 23, .load false 1 (.t 22), none, []⟩,
     ⟨some 24, .indexAddr 1 (.t 18) (.t 19), none, []⟩,
     ⟨none, .store 1 (.t 24) (.t 23), none, []⟩] [0, 3, 11, 12])))
   (.region none [⟨some 25, .bin .add (.t 12) (.c (.int .i64 1)), none, []⟩,
     ⟨some 12, .mov (.t 25), none, []⟩] [0, 3, 11, 12]))))
theorem run_F46l0 (C : Task → Option Res) (k : Nat) (fr : Fr) (σ : S) : run C k F46l0 fr σ = run C k (.seq (.region none [⟨some 13, .bin .lss (.t 12) (.t 11), none, []⟩] [0, 3, 11, 12, 13])
   (.seq (.cond (.t 13)
    (.skip)
    (.exit 0))
   (.seq (.block 1 (.seq (.region none [⟨some 14, .mov (.t 12), none, []⟩,
     ⟨some 4, .mov (.t 14), none, []⟩] [0, 3, 4, 11, 12])
   (.region (some []) [⟨some 15, .mov (.t 3), none, []⟩,
     ⟨some 16, .nilchk (.t 15), none, []⟩,
     ⟨some 17, .fieldAddr 0 (.t 16), none, []⟩,
     ⟨some 18, .load false 1 (.t 17), none, []⟩,
     ⟨some 19, .mov (.t 4), none, []⟩,
     ⟨some 20, .mov (.t 0), none, []⟩,
     ⟨some 21, .mov (.t 4), none, []⟩,
     ⟨some 22, .indexAddr 1 (.t 20) (.t 21), none, []⟩,
     ⟨some 23, .load false 1 (.t 22), none, []⟩,
     ⟨some 24, .indexAddr 1 (.t 18) (.t 19), none, []⟩,
     ⟨none, .store 1 (.t 24) (.t 23), none, []⟩] [0, 3, 11, 12])))
   (.region none [⟨some 25, .bin .add (.t 12) (.c (.int .i64 1)), none, []⟩,
     ⟨some 12, .mov (.t 25), none, []⟩] [0, 3, 11, 12])))) fr σ := rfl
/-- arenanet/cellmem.New -/
def F46 : PFun := ⟨1, [.tmp 2],
  .seq (.region none [⟨some 2, .mov (.c (.pointer none)), none, []⟩] [0])
  (.seq (.region none [⟨some 5, .mov (.t 0), none, []⟩,
    ⟨some 6, .len .sl (.t 5), none, []⟩,
    ⟨some 7, .mkslice false [(.lit (.int .i64 0))] 8 (.t 6) (.t 6), none, []⟩,
    ⟨some 8, .build [(.lit (.slice none 0 0)), (.lit (.slice none 0 0)), (.lit (.int .i64 0))] [(0, 1, (.t 7))], none, []⟩,
    ⟨some 9, .box (.t 8), none, []⟩,
    ⟨some 3, .mov (.t 9), none, []⟩] [0, 3])
  (.seq (.seq (.region none [⟨some 10, .mov (.t 0), none, []⟩,
    ⟨some 11, .len .sl (.t 10), none, []⟩,
    ⟨some 12, .mov (.c (.int .i64 0)), none, []⟩] [0, 3, 11, 12])
  (.block 0 (.loop F46l0)))
  (.seq (.region none [⟨some 26, .mov (.t 3), none, []⟩,
    ⟨some 2, .mov (.t 26), none, []⟩] [2])
  (.ret)))), false, false, false⟩
def F47l0 : PC := (.seq (.seq (.region none [⟨some 14, .mov (.t 6), none, []⟩,
     ⟨some 15, .bin .add (.t 14) (.c (.int .i64 1)), none, []⟩,
     ⟨some 16, .mov (.t 1), none, []⟩,
     ⟨some 17, .len .sl (.t 16), none, []⟩,
     ⟨some 18, .bin .lss (.t 15) (.t 17), none, []⟩,
     ⟨some 19, .mov (.t 18), none, []⟩,
     ⟨some 20, .mov (.t 6), some (19, true), []⟩,
     ⟨some 21, .bin .lss (.t 20) (.c (.int .i64 40)), some (19, true), []⟩,
     ⟨some 22, .pick (.t 19) (.t 21) (.c (.bool false)), none, []⟩] [1, 5, 6, 22])
   (.cond (.t 22)
    (.skip)
    (.exit 0)))
   (.seq (.block 1 (.seq (.region none [⟨some 25, .mov (.t 1), none, []⟩,
     ⟨some 26, .mov (.t 6), none, []⟩,
     ⟨some 27, .indexAddr 1 (.t 25) (.t 26), none, []⟩,
     ⟨some 28, .load false 1 (.t 27), none, []⟩,
     ⟨some 29, .mov (.t 5), none, []⟩,
     ⟨some 30, .len .sl (.t 29), none, []⟩,
     ⟨some 31, .call 17 [(.t 28), (.t 30)], none, []⟩,
     ⟨some 7, .mov (.t 31), none, []⟩] [1, 5, 6, 7])
   (.seq (.region none [⟨some 32, .mov (.t 1), none, []⟩,
     ⟨some 33, .mov (.t 6), none, []⟩,
     ⟨some 34, .bin .add (.t 33) (.c (.int .i64 1)), none, []⟩,
     ⟨some 35, .indexAddr 1 (.t 32) (.t 34), none, []⟩,
     ⟨some 36, .load false 1 (.t 35), none, []⟩,
     ⟨some 37, .call 17 [(.t 36), (.c (.int .i64 100000))], none, []⟩,
     ⟨some 8, .mov (.t 37), none, []⟩] [1, 5, 6, 7, 8])
   (.seq (.region none [⟨some 38, .mov (.t 8), none, []⟩,
     ⟨some 39, .bin .rem (.t 38) (.c (.int .i64 41)), none, []⟩,
     ⟨some 40, .bin .sub (.t 39) (.c (.int .i64 20)), none, []⟩,
     ⟨some 9, .mov (.t 40), none, []⟩] [1, 5, 6, 7, 8, 9])
   (.seq (.seq (.region none [⟨some 41, .mov (.t 8), none, []⟩,
     ⟨some 42, .bin .rem (.t 41) (.c (.int .i64 7)), none, []⟩,
     ⟨some 43, .bin .eql (.t 42) (.c (.int .i64 0)), none, []⟩] [1, 5, 6, 7, 8, 9, 43])
   (.cond (.t 43)
    (.region none [⟨some 44, .bslice 7 [(.lit (.int .i64 0)), (.lit (.int .i64 0)), (.lit (.int .i64 0)), (.lit (.int .i64 0)), (.lit (.int .i64 0)), (.lit (.int .i64 0)), (.lit (.int .i64 0))] [(0, 1, (.c (.int .i64 2147483647))), (1, 1, (.c (.int .i64 (-2147483647)))), (2, 1, (.c (.int .i64 65536))), (3, 1, (.c (.int .i64 46341))), (4, 1, (.c (.int .i64 (-46341)))), (5, 1, (.c (.int .i64 1048577))), (6, 1, (.c (.int .i64 16385)))], none, []⟩,
      ⟨some 45, .mov (.t 8), none, []⟩,
      ⟨some 46, .bin .quo (.t 45) (.c (.int .i64 7)), none, []⟩,
      ⟨some 47, .bin .rem (.t 46) (.c (.int .i64 7)), none, []⟩,
      ⟨some 48, .indexAddr 1 (.t 44) (.t 47), none, []⟩,
      ⟨some 49, .load false 1 (.t 48), none, []⟩,
      ⟨some 9, .mov (.t 49), none, []⟩] [1, 5, 6, 7, 8, 9])
    (.skip)))
   (.seq (.seq (.region none [⟨some 50, .mov (.t 7), none, []⟩,
     ⟨some 51, .bin .eql (.t 50) (.c (.int .i64 6)), none, []⟩,
     ⟨some 52, .mov (.t 51), none, []⟩,
     ⟨some 53, .mov (.t 7), some (52, false), []⟩,
     ⟨some 54, .bin .eql (.t 53) (.c (.int .i64 7)), some (52, false), []⟩,
     ⟨some 55, .pick (.t 52) (.c (.bool true)) (.t 54), none, []⟩,
     ⟨some 56, .mov (.t 55), none, []⟩,
     ⟨some 57, .mov (.t 7), some (56, false), []⟩,
     ⟨some 58, .bin .eql (.t 57) (.c (.int .i64 8)), some (56, false), []⟩,
     ⟨some 59, .pick (.t 56) (.c (.bool true)) (.t 58), none, []⟩] [1, 5, 6, 7, 8, 9, 59])
   (.cond (.t 59)
    (.region none [⟨some 60, .mov (.t 9), none, []⟩,
      ⟨some 61, .call 17 [(.t 60), (.c (.int .i64 24))], none, []⟩,
      ⟨some 9, .mov (.t 61), none, []⟩] [1, 5, 6, 7, 8, 9])
    (.skip)))
   (.seq (.seq (.region none [⟨some 62, .mov (.t 7), none, []⟩,
     ⟨some 63, .bin .eql (.t 62) (.c (.int .i64 11)), none, []⟩] [1, 5, 6, 7, 8, 9, 63])
   (.cond (.t 63)
    (.region none [⟨some 64, .bslice 5 [(.lit (.int .i64 0)), (.lit (.int .i64 0)), (.lit (.int .i64 0)), (.lit (.int .i64 0)), (.lit (.int .i64 0))] [(0, 1, (.c (.int .i64 0))), (1, 1, (.c (.int .i64 1))), (2, 1, (.c (.int .i64 39))), (3, 1, (.c (.int .i64 40))), (4, 1, (.c (.int .i64 41)))], none, []⟩,
      ⟨some 65, .mov (.t 8), none, []⟩,
      ⟨some 66, .bin .rem (.t 65) (.c (.int .i64 5)), none, []⟩,
      ⟨some 67, .indexAddr 1 (.t 64) (.t 66), none, []⟩,
      ⟨some 68, .load false 1 (.t 67), none, []⟩,
      ⟨some 9, .mov (.t 68), none, []⟩] [1, 5, 6, 7, 9])
    (.skip)))
   (.region none [⟨some 69, .mov (.t 5), none, []⟩,
     ⟨some 70, .mov (.t 7), none, []⟩,
     ⟨some 71, .mov (.t 9), none, []⟩,
     ⟨some 72, .indexAddr 1 (.t 69) (.t 70), none, []⟩,
     ⟨none, .store 1 (.t 72) (.t 71), none, []⟩] [1, 5, 6]))))))))
   (.region none [⟨some 23, .mov (.t 6), none, []⟩,
     ⟨some 24, .bin .add (.t 23) (.c (.int .i64 2)), none, []⟩,
     ⟨some 6, .mov (.t 24), none, []⟩] [1, 5, 6])))
theorem run_F47l0 (C : Task → Option Res) (k : Nat) (fr : Fr) (σ : S) : run C k F47l0 fr σ = run C k (.seq (.seq (.region none [⟨some 14, .mov (.t 6), none, []⟩,
     ⟨some 15, .bin .add (.t 14) (.c (.int .i64 1)), none, []⟩,
     ⟨some 16, .mov (.t 1), none, []⟩,
     ⟨some 17, .len .sl (.t 16), none, []⟩,
     ⟨some 18, .bin .lss (.t 15) (.t 17), none, []⟩,
     ⟨some 19, .mov (.t 18), none, []⟩,
     ⟨some 20, .mov (.t 6), some (19, true), []⟩,
     ⟨some 21, .bin .lss (.t 20) (.c (.int .i64 40)), some (19, true), []⟩,
     ⟨some 22, .pick (.t 19) (.t 21) (.c (.bool false)), none, []⟩] [1, 5, 6, 22])
   (.cond (.t 22)
    (.skip)
    (.exit 0)))
   (.seq (.block 1 (.seq (.region none [⟨some 25, .mov (.t 1), none, []⟩,
     ⟨some 26, .mov (.t 6), none, []⟩,
     ⟨some 27, .indexAddr 1 (.t 25) (.t 26), none, []⟩,
     ⟨some 28, .load false 1 (.t 27), none, []⟩,
     ⟨some 29, .mov (.t 5), none, []⟩,
     ⟨some 30, .len .sl (.t 29), none, []⟩,
     ⟨some 31, .call 17 [(.t 28), (.t 30)], none, []⟩,
     ⟨some 7, .mov (.t 31), none, []⟩] [1, 5, 6, 7])
   (.seq (.region none [⟨some 32, .mov (.t 1), none, []⟩,
     ⟨some 33, .mov (.t 6), none, []⟩,
     ⟨some 34, .bin .add (.t 33) (.c (.int .i64 1)), none, []⟩,
     ⟨some 35, .indexAddr 1 (.t 32) (.t 34), none, []⟩,
     ⟨some 36, .load false 1 (.t 35), none, []⟩,
     ⟨some 37, .call 17 [(.t 36), (.c (.int .i64 100000))], none, []⟩,
     ⟨some 8, .mov (.t 37), none, []⟩] [1, 5, 6, 7, 8])
   (.seq (.region none [⟨some 38, .mov (.t 8), none, []⟩,
     ⟨some 39, .bin .rem (.t 38) (.c (.int .i64 41)), none, []⟩,
     ⟨some 40, .bin .sub (.t 39) (.c (.int .i64 20)), none, []⟩,
     ⟨some 9, .mov (.t 40), none, []⟩] [1, 5, 6, 7, 8, 9])
   (.seq (.seq (.region none [⟨some 41, .mov (.t 8), none, []⟩,
     ⟨some 42, .bin .rem (.t 41) (.c (.int .i64 7)), none, []⟩,
     ⟨some 43, .bin .eql (.t 42) (.c (.int .i64 0)), none, []⟩] [1, 5, 6, 7, 8, 9, 43])
   (.cond (.t 43)
    (.region none [⟨some 44, .bslice 7 [(.lit (.int .i64 0)), (.lit (.int .i64 0)), (.lit (.int .i64 0)), (.lit (.int .i64 0)), (.lit (.int .i64 0)), (.lit (.int .i64 0)), (.lit (.int .i64 0))] [(0, 1, (.c (.int .i64 2147483647))), (1, 1, (.c (.int .i64 (-2147483647)))), (2, 1, (.c (.int .i64 65536))), (3, 1, (.c (.int .i64 46341))), (4, 1, (.c (.int .i64 (-46341)))), (5, 1, (.c (.int .i64 1048577))), (6, 1, (.c (.int .i64 16385)))], none, []⟩,
      ⟨some 45, .mov (.t 8), none, []⟩,
      ⟨some 46, .bin .quo (.t 45) (.c (.int .i64 7)), none, []⟩,
      ⟨some 47, .bin .rem (.t 46) (.c (.int .i64 7)), none, []⟩,
      ⟨some 48, .indexAddr 1 (.t 44) (.t 47), none, []⟩,
      ⟨some 49, .load false 1 (.t 48), none, []⟩,
      ⟨some 9, .mov (.t 49), none, []⟩] [1, 5, 6, 7, 8, 9])
    (.skip)))
   (.seq (.seq (.region none [⟨some 50, .mov (.t 7), none, []⟩,
     ⟨some 51, .bin .eql (.t 50) (.c (.int .i64 6)), none, []⟩,
     ⟨some 52, .mov (.t 51), none, []⟩,
     ⟨some 53, .mov (.t 7), some (52, false), []⟩,
     ⟨some 54, .bin .eql (.t 53) (.c (.int .i64 7)), some (52, false), []⟩,
     ⟨some 55, .pick (.t 52) (.c (.bool true)) (.t 54), none, []⟩,
     ⟨some 56, .mov (.t 55), none, []⟩,
     ⟨some 57, .mov (.t 7), some (56, false), []⟩,
     ⟨some 58, .bin .eql (.t 57) (.c (.int .i64 8)), some (56, false), []⟩,
     ⟨some 59, .pick (.t 56) (.c (.bool true)) (.t 58), none, []⟩] [1, 5, 6, 7, 8, 9, 59])
   (.cond (.t 59)
    (.region none [⟨some 60, .mov (.t 9), none, []⟩,
      ⟨some 61, .call 17 [(.t 60), (.c (.int .i64 24))], none, []⟩,
      ⟨some 9, .mov (.t 61), none, []⟩] [1, 5, 6, 7, 8, 9])
    (.skip)))
   (.seq (.seq (.region none [⟨some 62, .mov (.t 7), none, []⟩,
     ⟨some 63, .bin .eql (.t 62) (.c (.int .i64 11)), none, []⟩] [1, 5, 6, 7, 8, 9, 63])
   (.cond (.t 63)
    (.region none [⟨some 64, .bslice 5 [(.lit (.int .i64 0)), (.lit (.int .i64 0)), (.lit (.int .i64 0)), (.lit (.int .i64 0)), (.lit (.int .i64 0))] [(0, 1, (.c (.int .i64 0))), (1, 1, (.c (.int .i64 1))), (2, 1, (.c (.int .i64 39))), (3, 1, (.c (.int .i64 40))), (4, 1, (.c (.int .i64 41)))], none, []⟩,
      ⟨some 65, .mov (.t 8), none, []⟩,
      ⟨some 66, .bin .rem (.t 65) (.c (.int .i64 5)), none, []⟩,
      ⟨some 67, .indexAddr 1 (.t 64) (.t 66), none, []⟩,
      ⟨some 68, .load false 1 (.t 67), none, []⟩,
      ⟨some 9, .mov (.t 68), none, []⟩] [1, 5, 6, 7, 9])
    (.skip)))
   (.region none [⟨some 69, .mov (.t 5), none, []⟩,
     ⟨some 70, .mov (.t 7), none, []⟩,
     ⟨some 71, .mov (.t 9), none, []⟩,
     ⟨some 72, .indexAddr 1 (.t 69) (.t 70), none, []⟩,
     ⟨none, .store 1 (.t 72) (.t 71), none, []⟩] [1, 5, 6]))))))))
   (.region none [⟨some 23, .mov (.t 6), none, []⟩,
     ⟨some 24, .bin .add (.t 23) (.c (.int .i64 2)), none, []⟩,
     ⟨some 6, .mov (.t 24), none, []⟩] [1, 5, 6]))) fr σ := rfl
/-- arenanet/arenanetref16.Cells -/
def F47 : PFun := ⟨2, [.tmp 4],
  .seq (.region none [⟨some 2, .box (.t 0), none, []⟩,
    ⟨some 4, .mov (.c (.slice none 0 0)), none, []⟩] [1, 2])
  (.seq (.region none [⟨some 10, .bslice 0 [] [], none, []⟩,
    ⟨some 11, .load true 16 (.t 2), none, []⟩,
    ⟨some 12, .call 55 [(.t 11)], none, []⟩,
    ⟨some 13, .appendO 1 8 (.t 10) (.t 12), none, []⟩,
    ⟨some 5, .mov (.t 13), none, []⟩] [1, 5])
  (.seq (.seq (.region none [⟨some 6, .mov (.c (.int .i64 0)), none, []⟩] [1, 5, 6])
  (.block 0 (.loop F47l0)))
  (.seq (.region none [⟨some 73, .mov (.t 5), none, []⟩,
    ⟨some 4, .mov (.t 73), none, []⟩] [4])
  (.ret)))), false, false, false⟩
def F48l0 : PC := (.seq (.seq (.region none [⟨some 8, .mov (.t 4), none, []⟩,
     ⟨some 9, .mov (.t 0), none, []⟩,
     ⟨some 10, .len .sl (.t 9), none, []⟩,
     ⟨some 11, .bin .lss (.t 8) (.t 10), none, []⟩,
     ⟨some 12, .mov (.t 11), none, []⟩,
     ⟨some 13, .mov (.t 4), some (12, true), []⟩,
     ⟨some 14, .bin .lss (.t 13) (.c (.int .i64 20)), some (12, true), []⟩,
     ⟨some 15, .pick (.t 12) (.t 14) (.c (.bool false)), none, []⟩] [0, 2, 3, 4, 15])
   (.cond (.t 15)
    (.skip)
    (.exit 0)))
   (.seq (.block 1 (.seq (.region none [⟨some 18, .mov (.t 0), none, []⟩,
     ⟨some 19, .mov (.t 4), none, []⟩,
     ⟨some 20, .indexAddr 1 (.t 18) (.t 19), none, []⟩,
     ⟨some 21, .load false 1 (.t 20), none, []⟩,
     ⟨some 22, .call 17 [(.t 21), (.c (.int .i64 10000000))], none, []⟩,
     ⟨some 5, .mov (.t 22), none, []⟩] [0, 2, 3, 4, 5])
   (.seq (.region none [⟨some 23, .mov (.t 5), none, []⟩,
     ⟨some 24, .bin .rem (.t 23) (.c (.int .i64 21)), none, []⟩,
     ⟨some 25, .bin .add (.c (.int .i64 1)) (.t 24), none, []⟩,
     ⟨some 26, .mov (.t 5), none, []⟩,
     ⟨some 27, .bin .quo (.t 26) (.c (.int .i64 21)), none, []⟩,
     ⟨some 28, .bin .rem (.t 27) (.c (.int .i64 8)), none, []⟩,
     ⟨some 29, .build [(.lit (.int .i64 0)), (.lit (.int .i64 0))] [(0, 1, (.t 25)), (1, 1, (.t 28))], none, []⟩,
     ⟨some 6, .alloc [(.lit (.int .i64 0)), (.lit (.int .i64 0))], none, []⟩,
     ⟨none, .store 2 (.t 6) (.t 29), none, []⟩] [0, 2, 3, 4, 5, 6])
   (.seq (.seq (.region none [⟨some 30, .fieldAddr 0 (.t 6), none, []⟩,
     ⟨some 31, .load false 1 (.t 30), none, []⟩,
     ⟨some 32, .bin .eql (.t 31) (.c (.int .i64 1)), none, []⟩,
     ⟨some 33, .mov (.t 32), none, []⟩,
     ⟨some 34, .mov (.t 5), some (33, true), []⟩,
     ⟨some 35, .bin .rem (.t 34) (.c (.int .i64 5)), some (33, true), []⟩,
     ⟨some 36, .bin .gtr (.t 35) (.c (.int .i64 2)), some (33, true), []⟩,
     ⟨some 37, .pick (.t 33) (.t 36) (.c (.bool false)), none, []⟩] [0, 2, 3, 4, 5, 6, 37])
   (.cond (.t 37)
    (.region none [⟨some 38, .bslice 7 [(.lit (.int .i64 0)), (.lit (.int .i64 0)), (.lit (.int .i64 0)), (.lit (.int .i64 0)), (.lit (.int .i64 0)), (.lit (.int .i64 0)), (.lit (.int .i64 0))] [(0, 1, (.c (.int .i64 0))), (1, 1, (.c (.int .i64 (-1)))), (2, 1, (.c (.int .i64 2147483647))), (3, 1, (.c (.int .i64 (-2147483647)))), (4, 1, (.c (.int .i64 100000))), (5, 1, (.c (.int .i64 3))), (6, 1, (.c (.int .i64 2)))], none, []⟩,
      ⟨some 39, .mov (.t 5), none, []⟩,
      ⟨some 40, .bin .quo (.t 39) (.c (.int .i64 21)), none, []⟩,
      ⟨some 41, .bin .rem (.t 40) (.c (.int .i64 7)), none, []⟩,
      ⟨some 42, .indexAddr 1 (.t 38) (.t 41), none, []⟩,
      ⟨some 43, .load false 1 (.t 42), none, []⟩,
      ⟨some 44, .fieldAddr 1 (.t 6), none, []⟩,
      ⟨none, .store 1 (.t 44) (.t 43), none, []⟩] [0, 2, 3, 4, 5, 6])
    (.skip)))
   (.seq (.seq (.region none [⟨some 45, .fieldAddr 0 (.t 6), none, []⟩,
     ⟨some 46, .load false 1 (.t 45), none, []⟩,
     ⟨some 47, .bin .eql (.t 46) (.c (.int .i64 18)), none, []⟩,
     ⟨some 48, .mov (.t 47), none, []⟩,
     ⟨some 49, .fieldAddr 0 (.t 6), some (48, false), []⟩,
     ⟨some 50, .load false 1 (.t 49), some (48, false), []⟩,
     ⟨some 51, .bin .eql (.t 50) (.c (.int .i64 19)), some (48, false), []⟩,
     ⟨some 52, .pick (.t 48) (.c (.bool true)) (.t 51), none, []⟩] [0, 2, 3, 4, 5, 6, 52])
   (.cond (.t 52)
    (.region none [⟨some 53, .mov (.t 5), none, []⟩,
      ⟨some 54, .bin .quo (.t 53) (.c (.int .i64 21)), none, []⟩,
      ⟨some 55, .bin .rem (.t 54) (.c (.int .i64 22)), none, []⟩,
      ⟨some 56, .fieldAddr 1 (.t 6), none, []⟩,
      ⟨none, .store 1 (.t 56) (.t 55), none, []⟩] [0, 2, 3, 4, 5, 6])
    (.skip)))
   (.seq (.seq (.region none [⟨some 57, .mov (.t 5), none, []⟩,
     ⟨some 58, .bin .rem (.t 57) (.c (.int .i64 97)), none, []⟩,
     ⟨some 59, .bin .eql (.t 58) (.c (.int .i64 5)), none, []⟩] [0, 2, 3, 4, 5, 6, 59])
   (.cond (.t 59)
    (.region none [⟨some 60, .mov (.t 5), none, []⟩,
      ⟨some 61, .bin .quo (.t 60) (.c (.int .i64 21)), none, []⟩,
      ⟨some 62, .bin .rem (.t 61) (.c (.int .i64 40)), none, []⟩,
      ⟨some 63, .bin .sub (.t 62) (.c (.int .i64 10)), none, []⟩,
      ⟨some 64, .fieldAddr 1 (.t 6), none, []⟩,
      ⟨none, .store 1 (.t 64) (.t 63), none, []⟩] [0, 2, 3, 4, 6])
    (.skip)))
   (.region none [⟨some 65, .fieldAddr 0 (.t 3), none, []⟩,
     ⟨some 66, .load false 1 (.t 65), none, []⟩,
     ⟨some 67, .load true 2 (.t 6), none, []⟩,
     ⟨some 68, .bslice 1 [(.lit (.int .i64 0)), (.lit (.int .i64 0))] [(0, 2, (.t 67))], none, []⟩,
     ⟨some 69, .append 2 16 (.t 66) (.t 68), none, []⟩,
     ⟨some 70, .fieldAddr 0 (.t 3), none, []⟩,
     ⟨none, .store 1 (.t 70) (.t 69), none, []⟩] [0, 2, 3, 4])))))))
   (.region none [⟨some 16, .mov (.t 4), none, []⟩,
     ⟨some 17, .bin .add (.t 16) (.c (.int .i64 1)), none, []⟩,
     ⟨some 4, .mov (.t 17), none, []⟩] [0, 2, 3, 4])))
theorem run_F48l0 (C : Task → Option Res) (k : Nat) (fr : Fr) (σ : S) : run C k F48l0 fr σ = run C k (.seq (.seq (.region none [⟨some 8, .mov (.t 4), none, []⟩,
     ⟨some 9, .mov (.t 0), none, []⟩,
     ⟨some 10, .len .sl (.t 9), none, []⟩,
     ⟨some 11, .bin .lss (.t 8) (.t 10), none, []⟩,
     ⟨some 12, .mov (.t 11), none, []⟩,
     ⟨some 13, .mov (.t 4), some (12, true), []⟩,
     ⟨some 14, .bin .lss (.t 13) (.c (.int .i64 20)), some (12, true), []⟩,
     ⟨some 15, .pick (.t 12) (.t 14) (.c (.bool false)), none, []⟩] [0, 2, 3, 4, 15])
   (.cond (.t 15)
    (.skip)
    (.exit 0)))
   (.seq (.block 1 (.seq (.region none [⟨some 18, .mov (.t 0), none, []⟩,
     ⟨some 19, .mov (.t 4), none, []⟩,
     ⟨some 20, .indexAddr 1 (.t 18) (.t 19), none, []⟩,
     ⟨some 21, .load false 1 (.t 20), none, []⟩,
     ⟨some 22, .call 17 [(.t 21), (.c (.int .i64 10000000))], none, []⟩,
     ⟨some 5, .mov (.t 22), none, []⟩] [0, 2, 3, 4, 5])
   (.seq (.region none [⟨some 23, .mov (.t 5), none, []⟩,
     ⟨some 24, .bin .rem (.t 23) (.c (.int .i64 21)), none, []⟩,
     ⟨some 25, .bin .add (.c (.int .i64 1)) (.t 24), none, []⟩,
     ⟨some 26, .mov (.t 5), none, []⟩,
     ⟨some 27, .bin .quo (.t 26) (.c (.int .i64 21)), none, []⟩,
     ⟨some 28, .bin .rem (.t 27) (.c (.int .i64 8)), none, []⟩,
     ⟨some 29, .build [(.lit (.int .i64 0)), (.lit (.int .i64 0))] [(0, 1, (.t 25)), (1, 1, (.t 28))], none, []⟩,
     ⟨some 6, .alloc [(.lit (.int .i64 0)), (.lit (.int .i64 0))], none, []⟩,
     ⟨none, .store 2 (.t 6) (.t 29), none, []⟩] [0, 2, 3, 4, 5, 6])
   (.seq (.seq (.region none [⟨some 30, .fieldAddr 0 (.t 6), none, []⟩,
     ⟨some 31, .load false 1 (.t 30), none, []⟩,
     ⟨some 32, .bin .eql (.t 31) (.c (.int .i64 1)), none, []⟩,
     ⟨some 33, .mov (.t 32), none, []⟩,
     ⟨some 34, .mov (.t 5), some (33, true), []⟩,
     ⟨some 35, .bin .rem (.t 34) (.c (.int .i64 5)), some (33, true), []⟩,
     ⟨some 36, .bin .gtr (.t 35) (.c (.int .i64 2)), some (33, true), []⟩,
     ⟨some 37, .pick (.t 33) (.t 36) (.c (.bool false)), none, []⟩] [0, 2, 3, 4, 5, 6, 37])
   (.cond (.t 37)
    (.region none [⟨some 38, .bslice 7 [(.lit (.int .i64 0)), (.lit (.int .i64 0)), (.lit (.int .i64 0)), (.lit (.int .i64 0)), (.lit (.int .i64 0)), (.lit (.int .i64 0)), (.lit (.int .i64 0))] [(0, 1, (.c (.int .i64 0))), (1, 1, (.c (.int .i64 (-1)))), (2, 1, (.c (.int .i64 2147483647))), (3, 1, (.c (.int .i64 (-2147483647)))), (4, 1, (.c (.int .i64 100000))), (5, 1, (.c (.int .i64 3))), (6, 1, (.c (.int .i64 2)))], none, []⟩,
      ⟨some 39, .mov (.t 5), none, []⟩,
      ⟨some 40, .bin .quo (.t 39) (.c (.int .i64 21)), none, []⟩,
      ⟨some 41, .bin .rem (.t 40) (.c (.int .i64 7)), none, []⟩,
      ⟨some 42, .indexAddr 1 (.t 38) (.t 41), none, []⟩,
      ⟨some 43, .load false 1 (.t 42), none, []⟩,
      ⟨some 44, .fieldAddr 1 (.t 6), none, []⟩,
      ⟨none, .store 1 (.t 44) (.t 43), none, []⟩] [0, 2, 3, 4, 5, 6])
    (.skip)))
   (.seq (.seq (.region none [⟨some 45, .fieldAddr 0 (.t 6), none, []⟩,
     ⟨some 46, .load false 1 (.t 45), none, []⟩,
     ⟨some 47, .bin .eql (.t 46) (.c (.int .i64 18)), none, []⟩,
     ⟨some 48, .mov (.t 47), none, []⟩,
     ⟨some 49, .fieldAddr 0 (.t 6), some (48, false), []⟩,
     ⟨some 50, .load false 1 (.t 49), some (48, false), []⟩,
     ⟨some 51, .bin .eql (.t 50) (.c (.int .i64 19)), some (48, false), []⟩,
     ⟨some 52, .pick (.t 48) (.c (.bool true)) (.t 51), none, []⟩] [0, 2, 3, 4, 5, 6, 52])
   (.cond (.t 52)
    (.region none [⟨some 53, .mov (.t 5), none, []⟩,
      ⟨some 54, .bin .quo (.t 53) (.c (.int .i64 21)), none, []⟩,
      ⟨some 55, .bin .rem (.t 54) (.c (.int .i64 22)), none, []⟩,
      ⟨some 56, .fieldAddr 1 (.t 6), none, []⟩,
      ⟨none, .store 1 (.t 56) (.t 55), none, []⟩] [0, 2, 3, 4, 5, 6])
    (.skip)))
   (.seq (.seq (.region none [⟨some 57, .mov (.t 5), none, []⟩,
     ⟨some 58, .bin .rem (.t 57) (.c (.int .i64 97)), none, []⟩,
     ⟨some 59, .bin .eql (.t 58) (.c (.int .i64 5)), none, []⟩] [0, 2, 3, 4, 5, 6, 59])
   (.cond (.t 59)
    (.region none [⟨some 60, .mov (.t 5), none, []⟩,
      ⟨some 61, .bin .quo (.t 60) (.c (.int .i64 21)), none, []⟩,
      ⟨some 62, .bin .rem (.t 61) (.c (.int .i64 40)), none, []⟩,
      ⟨some 63, .bin .sub (.t 62) (.c (.int .i64 10)), none, []⟩,
      ⟨some 64, .fieldAddr 1 (.t 6), none, []⟩,
      ⟨none, .store 1 (.t 64) (.t 63), none, []⟩] [0, 2, 3, 4, 6])
    (.skip)))
   (.region none [⟨some 65, .fieldAddr 0 (.t 3), none, []⟩,
     ⟨some 66, .load false 1 (.t 65), none, []⟩,
     ⟨some 67, .load true 2 (.t 6), none, []⟩,
     ⟨some 68, .bslice 1 [(.lit (.int .i64 0)), (.lit (.int .i64 0))] [(0, 2, (.t 67))], none, []⟩,
     ⟨some 69, .append 2 16 (.t 66) (.t 68), none, []⟩,
     ⟨some 70, .fieldAddr 0 (.t 3), none, []⟩,
     ⟨none, .store 1 (.t 70) (.t 69), none, []⟩] [0, 2, 3, 4])))))))
   (.region none [⟨some 16, .mov (.t 4), none, []⟩,
     ⟨some 17, .bin .add (.t 16) (.c (.int .i64 1)), none, []⟩,
     ⟨some 4, .mov (.t 17), none, []⟩] [0, 2, 3, 4]))) fr σ := rfl
def F48l1 : PC := (.seq (.seq (.region none [⟨some 71, .mov (.t 7), none, []⟩,
     ⟨some 72, .bin .lss (.t 71) (.c (.int .i64 3)), none, []⟩] [0, 2, 3, 7, 72])
   (.cond (.t 72)
    (.skip)
    (.exit 2)))
   (.seq (.block 3 (.region (some []) [⟨some 75, .mov (.t 7), none, []⟩,
     ⟨some 76, .mov (.t 7), none, []⟩,
     ⟨some 77, .fieldAddr 0 (.t 3), none, []⟩,
     ⟨some 78, .load false 1 (.t 77), none, [12]⟩,
     ⟨some 79, .len .sl (.t 78), none, [12]⟩,
     ⟨some 80, .bin .mul (.t 76) (.t 79), none, []⟩,
     ⟨some 81, .bin .quo (.t 80) (.c (.int .i64 3)), none, []⟩,
     ⟨some 82, .mov (.t 0), none, []⟩,
     ⟨some 83, .len .sl (.t 82), none, []⟩,
     ⟨some 84, .bin .rem (.t 83) (.c (.int .i64 4)), none, []⟩,
     ⟨some 85, .mov (.t 7), none, []⟩,
     ⟨some 86, .bin .eql (.t 84) (.t 85), none, []⟩,
     ⟨some 87, .call 61 [(.t 86)], none, []⟩,
     ⟨some 88, .mov (.t 0), none, []⟩,
     ⟨some 89, .len .sl (.t 88), none, [12]⟩,
     ⟨some 90, .bin .mul (.t 87) (.t 89), none, []⟩,
     ⟨some 91, .bin .sub (.t 81) (.t 90), none, []⟩,
     ⟨some 92, .fieldAddr 1 (.t 3), none, []⟩,
     ⟨some 93, .indexAddrA 3 1 (.t 92) (.t 75), none, []⟩,
     ⟨none, .store 1 (.t 93) (.t 91), none, []⟩] [0, 2, 3, 7]))
   (.region none [⟨some 73, .mov (.t 7), none, []⟩,
     ⟨some 74, .bin .add (.t 73) (.c (.int .i64 1)), none, []⟩,
     ⟨some 7, .mov (.t 74), none, []⟩] [0, 2, 3, 7])))
theorem run_F48l1 (C : Task → Option Res) (k : Nat) (fr : Fr) (σ : S) : run C k F48l1 fr σ = run C k (.seq (.seq (.region none [⟨some 71, .mov (.t 7), none, []⟩,
     ⟨some 72, .bin .lss (.t 71) (.c (.int .i64 3)), none, []⟩] [0, 2, 3, 7, 72])
   (.cond (.t 72)
    (.skip)
    (.exit 2)))
   (.seq (.block 3 (.region (some []) [⟨some 75, .mov (.t 7), none, []⟩,
     ⟨some 76, .mov (.t 7), none, []⟩,
     ⟨some 77, .fieldAddr 0 (.t 3), none, []⟩,
     ⟨some 78, .load false 1 (.t 77), none, [12]⟩,
     ⟨some 79, .len .sl (.t 78), none, [12]⟩,
     ⟨some 80, .bin .mul (.t 76) (.t 79), none, []⟩,
     ⟨some 81, .bin .quo (.t 80) (.c (.int .i64 3)), none, []⟩,
     ⟨some 82, .mov (.t 0), none, []⟩,
     ⟨some 83, .len .sl (.t 82), none, []⟩,
     ⟨some 84, .bin .rem (.t 83) (.c (.int .i64 4)), none, []⟩,
     ⟨some 85, .mov (.t 7), none, []⟩,
     ⟨some 86, .bin .eql (.t 84) (.t 85), none, []⟩,
     ⟨some 87, .call 61 [(.t 86)], none, []⟩,
     ⟨some 88, .mov (.t 0), none, []⟩,
     ⟨some 89, .len .sl (.t 88), none, [12]⟩,
     ⟨some 90, .bin .mul (.t 87) (.t 89), none, []⟩,
     ⟨some 91, .bin .sub (.t 81) (.t 90), none, []⟩,
     ⟨some 92, .fieldAddr 1 (.t 3), none, []⟩,
     ⟨some 93, .indexAddrA 3 1 (.t 92) (.t 75), none, []⟩,
     ⟨none, .store 1 (.t 93) (.t 91), none, []⟩] [0, 2, 3, 7]))
   (.region none [⟨some 73, .mov (.t 7), none, []⟩,
     ⟨some 74, .bin .add (.t 73) (.c (.int .i64 1)), none, []⟩,
     ⟨some 7, .mov (.t 74), none, []⟩] [0, 2, 3, 7]))) fr σ := rfl
/-- arenanet/arenanetref16.Code -/
def F48 : PFun := ⟨1, [.cell 2 true 4],
  .seq (.region none [⟨some 2, .alloc [(.lit (.slice none 0 0)), (.lit (.int .i64 0)), (.lit (.int .i64 0)), (.lit (.int .i64 0))], none, []⟩] [0, 2])
  (.seq (.region none [⟨some 3, .alloc [(.lit (.slice none 0 0)), (.lit (.int .i64 0)), (.lit (.int .i64 0)), (.lit (.int .i64 0))], none, []⟩] [0, 2, 3])
  (.seq (.seq (.region none [⟨some 4, .mov (.c (.int .i64 0)), none, []⟩] [0, 2, 3, 4])
  (.block 0 (.loop F48l0)))
  (.seq (.seq (.region none [⟨some 7, .mov (.c (.int .i64 0)), none, []⟩] [0, 2, 3, 7])
  (.block 2 (.loop F48l1)))
  (.seq (.region none [⟨some 94, .load true 4 (.t 3), none, []⟩,
    ⟨none, .store 4 (.t 2) (.t 94), none, []⟩] [2])
  (.ret))))), false, false, false⟩
/-- arenanet/arenanetref01.Around -/
def F17 : PFun := ⟨2, [.tmp 4],
  .seq (.region none [⟨some 4, .mov (.c (.int .i64 0)), none, []⟩] [0, 1])
  (.seq (.seq (.region none [⟨some 5, .mov (.t 0), none, []⟩,
    ⟨some 6, .bin .lss (.t 5) (.c (.int .i64 0)), none, []⟩] [0, 1, 6])
  (.cond (.t 6)
   (.region none [⟨some 7, .mov (.t 0), none, []⟩,
     ⟨some 8, .bin .add (.t 7) (.c (.int .i64 1)), none, []⟩,
     ⟨some 9, .un .neg (.t 8), none, []⟩,
     ⟨some 0, .mov (.t 9), none, []⟩] [0, 1])
   (.skip)))
  (.seq (.region none [⟨some 10, .mov (.t 0), none, []⟩,
    ⟨some 11, .mov (.t 1), none, []⟩,
    ⟨some 12, .bin .rem (.t 10) (.t 11), none, []⟩,
    ⟨some 4, .mov (.t 12), none, []⟩] [4])
  (.ret))), false, false, false⟩
/-- arenanet/vm.Start -/
def F49 : PFun := ⟨6, [.tmp 12],
  .seq (.region none [⟨some 7, .box (.t 1), none, []⟩,
    ⟨some 12, .mov (.c (.bool false)), none, []⟩] [0, 2, 3, 4, 5, 7])
  (.seq (.seq (.region none [⟨some 13, .mov (.t 0), none, []⟩,
    ⟨some 14, .isnil false false (.t 13), none, []⟩,
    ⟨some 15, .mov (.t 14), none, []⟩,
    ⟨some 16, .mov (.t 2), some (15, false), []⟩,
    ⟨some 17, .bin .lss (.t 16) (.c (.int .i64 0)), some (15, false), []⟩,
    ⟨some 18, .pick (.t 15) (.c (.bool true)) (.t 17), none, []⟩,
    ⟨some 19, .mov (.t 18), none, []⟩,
    ⟨some 20, .mov (.t 2), some (19, false), []⟩,
    ⟨some 21, .bin .geq (.t 20) (.c (.int .i64 3)), some (19, false), []⟩,
    ⟨some 22, .pick (.t 19) (.c (.bool true)) (.t 21), none, []⟩,
    ⟨some 23, .mov (.t 22), none, []⟩,
    ⟨some 24, .mov (.t 2), some (23, false), []⟩,
    ⟨some 25, .fieldAddr 1 (.t 7), some (23, false), []⟩,
    ⟨some 26, .indexAddrA 3 1 (.t 25) (.t 24), some (23, false), []⟩,
    ⟨some 27, .load false 1 (.t 26), some (23, false), []⟩,
    ⟨some 28, .bin .lss (.t 27) (.c (.int .i64 0)), some (23, false), []⟩,
    ⟨some 29, .pick (.t 23) (.c (.bool true)) (.t 28), none, []⟩] [0, 2, 3, 4, 5, 7, 29])
  (.cond (.t 29)
   (.seq (.region none [⟨some 12, .mov (.c (.bool false)), none, []⟩] [12])
   (.ret))
   (.skip)))
  (.seq (.region (some []) [⟨some 30, .mov (.t 0), none, []⟩,
    ⟨some 31, .mov (.t 2), none, []⟩,
    ⟨some 32, .fieldAddr 1 (.t 7), none, []⟩,
    ⟨some 33, .indexAddrA 3 1 (.t 32) (.t 31), none, []⟩,
    ⟨some 34, .load false 1 (.t 33), none, []⟩,
    ⟨some 35, .mkmeth [(0, 114)] (.t 30), none, []⟩,
    ⟨some 36, .nilchk (.t 35), none, []⟩,
    ⟨some 37, .mov (.t 30), none, []⟩,
    ⟨some 38, .invoke [(0, 114)] (.t 37) [(.c (.int .i64 6)), (.t 34)], none, []⟩] [0, 3, 4, 5] [8])
  (.seq (.region none [⟨some 39, .mov (.t 0), none, []⟩,
    ⟨some 40, .invoke [(0, 114)] (.t 39) [(.c (.int .i64 7)), (.c (.int .i64 0))], none, []⟩] [0, 3, 4, 5])
  (.seq (.region none [⟨some 41, .mov (.t 0), none, []⟩,
    ⟨some 42, .mov (.t 5), none, []⟩,
    ⟨some 43, .invoke [(0, 114)] (.t 41) [(.c (.int .i64 8)), (.t 42)], none, []⟩] [0, 3, 4])
  (.seq (.region none [⟨some 44, .mov (.t 0), none, []⟩,
    ⟨some 45, .mov (.t 3), none, []⟩,
    ⟨some 46, .invoke [(0, 114)] (.t 44) [(.c (.int .i64 9)), (.t 45)], none, []⟩] [0, 4])
  (.seq (.region none [⟨some 47, .mov (.t 0), none, []⟩,
    ⟨some 48, .mov (.t 4), none, []⟩,
    ⟨some 49, .invoke [(0, 114)] (.t 47) [(.c (.int .i64 10)), (.t 48)], none, []⟩] [])
  (.seq (.region none [⟨some 12, .mov (.c (.bool true)), none, []⟩] [12])
  (.ret)))))))), false, false, false⟩
def F50l0 : PC := (.seq (.seq (.region none [⟨some 28, .mov (.t 4), none, []⟩,
     ⟨some 29, .bin .lss (.t 28) (.c (.int .i64 3)), none, []⟩] [1, 2, 3, 4, 29])
   (.cond (.t 29)
    (.skip)
    (.exit 0)))
   (.seq (.block 1 (.seq (.region none [⟨some 33, .mov (.t 2), none, []⟩,
     ⟨some 34, .mkif 0 (.t 33), none, []⟩,
     ⟨some 35, .load true 16 (.t 1), none, []⟩,
     ⟨some 36, .load true 4 (.t 3), none, []⟩,
     ⟨some 37, .call 52 [(.t 34), (.t 35), (.t 36)], none, []⟩,
     ⟨some 32, .mov (.t 37), none, []⟩,
     ⟨some 38, .extract (.t 32) 0, none, []⟩,
     ⟨some 39, .extract (.t 32) 1, none, []⟩,
     ⟨some 40, .extract (.t 32) 2, none, []⟩,
     ⟨some 6, .alloc [(.lit (.int .i64 0)), (.lit (.int .i64 0)), (.lit (.int .i64 0)), (.lit (.int .i64 0))], none, []⟩,
     ⟨some 5, .mov (.t 38), none, []⟩,
     ⟨none, .store 4 (.t 6) (.t 39), none, []⟩,
     ⟨some 7, .mov (.t 40), none, []⟩] [1, 2, 3, 4, 5])
   (.seq (.region none [⟨some 41, .mov (.t 5), none, []⟩] [1, 2, 3, 4, 41])
   (.cond (.t 41)
    (.seq (.region none [⟨some 0, .mov (.c (.bool false)), none, []⟩] [0])
    (.ret))
    (.skip)))))
   (.region none [⟨some 30, .mov (.t 4), none, []⟩,
     ⟨some 31, .bin .add (.t 30) (.c (.int .i64 1)), none, []⟩,
     ⟨some 4, .mov (.t 31), none, []⟩] [1, 2, 3, 4])))
theorem run_F50l0 (C : Task → Option Res) (k : Nat) (fr : Fr) (σ : S) : run C k F50l0 fr σ = run C k (.seq (.seq (.region none [⟨some 28, .mov (.t 4), none, []⟩,
     ⟨some 29, .bin .lss (.t 28) (.c (.int .i64 3)), none, []⟩] [1, 2, 3, 4, 29])
   (.cond (.t 29)
    (.skip)
    (.exit 0)))
   (.seq (.block 1 (.seq (.region none [⟨some 33, .mov (.t 2), none, []⟩,
     ⟨some 34, .mkif 0 (.t 33), none, []⟩,
     ⟨some 35, .load true 16 (.t 1), none, []⟩,
     ⟨some 36, .load true 4 (.t 3), none, []⟩,
     ⟨some 37, .call 52 [(.t 34), (.t 35), (.t 36)], none, []⟩,
     ⟨some 32, .mov (.t 37), none, []⟩,
     ⟨some 38, .extract (.t 32) 0, none, []⟩,
     ⟨some 39, .extract (.t 32) 1, none, []⟩,
     ⟨some 40, .extract (.t 32) 2, none, []⟩,
     ⟨some 6, .alloc [(.lit (.int .i64 0)), (.lit (.int .i64 0)), (.lit (.int .i64 0)), (.lit (.int .i64 0))], none, []⟩,
     ⟨some 5, .mov (.t 38), none, []⟩,
     ⟨none, .store 4 (.t 6) (.t 39), none, []⟩,
     ⟨some 7, .mov (.t 40), none, []⟩] [1, 2, 3, 4, 5])
   (.seq (.region none [⟨some 41, .mov (.t 5), none, []⟩] [1, 2, 3, 4, 41])
   (.cond (.t 41)
    (.seq (.region none [⟨some 0, .mov (.c (.bool false)), none, []⟩] [0])
    (.ret))
    (.skip)))))
   (.region none [⟨some 30, .mov (.t 4), none, []⟩,
     ⟨some 31, .bin .add (.t 30) (.c (.int .i64 1)), none, []⟩,
     ⟨some 4, .mov (.t 31), none, []⟩] [1, 2, 3, 4]))) fr σ := rfl
/-- arenanet/arenanetlaw16.lives -/
def F50 : PFun := ⟨0, [.tmp 0],
  .seq (.region none [⟨some 0, .mov (.c (.bool false)), none, []⟩] [])
  (.seq (.region none [⟨some 11, .call 45 [(.c (.slice none 0 0))], none, []⟩,
    ⟨some 1, .alloc [(.lit (.int .i64 0)), (.lit (.slice none 0 0)), (.lit (.int .i64 0)), (.lit (.int .i64 0)), (.lit (.int .i64 0)), (.lit (.int .i64 0)), (.lit (.slice none 0 0)), (.lit (.slice none 0 0)), (.lit (.int .i64 0)), (.lit (.int .i64 0)), (.lit (.int .i64 0)), (.lit (.int .i64 0)), (.lit (.int .i64 0)), (.lit (.int .i64 0)), (.lit (.int .i64 0)), (.lit (.int .i64 0))], none, []⟩,
    ⟨none, .store 16 (.t 1) (.t 11), none, []⟩] [1])
  (.seq (.region none [⟨some 12, .load true 16 (.t 1), none, []⟩,
    ⟨some 13, .call 55 [(.t 12)], none, []⟩,
    ⟨some 14, .call 46 [(.t 13)], none, []⟩,
    ⟨some 2, .mov (.t 14), none, []⟩] [1, 2])
  (.seq (.region none [⟨some 15, .build [(.lit (.int .i64 0)), (.lit (.int .i64 0))] [(0, 1, (.c (.int .i64 1))), (1, 1, (.c (.int .i64 2)))], none, []⟩,
    ⟨some 16, .build [(.lit (.int .i64 0)), (.lit (.int .i64 0))] [(0, 1, (.c (.int .i64 1))), (1, 1, (.c (.int .i64 5)))], none, []⟩,
    ⟨some 17, .build [(.lit (.int .i64 0)), (.lit (.int .i64 0))] [(0, 1, (.c (.int .i64 10)))], none, []⟩,
    ⟨some 18, .build [(.lit (.int .i64 0)), (.lit (.int .i64 0))] [(0, 1, (.c (.int .i64 21)))], none, []⟩,
    ⟨some 19, .bslice 4 [(.lit (.int .i64 0)), (.lit (.int .i64 0)), (.lit (.int .i64 0)), (.lit (.int .i64 0)), (.lit (.int .i64 0)), (.lit (.int .i64 0)), (.lit (.int .i64 0)), (.lit (.int .i64 0))] [(0, 2, (.t 15)), (2, 2, (.t 16)), (4, 2, (.t 17)), (6, 2, (.t 18))], none, []⟩,
    ⟨some 20, .build [(.lit (.slice none 0 0)), (.lit (.int .i64 0)), (.lit (.int .i64 0)), (.lit (.int .i64 0))] [(0, 1, (.t 19))], none, []⟩,
    ⟨some 3, .alloc [(.lit (.slice none 0 0)), (.lit (.int .i64 0)), (.lit (.int .i64 0)), (.lit (.int .i64 0))], none, []⟩,
    ⟨none, .store 4 (.t 3) (.t 20), none, []⟩] [1, 2, 3])
  (.seq (.seq (.region none [⟨some 21, .mov (.t 2), none, []⟩,
    ⟨some 22, .isnil true false (.t 21), none, []⟩] [1, 2, 3, 22])
  (.cond (.t 22)
   (.seq (.region none [⟨some 0, .mov (.c (.bool false)), none, []⟩] [0])
   (.ret))
   (.skip)))
  (.seq (.seq (.region none [⟨some 23, .mov (.t 2), none, []⟩,
    ⟨some 24, .mkif 0 (.t 23), none, []⟩,
    ⟨some 25, .load true 4 (.t 3), none, []⟩,
    ⟨some 26, .call 49 [(.t 24), (.t 25), (.c (.int .i64 1)), (.c (.int .i64 3)), (.c (.int .i64 4)), (.c (.int .i64 9))], none, []⟩,
    ⟨some 27, .un .not (.t 26), none, []⟩] [1, 2, 3, 27])
  (.cond (.t 27)
   (.seq (.region none [⟨some 0, .mov (.c (.bool false)), none, []⟩] [0])
   (.ret))
   (.skip)))
  (.seq (.seq (.region none [⟨some 4, .mov (.c (.int .i64 0)), none, []⟩] [1, 2, 3, 4])
  (.block 0 (.loop F50l0)))
  (.seq (.region none [⟨some 43, .mov (.t 2), none, []⟩,
    ⟨some 44, .mkif 0 (.t 43), none, []⟩,
    ⟨some 45, .load true 16 (.t 1), none, []⟩,
    ⟨some 46, .load true 4 (.t 3), none, []⟩,
    ⟨some 47, .call 52 [(.t 44), (.t 45), (.t 46)], none, []⟩,
    ⟨some 42, .mov (.t 47), none, []⟩,
    ⟨some 48, .extract (.t 42) 0, none, []⟩,
    ⟨some 49, .extract (.t 42) 1, none, []⟩,
    ⟨some 50, .extract (.t 42) 2, none, []⟩,
    ⟨some 9, .alloc [(.lit (.int .i64 0)), (.lit (.int .i64 0)), (.lit (.int .i64 0)), (.lit (.int .i64 0))], none, []⟩,
    ⟨some 8, .mov (.t 48), none, []⟩,
    ⟨none, .store 4 (.t 9) (.t 49), none, []⟩,
    ⟨some 10, .mov (.t 50), none, []⟩] [2, 8])
  (.seq (.region none [⟨some 51, .mov (.t 8), none, []⟩,
    ⟨some 52, .mov (.t 51), none, []⟩,
    ⟨some 53, .mov (.t 2), some (52, true), []⟩,
    ⟨some 54, .call 51 [(.t 53), (.c (.int .i64 16))], some (52, true), []⟩,
    ⟨some 55, .bin .eql (.t 54) (.c (.int .i64 (-3))), some (52, true), []⟩,
    ⟨some 56, .pick (.t 52) (.t 55) (.c (.bool false)), none, []⟩,
    ⟨some 57, .mov (.t 56), none, []⟩,
    ⟨some 58, .mov (.t 2), some (57, true), []⟩,
    ⟨some 59, .call 51 [(.t 58), (.c (.int .i64 7))], some (57, true), []⟩,
    ⟨some 60, .bin .eql (.t 59) (.c (.int .i64 1)), some (57, true), []⟩,
    ⟨some 61, .pick (.t 57) (.t 60) (.c (.bool false)), none, []⟩,
    ⟨some 62, .mov (.t 61), none, []⟩,
    ⟨some 63, .mov (.t 2), some (62, true), []⟩,
    ⟨some 64, .call 51 [(.t 63), (.c (.int .i64 8))], some (62, true), []⟩,
    ⟨some 65, .bin .eql (.t 64) (.c (.int .i64 5)), some (62, true), []⟩,
    ⟨some 66, .pick (.t 62) (.t 65) (.c (.bool false)), none, []⟩,
    ⟨some 0, .mov (.t 66), none, []⟩] [0])
  (.ret))))))))), false, false, false⟩
/-- (*arenanet/cellmem.Mem).Get -/
def F51 : PFun := ⟨2, [.tmp 4],
  .seq (.region none [⟨some 4, .mov (.c (.int .i64 0)), none, []⟩] [0, 1])
  (.seq (.seq (.region none [⟨some 5, .mov (.t 0), none, []⟩,
    ⟨some 6, .mov (.t 1), none, []⟩,
    ⟨some 7, .call 62 [(.t 5), (.t 6)], none, []⟩,
    ⟨some 8, .un .not (.t 7), none, []⟩] [0, 1, 8])
  (.cond (.t 8)
   (.seq (.region none [⟨some 4, .mov (.c (.int .i64 0)), none, []⟩] [4])
   (.ret))
   (.skip)))
  (.seq (.region none [⟨some 9, .mov (.t 0), none, []⟩,
    ⟨some 10, .nilchk (.t 9), none, []⟩,
    ⟨some 11, .fieldAddr 0 (.t 10), none, []⟩,
    ⟨some 12, .load false 1 (.t 11), none, []⟩,
    ⟨some 13, .mov (.t 1), none, []⟩,
    ⟨some 14, .indexAddr 1 (.t 12) (.t 13), none, []⟩,
    ⟨some 15, .load false 1 (.t 14), none, []⟩,
    ⟨some 4, .mov (.t 15), none, []⟩] [4])
  (.ret))), false, false, false⟩
/-- arenanet/vm.Step -/
def F52 : PFun := ⟨3, [.tmp 6, .cell 7 true 4, .tmp 8],
  .seq (.region none [⟨some 4, .box (.t 1), none, []⟩,
    ⟨some 5, .box (.t 2), none, []⟩,
    ⟨some 6, .mov (.c (.bool false)), none, []⟩,
    ⟨some 7, .alloc [(.lit (.int .i64 0)), (.lit (.int .i64 0)), (.lit (.int .i64 0)), (.lit (.int .i64 0))], none, []⟩,
    ⟨some 8, .mov (.c (.bool false)), none, []⟩] [0, 4, 5, 7])
  (.seq (.seq (.region none [⟨some 18, .mov (.t 0), none, []⟩,
    ⟨some 19, .isnil false false (.t 18), none, []⟩] [0, 4, 5, 7, 19])
  (.cond (.t 19)
   (.seq (.region none [⟨some 20, .build [(.lit (.int .i64 0)), (.lit (.int .i64 0)), (.lit (.int .i64 0)), (.lit (.int .i64 0))] [], none, []⟩,
     ⟨some 6, .mov (.c (.bool true)), none, []⟩,
     ⟨none, .store 4 (.t 7) (.t 20), none, []⟩,
     ⟨some 8, .mov (.c (.bool false)), none, []⟩] [6, 7, 8])
   (.ret))
   (.skip)))
  (.seq (.region none [⟨some 21, .mov (.t 0), none, []⟩,
    ⟨some 22, .invoke [(0, 51)] (.t 21) [(.c (.int .i64 6))], none, []⟩,
    ⟨some 23, .mov (.t 0), none, []⟩,
    ⟨some 24, .invoke [(0, 51)] (.t 23) [(.c (.int .i64 7))], none, []⟩,
    ⟨some 25, .mov (.t 0), none, []⟩,
    ⟨some 26, .invoke [(0, 51)] (.t 25) [(.c (.int .i64 8))], none, []⟩,
    ⟨some 9, .mov (.t 22), none, []⟩,
    ⟨some 10, .mov (.t 24), none, []⟩,
    ⟨some 11, .mov (.t 26), none, []⟩] [0, 4, 5, 7, 9, 10, 11])
  (.seq (.seq (.region none [⟨some 27, .mov (.t 11), none, []⟩,
    ⟨some 28, .bin .lss (.t 27) (.c (.int .i64 1)), none, []⟩,
    ⟨some 29, .mov (.t 28), none, []⟩,
    ⟨some 30, .mov (.t 9), some (29, false), []⟩,
    ⟨some 31, .bin .lss (.t 30) (.c (.int .i64 0)), some (29, false), []⟩,
    ⟨some 32, .pick (.t 29) (.c (.bool true)) (.t 31), none, []⟩,
    ⟨some 33, .mov (.t 32), none, []⟩,
    ⟨some 34, .mov (.t 9), some (33, false), []⟩,
    ⟨some 35, .fieldAddr 0 (.t 5), some (33, false), []⟩,
    ⟨some 36, .load false 1 (.t 35), some (33, false), []⟩,
    ⟨some 37, .len .sl (.t 36), some (33, false), []⟩,
    ⟨some 38, .bin .geq (.t 34) (.t 37), some (33, false), []⟩,
    ⟨some 39, .pick (.t 33) (.c (.bool true)) (.t 38), none, []⟩,
    ⟨some 40, .mov (.t 39), none, []⟩,
    ⟨some 41, .fieldAddr 0 (.t 5), some (40, false), []⟩,
    ⟨some 42, .load false 1 (.t 41), some (40, false), []⟩,
    ⟨some 43, .mov (.t 9), some (40, false), []⟩,
    ⟨some 44, .indexAddr 2 (.t 42) (.t 43), some (40, false), []⟩,
    ⟨some 45, .load true 2 (.t 44), some (40, false), []⟩,
    ⟨some 46, .mov (.t 10), some (40, false), []⟩,
    ⟨some 47, .call 63 [(.t 45), (.t 46)], some (40, false), []⟩,
    ⟨some 48, .un .not (.t 47), some (40, false), []⟩,
    ⟨some 49, .pick (.t 40) (.c (.bool true)) (.t 48), none, []⟩] [0, 4, 5, 7, 9, 10, 11, 49])
  (.cond (.t 49)
   (.seq (.region none [⟨some 50, .build [(.lit (.int .i64 0)), (.lit (.int .i64 0)), (.lit (.int .i64 0)), (.lit (.int .i64 0))] [], none, []⟩,
     ⟨some 6, .mov (.c (.bool true)), none, []⟩,
     ⟨none, .store 4 (.t 7) (.t 50), none, []⟩,
     ⟨some 8, .mov (.c (.bool false)), none, []⟩] [6, 7, 8])
   (.ret))
   (.skip)))
  (.seq (.region none [⟨some 51, .fieldAddr 0 (.t 5), none, []⟩,
    ⟨some 52, .load false 1 (.t 51), none, []⟩,
    ⟨some 53, .mov (.t 9), none, []⟩,
    ⟨some 54, .indexAddr 2 (.t 52) (.t 53), none, []⟩,
    ⟨some 55, .load true 2 (.t 54), none, []⟩,
    ⟨some 12, .alloc [(.lit (.int .i64 0)), (.lit (.int .i64 0))], none, []⟩,
    ⟨none, .store 2 (.t 12) (.t 55), none, []⟩] [0, 4, 7, 9, 10, 11, 12])
  (.seq (.region (some []) [⟨some 56, .fieldAddr 0 (.t 12), none, []⟩,
    ⟨some 57, .load false 1 (.t 56), none, []⟩,
    ⟨some 58, .indexAddrA 22 3 (.g G_arenanet_vm_effects) (.t 57), none, []⟩,
    ⟨some 59, .fieldAddr 0 (.t 58), none, []⟩,
    ⟨some 60, .load false 1 (.t 59), none, []⟩,
    ⟨some 61, .fieldAddr 0 (.t 12), none, []⟩,
    ⟨some 62, .load false 1 (.t 61), none, []⟩,
    ⟨some 63, .indexAddrA 22 3 (.g G_arenanet_vm_effects) (.t 62), none, []⟩,
    ⟨some 64, .fieldAddr 1 (.t 63), none, []⟩,
    ⟨some 65, .load false 1 (.t 64), none, []⟩,
    ⟨some 13, .mov (.t 60), none, []⟩,
    ⟨some 14, .mov (.t 65), none, []⟩] [0, 4, 7, 9, 10, 11, 12, 13, 14])
  (.seq (.region none [⟨some 66, .fieldAddr 1 (.t 12), none, []⟩,
    ⟨some 67, .load false 1 (.t 66), none, []⟩,
    ⟨some 68, .build [(.lit (.int .i64 0)), (.lit (.int .i64 0)), (.lit (.int .i64 0))] [(0, 1, (.t 67))], none, []⟩,
    ⟨some 15, .alloc [(.lit (.int .i64 0)), (.lit (.int .i64 0)), (.lit (.int .i64 0))], none, []⟩,
    ⟨none, .store 3 (.t 15) (.t 68), none, []⟩] [0, 4, 7, 9, 10, 11, 12, 13, 14, 15])
  (.seq (.seq (.region none [⟨some 69, .mov (.t 10), none, []⟩,
    ⟨some 70, .bin .add (.c (.int .i64 16)) (.t 69), none, []⟩,
    ⟨some 71, .mov (.t 13), none, []⟩,
    ⟨some 72, .bin .sub (.t 70) (.t 71), none, []⟩,
    ⟨some 16, .mov (.t 72), none, []⟩] [0, 4, 7, 9, 10, 11, 12, 13, 14, 15, 16])
  (.seq (.region none [⟨some 73, .mov (.t 13), none, []⟩] [0, 4, 7, 9, 10, 11, 12, 13, 14, 15, 16, 73])
  (.block 0 (.seq (.block 2 (.seq (.block 1 (.seq (.seq (.seq (.region none [⟨some 75, .bin .eql (.t 73) (.c (.int .i64 2)), none, []⟩,
    ⟨some 74, .mov (.t 75), none, []⟩] [0, 4, 7, 9, 10, 11, 12, 13, 14, 15, 16, 73, 74])
  (.cond (.t 74)
   (.exit 1)
   (.skip)))
  (.seq (.region none [⟨some 77, .bin .eql (.t 73) (.c (.int .i64 1)), none, []⟩,
    ⟨some 76, .mov (.t 77), none, []⟩] [0, 4, 7, 9, 10, 11, 12, 13, 14, 15, 16, 76])
  (.cond (.t 76)
   (.exit 2)
   (.skip))))
  (.exit 0)))
  (.region none [⟨some 78, .mov (.t 0), none, []⟩,
    ⟨some 79, .mov (.t 16), none, []⟩,
    ⟨some 80, .bin .add (.t 79) (.c (.int .i64 1)), none, []⟩,
    ⟨some 81, .invoke [(0, 51)] (.t 78) [(.t 80)], none, []⟩,
    ⟨some 82, .fieldAddr 2 (.t 15), none, []⟩,
    ⟨none, .store 1 (.t 82) (.t 81), none, []⟩] [0, 4, 7, 9, 10, 11, 12, 13, 14, 15, 16])))
  (.seq (.region none [⟨some 83, .mov (.t 0), none, []⟩,
    ⟨some 84, .mov (.t 16), none, []⟩,
    ⟨some 85, .invoke [(0, 51)] (.t 83) [(.t 84)], none, []⟩,
    ⟨some 86, .fieldAddr 1 (.t 15), none, []⟩,
    ⟨none, .store 1 (.t 86) (.t 85), none, []⟩] [0, 4, 7, 9, 10, 11, 12, 13, 14, 15])
  (.exit 0))))))
  (.seq (.region none [⟨some 87, .mov (.t 0), none, []⟩,
    ⟨some 88, .mov (.t 11), none, []⟩,
    ⟨some 89, .bin .sub (.t 88) (.c (.int .i64 1)), none, []⟩,
    ⟨some 90, .invoke [(0, 114)] (.t 87) [(.c (.int .i64 8)), (.t 89)], none, []⟩] [0, 4, 7, 9, 10, 12, 13, 14, 15])
  (.seq (.region none [⟨some 91, .mov (.t 0), none, []⟩,
    ⟨some 92, .mov (.t 9), none, []⟩,
    ⟨some 93, .bin .add (.t 92) (.c (.int .i64 1)), none, []⟩,
    ⟨some 94, .invoke [(0, 114)] (.t 91) [(.c (.int .i64 6)), (.t 93)], none, []⟩] [0, 4, 7, 10, 12, 13, 14, 15])
  (.seq (.seq (.region none [⟨some 95, .mov (.t 13), none, []⟩,
    ⟨some 96, .mov (.t 14), none, []⟩,
    ⟨some 97, .bin .neq (.t 95) (.t 96), none, []⟩] [0, 4, 7, 10, 12, 13, 14, 15, 97])
  (.cond (.t 97)
   (.region none [⟨some 98, .mov (.t 0), none, []⟩,
     ⟨some 99, .mov (.t 10), none, []⟩,
     ⟨some 100, .mov (.t 13), none, []⟩,
     ⟨some 101, .bin .sub (.t 99) (.t 100), none, []⟩,
     ⟨some 102, .mov (.t 14), none, []⟩,
     ⟨some 103, .bin .add (.t 101) (.t 102), none, []⟩,
     ⟨some 104, .invoke [(0, 114)] (.t 98) [(.c (.int .i64 7)), (.t 103)], none, []⟩] [0, 4, 7, 10, 12, 13, 14, 15])
   (.skip)))
  (.seq (.region none [⟨some 106, .fieldAddr 0 (.t 12), none, []⟩,
    ⟨some 107, .load false 1 (.t 106), none, []⟩,
    ⟨some 108, .mov (.t 0), none, []⟩,
    ⟨some 109, .load true 16 (.t 4), none, []⟩,
    ⟨some 110, .load true 3 (.t 15), none, []⟩,
    ⟨some 111, .call 64 [(.t 107), (.t 108), (.t 109), (.t 110)], none, []⟩,
    ⟨some 105, .mov (.t 111), none, []⟩,
    ⟨some 112, .extract (.t 105) 0, none, []⟩,
    ⟨some 113, .extract (.t 105) 1, none, []⟩,
    ⟨some 114, .extract (.t 105) 2, none, []⟩,
    ⟨some 17, .mov (.t 112), none, []⟩,
    ⟨none, .store 4 (.t 7) (.t 113), none, []⟩,
    ⟨some 8, .mov (.t 114), none, []⟩] [0, 7, 8, 10, 12, 13, 14, 17])
  (.seq (.seq (.region none [⟨some 115, .mov (.t 14), none, []⟩,
    ⟨some 116, .bin .gtr (.t 115) (.c (.int .i64 0)), none, []⟩] [0, 7, 8, 10, 12, 13, 17, 116])
  (.cond (.t 116)
   (.region none [⟨some 117, .mov (.t 0), none, []⟩,
     ⟨some 118, .mov (.t 10), none, []⟩,
     ⟨some 119, .bin .add (.c (.int .i64 16)) (.t 118), none, []⟩,
     ⟨some 120, .mov (.t 13), none, []⟩,
     ⟨some 121, .bin .sub (.t 119) (.t 120), none, []⟩,
     ⟨some 122, .mov (.t 17), none, []⟩,
     ⟨some 123, .invoke [(0, 114)] (.t 117) [(.t 121), (.t 122)], none, []⟩] [7, 8, 12])
   (.skip)))
  (.seq (.region (some []) [⟨some 124, .fieldAddr 0 (.t 12), none, []⟩,
    ⟨some 125, .load false 1 (.t 124), none, []⟩,
    ⟨some 126, .bin .eql (.t 125) (.c (.int .i64 21)), none, []⟩,
    ⟨some 127, .load true 4 (.t 7), none, []⟩,
    ⟨some 128, .mov (.t 8), none, []⟩,
    ⟨some 6, .mov (.t 126), none, []⟩,
    ⟨none, .store 4 (.t 7) (.t 127), none, []⟩,
    ⟨some 8, .mov (.t 128), none, []⟩] [6, 7, 8])
  (.ret)))))))))))))), false, false, false⟩
/-- arenanet/arenanetref01.Bound -/
def F53 : PFun := ⟨2, [.tmp 4],
  .seq (.region none [⟨some 4, .mov (.c (.int .i64 0)), none, []⟩] [0, 1])
  (.seq (.region none [⟨some 5, .mov (.t 0), none, []⟩,
    ⟨some 6, .mov (.t 1), none, []⟩,
    ⟨some 7, .bin .mul (.c (.int .i64 2)) (.t 6), none, []⟩,
    ⟨some 8, .bin .add (.t 7) (.c (.int .i64 1)), none, []⟩,
    ⟨some 9, .call 17 [(.t 5), (.t 8)], none, []⟩,
    ⟨some 10, .mov (.t 1), none, []⟩,
    ⟨some 11, .bin .sub (.t 9) (.t 10), none, []⟩,
    ⟨some 4, .mov (.t 11), none, []⟩] [4])
  (.ret)), false, false, false⟩
def F54l0 : PC := (.seq (.seq (.region none [⟨some 37, .mov (.t 10), none, []⟩,
     ⟨some 38, .fieldAddr 0 (.t 8), none, []⟩,
     ⟨some 39, .load false 1 (.t 38), none, []⟩,
     ⟨some 40, .len .sl (.t 39), none, []⟩,
     ⟨some 41, .bin .lss (.t 37) (.t 40), none, []⟩] [7, 8, 9, 10, 41])
   (.cond (.t 41)
    (.skip)
    (.exit 0)))
   (.seq (.block 1 (.region none [⟨some 44, .mov (.t 9), none, []⟩,
     ⟨some 45, .mkif 0 (.t 44), none, []⟩,
     ⟨some 46, .load true 16 (.t 7), none, []⟩,
     ⟨some 47, .load true 4 (.t 8), none, []⟩,
     ⟨some 48, .call 52 [(.t 45), (.t 46), (.t 47)], none, []⟩] [7, 8, 9, 10]))
   (.region none [⟨some 42, .mov (.t 10), none, []⟩,
     ⟨some 43, .bin .add (.t 42) (.c (.int .i64 1)), none, []⟩,
     ⟨some 10, .mov (.t 43), none, []⟩] [7, 8, 9, 10])))
theorem run_F54l0 (C : Task → Option Res) (k : Nat) (fr : Fr) (σ : S) : run C k F54l0 fr σ = run C k (.seq (.seq (.region none [⟨some 37, .mov (.t 10), none, []⟩,
     ⟨some 38, .fieldAddr 0 (.t 8), none, []⟩,
     ⟨some 39, .load false 1 (.t 38), none, []⟩,
     ⟨some 40, .len .sl (.t 39), none, []⟩,
     ⟨some 41, .bin .lss (.t 37) (.t 40), none, []⟩] [7, 8, 9, 10, 41])
   (.cond (.t 41)
    (.skip)
    (.exit 0)))
   (.seq (.block 1 (.region none [⟨some 44, .mov (.t 9), none, []⟩,
     ⟨some 45, .mkif 0 (.t 44), none, []⟩,
     ⟨some 46, .load true 16 (.t 7), none, []⟩,
     ⟨some 47, .load true 4 (.t 8), none, []⟩,
     ⟨some 48, .call 52 [(.t 45), (.t 46), (.t 47)], none, []⟩] [7, 8, 9, 10]))
   (.region none [⟨some 42, .mov (.t 10), none, []⟩,
     ⟨some 43, .bin .add (.t 42) (.c (.int .i64 1)), none, []⟩,
     ⟨some 10, .mov (.t 43), none, []⟩] [7, 8, 9, 10]))) fr σ := rfl
/-- arenanet/arenanetlaw16.result -/
def F54 : PFun := ⟨3, [.tmp 6],
  .seq (.region none [⟨some 6, .mov (.c (.int .i64 0)), none, []⟩] [0, 1, 2])
  (.seq (.region none [⟨some 11, .call 45 [(.c (.slice none 0 0))], none, []⟩,
    ⟨some 7, .alloc [(.lit (.int .i64 0)), (.lit (.slice none 0 0)), (.lit (.int .i64 0)), (.lit (.int .i64 0)), (.lit (.int .i64 0)), (.lit (.int .i64 0)), (.lit (.slice none 0 0)), (.lit (.slice none 0 0)), (.lit (.int .i64 0)), (.lit (.int .i64 0)), (.lit (.int .i64 0)), (.lit (.int .i64 0)), (.lit (.int .i64 0)), (.lit (.int .i64 0)), (.lit (.int .i64 0)), (.lit (.int .i64 0))], none, []⟩,
    ⟨none, .store 16 (.t 7) (.t 11), none, []⟩] [0, 1, 2, 7])
  (.seq (.region none [⟨some 12, .mov (.t 1), none, []⟩,
    ⟨some 13, .build [(.lit (.int .i64 0)), (.lit (.int .i64 0))] [(0, 1, (.c (.int .i64 1))), (1, 1, (.t 12))], none, []⟩,
    ⟨some 14, .mov (.t 2), none, []⟩,
    ⟨some 15, .build [(.lit (.int .i64 0)), (.lit (.int .i64 0))] [(0, 1, (.c (.int .i64 1))), (1, 1, (.t 14))], none, []⟩,
    ⟨some 16, .mov (.t 0), none, []⟩,
    ⟨some 17, .build [(.lit (.int .i64 0)), (.lit (.int .i64 0))] [(0, 1, (.t 16))], none, []⟩,
    ⟨some 18, .bslice 3 [(.lit (.int .i64 0)), (.lit (.int .i64 0)), (.lit (.int .i64 0)), (.lit (.int .i64 0)), (.lit (.int .i64 0)), (.lit (.int .i64 0))] [(0, 2, (.t 13)), (2, 2, (.t 15)), (4, 2, (.t 17))], none, []⟩,
    ⟨some 19, .build [(.lit (.slice none 0 0)), (.lit (.int .i64 0)), (.lit (.int .i64 0)), (.lit (.int .i64 0))] [(0, 1, (.t 18))], none, []⟩,
    ⟨some 8, .alloc [(.lit (.slice none 0 0)), (.lit (.int .i64 0)), (.lit (.int .i64 0)), (.lit (.int .i64 0))], none, []⟩,
    ⟨none, .store 4 (.t 8) (.t 19), none, []⟩] [0, 1, 7, 8])
  (.seq (.seq (.region none [⟨some 20, .mov (.t 0), none, []⟩,
    ⟨some 21, .bin .eql (.t 20) (.c (.int .i64 13)), none, []⟩] [0, 1, 7, 8, 21])
  (.cond (.t 21)
   (.region none [⟨some 22, .mov (.t 1), none, []⟩,
     ⟨some 23, .build [(.lit (.int .i64 0)), (.lit (.int .i64 0))] [(0, 1, (.c (.int .i64 1))), (1, 1, (.t 22))], none, []⟩,
     ⟨some 24, .mov (.t 0), none, []⟩,
     ⟨some 25, .build [(.lit (.int .i64 0)), (.lit (.int .i64 0))] [(0, 1, (.t 24))], none, []⟩,
     ⟨some 26, .bslice 2 [(.lit (.int .i64 0)), (.lit (.int .i64 0)), (.lit (.int .i64 0)), (.lit (.int .i64 0))] [(0, 2, (.t 23)), (2, 2, (.t 25))], none, []⟩,
     ⟨some 27, .fieldAddr 0 (.t 8), none, []⟩,
     ⟨none, .store 1 (.t 27) (.t 26), none, []⟩] [7, 8])
   (.skip)))
  (.seq (.region none [⟨some 28, .load true 16 (.t 7), none, []⟩,
    ⟨some 29, .call 55 [(.t 28)], none, []⟩,
    ⟨some 30, .call 46 [(.t 29)], none, []⟩,
    ⟨some 9, .mov (.t 30), none, []⟩] [7, 8, 9])
  (.seq (.seq (.region none [⟨some 31, .mov (.t 9), none, []⟩,
    ⟨some 32, .isnil true false (.t 31), none, []⟩] [7, 8, 9, 32])
  (.cond (.t 32)
   (.seq (.region none [⟨some 6, .mov (.c (.int .i64 0)), none, []⟩] [6])
   (.ret))
   (.skip)))
  (.seq (.region none [⟨some 33, .mov (.t 9), none, []⟩,
    ⟨some 34, .mkif 0 (.t 33), none, []⟩,
    ⟨some 35, .load true 4 (.t 8), none, []⟩,
    ⟨some 36, .call 49 [(.t 34), (.t 35), (.c (.int .i64 0)), (.c (.int .i64 0)), (.c (.int .i64 0)), (.c (.int .i64 9))], none, []⟩] [7, 8, 9])
  (.seq (.seq (.region none [⟨some 10, .mov (.c (.int .i64 0)), none, []⟩] [7, 8, 9, 10])
  (.block 0 (.loop F54l0)))
  (.seq (.region none [⟨some 49, .mov (.t 9), none, []⟩,
    ⟨some 50, .call 51 [(.t 49), (.c (.int .i64 16))], none, []⟩,
    ⟨some 6, .mov (.t 50), none, []⟩] [6])
  (.ret))))))))), false, false, false⟩
def F55l0 : PC := (.seq (.seq (.region none [⟨some 10, .mov (.t 4), none, []⟩,
     ⟨some 11, .fieldAddr 1 (.t 1), none, []⟩,
     ⟨some 12, .load false 1 (.t 11), none, []⟩,
     ⟨some 13, .len .sl (.t 12), none, []⟩,
     ⟨some 14, .bin .lss (.t 10) (.t 13), none, []⟩] [1, 3, 4, 14])
   (.cond (.t 14)
    (.skip)
    (.exit 0)))
   (.seq (.block 1 (.seq (.region none [⟨some 17, .load true 16 (.t 1), none, []⟩,
     ⟨some 18, .mov (.t 4), none, []⟩,
     ⟨some 19, .call 66 [(.t 17), (.t 18)], none, []⟩,
     ⟨some 5, .mov (.t 19), none, []⟩] [1, 3, 4, 5])
   (.seq (.region none [⟨some 20, .fieldAddr 1 (.t 1), none, []⟩,
     ⟨some 21, .load false 1 (.t 20), none, []⟩,
     ⟨some 22, .mov (.t 4), none, []⟩,
     ⟨some 23, .indexAddr 9 (.t 21) (.t 22), none, []⟩,
     ⟨some 24, .load true 9 (.t 23), none, []⟩,
     ⟨some 6, .alloc [(.lit (.int .i64 0)), (.lit (.slice none 0 0)), (.lit (.int .i64 0)), (.lit (.int .i64 0)), (.lit (.int .i64 0)), (.lit (.int .i64 0)), (.lit (.int .i64 0)), (.lit (.int .i64 0)), (.lit (.int .i64 0))], none, []⟩,
     ⟨none, .store 9 (.t 6) (.t 24), none, []⟩] [1, 3, 4, 5, 6])
   (.seq (.region none [⟨some 25, .mov (.t 3), none, []⟩,
     ⟨some 26, .mov (.t 5), none, []⟩,
     ⟨some 27, .fieldAddr 2 (.t 6), none, []⟩,
     ⟨some 28, .fieldAddr 0 (.t 27), none, []⟩,
     ⟨some 29, .fieldAddr 0 (.t 28), none, []⟩,
     ⟨some 30, .load false 1 (.t 29), none, []⟩,
     ⟨some 31, .indexAddr 1 (.t 25) (.t 26), none, []⟩,
     ⟨none, .store 1 (.t 31) (.t 30), none, []⟩] [1, 3, 4, 5, 6])
   (.seq (.region none [⟨some 32, .mov (.t 3), none, []⟩,
     ⟨some 33, .mov (.t 5), none, []⟩,
     ⟨some 34, .bin .add (.t 33) (.c (.int .i64 1)), none, []⟩,
     ⟨some 35, .fieldAddr 2 (.t 6), none, []⟩,
     ⟨some 36, .fieldAddr 0 (.t 35), none, []⟩,
     ⟨some 37, .fieldAddr 1 (.t 36), none, []⟩,
     ⟨some 38, .load false 1 (.t 37), none, []⟩,
     ⟨some 39, .indexAddr 1 (.t 32) (.t 34), none, []⟩,
     ⟨none, .store 1 (.t 39) (.t 38), none, []⟩] [1, 3, 4, 5, 6])
   (.seq (.region none [⟨some 40, .mov (.t 3), none, []⟩,
     ⟨some 41, .mov (.t 5), none, []⟩,
     ⟨some 42, .bin .add (.t 41) (.c (.int .i64 2)), none, []⟩,
     ⟨some 43, .fieldAddr 2 (.t 6), none, []⟩,
     ⟨some 44, .fieldAddr 2 (.t 43), none, []⟩,
     ⟨some 45, .fieldAddr 0 (.t 44), none, []⟩,
     ⟨some 46, .load false 1 (.t 45), none, []⟩,
     ⟨some 47, .indexAddr 1 (.t 40) (.t 42), none, []⟩,
     ⟨none, .store 1 (.t 47) (.t 46), none, []⟩] [1, 3, 4, 5, 6])
   (.seq (.region none [⟨some 48, .mov (.t 3), none, []⟩,
     ⟨some 49, .mov (.t 5), none, []⟩,
     ⟨some 50, .bin .add (.t 49) (.c (.int .i64 3)), none, []⟩,
     ⟨some 51, .fieldAddr 2 (.t 6), none, []⟩,
     ⟨some 52, .fieldAddr 2 (.t 51), none, []⟩,
     ⟨some 53, .fieldAddr 1 (.t 52), none, []⟩,
     ⟨some 54, .load false 1 (.t 53), none, []⟩,
     ⟨some 55, .indexAddr 1 (.t 48) (.t 50), none, []⟩,
     ⟨none, .store 1 (.t 55) (.t 54), none, []⟩] [1, 3, 4, 5, 6])
   (.seq (.region none [⟨some 56, .mov (.t 3), none, []⟩,
     ⟨some 57, .mov (.t 5), none, []⟩,
     ⟨some 58, .bin .add (.t 57) (.c (.int .i64 4)), none, []⟩,
     ⟨some 59, .fieldAddr 7 (.t 6), none, []⟩,
     ⟨some 60, .load false 1 (.t 59), none, []⟩,
     ⟨some 61, .indexAddr 1 (.t 56) (.t 58), none, []⟩,
     ⟨none, .store 1 (.t 61) (.t 60), none, []⟩] [1, 3, 4, 5, 6])
   (.region none [⟨some 62, .mov (.t 3), none, []⟩,
     ⟨some 63, .mov (.t 5), none, []⟩,
     ⟨some 64, .bin .add (.t 63) (.c (.int .i64 5)), none, []⟩,
     ⟨some 65, .fieldAddr 8 (.t 6), none, []⟩,
     ⟨some 66, .load false 1 (.t 65), none, []⟩,
     ⟨some 67, .indexAddr 1 (.t 62) (.t 64), none, []⟩,
     ⟨none, .store 1 (.t 67) (.t 66), none, []⟩] [1, 3, 4])))))))))
   (.region none [⟨some 15, .mov (.t 4), none, []⟩,
     ⟨some 16, .bin .add (.t 15) (.c (.int .i64 1)), none, []⟩,
     ⟨some 4, .mov (.t 16), none, []⟩] [1, 3, 4])))
theorem run_F55l0 (C : Task → Option Res) (k : Nat) (fr : Fr) (σ : S) : run C k F55l0 fr σ = run C k (.seq (.seq (.region none [⟨some 10, .mov (.t 4), none, []⟩,
     ⟨some 11, .fieldAddr 1 (.t 1), none, []⟩,
     ⟨some 12, .load false 1 (.t 11), none, []⟩,
     ⟨some 13, .len .sl (.t 12), none, []⟩,
     ⟨some 14, .bin .lss (.t 10) (.t 13), none, []⟩] [1, 3, 4, 14])
   (.cond (.t 14)
    (.skip)
    (.exit 0)))
   (.seq (.block 1 (.seq (.region none [⟨some 17, .load true 16 (.t 1), none, []⟩,
     ⟨some 18, .mov (.t 4), none, []⟩,
     ⟨some 19, .call 66 [(.t 17), (.t 18)], none, []⟩,
     ⟨some 5, .mov (.t 19), none, []⟩] [1, 3, 4, 5])
   (.seq (.region none [⟨some 20, .fieldAddr 1 (.t 1), none, []⟩,
     ⟨some 21, .load false 1 (.t 20), none, []⟩,
     ⟨some 22, .mov (.t 4), none, []⟩,
     ⟨some 23, .indexAddr 9 (.t 21) (.t 22), none, []⟩,
     ⟨some 24, .load true 9 (.t 23), none, []⟩,
     ⟨some 6, .alloc [(.lit (.int .i64 0)), (.lit (.slice none 0 0)), (.lit (.int .i64 0)), (.lit (.int .i64 0)), (.lit (.int .i64 0)), (.lit (.int .i64 0)), (.lit (.int .i64 0)), (.lit (.int .i64 0)), (.lit (.int .i64 0))], none, []⟩,
     ⟨none, .store 9 (.t 6) (.t 24), none, []⟩] [1, 3, 4, 5, 6])
   (.seq (.region none [⟨some 25, .mov (.t 3), none, []⟩,
     ⟨some 26, .mov (.t 5), none, []⟩,
     ⟨some 27, .fieldAddr 2 (.t 6), none, []⟩,
     ⟨some 28, .fieldAddr 0 (.t 27), none, []⟩,
     ⟨some 29, .fieldAddr 0 (.t 28), none, []⟩,
     ⟨some 30, .load false 1 (.t 29), none, []⟩,
     ⟨some 31, .indexAddr 1 (.t 25) (.t 26), none, []⟩,
     ⟨none, .store 1 (.t 31) (.t 30), none, []⟩] [1, 3, 4, 5, 6])
   (.seq (.region none [⟨some 32, .mov (.t 3), none, []⟩,
     ⟨some 33, .mov (.t 5), none, []⟩,
     ⟨some 34, .bin .add (.t 33) (.c (.int .i64 1)), none, []⟩,
     ⟨some 35, .fieldAddr 2 (.t 6), none, []⟩,
     ⟨some 36, .fieldAddr 0 (.t 35), none, []⟩,
     ⟨some 37, .fieldAddr 1 (.t 36), none, []⟩,
     ⟨some 38, .load false 1 (.t 37), none, []⟩,
     ⟨some 39, .indexAddr 1 (.t 32) (.t 34), none, []⟩,
     ⟨none, .store 1 (.t 39) (.t 38), none, []⟩] [1, 3, 4, 5, 6])
   (.seq (.region none [⟨some 40, .mov (.t 3), none, []⟩,
     ⟨some 41, .mov (.t 5), none, []⟩,
     ⟨some 42, .bin .add (.t 41) (.c (.int .i64 2)), none, []⟩,
     ⟨some 43, .fieldAddr 2 (.t 6), none, []⟩,
     ⟨some 44, .fieldAddr 2 (.t 43), none, []⟩,
     ⟨some 45, .fieldAddr 0 (.t 44), none, []⟩,
     ⟨some 46, .load false 1 (.t 45), none, []⟩,
     ⟨some 47, .indexAddr 1 (.t 40) (.t 42), none, []⟩,
     ⟨none, .store 1 (.t 47) (.t 46), none, []⟩] [1, 3, 4, 5, 6])
   (.seq (.region none [⟨some 48, .mov (.t 3), none, []⟩,
     ⟨some 49, .mov (.t 5), none, []⟩,
     ⟨some 50, .bin .add (.t 49) (.c (.int .i64 3)), none, []⟩,
     ⟨some 51, .fieldAddr 2 (.t 6), none, []⟩,
     ⟨some 52, .fieldAddr 2 (.t 51), none, []⟩,
     ⟨some 53, .fieldAddr 1 (.t 52), none, []⟩,
     ⟨some 54, .load false 1 (.t 53), none, []⟩,
     ⟨some 55, .indexAddr 1 (.t 48) (.t 50), none, []⟩,
     ⟨none, .store 1 (.t 55) (.t 54), none, []⟩] [1, 3, 4, 5, 6])
   (.seq (.region none [⟨some 56, .mov (.t 3), none, []⟩,
     ⟨some 57, .mov (.t 5), none, []⟩,
     ⟨some 58, .bin .add (.t 57) (.c (.int .i64 4)), none, []⟩,
     ⟨some 59, .fieldAddr 7 (.t 6), none, []⟩,
     ⟨some 60, .load false 1 (.t 59), none, []⟩,
     ⟨some 61, .indexAddr 1 (.t 56) (.t 58), none, []⟩,
     ⟨none, .store 1 (.t 61) (.t 60), none, []⟩] [1, 3, 4, 5, 6])
   (.region none [⟨some 62, .mov (.t 3), none, []⟩,
     ⟨some 63, .mov (.t 5), none, []⟩,
     ⟨some 64, .bin .add (.t 63) (.c (.int .i64 5)), none, []⟩,
     ⟨some 65, .fieldAddr 8 (.t 6), none, []⟩,
     ⟨some 66, .load false 1 (.t 65), none, []⟩,
     ⟨some 67, .indexAddr 1 (.t 62) (.t 64), none, []⟩,
     ⟨none, .store 1 (.t 67) (.t 66), none, []⟩] [1, 3, 4])))))))))
   (.region none [⟨some 15, .mov (.t 4), none, []⟩,
     ⟨some 16, .bin .add (.t 15) (.c (.int .i64 1)), none, []⟩,
     ⟨some 4, .mov (.t 16), none, []⟩] [1, 3, 4]))) fr σ := rfl
/-- arenanet/arenanetref12.Initial -/
def F55 : PFun := ⟨1, [.tmp 2],
  .seq (.region none [⟨some 1, .box (.t 0), none, []⟩,
    ⟨some 2, .mov (.c (.slice none 0 0)), none, []⟩] [1])
  (.seq (.region none [⟨some 7, .load true 16 (.t 1), none, []⟩,
    ⟨some 8, .call 65 [(.t 7)], none, []⟩,
    ⟨some 9, .mkslice false [(.lit (.int .i64 0))] 8 (.t 8) (.t 8), none, []⟩,
    ⟨some 3, .mov (.t 9), none, []⟩] [1, 3])
  (.seq (.seq (.region none [⟨some 4, .mov (.c (.int .i64 0)), none, []⟩] [1, 3, 4])
  (.block 0 (.loop F55l0)))
  (.seq (.region none [⟨some 68, .mov (.t 3), none, []⟩,
    ⟨some 2, .mov (.t 68), none, []⟩] [2])
  (.ret)))), false, false, false⟩
/-- arenanet/arenanetref16.Start -/
def F56 : PFun := ⟨6, [.tmp 12, .tmp 13],
  .seq (.region none [⟨some 7, .box (.t 1), none, []⟩,
    ⟨some 12, .mov (.c (.slice none 0 0)), none, []⟩,
    ⟨some 13, .mov (.c (.bool false)), none, []⟩] [0, 2, 3, 4, 5, 7])
  (.seq (.seq (.region none [⟨some 15, .mov (.t 2), none, []⟩,
    ⟨some 16, .bin .lss (.t 15) (.c (.int .i64 0)), none, []⟩,
    ⟨some 17, .mov (.t 16), none, []⟩,
    ⟨some 18, .mov (.t 2), some (17, false), []⟩,
    ⟨some 19, .bin .gtr (.t 18) (.c (.int .i64 2)), some (17, false), []⟩,
    ⟨some 20, .pick (.t 17) (.c (.bool true)) (.t 19), none, []⟩] [0, 2, 3, 4, 5, 7, 20])
  (.cond (.t 20)
   (.seq (.region none [⟨some 21, .mov (.t 0), none, []⟩,
     ⟨some 12, .mov (.t 21), none, []⟩,
     ⟨some 13, .mov (.c (.bool false)), none, []⟩] [12, 13])
   (.ret))
   (.skip)))
  (.seq (.seq (.region none [⟨some 22, .mov (.t 2), none, []⟩,
    ⟨some 23, .fieldAddr 1 (.t 7), none, []⟩,
    ⟨some 24, .indexAddrA 3 1 (.t 23) (.t 22), none, []⟩,
    ⟨some 25, .load false 1 (.t 24), none, []⟩,
    ⟨some 26, .bin .lss (.t 25) (.c (.int .i64 0)), none, []⟩] [0, 2, 3, 4, 5, 7, 26])
  (.cond (.t 26)
   (.seq (.region none [⟨some 27, .mov (.t 0), none, []⟩,
     ⟨some 12, .mov (.t 27), none, []⟩,
     ⟨some 13, .mov (.c (.bool false)), none, []⟩] [12, 13])
   (.ret))
   (.skip)))
  (.seq (.region none [⟨some 28, .bslice 0 [] [], none, []⟩,
    ⟨some 29, .mov (.t 0), none, []⟩,
    ⟨some 30, .appendO 1 8 (.t 28) (.t 29), none, []⟩,
    ⟨some 14, .mov (.t 30), none, []⟩] [2, 3, 4, 5, 7, 14])
  (.seq (.region none [⟨some 31, .mov (.t 14), none, []⟩,
    ⟨some 32, .mov (.t 2), none, []⟩,
    ⟨some 33, .fieldAddr 1 (.t 7), none, []⟩,
    ⟨some 34, .indexAddrA 3 1 (.t 33) (.t 32), none, []⟩,
    ⟨some 35, .load false 1 (.t 34), none, []⟩,
    ⟨some 36, .indexAddr 1 (.t 31) (.c (.int .i64 6)), none, []⟩,
    ⟨none, .store 1 (.t 36) (.t 35), none, []⟩] [3, 4, 5, 14])
  (.seq (.region none [⟨some 37, .mov (.t 14), none, []⟩,
    ⟨some 38, .indexAddr 1 (.t 37) (.c (.int .i64 7)), none, []⟩,
    ⟨none, .store 1 (.t 38) (.c (.int .i64 0)), none, []⟩] [3, 4, 5, 14])
  (.seq (.region none [⟨some 39, .mov (.t 14), none, []⟩,
    ⟨some 40, .mov (.t 5), none, []⟩,
    ⟨some 41, .indexAddr 1 (.t 39) (.c (.int .i64 8)), none, []⟩,
    ⟨none, .store 1 (.t 41) (.t 40), none, []⟩] [3, 4, 14])
  (.seq (.region none [⟨some 42, .mov (.t 14), none, []⟩,
    ⟨some 43, .mov (.t 3), none, []⟩,
    ⟨some 44, .indexAddr 1 (.t 42) (.c (.int .i64 9)), none, []⟩,
    ⟨none, .store 1 (.t 44) (.t 43), none, []⟩] [4, 14])
  (.seq (.region none [⟨some 45, .mov (.t 14), none, []⟩,
    ⟨some 46, .mov (.t 4), none, []⟩,
    ⟨some 47, .indexAddr 1 (.t 45) (.c (.int .i64 10)), none, []⟩,
    ⟨none, .store 1 (.t 47) (.t 46), none, []⟩] [14])
  (.seq (.region none [⟨some 48, .mov (.t 14), none, []⟩,
    ⟨some 12, .mov (.t 48), none, []⟩,
    ⟨some 13, .mov (.c (.bool true)), none, []⟩] [12, 13])
  (.ret)))))))))), false, false, false⟩
/-- arenanet/arenanetref16.Step -/
def F57 : PFun := ⟨3, [.tmp 6, .tmp 7, .cell 8 true 4, .tmp 9],
  .seq (.region none [⟨some 4, .box (.t 1), none, []⟩,
    ⟨some 5, .box (.t 2), none, []⟩,
    ⟨some 6, .mov (.c (.slice none 0 0)), none, []⟩,
    ⟨some 7, .mov (.c (.bool false)), none, []⟩,
    ⟨some 8, .alloc [(.lit (.int .i64 0)), (.lit (.int .i64 0)), (.lit (.int .i64 0)), (.lit (.int .i64 0))], none, []⟩,
    ⟨some 9, .mov (.c (.bool false)), none, []⟩] [0, 4, 5, 8])
  (.seq (.seq (.region none [⟨some 18, .mov (.t 0), none, []⟩,
    ⟨some 19, .load true 4 (.t 5), none, []⟩,
    ⟨some 20, .call 67 [(.t 18), (.t 19)], none, []⟩,
    ⟨some 21, .un .not (.t 20), none, []⟩] [0, 4, 5, 8, 21])
  (.cond (.t 21)
   (.seq (.region none [⟨some 22, .mov (.t 0), none, []⟩,
     ⟨some 23, .build [(.lit (.int .i64 0)), (.lit (.int .i64 0)), (.lit (.int .i64 0)), (.lit (.int .i64 0))] [], none, []⟩,
     ⟨some 6, .mov (.t 22), none, []⟩,
     ⟨some 7, .mov (.c (.bool true)), none, []⟩,
     ⟨none, .store 4 (.t 8) (.t 23), none, []⟩,
     ⟨some 9, .mov (.c (.bool false)), none, []⟩] [6, 7, 8, 9])
   (.ret))
   (.skip)))
  (.seq (.region (some [(216, [(.lit (.int .i64 0)), (.lit (.int .i64 0))])]) [⟨some 24, .fieldAddr 0 (.t 5), none, []⟩,
    ⟨some 25, .load false 1 (.t 24), none, []⟩,
    ⟨some 26, .mov (.t 0), none, []⟩,
    ⟨some 27, .indexAddr 1 (.t 26) (.c (.int .i64 6)), none, []⟩,
    ⟨some 28, .load false 1 (.t 27), none, []⟩,
    ⟨some 29, .indexAddr 2 (.t 25) (.t 28), none, []⟩,
    ⟨some 30, .load true 2 (.t 29), none, []⟩,
    ⟨some 10, .fill 216, none, []⟩,
    ⟨none, .store 2 (.t 10) (.t 30), none, []⟩] [0, 4, 8, 10])
  (.seq (.region none [⟨some 31, .bslice 0 [] [], none, []⟩,
    ⟨some 32, .mov (.t 0), none, []⟩,
    ⟨some 33, .appendO 1 8 (.t 31) (.t 32), none, []⟩,
    ⟨some 11, .mov (.t 33), none, []⟩] [4, 8, 10, 11])
  (.seq (.region none [⟨some 34, .mov (.t 11), none, []⟩,
    ⟨some 35, .mov (.t 11), none, []⟩,
    ⟨some 36, .indexAddr 1 (.t 35) (.c (.int .i64 8)), none, []⟩,
    ⟨some 37, .load false 1 (.t 36), none, []⟩,
    ⟨some 38, .bin .sub (.t 37) (.c (.int .i64 1)), none, []⟩,
    ⟨some 39, .indexAddr 1 (.t 34) (.c (.int .i64 8)), none, []⟩,
    ⟨none, .store 1 (.t 39) (.t 38), none, []⟩] [4, 8, 10, 11])
  (.seq (.region none [⟨some 40, .mov (.t 11), none, []⟩,
    ⟨some 41, .mov (.t 11), none, []⟩,
    ⟨some 42, .indexAddr 1 (.t 41) (.c (.int .i64 6)), none, []⟩,
    ⟨some 43, .load false 1 (.t 42), none, []⟩,
    ⟨some 44, .bin .add (.t 43) (.c (.int .i64 1)), none, []⟩,
    ⟨some 45, .indexAddr 1 (.t 40) (.c (.int .i64 6)), none, []⟩,
    ⟨none, .store 1 (.t 45) (.t 44), none, []⟩] [4, 8, 10, 11])
  (.seq (.region none [⟨some 46, .fieldAddr 0 (.t 10), none, []⟩,
    ⟨some 47, .load false 1 (.t 46), none, []⟩,
    ⟨some 48, .call 68 [(.t 47)], none, []⟩,
    ⟨some 12, .mov (.t 48), none, []⟩] [4, 8, 10, 11, 12])
  (.seq (.region none [⟨some 49, .mov (.t 11), none, []⟩,
    ⟨some 50, .mov (.t 11), none, []⟩,
    ⟨some 51, .indexAddr 1 (.t 50) (.c (.int .i64 7)), none, []⟩,
    ⟨some 52, .load false 1 (.t 51), none, []⟩,
    ⟨some 53, .mov (.t 12), none, []⟩,
    ⟨some 54, .bin .sub (.t 52) (.t 53), none, []⟩,
    ⟨some 55, .indexAddr 1 (.t 49) (.c (.int .i64 7)), none, []⟩,
    ⟨none, .store 1 (.t 55) (.t 54), none, []⟩] [4, 8, 10, 11, 12])
  (.seq (.region none [⟨some 56, .mov (.t 11), none, []⟩,
    ⟨some 57, .indexAddr 1 (.t 56) (.c (.int .i64 7)), none, []⟩,
    ⟨some 58, .load false 1 (.t 57), none, []⟩,
    ⟨some 13, .mov (.t 58), none, []⟩] [4, 8, 10, 11, 12, 13])
  (.seq (.region none [⟨some 14, .mov (.c (.int .i64 0)), none, []⟩] [4, 8, 10, 11, 12, 13, 14])
  (.seq (.region none [⟨some 15, .mov (.c (.int .i64 0)), none, []⟩] [4, 8, 10, 11, 12, 13, 14, 15])
  (.seq (.seq (.region none [⟨some 59, .mov (.t 12), none, []⟩,
    ⟨some 60, .bin .gtr (.t 59) (.c (.int .i64 0)), none, []⟩] [4, 8, 10, 11, 12, 13, 14, 15, 60])
  (.cond (.t 60)
   (.region none [⟨some 61, .mov (.t 11), none, []⟩,
     ⟨some 62, .mov (.t 13), none, []⟩,
     ⟨some 63, .bin .add (.c (.int .i64 16)) (.t 62), none, []⟩,
     ⟨some 64, .indexAddr 1 (.t 61) (.t 63), none, []⟩,
     ⟨some 65, .load false 1 (.t 64), none, []⟩,
     ⟨some 14, .mov (.t 65), none, []⟩] [4, 8, 10, 11, 12, 13, 14, 15])
   (.skip)))
  (.seq (.seq (.region none [⟨some 66, .mov (.t 12), none, []⟩,
    ⟨some 67, .bin .gtr (.t 66) (.c (.int .i64 1)), none, []⟩] [4, 8, 10, 11, 13, 14, 15, 67])
  (.cond (.t 67)
   (.region none [⟨some 68, .mov (.t 11), none, []⟩,
     ⟨some 69, .mov (.t 13), none, []⟩,
     ⟨some 70, .bin .add (.c (.int .i64 16)) (.t 69), none, []⟩,
     ⟨some 71, .bin .add (.t 70) (.c (.int .i64 1)), none, []⟩,
     ⟨some 72, .indexAddr 1 (.t 68) (.t 71), none, []⟩,
     ⟨some 73, .load false 1 (.t 72), none, []⟩,
     ⟨some 15, .mov (.t 73), none, []⟩] [4, 8, 10, 11, 13, 14, 15])
   (.skip)))
  (.seq (.region none [⟨some 16, .mov (.c (.int .i64 0)), none, []⟩] [4, 8, 10, 11, 13, 14, 15, 16])
  (.seq (.seq (.region none [⟨some 74, .fieldAddr 0 (.t 10), none, []⟩,
    ⟨some 75, .load false 1 (.t 74), none, []⟩] [4, 8, 10, 11, 13, 14, 15, 16, 75])
  (.block 0 (.seq (.region none [⟨some 82, .bin .eql (.t 75) (.c (.int .i64 1)), none, []⟩,
    ⟨some 81, .mov (.t 82), none, []⟩] [4, 8, 10, 11, 13, 14, 15, 16, 75, 81])
  (.cond (.t 81)
   (.region none [⟨some 83, .fieldAddr 1 (.t 10), none, []⟩,
     ⟨some 84, .load false 1 (.t 83), none, []⟩,
     ⟨some 16, .mov (.t 84), none, []⟩] [8, 10, 11, 13, 16])
   (.seq (.region none [⟨some 86, .bin .eql (.t 75) (.c (.int .i64 2)), none, []⟩,
     ⟨some 85, .mov (.t 86), none, []⟩] [4, 8, 10, 11, 13, 14, 15, 16, 75, 85])
   (.cond (.t 85)
    (.region none [⟨some 87, .mov (.t 11), none, []⟩,
      ⟨some 88, .fieldAddr 1 (.t 10), none, []⟩,
      ⟨some 89, .load false 1 (.t 88), none, []⟩,
      ⟨some 90, .bin .add (.c (.int .i64 32)) (.t 89), none, []⟩,
      ⟨some 91, .indexAddr 1 (.t 87) (.t 90), none, []⟩,
      ⟨some 92, .load false 1 (.t 91), none, []⟩,
      ⟨some 16, .mov (.t 92), none, []⟩] [8, 10, 11, 13, 16])
    (.seq (.region none [⟨some 94, .bin .eql (.t 75) (.c (.int .i64 6)), none, []⟩,
      ⟨some 93, .mov (.t 94), none, []⟩] [4, 8, 10, 11, 13, 14, 15, 16, 75, 93])
    (.cond (.t 93)
     (.region none [⟨some 95, .mov (.t 11), none, []⟩,
       ⟨some 96, .indexAddr 1 (.t 95) (.c (.int .i64 9)), none, []⟩,
       ⟨some 97, .load false 1 (.t 96), none, []⟩,
       ⟨some 16, .mov (.t 97), none, []⟩] [8, 10, 11, 13, 16])
     (.seq (.region none [⟨some 99, .bin .eql (.t 75) (.c (.int .i64 7)), none, []⟩,
       ⟨some 98, .mov (.t 99), none, []⟩] [4, 8, 10, 11, 13, 14, 15, 16, 75, 98])
     (.cond (.t 98)
      (.region none [⟨some 100, .mov (.t 11), none, []⟩,
        ⟨some 101, .indexAddr 1 (.t 100) (.c (.int .i64 10)), none, []⟩,
        ⟨some 102, .load false 1 (.t 101), none, []⟩,
        ⟨some 16, .mov (.t 102), none, []⟩] [8, 10, 11, 13, 16])
      (.seq (.region none [⟨some 104, .bin .eql (.t 75) (.c (.int .i64 8)), none, []⟩,
        ⟨some 103, .mov (.t 104), none, []⟩] [4, 8, 10, 11, 13, 14, 15, 16, 75, 103])
      (.cond (.t 103)
       (.region none [⟨some 105, .mov (.t 11), none, []⟩,
         ⟨some 106, .indexAddr 1 (.t 105) (.c (.int .i64 0)), none, []⟩,
         ⟨some 107, .load false 1 (.t 106), none, []⟩,
         ⟨some 16, .mov (.t 107), none, []⟩] [8, 10, 11, 13, 16])
       (.seq (.region none [⟨some 109, .bin .eql (.t 75) (.c (.int .i64 4)), none, []⟩,
         ⟨some 108, .mov (.t 109), none, []⟩] [4, 8, 10, 11, 13, 14, 15, 16, 75, 108])
       (.cond (.t 108)
        (.region none [⟨some 110, .mov (.t 11), none, []⟩,
          ⟨some 111, .load true 16 (.t 4), none, []⟩,
          ⟨some 112, .mov (.t 14), none, []⟩,
          ⟨some 113, .fieldAddr 1 (.t 10), none, []⟩,
          ⟨some 114, .load false 1 (.t 113), none, []⟩,
          ⟨some 115, .call 1000 [(.t 110), (.t 111), (.t 112), (.t 114)], none, []⟩,
          ⟨some 16, .mov (.t 115), none, []⟩] [8, 10, 11, 13, 16])
        (.seq (.region none [⟨some 117, .bin .eql (.t 75) (.c (.int .i64 3)), none, []⟩,
          ⟨some 116, .mov (.t 117), none, []⟩] [4, 8, 10, 11, 13, 14, 15, 16, 75, 116])
        (.cond (.t 116)
         (.region none [⟨some 118, .mov (.t 11), none, []⟩,
           ⟨some 119, .fieldAddr 1 (.t 10), none, []⟩,
           ⟨some 120, .load false 1 (.t 119), none, []⟩,
           ⟨some 121, .bin .add (.c (.int .i64 32)) (.t 120), none, []⟩,
           ⟨some 122, .mov (.t 14), none, []⟩,
           ⟨some 123, .indexAddr 1 (.t 118) (.t 121), none, []⟩,
           ⟨none, .store 1 (.t 123) (.t 122), none, []⟩] [8, 10, 11, 13, 16])
         (.seq (.region none [⟨some 125, .bin .eql (.t 75) (.c (.int .i64 5)), none, []⟩,
           ⟨some 124, .mov (.t 125), none, []⟩] [4, 8, 10, 11, 13, 14, 15, 16, 75, 124])
         (.cond (.t 124)
          (.seq (.region none [⟨some 126, .mov (.t 11), none, []⟩,
            ⟨some 127, .load true 16 (.t 4), none, []⟩,
            ⟨some 128, .mov (.t 14), none, []⟩,
            ⟨some 129, .fieldAddr 1 (.t 10), none, []⟩,
            ⟨some 130, .load false 1 (.t 129), none, []⟩,
            ⟨some 131, .mov (.t 15), none, []⟩,
            ⟨some 132, .call 69 [(.t 126), (.t 127), (.t 128), (.t 130), (.t 131)], none, []⟩,
            ⟨some 133, .build [(.lit (.int .i64 0)), (.lit (.int .i64 0)), (.lit (.int .i64 0)), (.lit (.int .i64 0))] [], none, []⟩,
            ⟨some 6, .mov (.t 132), none, []⟩,
            ⟨some 7, .mov (.c (.bool false)), none, []⟩,
            ⟨none, .store 4 (.t 8) (.t 133), none, []⟩,
            ⟨some 9, .mov (.c (.bool false)), none, []⟩] [6, 7, 8, 9])
          (.ret))
          (.seq (.region none [⟨some 135, .bin .eql (.t 75) (.c (.int .i64 18)), none, []⟩,
            ⟨some 134, .mov (.t 135), none, []⟩] [8, 10, 11, 13, 14, 15, 16, 75, 134])
          (.cond (.t 134)
           (.region none [⟨some 136, .mov (.t 11), none, []⟩,
             ⟨some 137, .fieldAddr 1 (.t 10), none, []⟩,
             ⟨some 138, .load false 1 (.t 137), none, []⟩,
             ⟨some 139, .indexAddr 1 (.t 136) (.c (.int .i64 6)), none, []⟩,
             ⟨none, .store 1 (.t 139) (.t 138), none, []⟩] [8, 10, 11, 13, 16])
           (.seq (.region none [⟨some 141, .bin .eql (.t 75) (.c (.int .i64 19)), none, []⟩,
             ⟨some 140, .mov (.t 141), none, []⟩] [8, 10, 11, 13, 14, 15, 16, 75, 140])
           (.cond (.t 140)
            (.seq (.region none [⟨some 142, .mov (.t 14), none, []⟩,
              ⟨some 143, .bin .eql (.t 142) (.c (.int .i64 0)), none, []⟩] [8, 10, 11, 13, 16, 143])
            (.cond (.t 143)
             (.region none [⟨some 144, .mov (.t 11), none, []⟩,
               ⟨some 145, .fieldAddr 1 (.t 10), none, []⟩,
               ⟨some 146, .load false 1 (.t 145), none, []⟩,
               ⟨some 147, .indexAddr 1 (.t 144) (.c (.int .i64 6)), none, []⟩,
               ⟨none, .store 1 (.t 147) (.t 146), none, []⟩] [8, 10, 11, 13, 16])
             (.skip)))
            (.seq (.region none [⟨some 149, .bin .eql (.t 75) (.c (.int .i64 21)), none, []⟩,
              ⟨some 148, .mov (.t 149), none, []⟩] [8, 10, 11, 13, 14, 15, 75, 148])
            (.cond (.t 148)
             (.seq (.region none [⟨some 150, .mov (.t 11), none, []⟩,
               ⟨some 151, .build [(.lit (.int .i64 0)), (.lit (.int .i64 0)), (.lit (.int .i64 0)), (.lit (.int .i64 0))] [], none, []⟩,
               ⟨some 6, .mov (.t 150), none, []⟩,
               ⟨some 7, .mov (.c (.bool true)), none, []⟩,
               ⟨none, .store 4 (.t 8) (.t 151), none, []⟩,
               ⟨some 9, .mov (.c (.bool false)), none, []⟩] [6, 7, 8, 9])
             (.ret))
             (.seq (.region none [⟨some 153, .bin .eql (.t 75) (.c (.int .i64 20)), none, []⟩,
               ⟨some 152, .mov (.t 153), none, []⟩] [8, 10, 11, 13, 14, 15, 152])
             (.cond (.t 152)
              (.seq (.seq (.region none [⟨some 154, .mov (.t 11), none, []⟩,
                ⟨some 155, .indexAddr 1 (.t 154) (.c (.int .i64 11)), none, []⟩,
                ⟨some 156, .load false 1 (.t 155), none, []⟩,
                ⟨some 157, .bin .geq (.t 156) (.c (.int .i64 40)), none, []⟩] [8, 11, 14, 15, 157])
              (.cond (.t 157)
               (.seq (.region none [⟨some 158, .mov (.t 11), none, []⟩,
                 ⟨some 159, .build [(.lit (.int .i64 0)), (.lit (.int .i64 0)), (.lit (.int .i64 0)), (.lit (.int .i64 0))] [], none, []⟩,
                 ⟨some 6, .mov (.t 158), none, []⟩,
                 ⟨some 7, .mov (.c (.bool false)), none, []⟩,
                 ⟨none, .store 4 (.t 8) (.t 159), none, []⟩,
                 ⟨some 9, .mov (.c (.bool false)), none, []⟩] [6, 7, 8, 9])
               (.ret))
               (.skip)))
              (.seq (.region (some [(223, [(.lit (.int .i64 0)), (.lit (.int .i64 0)), (.lit (.int .i64 0)), (.lit (.int .i64 0))])]) [⟨some 160, .mov (.t 11), none, []⟩,
                ⟨some 161, .indexAddr 1 (.t 160) (.c (.int .i64 0)), none, []⟩,
                ⟨some 162, .load false 1 (.t 161), none, []⟩,
                ⟨some 163, .mov (.t 11), none, []⟩,
                ⟨some 164, .indexAddr 1 (.t 163) (.c (.int .i64 11)), none, []⟩,
                ⟨some 165, .load false 1 (.t 164), none, []⟩,
                ⟨some 166, .mov (.t 14), none, []⟩,
                ⟨some 167, .mov (.t 15), none, []⟩,
                ⟨some 168, .build [(.lit (.int .i64 0)), (.lit (.int .i64 0)), (.lit (.int .i64 0)), (.lit (.int .i64 0))] [(0, 1, (.t 162)), (1, 1, (.t 165)), (2, 1, (.t 166)), (3, 1, (.t 167))], none, []⟩,
                ⟨some 17, .fill 223, none, []⟩,
                ⟨none, .store 4 (.t 17) (.t 168), none, []⟩] [8, 11, 14, 15, 17])
              (.seq (.region (some []) [⟨some 169, .mov (.t 11), none, []⟩,
                ⟨some 170, .mov (.t 11), none, []⟩,
                ⟨some 171, .indexAddr 1 (.t 170) (.c (.int .i64 12)), none, []⟩,
                ⟨some 172, .load false 1 (.t 171), none, []⟩,
                ⟨some 173, .mov (.t 11), none, []⟩,
                ⟨some 174, .indexAddr 1 (.t 173) (.c (.int .i64 0)), none, []⟩,
                ⟨some 175, .load false 1 (.t 174), none, []⟩,
                ⟨some 176, .mov (.t 14), none, []⟩,
                ⟨some 177, .mov (.t 15), none, []⟩,
                ⟨some 178, .bslice 4 [(.lit (.int .i64 0)), (.lit (.int .i64 0)), (.lit (.int .i64 0)), (.lit (.int .i64 0))] [(0, 1, (.t 172)), (1, 1, (.t 175)), (2, 1, (.t 176)), (3, 1, (.t 177))], none, []⟩,
                ⟨some 179, .call 70 [(.c (.string ⟨#[101, 102, 102, 101, 99, 116]⟩)), (.t 178)], none, []⟩,
                ⟨some 180, .bin .quo (.t 179) (.c (.int .u64 2)), none, []⟩,
                ⟨some 181, .conv (.int .i64) (.t 180), none, []⟩,
                ⟨some 182, .indexAddr 1 (.t 169) (.c (.int .i64 12)), none, []⟩,
                ⟨none, .store 1 (.t 182) (.t 181), none, []⟩] [8, 11, 17] [10])
              (.seq (.region none [⟨some 183, .mov (.t 11), none, []⟩,
                ⟨some 184, .mov (.t 11), none, []⟩,
                ⟨some 185, .indexAddr 1 (.t 184) (.c (.int .i64 11)), none, []⟩,
                ⟨some 186, .load false 1 (.t 185), none, []⟩,
                ⟨some 187, .bin .add (.t 186) (.c (.int .i64 1)), none, []⟩,
                ⟨some 188, .indexAddr 1 (.t 183) (.c (.int .i64 11)), none, []⟩,
                ⟨none, .store 1 (.t 188) (.t 187), none, []⟩] [8, 11, 17])
              (.seq (.region (some []) [⟨some 189, .mov (.t 11), none, []⟩,
                ⟨some 190, .load true 4 (.t 17), none, []⟩,
                ⟨some 6, .mov (.t 189), none, []⟩,
                ⟨some 7, .mov (.c (.bool false)), none, []⟩,
                ⟨none, .store 4 (.t 8) (.t 190), none, []⟩,
                ⟨some 9, .mov (.c (.bool true)), none, []⟩] [6, 7, 8, 9])
              (.ret))))))
              (.region none [⟨some 76, .fieldAddr 0 (.t 10), none, []⟩,
                ⟨some 77, .load false 1 (.t 76), none, []⟩,
                ⟨some 78, .mov (.t 14), none, []⟩,
                ⟨some 79, .mov (.t 15), none, []⟩,
                ⟨some 80, .call 71 [(.t 77), (.t 78), (.t 79)], none, []⟩,
                ⟨some 16, .mov (.t 80), none, []⟩] [8, 10, 11, 13, 16])))))))))))))))))))))))))))
  (.seq (.seq (.region none [⟨some 191, .fieldAddr 0 (.t 10), none, []⟩,
    ⟨some 192, .load false 1 (.t 191), none, []⟩,
    ⟨some 193, .call 72 [(.t 192)], none, []⟩,
    ⟨some 194, .bin .eql (.t 193) (.c (.int .i64 1)), none, []⟩] [8, 11, 13, 16, 194])
  (.cond (.t 194)
   (.seq (.region none [⟨some 195, .mov (.t 11), none, []⟩,
     ⟨some 196, .mov (.t 13), none, []⟩,
     ⟨some 197, .bin .add (.c (.int .i64 16)) (.t 196), none, []⟩,
     ⟨some 198, .mov (.t 16), none, []⟩,
     ⟨some 199, .indexAddr 1 (.t 195) (.t 197), none, []⟩,
     ⟨none, .store 1 (.t 199) (.t 198), none, []⟩] [8, 11, 13])
   (.region none [⟨some 200, .mov (.t 11), none, []⟩,
     ⟨some 201, .mov (.t 13), none, []⟩,
     ⟨some 202, .bin .add (.t 201) (.c (.int .i64 1)), none, []⟩,
     ⟨some 203, .indexAddr 1 (.t 200) (.c (.int .i64 7)), none, []⟩,
     ⟨none, .store 1 (.t 203) (.t 202), none, []⟩] [8, 11]))
   (.skip)))
  (.seq (.region none [⟨some 204, .mov (.t 11), none, []⟩,
    ⟨some 205, .build [(.lit (.int .i64 0)), (.lit (.int .i64 0)), (.lit (.int .i64 0)), (.lit (.int .i64 0))] [], none, []⟩,
    ⟨some 6, .mov (.t 204), none, []⟩,
    ⟨some 7, .mov (.c (.bool false)), none, []⟩,
    ⟨none, .store 4 (.t 8) (.t 205), none, []⟩,
    ⟨some 9, .mov (.c (.bool false)), none, []⟩] [6, 7, 8, 9])
  (.ret))))))))))))))))), false, false, false⟩
def F58l0 : PC := (.seq (.seq (.region none [⟨some 11, .mov (.t 5), none, []⟩,
     ⟨some 12, .mov (.t 0), none, []⟩,
     ⟨some 13, .len .sl (.t 12), none, []⟩,
     ⟨some 14, .bin .lss (.t 11) (.t 13), none, []⟩] [0, 1, 5, 14])
   (.cond (.t 14)
    (.skip)
    (.exit 0)))
   (.seq (.block 1 (.seq (.region (some []) [⟨some 17, .mov (.t 0), none, []⟩,
     ⟨some 18, .mov (.t 5), none, []⟩,
     ⟨some 19, .indexAddr 1 (.t 17) (.t 18), none, []⟩,
     ⟨some 20, .load false 1 (.t 19), none, []⟩,
     ⟨some 21, .mov (.t 1), none, []⟩,
     ⟨some 22, .mov (.t 5), none, []⟩,
     ⟨some 23, .indexAddr 1 (.t 21) (.t 22), none, []⟩,
     ⟨some 24, .load false 1 (.t 23), none, []⟩,
     ⟨some 25, .bin .neq (.t 20) (.t 24), none, []⟩] [0, 1, 5, 25])
   (.cond (.t 25)
    (.seq (.region none [⟨some 4, .mov (.c (.bool false)), none, []⟩] [4])
    (.ret))
    (.skip))))
   (.region none [⟨some 15, .mov (.t 5), none, []⟩,
     ⟨some 16, .bin .add (.t 15) (.c (.int .i64 1)), none, []⟩,
     ⟨some 5, .mov (.t 16), none, []⟩] [0, 1, 5])))
theorem run_F58l0 (C : Task → Option Res) (k : Nat) (fr : Fr) (σ : S) : run C k F58l0 fr σ = run C k (.seq (.seq (.region none [⟨some 11, .mov (.t 5), none, []⟩,
     ⟨some 12, .mov (.t 0), none, []⟩,
     ⟨some 13, .len .sl (.t 12), none, []⟩,
     ⟨some 14, .bin .lss (.t 11) (.t 13), none, []⟩] [0, 1, 5, 14])
   (.cond (.t 14)
    (.skip)
    (.exit 0)))
   (.seq (.block 1 (.seq (.region (some []) [⟨some 17, .mov (.t 0), none, []⟩,
     ⟨some 18, .mov (.t 5), none, []⟩,
     ⟨some 19, .indexAddr 1 (.t 17) (.t 18), none, []⟩,
     ⟨some 20, .load false 1 (.t 19), none, []⟩,
     ⟨some 21, .mov (.t 1), none, []⟩,
     ⟨some 22, .mov (.t 5), none, []⟩,
     ⟨some 23, .indexAddr 1 (.t 21) (.t 22), none, []⟩,
     ⟨some 24, .load false 1 (.t 23), none, []⟩,
     ⟨some 25, .bin .neq (.t 20) (.t 24), none, []⟩] [0, 1, 5, 25])
   (.cond (.t 25)
    (.seq (.region none [⟨some 4, .mov (.c (.bool false)), none, []⟩] [4])
    (.ret))
    (.skip))))
   (.region none [⟨some 15, .mov (.t 5), none, []⟩,
     ⟨some 16, .bin .add (.t 15) (.c (.int .i64 1)), none, []⟩,
     ⟨some 5, .mov (.t 16), none, []⟩] [0, 1, 5]))) fr σ := rfl
/-- arenanet/arenanetref01.SameInts -/
def F58 : PFun := ⟨2, [.tmp 4],
  .seq (.region none [⟨some 4, .mov (.c (.bool false)), none, []⟩] [0, 1])
  (.seq (.seq (.region none [⟨some 6, .mov (.t 0), none, []⟩,
    ⟨some 7, .len .sl (.t 6), none, []⟩,
    ⟨some 8, .mov (.t 1), none, []⟩,
    ⟨some 9, .len .sl (.t 8), none, []⟩,
    ⟨some 10, .bin .neq (.t 7) (.t 9), none, []⟩] [0, 1, 10])
  (.cond (.t 10)
   (.seq (.region none [⟨some 4, .mov (.c (.bool false)), none, []⟩] [4])
   (.ret))
   (.skip)))
  (.seq (.seq (.region none [⟨some 5, .mov (.c (.int .i64 0)), none, []⟩] [0, 1, 5])
  (.block 0 (.loop F58l0)))
  (.seq (.region none [⟨some 4, .mov (.c (.bool true)), none, []⟩] [4])
  (.ret)))), false, false, false⟩
def F59l0 : PC := (.seq (.region none [⟨some 11, .bin .lss (.t 10) (.t 9), none, []⟩] [0, 3, 9, 10, 11])
   (.seq (.cond (.t 11)
    (.skip)
    (.exit 0))
   (.seq (.block 1 (.seq (.region none [⟨some 12, .mov (.t 10), none, []⟩,
     ⟨some 4, .mov (.t 12), none, []⟩] [0, 3, 4, 9, 10])
   (.region none [⟨some 13, .mov (.t 3), none, []⟩,
     ⟨some 14, .mov (.t 4), none, []⟩,
     ⟨some 15, .mov (.t 0), none, []⟩,
     ⟨some 16, .mov (.t 4), none, []⟩,
     ⟨some 17, .call 51 [(.t 15), (.t 16)], none, []⟩,
     ⟨some 18, .indexAddr 1 (.t 13) (.t 14), none, []⟩,
     ⟨none, .store 1 (.t 18) (.t 17), none, []⟩] [0, 3, 9, 10])))
   (.region none [⟨some 19, .bin .add (.t 10) (.c (.int .i64 1)), none, []⟩,
     ⟨some 10, .mov (.t 19), none, []⟩] [0, 3, 9, 10]))))
theorem run_F59l0 (C : Task → Option Res) (k : Nat) (fr : Fr) (σ : S) : run C k F59l0 fr σ = run C k (.seq (.region none [⟨some 11, .bin .lss (.t 10) (.t 9), none, []⟩] [0, 3, 9, 10, 11])
   (.seq (.cond (.t 11)
    (.skip)
    (.exit 0))
   (.seq (.block 1 (.seq (.region none [⟨some 12, .mov (.t 10), none, []⟩,
     ⟨some 4, .mov (.t 12), none, []⟩] [0, 3, 4, 9, 10])
   (.region none [⟨some 13, .mov (.t 3), none, []⟩,
     ⟨some 14, .mov (.t 4), none, []⟩,
     ⟨some 15, .mov (.t 0), none, []⟩,
     ⟨some 16, .mov (.t 4), none, []⟩,
     ⟨some 17, .call 51 [(.t 15), (.t 16)], none, []⟩,
     ⟨some 18, .indexAddr 1 (.t 13) (.t 14), none, []⟩,
     ⟨none, .store 1 (.t 18) (.t 17), none, []⟩] [0, 3, 9, 10])))
   (.region none [⟨some 19, .bin .add (.t 10) (.c (.int .i64 1)), none, []⟩,
     ⟨some 10, .mov (.t 19), none, []⟩] [0, 3, 9, 10])))) fr σ := rfl
/-- (*arenanet/cellmem.Mem).Cells -/
def F59 : PFun := ⟨1, [.tmp 2],
  .seq (.region none [⟨some 2, .mov (.c (.slice none 0 0)), none, []⟩] [0])
  (.seq (.region none [⟨some 5, .mov (.t 0), none, []⟩,
    ⟨some 6, .call 73 [(.t 5)], none, []⟩,
    ⟨some 7, .mkslice false [(.lit (.int .i64 0))] 8 (.t 6) (.t 6), none, []⟩,
    ⟨some 3, .mov (.t 7), none, []⟩] [0, 3])
  (.seq (.seq (.region none [⟨some 8, .mov (.t 0), none, []⟩,
    ⟨some 9, .call 73 [(.t 8)], none, []⟩,
    ⟨some 10, .mov (.c (.int .i64 0)), none, []⟩] [0, 3, 9, 10])
  (.block 0 (.loop F59l0)))
  (.seq (.region none [⟨some 20, .mov (.t 3), none, []⟩,
    ⟨some 2, .mov (.t 20), none, []⟩] [2])
  (.ret)))), false, false, false⟩
/-- arenanet/arenanetref12.ShapeOf -/
def F60 : PFun := ⟨1, [.cell 2 true 2],
  .seq (.region none [⟨some 2, .alloc [(.lit (.int .i64 0)), (.lit (.slice none 0 0))], none, []⟩] [0, 2])
  (.seq (.region none [⟨some 5, .mov (.t 0), none, []⟩,
    ⟨some 6, .call 17 [(.t 5), (.c (.int .i64 1000))], none, []⟩,
    ⟨some 3, .mov (.t 6), none, []⟩] [2, 3])
  (.seq (.region none [⟨some 7, .mov (.t 3), none, []⟩,
    ⟨some 8, .bin .quo (.t 7) (.c (.int .i64 7)), none, []⟩,
    ⟨some 9, .bin .rem (.t 8) (.c (.int .i64 5)), none, []⟩,
    ⟨some 10, .bin .add (.c (.int .i64 1)) (.t 9), none, []⟩,
    ⟨some 11, .bin .mul (.c (.int .i64 512)) (.t 10), none, []⟩,
    ⟨some 4, .mov (.t 11), none, []⟩] [2, 3, 4])
  (.seq (.seq (.region none [⟨some 12, .mov (.t 3), none, []⟩,
    ⟨some 13, .bin .rem (.t 12) (.c (.int .i64 7)), none, []⟩] [2, 4, 13])
  (.block 0 (.seq (.seq (.region none [⟨some 15, .bin .eql (.t 13) (.c (.int .i64 0)), none, []⟩,
    ⟨some 14, .mov (.t 15), none, []⟩] [2, 4, 13, 14])
  (.cond (.t 14)
   (.skip)
   (.seq (.region none [⟨some 16, .bin .eql (.t 13) (.c (.int .i64 1)), none, []⟩,
     ⟨some 14, .mov (.t 16), none, []⟩] [2, 4, 13, 14])
   (.cond (.t 14)
    (.skip)
    (.region none [⟨some 17, .bin .eql (.t 13) (.c (.int .i64 2)), none, []⟩,
      ⟨some 14, .mov (.t 17), none, []⟩] [2, 4, 13, 14])))))
  (.cond (.t 14)
   (.seq (.region none [⟨some 18, .mov (.t 4), none, []⟩,
     ⟨some 19, .build [(.lit (.int .i64 0)), (.lit (.slice none 0 0))] [(0, 1, (.t 18))], none, []⟩,
     ⟨none, .store 2 (.t 2) (.t 19), none, []⟩] [2])
   (.ret))
   (.seq (.seq (.region none [⟨some 21, .bin .eql (.t 13) (.c (.int .i64 3)), none, []⟩,
     ⟨some 20, .mov (.t 21), none, []⟩] [2, 4, 13, 20])
   (.cond (.t 20)
    (.skip)
    (.region none [⟨some 22, .bin .eql (.t 13) (.c (.int .i64 4)), none, []⟩,
      ⟨some 20, .mov (.t 22), none, []⟩] [2, 4, 13, 20])))
   (.cond (.t 20)
    (.seq (.region none [⟨some 23, .mov (.t 4), none, []⟩,
      ⟨some 24, .un .neg (.t 23), none, []⟩,
      ⟨some 25, .mov (.t 4), none, []⟩,
      ⟨some 26, .un .neg (.t 25), none, []⟩,
      ⟨some 27, .build [(.lit (.int .i64 0)), (.lit (.int .i64 0))] [(0, 1, (.t 24)), (1, 1, (.t 26))], none, []⟩,
      ⟨some 28, .mov (.t 4), none, []⟩,
      ⟨some 29, .mov (.t 4), none, []⟩,
      ⟨some 30, .un .neg (.t 29), none, []⟩,
      ⟨some 31, .build [(.lit (.int .i64 0)), (.lit (.int .i64 0))] [(0, 1, (.t 28)), (1, 1, (.t 30))], none, []⟩,
      ⟨some 32, .mov (.t 4), none, []⟩,
      ⟨some 33, .mov (.t 4), none, []⟩,
      ⟨some 34, .build [(.lit (.int .i64 0)), (.lit (.int .i64 0))] [(0, 1, (.t 32)), (1, 1, (.t 33))], none, []⟩,
      ⟨some 35, .mov (.t 4), none, []⟩,
      ⟨some 36, .un .neg (.t 35), none, []⟩,
      ⟨some 37, .mov (.t 4), none, []⟩,
      ⟨some 38, .build [(.lit (.int .i64 0)), (.lit (.int .i64 0))] [(0, 1, (.t 36)), (1, 1, (.t 37))], none, []⟩,
      ⟨some 39, .bslice 4 [(.lit (.int .i64 0)), (.lit (.int .i64 0)), (.lit (.int .i64 0)), (.lit (.int .i64 0)), (.lit (.int .i64 0)), (.lit (.int .i64 0)), (.lit (.int .i64 0)), (.lit (.int .i64 0))] [(0, 2, (.t 27)), (2, 2, (.t 31)), (4, 2, (.t 34)), (6, 2, (.t 38))], none, []⟩,
      ⟨some 40, .build [(.lit (.int .i64 0)), (.lit (.slice none 0 0))] [(1, 1, (.t 39))], none, []⟩,
      ⟨none, .store 2 (.t 2) (.t 40), none, []⟩] [2])
    (.ret))
    (.seq (.region none [⟨some 42, .bin .eql (.t 13) (.c (.int .i64 5)), none, []⟩,
      ⟨some 41, .mov (.t 42), none, []⟩] [2, 4, 41])
    (.cond (.t 41)
     (.seq (.region none [⟨some 43, .mov (.t 4), none, []⟩,
       ⟨some 44, .un .neg (.t 43), none, []⟩,
       ⟨some 45, .mov (.t 4), none, []⟩,
       ⟨some 46, .un .neg (.t 45), none, []⟩,
       ⟨some 47, .build [(.lit (.int .i64 0)), (.lit (.int .i64 0))] [(0, 1, (.t 44)), (1, 1, (.t 46))], none, []⟩,
       ⟨some 48, .mov (.t 4), none, []⟩,
       ⟨some 49, .mov (.t 4), none, []⟩,
       ⟨some 50, .un .neg (.t 49), none, []⟩,
       ⟨some 51, .build [(.lit (.int .i64 0)), (.lit (.int .i64 0))] [(0, 1, (.t 48)), (1, 1, (.t 50))], none, []⟩,
       ⟨some 52, .mov (.t 4), none, []⟩,
       ⟨some 53, .build [(.lit (.int .i64 0)), (.lit (.int .i64 0))] [(0, 1, (.c (.int .i64 0))), (1, 1, (.t 52))], none, []⟩,
       ⟨some 54, .bslice 3 [(.lit (.int .i64 0)), (.lit (.int .i64 0)), (.lit (.int .i64 0)), (.lit (.int .i64 0)), (.lit (.int .i64 0)), (.lit (.int .i64 0))] [(0, 2, (.t 47)), (2, 2, (.t 51)), (4, 2, (.t 53))], none, []⟩,
       ⟨some 55, .build [(.lit (.int .i64 0)), (.lit (.slice none 0 0))] [(1, 1, (.t 54))], none, []⟩,
       ⟨none, .store 2 (.t 2) (.t 55), none, []⟩] [2])
     (.ret))
     (.skip)))))))))
  (.seq (.region none [⟨some 56, .mov (.t 4), none, []⟩,
    ⟨some 57, .bin .mul (.c (.int .i64 (-2))) (.t 56), none, []⟩,
    ⟨some 58, .build [(.lit (.int .i64 0)), (.lit (.int .i64 0))] [(0, 1, (.t 57)), (1, 1, (.c (.int .i64 (-300))))], none, []⟩,
    ⟨some 59, .mov (.t 4), none, []⟩,
    ⟨some 60, .bin .mul (.c (.int .i64 2)) (.t 59), none, []⟩,
    ⟨some 61, .build [(.lit (.int .i64 0)), (.lit (.int .i64 0))] [(0, 1, (.t 60)), (1, 1, (.c (.int .i64 (-300))))], none, []⟩,
    ⟨some 62, .mov (.t 4), none, []⟩,
    ⟨some 63, .bin .mul (.c (.int .i64 2)) (.t 62), none, []⟩,
    ⟨some 64, .build [(.lit (.int .i64 0)), (.lit (.int .i64 0))] [(0, 1, (.t 63)), (1, 1, (.c (.int .i64 300)))], none, []⟩,
    ⟨some 65, .mov (.t 4), none, []⟩,
    ⟨some 66, .bin .mul (.c (.int .i64 (-2))) (.t 65), none, []⟩,
    ⟨some 67, .build [(.lit (.int .i64 0)), (.lit (.int .i64 0))] [(0, 1, (.t 66)), (1, 1, (.c (.int .i64 300)))], none, []⟩,
    ⟨some 68, .bslice 4 [(.lit (.int .i64 0)), (.lit (.int .i64 0)), (.lit (.int .i64 0)), (.lit (.int .i64 0)), (.lit (.int .i64 0)), (.lit (.int .i64 0)), (.lit (.int .i64 0)), (.lit (.int .i64 0))] [(0, 2, (.t 58)), (2, 2, (.t 61)), (4, 2, (.t 64)), (6, 2, (.t 67))], none, []⟩,
    ⟨some 69, .build [(.lit (.int .i64 0)), (.lit (.slice none 0 0))] [(1, 1, (.t 68))], none, []⟩,
    ⟨none, .store 2 (.t 2) (.t 69), none, []⟩] [2])
  (.ret))))), false, false, false⟩
/-- arenanet/arenanetref16.flag -/
def F61 : PFun := ⟨1, [.tmp 2],
  .seq (.region none [⟨some 2, .mov (.c (.int .i64 0)), none, []⟩] [0])
  (.seq (.seq (.region none [⟨some 3, .mov (.t 0), none, []⟩] [3])
  (.cond (.t 3)
   (.seq (.region none [⟨some 2, .mov (.c (.int .i64 1)), none, []⟩] [2])
   (.ret))
   (.skip)))
  (.seq (.region none [⟨some 2, .mov (.c (.int .i64 0)), none, []⟩] [2])
  (.ret))), false, false, false⟩
/-- (*arenanet/cellmem.Mem).has -/
def F62 : PFun := ⟨2, [.tmp 4],
  .seq (.region none [⟨some 4, .mov (.c (.bool false)), none, []⟩] [0, 1])
  (.seq (.region none [⟨some 5, .mov (.t 1), none, []⟩,
    ⟨some 6, .bin .leq (.c (.int .i64 0)) (.t 5), none, []⟩,
    ⟨some 7, .mov (.t 6), none, []⟩,
    ⟨some 8, .mov (.t 1), some (7, true), []⟩,
    ⟨some 9, .mov (.t 0), some (7, true), []⟩,
    ⟨some 10, .nilchk (.t 9), some (7, true), []⟩,
    ⟨some 11, .fieldAddr 0 (.t 10), some (7, true), []⟩,
    ⟨some 12, .load false 1 (.t 11), some (7, true), []⟩,
    ⟨some 13, .len .sl (.t 12), some (7, true), []⟩,
    ⟨some 14, .bin .lss (.t 8) (.t 13), some (7, true), []⟩,
    ⟨some 15, .pick (.t 7) (.t 14) (.c (.bool false)), none, []⟩,
    ⟨some 4, .mov (.t 15), none, []⟩] [4])
  (.ret)), false, false, false⟩
/-- arenanet/vm.executable -/
def F63 : PFun := ⟨2, [.tmp 4],
  .seq (.region none [⟨some 2, .box (.t 0), none, []⟩,
    ⟨some 4, .mov (.c (.bool false)), none, []⟩] [1, 2])
  (.seq (.seq (.region none [⟨some 6, .fieldAddr 0 (.t 2), none, []⟩,
    ⟨some 7, .load false 1 (.t 6), none, []⟩,
    ⟨some 8, .bin .lss (.t 7) (.c (.int .i64 1)), none, []⟩,
    ⟨some 9, .mov (.t 8), none, []⟩,
    ⟨some 10, .fieldAddr 0 (.t 2), some (9, false), []⟩,
    ⟨some 11, .load false 1 (.t 10), some (9, false), []⟩,
    ⟨some 12, .bin .gtr (.t 11) (.c (.int .i64 21)), some (9, false), []⟩,
    ⟨some 13, .pick (.t 9) (.c (.bool true)) (.t 12), none, []⟩,
    ⟨some 14, .mov (.t 13), none, []⟩,
    ⟨some 15, .mov (.t 1), some (14, false), []⟩,
    ⟨some 16, .bin .gtr (.t 15) (.c (.int .i64 16)), some (14, false), []⟩,
    ⟨some 17, .pick (.t 14) (.c (.bool true)) (.t 16), none, []⟩] [1, 2, 17])
  (.cond (.t 17)
   (.seq (.region none [⟨some 4, .mov (.c (.bool false)), none, []⟩] [4])
   (.ret))
   (.skip)))
  (.seq (.region none [⟨some 18, .fieldAddr 0 (.t 2), none, []⟩,
    ⟨some 19, .load false 1 (.t 18), none, []⟩,
    ⟨some 20, .indexAddrA 22 3 (.g G_arenanet_vm_effects) (.t 19), none, []⟩,
    ⟨some 21, .load true 3 (.t 20), none, []⟩,
    ⟨some 5, .alloc [(.lit (.int .i64 0)), (.lit (.int .i64 0)), (.lit (.int .i64 0))], none, []⟩,
    ⟨none, .store 3 (.t 5) (.t 21), none, []⟩] [1, 2, 5])
  (.seq (.seq (.region none [⟨some 22, .mov (.t 1), none, []⟩,
    ⟨some 23, .fieldAddr 0 (.t 5), none, []⟩,
    ⟨some 24, .load false 1 (.t 23), none, []⟩,
    ⟨some 25, .bin .lss (.t 22) (.t 24), none, []⟩,
    ⟨some 26, .mov (.t 25), none, []⟩,
    ⟨some 27, .mov (.t 1), some (26, false), []⟩,
    ⟨some 28, .fieldAddr 0 (.t 5), some (26, false), []⟩,
    ⟨some 29, .load false 1 (.t 28), some (26, false), []⟩,
    ⟨some 30, .bin .sub (.t 27) (.t 29), some (26, false), []⟩,
    ⟨some 31, .fieldAddr 1 (.t 5), some (26, false), []⟩,
    ⟨some 32, .load false 1 (.t 31), some (26, false), []⟩,
    ⟨some 33, .bin .add (.t 30) (.t 32), some (26, false), []⟩,
    ⟨some 34, .bin .gtr (.t 33) (.c (.int .i64 16)), some (26, false), []⟩,
    ⟨some 35, .pick (.t 26) (.c (.bool true)) (.t 34), none, []⟩] [2, 5, 35])
  (.cond (.t 35)
   (.seq (.region none [⟨some 4, .mov (.c (.bool false)), none, []⟩] [4])
   (.ret))
   (.skip)))
  (.seq (.region none [⟨some 36, .fieldAddr 2 (.t 5), none, []⟩,
    ⟨some 37, .load false 1 (.t 36), none, []⟩,
    ⟨some 38, .bin .eql (.t 37) (.c (.int .i64 0)), none, []⟩,
    ⟨some 39, .mov (.t 38), none, []⟩,
    ⟨some 40, .fieldAddr 1 (.t 2), some (39, false), []⟩,
    ⟨some 41, .load false 1 (.t 40), some (39, false), []⟩,
    ⟨some 42, .bin .geq (.t 41) (.c (.int .i64 0)), some (39, false), []⟩,
    ⟨some 43, .mov (.t 42), some (39, false), []⟩,
    ⟨some 44, .fieldAddr 1 (.t 2), some (43, true), []⟩,
    ⟨some 45, .load false 1 (.t 44), some (43, true), []⟩,
    ⟨some 46, .fieldAddr 2 (.t 5), some (43, true), []⟩,
    ⟨some 47, .load false 1 (.t 46), some (43, true), []⟩,
    ⟨some 48, .bin .lss (.t 45) (.t 47), some (43, true), []⟩,
    ⟨some 49, .pick (.t 43) (.t 48) (.c (.bool false)), some (39, false), []⟩,
    ⟨some 50, .pick (.t 39) (.c (.bool true)) (.t 49), none, []⟩,
    ⟨some 4, .mov (.t 50), none, []⟩] [4])
  (.ret))))), false, false, false⟩
/-- arenanet/vm.execute -/
def F64 : PFun := ⟨4, [.tmp 8, .cell 9 true 4, .tmp 10],
  .seq (.region none [⟨some 6, .box (.t 2), none, []⟩,
    ⟨some 7, .box (.t 3), none, []⟩,
    ⟨some 8, .mov (.c (.int .i64 0)), none, []⟩,
    ⟨some 9, .alloc [(.lit (.int .i64 0)), (.lit (.int .i64 0)), (.lit (.int .i64 0)), (.lit (.int .i64 0))], none, []⟩,
    ⟨some 10, .mov (.c (.bool false)), none, []⟩] [0, 1, 6, 7, 9])
  (.seq (.seq (.region none [⟨some 11, .mov (.t 0), none, []⟩] [0, 1, 6, 7, 9, 11])
  (.block 0 (.seq (.seq (.region none [⟨some 13, .bin .eql (.t 11) (.c (.int .i64 1)), none, []⟩,
    ⟨some 12, .mov (.t 13), none, []⟩] [0, 1, 6, 7, 9, 11, 12])
  (.cond (.t 12)
   (.skip)
   (.seq (.region none [⟨some 14, .bin .eql (.t 11) (.c (.int .i64 2)), none, []⟩,
     ⟨some 12, .mov (.t 14), none, []⟩] [0, 1, 6, 7, 9, 11, 12])
   (.cond (.t 12)
    (.skip)
    (.seq (.region none [⟨some 15, .bin .eql (.t 11) (.c (.int .i64 6)), none, []⟩,
      ⟨some 12, .mov (.t 15), none, []⟩] [0, 1, 6, 7, 9, 11, 12])
    (.cond (.t 12)
     (.skip)
     (.seq (.region none [⟨some 16, .bin .eql (.t 11) (.c (.int .i64 7)), none, []⟩,
       ⟨some 12, .mov (.t 16), none, []⟩] [0, 1, 6, 7, 9, 11, 12])
     (.cond (.t 12)
      (.skip)
      (.region none [⟨some 17, .bin .eql (.t 11) (.c (.int .i64 8)), none, []⟩,
        ⟨some 12, .mov (.t 17), none, []⟩] [0, 1, 6, 7, 9, 11, 12])))))))))
  (.cond (.t 12)
   (.seq (.region (some []) [⟨some 18, .mov (.t 0), none, []⟩,
     ⟨some 19, .call 74 [(.t 18)], none, []⟩,
     ⟨some 20, .mov (.t 1), none, []⟩,
     ⟨some 21, .fieldAddr 0 (.t 7), none, []⟩,
     ⟨some 22, .load false 1 (.t 21), none, [1]⟩,
     ⟨some 23, .callv (.t 19) [(.t 20), (.t 22)], none, []⟩,
     ⟨some 24, .build [(.lit (.int .i64 0)), (.lit (.int .i64 0)), (.lit (.int .i64 0)), (.lit (.int .i64 0))] [], none, []⟩,
     ⟨some 8, .mov (.t 23), none, []⟩,
     ⟨none, .store 4 (.t 9) (.t 24), none, []⟩,
     ⟨some 10, .mov (.c (.bool false)), none, []⟩] [8, 9, 10])
   (.ret))
   (.seq (.seq (.region none [⟨some 26, .bin .eql (.t 11) (.c (.int .i64 9)), none, []⟩,
     ⟨some 25, .mov (.t 26), none, []⟩] [0, 1, 6, 7, 9, 11, 25])
   (.cond (.t 25)
    (.skip)
    (.seq (.region none [⟨some 27, .bin .eql (.t 11) (.c (.int .i64 10)), none, []⟩,
      ⟨some 25, .mov (.t 27), none, []⟩] [0, 1, 6, 7, 9, 11, 25])
    (.cond (.t 25)
     (.skip)
     (.seq (.region none [⟨some 28, .bin .eql (.t 11) (.c (.int .i64 11)), none, []⟩,
       ⟨some 25, .mov (.t 28), none, []⟩] [0, 1, 6, 7, 9, 11, 25])
     (.cond (.t 25)
      (.skip)
      (.seq (.region none [⟨some 29, .bin .eql (.t 11) (.c (.int .i64 12)), none, []⟩,
        ⟨some 25, .mov (.t 29), none, []⟩] [0, 1, 6, 7, 9, 11, 25])
      (.cond (.t 25)
       (.skip)
       (.seq (.region none [⟨some 30, .bin .eql (.t 11) (.c (.int .i64 14)), none, []⟩,
         ⟨some 25, .mov (.t 30), none, []⟩] [0, 1, 6, 7, 9, 11, 25])
       (.cond (.t 25)
        (.skip)
        (.seq (.region none [⟨some 31, .bin .eql (.t 11) (.c (.int .i64 15)), none, []⟩,
          ⟨some 25, .mov (.t 31), none, []⟩] [0, 1, 6, 7, 9, 11, 25])
        (.cond (.t 25)
         (.skip)
         (.region none [⟨some 32, .bin .eql (.t 11) (.c (.int .i64 16)), none, []⟩,
           ⟨some 25, .mov (.t 32), none, []⟩] [0, 1, 6, 7, 9, 11, 25])))))))))))))
   (.cond (.t 25)
    (.seq (.region (some []) [⟨some 33, .mov (.t 0), none, []⟩,
      ⟨some 34, .call 75 [(.t 33)], none, []⟩,
      ⟨some 35, .fieldAddr 1 (.t 7), none, []⟩,
      ⟨some 36, .load false 1 (.t 35), none, [1]⟩,
      ⟨some 37, .fieldAddr 2 (.t 7), none, []⟩,
      ⟨some 38, .load false 1 (.t 37), none, [1]⟩,
      ⟨some 39, .callv (.t 34) [(.t 36), (.t 38)], none, []⟩,
      ⟨some 40, .build [(.lit (.int .i64 0)), (.lit (.int .i64 0)), (.lit (.int .i64 0)), (.lit (.int .i64 0))] [], none, []⟩,
      ⟨some 8, .mov (.t 39), none, []⟩,
      ⟨none, .store 4 (.t 9) (.t 40), none, []⟩,
      ⟨some 10, .mov (.c (.bool false)), none, []⟩] [8, 9, 10])
    (.ret))
    (.seq (.seq (.region none [⟨some 42, .bin .eql (.t 11) (.c (.int .i64 13)), none, []⟩,
      ⟨some 41, .mov (.t 42), none, []⟩] [0, 1, 6, 7, 9, 11, 41])
    (.cond (.t 41)
     (.skip)
     (.region none [⟨some 43, .bin .eql (.t 11) (.c (.int .i64 17)), none, []⟩,
       ⟨some 41, .mov (.t 43), none, []⟩] [0, 1, 6, 7, 9, 41])))
    (.cond (.t 41)
     (.seq (.region (some []) [⟨some 44, .mov (.t 0), none, []⟩,
       ⟨some 45, .call 76 [(.t 44)], none, []⟩,
       ⟨some 46, .fieldAddr 1 (.t 7), none, []⟩,
       ⟨some 47, .load false 1 (.t 46), none, [1]⟩,
       ⟨some 48, .callv (.t 45) [(.t 47)], none, []⟩,
       ⟨some 49, .build [(.lit (.int .i64 0)), (.lit (.int .i64 0)), (.lit (.int .i64 0)), (.lit (.int .i64 0))] [], none, []⟩,
       ⟨some 8, .mov (.t 48), none, []⟩,
       ⟨none, .store 4 (.t 9) (.t 49), none, []⟩,
       ⟨some 10, .mov (.c (.bool false)), none, []⟩] [8, 9, 10])
     (.ret))
     (.skip)))))))))
  (.seq (.region (some []) [⟨some 50, .mov (.t 0), none, []⟩,
    ⟨some 51, .call 77 [(.t 50)], none, []⟩,
    ⟨some 52, .mov (.t 1), none, []⟩,
    ⟨some 53, .load true 16 (.t 6), none, [1]⟩,
    ⟨some 54, .load true 3 (.t 7), none, [1]⟩,
    ⟨some 55, .callv (.t 51) [(.t 52), (.t 53), (.t 54)], none, []⟩,
    ⟨some 56, .extract (.t 55) 0, none, []⟩,
    ⟨some 57, .extract (.t 55) 1, none, []⟩,
    ⟨some 58, .extract (.t 55) 2, none, []⟩,
    ⟨some 8, .mov (.t 56), none, []⟩,
    ⟨none, .store 4 (.t 9) (.t 57), none, []⟩,
    ⟨some 10, .mov (.t 58), none, []⟩] [8, 9, 10] [5])
  (.ret))), false, false, false⟩
/-- arenanet/arenanetref12.Size -/
def F65 : PFun := ⟨1, [.tmp 2],
  .seq (.region none [⟨some 1, .box (.t 0), none, []⟩,
    ⟨some 2, .mov (.c (.int .i64 0)), none, []⟩] [1])
  (.seq (.region none [⟨some 3, .fieldAddr 0 (.t 1), none, []⟩,
    ⟨some 4, .load false 1 (.t 3), none, []⟩,
    ⟨some 5, .bin .mul (.c (.int .i64 4)) (.t 4), none, []⟩,
    ⟨some 6, .bin .add (.c (.int .i64 48)) (.t 5), none, []⟩,
    ⟨some 7, .fieldAddr 1 (.t 1), none, []⟩,
    ⟨some 8, .load false 1 (.t 7), none, []⟩,
    ⟨some 9, .len .sl (.t 8), none, []⟩,
    ⟨some 10, .bin .mul (.c (.int .i64 8)) (.t 9), none, []⟩,
    ⟨some 11, .bin .add (.t 6) (.t 10), none, []⟩,
    ⟨some 2, .mov (.t 11), none, []⟩] [2])
  (.ret)), false, false, false⟩
/-- arenanet/arenanetref12.Body -/
def F66 : PFun := ⟨2, [.tmp 4],
  .seq (.region none [⟨some 2, .box (.t 0), none, []⟩,
    ⟨some 4, .mov (.c (.int .i64 0)), none, []⟩] [1, 2])
  (.seq (.seq (.region none [⟨some 5, .mov (.t 1), none, []⟩,
    ⟨some 6, .bin .lss (.t 5) (.c (.int .i64 0)), none, []⟩,
    ⟨some 7, .mov (.t 6), none, []⟩,
    ⟨some 8, .mov (.t 1), some (7, false), []⟩,
    ⟨some 9, .fieldAddr 1 (.t 2), some (7, false), []⟩,
    ⟨some 10, .load false 1 (.t 9), some (7, false), []⟩,
    ⟨some 11, .len .sl (.t 10), some (7, false), []⟩,
    ⟨some 12, .bin .geq (.t 8) (.t 11), some (7, false), []⟩,
    ⟨some 13, .pick (.t 7) (.c (.bool true)) (.t 12), none, []⟩] [1, 2, 13])
  (.cond (.t 13)
   (.seq (.region none [⟨some 4, .mov (.c (.int .i64 (-1))), none, []⟩] [4])
   (.ret))
   (.skip)))
  (.seq (.region none [⟨some 14, .fieldAddr 0 (.t 2), none, []⟩,
    ⟨some 15, .load false 1 (.t 14), none, []⟩,
    ⟨some 16, .bin .mul (.c (.int .i64 4)) (.t 15), none, []⟩,
    ⟨some 17, .bin .add (.c (.int .i64 48)) (.t 16), none, []⟩,
    ⟨some 18, .mov (.t 1), none, []⟩,
    ⟨some 19, .bin .mul (.c (.int .i64 8)) (.t 18), none, []⟩,
    ⟨some 20, .bin .add (.t 17) (.t 19), none, []⟩,
    ⟨some 4, .mov (.t 20), none, []⟩] [4])
  (.ret))), false, false, false⟩
/-- arenanet/arenanetref16.valid -/
def F67 : PFun := ⟨2, [.tmp 4],
  .seq (.region none [⟨some 3, .box (.t 1), none, []⟩,
    ⟨some 4, .mov (.c (.bool false)), none, []⟩] [0, 3])
  (.seq (.seq (.region (some []) [⟨some 7, .mov (.t 0), none, []⟩,
    ⟨some 8, .indexAddr 1 (.t 7) (.c (.int .i64 8)), none, []⟩,
    ⟨some 9, .load false 1 (.t 8), none, []⟩,
    ⟨some 10, .bin .lss (.t 9) (.c (.int .i64 1)), none, []⟩,
    ⟨some 11, .mov (.t 10), none, []⟩,
    ⟨some 12, .mov (.t 0), some (11, false), []⟩,
    ⟨some 13, .indexAddr 1 (.t 12) (.c (.int .i64 6)), some (11, false), []⟩,
    ⟨some 14, .load false 1 (.t 13), some (11, false), []⟩,
    ⟨some 15, .bin .lss (.t 14) (.c (.int .i64 0)), some (11, false), []⟩,
    ⟨some 16, .pick (.t 11) (.c (.bool true)) (.t 15), none, []⟩,
    ⟨some 17, .mov (.t 16), none, []⟩,
    ⟨some 18, .mov (.t 0), some (17, false), []⟩,
    ⟨some 19, .indexAddr 1 (.t 18) (.c (.int .i64 6)), some (17, false), []⟩,
    ⟨some 20, .load false 1 (.t 19), some (17, false), []⟩,
    ⟨some 21, .fieldAddr 0 (.t 3), some (17, false), []⟩,
    ⟨some 22, .load false 1 (.t 21), some (17, false), []⟩,
    ⟨some 23, .len .sl (.t 22), some (17, false), []⟩,
    ⟨some 24, .bin .geq (.t 20) (.t 23), some (17, false), []⟩,
    ⟨some 25, .pick (.t 17) (.c (.bool true)) (.t 24), none, []⟩] [0, 3, 25])
  (.cond (.t 25)
   (.seq (.region none [⟨some 4, .mov (.c (.bool false)), none, []⟩] [4])
   (.ret))
   (.skip)))
  (.seq (.region (some [(104, [(.lit (.int .i64 0)), (.lit (.int .i64 0))])]) [⟨some 26, .fieldAddr 0 (.t 3), none, []⟩,
    ⟨some 27, .load false 1 (.t 26), none, []⟩,
    ⟨some 28, .mov (.t 0), none, []⟩,
    ⟨some 29, .indexAddr 1 (.t 28) (.c (.int .i64 6)), none, []⟩,
    ⟨some 30, .load false 1 (.t 29), none, []⟩,
    ⟨some 31, .indexAddr 2 (.t 27) (.t 30), none, []⟩,
    ⟨some 32, .load true 2 (.t 31), none, []⟩,
    ⟨some 5, .fill 104, none, []⟩,
    ⟨none, .store 2 (.t 5) (.t 32), none, []⟩] [0, 5])
  (.seq (.region none [⟨some 33, .fieldAddr 0 (.t 5), none, []⟩,
    ⟨some 34, .load false 1 (.t 33), none, []⟩,
    ⟨some 35, .call 68 [(.t 34)], none, []⟩,
    ⟨some 6, .mov (.t 35), none, []⟩] [0, 5, 6])
  (.seq (.seq (.region (some []) [⟨some 36, .mov (.t 6), none, []⟩,
    ⟨some 37, .bin .lss (.t 36) (.c (.int .i64 0)), none, []⟩,
    ⟨some 38, .mov (.t 37), none, []⟩,
    ⟨some 39, .mov (.t 0), some (38, false), []⟩,
    ⟨some 40, .indexAddr 1 (.t 39) (.c (.int .i64 7)), some (38, false), []⟩,
    ⟨some 41, .load false 1 (.t 40), some (38, false), []⟩,
    ⟨some 42, .mov (.t 6), some (38, false), []⟩,
    ⟨some 43, .bin .lss (.t 41) (.t 42), some (38, false), []⟩,
    ⟨some 44, .pick (.t 38) (.c (.bool true)) (.t 43), none, []⟩,
    ⟨some 45, .mov (.t 44), none, []⟩,
    ⟨some 46, .mov (.t 0), some (45, false), []⟩,
    ⟨some 47, .indexAddr 1 (.t 46) (.c (.int .i64 7)), some (45, false), []⟩,
    ⟨some 48, .load false 1 (.t 47), some (45, false), []⟩,
    ⟨some 49, .bin .gtr (.t 48) (.c (.int .i64 16)), some (45, false), []⟩,
    ⟨some 50, .pick (.t 45) (.c (.bool true)) (.t 49), none, []⟩,
    ⟨some 51, .mov (.t 50), none, []⟩,
    ⟨some 52, .mov (.t 0), some (51, false), []⟩,
    ⟨some 53, .indexAddr 1 (.t 52) (.c (.int .i64 7)), some (51, false), []⟩,
    ⟨some 54, .load false 1 (.t 53), some (51, false), [23]⟩,
    ⟨some 55, .mov (.t 6), some (51, false), []⟩,
    ⟨some 56, .bin .sub (.t 54) (.t 55), some (51, false), []⟩,
    ⟨some 57, .fieldAddr 0 (.t 5), some (51, false), []⟩,
    ⟨some 58, .load false 1 (.t 57), some (51, false), []⟩,
    ⟨some 59, .call 72 [(.t 58)], some (51, false), []⟩,
    ⟨some 60, .bin .add (.t 56) (.t 59), some (51, false), []⟩,
    ⟨some 61, .bin .gtr (.t 60) (.c (.int .i64 16)), some (51, false), []⟩,
    ⟨some 62, .pick (.t 51) (.c (.bool true)) (.t 61), none, []⟩] [5, 62] [23])
  (.cond (.t 62)
   (.seq (.region none [⟨some 4, .mov (.c (.bool false)), none, []⟩] [4])
   (.ret))
   (.skip)))
  (.seq (.seq (.region none [⟨some 63, .fieldAddr 0 (.t 5), none, []⟩,
    ⟨some 64, .load false 1 (.t 63), none, []⟩,
    ⟨some 65, .bin .eql (.t 64) (.c (.int .i64 2)), none, []⟩,
    ⟨some 66, .mov (.t 65), none, []⟩,
    ⟨some 67, .fieldAddr 0 (.t 5), some (66, false), []⟩,
    ⟨some 68, .load false 1 (.t 67), some (66, false), []⟩,
    ⟨some 69, .bin .eql (.t 68) (.c (.int .i64 3)), some (66, false), []⟩,
    ⟨some 70, .pick (.t 66) (.c (.bool true)) (.t 69), none, []⟩,
    ⟨some 71, .mov (.t 70), none, []⟩,
    ⟨some 72, .fieldAddr 1 (.t 5), some (71, true), []⟩,
    ⟨some 73, .load false 1 (.t 72), some (71, true), []⟩,
    ⟨some 74, .bin .lss (.t 73) (.c (.int .i64 0)), some (71, true), []⟩,
    ⟨some 75, .mov (.t 74), some (71, true), []⟩,
    ⟨some 76, .fieldAddr 1 (.t 5), some (75, false), []⟩,
    ⟨some 77, .load false 1 (.t 76), some (75, false), []⟩,
    ⟨some 78, .bin .gtr (.t 77) (.c (.int .i64 15)), some (75, false), []⟩,
    ⟨some 79, .pick (.t 75) (.c (.bool true)) (.t 78), some (71, true), []⟩,
    ⟨some 80, .pick (.t 71) (.t 79) (.c (.bool false)), none, []⟩] [5, 80])
  (.cond (.t 80)
   (.seq (.region none [⟨some 4, .mov (.c (.bool false)), none, []⟩] [4])
   (.ret))
   (.skip)))
  (.seq (.region none [⟨some 81, .fieldAddr 0 (.t 5), none, []⟩,
    ⟨some 82, .load false 1 (.t 81), none, []⟩,
    ⟨some 83, .bin .neq (.t 82) (.c (.int .i64 4)), none, []⟩,
    ⟨some 84, .mov (.t 83), none, []⟩,
    ⟨some 85, .fieldAddr 0 (.t 5), some (84, true), []⟩,
    ⟨some 86, .load false 1 (.t 85), some (84, true), []⟩,
    ⟨some 87, .bin .neq (.t 86) (.c (.int .i64 5)), some (84, true), []⟩,
    ⟨some 88, .pick (.t 84) (.t 87) (.c (.bool false)), none, []⟩,
    ⟨some 89, .mov (.t 88), none, []⟩,
    ⟨some 90, .fieldAddr 1 (.t 5), some (89, false), []⟩,
    ⟨some 91, .load false 1 (.t 90), some (89, false), []⟩,
    ⟨some 92, .bin .geq (.t 91) (.c (.int .i64 0)), some (89, false), []⟩,
    ⟨some 93, .mov (.t 92), some (89, false), []⟩,
    ⟨some 94, .fieldAddr 1 (.t 5), some (93, true), []⟩,
    ⟨some 95, .load false 1 (.t 94), some (93, true), []⟩,
    ⟨some 96, .bin .leq (.t 95) (.c (.int .i64 7)), some (93, true), []⟩,
    ⟨some 97, .pick (.t 93) (.t 96) (.c (.bool false)), some (89, false), []⟩,
    ⟨some 98, .pick (.t 89) (.c (.bool true)) (.t 97), none, []⟩,
    ⟨some 4, .mov (.t 98), none, []⟩] [4])
  (.ret))))))), false, false, false⟩
/-- arenanet/arenanetref16.Pops -/
def F68 : PFun := ⟨1, [.tmp 2],
  .seq (.region none [⟨some 2, .mov (.c (.int .i64 0)), none, []⟩] [0])
  (.seq (.seq (.region none [⟨some 3, .mov (.t 0), none, []⟩] [3])
  (.block 0 (.seq (.seq (.region none [⟨some 5, .bin .eql (.t 3) (.c (.int .i64 1)), none, []⟩,
    ⟨some 4, .mov (.t 5), none, []⟩] [3, 4])
  (.cond (.t 4)
   (.skip)
   (.seq (.region none [⟨some 6, .bin .eql (.t 3) (.c (.int .i64 2)), none, []⟩,
     ⟨some 4, .mov (.t 6), none, []⟩] [3, 4])
   (.cond (.t 4)
    (.skip)
    (.seq (.region none [⟨some 7, .bin .eql (.t 3) (.c (.int .i64 6)), none, []⟩,
      ⟨some 4, .mov (.t 7), none, []⟩] [3, 4])
    (.cond (.t 4)
     (.skip)
     (.seq (.region none [⟨some 8, .bin .eql (.t 3) (.c (.int .i64 7)), none, []⟩,
       ⟨some 4, .mov (.t 8), none, []⟩] [3, 4])
     (.cond (.t 4)
      (.skip)
      (.seq (.region none [⟨some 9, .bin .eql (.t 3) (.c (.int .i64 8)), none, []⟩,
        ⟨some 4, .mov (.t 9), none, []⟩] [3, 4])
      (.cond (.t 4)
       (.skip)
       (.seq (.region none [⟨some 10, .bin .eql (.t 3) (.c (.int .i64 18)), none, []⟩,
         ⟨some 4, .mov (.t 10), none, []⟩] [3, 4])
       (.cond (.t 4)
        (.skip)
        (.region none [⟨some 11, .bin .eql (.t 3) (.c (.int .i64 21)), none, []⟩,
          ⟨some 4, .mov (.t 11), none, []⟩] [3, 4])))))))))))))
  (.cond (.t 4)
   (.seq (.region none [⟨some 2, .mov (.c (.int .i64 0)), none, []⟩] [2])
   (.ret))
   (.seq (.seq (.region none [⟨some 13, .bin .eql (.t 3) (.c (.int .i64 3)), none, []⟩,
     ⟨some 12, .mov (.t 13), none, []⟩] [3, 12])
   (.cond (.t 12)
    (.skip)
    (.seq (.region none [⟨some 14, .bin .eql (.t 3) (.c (.int .i64 4)), none, []⟩,
      ⟨some 12, .mov (.t 14), none, []⟩] [3, 12])
    (.cond (.t 12)
     (.skip)
     (.seq (.region none [⟨some 15, .bin .eql (.t 3) (.c (.int .i64 13)), none, []⟩,
       ⟨some 12, .mov (.t 15), none, []⟩] [3, 12])
     (.cond (.t 12)
      (.skip)
      (.seq (.region none [⟨some 16, .bin .eql (.t 3) (.c (.int .i64 17)), none, []⟩,
        ⟨some 12, .mov (.t 16), none, []⟩] [3, 12])
      (.cond (.t 12)
       (.skip)
       (.region none [⟨some 17, .bin .eql (.t 3) (.c (.int .i64 19)), none, []⟩,
         ⟨some 12, .mov (.t 17), none, []⟩] [3, 12])))))))))
   (.cond (.t 12)
    (.seq (.region none [⟨some 2, .mov (.c (.int .i64 1)), none, []⟩] [2])
    (.ret))
    (.seq (.seq (.region none [⟨some 19, .bin .eql (.t 3) (.c (.int .i64 5)), none, []⟩,
      ⟨some 18, .mov (.t 19), none, []⟩] [3, 18])
    (.cond (.t 18)
     (.skip)
     (.seq (.region none [⟨some 20, .bin .eql (.t 3) (.c (.int .i64 9)), none, []⟩,
       ⟨some 18, .mov (.t 20), none, []⟩] [3, 18])
     (.cond (.t 18)
      (.skip)
      (.seq (.region none [⟨some 21, .bin .eql (.t 3) (.c (.int .i64 10)), none, []⟩,
        ⟨some 18, .mov (.t 21), none, []⟩] [3, 18])
      (.cond (.t 18)
       (.skip)
       (.seq (.region none [⟨some 22, .bin .eql (.t 3) (.c (.int .i64 11)), none, []⟩,
         ⟨some 18, .mov (.t 22), none, []⟩] [3, 18])
       (.cond (.t 18)
        (.skip)
        (.seq (.region none [⟨some 23, .bin .eql (.t 3) (.c (.int .i64 12)), none, []⟩,
          ⟨some 18, .mov (.t 23), none, []⟩] [3, 18])
        (.cond (.t 18)
         (.skip)
         (.seq (.region none [⟨some 24, .bin .eql (.t 3) (.c (.int .i64 14)), none, []⟩,
           ⟨some 18, .mov (.t 24), none, []⟩] [3, 18])
         (.cond (.t 18)
          (.skip)
          (.seq (.region none [⟨some 25, .bin .eql (.t 3) (.c (.int .i64 15)), none, []⟩,
            ⟨some 18, .mov (.t 25), none, []⟩] [3, 18])
          (.cond (.t 18)
           (.skip)
           (.seq (.region none [⟨some 26, .bin .eql (.t 3) (.c (.int .i64 16)), none, []⟩,
             ⟨some 18, .mov (.t 26), none, []⟩] [3, 18])
           (.cond (.t 18)
            (.skip)
            (.region none [⟨some 27, .bin .eql (.t 3) (.c (.int .i64 20)), none, []⟩,
              ⟨some 18, .mov (.t 27), none, []⟩] [18])))))))))))))))))
    (.cond (.t 18)
     (.seq (.region none [⟨some 2, .mov (.c (.int .i64 2)), none, []⟩] [2])
     (.ret))
     (.skip)))))))))
  (.seq (.region none [⟨some 2, .mov (.c (.int .i64 (-1))), none, []⟩] [2])
  (.ret))), false, false, false⟩
/-- arenanet/arenanetref16.Load -/
def F1000 : PFun := ⟨4, [.tmp 8],
  .seq (.region none [⟨some 5, .box (.t 1), none, []⟩,
    ⟨some 8, .mov (.c (.int .i64 0)), none, []⟩] [0, 2, 3, 5])
  (.seq (.region none [⟨some 10, .load true 16 (.t 5), none, []⟩,
    ⟨some 11, .mov (.t 2), none, []⟩,
    ⟨some 12, .call 66 [(.t 10), (.t 11)], none, []⟩,
    ⟨some 9, .mov (.t 12), none, []⟩] [0, 3, 9])
  (.seq (.seq (.region none [⟨some 13, .mov (.t 9), none, []⟩,
    ⟨some 14, .bin .lss (.t 13) (.c (.int .i64 0)), none, []⟩] [0, 3, 9, 14])
  (.cond (.t 14)
   (.seq (.region none [⟨some 8, .mov (.c (.int .i64 0)), none, []⟩] [8])
   (.ret))
   (.skip)))
  (.seq (.region none [⟨some 15, .mov (.t 0), none, []⟩,
    ⟨some 16, .mov (.t 9), none, []⟩,
    ⟨some 17, .mov (.t 3), none, []⟩,
    ⟨some 18, .bin .add (.t 16) (.t 17), none, []⟩,
    ⟨some 19, .indexAddr 1 (.t 15) (.t 18), none, []⟩,
    ⟨some 20, .load false 1 (.t 19), none, []⟩,
    ⟨some 8, .mov (.t 20), none, []⟩] [8])
  (.ret)))), false, false, false⟩
/-- arenanet/arenanetref16.Store -/
def F69 : PFun := ⟨5, [.tmp 10],
  .seq (.region none [⟨some 6, .box (.t 1), none, []⟩,
    ⟨some 10, .mov (.c (.slice none 0 0)), none, []⟩] [0, 2, 3, 4, 6])
  (.seq (.region none [⟨some 13, .load true 16 (.t 6), none, []⟩,
    ⟨some 14, .mov (.t 2), none, []⟩,
    ⟨some 15, .call 66 [(.t 13), (.t 14)], none, []⟩,
    ⟨some 11, .mov (.t 15), none, []⟩] [0, 3, 4, 11])
  (.seq (.seq (.region none [⟨some 16, .mov (.t 11), none, []⟩,
    ⟨some 17, .bin .lss (.t 16) (.c (.int .i64 0)), none, []⟩] [0, 3, 4, 11, 17])
  (.cond (.t 17)
   (.seq (.region none [⟨some 18, .mov (.t 0), none, []⟩,
     ⟨some 10, .mov (.t 18), none, []⟩] [10])
   (.ret))
   (.skip)))
  (.seq (.seq (.region none [⟨some 19, .mov (.t 3), none, []⟩,
    ⟨some 20, .bin .lss (.t 19) (.c (.int .i64 2)), none, []⟩] [0, 3, 4, 11, 20])
  (.cond (.t 20)
   (.region none [⟨some 21, .mov (.t 4), none, []⟩,
     ⟨some 22, .call 78 [(.t 21), (.c (.int .i64 (-1048576))), (.c (.int .i64 1048576))], none, []⟩,
     ⟨some 4, .mov (.t 22), none, []⟩] [0, 3, 4, 11])
   (.seq (.region none [⟨some 23, .mov (.t 3), none, []⟩,
     ⟨some 24, .bin .lss (.t 23) (.c (.int .i64 4)), none, []⟩] [0, 3, 4, 11, 24])
   (.cond (.t 24)
    (.region none [⟨some 25, .mov (.t 4), none, []⟩,
      ⟨some 26, .call 78 [(.t 25), (.c (.int .i64 (-16384))), (.c (.int .i64 16384))], none, []⟩,
      ⟨some 4, .mov (.t 26), none, []⟩] [0, 3, 4, 11])
    (.skip)))))
  (.seq (.region none [⟨some 27, .bslice 0 [] [], none, []⟩,
    ⟨some 28, .mov (.t 0), none, []⟩,
    ⟨some 29, .appendO 1 8 (.t 27) (.t 28), none, []⟩,
    ⟨some 12, .mov (.t 29), none, []⟩] [3, 4, 11, 12])
  (.seq (.region none [⟨some 30, .mov (.t 12), none, []⟩,
    ⟨some 31, .mov (.t 11), none, []⟩,
    ⟨some 32, .mov (.t 3), none, []⟩,
    ⟨some 33, .bin .add (.t 31) (.t 32), none, []⟩,
    ⟨some 34, .mov (.t 4), none, []⟩,
    ⟨some 35, .indexAddr 1 (.t 30) (.t 33), none, []⟩,
    ⟨none, .store 1 (.t 35) (.t 34), none, []⟩] [12])
  (.seq (.region none [⟨some 36, .mov (.t 12), none, []⟩,
    ⟨some 10, .mov (.t 36), none, []⟩] [10])
  (.ret))))))), false, false, false⟩
def F70l0 : PC := (.seq (.seq (.region none [⟨some 12, .mov (.t 7), none, []⟩,
     ⟨some 13, .mov (.t 6), none, []⟩,
     ⟨some 14, .len .sl (.t 13), none, []⟩,
     ⟨some 15, .bin .lss (.t 12) (.t 14), none, []⟩] [0, 1, 5, 6, 7, 15])
   (.cond (.t 15)
    (.skip)
    (.exit 0)))
   (.seq (.block 1 (.region none [⟨some 18, .mov (.t 5), none, []⟩,
     ⟨some 19, .mov (.t 6), none, []⟩,
     ⟨some 20, .mov (.t 7), none, []⟩,
     ⟨some 21, .indexAddr 1 (.t 19) (.t 20), none, []⟩,
     ⟨some 22, .load false 1 (.t 21), none, []⟩,
     ⟨some 23, .call 80 [(.t 18), (.t 22)], none, []⟩,
     ⟨some 5, .mov (.t 23), none, []⟩] [0, 1, 5, 6, 7]))
   (.region none [⟨some 16, .mov (.t 7), none, []⟩,
     ⟨some 17, .bin .add (.t 16) (.c (.int .i64 1)), none, []⟩,
     ⟨some 7, .mov (.t 17), none, []⟩] [0, 1, 5, 6, 7])))
theorem run_F70l0 (C : Task → Option Res) (k : Nat) (fr : Fr) (σ : S) : run C k F70l0 fr σ = run C k (.seq (.seq (.region none [⟨some 12, .mov (.t 7), none, []⟩,
     ⟨some 13, .mov (.t 6), none, []⟩,
     ⟨some 14, .len .sl (.t 13), none, []⟩,
     ⟨some 15, .bin .lss (.t 12) (.t 14), none, []⟩] [0, 1, 5, 6, 7, 15])
   (.cond (.t 15)
    (.skip)
    (.exit 0)))
   (.seq (.block 1 (.region none [⟨some 18, .mov (.t 5), none, []⟩,
     ⟨some 19, .mov (.t 6), none, []⟩,
     ⟨some 20, .mov (.t 7), none, []⟩,
     ⟨some 21, .indexAddr 1 (.t 19) (.t 20), none, []⟩,
     ⟨some 22, .load false 1 (.t 21), none, []⟩,
     ⟨some 23, .call 80 [(.t 18), (.t 22)], none, []⟩,
     ⟨some 5, .mov (.t 23), none, []⟩] [0, 1, 5, 6, 7]))
   (.region none [⟨some 16, .mov (.t 7), none, []⟩,
     ⟨some 17, .bin .add (.t 16) (.c (.int .i64 1)), none, []⟩,
     ⟨some 7, .mov (.t 17), none, []⟩] [0, 1, 5, 6, 7]))) fr σ := rfl
def F70l1 : PC := (.seq (.seq (.region none [⟨some 34, .mov (.t 8), none, []⟩,
     ⟨some 35, .mov (.t 1), none, []⟩,
     ⟨some 36, .len .sl (.t 35), none, []⟩,
     ⟨some 37, .bin .lss (.t 34) (.t 36), none, []⟩] [1, 5, 8, 37])
   (.cond (.t 37)
    (.skip)
    (.exit 2)))
   (.seq (.block 3 (.region none [⟨some 40, .mov (.t 5), none, []⟩,
     ⟨some 41, .mov (.t 1), none, []⟩,
     ⟨some 42, .mov (.t 8), none, []⟩,
     ⟨some 43, .indexAddr 1 (.t 41) (.t 42), none, []⟩,
     ⟨some 44, .load false 1 (.t 43), none, []⟩,
     ⟨some 45, .conv (.int .u64) (.t 44), none, []⟩,
     ⟨some 46, .call 80 [(.t 40), (.t 45)], none, []⟩,
     ⟨some 5, .mov (.t 46), none, []⟩] [1, 5, 8]))
   (.region none [⟨some 38, .mov (.t 8), none, []⟩,
     ⟨some 39, .bin .add (.t 38) (.c (.int .i64 1)), none, []⟩,
     ⟨some 8, .mov (.t 39), none, []⟩] [1, 5, 8])))
theorem run_F70l1 (C : Task → Option Res) (k : Nat) (fr : Fr) (σ : S) : run C k F70l1 fr σ = run C k (.seq (.seq (.region none [⟨some 34, .mov (.t 8), none, []⟩,
     ⟨some 35, .mov (.t 1), none, []⟩,
     ⟨some 36, .len .sl (.t 35), none, []⟩,
     ⟨some 37, .bin .lss (.t 34) (.t 36), none, []⟩] [1, 5, 8, 37])
   (.cond (.t 37)
    (.skip)
    (.exit 2)))
   (.seq (.block 3 (.region none [⟨some 40, .mov (.t 5), none, []⟩,
     ⟨some 41, .mov (.t 1), none, []⟩,
     ⟨some 42, .mov (.t 8), none, []⟩,
     ⟨some 43, .indexAddr 1 (.t 41) (.t 42), none, []⟩,
     ⟨some 44, .load false 1 (.t 43), none, []⟩,
     ⟨some 45, .conv (.int .u64) (.t 44), none, []⟩,
     ⟨some 46, .call 80 [(.t 40), (.t 45)], none, []⟩,
     ⟨some 5, .mov (.t 46), none, []⟩] [1, 5, 8]))
   (.region none [⟨some 38, .mov (.t 8), none, []⟩,
     ⟨some 39, .bin .add (.t 38) (.c (.int .i64 1)), none, []⟩,
     ⟨some 8, .mov (.t 39), none, []⟩] [1, 5, 8]))) fr σ := rfl
/-- arenanet/arenanetref10.Sum -/
def F70 : PFun := ⟨2, [.tmp 4],
  .seq (.region none [⟨some 4, .mov (.c (.int .u64 0)), none, []⟩] [0, 1])
  (.seq (.region none [⟨some 5, .mov (.c (.int .u64 0)), none, []⟩] [0, 1, 5])
  (.seq (.region none [⟨some 9, .mov (.t 0), none, []⟩,
    ⟨some 10, .bytes (.t 9), none, []⟩,
    ⟨some 11, .call 79 [(.t 10)], none, []⟩,
    ⟨some 6, .mov (.t 11), none, []⟩] [0, 1, 5, 6])
  (.seq (.seq (.region none [⟨some 7, .mov (.c (.int .i64 0)), none, []⟩] [0, 1, 5, 6, 7])
  (.block 0 (.loop F70l0)))
  (.seq (.region none [⟨some 24, .mov (.t 5), none, []⟩,
    ⟨some 25, .mov (.t 0), none, []⟩,
    ⟨some 26, .len .str (.t 25), none, []⟩,
    ⟨some 27, .conv (.int .u64) (.t 26), none, []⟩,
    ⟨some 28, .call 80 [(.t 24), (.t 27)], none, []⟩,
    ⟨some 5, .mov (.t 28), none, []⟩] [1, 5])
  (.seq (.region none [⟨some 29, .mov (.t 5), none, []⟩,
    ⟨some 30, .mov (.t 1), none, []⟩,
    ⟨some 31, .len .sl (.t 30), none, []⟩,
    ⟨some 32, .conv (.int .u64) (.t 31), none, []⟩,
    ⟨some 33, .call 80 [(.t 29), (.t 32)], none, []⟩,
    ⟨some 5, .mov (.t 33), none, []⟩] [1, 5])
  (.seq (.seq (.region none [⟨some 8, .mov (.c (.int .i64 0)), none, []⟩] [1, 5, 8])
  (.block 2 (.loop F70l1)))
  (.seq (.region none [⟨some 47, .mov (.t 5), none, []⟩,
    ⟨some 48, .call 80 [(.t 47), (.c (.int .u64 0))], none, []⟩,
    ⟨some 4, .mov (.t 48), none, []⟩] [4])
  (.ret)))))))), false, false, false⟩
/-- arenanet/arenanetref16.Apply -/
def F71 : PFun := ⟨3, [.tmp 6],
  .seq (.region none [⟨some 6, .mov (.c (.int .i64 0)), none, []⟩] [0, 1, 2])
  (.seq (.seq (.region none [⟨some 7, .mov (.t 0), none, []⟩] [1, 2, 7])
  (.block 0 (.seq (.region none [⟨some 9, .bin .eql (.t 7) (.c (.int .i64 9)), none, []⟩,
    ⟨some 8, .mov (.t 9), none, []⟩] [1, 2, 7, 8])
  (.cond (.t 8)
   (.seq (.region none [⟨some 10, .mov (.t 1), none, []⟩,
     ⟨some 11, .mov (.t 2), none, []⟩,
     ⟨some 12, .bin .add (.t 10) (.t 11), none, []⟩,
     ⟨some 13, .call 81 [(.t 12)], none, []⟩,
     ⟨some 6, .mov (.t 13), none, []⟩] [6])
   (.ret))
   (.seq (.region none [⟨some 15, .bin .eql (.t 7) (.c (.int .i64 10)), none, []⟩,
     ⟨some 14, .mov (.t 15), none, []⟩] [1, 2, 7, 14])
   (.cond (.t 14)
    (.seq (.region none [⟨some 16, .mov (.t 1), none, []⟩,
      ⟨some 17, .mov (.t 2), none, []⟩,
      ⟨some 18, .bin .sub (.t 16) (.t 17), none, []⟩,
      ⟨some 19, .call 81 [(.t 18)], none, []⟩,
      ⟨some 6, .mov (.t 19), none, []⟩] [6])
    (.ret))
    (.seq (.region none [⟨some 21, .bin .eql (.t 7) (.c (.int .i64 11)), none, []⟩,
      ⟨some 20, .mov (.t 21), none, []⟩] [1, 2, 7, 20])
    (.cond (.t 20)
     (.seq (.region none [⟨some 22, .mov (.t 1), none, []⟩,
       ⟨some 23, .mov (.t 2), none, []⟩,
       ⟨some 24, .bin .mul (.t 22) (.t 23), none, []⟩,
       ⟨some 25, .call 81 [(.t 24)], none, []⟩,
       ⟨some 6, .mov (.t 25), none, []⟩] [6])
     (.ret))
     (.seq (.region none [⟨some 27, .bin .eql (.t 7) (.c (.int .i64 12)), none, []⟩,
       ⟨some 26, .mov (.t 27), none, []⟩] [1, 2, 7, 26])
     (.cond (.t 26)
      (.seq (.seq (.region none [⟨some 28, .mov (.t 2), none, []⟩,
        ⟨some 29, .bin .eql (.t 28) (.c (.int .i64 0)), none, []⟩] [1, 2, 29])
      (.cond (.t 29)
       (.seq (.region none [⟨some 6, .mov (.c (.int .i64 0)), none, []⟩] [6])
       (.ret))
       (.skip)))
      (.seq (.region none [⟨some 30, .mov (.t 1), none, []⟩,
        ⟨some 31, .mov (.t 2), none, []⟩,
        ⟨some 32, .bin .quo (.t 30) (.t 31), none, []⟩,
        ⟨some 33, .call 81 [(.t 32)], none, []⟩,
        ⟨some 6, .mov (.t 33), none, []⟩] [6])
      (.ret)))
      (.seq (.region none [⟨some 35, .bin .eql (.t 7) (.c (.int .i64 13)), none, []⟩,
        ⟨some 34, .mov (.t 35), none, []⟩] [1, 2, 7, 34])
      (.cond (.t 34)
       (.seq (.region none [⟨some 36, .mov (.t 1), none, []⟩,
         ⟨some 37, .un .neg (.t 36), none, []⟩,
         ⟨some 38, .call 81 [(.t 37)], none, []⟩,
         ⟨some 6, .mov (.t 38), none, []⟩] [6])
       (.ret))
       (.seq (.region none [⟨some 40, .bin .eql (.t 7) (.c (.int .i64 14)), none, []⟩,
         ⟨some 39, .mov (.t 40), none, []⟩] [1, 2, 7, 39])
       (.cond (.t 39)
        (.seq (.region none [⟨some 41, .mov (.t 1), none, []⟩,
          ⟨some 42, .mov (.t 2), none, []⟩,
          ⟨some 43, .bin .lss (.t 41) (.t 42), none, []⟩,
          ⟨some 44, .call 61 [(.t 43)], none, []⟩,
          ⟨some 6, .mov (.t 44), none, []⟩] [6])
        (.ret))
        (.seq (.region none [⟨some 46, .bin .eql (.t 7) (.c (.int .i64 15)), none, []⟩,
          ⟨some 45, .mov (.t 46), none, []⟩] [1, 2, 7, 45])
        (.cond (.t 45)
         (.seq (.region none [⟨some 47, .mov (.t 1), none, []⟩,
           ⟨some 48, .mov (.t 2), none, []⟩,
           ⟨some 49, .bin .leq (.t 47) (.t 48), none, []⟩,
           ⟨some 50, .call 61 [(.t 49)], none, []⟩,
           ⟨some 6, .mov (.t 50), none, []⟩] [6])
         (.ret))
         (.seq (.region none [⟨some 52, .bin .eql (.t 7) (.c (.int .i64 16)), none, []⟩,
           ⟨some 51, .mov (.t 52), none, []⟩] [1, 2, 51])
         (.cond (.t 51)
          (.seq (.region none [⟨some 53, .mov (.t 1), none, []⟩,
            ⟨some 54, .mov (.t 2), none, []⟩,
            ⟨some 55, .bin .eql (.t 53) (.t 54), none, []⟩,
            ⟨some 56, .call 61 [(.t 55)], none, []⟩,
            ⟨some 6, .mov (.t 56), none, []⟩] [6])
          (.ret))
          (.skip)))))))))))))))))))
  (.seq (.region none [⟨some 57, .mov (.t 1), none, []⟩,
    ⟨some 58, .bin .eql (.t 57) (.c (.int .i64 0)), none, []⟩,
    ⟨some 59, .call 61 [(.t 58)], none, []⟩,
    ⟨some 6, .mov (.t 59), none, []⟩] [6])
  (.ret))), false, false, false⟩
/-- arenanet/arenanetref16.Pushes -/
def F72 : PFun := ⟨1, [.tmp 2],
  .seq (.region none [⟨some 2, .mov (.c (.int .i64 0)), none, []⟩] [0])
  (.seq (.seq (.region none [⟨some 3, .mov (.t 0), none, []⟩] [3])
  (.block 0 (.seq (.seq (.region none [⟨some 5, .bin .eql (.t 3) (.c (.int .i64 3)), none, []⟩,
    ⟨some 4, .mov (.t 5), none, []⟩] [3, 4])
  (.cond (.t 4)
   (.skip)
   (.seq (.region none [⟨some 6, .bin .eql (.t 3) (.c (.int .i64 5)), none, []⟩,
     ⟨some 4, .mov (.t 6), none, []⟩] [3, 4])
   (.cond (.t 4)
    (.skip)
    (.seq (.region none [⟨some 7, .bin .eql (.t 3) (.c (.int .i64 18)), none, []⟩,
      ⟨some 4, .mov (.t 7), none, []⟩] [3, 4])
    (.cond (.t 4)
     (.skip)
     (.seq (.region none [⟨some 8, .bin .eql (.t 3) (.c (.int .i64 19)), none, []⟩,
       ⟨some 4, .mov (.t 8), none, []⟩] [3, 4])
     (.cond (.t 4)
      (.skip)
      (.seq (.region none [⟨some 9, .bin .eql (.t 3) (.c (.int .i64 20)), none, []⟩,
        ⟨some 4, .mov (.t 9), none, []⟩] [3, 4])
      (.cond (.t 4)
       (.skip)
       (.region none [⟨some 10, .bin .eql (.t 3) (.c (.int .i64 21)), none, []⟩,
         ⟨some 4, .mov (.t 10), none, []⟩] [4])))))))))))
  (.cond (.t 4)
   (.seq (.region none [⟨some 2, .mov (.c (.int .i64 0)), none, []⟩] [2])
   (.ret))
   (.skip)))))
  (.seq (.region none [⟨some 2, .mov (.c (.int .i64 1)), none, []⟩] [2])
  (.ret))), false, false, false⟩
/-- (*arenanet/cellmem.Mem).Len -/
def F73 : PFun := ⟨1, [.tmp 2],
  .seq (.region none [⟨some 2, .mov (.c (.int .i64 0)), none, []⟩] [0])
  (.seq (.region none [⟨some 3, .mov (.t 0), none, []⟩,
    ⟨some 4, .nilchk (.t 3), none, []⟩,
    ⟨some 5, .fieldAddr 0 (.t 4), none, []⟩,
    ⟨some 6, .load false 1 (.t 5), none, []⟩,
    ⟨some 7, .len .sl (.t 6), none, []⟩,
    ⟨some 2, .mov (.t 7), none, []⟩] [2])
  (.ret)), false, false, false⟩
/-- arenanet/vm.load -/
def F74 : PFun := ⟨1, [.tmp 2],
  .seq (.region none [⟨some 2, .mov (.c .nilFunc), none, []⟩] [0])
  (.seq (.region none [⟨some 3, .mkmap, none, []⟩,
    ⟨none, .mapset .i (.t 3) (.c (.int .i64 1)) (.f 82), none, []⟩,
    ⟨none, .mapset .i (.t 3) (.c (.int .i64 2)) (.f 83), none, []⟩,
    ⟨none, .mapset .i (.t 3) (.c (.int .i64 6)) (.f 84), none, []⟩,
    ⟨none, .mapset .i (.t 3) (.c (.int .i64 7)) (.f 85), none, []⟩,
    ⟨none, .mapset .i (.t 3) (.c (.int .i64 8)) (.f 86), none, []⟩,
    ⟨some 4, .mov (.t 3), none, []⟩,
    ⟨some 5, .mov (.t 0), none, []⟩,
    ⟨some 6, .lookup .i (.lit .nilFunc) (.t 4) (.t 5) false, none, []⟩,
    ⟨some 2, .mov (.t 6), none, []⟩] [2])
  (.ret)), false, false, false⟩
/-- arenanet/vm.binary -/
def F75 : PFun := ⟨1, [.tmp 2],
  .seq (.region none [⟨some 2, .mov (.c .nilFunc), none, []⟩] [0])
  (.seq (.region none [⟨some 3, .mkmap, none, []⟩,
    ⟨none, .mapset .i (.t 3) (.c (.int .i64 9)) (.f 87), none, []⟩,
    ⟨none, .mapset .i (.t 3) (.c (.int .i64 10)) (.f 89), none, []⟩,
    ⟨none, .mapset .i (.t 3) (.c (.int .i64 11)) (.f 90), none, []⟩,
    ⟨none, .mapset .i (.t 3) (.c (.int .i64 12)) (.f 91), none, []⟩,
    ⟨none, .mapset .i (.t 3) (.c (.int .i64 14)) (.f 92), none, []⟩,
    ⟨none, .mapset .i (.t 3) (.c (.int .i64 15)) (.f 94), none, []⟩,
    ⟨none, .mapset .i (.t 3) (.c (.int .i64 16)) (.f 95), none, []⟩,
    ⟨some 4, .mov (.t 3), none, []⟩,
    ⟨some 5, .mov (.t 0), none, []⟩,
    ⟨some 6, .lookup .i (.lit .nilFunc) (.t 4) (.t 5) false, none, []⟩,
    ⟨some 2, .mov (.t 6), none, []⟩] [2])
  (.ret)), false, false, false⟩
/-- arenanet/vm.unary -/
def F76 : PFun := ⟨1, [.tmp 2],
  .seq (.region none [⟨some 2, .mov (.c .nilFunc), none, []⟩] [0])
  (.seq (.region none [⟨some 3, .mkmap, none, []⟩,
    ⟨none, .mapset .i (.t 3) (.c (.int .i64 13)) (.f 96), none, []⟩,
    ⟨none, .mapset .i (.t 3) (.c (.int .i64 17)) (.f 97), none, []⟩,
    ⟨some 4, .mov (.t 3), none, []⟩,
    ⟨some 5, .mov (.t 0), none, []⟩,
    ⟨some 6, .lookup .i (.lit .nilFunc) (.t 4) (.t 5) false, none, []⟩,
    ⟨some 2, .mov (.t 6), none, []⟩] [2])
  (.ret)), false, false, false⟩
/-- arenanet/vm.other -/
def F77 : PFun := ⟨1, [.tmp 2],
  .seq (.region none [⟨some 2, .mov (.c .nilFunc), none, []⟩] [0])
  (.seq (.region none [⟨some 3, .mkmap, none, []⟩,
    ⟨none, .mapset .i (.t 3) (.c (.int .i64 3)) (.f 98), none, []⟩,
    ⟨none, .mapset .i (.t 3) (.c (.int .i64 4)) (.f 99), none, []⟩,
    ⟨none, .mapset .i (.t 3) (.c (.int .i64 5)) (.f 101), none, []⟩,
    ⟨none, .mapset .i (.t 3) (.c (.int .i64 18)) (.f 103), none, []⟩,
    ⟨none, .mapset .i (.t 3) (.c (.int .i64 19)) (.f 104), none, []⟩,
    ⟨none, .mapset .i (.t 3) (.c (.int .i64 20)) (.f 105), none, []⟩,
    ⟨none, .mapset .i (.t 3) (.c (.int .i64 21)) (.f 107), none, []⟩,
    ⟨some 4, .mov (.t 3), none, []⟩,
    ⟨some 5, .mov (.t 0), none, []⟩,
    ⟨some 6, .lookup .i (.lit .nilFunc) (.t 4) (.t 5) false, none, []⟩,
    ⟨some 2, .mov (.t 6), none, []⟩] [2])
  (.ret)), false, false, false⟩
/-- arenanet/arenanetref01.Clamp -/
def F78 : PFun := ⟨3, [.tmp 6],
  .seq (.region none [⟨some 6, .mov (.c (.int .i64 0)), none, []⟩] [0, 1, 2])
  (.seq (.seq (.region none [⟨some 7, .mov (.t 0), none, []⟩,
    ⟨some 8, .mov (.t 1), none, []⟩,
    ⟨some 9, .bin .lss (.t 7) (.t 8), none, []⟩] [0, 1, 2, 9])
  (.cond (.t 9)
   (.seq (.region none [⟨some 10, .mov (.t 1), none, []⟩,
     ⟨some 6, .mov (.t 10), none, []⟩] [6])
   (.ret))
   (.skip)))
  (.seq (.seq (.region none [⟨some 11, .mov (.t 0), none, []⟩,
    ⟨some 12, .mov (.t 2), none, []⟩,
    ⟨some 13, .bin .gtr (.t 11) (.t 12), none, []⟩] [0, 2, 13])
  (.cond (.t 13)
   (.seq (.region none [⟨some 14, .mov (.t 2), none, []⟩,
     ⟨some 6, .mov (.t 14), none, []⟩] [6])
   (.ret))
   (.skip)))
  (.seq (.region none [⟨some 15, .mov (.t 0), none, []⟩,
    ⟨some 6, .mov (.t 15), none, []⟩] [6])
  (.ret)))), false, false, false⟩
def F79l1 : PC := (.seq (.seq (.region none [⟨some 19, .mov (.t 6), none, []⟩,
      ⟨some 20, .mov (.t 4), none, []⟩,
      ⟨some 21, .bin .geq (.t 19) (.t 20), none, []⟩] [0, 3, 4, 5, 6, 21])
    (.cond (.t 21)
     (.skip)
     (.exit 2)))
    (.seq (.block 3 (.region none [⟨some 24, .mov (.t 5), none, []⟩,
      ⟨some 25, .bin .mul (.c (.int .u64 256)) (.t 24), none, []⟩,
      ⟨some 26, .mov (.t 0), none, []⟩,
      ⟨some 27, .mov (.t 6), none, []⟩,
      ⟨some 28, .indexAddr 1 (.t 26) (.t 27), none, []⟩,
      ⟨some 29, .load false 1 (.t 28), none, []⟩,
      ⟨some 30, .conv (.int .u64) (.t 29), none, []⟩,
      ⟨some 31, .bin .add (.t 25) (.t 30), none, []⟩,
      ⟨some 5, .mov (.t 31), none, []⟩] [0, 3, 4, 5, 6]))
    (.region none [⟨some 22, .mov (.t 6), none, []⟩,
      ⟨some 23, .bin .sub (.t 22) (.c (.int .i64 1)), none, []⟩,
      ⟨some 6, .mov (.t 23), none, []⟩] [0, 3, 4, 5, 6])))
theorem run_F79l1 (C : Task → Option Res) (k : Nat) (fr : Fr) (σ : S) : run C k F79l1 fr σ = run C k (.seq (.seq (.region none [⟨some 19, .mov (.t 6), none, []⟩,
      ⟨some 20, .mov (.t 4), none, []⟩,
      ⟨some 21, .bin .geq (.t 19) (.t 20), none, []⟩] [0, 3, 4, 5, 6, 21])
    (.cond (.t 21)
     (.skip)
     (.exit 2)))
    (.seq (.block 3 (.region none [⟨some 24, .mov (.t 5), none, []⟩,
      ⟨some 25, .bin .mul (.c (.int .u64 256)) (.t 24), none, []⟩,
      ⟨some 26, .mov (.t 0), none, []⟩,
      ⟨some 27, .mov (.t 6), none, []⟩,
      ⟨some 28, .indexAddr 1 (.t 26) (.t 27), none, []⟩,
      ⟨some 29, .load false 1 (.t 28), none, []⟩,
      ⟨some 30, .conv (.int .u64) (.t 29), none, []⟩,
      ⟨some 31, .bin .add (.t 25) (.t 30), none, []⟩,
      ⟨some 5, .mov (.t 31), none, []⟩] [0, 3, 4, 5, 6]))
    (.region none [⟨some 22, .mov (.t 6), none, []⟩,
      ⟨some 23, .bin .sub (.t 22) (.c (.int .i64 1)), none, []⟩,
      ⟨some 6, .mov (.t 23), none, []⟩] [0, 3, 4, 5, 6]))) fr σ := rfl
def F79l0 : PC := (.seq (.seq (.region none [⟨some 7, .mov (.t 4), none, []⟩,
     ⟨some 8, .mov (.t 0), none, []⟩,
     ⟨some 9, .len .sl (.t 8), none, []⟩,
     ⟨some 10, .bin .lss (.t 7) (.t 9), none, []⟩] [0, 3, 4, 10])
   (.cond (.t 10)
    (.skip)
    (.exit 0)))
   (.seq (.block 1 (.seq (.region none [⟨some 5, .mov (.c (.int .u64 0)), none, []⟩] [0, 3, 4, 5])
   (.seq (.seq (.region none [⟨some 13, .mov (.t 4), none, []⟩,
     ⟨some 14, .bin .add (.t 13) (.c (.int .i64 8)), none, []⟩,
     ⟨some 15, .mov (.t 0), none, []⟩,
     ⟨some 16, .len .sl (.t 15), none, []⟩,
     ⟨some 17, .min [(.t 14), (.t 16)], none, []⟩,
     ⟨some 18, .bin .sub (.t 17) (.c (.int .i64 1)), none, []⟩,
     ⟨some 6, .mov (.t 18), none, []⟩] [0, 3, 4, 5, 6])
   (.block 2 (.loop F79l1)))
   (.region none [⟨some 32, .mov (.t 3), none, []⟩,
     ⟨some 33, .mov (.t 5), none, []⟩,
     ⟨some 34, .bslice 1 [(.lit (.int .u64 0))] [(0, 1, (.t 33))], none, []⟩,
     ⟨some 35, .append 1 8 (.t 32) (.t 34), none, []⟩,
     ⟨some 3, .mov (.t 35), none, []⟩] [0, 3, 4]))))
   (.region none [⟨some 11, .mov (.t 4), none, []⟩,
     ⟨some 12, .bin .add (.t 11) (.c (.int .i64 8)), none, []⟩,
     ⟨some 4, .mov (.t 12), none, []⟩] [0, 3, 4])))
theorem run_F79l0 (C : Task → Option Res) (k : Nat) (fr : Fr) (σ : S) : run C k F79l0 fr σ = run C k (.seq (.seq (.region none [⟨some 7, .mov (.t 4), none, []⟩,
     ⟨some 8, .mov (.t 0), none, []⟩,
     ⟨some 9, .len .sl (.t 8), none, []⟩,
     ⟨some 10, .bin .lss (.t 7) (.t 9), none, []⟩] [0, 3, 4, 10])
   (.cond (.t 10)
    (.skip)
    (.exit 0)))
   (.seq (.block 1 (.seq (.region none [⟨some 5, .mov (.c (.int .u64 0)), none, []⟩] [0, 3, 4, 5])
   (.seq (.seq (.region none [⟨some 13, .mov (.t 4), none, []⟩,
     ⟨some 14, .bin .add (.t 13) (.c (.int .i64 8)), none, []⟩,
     ⟨some 15, .mov (.t 0), none, []⟩,
     ⟨some 16, .len .sl (.t 15), none, []⟩,
     ⟨some 17, .min [(.t 14), (.t 16)], none, []⟩,
     ⟨some 18, .bin .sub (.t 17) (.c (.int .i64 1)), none, []⟩,
     ⟨some 6, .mov (.t 18), none, []⟩] [0, 3, 4, 5, 6])
   (.block 2 (.loop F79l1)))
   (.region none [⟨some 32, .mov (.t 3), none, []⟩,
     ⟨some 33, .mov (.t 5), none, []⟩,
     ⟨some 34, .bslice 1 [(.lit (.int .u64 0))] [(0, 1, (.t 33))], none, []⟩,
     ⟨some 35, .append 1 8 (.t 32) (.t 34), none, []⟩,
     ⟨some 3, .mov (.t 35), none, []⟩] [0, 3, 4]))))
   (.region none [⟨some 11, .mov (.t 4), none, []⟩,
     ⟨some 12, .bin .add (.t 11) (.c (.int .i64 8)), none, []⟩,
     ⟨some 4, .mov (.t 12), none, []⟩] [0, 3, 4]))) fr σ := rfl
/-- arenanet/arenanetref10.Words -/
def F79 : PFun := ⟨1, [.tmp 2],
  .seq (.region none [⟨some 2, .mov (.c (.slice none 0 0)), none, []⟩] [0])
  (.seq (.region none [⟨some 3, .mov (.c (.slice none 0 0)), none, []⟩] [0, 3])
  (.seq (.seq (.region none [⟨some 4, .mov (.c (.int .i64 0)), none, []⟩] [0, 3, 4])
  (.block 0 (.loop F79l0)))
  (.seq (.region none [⟨some 36, .mov (.t 3), none, []⟩,
    ⟨some 2, .mov (.t 36), none, []⟩] [2])
  (.ret)))), false, false, false⟩
/-- arenanet/arenanetref10.mix -/
def F80 : PFun := ⟨2, [.tmp 4],
  .seq (.region none [⟨some 4, .mov (.c (.int .u64 0)), none, []⟩] [0, 1])
  (.seq (.region none [⟨some 6, .mov (.t 0), none, []⟩,
    ⟨some 7, .mov (.t 1), none, []⟩,
    ⟨some 8, .bin .xor (.t 6) (.t 7), none, []⟩,
    ⟨some 9, .bin .mul (.t 8) (.c (.int .u64 11400714819323198485)), none, []⟩,
    ⟨some 5, .mov (.t 9), none, []⟩] [5])
  (.seq (.region none [⟨some 10, .mov (.t 5), none, []⟩,
    ⟨some 11, .mov (.t 5), none, []⟩,
    ⟨some 12, .bin .quo (.t 11) (.c (.int .u64 4294967296)), none, []⟩,
    ⟨some 13, .bin .xor (.t 10) (.t 12), none, []⟩,
    ⟨some 4, .mov (.t 13), none, []⟩] [4])
  (.ret))), false, false, false⟩
/-- arenanet/arenanetref16.Sat -/
def F81 : PFun := ⟨1, [.tmp 2],
  .seq (.region none [⟨some 2, .mov (.c (.int .i64 0)), none, []⟩] [0])
  (.seq (.region none [⟨some 3, .mov (.t 0), none, []⟩,
    ⟨some 4, .call 78 [(.t 3), (.c (.int .i64 (-2147483647))), (.c (.int .i64 2147483647))], none, []⟩,
    ⟨some 2, .mov (.t 4), none, []⟩] [2])
  (.ret)), false, false, false⟩
/-- arenanet/vm.load$1 -/
def F82 : PFun := ⟨2, [.tmp 4],
  .seq (.region none [⟨some 4, .mov (.c (.int .i64 0)), none, []⟩] [1])
  (.seq (.region none [⟨some 5, .mov (.t 1), none, []⟩,
    ⟨some 4, .mov (.t 5), none, []⟩] [4])
  (.ret)), false, false, false⟩
/-- arenanet/vm.load$2 -/
def F83 : PFun := ⟨2, [.tmp 4],
  .seq (.region none [⟨some 4, .mov (.c (.int .i64 0)), none, []⟩] [0, 1])
  (.seq (.region none [⟨some 5, .mov (.t 0), none, []⟩,
    ⟨some 6, .mov (.t 1), none, []⟩,
    ⟨some 7, .bin .add (.c (.int .i64 32)) (.t 6), none, []⟩,
    ⟨some 8, .invoke [(0, 51)] (.t 5) [(.t 7)], none, []⟩,
    ⟨some 4, .mov (.t 8), none, []⟩] [4])
  (.ret)), false, false, false⟩
/-- arenanet/vm.load$3 -/
def F84 : PFun := ⟨2, [.tmp 4],
  .seq (.region none [⟨some 4, .mov (.c (.int .i64 0)), none, []⟩] [0])
  (.seq (.region none [⟨some 5, .mov (.t 0), none, []⟩,
    ⟨some 6, .invoke [(0, 51)] (.t 5) [(.c (.int .i64 9))], none, []⟩,
    ⟨some 4, .mov (.t 6), none, []⟩] [4])
  (.ret)), false, false, false⟩
/-- arenanet/vm.load$4 -/
def F85 : PFun := ⟨2, [.tmp 4],
  .seq (.region none [⟨some 4, .mov (.c (.int .i64 0)), none, []⟩] [0])
  (.seq (.region none [⟨some 5, .mov (.t 0), none, []⟩,
    ⟨some 6, .invoke [(0, 51)] (.t 5) [(.c (.int .i64 10))], none, []⟩,
    ⟨some 4, .mov (.t 6), none, []⟩] [4])
  (.ret)), false, false, false⟩
/-- arenanet/vm.load$5 -/
def F86 : PFun := ⟨2, [.tmp 4],
  .seq (.region none [⟨some 4, .mov (.c (.int .i64 0)), none, []⟩] [0])
  (.seq (.region none [⟨some 5, .mov (.t 0), none, []⟩,
    ⟨some 6, .invoke [(0, 51)] (.t 5) [(.c (.int .i64 0))], none, []⟩,
    ⟨some 4, .mov (.t 6), none, []⟩] [4])
  (.ret)), false, false, false⟩
/-- arenanet/vm.binary$1 -/
def F87 : PFun := ⟨2, [.tmp 4],
  .seq (.region none [⟨some 4, .mov (.c (.int .i64 0)), none, []⟩] [0, 1])
  (.seq (.region none [⟨some 5, .mov (.t 0), none, []⟩,
    ⟨some 6, .mov (.t 1), none, []⟩,
    ⟨some 7, .bin .add (.t 5) (.t 6), none, []⟩,
    ⟨some 8, .call 88 [(.t 7)], none, []⟩,
    ⟨some 4, .mov (.t 8), none, []⟩] [4])
  (.ret)), false, false, false⟩
/-- arenanet/vm.saturate -/
def F88 : PFun := ⟨1, [.tmp 2],
  .seq (.region none [⟨some 2, .mov (.c (.int .i64 0)), none, []⟩] [0])
  (.seq (.region none [⟨some 3, .mov (.t 0), none, []⟩,
    ⟨some 4, .call 108 [(.t 3), (.c (.int .i64 (-2147483647))), (.c (.int .i64 2147483647))], none, []⟩,
    ⟨some 2, .mov (.t 4), none, []⟩] [2])
  (.ret)), false, false, false⟩
/-- arenanet/vm.binary$2 -/
def F89 : PFun := ⟨2, [.tmp 4],
  .seq (.region none [⟨some 4, .mov (.c (.int .i64 0)), none, []⟩] [0, 1])
  (.seq (.region none [⟨some 5, .mov (.t 0), none, []⟩,
    ⟨some 6, .mov (.t 1), none, []⟩,
    ⟨some 7, .bin .sub (.t 5) (.t 6), none, []⟩,
    ⟨some 8, .call 88 [(.t 7)], none, []⟩,
    ⟨some 4, .mov (.t 8), none, []⟩] [4])
  (.ret)), false, false, false⟩
/-- arenanet/vm.binary$3 -/
def F90 : PFun := ⟨2, [.tmp 4],
  .seq (.region none [⟨some 4, .mov (.c (.int .i64 0)), none, []⟩] [0, 1])
  (.seq (.region none [⟨some 5, .mov (.t 0), none, []⟩,
    ⟨some 6, .mov (.t 1), none, []⟩,
    ⟨some 7, .bin .mul (.t 5) (.t 6), none, []⟩,
    ⟨some 8, .call 88 [(.t 7)], none, []⟩,
    ⟨some 4, .mov (.t 8), none, []⟩] [4])
  (.ret)), false, false, false⟩
/-- arenanet/vm.binary$4 -/
def F91 : PFun := ⟨2, [.tmp 4],
  .seq (.region none [⟨some 4, .mov (.c (.int .i64 0)), none, []⟩] [0, 1])
  (.seq (.seq (.region none [⟨some 5, .mov (.t 1), none, []⟩,
    ⟨some 6, .bin .eql (.t 5) (.c (.int .i64 0)), none, []⟩] [0, 1, 6])
  (.cond (.t 6)
   (.seq (.region none [⟨some 4, .mov (.c (.int .i64 0)), none, []⟩] [4])
   (.ret))
   (.skip)))
  (.seq (.region none [⟨some 7, .mov (.t 0), none, []⟩,
    ⟨some 8, .mov (.t 1), none, []⟩,
    ⟨some 9, .bin .quo (.t 7) (.t 8), none, []⟩,
    ⟨some 10, .call 88 [(.t 9)], none, []⟩,
    ⟨some 4, .mov (.t 10), none, []⟩] [4])
  (.ret))), false, false, false⟩
/-- arenanet/vm.binary$5 -/
def F92 : PFun := ⟨2, [.tmp 4],
  .seq (.region none [⟨some 4, .mov (.c (.int .i64 0)), none, []⟩] [0, 1])
  (.seq (.region none [⟨some 5, .mov (.t 0), none, []⟩,
    ⟨some 6, .mov (.t 1), none, []⟩,
    ⟨some 7, .bin .lss (.t 5) (.t 6), none, []⟩,
    ⟨some 8, .call 93 [(.t 7)], none, []⟩,
    ⟨some 4, .mov (.t 8), none, []⟩] [4])
  (.ret)), false, false, false⟩
/-- arenanet/vm.truth -/
def F93 : PFun := ⟨1, [.tmp 2],
  .seq (.region none [⟨some 2, .mov (.c (.int .i64 0)), none, []⟩] [0])
  (.seq (.seq (.region none [⟨some 3, .mov (.t 0), none, []⟩] [3])
  (.cond (.t 3)
   (.seq (.region none [⟨some 2, .mov (.c (.int .i64 1)), none, []⟩] [2])
   (.ret))
   (.skip)))
  (.seq (.region none [⟨some 2, .mov (.c (.int .i64 0)), none, []⟩] [2])
  (.ret))), false, false, false⟩
/-- arenanet/vm.binary$6 -/
def F94 : PFun := ⟨2, [.tmp 4],
  .seq (.region none [⟨some 4, .mov (.c (.int .i64 0)), none, []⟩] [0, 1])
  (.seq (.region none [⟨some 5, .mov (.t 0), none, []⟩,
    ⟨some 6, .mov (.t 1), none, []⟩,
    ⟨some 7, .bin .leq (.t 5) (.t 6), none, []⟩,
    ⟨some 8, .call 93 [(.t 7)], none, []⟩,
    ⟨some 4, .mov (.t 8), none, []⟩] [4])
  (.ret)), false, false, false⟩
/-- arenanet/vm.binary$7 -/
def F95 : PFun := ⟨2, [.tmp 4],
  .seq (.region none [⟨some 4, .mov (.c (.int .i64 0)), none, []⟩] [0, 1])
  (.seq (.region none [⟨some 5, .mov (.t 0), none, []⟩,
    ⟨some 6, .mov (.t 1), none, []⟩,
    ⟨some 7, .bin .eql (.t 5) (.t 6), none, []⟩,
    ⟨some 8, .call 93 [(.t 7)], none, []⟩,
    ⟨some 4, .mov (.t 8), none, []⟩] [4])
  (.ret)), false, false, false⟩
/-- arenanet/vm.unary$1 -/
def F96 : PFun := ⟨1, [.tmp 2],
  .seq (.region none [⟨some 2, .mov (.c (.int .i64 0)), none, []⟩] [0])
  (.seq (.region none [⟨some 3, .mov (.t 0), none, []⟩,
    ⟨some 4, .un .neg (.t 3), none, []⟩,
    ⟨some 5, .call 88 [(.t 4)], none, []⟩,
    ⟨some 2, .mov (.t 5), none, []⟩] [2])
  (.ret)), false, false, false⟩
/-- arenanet/vm.unary$2 -/
def F97 : PFun := ⟨1, [.tmp 2],
  .seq (.region none [⟨some 2, .mov (.c (.int .i64 0)), none, []⟩] [0])
  (.seq (.region none [⟨some 3, .mov (.t 0), none, []⟩,
    ⟨some 4, .bin .eql (.t 3) (.c (.int .i64 0)), none, []⟩,
    ⟨some 5, .call 93 [(.t 4)], none, []⟩,
    ⟨some 2, .mov (.t 5), none, []⟩] [2])
  (.ret)), false, false, false⟩
/-- arenanet/vm.other$1 -/
def F98 : PFun := ⟨3, [.tmp 6, .cell 7 true 4, .tmp 8],
  .seq (.region none [⟨some 4, .box (.t 1), none, []⟩,
    ⟨some 5, .box (.t 2), none, []⟩,
    ⟨some 6, .mov (.c (.int .i64 0)), none, []⟩,
    ⟨some 7, .alloc [(.lit (.int .i64 0)), (.lit (.int .i64 0)), (.lit (.int .i64 0)), (.lit (.int .i64 0))], none, []⟩,
    ⟨some 8, .mov (.c (.bool false)), none, []⟩] [0, 5, 7])
  (.seq (.region none [⟨some 9, .mov (.t 0), none, []⟩,
    ⟨some 10, .fieldAddr 0 (.t 5), none, []⟩,
    ⟨some 11, .load false 1 (.t 10), none, []⟩,
    ⟨some 12, .bin .add (.c (.int .i64 32)) (.t 11), none, []⟩,
    ⟨some 13, .fieldAddr 1 (.t 5), none, []⟩,
    ⟨some 14, .load false 1 (.t 13), none, []⟩,
    ⟨some 15, .invoke [(0, 114)] (.t 9) [(.t 12), (.t 14)], none, []⟩] [7])
  (.seq (.region none [⟨some 16, .build [(.lit (.int .i64 0)), (.lit (.int .i64 0)), (.lit (.int .i64 0)), (.lit (.int .i64 0))] [], none, []⟩,
    ⟨some 6, .mov (.c (.int .i64 0)), none, []⟩,
    ⟨none, .store 4 (.t 7) (.t 16), none, []⟩,
    ⟨some 8, .mov (.c (.bool false)), none, []⟩] [6, 7, 8])
  (.ret))), false, false, false⟩
/-- arenanet/vm.other$2 -/
def F99 : PFun := ⟨3, [.tmp 6, .cell 7 true 4, .tmp 8],
  .seq (.region none [⟨some 4, .box (.t 1), none, []⟩,
    ⟨some 5, .box (.t 2), none, []⟩,
    ⟨some 6, .mov (.c (.int .i64 0)), none, []⟩,
    ⟨some 7, .alloc [(.lit (.int .i64 0)), (.lit (.int .i64 0)), (.lit (.int .i64 0)), (.lit (.int .i64 0))], none, []⟩,
    ⟨some 8, .mov (.c (.bool false)), none, []⟩] [0, 4, 5, 7])
  (.seq (.seq (.region none [⟨some 10, .load true 16 (.t 4), none, []⟩,
    ⟨some 11, .fieldAddr 1 (.t 5), none, []⟩,
    ⟨some 12, .load false 1 (.t 11), none, []⟩,
    ⟨some 13, .call 100 [(.t 10), (.t 12)], none, []⟩,
    ⟨some 9, .mov (.t 13), none, []⟩] [0, 5, 7, 9])
  (.seq (.region none [⟨some 14, .mov (.t 9), none, []⟩,
    ⟨some 15, .bin .geq (.t 14) (.c (.int .i64 0)), none, []⟩] [0, 5, 7, 9, 15])
  (.cond (.t 15)
   (.seq (.region none [⟨some 16, .mov (.t 0), none, []⟩,
     ⟨some 17, .mov (.t 9), none, []⟩,
     ⟨some 18, .fieldAddr 0 (.t 5), none, []⟩,
     ⟨some 19, .load false 1 (.t 18), none, []⟩,
     ⟨some 20, .bin .add (.t 17) (.t 19), none, []⟩,
     ⟨some 21, .invoke [(0, 51)] (.t 16) [(.t 20)], none, []⟩,
     ⟨some 22, .build [(.lit (.int .i64 0)), (.lit (.int .i64 0)), (.lit (.int .i64 0)), (.lit (.int .i64 0))] [], none, []⟩,
     ⟨some 6, .mov (.t 21), none, []⟩,
     ⟨none, .store 4 (.t 7) (.t 22), none, []⟩,
     ⟨some 8, .mov (.c (.bool false)), none, []⟩] [6, 7, 8])
   (.ret))
   (.skip))))
  (.seq (.region none [⟨some 23, .build [(.lit (.int .i64 0)), (.lit (.int .i64 0)), (.lit (.int .i64 0)), (.lit (.int .i64 0))] [], none, []⟩,
    ⟨some 6, .mov (.c (.int .i64 0)), none, []⟩,
    ⟨none, .store 4 (.t 7) (.t 23), none, []⟩,
    ⟨some 8, .mov (.c (.bool false)), none, []⟩] [6, 7, 8])
  (.ret))), false, false, false⟩
/-- arenanet/layout.Body -/
def F100 : PFun := ⟨2, [.tmp 4],
  .seq (.region none [⟨some 2, .box (.t 0), none, []⟩,
    ⟨some 4, .mov (.c (.int .i64 0)), none, []⟩] [1, 2])
  (.seq (.seq (.region none [⟨some 5, .mov (.t 1), none, []⟩,
    ⟨some 6, .bin .lss (.t 5) (.c (.int .i64 0)), none, []⟩,
    ⟨some 7, .mov (.t 6), none, []⟩,
    ⟨some 8, .mov (.t 1), some (7, false), []⟩,
    ⟨some 9, .fieldAddr 1 (.t 2), some (7, false), []⟩,
    ⟨some 10, .load false 1 (.t 9), some (7, false), []⟩,
    ⟨some 11, .len .sl (.t 10), some (7, false), []⟩,
    ⟨some 12, .bin .geq (.t 8) (.t 11), some (7, false), []⟩,
    ⟨some 13, .pick (.t 7) (.c (.bool true)) (.t 12), none, []⟩] [1, 2, 13])
  (.cond (.t 13)
   (.seq (.region none [⟨some 4, .mov (.c (.int .i64 (-1))), none, []⟩] [4])
   (.ret))
   (.skip)))
  (.seq (.region none [⟨some 14, .fieldAddr 0 (.t 2), none, []⟩,
    ⟨some 15, .load false 1 (.t 14), none, []⟩,
    ⟨some 16, .bin .mul (.c (.int .i64 4)) (.t 15), none, []⟩,
    ⟨some 17, .bin .add (.c (.int .i64 48)) (.t 16), none, []⟩,
    ⟨some 18, .mov (.t 1), none, []⟩,
    ⟨some 19, .bin .mul (.c (.int .i64 8)) (.t 18), none, []⟩,
    ⟨some 20, .bin .add (.t 17) (.t 19), none, []⟩,
    ⟨some 4, .mov (.t 20), none, []⟩] [4])
  (.ret))), false, false, false⟩
/-- arenanet/vm.other$3 -/
def F101 : PFun := ⟨3, [.tmp 6, .cell 7 true 4, .tmp 8],
  .seq (.region none [⟨some 4, .box (.t 1), none, []⟩,
    ⟨some 5, .box (.t 2), none, []⟩,
    ⟨some 6, .mov (.c (.int .i64 0)), none, []⟩,
    ⟨some 7, .alloc [(.lit (.int .i64 0)), (.lit (.int .i64 0)), (.lit (.int .i64 0)), (.lit (.int .i64 0))], none, []⟩,
    ⟨some 8, .mov (.c (.bool false)), none, []⟩] [0, 4, 5, 7])
  (.seq (.seq (.region none [⟨some 10, .load true 16 (.t 4), none, []⟩,
    ⟨some 11, .fieldAddr 1 (.t 5), none, []⟩,
    ⟨some 12, .load false 1 (.t 11), none, []⟩,
    ⟨some 13, .call 100 [(.t 10), (.t 12)], none, []⟩,
    ⟨some 9, .mov (.t 13), none, []⟩] [0, 5, 7, 9])
  (.seq (.region none [⟨some 14, .mov (.t 9), none, []⟩,
    ⟨some 15, .bin .geq (.t 14) (.c (.int .i64 0)), none, []⟩] [0, 5, 7, 9, 15])
  (.cond (.t 15)
   (.region (some []) [⟨some 16, .mov (.t 0), none, []⟩,
     ⟨some 17, .mov (.t 9), none, []⟩,
     ⟨some 18, .fieldAddr 0 (.t 5), none, []⟩,
     ⟨some 19, .load false 1 (.t 18), none, [9]⟩,
     ⟨some 20, .bin .add (.t 17) (.t 19), none, []⟩,
     ⟨some 21, .fieldAddr 0 (.t 5), none, []⟩,
     ⟨some 22, .load false 1 (.t 21), none, []⟩,
     ⟨some 23, .fieldAddr 2 (.t 5), none, []⟩,
     ⟨some 24, .load false 1 (.t 23), none, []⟩,
     ⟨some 25, .call 102 [(.t 22), (.t 24)], none, []⟩,
     ⟨some 26, .mkmeth [(0, 114)] (.t 16), none, []⟩,
     ⟨some 27, .nilchk (.t 26), none, []⟩,
     ⟨some 28, .mov (.t 16), none, []⟩,
     ⟨some 29, .invoke [(0, 114)] (.t 28) [(.t 20), (.t 25)], none, []⟩] [7] [13])
   (.skip))))
  (.seq (.region none [⟨some 30, .build [(.lit (.int .i64 0)), (.lit (.int .i64 0)), (.lit (.int .i64 0)), (.lit (.int .i64 0))] [], none, []⟩,
    ⟨some 6, .mov (.c (.int .i64 0)), none, []⟩,
    ⟨none, .store 4 (.t 7) (.t 30), none, []⟩,
    ⟨some 8, .mov (.c (.bool false)), none, []⟩] [6, 7, 8])
  (.ret))), false, false, false⟩
/-- arenanet/vm.limited -/
def F102 : PFun := ⟨2, [.tmp 4],
  .seq (.region none [⟨some 4, .mov (.c (.int .i64 0)), none, []⟩] [0, 1])
  (.seq (.seq (.region none [⟨some 5, .mov (.t 0), none, []⟩] [1, 5])
  (.block 0 (.seq (.seq (.region none [⟨some 7, .bin .eql (.t 5) (.c (.int .i64 0)), none, []⟩,
    ⟨some 6, .mov (.t 7), none, []⟩] [1, 5, 6])
  (.cond (.t 6)
   (.skip)
   (.region none [⟨some 8, .bin .eql (.t 5) (.c (.int .i64 1)), none, []⟩,
     ⟨some 6, .mov (.t 8), none, []⟩] [1, 5, 6])))
  (.cond (.t 6)
   (.seq (.region none [⟨some 9, .mov (.t 1), none, []⟩,
     ⟨some 10, .call 108 [(.t 9), (.c (.int .i64 (-1048576))), (.c (.int .i64 1048576))], none, []⟩,
     ⟨some 4, .mov (.t 10), none, []⟩] [4])
   (.ret))
   (.seq (.seq (.region none [⟨some 12, .bin .eql (.t 5) (.c (.int .i64 2)), none, []⟩,
     ⟨some 11, .mov (.t 12), none, []⟩] [1, 5, 11])
   (.cond (.t 11)
    (.skip)
    (.region none [⟨some 13, .bin .eql (.t 5) (.c (.int .i64 3)), none, []⟩,
      ⟨some 11, .mov (.t 13), none, []⟩] [1, 11])))
   (.cond (.t 11)
    (.seq (.region none [⟨some 14, .mov (.t 1), none, []⟩,
      ⟨some 15, .call 108 [(.t 14), (.c (.int .i64 (-16384))), (.c (.int .i64 16384))], none, []⟩,
      ⟨some 4, .mov (.t 15), none, []⟩] [4])
    (.ret))
    (.skip)))))))
  (.seq (.region none [⟨some 16, .mov (.t 1), none, []⟩,
    ⟨some 4, .mov (.t 16), none, []⟩] [4])
  (.ret))), false, false, false⟩
/-- arenanet/vm.other$4 -/
def F103 : PFun := ⟨3, [.tmp 6, .cell 7 true 4, .tmp 8],
  .seq (.region none [⟨some 4, .box (.t 1), none, []⟩,
    ⟨some 5, .box (.t 2), none, []⟩,
    ⟨some 6, .mov (.c (.int .i64 0)), none, []⟩,
    ⟨some 7, .alloc [(.lit (.int .i64 0)), (.lit (.int .i64 0)), (.lit (.int .i64 0)), (.lit (.int .i64 0))], none, []⟩,
    ⟨some 8, .mov (.c (.bool false)), none, []⟩] [0, 5, 7])
  (.seq (.region none [⟨some 9, .mov (.t 0), none, []⟩,
    ⟨some 10, .fieldAddr 0 (.t 5), none, []⟩,
    ⟨some 11, .load false 1 (.t 10), none, []⟩,
    ⟨some 12, .invoke [(0, 114)] (.t 9) [(.c (.int .i64 6)), (.t 11)], none, []⟩] [7])
  (.seq (.region none [⟨some 13, .build [(.lit (.int .i64 0)), (.lit (.int .i64 0)), (.lit (.int .i64 0)), (.lit (.int .i64 0))] [], none, []⟩,
    ⟨some 6, .mov (.c (.int .i64 0)), none, []⟩,
    ⟨none, .store 4 (.t 7) (.t 13), none, []⟩,
    ⟨some 8, .mov (.c (.bool false)), none, []⟩] [6, 7, 8])
  (.ret))), false, false, false⟩
/-- arenanet/vm.other$5 -/
def F104 : PFun := ⟨3, [.tmp 6, .cell 7 true 4, .tmp 8],
  .seq (.region none [⟨some 4, .box (.t 1), none, []⟩,
    ⟨some 5, .box (.t 2), none, []⟩,
    ⟨some 6, .mov (.c (.int .i64 0)), none, []⟩,
    ⟨some 7, .alloc [(.lit (.int .i64 0)), (.lit (.int .i64 0)), (.lit (.int .i64 0)), (.lit (.int .i64 0))], none, []⟩,
    ⟨some 8, .mov (.c (.bool false)), none, []⟩] [0, 5, 7])
  (.seq (.seq (.region none [⟨some 9, .fieldAddr 1 (.t 5), none, []⟩,
    ⟨some 10, .load false 1 (.t 9), none, []⟩,
    ⟨some 11, .bin .eql (.t 10) (.c (.int .i64 0)), none, []⟩] [0, 5, 7, 11])
  (.cond (.t 11)
   (.region none [⟨some 12, .mov (.t 0), none, []⟩,
     ⟨some 13, .fieldAddr 0 (.t 5), none, []⟩,
     ⟨some 14, .load false 1 (.t 13), none, []⟩,
     ⟨some 15, .invoke [(0, 114)] (.t 12) [(.c (.int .i64 6)), (.t 14)], none, []⟩] [7])
   (.skip)))
  (.seq (.region none [⟨some 16, .build [(.lit (.int .i64 0)), (.lit (.int .i64 0)), (.lit (.int .i64 0)), (.lit (.int .i64 0))] [], none, []⟩,
    ⟨some 6, .mov (.c (.int .i64 0)), none, []⟩,
    ⟨none, .store 4 (.t 7) (.t 16), none, []⟩,
    ⟨some 8, .mov (.c (.bool false)), none, []⟩] [6, 7, 8])
  (.ret))), false, false, false⟩
/-- arenanet/vm.other$6 -/
def F105 : PFun := ⟨3, [.tmp 6, .cell 7 true 4, .tmp 8],
  .seq (.region none [⟨some 4, .box (.t 1), none, []⟩,
    ⟨some 5, .box (.t 2), none, []⟩,
    ⟨some 6, .mov (.c (.int .i64 0)), none, []⟩,
    ⟨some 7, .alloc [(.lit (.int .i64 0)), (.lit (.int .i64 0)), (.lit (.int .i64 0)), (.lit (.int .i64 0))], none, []⟩,
    ⟨some 8, .mov (.c (.bool false)), none, []⟩] [0, 5, 7])
  (.seq (.region none [⟨some 12, .mov (.t 0), none, []⟩,
    ⟨some 13, .fieldAddr 1 (.t 5), none, []⟩,
    ⟨some 14, .load false 1 (.t 13), none, []⟩,
    ⟨some 15, .fieldAddr 2 (.t 5), none, []⟩,
    ⟨some 16, .load false 1 (.t 15), none, []⟩,
    ⟨some 17, .call 106 [(.t 12), (.t 14), (.t 16)], none, []⟩,
    ⟨some 11, .mov (.t 17), none, []⟩,
    ⟨some 18, .extract (.t 11) 0, none, []⟩,
    ⟨some 19, .extract (.t 11) 1, none, []⟩,
    ⟨some 9, .alloc [(.lit (.int .i64 0)), (.lit (.int .i64 0)), (.lit (.int .i64 0)), (.lit (.int .i64 0))], none, []⟩,
    ⟨none, .store 4 (.t 9) (.t 18), none, []⟩,
    ⟨some 10, .mov (.t 19), none, []⟩] [7, 9, 10])
  (.seq (.region (some []) [⟨some 20, .load true 4 (.t 9), none, []⟩,
    ⟨some 21, .mov (.t 10), none, []⟩,
    ⟨some 6, .mov (.c (.int .i64 0)), none, []⟩,
    ⟨none, .store 4 (.t 7) (.t 20), none, []⟩,
    ⟨some 8, .mov (.t 21), none, []⟩] [6, 7, 8])
  (.ret))), false, false, false⟩
/-- arenanet/vm.emit -/
def F106 : PFun := ⟨3, [.cell 6 true 4, .tmp 7],
  .seq (.region none [⟨some 6, .alloc [(.lit (.int .i64 0)), (.lit (.int .i64 0)), (.lit (.int .i64 0)), (.lit (.int .i64 0))], none, []⟩,
    ⟨some 7, .mov (.c (.bool false)), none, []⟩] [0, 1, 2, 6])
  (.seq (.region none [⟨some 11, .mov (.t 0), none, []⟩,
    ⟨some 12, .invoke [(0, 51)] (.t 11) [(.c (.int .i64 11))], none, []⟩,
    ⟨some 8, .mov (.t 12), none, []⟩] [0, 1, 2, 6, 8])
  (.seq (.seq (.region none [⟨some 13, .mov (.t 8), none, []⟩,
    ⟨some 14, .bin .geq (.t 13) (.c (.int .i64 40)), none, []⟩] [0, 1, 2, 6, 8, 14])
  (.cond (.t 14)
   (.seq (.region none [⟨some 15, .build [(.lit (.int .i64 0)), (.lit (.int .i64 0)), (.lit (.int .i64 0)), (.lit (.int .i64 0))] [], none, []⟩,
     ⟨none, .store 4 (.t 6) (.t 15), none, []⟩,
     ⟨some 7, .mov (.c (.bool false)), none, []⟩] [6, 7])
   (.ret))
   (.skip)))
  (.seq (.region none [⟨some 16, .mov (.t 0), none, []⟩,
    ⟨some 17, .invoke [(0, 51)] (.t 16) [(.c (.int .i64 0))], none, []⟩,
    ⟨some 9, .mov (.t 17), none, []⟩] [0, 1, 2, 6, 8, 9])
  (.seq (.region none [⟨some 18, .mov (.t 0), none, []⟩,
    ⟨some 19, .invoke [(0, 51)] (.t 18) [(.c (.int .i64 12))], none, []⟩,
    ⟨some 20, .mov (.t 9), none, []⟩,
    ⟨some 21, .mov (.t 1), none, []⟩,
    ⟨some 22, .mov (.t 2), none, []⟩,
    ⟨some 23, .bslice 4 [(.lit (.int .i64 0)), (.lit (.int .i64 0)), (.lit (.int .i64 0)), (.lit (.int .i64 0))] [(0, 1, (.t 19)), (1, 1, (.t 20)), (2, 1, (.t 21)), (3, 1, (.t 22))], none, []⟩,
    ⟨some 24, .call 109 [(.c (.string ⟨#[101, 102, 102, 101, 99, 116]⟩)), (.t 23)], none, []⟩,
    ⟨some 10, .mov (.t 24), none, []⟩] [0, 1, 2, 6, 8, 9, 10])
  (.seq (.region none [⟨some 25, .mov (.t 0), none, []⟩,
    ⟨some 26, .mov (.t 10), none, []⟩,
    ⟨some 27, .bin .shr (.t 26) (.c (.int .u64 1)), none, []⟩,
    ⟨some 28, .conv (.int .i64) (.t 27), none, []⟩,
    ⟨some 29, .invoke [(0, 114)] (.t 25) [(.c (.int .i64 12)), (.t 28)], none, []⟩] [0, 1, 2, 6, 8, 9])
  (.seq (.region none [⟨some 30, .mov (.t 0), none, []⟩,
    ⟨some 31, .mov (.t 8), none, []⟩,
    ⟨some 32, .bin .add (.t 31) (.c (.int .i64 1)), none, []⟩,
    ⟨some 33, .invoke [(0, 114)] (.t 30) [(.c (.int .i64 11)), (.t 32)], none, []⟩] [1, 2, 6, 8, 9])
  (.seq (.region none [⟨some 34, .mov (.t 9), none, []⟩,
    ⟨some 35, .mov (.t 8), none, []⟩,
    ⟨some 36, .mov (.t 1), none, []⟩,
    ⟨some 37, .mov (.t 2), none, []⟩,
    ⟨some 38, .build [(.lit (.int .i64 0)), (.lit (.int .i64 0)), (.lit (.int .i64 0)), (.lit (.int .i64 0))] [(0, 1, (.t 34)), (1, 1, (.t 35)), (2, 1, (.t 36)), (3, 1, (.t 37))], none, []⟩,
    ⟨none, .store 4 (.t 6) (.t 38), none, []⟩,
    ⟨some 7, .mov (.c (.bool true)), none, []⟩] [6, 7])
  (.ret)))))))), false, false, false⟩
/-- arenanet/vm.other$7 -/
def F107 : PFun := ⟨3, [.tmp 6, .cell 7 true 4, .tmp 8],
  .seq (.region none [⟨some 4, .box (.t 1), none, []⟩,
    ⟨some 5, .box (.t 2), none, []⟩,
    ⟨some 6, .mov (.c (.int .i64 0)), none, []⟩,
    ⟨some 7, .alloc [(.lit (.int .i64 0)), (.lit (.int .i64 0)), (.lit (.int .i64 0)), (.lit (.int .i64 0))], none, []⟩,
    ⟨some 8, .mov (.c (.bool false)), none, []⟩] [7])
  (.seq (.region none [⟨some 9, .build [(.lit (.int .i64 0)), (.lit (.int .i64 0)), (.lit (.int .i64 0)), (.lit (.int .i64 0))] [], none, []⟩,
    ⟨some 6, .mov (.c (.int .i64 0)), none, []⟩,
    ⟨none, .store 4 (.t 7) (.t 9), none, []⟩,
    ⟨some 8, .mov (.c (.bool false)), none, []⟩] [6, 7, 8])
  (.ret)), false, false, false⟩
/-- arenanet/fixed.Clamp -/
def F108 : PFun := ⟨3, [.tmp 6],
  .seq (.region none [⟨some 6, .mov (.c (.int .i64 0)), none, []⟩] [0, 1, 2])
  (.seq (.block 0 (.seq (.region none [⟨some 8, .mov (.t 0), none, []⟩,
    ⟨some 9, .mov (.t 1), none, []⟩,
    ⟨some 10, .bin .lss (.t 8) (.t 9), none, []⟩,
    ⟨some 7, .mov (.t 10), none, []⟩] [0, 1, 2, 7])
  (.cond (.t 7)
   (.seq (.region none [⟨some 11, .mov (.t 1), none, []⟩,
     ⟨some 6, .mov (.t 11), none, []⟩] [6])
   (.ret))
   (.seq (.region none [⟨some 13, .mov (.t 0), none, []⟩,
     ⟨some 14, .mov (.t 2), none, []⟩,
     ⟨some 15, .bin .gtr (.t 13) (.t 14), none, []⟩,
     ⟨some 12, .mov (.t 15), none, []⟩] [0, 2, 12])
   (.cond (.t 12)
    (.seq (.region none [⟨some 16, .mov (.t 2), none, []⟩,
      ⟨some 6, .mov (.t 16), none, []⟩] [6])
    (.ret))
    (.skip))))))
  (.seq (.region none [⟨some 17, .mov (.t 0), none, []⟩,
    ⟨some 6, .mov (.t 17), none, []⟩] [6])
  (.ret))), false, false, false⟩
def F109l0 : PC := (.seq (.region none [⟨some 15, .bin .lss (.t 14) (.t 13), none, []⟩] [5, 12, 13, 14, 15])
   (.seq (.cond (.t 15)
    (.skip)
    (.exit 0))
   (.seq (.block 1 (.seq (.region none [⟨some 16, .indexAddr 1 (.t 12) (.t 14), none, []⟩,
     ⟨some 17, .load false 1 (.t 16), none, []⟩,
     ⟨some 7, .mov (.t 17), none, []⟩] [5, 7, 12, 13, 14])
   (.region none [⟨some 18, .mov (.t 5), none, []⟩,
     ⟨some 19, .mov (.t 7), none, []⟩,
     ⟨some 20, .conv (.int .u64) (.t 19), none, []⟩,
     ⟨some 21, .call 111 [(.t 18), (.t 20)], none, []⟩,
     ⟨some 5, .mov (.t 21), none, []⟩] [5, 12, 13, 14])))
   (.region none [⟨some 22, .bin .add (.t 14) (.c (.int .i64 1)), none, []⟩,
     ⟨some 14, .mov (.t 22), none, []⟩] [5, 12, 13, 14]))))
theorem run_F109l0 (C : Task → Option Res) (k : Nat) (fr : Fr) (σ : S) : run C k F109l0 fr σ = run C k (.seq (.region none [⟨some 15, .bin .lss (.t 14) (.t 13), none, []⟩] [5, 12, 13, 14, 15])
   (.seq (.cond (.t 15)
    (.skip)
    (.exit 0))
   (.seq (.block 1 (.seq (.region none [⟨some 16, .indexAddr 1 (.t 12) (.t 14), none, []⟩,
     ⟨some 17, .load false 1 (.t 16), none, []⟩,
     ⟨some 7, .mov (.t 17), none, []⟩] [5, 7, 12, 13, 14])
   (.region none [⟨some 18, .mov (.t 5), none, []⟩,
     ⟨some 19, .mov (.t 7), none, []⟩,
     ⟨some 20, .conv (.int .u64) (.t 19), none, []⟩,
     ⟨some 21, .call 111 [(.t 18), (.t 20)], none, []⟩,
     ⟨some 5, .mov (.t 21), none, []⟩] [5, 12, 13, 14])))
   (.region none [⟨some 22, .bin .add (.t 14) (.c (.int .i64 1)), none, []⟩,
     ⟨some 14, .mov (.t 22), none, []⟩] [5, 12, 13, 14])))) fr σ := rfl
/-- arenanet/hash64.Sum -/
def F109 : PFun := ⟨2, [.tmp 4],
  .seq (.region none [⟨some 4, .mov (.c (.int .u64 0)), none, []⟩] [0, 1])
  (.seq (.region none [⟨some 8, .mov (.t 0), none, []⟩,
    ⟨some 9, .mov (.t 1), none, []⟩,
    ⟨some 10, .len .sl (.t 9), none, []⟩,
    ⟨some 11, .call 110 [(.t 8), (.t 10)], none, []⟩,
    ⟨some 5, .mov (.t 11), none, []⟩] [1, 5])
  (.seq (.seq (.region none [⟨some 12, .mov (.t 1), none, []⟩,
    ⟨some 13, .len .sl (.t 12), none, []⟩,
    ⟨some 14, .mov (.c (.int .i64 0)), none, []⟩] [5, 12, 13, 14])
  (.block 0 (.loop F109l0)))
  (.seq (.region none [⟨some 23, .mov (.t 5), none, []⟩,
    ⟨some 24, .call 111 [(.t 23), (.c (.int .u64 0))], none, []⟩,
    ⟨some 4, .mov (.t 24), none, []⟩] [4])
  (.ret)))), false, false, false⟩
def F110a0 : PC := (.region none [⟨some 6, .mov (.t 9), none, []⟩] [5, 6])
theorem run_F110a0 (C : Task → Option Res) (k : Nat) (fr : Fr) (σ : S) : run C k F110a0 fr σ = run C k (.region none [⟨some 6, .mov (.t 9), none, []⟩] [5, 6]) fr σ := rfl
def F110b0 : PC := (.block 1 (.region none [⟨some 10, .load false 1 (.t 5), none, []⟩,
     ⟨some 11, .mov (.t 6), none, []⟩,
     ⟨some 12, .call 111 [(.t 10), (.t 11)], none, []⟩,
     ⟨none, .store 1 (.t 5) (.t 12), none, []⟩] []))
theorem run_F110b0 (C : Task → Option Res) (k : Nat) (fr : Fr) (σ : S) : run C k F110b0 fr σ = run C k (.block 1 (.region none [⟨some 10, .load false 1 (.t 5), none, []⟩,
     ⟨some 11, .mov (.t 6), none, []⟩,
     ⟨some 12, .call 111 [(.t 10), (.t 11)], none, []⟩,
     ⟨none, .store 1 (.t 5) (.t 12), none, []⟩] [])) fr σ := rfl
theorem flat_F110a0 : F110a0.flat = true := rfl
theorem flat_F110b0 : F110b0.flat = true := rfl
/-- arenanet/hash64.begin -/
def F110 : PFun := ⟨2, [.tmp 4],
  .seq (.region none [⟨some 4, .mov (.c (.int .u64 0)), none, []⟩] [0, 1])
  (.seq (.region none [⟨some 5, .alloc [(.lit (.int .u64 0))], none, []⟩] [0, 1, 5])
  (.seq (.seq (.region none [⟨some 7, .mov (.t 0), none, []⟩,
    ⟨some 8, .call 112 [(.t 7)], none, []⟩] [0, 1, 5, 8])
  (.block 0 (.range (.t 8) [9] F110a0 F110b0)))
  (.seq (.region none [⟨some 13, .load false 1 (.t 5), none, []⟩,
    ⟨some 14, .mov (.t 0), none, []⟩,
    ⟨some 15, .len .str (.t 14), none, []⟩,
    ⟨some 16, .conv (.int .u64) (.t 15), none, []⟩,
    ⟨some 17, .call 111 [(.t 13), (.t 16)], none, []⟩,
    ⟨some 18, .mov (.t 1), none, []⟩,
    ⟨some 19, .conv (.int .u64) (.t 18), none, []⟩,
    ⟨some 20, .call 111 [(.t 17), (.t 19)], none, []⟩,
    ⟨some 4, .mov (.t 20), none, []⟩] [4])
  (.ret)))), false, false, false⟩
/-- arenanet/hash64.mix -/
def F111 : PFun := ⟨2, [.tmp 4],
  .seq (.region none [⟨some 4, .mov (.c (.int .u64 0)), none, []⟩] [0, 1])
  (.seq (.region none [⟨some 6, .mov (.t 0), none, []⟩,
    ⟨some 7, .mov (.t 1), none, []⟩,
    ⟨some 8, .bin .xor (.t 6) (.t 7), none, []⟩,
    ⟨some 9, .bin .mul (.t 8) (.c (.int .u64 11400714819323198485)), none, []⟩,
    ⟨some 5, .mov (.t 9), none, []⟩] [5])
  (.seq (.region none [⟨some 10, .mov (.t 5), none, []⟩,
    ⟨some 11, .mov (.t 5), none, []⟩,
    ⟨some 12, .bin .shr (.t 11) (.c (.int .u64 32)), none, []⟩,
    ⟨some 13, .bin .xor (.t 10) (.t 12), none, []⟩,
    ⟨some 4, .mov (.t 13), none, []⟩] [4])
  (.ret))), false, false, false⟩
/-- arenanet/hash64.words[string] -/
def F112 : PFun := ⟨1, [.tmp 2],
  .seq (.region none [⟨some 1, .box (.t 0), none, []⟩,
    ⟨some 2, .mov (.c .nilFunc), none, []⟩] [1])
  (.seq (.region none [⟨some 3, .mkfn 113 [] [(.t 1)], none, []⟩,
    ⟨some 2, .mov (.t 3), none, []⟩] [2])
  (.ret)), false, false, false⟩
def F113l1 : PC := (.seq (.seq (.region none [⟨some 12, .mov (.t 5), none, []⟩,
      ⟨some 13, .bin .lss (.t 12) (.c (.int .i64 8)), none, []⟩,
      ⟨some 14, .mov (.t 13), none, []⟩,
      ⟨some 15, .mov (.t 3), some (14, true), []⟩,
      ⟨some 16, .mov (.t 5), some (14, true), []⟩,
      ⟨some 17, .bin .add (.t 15) (.t 16), some (14, true), []⟩,
      ⟨some 18, .load false 1 (.t 1), some (14, true), []⟩,
      ⟨some 19, .len .str (.t 18), some (14, true), []⟩,
      ⟨some 20, .bin .lss (.t 17) (.t 19), some (14, true), []⟩,
      ⟨some 21, .pick (.t 14) (.t 20) (.c (.bool false)), none, []⟩] [0, 1, 3, 4, 5, 21])
    (.cond (.t 21)
     (.skip)
     (.exit 2)))
    (.seq (.block 3 (.region none [⟨some 24, .mov (.t 4), none, []⟩,
      ⟨some 25, .load false 1 (.t 1), none, []⟩,
      ⟨some 26, .mov (.t 3), none, []⟩,
      ⟨some 27, .mov (.t 5), none, []⟩,
      ⟨some 28, .bin .add (.t 26) (.t 27), none, []⟩,
      ⟨some 29, .indexS (.t 25) (.t 28), none, []⟩,
      ⟨some 30, .conv (.int .u64) (.t 29), none, []⟩,
      ⟨some 31, .mov (.t 5), none, []⟩,
      ⟨some 32, .bin .mul (.c (.int .i64 8)) (.t 31), none, []⟩,
      ⟨some 33, .bin .shl (.t 30) (.t 32), none, []⟩,
      ⟨some 34, .bin .or (.t 24) (.t 33), none, []⟩,
      ⟨some 4, .mov (.t 34), none, []⟩] [0, 1, 3, 4, 5]))
    (.region none [⟨some 22, .mov (.t 5), none, []⟩,
      ⟨some 23, .bin .add (.t 22) (.c (.int .i64 1)), none, []⟩,
      ⟨some 5, .mov (.t 23), none, []⟩] [0, 1, 3, 4, 5])))
theorem run_F113l1 (C : Task → Option Res) (k : Nat) (fr : Fr) (σ : S) : run C k F113l1 fr σ = run C k (.seq (.seq (.region none [⟨some 12, .mov (.t 5), none, []⟩,
      ⟨some 13, .bin .lss (.t 12) (.c (.int .i64 8)), none, []⟩,
      ⟨some 14, .mov (.t 13), none, []⟩,
      ⟨some 15, .mov (.t 3), some (14, true), []⟩,
      ⟨some 16, .mov (.t 5), some (14, true), []⟩,
      ⟨some 17, .bin .add (.t 15) (.t 16), some (14, true), []⟩,
      ⟨some 18, .load false 1 (.t 1), some (14, true), []⟩,
      ⟨some 19, .len .str (.t 18), some (14, true), []⟩,
      ⟨some 20, .bin .lss (.t 17) (.t 19), some (14, true), []⟩,
      ⟨some 21, .pick (.t 14) (.t 20) (.c (.bool false)), none, []⟩] [0, 1, 3, 4, 5, 21])
    (.cond (.t 21)
     (.skip)
     (.exit 2)))
    (.seq (.block 3 (.region none [⟨some 24, .mov (.t 4), none, []⟩,
      ⟨some 25, .load false 1 (.t 1), none, []⟩,
      ⟨some 26, .mov (.t 3), none, []⟩,
      ⟨some 27, .mov (.t 5), none, []⟩,
      ⟨some 28, .bin .add (.t 26) (.t 27), none, []⟩,
      ⟨some 29, .indexS (.t 25) (.t 28), none, []⟩,
      ⟨some 30, .conv (.int .u64) (.t 29), none, []⟩,
      ⟨some 31, .mov (.t 5), none, []⟩,
      ⟨some 32, .bin .mul (.c (.int .i64 8)) (.t 31), none, []⟩,
      ⟨some 33, .bin .shl (.t 30) (.t 32), none, []⟩,
      ⟨some 34, .bin .or (.t 24) (.t 33), none, []⟩,
      ⟨some 4, .mov (.t 34), none, []⟩] [0, 1, 3, 4, 5]))
    (.region none [⟨some 22, .mov (.t 5), none, []⟩,
      ⟨some 23, .bin .add (.t 22) (.c (.int .i64 1)), none, []⟩,
      ⟨some 5, .mov (.t 23), none, []⟩] [0, 1, 3, 4, 5]))) fr σ := rfl
def F113l0 : PC := (.seq (.seq (.region none [⟨some 6, .mov (.t 3), none, []⟩,
     ⟨some 7, .load false 1 (.t 1), none, []⟩,
     ⟨some 8, .len .str (.t 7), none, []⟩,
     ⟨some 9, .bin .lss (.t 6) (.t 8), none, []⟩] [0, 1, 3, 9])
   (.cond (.t 9)
    (.skip)
    (.exit 0)))
   (.seq (.block 1 (.seq (.region none [⟨some 4, .mov (.c (.int .u64 0)), none, []⟩] [0, 1, 3, 4])
   (.seq (.seq (.region none [⟨some 5, .mov (.c (.int .i64 0)), none, []⟩] [0, 1, 3, 4, 5])
   (.block 2 (.loop F113l1)))
   (.seq (.region none [⟨some 35, .mov (.t 0), none, []⟩,
     ⟨some 36, .mov (.t 4), none, []⟩,
     ⟨some 37, .callv (.t 35) [(.t 36)], none, []⟩,
     ⟨some 38, .un .not (.t 37), none, []⟩] [0, 1, 3, 38])
   (.cond (.t 38)
    (.ret)
    (.skip))))))
   (.region none [⟨some 10, .mov (.t 3), none, []⟩,
     ⟨some 11, .bin .add (.t 10) (.c (.int .i64 8)), none, []⟩,
     ⟨some 3, .mov (.t 11), none, []⟩] [0, 1, 3])))
theorem run_F113l0 (C : Task → Option Res) (k : Nat) (fr : Fr) (σ : S) : run C k F113l0 fr σ = run C k (.seq (.seq (.region none [⟨some 6, .mov (.t 3), none, []⟩,
     ⟨some 7, .load false 1 (.t 1), none, []⟩,
     ⟨some 8, .len .str (.t 7), none, []⟩,
     ⟨some 9, .bin .lss (.t 6) (.t 8), none, []⟩] [0, 1, 3, 9])
   (.cond (.t 9)
    (.skip)
    (.exit 0)))
   (.seq (.block 1 (.seq (.region none [⟨some 4, .mov (.c (.int .u64 0)), none, []⟩] [0, 1, 3, 4])
   (.seq (.seq (.region none [⟨some 5, .mov (.c (.int .i64 0)), none, []⟩] [0, 1, 3, 4, 5])
   (.block 2 (.loop F113l1)))
   (.seq (.region none [⟨some 35, .mov (.t 0), none, []⟩,
     ⟨some 36, .mov (.t 4), none, []⟩,
     ⟨some 37, .callv (.t 35) [(.t 36)], none, []⟩,
     ⟨some 38, .un .not (.t 37), none, []⟩] [0, 1, 3, 38])
   (.cond (.t 38)
    (.ret)
    (.skip))))))
   (.region none [⟨some 10, .mov (.t 3), none, []⟩,
     ⟨some 11, .bin .add (.t 10) (.c (.int .i64 8)), none, []⟩,
     ⟨some 3, .mov (.t 11), none, []⟩] [0, 1, 3]))) fr σ := rfl
/-- arenanet/hash64.words[string]$1 -/
def F113 : PFun := ⟨2, [],
  .seq (.region none [⟨some 3, .mov (.c (.int .i64 0)), none, []⟩] [0, 1, 3])
  (.block 0 (.loop F113l0)), false, false, false⟩
/-- (*arenanet/cellmem.Mem).Set -/
def F114 : PFun := ⟨3, [],
  .seq (.seq (.region none [⟨some 6, .mov (.t 0), none, []⟩,
    ⟨some 7, .mov (.t 1), none, []⟩,
    ⟨some 8, .call 62 [(.t 6), (.t 7)], none, []⟩,
    ⟨some 9, .un .not (.t 8), none, []⟩] [0, 1, 2, 9])
  (.cond (.t 9)
   (.ret)
   (.skip)))
  (.seq (.region (some []) [⟨some 10, .mov (.t 0), none, []⟩,
    ⟨some 11, .mov (.t 0), none, []⟩,
    ⟨some 12, .nilchk (.t 11), none, []⟩,
    ⟨some 13, .fieldAddr 1 (.t 12), none, []⟩,
    ⟨some 14, .load false 1 (.t 13), none, []⟩,
    ⟨some 15, .mov (.t 1), none, []⟩,
    ⟨some 16, .mov (.t 0), none, []⟩,
    ⟨some 17, .nilchk (.t 16), none, []⟩,
    ⟨some 18, .fieldAddr 0 (.t 17), none, []⟩,
    ⟨some 19, .load false 1 (.t 18), none, []⟩,
    ⟨some 20, .mov (.t 1), none, []⟩,
    ⟨some 21, .indexAddr 1 (.t 19) (.t 20), none, []⟩,
    ⟨some 22, .load false 1 (.t 21), none, []⟩,
    ⟨some 23, .build [(.lit (.int .i64 0)), (.lit (.int .i64 0))] [(0, 1, (.t 15)), (1, 1, (.t 22))], none, []⟩,
    ⟨some 24, .bslice 1 [(.lit (.int .i64 0)), (.lit (.int .i64 0))] [(0, 2, (.t 23))], none, []⟩,
    ⟨some 25, .append 2 16 (.t 14) (.t 24), none, []⟩,
    ⟨some 26, .nilchk (.t 10), none, []⟩,
    ⟨some 27, .fieldAddr 1 (.t 26), none, []⟩,
    ⟨none, .store 1 (.t 27) (.t 25), none, []⟩] [0, 1, 2])
  (.region none [⟨some 28, .mov (.t 0), none, []⟩,
    ⟨some 29, .nilchk (.t 28), none, []⟩,
    ⟨some 30, .fieldAddr 0 (.t 29), none, []⟩,
    ⟨some 31, .load false 1 (.t 30), none, []⟩,
    ⟨some 32, .mov (.t 1), none, []⟩,
    ⟨some 33, .mov (.t 2), none, []⟩,
    ⟨some 34, .indexAddr 1 (.t 31) (.t 32), none, []⟩,
    ⟨none, .store 1 (.t 34) (.t 33), none, []⟩] [])), false, false, false⟩
/-- gosem.cut.vars -/
def F115 : PFun := ⟨0, [],
  .region none [⟨some 0, .build [(.lit (.int .i64 0)), (.lit (.int .i64 0)), (.lit (.int .i64 0))] [(0, 1, (.c (.int .i64 0))), (1, 1, (.c (.int .i64 1))), (2, 1, (.c (.int .i64 0)))], none, []⟩,
    ⟨some 1, .build [(.lit (.int .i64 0)), (.lit (.int .i64 0)), (.lit (.int .i64 0))] [(0, 1, (.c (.int .i64 0))), (1, 1, (.c (.int .i64 1))), (2, 1, (.c (.int .i64 16)))], none, []⟩,
    ⟨some 2, .build [(.lit (.int .i64 0)), (.lit (.int .i64 0)), (.lit (.int .i64 0))] [(0, 1, (.c (.int .i64 1))), (1, 1, (.c (.int .i64 0))), (2, 1, (.c (.int .i64 16)))], none, []⟩,
    ⟨some 3, .build [(.lit (.int .i64 0)), (.lit (.int .i64 0)), (.lit (.int .i64 0))] [(0, 1, (.c (.int .i64 1))), (1, 1, (.c (.int .i64 1))), (2, 1, (.c (.int .i64 8)))], none, []⟩,
    ⟨some 4, .build [(.lit (.int .i64 0)), (.lit (.int .i64 0)), (.lit (.int .i64 0))] [(0, 1, (.c (.int .i64 2))), (1, 1, (.c (.int .i64 0))), (2, 1, (.c (.int .i64 8)))], none, []⟩,
    ⟨some 5, .build [(.lit (.int .i64 0)), (.lit (.int .i64 0)), (.lit (.int .i64 0))] [(0, 1, (.c (.int .i64 0))), (1, 1, (.c (.int .i64 1))), (2, 1, (.c (.int .i64 0)))], none, []⟩,
    ⟨some 6, .build [(.lit (.int .i64 0)), (.lit (.int .i64 0)), (.lit (.int .i64 0))] [(0, 1, (.c (.int .i64 0))), (1, 1, (.c (.int .i64 1))), (2, 1, (.c (.int .i64 0)))], none, []⟩,
    ⟨some 7, .build [(.lit (.int .i64 0)), (.lit (.int .i64 0)), (.lit (.int .i64 0))] [(0, 1, (.c (.int .i64 0))), (1, 1, (.c (.int .i64 1))), (2, 1, (.c (.int .i64 0)))], none, []⟩,
    ⟨some 8, .build [(.lit (.int .i64 0)), (.lit (.int .i64 0)), (.lit (.int .i64 0))] [(0, 1, (.c (.int .i64 2))), (1, 1, (.c (.int .i64 1))), (2, 1, (.c (.int .i64 0)))], none, []⟩,
    ⟨some 9, .build [(.lit (.int .i64 0)), (.lit (.int .i64 0)), (.lit (.int .i64 0))] [(0, 1, (.c (.int .i64 2))), (1, 1, (.c (.int .i64 1))), (2, 1, (.c (.int .i64 0)))], none, []⟩,
    ⟨some 10, .build [(.lit (.int .i64 0)), (.lit (.int .i64 0)), (.lit (.int .i64 0))] [(0, 1, (.c (.int .i64 2))), (1, 1, (.c (.int .i64 1))), (2, 1, (.c (.int .i64 0)))], none, []⟩,
    ⟨some 11, .build [(.lit (.int .i64 0)), (.lit (.int .i64 0)), (.lit (.int .i64 0))] [(0, 1, (.c (.int .i64 2))), (1, 1, (.c (.int .i64 1))), (2, 1, (.c (.int .i64 0)))], none, []⟩,
    ⟨some 12, .build [(.lit (.int .i64 0)), (.lit (.int .i64 0)), (.lit (.int .i64 0))] [(0, 1, (.c (.int .i64 1))), (1, 1, (.c (.int .i64 1))), (2, 1, (.c (.int .i64 0)))], none, []⟩,
    ⟨some 13, .build [(.lit (.int .i64 0)), (.lit (.int .i64 0)), (.lit (.int .i64 0))] [(0, 1, (.c (.int .i64 2))), (1, 1, (.c (.int .i64 1))), (2, 1, (.c (.int .i64 0)))], none, []⟩,
    ⟨some 14, .build [(.lit (.int .i64 0)), (.lit (.int .i64 0)), (.lit (.int .i64 0))] [(0, 1, (.c (.int .i64 2))), (1, 1, (.c (.int .i64 1))), (2, 1, (.c (.int .i64 0)))], none, []⟩,
    ⟨some 15, .build [(.lit (.int .i64 0)), (.lit (.int .i64 0)), (.lit (.int .i64 0))] [(0, 1, (.c (.int .i64 2))), (1, 1, (.c (.int .i64 1))), (2, 1, (.c (.int .i64 0)))], none, []⟩,
    ⟨some 16, .build [(.lit (.int .i64 0)), (.lit (.int .i64 0)), (.lit (.int .i64 0))] [(0, 1, (.c (.int .i64 1))), (1, 1, (.c (.int .i64 1))), (2, 1, (.c (.int .i64 0)))], none, []⟩,
    ⟨some 17, .build [(.lit (.int .i64 0)), (.lit (.int .i64 0)), (.lit (.int .i64 0))] [(0, 1, (.c (.int .i64 0))), (1, 1, (.c (.int .i64 0))), (2, 1, (.c (.int .i64 0)))], none, []⟩,
    ⟨some 18, .build [(.lit (.int .i64 0)), (.lit (.int .i64 0)), (.lit (.int .i64 0))] [(0, 1, (.c (.int .i64 1))), (1, 1, (.c (.int .i64 0))), (2, 1, (.c (.int .i64 0)))], none, []⟩,
    ⟨some 19, .build [(.lit (.int .i64 0)), (.lit (.int .i64 0)), (.lit (.int .i64 0))] [(0, 1, (.c (.int .i64 2))), (1, 1, (.c (.int .i64 0))), (2, 1, (.c (.int .i64 0)))], none, []⟩,
    ⟨some 20, .build [(.lit (.int .i64 0)), (.lit (.int .i64 0)), (.lit (.int .i64 0))] [(0, 1, (.c (.int .i64 0))), (1, 1, (.c (.int .i64 0))), (2, 1, (.c (.int .i64 0)))], none, []⟩,
    ⟨some 21, .build [(.lit (.int .i64 0)), (.lit (.int .i64 0)), (.lit (.int .i64 0)), (.lit (.int .i64 0)), (.lit (.int .i64 0)), (.lit (.int .i64 0)), (.lit (.int .i64 0)), (.lit (.int .i64 0)), (.lit (.int .i64 0)), (.lit (.int .i64 0)), (.lit (.int .i64 0)), (.lit (.int .i64 0)), (.lit (.int .i64 0)), (.lit (.int .i64 0)), (.lit (.int .i64 0)), (.lit (.int .i64 0)), (.lit (.int .i64 0)), (.lit (.int .i64 0)), (.lit (.int .i64 0)), (.lit (.int .i64 0)), (.lit (.int .i64 0)), (.lit (.int .i64 0)), (.lit (.int .i64 0)), (.lit (.int .i64 0)), (.lit (.int .i64 0)), (.lit (.int .i64 0)), (.lit (.int .i64 0)), (.lit (.int .i64 0)), (.lit (.int .i64 0)), (.lit (.int .i64 0)), (.lit (.int .i64 0)), (.lit (.int .i64 0)), (.lit (.int .i64 0)), (.lit (.int .i64 0)), (.lit (.int .i64 0)), (.lit (.int .i64 0)), (.lit (.int .i64 0)), (.lit (.int .i64 0)), (.lit (.int .i64 0)), (.lit (.int .i64 0)), (.lit (.int .i64 0)), (.lit (.int .i64 0)), (.lit (.int .i64 0)), (.lit (.int .i64 0)), (.lit (.int .i64 0)), (.lit (.int .i64 0)), (.lit (.int .i64 0)), (.lit (.int .i64 0)), (.lit (.int .i64 0)), (.lit (.int .i64 0)), (.lit (.int .i64 0)), (.lit (.int .i64 0)), (.lit (.int .i64 0)), (.lit (.int .i64 0)), (.lit (.int .i64 0)), (.lit (.int .i64 0)), (.lit (.int .i64 0)), (.lit (.int .i64 0)), (.lit (.int .i64 0)), (.lit (.int .i64 0)), (.lit (.int .i64 0)), (.lit (.int .i64 0)), (.lit (.int .i64 0)), (.lit (.int .i64 0)), (.lit (.int .i64 0)), (.lit (.int .i64 0))] [(3, 3, (.t 0)), (6, 3, (.t 1)), (9, 3, (.t 2)), (12, 3, (.t 3)), (15, 3, (.t 4)), (18, 3, (.t 5)), (21, 3, (.t 6)), (24, 3, (.t 7)), (27, 3, (.t 8)), (30, 3, (.t 9)), (33, 3, (.t 10)), (36, 3, (.t 11)), (39, 3, (.t 12)), (42, 3, (.t 13)), (45, 3, (.t 14)), (48, 3, (.t 15)), (51, 3, (.t 16)), (54, 3, (.t 17)), (57, 3, (.t 18)), (60, 3, (.t 19)), (63, 3, (.t 20))], none, []⟩,
    ⟨none, .store 66 (.g G_arenanet_vm_effects) (.t 21), none, []⟩] [], false, false, false⟩
def prog16 : Nat → Option PFun
  | 40 => some F40
  | 41 => some F41
  | 42 => some F42
  | 43 => some F43
  | 44 => some F44
  | 45 => some F45
  | 46 => some F46
  | 47 => some F47
  | 48 => some F48
  | 17 => some F17
  | 49 => some F49
  | 50 => some F50
  | 51 => some F51
  | 52 => some F52
  | 53 => some F53
  | 54 => some F54
  | 55 => some F55
  | 56 => some F56
  | 57 => some F57
  | 58 => some F58
  | 59 => some F59
  | 60 => some F60
  | 61 => some F61
  | 62 => some F62
  | 63 => some F63
  | 64 => some F64
  | 65 => some F65
  | 66 => some F66
  | 67 => some F67
  | 68 => some F68
  | 1000 => some F1000
  | 69 => some F69
  | 70 => some F70
  | 71 => some F71
  | 72 => some F72
  | 73 => some F73
  | 74 => some F74
  | 75 => some F75
  | 76 => some F76
  | 77 => some F77
  | 78 => some F78
  | 79 => some F79
  | 80 => some F80
  | 81 => some F81
  | 82 => some F82
  | 83 => some F83
  | 84 => some F84
  | 85 => some F85
  | 86 => some F86
  | 87 => some F87
  | 88 => some F88
  | 89 => some F89
  | 90 => some F90
  | 91 => some F91
  | 92 => some F92
  | 93 => some F93
  | 94 => some F94
  | 95 => some F95
  | 96 => some F96
  | 97 => some F97
  | 98 => some F98
  | 99 => some F99
  | 100 => some F100
  | 101 => some F101
  | 102 => some F102
  | 103 => some F103
  | 104 => some F104
  | 105 => some F105
  | 106 => some F106
  | 107 => some F107
  | 108 => some F108
  | 109 => some F109
  | 110 => some F110
  | 111 => some F111
  | 112 => some F112
  | 113 => some F113
  | 114 => some F114
  | 115 => some F115
  | _ => none
end Go.Pm.F
end SF16
